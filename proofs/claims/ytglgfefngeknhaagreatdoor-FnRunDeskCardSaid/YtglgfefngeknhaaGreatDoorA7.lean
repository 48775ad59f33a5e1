/- Part 7 of a proof by an ideal interpreter of the code: its definitions and lemmas. Conditions: none. -/
import Derived.KernelRfl
import Derived.Test.YtglgfefngeknhaaGreatDoorA6
set_option linter.all false
set_option linter.unusedVariables false
set_option linter.unusedSimpArgs false
namespace Go.Idl
open Go
def fmx (P:Nat->Bool) (left:List Int):Nat->Int
 | 0=>-1
 | k+1=>if P k && (decide (fmx P left k < 0) || decide (left.getD (fmx P left k).toNat 0 < left.getD k 0)) then (k:Int) else fmx P left k
theorem Qcg (P:Nat->Bool) (left:List Int):∀ k,fmx P left k=-1 \/ ∃ q:Nat,q < k/\fmx P left k=q/\P q=true
 | 0=>.inl rfl
 | k+1=>by
   rw [fmx];split
   . rename_i h;simp only [Kac] at h;exact .inr ⟨k,by omega,rfl,h.1⟩
   . rcases Qcg P left k with h | ⟨q,h1,h2,h3⟩
     . exact .inl h
     . exact .inr ⟨q,by omega,h2,h3⟩
def Qzh (v:Int) (n:Nat) (done:List Int):Nat->List Int->List (Int×Int)->Option (List Int×List (Int×Int))
 | 0,left,es=>some (left,es)
 | k+1,left,es =>
   let b:=fmx (fun i=>!decide ((i:Int) ∈ done) && !has es v i) left n
   if b < 0 \/ left.getD b.toNat 0 < 1 then none else Qzh v n done k (Qe2 left b.toNat) (Qud (min v b,max v b) es)
def Qsj (n:Nat):Nat->List Int->List Int->List (Int×Int)->Option (List (Int×Int))
 | 0,_,_,es=>some es
 | m+1,left,done,es =>
   let v:=fmx (fun i=>!decide ((i:Int) ∈ done)) left n
   match Qzh v n (done++[v]) (left.getD v.toNat 0).toNat left es with
   | none=>none
   | some (left',es')=>Qsj n m left' (done++[v]) es'
theorem sr_v (d:List Int) (c:Bool) (n:Nat) (hn:n<=7) (hd:d.length=n) (left done:List Int) (hl:left.length=n) (hdl:done.length<=100) (Bs:Qad):∀ (m i:Nat),i+m=n ->
 wp tb (.loop Jed) { T:=[(0,L d c),(2,.bptr 0 0 0),(4,.bptr 0 1 0),(5,O left),(6,O done),(7,I (fmx (fun i=>!decide ((i:Int) ∈ done)) left i)),(8,I i)],loc:=Bs,M:=[] }
  (fun ex st=>ex=.exit 2/\st={ T:=[(0,L d c),(2,.bptr 0 0 0),(4,.bptr 0 1 0),(5,O left),(6,O done),(7,I (fmx (fun i=>!decide ((i:Int) ∈ done)) left n)),(8,I n),(27,Bo false)],loc:=Bs,M:=[] }):=by
 intro m
 induction m with
 | zero =>
   intro i hi;have h3:i=n:=hi;subst h3;refine jL ?_;have Hq:=hd;repeat refine go1 ?_
   exact ⟨rfl,rfl⟩
 | succ m ih =>
   intro i hi;have hin:i < n:=by omega
   have hil:i < left.length:=by omega
   have e1:=fun cc=>Qaa (Qlq done cc (i:Int) (by omega));have w2:IntKind.i64.wrap ((i:Int)+1)=((i+1:Nat):Int):=Qas (by omega);have hdt:done.take done.length=done:=Kae (Kam _);have hn2:=ih (i+1) (by omega);rw [fmx] at hn2;have gi:left.getD i 0=left[i]:=by simp [Kad,Kag hil]
   rw [gi] at hn2;have hcs:=Qcg (fun i=>!decide ((i:Int) ∈ done)) left i;generalize fmx (fun i=>!decide ((i:Int) ∈ done)) left i=b at *
   by_cases hdn:(i:Int) ∈ done
   . simp only [hdn,decide_true,Kdy,Kee,Kap,Kbs] at hn2;refine jL ?_;have Hq:=cj6 hd hin e1 hdn hdt w2;repeat refine go1 ?_
     exact hn2
   . simp only [hdn,decide_false,Bool.not_false,Kbx] at hn2;rcases hcs with rfl | ⟨q,hq,rfl,-⟩
     . simp only [show ((-1:Int) < 0) from by decide,decide_true,Bool.true_or,if_true] at hn2;refine jL ?_;have Hq:=cj6 hd hin e1 hdn hdt w2;repeat refine go1 ?_
       exact hn2
     . have hql:q < left.length:=by omega
       have hqn:q < n:=by omega
       have gq:left.getD q 0=left[q]:=by simp [Kad,Kag hql]
       have hq0:¬ (q:Int) < 0:=by omega
       simp only [hq0,decide_false,Kdz,Kax,gq,Kai] at hn2;by_cases hlt:left[q] < left[i]
       . rw [if_pos hlt] at hn2;refine jL ?_;have Hq:=Qvr hd hin hil e1 hdn hdt w2 hql hqn hl hlt;repeat refine go1 ?_
         exact hn2
       . rw [if_neg hlt] at hn2;refine jL ?_;have Hq:=Qvr hd hin hil e1 hdn hdt w2 hql hqn hl hlt;repeat refine go1 ?_
         exact hn2
theorem sr_b (d:List Int) (c:Bool) (n:Nat) (hn:n<=7) (hd:d.length=n) (left done:List Int) (hl:left.length=n) (hdl:done.length<=100) (v k:Int) (es:List (Int×Int)) (hel:es.length<=1000):∀ (m i:Nat),i+m=n ->
 wp tb (.loop Jkq) { T:=[(0,L d c),(2,.bptr 0 0 0),(4,.bptr 0 1 0),(5,O left),(6,O done),(7,I v),(9,I k),(10,I (fmx (fun i=>!decide ((i:Int) ∈ done) && !has es v i) left i)),(11,I i)],loc:=[[I 0,Z],[I n,O2 es]],M:=[] }
  (fun ex st=>ex=.exit 6/\st={ T:=[(0,L d c),(2,.bptr 0 0 0),(4,.bptr 0 1 0),(5,O left),(6,O done),(7,I v),(9,I k),(10,I (fmx (fun i=>!decide ((i:Int) ∈ done) && !has es v i) left n)),(11,I n),(65,Bo false)],loc:=[[I 0,Z],[I n,O2 es]],M:=[] }):=by
 intro m
 induction m with
 | zero =>
   intro i hi;have h3:i=n:=hi;subst h3;refine jL ?_;have Hq:=hd;repeat refine go1 ?_
   exact ⟨rfl,rfl⟩
 | succ m ih =>
   intro i hi;have hin:i < n:=by omega
   have hil:i < left.length:=by omega
   have e1:=fun cc=>Qaa (Qlq done cc (i:Int) (by omega));have e2:=fun cc=>Qaa (Qo6 n es cc v (i:Int) (by omega));have w2:IntKind.i64.wrap ((i:Int)+1)=((i+1:Nat):Int):=Qas (by omega);have hdt:done.take done.length=done:=Kae (Kam _);have het:es.take es.length=es:=Kae (Kam _);have hn2:=ih (i+1) (by omega);rw [fmx] at hn2;have gi:left.getD i 0=left[i]:=by simp [Kad,Kag hil]
   rw [gi] at hn2;have hcs:=Qcg (fun i=>!decide ((i:Int) ∈ done) && !has es v i) left i;generalize fmx (fun i=>!decide ((i:Int) ∈ done) && !has es v i) left i=b at *
   by_cases hdn:(i:Int) ∈ done
   . simp only [hdn,decide_true,Kdy,Kee,Kap,Kbs] at hn2;refine jL ?_;have Hq:=cj6 hd hin e1 hdn hdt w2;repeat refine go1 ?_
     exact hn2
   cases hha:has es v (i:Int) with
   | true =>
     simp only [hdn,hha,decide_false,Bool.not_false,Kdy,Bool.and_false,Kee,Kap,Kbs] at hn2;refine jL ?_;have Hq:=cj9 hd hin e1 e2 hdn hdt het hha w2;repeat refine go1 ?_
     exact hn2
   | false =>
     simp only [hdn,hha,decide_false,Bool.not_false,Kbx] at hn2;rcases hcs with rfl | ⟨q,hq,rfl,-⟩
     . simp only [show ((-1:Int) < 0) from by decide,decide_true,Bool.true_or,if_true] at hn2;refine jL ?_;have Hq:=cj9 hd hin e1 e2 hdn hdt het hha w2;repeat refine go1 ?_
       exact hn2
     . have hql:q < left.length:=by omega
       have hqn:q < n:=by omega
       have gq:left.getD q 0=left[q]:=by simp [Kad,Kag hql]
       have hq0:¬ (q:Int) < 0:=by omega
       simp only [hq0,decide_false,Kdz,Kax,gq,Kai] at hn2;by_cases hlt:left[q] < left[i]
       . rw [if_pos hlt] at hn2;refine jL ?_;have Hq:=cj14 hd hin hil e1 e2 hdn hdt het hha w2 hql hqn hl hlt;repeat refine go1 ?_
         exact hn2
       . rw [if_neg hlt] at hn2;refine jL ?_;have Hq:=cj14 hd hin hil e1 e2 hdn hdt het hha w2 hql hqn hl hlt;repeat refine go1 ?_
         exact hn2
def FailS (n:Nat) (st:St):Prop:=∃ B:List IV,st={ T:=[(2,.bptr 0 0 0),(3,Bo false)],loc:=[[I 0,Z],B],M:=[] }
theorem sr_l (d:List Int) (c:Bool) (n:Nat) (hn:n<=7) (hd:d.length=n) (done:List Int) (hdl:done.length<=100) (v:Nat):∀ (k:Nat) (left:List Int) (es:List (Int×Int)),left.length=n->(∀ x ∈ left,0<=x/\x<=1000)->es.length+k<=900->k<=800 ->
 wp tb (.loop Jct) { T:=[(0,L d c),(2,.bptr 0 0 0),(4,.bptr 0 1 0),(5,O left),(6,O done),(7,I v),(9,I k)],loc:=[[I 0,Z],[I n,O2 es]],M:=[] }
  (fun ex st=>match Qzh v n done k left es with
    | none=>ex=.ret/\FailS n st
    | some (left',es')=>ex=.exit 4/\st={ T:=[(0,L d c),(2,.bptr 0 0 0),(4,.bptr 0 1 0),(5,O left'),(6,O done),(7,I v),(9,I 0),(59,Bo false)],loc:=[[I 0,Z],[I n,O2 es']],M:=[] }):=by
 intro k
 induction k with
 | zero =>
   intro left es hl hb he hk;simp only [Qzh];rw [show ((0:Nat):Int)=0 from rfl];refine jL ?_
   repeat refine go0 ?_
   exact ⟨rfl,rfl⟩
 | succ k ih =>
   intro left es hl hb he hk;have hB:=sr_b d c n hn hd left done hl hdl (v:Int) ((k+1:Nat):Int) es (by omega) n 0 (by omega);rw [show ((0:Nat):Int)=0 from rfl,show fmx (fun i=>!decide ((i:Int) ∈ done) && !has es (v:Int) i) left 0=-1 from rfl] at hB;rw [Qzh]
   try simp only
   have hcs:=Qcg (fun i=>!decide ((i:Int) ∈ done) && !has es (v:Int) i) left n;generalize fmx (fun i=>!decide ((i:Int) ∈ done) && !has es (v:Int) i) left n=b at *
   have hk0:(0:Int) < (k:Int)+1:=by omega
   rcases hcs with rfl | ⟨q,hq,rfl,-⟩
   . rw [if_pos (.inl (by decide))];refine jL ?_;have Hq:=hk0;repeat refine go1 ?_
     refine Qab hB ?_;rintro ex st ⟨rfl,rfl⟩;simp only [if_true]
     repeat refine go0 ?_
     exact ⟨rfl,_,rfl⟩
   . have hql:q < left.length:=by omega
     have gq:left.getD q 0=left[q]:=by simp [Kad,Kag hql]
     have hq0:¬ (q:Int) < 0:=by omega
     have bq:=hb _ (Kao hql);rw [Kax,gq];by_cases hlt:left[q] < 1
     . rw [if_pos (.inr hlt)];refine jL ?_;have Hq:=hk0;repeat refine go1 ?_
       refine Qab hB ?_;rintro ex st ⟨rfl,rfl⟩;simp only [if_true];have Hq:=cj4 hq hql hl hlt;repeat refine go1 ?_
       exact ⟨rfl,_,rfl⟩
     . rw [if_neg (by omega)];have hd2:Qe2 left q=left.set q (left[q] - 1):=by rw [Qe2,gq]
       have e1:=fun cc=>Qaa (Jae n es cc (v:Int) (q:Int) (by omega));have w1:IntKind.i64.wrap (left[q] - 1)=left[q] - 1:=Qac (by omega) (by omega);have w3:IntKind.i64.wrap (k:Int)=(k:Int):=Qac (by omega) (by omega);have het:es.take es.length=es:=Kae (Kam _);have hn2:=ih (Qe2 left q) (Qud (min (v:Int) q,max (v:Int) q) es) (by simp [Qe2,hl]) (by
        rw [hd2];intro x hx;rcases Kch hx with hx | rfl
        . exact hb x hx
        . omega) (by rw [Qxl];omega) (by omega)
       rw [hd2] at hn2 |-;refine jL ?_;have Hq:=hk0;repeat refine go1 ?_
       refine Qab hB ?_;rintro ex st ⟨rfl,rfl⟩;simp only [if_true];have Hq:=cj8 hq hql hl hlt w1 w3 e1 het;repeat refine go1 ?_
       exact hn2
end Go.Idl
namespace Go.Idl
open Go
theorem Qnl (P:Nat->Bool) (left:List Int):∀ k,fmx P left k=-1->∀ w,w < k->P w=false
 | 0,_,w,hw=>by omega
 | k+1,h,w,hw=>by
   rw [fmx] at h;split at h
   . omega
   . rename_i h2;have h1:=Qnl P left k h;by_cases hwk:w=k
     . subst hwk;cases hp:P w with
       | false=>rfl
       | true =>
         exfalso;apply h2;rw [hp,h];rfl
     . exact h1 w (by omega)
theorem Qxk (v:Int) (n:Nat) (done:List Int):∀ (k:Nat) (left:List Int) (es:List (Int×Int)) (left':List Int) (es':List (Int×Int)),Qzh v n done k left es=some (left',es')->(∀ x ∈ left,0<=x/\x<=10) ->
 left'.length=left.length/\(∀ x ∈ left',0<=x/\x<=10)/\es'.length=es.length+k
 | 0,left,es,left',es',h,hb=>by
   simp only [Qzh,Kaa,Kab] at h;obtain ⟨rfl,rfl⟩:=h;exact ⟨rfl,hb,rfl⟩
 | k+1,left,es,left',es',h,hb=>by
   rw [Qzh] at h
   try simp only at h
   split at h
   . cases h
   . rename_i h0;obtain ⟨q1,q2,q3⟩:=Qxk v n done k _ _ _ _ h (by
      intro x hx;rcases Kch hx with hx | rfl
      . exact hb x hx
      . generalize (fmx (fun i=>!decide ((i:Int) ∈ done) && !has es v i) left n).toNat=j at *
        have hg:∀ y,left[j]? = some y->0<=y/\y<=10:=fun y hy=>hb y (Kbn hy);rw [Kad] at h0 |-;cases hq:left[j]? with
        | none=>rw [hq] at h0;simp at h0
        | some y =>
          rw [hq] at h0;have:=hg y hq;simp only [Kdf] at h0 |-;omega)
     exact ⟨by rw [q1];simp [Qe2],q2,by rw [q3,Qxl];omega⟩
theorem sr_out (d:List Int) (c:Bool) (n:Nat) (hn:n<=7) (hd:d.length=n):∀ (m:Nat) (left done:List Int) (es:List (Int×Int)),done.length+m=n->left.length=n->(∀ x ∈ left,0<=x/\x<=10)->es.length+10 * m<=800 ->
 wp tb (.loop Jil) { T:=[(0,L d c),(2,.bptr 0 0 0),(4,.bptr 0 1 0),(5,O left),(6,O done)],loc:=[[I 0,Z],[I n,O2 es]],M:=[] }
  (fun ex st=>match Qsj n m left done es with
    | none=>ex=.ret/\FailS n st
    | some es'=>ex=.exit 0/\∃ (left' done':List Int),st={ T:=[(0,L d c),(2,.bptr 0 0 0),(4,.bptr 0 1 0),(5,O left'),(6,O done'),(23,Bo false)],loc:=[[I 0,Z],[I n,O2 es']],M:=[] }):=by
 intro m
 induction m with
 | zero =>
   intro left done es hm hl hb he;rw [Qsj];have h1:¬ (done.length:Int) < n:=by omega
   have h1':¬ done.length < n:=by omega
   refine jL ?_;have Hq:=cj3 hd h1 h1';repeat refine go1 ?_
   exact ⟨rfl,left,done,rfl⟩
 | succ m ih =>
   intro left done es hm hl hb he;have h1:(done.length:Int) < n:=by omega
   have h1':done.length < n:=by omega
   have hV:=sr_v d c n hn hd left done hl (by omega) [[I 0,Z],[I n,O2 es]] n 0 (by omega);rw [show ((0:Nat):Int)=0 from rfl,show fmx (fun i=>!decide ((i:Int) ∈ done)) left 0=-1 from rfl] at hV;rw [Qsj]
   try simp only
   obtain ⟨v,hvn,hv⟩:∃ v:Nat,v < n/\fmx (fun i=>!decide ((i:Int) ∈ done)) left n=v:=by
    rcases Qcg (fun i=>!decide ((i:Int) ∈ done)) left n with h | ⟨q,h2,h3,-⟩
    . obtain ⟨w,hw1,hw2⟩:=Jzn (N:=n) (rest:=[]) (Jcl:=done) (by simp;omega);have:=Qnl _ _ _ h w hw1;simp [busy] at hw2;simp [hw2] at this
    . exact ⟨q,h2,h3⟩
   rw [hv] at hV |-;have hvl:v < left.length:=by omega
   have gv:left.getD v 0=left[v]:=by simp [Kad,Kag hvl]
   have bv:=hb _ (Kao hvl);rw [Kax,gv];obtain ⟨k,hk⟩:=Kbm bv.1;rw [hk,Kax];have hL:=sr_l d c n hn hd (done++[(v:Int)]) (by simp;omega) v k left es hl (fun x hx=>by have:=hb x hx;omega) (by omega) (by omega);have hdl:done.length+1<=274877906944:=by omega
   have hdt:done.take done.length=done:=Kae (Kam _);cases hlay:Qzh v n (done++[(v:Int)]) k left es with
   | none =>
     simp only [hlay] at hL
     try simp only
     refine jL ?_;have Hq:=cj3 hd h1 h1';repeat refine go1 ?_
     refine Qab hV ?_;rintro ex st ⟨rfl,rfl⟩;simp only [if_true];have Hq:=cj6 hdl hdt hvl hvn hl hk;repeat refine go1 ?_
     refine Qab hL ?_;rintro ex st ⟨rfl,hf⟩;exact ⟨rfl,hf⟩
   | some q =>
     obtain ⟨left',es'⟩:=q;simp only [hlay] at hL
     try simp only
     obtain ⟨q1,q2,q3⟩:=Qxk v n _ k left es left' es' hlay hb;have hn2:=ih left' (done++[(v:Int)]) es' (by simp;omega) (by omega) q2 (by omega);refine jL ?_;have Hq:=cj3 hd h1 h1';repeat refine go1 ?_
     refine Qab hV ?_;rintro ex st ⟨rfl,rfl⟩;simp only [if_true];have Hq:=cj6 hdl hdt hvl hvn hl hk;repeat refine go1 ?_
     refine Qab hL ?_;rintro ex st ⟨rfl,rfl⟩;simp only [if_true];exact Qic (by simp;with_reducible rfl) rfl (by simp;with_reducible rfl) (by simp) hn2
def Jow (d:List Int):Option (List (Int×Int)):=Qsj d.length d.length d [] []
abbrev RS (n:Nat) (o:Option (List (Int×Int))):IV:=match o with
 | none=>.tup [.agg [I 0,Z],Bo false]
 | some es=>.tup [OG n es,Bo true]
end Go.Idl
namespace Go.Idl
open Go
abbrev Jul (d:List Int):Prop:=Jow d=(Qkx d).map Qfs/\∀ es,Qkx d=some es->Qak d.length (Qfs es)=true/\Qda d.length (Qfs es)=d
end Go.Idl
namespace Go.Idl
def Qox (left:List Int) (a b:Int):Prop:=left.getD b.toNat 0 < left.getD a.toNat 0 \/ (left.getD a.toNat 0=left.getD b.toNat 0/\a < b)
theorem Qop {left:List Int} {a b c:Int} (h:Qox left a b) (k:Qox left b c):Qox left a c:=by
 simp only [Qox] at *;omega
theorem Qx6 {left:List Int} {a:Int} (h:Qox left a a):False:=by
 simp only [Qox] at h;omega
theorem Qy7 {left:List Int} {x:Int}:∀ (r B:List Int),(r.reverse++B).Pairwise (Qox left)->(∀ y ∈ r,y < x)->(∀ b ∈ B,left.getD b.toNat 0 < left.getD x.toNat 0)->(Qnn (gtD left) x r B).Pairwise (Qox left)
 | [],B,h,_,hb=>Kbe.2 ⟨fun b hb'=>.inl (hb b hb'),by simpa using h⟩
 | a::r,B,h,hr,hb=>by
   rw [Kcv,Kal] at h;unfold Qnn;split
   . rename_i hx;refine Qy7 r (a::B) h (fun y hy=>hr y (by simp [hy])) fun b hb'=>?_;rcases Kaf.1 hb' with rfl | hb'
     . simpa [gtD] using hx
     . exact hb b hb'
   . rename_i hx;have hx:left.getD x.toNat 0<=left.getD a.toNat 0:=by
      simp only [gtD,Kai] at hx;omega
     have hax:Qox left a x:=by
      have:=hr a (by simp);simp only [Qox];omega
     obtain ⟨h1,h2,h3⟩:=Kdt.1 (show (r.reverse++a::B).Pairwise (Qox left) from h);have h2:=Kbe.1 h2;refine Kdt.2 ⟨h1,?_,fun p hp q hq=>?_⟩
     . refine Kbe.2 ⟨fun q hq=>?_,Kbe.2 ⟨fun b hb'=>.inl (hb b hb'),h2.2⟩⟩;rcases Kaf.1 hq with rfl | hq
       . exact hax
       . exact h2.1 q hq
     . have h4:=h3 p hp a (by simp);rcases Kaf.1 hq with rfl | hq
       . exact h4
       . rcases Kaf.1 hq with rfl | hq
         . exact Qop h4 hax
         . exact h3 p hp q (by simp [hq])
theorem Qpd {left:List Int}:∀ (T S:List Int),S.Pairwise (Qox left)->(∀ y ∈ S,∀ x ∈ T,y < x)->T.Pairwise (fun a b:Int=>a < b)->(Qes (gtD left) S T).Pairwise (Qox left)
 | [],S,h,_,_=>h
 | x::r,S,h,hs,ht=>by
   have ht':=Kbe.1 ht;rw [Qes];refine Qpd r _ (Qy7 _ _ (by simpa using h) (fun y hy=>hs y (by simpa using hy) x (by simp)) (by simp)) (fun y hy z hz=>?_) ht'.2;have:=(Qdr (gtD left) x S.reverse []).mem_iff.1 hy;simp only [Kde,Kah,Kaf,Kaw,Kcf] at this;rcases this with h1 | rfl
   . exact hs y h1 z (by simp [hz])
   . exact ht'.1 z hz
theorem Qpx (P:Nat->Bool) (left:List Int):∀ (k q:Nat),fmx P left k=(q:Int)->∀ i,i < k->P i=true->i=q \/ Qox left q i
 | 0,q,h,i,hi,_=>by omega
 | k+1,q,h,i,hi,hp=>by
   rw [fmx] at h;split at h
   . rename_i hc;have hkq:k=q:=by omega
     subst hkq;by_cases hik:i=k
     . exact .inl hik
     . right;simp only [Kac,Kbj,Kai] at hc;rcases hc.2 with hc2 | hc2
       . rcases Qcg P left k with h1 | ⟨q1,_,h1,_⟩
         . have:=Qnl P left k h1 i (by omega);rw [hp] at this;cases this
         . rw [h1] at hc2;omega
       . rcases Qcg P left k with h1 | ⟨q1,_,h1,_⟩
         . have:=Qnl P left k h1 i (by omega);rw [hp] at this;cases this
         . rw [h1,Kax] at hc2;rcases Qpx P left k q1 h1 i (by omega) hp with rfl | h2
           . left;simpa using hc2
           . simp only [Qox,Kax] at h2 |-;omega
   . rename_i hc;by_cases hik:i=k
     . subst hik;right;simp only [hp,Kbx,Kbj,Kai,not_or] at hc;rw [h,Kax] at hc;have hqi:q < i:=by
        rcases Qcg P left i with h1 | ⟨q1,h2,h1,_⟩
        . rw [h1] at h;omega
        . rw [h1] at h;omega
       simp only [Qox,Kax];omega
     . exact Qpx P left k q h i (by omega) hp
theorem Qw8 {P:Nat->Bool} {left:List Int} {n:Nat} {i:Int} {r:List Int} (hpw:(i::r).Pairwise (Qox left)) (hin:∀ x ∈ i::r,0<=x/\x < n) (hP:∀ w:Nat,w < n->(P w=true <-> (w:Int) ∈ i::r)):fmx P left n=i:=by
 have hi:=hin i (by simp);obtain ⟨p,rfl⟩:=Kbm hi.1;have hp:P p=true:=(hP p (by omega)).2 (by simp);rcases Qcg P left n with h | ⟨q,hq,h,hPq⟩
 . have:=Qnl P left n h p (by omega);rw [hp] at this;cases this
 . rw [h];have hm:=(hP q hq).1 hPq;rcases Kaf.1 hm with h1 | h1
   . exact h1
   . have h2:=(Kbe.1 hpw).1 _ h1;rcases Qpx P left n q h p (by omega) hp with h3 | h3
     . rw [h3]
     . exact absurd (Qop h2 h3) Qx6
theorem Jlr {P:Nat->Bool} {left:List Int} {n:Nat} (hP:∀ w:Nat,w < n->P w=false):fmx P left n=-1:=by
 rcases Qcg P left n with h | ⟨q,hq,h,hPq⟩
 . exact h
 . rw [hP q hq] at hPq;cases hPq
theorem Jjy {e:Int×Int}:∀ {es:List (Int×Int)},PW es->e ∉ es->PW (Qud e es)
 | [],_,_=>by simp [Qud,PW]
 | x::r,h,hn=>by
   have h':=Kbe.1 h;rw [Qud];split
   . rename_i hx;refine Kbe.2 ⟨fun y hy=>?_,Jjy h'.2 fun hm=>hn (by simp [hm])⟩;rcases (Qx3 _ _ _).1 hy with rfl | hy
     . exact hx
     . exact h'.1 y hy
   . rename_i hx;have hxe:Qao e x=true:=by
      rcases Qcn (a:=e) (b:=x) (fun h=>hn (by simp [h])) with q | q
      . exact q
      . exact absurd q hx
     refine Kbe.2 ⟨fun y hy=>?_,h⟩;rcases Kaf.1 hy with rfl | hy
     . exact hxe
     . exact Qdw hxe (h'.1 y hy)
theorem Jf5 {e:Int×Int} {es:List (Int×Int)} (hn:es.Nodup) (he:e ∉ es):Qud e (Qfs es)=Qfs (es++[e]):=by
 have hn2:(es++[e]).Nodup:=Kan.2 ⟨hn,by simp,fun a ha b hb=>by simp at hb;subst hb;exact fun h=>he (h ▸ ha)⟩;refine Jkj (Jjy (Qpq hn) fun h=>he ((Qc5 es).mem_iff.1 h)) (Qpq hn2) fun x=>?_;rw [Qx3,(Qc5 es).mem_iff,(Qc5 _).mem_iff];simp [or_comm]
end Go.Idl
namespace Go.Idl
theorem Qyf (es:List (Int×Int)) (a b:Int):has (Qfs es) a b=has es a b:=by
 rw [has,has];exact (Qc5 es).any_eq
theorem Jk9 {v i a b:Int}:isE a b (min v i,max v i)=true <-> (a=v/\b=i) \/ (a=i/\b=v):=by
 simp only [isE,Kbj,Kac,Kai];omega
theorem Jjs (es fs:List (Int×Int)) (a b:Int):has (es++fs) a b=(has es a b || has fs a b):=by simp [has]
theorem Jr2 {es:List (Int×Int)} {v i:Int} (h:has es v i=false):(min v i,max v i) ∉ es:=fun hm=>by
 rw [has,List.any_eq_false] at h;exact h _ hm (Jk9.2 (.inl ⟨rfl,rfl⟩))
theorem Qjn {o:List Int} {i x:Int} (hi:0<=i) (hx:0<=x) (hl:x < o.length):(Qe2 o i.toNat).getD x.toNat 0=o.getD x.toNat 0 - (if x=i then 1 else 0):=by
 rw [Jkm (by omega)];by_cases h:x=i
 . subst h;simp
 . rw [if_neg h,if_neg (by omega)]
theorem iteQ {p q:Prop} [Decidable p] [Decidable q] (h:p <-> q):(if p then (1:Int) else 0)=if q then 1 else 0:=by
 by_cases hp:p
 . rw [if_pos hp,if_pos (h.1 hp)]
 . rw [if_neg hp,if_neg fun k=>hp (h.2 k)]
theorem Jrc {v:Int} {n:Nat} {done:List Int} (hv:0<=v/\v < n):∀ (k:Nat) (rest left:List Int) (es:List (Int×Int)),left.length=n->rest.Pairwise (Qox left)->(∀ x ∈ rest,0<=x/\x < n)->(∀ x ∈ left,0<=x)->es.Nodup ->
 (∀ w:Nat,w < n->(((w:Int) ∉ done/\has es v w=false) <-> (w:Int) ∈ rest)) ->
 Qzh v n done k left (Qfs es)=if k<=rest.length then (Qo5 v (rest.take k) left es).map (fun q=>(q.1,Qfs q.2)) else none
 | 0,rest,left,es,_,_,_,_,_,_=>by simp [Qzh,Qo5]
 | k+1,[],left,es,_,_,_,_,_,hc=>by
   rw [Qzh];have:fmx (fun i=>!decide ((i:Int) ∈ done) && !has (Qfs es) v i) left n=-1:=Jlr fun w hw=>by
    have:¬ ((w:Int) ∉ done/\has es v w=false):=fun h=>by have:=(hc w hw).1 h;cases this
    rw [Qyf];cases h1:has es v w <;> simp [h1] at this |-;exact this
   simp [this]
 | k+1,i::r,left,es,hl,hp,hr,hb,hn,hc=>by
   rw [Qzh];have hi:=hr i (by simp);have hm:fmx (fun i=>!decide ((i:Int) ∈ done) && !has (Qfs es) v i) left n=i:=Qw8 hp hr fun w hw=>by
    rw [Qyf,<- hc w hw];simp
   simp only [hm];have hi0:¬ i < 0:=by omega
   have hil:i.toNat < left.length:=by omega
   have g:left.getD i.toNat 0=left[i.toNat]:=by simp [Kad,Kag hil]
   have g0:0<=left.getD i.toNat 0:=by rw [g];exact hb _ (Kao _)
   rw [Kbc,Kfg,Qo5];by_cases hz:left.getD i.toNat 0=0
   . rw [if_pos (.inr (by omega)),if_pos hz];simp
   . rw [if_neg (by omega),if_neg hz];have hhas:has es v i=false:=by
      have:=(hc i.toNat (by omega)).2 (by rw [Int.toNat_of_nonneg hi.1];simp);rw [Int.toNat_of_nonneg hi.1] at this;exact this.2
     have hne:=Jr2 hhas;rw [Jf5 hn hne];have hp':=Kbe.1 hp;have hri:∀ x ∈ r,x ≠ i:=fun x hx h=>by have:=hp'.1 x hx;rw [h] at this;exact Qx6 this
     have ih:=Jrc hv k r (Qe2 left i.toNat) (es++[(min v i,max v i)]) (by simp [Qe2,hl]) ?_ (fun x hx=>hr x (by simp [hx])) ?_ ?_ ?_ (done:=done)
     . rw [ih];simp only [Nat.succ_le_succ_iff,Nat.add_le_add_iff_right]
     . refine hp'.2.imp_of_mem fun {a b} ha hb' hab=>?_;have h1:=hr a (by simp [ha]);have h2:=hr b (by simp [hb']);rw [Qox,Qjn hi.1 h1.1 (by omega),Qjn hi.1 h2.1 (by omega),if_neg (hri a ha),if_neg (hri b hb')];simpa [Qox] using hab
     . intro x hx;rcases Kch hx with hx | rfl
       . exact hb x hx
       . omega
     . exact Kan.2 ⟨hn,by simp,fun a ha b hb=>by simp at hb;subst hb;exact fun h=>hne (h ▸ ha)⟩
     . intro w hw;have h1:=hc w hw;have h2:has [(min v i,max v i)] v w=true <-> (w:Int)=i:=by
        rw [has,List.any_cons,List.any_nil,Bool.or_false,Jk9];omega
       rw [Jjs];have h3:(w:Int) ∈ r <-> (w:Int) ∈ i::r/\(w:Int) ≠ i:=by
        constructor
        . exact fun h=>⟨by simp [h],hri _ h⟩
        . rintro ⟨h,h'⟩;rcases Kaf.1 h with h | h
          . exact absurd h h'
          . exact h
       rw [h3,<- h1];cases h4:has [(min v i,max v i)] v w
       . have:¬ (w:Int)=i:=fun h=>by rw [h2.2 h] at h4;cases h4
         simp [this]
       . simp [h2.1 h4]
termination_by k=>k
theorem Jfu (n:Nat):∀ (m:Nat) (left todo done:List Int) (es:List (Int×Int)),left.length=n->(∀ x ∈ left,0<=x/\x<=1000)->todo.length=m->todo.Pairwise (fun a b:Int=>a < b)->(∀ x ∈ todo,0<=x/\x < n) ->
 (∀ w:Nat,w < n->((w:Int) ∉ done <-> (w:Int) ∈ todo))->es.Nodup->(∀ a ∈ todo,∀ b ∈ todo,has es a b=false) ->
 Qsj n m left done (Qfs es)=(Qkw m left todo es).map Qfs
 | 0,left,todo,done,es,_,_,_,_,_,_,_,_=>rfl
 | m+1,left,todo,done,es,hl,hb,htl,htp,htb,hd,hn,hh=>by
   rw [Qsj,Qkw];have hperm:=Qb5 (gtD left) todo [];cases hs:Qes (gtD left) [] todo with
   | nil=>rw [hs] at hperm;have:=hperm.length_eq;simp at this;omega
   | cons v r =>
     rw [hs,Kaq] at hperm;have hlex:=Qpd (left:=left) todo [] .nil (by simp) htp;rw [hs] at hlex;have hv:v ∈ todo:=hperm.mem_iff.1 (by simp);have hvb:=htb v hv;have hmx:fmx (fun i=>!decide ((i:Int) ∈ done)) left n=v:=Qw8 hlex (fun x hx=>htb x (hperm.mem_iff.1 hx)) fun w hw=>by
      rw [hperm.mem_iff,<- hd w hw];simp
     simp only [hmx];obtain ⟨t2,ht2⟩:∃ t2,t2=todo.filter fun x=>!decide (x=v):=⟨_,rfl⟩
     rw [<- ht2];have hm2:∀ x,x ∈ t2 <-> x ∈ todo/\x ≠ v:=fun x=>by rw [ht2,Kbr];simp
     have ht2p:t2.Pairwise (fun a b:Int=>a < b):=by rw [ht2];exact htp.filter _
     have ht2l:t2.length=m:=by
      have h1:=Qhr (fun x=>decide (x=v)) todo;have h2:(todo.filter fun x=>decide (x=v)).length=1:=by
       have hnd:todo.Nodup:=htp.imp fun h=>by omega
       have:=List.nodup_iff_count.1 hnd v;have h3:=List.count_pos_iff.2 hv;rw [<- List.countP_eq_length_filter];have h4:todo.countP (fun x=>decide (x=v))=todo.count v:=by
        rw [List.count];exact List.countP_congr fun x _=>by simp
       omega
      rw [<- ht2] at h1;omega
     have hgv:left.getD v.toNat 0=left[v.toNat]'(by omega):=by simp [Kad,Kag (show v.toNat < left.length by omega)]
     have hk0:0<=left.getD v.toNat 0:=by rw [hgv];exact (hb _ (Kao _)).1
     obtain ⟨k,hk⟩:=Kbm hk0;have hp2:=Qb5 (gtD left) t2 [];rw [Kaq] at hp2;rw [hk,Kax];have hlay:=Jrc (done:=done++[v]) hvb k (Qes (gtD left) [] t2) left es hl (Qpd _ _ .nil (by simp) ht2p) (fun x hx=>htb x ((hm2 x).1 (hp2.mem_iff.1 hx)).1) (fun x hx=>(hb x hx).1) hn (fun w hw=>by
      rw [hp2.mem_iff,hm2,<- hd w hw];constructor
      . rintro ⟨h1,_⟩;simp only [Kah,Kce,not_or] at h1;exact h1
      . rintro ⟨h1,h2⟩;exact ⟨by simp [h1,h2],hh v hv _ ((hd w hw).1 h1)⟩)
     rw [hlay,hp2.length_eq,ht2l];by_cases hkm:k<=m
     . rw [if_pos hkm,if_neg (by omega),Quo];cases hli:Qo5 v ((Qes (gtD left) [] t2).take k) left es with
       | none=>rfl
       | some q =>
         obtain ⟨left',es'⟩:=q;obtain ⟨k1,k2,k3⟩:=Qky v _ _ _ _ _ hli hb;have htm:∀ x ∈ (Qes (gtD left) [] t2).take k,x ∈ t2:=fun x hx=>hp2.mem_iff.1 (Kbv hx);have htn:((Qes (gtD left) [] t2).take k).Nodup:=(hp2.nodup_iff.2 (ht2p.imp fun h=>by omega)).sublist (List.take_sublist _ _);refine Jfu n m left' t2 (done++[v]) es' (by omega) k2 ht2l ht2p (fun x hx=>htb x ((hm2 x).1 hx).1) (fun w hw=>?_) ?_ ?_
         . rw [hm2,<- hd w hw];simp
         . rw [k3];refine Kan.2 ⟨hn,?_,?_⟩
           . rw [List.Nodup,List.pairwise_map];refine List.Pairwise.imp_of_mem (fun {i j} hi hj hij he=>?_) htn;have h1:=((hm2 i).1 (htm i hi)).2;have h2:=((hm2 j).1 (htm j hj)).2;simp only [Kab] at he;omega
           . intro a ha b hb' hab;subst hab;obtain ⟨i,hi,rfl⟩:=Kck.1 hb';exact Jr2 (hh v hv i ((hm2 i).1 (htm i hi)).1) ha
         . intro a ha b hb';have h1:=(hm2 a).1 ha;have h2:=(hm2 b).1 hb';rw [k3,Jjs,hh a h1.1 b h2.1,Kdz,has,List.any_eq_false];intro e he;obtain ⟨i,hi,rfl⟩:=Kck.1 he;rw [Jk9];omega
     . rw [if_neg hkm,if_pos (by omega)];rfl
theorem Qlo (n:Nat):(Qbx n (-1)).Pairwise (fun a b:Int=>a < b):=by
 rw [Qbe,List.pairwise_map];exact (List.pairwise_lt_range).imp fun h=>by omega
theorem Qi0 {n:Nat} {x:Int}:x ∈ Qbx n (-1) <-> 0<=x/\x < n:=by
 rw [Qbe,Kck];constructor
 . rintro ⟨v,hv,rfl⟩;have:=Kaz.1 hv;omega
 . intro h;exact ⟨x.toNat,Kaz.2 (by omega),by omega⟩
theorem Qye {d:List Int} (hb:∀ x ∈ d,0<=x/\x<=1000):Jow d=(Qkx d).map Qfs :=
 Jfu d.length d.length d (Qbx d.length (-1)) [] [] rfl hb (by rw [Qbe];simp) (Qlo _) (fun x hx=>Qi0.1 hx) (fun w hw=>by rw [Qi0];simp;omega) .nil (by simp [has])
theorem Qxb {n:Nat} (v:Int):∀ (Qdb left:List Int) (es:List (Int×Int)) (left':List Int) (es':List (Int×Int)),Qo5 v Qdb left es=some (left',es')->Qdb.Nodup->left.length=n->(∀ x ∈ Qdb,0<=x/\x < n) ->
 ∀ x:Int,0<=x->x < n->left'.getD x.toNat 0=left.getD x.toNat 0 - (if x ∈ Qdb then 1 else 0)
 | [],left,es,left',es',h,_,_,_,x,_,_=>by
   simp only [Qo5,Kaa,Kab] at h;rw [h.1];simp
 | i::r,left,es,left',es',h,hn,hl,hb,x,h0,h1=>by
   rw [Qo5] at h;split at h
   . cases h
   have hn':=Kbq.1 hn;have hi:=hb i (by simp);rw [Qxb v r _ _ _ _ h hn'.2 (by simp [Qe2,hl]) (fun x hx=>hb x (by simp [hx])) x h0 h1,Qjn hi.1 h0 (by omega)];by_cases hx:x=i
   . subst hx;simp [hn'.1]
   . simp [hx]
theorem Qw2 (n:Nat):∀ (m:Nat) (left todo:List Int) (es es':List (Int×Int)),Qkw m left todo es=some es'->todo.Nodup->(∀ x ∈ todo,0<=x/\x < n)->left.length=n->(∀ x ∈ left,0<=x/\x<=1000)->todo.length<=m ->
 ∀ new,es'=es++new->∀ u:Nat,(u:Int) ∈ todo->deg new u=left.getD u 0
 | 0,left,todo,es,es',h,_,_,_,_,hm,new,_,u,hu=>by
   rw [Kav.1 (by omega:todo.length=0)] at hu;cases hu
 | m+1,left,todo,es,es',h,hn,hb,hl,hle,hm,new,hnew,u,hu=>by
   rw [Qkw] at h;have hperm:=Qb5 (gtD left) todo [];cases hs:Qes (gtD left) [] todo with
   | nil =>
     rw [hs] at hperm;rw [Kav.1 (by have:=hperm.length_eq;simp at this;omega:todo.length=0)] at hu;cases hu
   | cons v r =>
     rw [hs] at h;rw [hs,Kaq] at hperm;have hv:v ∈ todo:=hperm.mem_iff.1 (by simp);have hvb:=hb v hv;simp only at h;split at h
     . cases h
     rename_i hge;obtain ⟨t2,ht2⟩:∃ t2,t2=todo.filter fun x=>!decide (x=v):=⟨_,rfl⟩
     rw [<- ht2] at h hge;have hm2:∀ x,x ∈ t2 <-> x ∈ todo/\x ≠ v:=fun x=>by rw [ht2,Kbr];simp
     have ht2n:t2.Nodup:=by rw [ht2];exact hn.filter _
     have ht2l:t2.length<=m:=by
      have h1:=Qhr (fun x=>decide (x=v)) todo;have h2:0 < (todo.filter fun x=>decide (x=v)).length:=Kev (Kbr.2 ⟨hv,by simp⟩);rw [<- ht2] at h1;omega
     have hp2:=Qb5 (gtD left) t2 [];rw [Kaq] at hp2;obtain ⟨Qdb,htops⟩:∃ Qdb,Qdb=Quo left t2 (left.getD v.toNat 0).toNat:=⟨_,rfl⟩;rw [<- htops] at h;have htm:∀ x ∈ Qdb,x ∈ t2:=fun x hx=>by rw [htops] at hx;exact hp2.mem_iff.1 (Kbv hx)
     have htn:Qdb.Nodup:=by rw [htops];exact (hp2.nodup_iff.2 ht2n).sublist (List.take_sublist _ _)
     cases hli:Qo5 v Qdb left es with
     | none=>rw [hli] at h;cases h
     | some q =>
       obtain ⟨left',es1⟩:=q;rw [hli] at h;simp only at h;obtain ⟨k1,k2,k3⟩:=Qky v _ _ _ _ _ hli hle;obtain ⟨new2,q1,q2,q3⟩:=Qhv n m left' t2 es1 es' h ht2n (fun x hx=>hb x ((hm2 x).1 hx).1);have ih:=Qw2 n m left' t2 es1 es' h ht2n (fun x hx=>hb x ((hm2 x).1 hx).1) (by omega) k2 ht2l new2 q1;have hnn:new=(Qdb.map fun i=>(min v i,max v i))++new2:=by
        have:es++new=es++((Qdb.map fun i=>(min v i,max v i))++new2):=by rw [<- hnew,q1,k3];simp
        exact List.append_cancel_left this
       rw [hnn,deg,S_app];have hvt:v ∉ Qdb:=fun h=>((hm2 v).1 (htm v h)).2 rfl;have hinc:∀ i,i ≠ v->inc u (min v i,max v i)=(if (u:Int)=v then 1 else 0)+(if (u:Int)=i then 1 else 0):=by
        intro i hi;simp only [inc];rcases Int.le_total v i with h | h
        . rw [Int.min_eq_left h,Int.max_eq_right h];congr 1
          . exact iteQ (by omega)
          . exact iteQ (by omega)
        . rw [Int.min_eq_right h,Int.max_eq_left h,Int.add_comm];congr 1
          . exact iteQ (by omega)
          . exact iteQ (by omega)
       have hsum:S (Qdb.map fun i=>(min v i,max v i)) (inc u)=(if (u:Int)=v then (Qdb.length:Int) else 0)+(if (u:Int) ∈ Qdb then 1 else 0):=by
        rw [S_map,Qfk (g:=fun i=>(if (u:Int)=v then 1 else 0)+(if (u:Int)=i then 1 else 0)) fun i hi=>hinc i fun h=>hvt (h ▸ hi),S_add,S_one htn,Jyx];split <;> simp
       rw [hsum];by_cases huv:(u:Int)=v
       . have:S new2 (inc u)=0:=by
          rw [<- Qo9 new2];refine Qfk fun e he=>?_;obtain ⟨_,a1,a2⟩:=q3 e he;have b1:=((hm2 _).1 a1).2;have b2:=((hm2 _).1 a2).2;rw [inc,if_neg (by omega),if_neg (by omega)];rfl
         rw [this,if_pos huv,if_neg (by rw [huv];exact hvt)];have hkl:Qdb.length=(left.getD v.toNat 0).toNat:=by
          rw [htops,Quo,Kas,hp2.length_eq];omega
         have hgv:left.getD v.toNat 0=left[v.toNat]'(by omega):=by simp [Kad,Kag (show v.toNat < left.length by omega)]
         have hk0:0<=left.getD v.toNat 0:=by rw [hgv];exact (hle _ (Kao _)).1
         rw [hkl,<- huv,Kax] at *
         omega
       . have h1:=ih u ((hm2 _).2 ⟨hu,huv⟩);have h2:=Qxb v _ _ _ _ _ hli htn hl (fun x hx=>hb x ((hm2 x).1 (htm x hx)).1) (u:Int) (by omega) (hb _ hu).2;rw [Kax] at h2;rw [deg] at h1;rw [h1,h2,if_neg huv];omega
theorem Qzm {d:List Int} (h7:d.length<=7) (hb:∀ x ∈ d,0<=x/\x<=1000) {es:List (Int×Int)} (h:Qkx d=some es):Qda d.length (Qfs es)=d:=by
 obtain ⟨k1,k2,k3,k4⟩:=Qpj h7 h;have h1:=Qw2 d.length _ _ _ _ _ h ((Qlo _).imp fun h=>by omega) (fun x hx=>Qi0.1 hx) rfl hb (by rw [Qbe];simp) es (by simp);rw [Qvx (fun e he=>by have:=Qeq.1 ((Qcx.1 k4).2.1 e he);omega)];refine List.ext_getElem (by simp) fun i hi hj=>?_;rw [List.getElem_map,List.getElem_range];have:=h1 i (Qi0.2 (by omega));rw [deg,S_perm (Qc5 es),<- deg,this];simp [Kad,Kag hj]
end Go.Idl
namespace Go.Idl
theorem Qqs:∀ d,Qba d=true->Jul d:=fun d hv=>by
 have hf:=Qam hv;have hb:∀ x ∈ d,0<=x/\x<=1000:=fun x hx=>by have:=hf.2 x hx;omega
 exact ⟨Qye hb,fun es h=>⟨(Qpj hf.1 h).2.2.2,Qzm hf.1 hb h⟩⟩
end Go.Idl
namespace Go.Idl
def hv:Nat->List Int->Bool
 | 0,_=>true
 | _+1,[]=>true
 | m+1,x::r=>decide (x<=r.length) && (r.take x.toNat).all (fun y=>!decide (y=0)) && hv m (fall ((r.take x.toNat).map (fun y=>y - 1)++r.drop x.toNat))
end Go.Idl
namespace Go.Idl
theorem Jep {α:Type} [DecidableEq α]:∀ {l k:List α},l.Nodup->(∀ x ∈ l,x ∈ k)->l.length<=k.length
 | [],_,_,_=>by simp
 | a::l,k,hn,hs=>by
   have hn':=Kbq.1 hn;have h1:=Jep (l:=l) (k:=k.erase a) hn'.2 (fun x hx=>(List.mem_erase_of_ne (fun h=>hn'.1 (by rw [<- h];exact hx))).2 (hs x (by simp [hx])));have h2:=List.length_erase_of_mem (hs a (by simp));have h3:0 < k.length:=Kev (hs a (by simp));simp only [Kbc];omega
def rel (n:Nat) (σ:Nat->Nat) (g:List (Int×Int)):List (Int×Int):=(prs n).filter fun e=>decide (mk (σ e.1.toNat) (σ e.2.toNat) ∈ g)
end Go.Idl
namespace Go.Idl
open Go
theorem Qkz {es:List (Int×Int)} {a b:Int}:Qn7 es a b=true <-> (min a b,max a b) ∈ es:=by
 simp [Qn7]
end Go.Idl
namespace Go.Idl
theorem Jpt {n:Nat} {es:List (Int×Int)} (h:∀ e ∈ es,e ∈ prs n) (a b:Int):has es a b=Qn7 es a b:=by
 rw [Kdq,Qkz,has,Kfb];constructor
 . rintro ⟨e,he,hi⟩;have hp:=Qeq.1 (h e he);simp only [isE,Kbj,Kac,Kai] at hi;have h2:e=(min a b,max a b):=Prod.ext (by simp only;omega) (by simp only;omega);rw [<- h2];exact he
 . intro hm;refine ⟨_,hm,?_⟩;simp only [isE,Kbj,Kac,Kai];omega
end Go.Idl
namespace Go.Idl
theorem Qjq:∀ (s:List Int) (i k:Nat),k<=i->k<=Qha s i k
 | [],_,_,_=>Kam _
 | x::q,i,k,h=>by
   rw [Qha];split
   . exact Kcp (by omega) (Qjq q (i+1) (i+1) (by omega))
   . exact Qjq q (i+1) k (by omega)
theorem Qxw:∀ (s:List Int) (i k j:Nat),k<=i->Qha s i k<=i+j->(h:j < s.length)->s[j] < (i:Int)+j
 | x::q,i,k,0,hk,hd,_=>by
   rw [Qha] at hd;by_cases hx:(i:Int)<=x
   . rw [if_pos hx] at hd;have:=Qjq q (i+1) (i+1) (by omega);omega
   . simpa using hx
 | x::q,i,k,j+1,hk,hd,h=>by
   rw [Qha] at hd;have:=Qxw q (i+1) _ j (by split <;> omega) (Kcp hd (by omega)) (by simpa using h);simp only [List.getElem_cons_succ];omega
theorem Jo8 {s:List Int} (hs:Jci s):slk s (Qee s)=(Qee s:Int) * ((Qee s:Int) - 1)+s.sum - 2 * (s.take (Qee s)).sum:=by
 have h1:((s.drop (Qee s)).map fun x:Int=>min x (Qee s:Int))=s.drop (Qee s):=by
  refine List.ext_getElem (by simp) fun j h1 h2=>?_;simp only [Kcu,Kco] at h1;rw [List.getElem_map,List.getElem_drop];have h3:=Qxw s 0 0 (Qee s) (by omega) (by rw [Qee];omega) (by omega);have h4:=Jlk hs (i:=Qee s) (j:=Qee s+j) (by omega) (by omega);omega
 have h2:=Qpp s (Qee s);rw [slk,h1];omega
end Go.Idl
namespace Go.Idl
theorem Jta (es:List (Int×Int)) (u v:Nat):Qn7 es u v=decide (mk u v ∈ es):=by
 rw [Kdq,Qkz,Kai];rfl
theorem Qys {α:Type} (p:α->Bool):∀ l:List α,S l (fun a=>if p a=true then 1 else 0)=(l.countP p:Int)
 | []=>rfl
 | a::l=>by rw [Qei,Qys p l,List.countP_cons];split <;> simp_all <;> omega
theorem deg_nb {n:Nat} {es:List (Int×Int)} (h:Qak n es=true) {v:Nat} (hv:v < n):deg es v=S (List.range n) (fun u=>if u=v then 0 else if mk u v ∈ es then 1 else 0):=by
 have h1:=Jav (Qcx.1 h).2.2 (fun e=>decide (e ∈ es)) hv;rw [<- Qm3 h] at h1;rw [h1];exact Qfk fun u _=>by simp only [Kai]
end Go.Idl
namespace Go.Idl
open Go
theorem Jvw {n:Nat} {g h:List (Int×Int)} (hg:Qak n g=true) (hs:h.Sublist g):Qak n h=true:=by
 obtain ⟨a,b,c⟩:=Qcx.1 hg;exact Qcx.2 ⟨a.sublist hs,fun e he=>b e (hs.subset he),c⟩
def lfC (n:Nat) (g:List Int):List Int:=(Qbx n (-1)).filter fun u=>decide (u ∉ g)
def nwC (g:List Int) (es:List (Int×Int)):List (Int×Int):=es.filter fun e=>decide (e.1 ∉ g) && decide (e.2 ∉ g)
theorem Jsi {n:Nat} {g:List Int} {u:Int}:u ∈ lfC n g <-> (0<=u/\u < n)/\u ∉ g:=by
 rw [lfC,Kbr,Qi0,Kai]
theorem Jjj {n:Nat} {es:List (Int×Int)} (h:Qak n es=true) (g:List Int) {v:Nat} (hv:v < n) (hvg:(v:Int) ∉ g):(Qda n (nwC g es)).getD v 0=Qhx es (lfC n g) v:=by
 have hs:(nwC g es).Sublist es:=Kfi;have hN:=Jvw h hs;rw [Qvx (Qq3 hN)];rw [Kad,Kdx,Kfh hv];simp only [Kes,Kdf];rw [deg_nb hN hv,Qhx,lfC,List.countP_filter,Qbe,List.countP_map,<- Qys];refine Qfk fun u hu=>?_;have hu:=Kaz.1 hu;have hm:mk u v ∈ nwC g es <-> mk u v ∈ es/\(u:Int) ∉ g:=by
  rw [nwC,Kbr,Kac,Kai,Kai];refine and_congr_right fun _=>?_;rcases Int.le_total (u:Int) v with hq | hq
  . simp only [mk,Int.min_eq_left hq,Int.max_eq_right hq];exact ⟨fun h=>h.1,fun h=>⟨h,hvg⟩⟩
  . simp only [mk,Int.min_eq_right hq,Int.max_eq_left hq];exact ⟨fun h=>h.2,fun h=>⟨hvg,h⟩⟩
 by_cases huv:u=v
 . subst huv;simp
 . have huv2:¬ (u:Int)=v:=by omega
   rw [if_neg huv];refine Qvt ?_ _ _;rw [hm];simp only [Function.comp_apply,Kac,Kai,Jta];exact ⟨fun ⟨a,b⟩=>⟨⟨huv2,a⟩,b⟩,fun ⟨⟨_,a⟩,b⟩=>⟨a,b⟩⟩
def toI:Option Int->Int
 | some v=>v
 | none=>-1
theorem Jk3 (n:Nat):Qbx (n+1) (-1)=Qbx n (-1)++[(n:Int)]:=by
 rw [Qbe,Qbe,Kff,Kct];rfl
theorem Jqe {d g left:List Int} {es:List (Int×Int)} {m:Nat}:∀ (u:Nat),(∀ v:Nat,v < u->(v:Int) ∉ g->d.getD v 0=Qhx es left v) ->
 Qk5 d g ((m:Int)+1) u=toI (bkF es left m ((lfC u g).reverse))
 | 0,_=>by simp [Qk5,lfC,Qbx,bkF,toI]
 | u+1,h=>by
   have ih:=Jqe (d:=d) (g:=g) (left:=left) (es:=es) (m:=m) u fun v hv=>h v (by omega);rw [lfC,Jk3,List.filter_append,Qk5];by_cases hg:(u:Int) ∈ g
   . rw [if_neg (fun hh=>hh.1 hg),ih];simp [lfC,hg]
   . rw [Kdd (by simpa using hg),Kdw,Kea,List.reverse_singleton,List.singleton_append,bkF];have hd:=h u (by omega) hg;rw [hd];by_cases hc:Qhx es left u=0 \/ Qhx es left u=m
     . rw [if_pos ⟨hg,by omega⟩,if_pos hc];rfl
     . rw [if_neg (fun hh=>hc (by have:=hh.2;omega)),if_neg hc,ih];rfl
theorem Qqm {es:List (Int×Int)} {left:List Int} {k:Nat}:∀ {l:List Int} {v:Int},bkF es left k l=some v->v ∈ l/\(Qhx es left v=0 \/ Qhx es left v=k)
 | [],_,h=>by cases h
 | x::l,v,h=>by
   rw [bkF] at h;split at h
   . cases h;exact ⟨List.mem_cons_self,by assumption⟩
   . have:=Qqm h;exact ⟨Kdu _ this.1,this.2⟩
theorem Jk2 (v:Int):∀ (m u:Nat) (es:List (Int×Int)),Qjk v m u es=es.filter fun e=>(List.range' u m).all fun w=>Qnz (min v w) (max v w) e
 | 0,u,es=>by rw [Qjk];exact (Keb.2 fun _ _=>by simp).symm
 | m+1,u,es=>by
   rw [Qjk,Jk2 v m (u+1),Qun,List.filter_filter];refine Kel fun e _=>?_;rw [List.range'_succ,Kcj,Bool.and_comm]
theorem Jpm {n:Nat} {es:List (Int×Int)} (h:Qak n es=true) (g:List Int) (v:Int) (hv:0<=v/\v < n):Qjk v n 0 (nwC g es)=nwC (g++[v]) es:=by
 rw [Jk2,nwC,nwC,List.filter_filter];refine Kel fun e he=>?_;have hb:=Qqe h e he;have key:((List.range' 0 n).all fun w=>Qnz (min v w) (max v w) e)=(decide (e.1 ≠ v) && decide (e.2 ≠ v)):=by
  rw [Kdq,Kaj,Kac,Kai,Kai];constructor
  . intro hh;refine ⟨fun h1=>?_,fun h1=>?_⟩
    . have:=hh e.2.toNat (List.mem_range'_1.2 (by omega));simp only [Qnz,Kby,Bool.and_eq_false_imp,Kai,Kcr] at this;exact this (by omega) (by omega)
    . have:=hh e.1.toNat (List.mem_range'_1.2 (by omega));simp only [Qnz,Kby,Bool.and_eq_false_imp,Kai,Kcr] at this;exact this (by omega) (by omega)
  . rintro ⟨h1,h2⟩ w hw;simp only [Qnz,Kby,Bool.and_eq_false_imp,Kai,Kcr];omega
 rw [key];by_cases k1:e.1 ∈ g <;> by_cases k2:e.2 ∈ g <;> by_cases k3:e.1=v <;> by_cases k4:e.2=v <;> simp [k1,k2,k3,k4]
theorem Jib (n:Nat) (g:List Int):(lfC n g).Nodup:=by
 exact ((Qlo n).imp fun h=>by omega:(Qbx n (-1)).Nodup).filter _
theorem Qyg (n:Nat) (g:List Int) (v:Int):((lfC n g).filter fun u=>!decide (u=v))=lfC n (g++[v]):=by
 rw [lfC,lfC,List.filter_filter];refine Kel fun e _=>?_;by_cases k1:e ∈ g <;> by_cases k2:e=v <;> simp [k1,k2]
theorem Jfr {l:List Int} (hn:l.Nodup) {v:Int} (hv:v ∈ l):(l.filter fun u=>!decide (u=v)).length+1=l.length:=by
 have h1:(l.filter fun u=>!decide (u=v))=l.filter (fun u=>u != v):=Kel fun u _=>by simp [bne,BEq.beq]
 rw [h1,<- hn.erase_eq_filter,List.length_erase_of_mem hv];have:=Kev hv;omega
theorem Jrk {n:Nat} {es:List (Int×Int)} (h:Qak n es=true):∀ (m:Nat) (g ls os:List Int),(lfC n g).length=m->Qfv n m (nwC g es) g ls os=coI es m (lfC n g) ls os
 | 0,g,ls,os,_=>rfl
 | m+1,g,ls,os,hm=>by
   have hs:=Jqe (d:=Qda n (nwC g es)) (g:=g) (left:=lfC n g) (es:=es) (m:=m) n fun v hv hg=>Jjj h g hv hg;cases hb:bkF es (lfC n g) m (lfC n g).reverse with
   | none =>
     rw [hb] at hs;simp only [toI] at hs;rw [Qfv,coI,hb,hs];rfl
   | some v =>
     rw [hb] at hs;simp only [toI] at hs;rw [Qfv,coI,hb,hs];have hv:=List.mem_reverse.1 (Qqm hb).1;have hv2:=Jsi.1 hv;obtain ⟨k,rfl⟩:=Kbm hv2.1.1;simp only;rw [if_neg (by omega),Jpm h g _ hv2.1,Qyg];have hl:=Jfr (Jib n g) hv;rw [Qyg] at hl;rw [Jrk h m (g++[(k:Int)]) _ _ (by omega),Kax,Jjj h g (by omega) hv2.2,ltr];rw [Qvt (show (0:Int) < (Qhx es (lfC n g) (k:Int):Int) <-> 0 < Qhx es (lfC n g) (k:Int) by omega) (100:Int) 105]
theorem codLaw {n:Nat} {es:List (Int×Int)} (h:Qak n es=true):Qfv n n es [] [] []=coI es n (Qbx n (-1)) [] []:=by
 have h1:lfC n []=Qbx n (-1):=by rw [lfC];exact Keb.2 fun _ _=>by simp
 have h2:nwC [] es=es:=by rw [nwC];exact Keb.2 fun _ _=>by simp
 have h3:=Jrk h n [] [] [] (by rw [h1,Qbe];simp)
 rwa [h1,h2] at h3
structure Jee (es:List (Int×Int)) (l o:List Int):Prop where
 len:l.length=o.length
 let_:∀ x ∈ l,x=100 \/ x=105
 fst:∀ x,l[0]? = some x->x=105
 adj:∀ a b,b < a->a < o.length->Qn7 es (o.getD a 0) (o.getD b 0)=decide (l.getD a 0=100)
theorem Jey {es:List (Int×Int)} {left:List Int} {v:Int} (h:Qhx es left v=0) {u:Int} (hu:u ∈ left) (hne:u ≠ v):Qn7 es u v=false:=by
 have:=List.countP_eq_zero.1 h u hu;simpa [hne] using this
theorem Ja9 {es:List (Int×Int)} {left:List Int} {v:Int}:Qhx es left v=Qhx es (left.filter fun u=>!decide (u=v)) v:=by
 rw [Qhx,Qhx,List.countP_filter];refine List.countP_congr fun u _=>?_;by_cases h:u=v <;> simp [h]
theorem Jm8 {es:List (Int×Int)} {left:List Int} {v:Int} {k:Nat} (hl:(left.filter fun u=>!decide (u=v)).length=k) (h:Qhx es left v=k) {u:Int} (hu:u ∈ left) (hne:u ≠ v):Qn7 es u v=true:=by
 rw [Ja9,Qhx,<- hl] at h;have:=List.countP_eq_length.1 h u (Kbr.2 ⟨hu,by simp [hne]⟩);simpa [hne] using this
theorem Jd0 (es:List (Int×Int)) (a b:Int):Qn7 es a b=Qn7 es b a:=by
 rw [Kdq,Qkz,Qkz,Int.min_comm,Int.max_comm]
theorem Jrt {es:List (Int×Int)}:∀ (k:Nat) (left ls os l o:List Int),left.Nodup->left.length=k->coI es k left ls os=some (l,o) ->
 ∃ l1 o1,l=l1++ls/\o=o1++os/\l1.length=k/\o1.Perm left/\Jee es l1 o1
 | 0,left,ls,os,l,o,_,hl,h=>by
   cases h;have:left=[]:=Kav.1 hl;subst this;exact ⟨[],[],rfl,rfl,rfl,.refl _,⟨rfl,by simp,by simp,fun a b _ h=>by simp at h⟩⟩
 | k+1,left,ls,os,l,o,hn,hl,h=>by
   rw [coI] at h;cases hb:bkF es left k left.reverse with
   | none=>rw [hb] at h;cases h
   | some v =>
     rw [hb] at h;simp only at h;have hv:=Qqm hb;have hvm:=List.mem_reverse.1 hv.1;have hlen:=Jfr hn hvm;obtain ⟨l1,o1,r1,r2,r3,r4,c⟩:=Jrt k _ _ _ l o (hn.filter _) (by omega) h;have ho:o1.length=k:=by rw [r4.length_eq];omega
     refine ⟨l1++[ltr es left v],o1++[v],by rw [r1];simp,by rw [r2];simp,by simp [r3],?_,?_⟩
     . have h1:left.Perm (v::left.erase v):=List.perm_cons_erase hvm;have h2:(left.filter fun u=>!decide (u=v))=left.erase v:=by
        rw [hn.erase_eq_filter];exact Kel fun u _=>by simp [bne,BEq.beq]
       rw [h2] at r4;exact (Kcm.trans (r4.cons v)).trans h1.symm
     . have hlt:ltr es left v=100 \/ ltr es left v=105:=by rw [ltr];split <;> simp
       refine ⟨by simp [r3,ho],fun x hx=>?_,fun x hx=>?_,fun a b hb1 ha=>?_⟩
       . rcases Kah.1 hx with hx | hx
         . exact c.let_ x hx
         . rw [Kce.1 hx];exact hlt
       . cases k with
         | zero =>
           have hl1:l1=[]:=Kav.1 r3;subst hl1;simp only [Kaq,Kcs,Kaa] at hx;have:Qhx es left v=0:=by rcases hv.2 with h | h <;> exact h
           rw [<- hx,ltr,if_neg (by omega)]
         | succ k =>
           rw [Kba (by omega)] at hx;exact c.fst x hx
       . have hak:a < k+1:=by rw [Kbu,ho] at ha;exact ha
         by_cases hak2:a < k
         . have g:∀ i,i < k->(o1++[v]).getD i 0=o1.getD i 0:=fun i hi=>by
            rw [Kad,Kba (by omega),Kad]
           have g2:(l1++[ltr es left v]).getD a 0=l1.getD a 0:=by
            rw [Kad,Kba (by omega),Kad]
           rw [g a hak2,g b (by omega),g2];exact c.adj a b hb1 (by omega)
         . have hak3:a=k:=by omega
           subst hak3;have g1:(o1++[v]).getD a 0=v:=by
            rw [Kad,Kat (by omega),ho];simp
           have g2:(l1++[ltr es left v]).getD a 0=ltr es left v:=by
            rw [Kad,Kat (by omega),r3];simp
           have g3:(o1++[v]).getD b 0=o1[b]'(by omega):=by
            rw [Kad,Kba (by omega),Kag (by omega)];rfl
           rw [g1,g2,g3];have hm:=r4.mem_iff.1 (Kao (show b < o1.length by omega));have hm:=Kbr.1 hm;have hne:o1[b]'(by omega) ≠ v:=by simpa using hm.2
           rw [Jd0];rcases hv.2 with h0 | h0
           . rw [Jey h0 hm.1 hne,ltr,if_neg (by omega)];rfl
           . rw [Jm8 (by omega) h0 hm.1 hne,ltr,if_pos (by omega)];rfl
theorem Jku {n:Nat} {es:List (Int×Int)} {l o:List Int} (h:coI es n (Qbx n (-1)) [] []=some (l,o)):l.length=n/\o.Perm (Qbx n (-1))/\Jee es l o:=by
 obtain ⟨l1,o1,r1,r2,r3,r4,c⟩:=Jrt n (Qbx n (-1)) [] [] l o ((Qlo n).imp fun h=>by omega) (by rw [Qbe];simp) h;rw [Kbb] at r1 r2;subst r1 r2;exact ⟨r3,r4,c⟩
end Go.Idl
namespace Go.Idl
open Go
def Qd9 (d:List Int):Bool:=d.all fun x=>decide (0 < x)
def Ju7 (d:List Int):Bool:=Qa2 d && (decide (0 < d.length) && ((decide (d.length=1) || Qd9 d) && decide (2 * (d.length:Int) - 2<=d.sum)))
def Qfb (d:List Int):Bool:=Ju7 d && decide (d.sum=2 * (d.length:Int) - 2)
theorem Qh8 {d:List Int} (h:Qa2 d=true):Qba d=true:=by simp only [Qa2,Kac] at h;exact h.1.1
theorem Jkd {x:Int} {r:List Int}:(decide (0 < Qct x r))=Qd9 (x::r):=by
 rw [Kdq,Kai];have:=Qt6 r x 1;simp only [Qd9,Kaj,Kai,Kaf];constructor
 . intro h y hy;have h2:=this.1 (by omega);rcases hy with rfl | hy
   . omega
   . have:=h2.2 y hy;omega
 . intro h;have:=this.2 ⟨by have:=h x (.inl rfl);omega,fun y hy=>by have:=h y (.inr hy);omega⟩;omega
theorem Qkj (d:List Int) (c:Bool) (hl:d.length<=2000000):Ev tb Jd7 [] [L d c] [] ⟨Bo (Ju7 d),[],[],[]⟩:=by
 have e1:=Qaa (Qgr d c hl);unfold Ju7;cases hg:Qa2 d with
 | false =>
   refine jC Jdn rfl ?_;have Hq:=cj2 e1 hg;repeat refine go1 ?_
   simp [Qs7]
 | true =>
 have hf:=Qam (Qh8 hg);have hsm:=hf.sum;have e2:=Qaa (Qw3 d c hf.small);have h7:=hf.1;cases d with
 | nil =>
   refine jC Jdn rfl ?_;have Hq:=cj2 e1 hg;repeat refine go1 ?_
   simp [Qs7]
 | cons x r =>
 have e3:=Qaa (ev_Min x r c (by simp at h7;omega));have hmp:=Jkd (x:=x) (r:=r);have w1:IntKind.i64.wrap (2 * ((r.length:Int)+1))=2 * ((r.length:Int)+1):=Qac (by omega) (by simp at h7;omega);have w2:IntKind.i64.wrap (2 * ((r.length:Int)+1) - 2)=2 * ((r.length:Int)+1) - 2:=Qac (by omega) (by simp at h7;omega);by_cases h1:r=[]
 . subst h1;refine jC Jdn rfl ?_;have Hq:=cj5 e1 e2 hg (show IntKind.i64.wrap 2=2 from rfl) (show IntKind.i64.wrap 0=0 from rfl);repeat refine go1 ?_
   simp [Qs7]
 . have h2:¬ r.length=0:=fun h=>h1 (Kav.1 h);have h3:¬ (r.length:Int)=0:=by omega
   have h4:¬ (r.length:Int)+1=1:=by omega
   have h5:(0:Int) < (r.length:Int)+1:=by omega
   rw [show Qd9 (x::r)=decide (0 < Qct x r) from hmp.symm];by_cases hp:0 < Qct x r
   . refine jC Jdn rfl ?_;have Hq:=Qxj e1 e2 e3 hg h1 h2 h3 h4 h5 hp w1 w2;repeat refine go1 ?_
     simp [Qs7,h1,hp];rfl
   . refine jC Jdn rfl ?_;have Hq:=Qxj e1 e2 e3 hg h1 h2 h3 h4 h5 hp w1 w2;repeat refine go1 ?_
     simp [Qs7,h1,hp]
theorem Qkm (d:List Int) (c:Bool) (hl:d.length<=2000000):Ev tb Jkx [] [L d c] [] ⟨Bo (Qfb d),[],[],[]⟩:=by
 have e1:=Qaa (Qkj d c hl);unfold Qfb;cases hc:Ju7 d with
 | false =>
   rw [hc] at e1;refine jC zt188 rfl ?_;have Hq:=e1;repeat refine go1 ?_
   simp [Jeu]
 | true =>
 rw [hc] at e1;have hg:Qa2 d=true:=by simp only [Ju7,Kac] at hc;exact hc.1
 have hf:=Qam (Qh8 hg);have h7:=hf.1;have e2:=Qaa (Qw3 d c hf.small);have w1:IntKind.i64.wrap (2 * (d.length:Int))=2 * (d.length:Int):=Qac (by omega) (by omega);have w2:IntKind.i64.wrap (2 * (d.length:Int) - 2)=2 * (d.length:Int) - 2:=Qac (by omega) (by omega);refine jC zt188 rfl ?_;have Hq:=cj4 e1 e2 w1 w2;repeat refine go1 ?_
 simp [Jeu]
 try rfl
def facN:Nat->Nat
 | 0=>1
 | n+1=>(n+1) * facN n
theorem Qxa:∀ n,0 < facN n
 | 0=>by decide
 | n+1=>Nat.mul_pos (by omega) (Qxa n)
def divs:List Int->Nat->Nat
 | [],o=>o
 | x::r,o=>divs r (o / facN (x - 1).toNat)
def cntT (d:List Int):Nat:=divs d (facN ((d.length:Int) - 2).toNat)
end Go.Idl
namespace Go.Idl
open Go
theorem Qv8 (x:Int) (r:List Int) (c:Bool) (hl:r.length<=2000000):Ev tb Jgh [] [L (x::r) c] [] ⟨I (Qct x r),[],[],[]⟩:=by
 have loop:∀ (m i:Nat) (y:Int),i+m=(x::r).length->wp tb (.loop Jqr) { T:=[(0,L (x::r) c),(3,I y),(4,I i)],loc:=[],M:=[] }
  (fun ex st=>ex=.exit 0/\st={ T:=[(0,L (x::r) c),(3,I (Qct y ((x::r).drop i))),(4,I (x::r).length),(11,Bo false)],loc:=[],M:=[] }):=by
  generalize hd:x::r=d at *
  have hdl:d.length<=2000001:=by rw [<- hd];simp;omega
  intro m
  induction m with
  | zero =>
    intro i y hi;obtain ⟨h1,h2⟩:=Qch hi;have h3:i=d.length:=hi;subst h3;refine jL ?_
    repeat refine go0 ?_
    rw [h2];exact ⟨rfl,rfl⟩
  | succ m ih =>
    intro i y hi;obtain ⟨hi2,h2,h3⟩:=Qck hi;have w2:IntKind.i64.wrap ((i:Int)+1)=((i+1:Nat):Int):=Qas (by omega);have hm:(if d[i] < y then d[i] else y)=min y d[i]:=by split <;> omega
    rw [h2,Qct];refine jL ?_;have Hq:=cj3 hi2 w2 hm;repeat refine go1 ?_
    exact ih (i+1) (min y d[i]) (by omega)
 have hx:Qct x ((x::r).drop 0)=Qct x r:=by
  simp only [Kcb,Qct];congr 1;omega
 have hlo:=loop (x::r).length 0 x (by simp);rw [hx] at hlo;refine jC zt376 rfl ?_
 repeat refine go0 ?_
 refine Qab hlo ?_;rintro ex st ⟨rfl,rfl⟩
 try simp only [if_true]
 repeat refine go0 ?_
 simp [Jl7]
def Jjm (d:List Int):Bool:=Qba d && (decide (d.length=1) || (decide (1 < d.length) && (Qd9 d && decide (d.sum=2 * ((d.length:Int) - 1)))))
def Qu2 (d:List Int):Bool:=(Qfb d == Jjm d) && (!Qfb d || decide (0 < cntT d))
end Go.Idl
namespace Go.Idl
open Go
def Qd3 (o:List Int) (e:Int×Int):List Int:=(o.set e.1.toNat (min (o.getD e.1.toNat 0) (o.getD e.2.toNat 0))).set e.2.toNat (min (o.getD e.1.toNat 0) (o.getD e.2.toNat 0))
def Qkf (es:List (Int×Int)):Nat->List Int->List Int
 | 0,o=>o
 | m+1,o=>Qkf es m (es.foldl Qd3 o)
theorem Qgl (o:List Int) (e:Int×Int):(Qd3 o e).length=o.length:=by simp [Qd3]
theorem Qt2 (es:List (Int×Int)):∀ o:List Int,(es.foldl Qd3 o).length=o.length:=by
 induction es with
 | nil=>intro o;rfl
 | cons e es ih=>intro o;rw [Kdv,ih,Qgl]
theorem Qy2 (es:List (Int×Int)):∀ (m:Nat) (o:List Int),(Qkf es m o).length=o.length
 | 0,_=>rfl
 | m+1,o=>by rw [Qkf,Qy2 es m,Qt2]
theorem ro_in (n:Nat) (e0:Nat) (es:List (Int×Int)) (c:Bool) (he0:e0=2 \/ es=[]) (hes:∀ e ∈ es,0<=e.1/\e.1 < n/\0<=e.2/\e.2 < n) (hel:es.length<=1000) (k:Nat):∀ (m j:Nat) (out:List Int) (B:Qad),j+m=es.length->out.length=n ->
 wp tb (.loop Jhf) { T:=[(1,.bptr 0 0 0),(3,O out),(11,I n),(12,I k),(15,.lst e0 (eds es) c),(16,I es.length),(17,I j)],loc:=[I n,.lst e0 (eds es) c]::B,M:=[] }
  (fun ex st=>ex=.exit 2/\∃ B',st={ T:=[(1,.bptr 0 0 0),(3,O ((es.drop j).foldl Qd3 out)),(11,I n),(12,I k),(15,.lst e0 (eds es) c),(16,I es.length),(17,I es.length),(18,Bo false)],loc:=[I n,.lst e0 (eds es) c]::B',M:=[] }):=by
 intro m
 induction m with
 | zero =>
   intro j out B hj hl;have h3:j=es.length:=hj;subst h3;refine jL ?_
   repeat refine go0 ?_
   exact ⟨rfl,_,by simp;rfl⟩
 | succ m ih =>
   intro j out B hj hl;have hj2:j < es.length:=by omega
   have he2:e0=2:=by
    rcases he0 with h | h
    . exact h
    . rw [h] at hj2;cases hj2
   subst he2;have hd:es.drop j=es[j]::es.drop (j+1):=Kay hj2;have hb:=hes _ (Kao hj2);obtain ⟨⟨x,y⟩,hx⟩:∃ e,e=es[j]:=⟨_,rfl⟩;rw [<- hx] at hb;simp only at hb;obtain ⟨a,rfl⟩:=Kbm hb.1;obtain ⟨b,rfl⟩:=Kbm hb.2.2.1;have hx2:=hx.symm;have han:a < n:=by omega
   have hbn:b < n:=by omega
   have ha:a < out.length:=by omega
   have hbl:b < out.length:=by omega
   have w1:IntKind.i64.wrap ((j:Int)+1)=((j+1:Nat):Int):=Qas (by omega);have hmn:(if out[b] < out[a] then out[b] else out[a])=min out[a] out[b]:=by split <;> omega
   have hn:=ih (j+1) (Qd3 out ((a:Int),(b:Int))) (B++[[I a,I b]]) (by omega) (by rw [Qgl,hl]);have ga:out.getD a 0=out[a]:=by rw [Kad,Kag ha];rfl
   have gb:out.getD b 0=out[b]:=by rw [Kad,Kag hbl];rfl
   have hr:Qd3 out ((a:Int),(b:Int))=(out.set a (min out[a] out[b])).set b (min out[a] out[b]):=by
    simp only [Qd3,Kax,ga,gb]
   rw [hd,<- hx,Kdv];rw [hr] at hn |-;refine jL ?_;have Hq:=cj8 hj2 hx2 ha hbl hl hmn han hbn;repeat refine go1 ?_
   refine Qhy (by simp [ha,hbl,hl,han,hbn];with_reducible rfl) (by simp;with_reducible rfl) ?_ ?_
   . intro p hp;simp only [Kaf,Kaw,Kcf] at hp;subst hp;exact ⟨_,by simp [ha,hbl,hl,han,hbn];with_reducible rfl,by simp⟩
   have Hq:=w1;repeat refine go1 ?_
   exact hn
theorem ro_out (n:Nat) (e0:Nat) (es:List (Int×Int)) (c:Bool) (he0:e0=2 \/ es=[]) (hes:∀ e ∈ es,0<=e.1/\e.1 < n/\0<=e.2/\e.2 < n) (hel:es.length<=1000) (hn7:n<=7):∀ (m k:Nat) (out:List Int) (B:Qad),k+m=n->out.length=n ->
 wp tb (.loop Ji1) { T:=[(1,.bptr 0 0 0),(3,O out),(11,I n),(12,I k)],loc:=[I n,.lst e0 (eds es) c]::B,M:=[] }
  (fun ex st=>ex=.exit 0/\∃ B',st={ T:=[(1,.bptr 0 0 0),(3,O (Qkf es m out)),(11,I n),(12,I n),(13,Bo false)],loc:=[I n,.lst e0 (eds es) c]::B',M:=[] }):=by
 intro m
 induction m with
 | zero =>
   intro k out B hk hl;have h3:k=n:=hk;subst h3;refine jL ?_
   repeat refine go0 ?_
   exact ⟨rfl,_,rfl⟩
 | succ m ih =>
   intro k out B hk hl;have hk2:k < n:=by omega
   have w1:IntKind.i64.wrap ((k:Int)+1)=((k+1:Nat):Int):=Qas (by omega);refine jL ?_;have Hq:=hk2;repeat refine go1 ?_
   refine Qab (ro_in n e0 es c he0 hes hel k es.length 0 out B (by omega) hl) ?_;rintro ex st ⟨rfl,B',rfl⟩;simp only [if_true,Kcb];have Hq:=w1;repeat refine go1 ?_
   exact ih (k+1) (es.foldl Qd3 out) B' (by omega) (by rw [Qt2,hl])
theorem Joo (n:Nat) (hn1:1<=n) (hn7:n<=7) (e0:Nat) (es:List (Int×Int)) (c:Bool) (he0:e0=2 \/ es=[]) (hes:∀ e ∈ es,0<=e.1/\e.1 < n/\0<=e.2/\e.2 < n) (hel:es.length<=1000) :
 Ev tb Ja2 [] [.agg [I n,.lst e0 (eds es) c]] [] ⟨O (Qkf es n (Qbx n (-1))),[],[],[]⟩:=by
 have e1:=Qaa (Qb7 n (-1) (by omega));have hil:(Qbx n (-1)).length=n:=by rw [Qbe];simp
 have loop:=ro_out n e0 es c he0 hes hel hn7 n 0 (Qbx n (-1)) [] (by omega) hil;rw [show ((0:Nat):Int)=0 from rfl] at loop;generalize Qbx n (-1)=L at *
 cases L with
 | nil=>simp at hil;omega
 | cons x L =>
   simp only [nlI] at e1;refine jC zt172 rfl ?_;have Hq:=e1;repeat refine go1 ?_
   refine Qab loop ?_;rintro ex st ⟨rfl,B',rfl⟩;simp only [if_true]
   repeat refine go0 ?_
   simp [Jdx]
end Go.Idl
namespace Go.Idl
open Go
def nlT:List (List Int)->IV
 | []=>Z
 | x::r=>OT (x::r)
theorem Qyh (t:List (List Int)):Ev tb Jf8 [] [nlT t] [] ⟨nlT t,[],[],[]⟩:=by
 cases t with
 | nil =>
   simp only [nlT];refine jC zt257 rfl ?_
   repeat refine go0 ?_
   simp [Jjn]
 | cons x t =>
   simp only [nlT];have h2:(oab (x::t)).take (t.length+1)=oab (x::t):=Kae (by simp);refine jC zt257 rfl ?_;have Hq:=h2;repeat refine go1 ?_
   simp [Jjn,h2]
def inP (rt:List Int) (r:Int) (v:Int):Bool:=decide (rt.getD v.toNat 0=r)
def isR (rt:List Int) (v:Int):Bool:=inP rt v v
def Qkb (n:Nat) (rt:List Int) (i:Nat):List (List Int):=((rgF n i).filter (isR rt)).map fun r=>(rgF n 0).filter (inP rt r)
theorem co_in (n:Nat) (hn:n<=7) (rt:List Int) (hl:rt.length=n) (acc:List (List Int)) (r:Nat) (B:Qad):∀ (m i:Nat) (part:List Int),i+m=n->part.length<=i ->
 wp tb (.loop Qqq) { T:=[(3,nlT acc),(4,O rt),(5,I r),(6,nlI part),(12,I n),(13,I r),(22,.arr (.S 4) 0 [] 1 0 n false),(23,I n),(24,I i)],loc:=B,M:=[] }
  (fun ex st=>ex=.exit 2/\st={ T:=[(3,nlT acc),(4,O rt),(5,I r),(6,nlI (part++(rgF n i).filter (inP rt r))),(12,I n),(13,I r),(22,.arr (.S 4) 0 [] 1 0 n false),(23,I n),(24,I n),(25,Bo false)],loc:=B,M:=[] }):=by
 intro m
 induction m with
 | zero =>
   intro i part hi hp;have h3:i=n:=hi;subst h3;rw [Qqg,Kdw,Kbb];cases acc <;> cases part <;> simp only [nlT,nlI]
   . refine jL ?_
     repeat refine go0 ?_
     exact ⟨rfl,rfl⟩
   . refine jL ?_
     repeat refine go0 ?_
     exact ⟨rfl,rfl⟩
   . refine jL ?_
     repeat refine go0 ?_
     exact ⟨rfl,rfl⟩
   . refine jL ?_
     repeat refine go0 ?_
     exact ⟨rfl,rfl⟩
 | succ m ih =>
   intro i part hi hp;have hi2:i < n:=by omega
   have hil:i < rt.length:=by omega
   have w1:IntKind.i64.wrap ((i:Int)+1)=((i+1:Nat):Int):=Qas (by omega);have gi:rt.getD i 0=rt[i]:=by rw [Kad,Kag hil];rfl
   rw [Qg7 hi2];by_cases hq:rt[i]=(r:Int)
   . have hpr:inP rt r (i:Int)=true:=by rw [inP,Kax,gi];exact Kbo hq
     rw [Kdd hpr];have hn2:=ih (i+1) (part++[(i:Int)]) (by omega) (by simp;omega);rw [Kal,Kbk,Kaq] at hn2;have hl1:part.length+1<=274877906944:=by omega
     have hT:∀ x:Int,List.take (part.length+1) (part++[x])=part++[x]:=fun x=>Kae (by simp);have hT2:List.take part.length part=part:=Kae (Kam _);cases part with
     | nil =>
       rw [Kaq] at hn2 |-;have hn2:wp tb (.loop Qqq) { T:=[(3,nlT acc),(4,O rt),(5,I r),(6,O [(i:Int)]),(12,I n),(13,I r),(22,.arr (.S 4) 0 [] 1 0 n false),(23,I n),(24,I ((i+1:Nat):Int))],loc:=B,M:=[] } _:=hn2;cases acc <;> simp only [nlT,nlI] at hn2 |-
       . refine jL ?_;have Hq:=cj5 hi2 hil hl hq w1;repeat refine go1 ?_
         exact hn2
       . refine jL ?_;have Hq:=cj5 hi2 hil hl hq w1;repeat refine go1 ?_
         exact hn2
     | cons y ys =>
       rw [Kbk] at hn2;simp only [Kbc,Kbk] at hl1 hT hT2;have hn2:wp tb (.loop Qqq) { T:=[(3,nlT acc),(4,O rt),(5,I r),(6,O (y::(ys++[(i:Int)]))),(12,I n),(13,I r),(22,.arr (.S 4) 0 [] 1 0 n false),(23,I n),(24,I ((i+1:Nat):Int))],loc:=B,M:=[] } _:=hn2;cases acc <;> simp only [nlT,nlI] at hn2 |-
       . refine jL ?_;have Hq:=cj8 hi2 hil hl hq w1 hl1 hT hT2;repeat refine go1 ?_
         exact hn2
       . refine jL ?_;have Hq:=cj8 hi2 hil hl hq w1 hl1 hT hT2;repeat refine go1 ?_
         exact hn2
   . have hpr:¬ inP rt r (i:Int)=true:=by rw [inP,Kax,gi,Kai];exact hq
     rw [Keu hpr];have hn2:=ih (i+1) part (by omega) (by omega);cases acc <;> cases part <;> simp only [nlT,nlI] at hn2 |-
     . refine jL ?_;have Hq:=cj5 hi2 hil hl hq w1;repeat refine go1 ?_
       exact hn2
     . refine jL ?_;have Hq:=cj5 hi2 hil hl hq w1;repeat refine go1 ?_
       exact hn2
     . refine jL ?_;have Hq:=cj5 hi2 hil hl hq w1;repeat refine go1 ?_
       exact hn2
     . refine jL ?_;have Hq:=cj5 hi2 hil hl hq w1;repeat refine go1 ?_
       exact hn2
theorem Jb5 {xs:List Int} {p:Int->Bool} {r:Int} (h:r ∈ xs) (hp:p r=true):∃ y ys,xs.filter p=y::ys:=by
 cases hq:xs.filter p with
 | nil=>have:r ∈ xs.filter p:=Kbr.2 ⟨h,hp⟩;rw [hq] at this;cases this
 | cons y ys=>exact ⟨y,ys,rfl⟩
theorem Qhp {n i:Nat} {x:Int}:x ∈ rgF n i <-> (i:Int)<=x/\x < n:=by
 rw [rgF,Kck];constructor
 . rintro ⟨a,ha,rfl⟩;obtain ⟨j,hj,rfl⟩:=List.mem_iff_getElem.1 ha;simp only [Kco,List.length_range] at hj;simp only [List.getElem_drop,List.getElem_range];omega
 . rintro ⟨h1,h2⟩;obtain ⟨k,rfl⟩:=Kbm (show 0<=x by omega);refine ⟨k,List.mem_iff_getElem.2 ⟨k - i,by simp;omega,?_⟩,rfl⟩;simp only [List.getElem_drop,List.getElem_range];omega
theorem co_out (n:Nat) (hn:n<=7) (rt:List Int) (hl:rt.length=n) (B:Qad):∀ (m r:Nat) (acc:List (List Int)),r+m=n->acc.length<=r ->
 wp tb (.loop Jdc) { T:=[(3,nlT acc),(4,O rt),(12,I n),(13,I r)],loc:=B,M:=[] }
  (fun ex st=>ex=.exit 0/\st={ T:=[(3,nlT (acc++Qkb n rt r)),(4,O rt),(12,I n),(13,I n),(14,Bo false)],loc:=B,M:=[] }):=by
 intro m
 induction m with
 | zero =>
   intro r acc hr ha;have h3:r=n:=hr;subst h3;rw [Qkb,Qqg,Kdw,Kdn,Kbb];cases acc <;> simp only [nlT]
   . refine jL ?_
     repeat refine go0 ?_
     exact ⟨rfl,rfl⟩
   . refine jL ?_
     repeat refine go0 ?_
     exact ⟨rfl,rfl⟩
 | succ m ih =>
   intro r acc hr ha;have hr2:r < n:=by omega
   have hrl:r < rt.length:=by omega
   have w1:IntKind.i64.wrap ((r:Int)+1)=((r+1:Nat):Int):=Qas (by omega);have gi:rt.getD r 0=rt[r]:=by rw [Kad,Kag hrl];rfl
   rw [Qkb,Qg7 hr2];by_cases hq:rt[r]=(r:Int)
   . have hpr:isR rt (r:Int)=true:=by rw [isR,inP,Kax,gi];exact Kbo hq
     rw [Kdd hpr,Kbd];obtain ⟨y,ys,hy⟩:=Jb5 (xs:=rgF n 0) (p:=inP rt r) (Qhp.2 ⟨by omega,by omega⟩) hpr;have hn2:=ih (r+1) (acc++[(rgF n 0).filter (inP rt r)]) (by omega) (by simp;omega);rw [Kal,Kbk,Kaq,Qkb] at hn2;have inner:=co_in n hn rt hl acc r B n 0 [] (by omega) (by simp);rw [Kaq,hy] at inner;rw [hy] at hn2 |-;have e1:=Qaa (Qqu (y::ys));have hl1:acc.length+1<=274877906944:=by omega
     have hT:∀ x:List Int,List.take (acc.length+1) (acc++[x])=acc++[x]:=fun x=>Kae (by simp);have hT2:List.take acc.length acc=acc:=Kae (Kam _);cases acc with
     | nil =>
       simp only [Kaq,nlT,nlI] at hn2 inner |-;rw [show ((0:Nat):Int)=0 from rfl] at inner;refine jL ?_;have Hq:=cj4 hr2 hrl hl hq;repeat refine go1 ?_
       refine Qab inner ?_;rintro ex st ⟨rfl,rfl⟩;simp only [if_true];have Hq:=cj2 e1 w1;repeat refine go1 ?_
       exact hn2
     | cons a as_ =>
       simp only [Kbk,nlT,nlI] at hn2 inner |-;simp only [Kbc,Kbk] at hl1 hT hT2;rw [show ((0:Nat):Int)=0 from rfl] at inner;refine jL ?_;have Hq:=cj4 hr2 hrl hl hq;repeat refine go1 ?_
       refine Qab inner ?_;rintro ex st ⟨rfl,rfl⟩;simp only [if_true];have Hq:=cj5 e1 w1 hl1 hT hT2;repeat refine go1 ?_
       exact hn2
   . have hpr:¬ isR rt (r:Int)=true:=by rw [isR,inP,Kax,gi,Kai];exact hq
     rw [Keu hpr];have hn2:=ih (r+1) acc (by omega) (by omega);cases acc <;> simp only [nlT] at hn2 |-
     . refine jL ?_;have Hq:=cj5 hr2 hrl hl hq w1;repeat refine go1 ?_
       exact hn2
     . refine jL ?_;have Hq:=cj5 hr2 hrl hl hq w1;repeat refine go1 ?_
       exact hn2
def Qm7 (n:Nat) (es:List (Int×Int)):List (List Int):=Qkb n (Qkf es n (Qbx n (-1))) 0
theorem Qpr (n:Nat) (hn1:1<=n) (hn7:n<=7) (e0:Nat) (es:List (Int×Int)) (c:Bool) (he0:e0=2 \/ es=[]) (hes:∀ e ∈ es,0<=e.1/\e.1 < n/\0<=e.2/\e.2 < n) (hel:es.length<=1000) :
 Ev tb Qzq [] [.agg [I n,.lst e0 (eds es) c]] [] ⟨nlT (Qm7 n es),[],[],[]⟩:=by
 have e1:=Qaa (Joo n hn1 hn7 e0 es c he0 hes hel);have hrl:(Qkf es n (Qbx n (-1))).length=n:=by rw [Qy2,Qbe];simp
 rw [Qm7];generalize Qkf es n (Qbx n (-1))=rt at *
 have loop:=co_out n hn7 rt hrl [[I n,.lst e0 (eds es) c]] n 0 [] (by omega) (by simp);rw [Kaq,show ((0:Nat):Int)=0 from rfl] at loop;simp only [nlT] at loop;have e2:=Qaa (Qyh (Qkb n rt 0));generalize Qkb n rt 0=P at *
 refine jC zt170 rfl ?_;have Hq:=e1;repeat refine go1 ?_
 refine Qab loop ?_;rintro ex st ⟨rfl,rfl⟩;simp only [if_true];cases P with
 | nil =>
   simp only [nlT] at e2 |-;have Hq:=e2;repeat refine go1 ?_
   simp [Ja4]
 | cons p P =>
   simp only [nlT] at e2 |-;have Hq:=e2;repeat refine go1 ?_
   simp [Ja4]
theorem Qn6 (n:Nat) (hn1:1<=n) (e0:Nat) (es:List (Int×Int)) (c:Bool) (he0:e0=2 \/ es=[]) (hel:es.length<=1000) (hv:Qak n es=true) (v1:Qbc tb Qrm [] [.agg [I n,.lst e0 (eds es) c]] []=some ⟨Bo true,[],[],[]⟩) :
 Ev tb Qvu [] [.agg [I n,.lst e0 (eds es) c]] [] ⟨Bo (decide ((Qm7 n es).length=1)),[],[],[]⟩:=by
 have hes:∀ e ∈ es,0<=e.1/\e.1 < n/\0<=e.2/\e.2 < n:=fun e he=>by have:=Qeq.1 ((Qcx.1 hv).2.1 e he);omega
 have e1:=Qaa (Qpr n hn1 (Qcx.1 hv).2.2 e0 es c he0 hes hel);generalize Qm7 n es=P at *
 cases P with
 | nil =>
   simp only [nlT] at e1;refine jC Jmg rfl ?_;have Hq:=cj2 v1 e1;repeat refine go1 ?_
   simp [Qwy]
 | cons p P =>
   simp only [nlT] at e1;by_cases h1:P.length=0
   . have h1':P=[]:=Kav.1 h1;subst h1';refine jC Jmg rfl ?_;have Hq:=cj2 v1 e1;repeat refine go1 ?_
     simp [Qwy]
   . have h2:¬ (P.length:Int)+1=1:=by omega
     have h3:¬ P=[]:=fun h=>h1 (by rw [h];rfl);refine jC Jmg rfl ?_;have Hq:=cj4 v1 e1 h1 h2;repeat refine go1 ?_
     simp [Qwy,h3];exact h2
end Go.Idl
namespace Go.Idl
open Go
def bls (l:List Bool):List (List IV):=l.map fun b=>[Bo b]
abbrev OB (l:List Bool):IV:=.own 1 (bls l)
@[simp] theorem bls_len (l:List Bool):(bls l).length=l.length:=by simp [bls]
@[simp] theorem bls_rep (n:Nat):List.replicate n [IV.sc (Value.bool false)]=bls (List.replicate n false):=by simp [bls]
@[simp] theorem bls_get (l:List Bool) (i:Nat) (h:i < (bls l).length):(bls l)[i]=[IV.sc (.bool (l[i]'(by simpa [bls] using h)))]:=by simp [bls]
@[simp] theorem bls_get? (l:List Bool) (i:Nat):(bls l)[i]? = l[i]?.map fun b=>[IV.sc (.bool b)]:=by simp [bls]
@[simp] theorem bls_set (l:List Bool) (i:Nat) (b:Bool):(bls l).set i [IV.sc (.bool b)]=bls (l.set i b):=by simp [bls,Ker]
def Qrl (l:List Bool) (e:Int×Int):List Bool:=if (l.getD e.1.toNat false || l.getD e.2.toNat false)=true then (l.set e.1.toNat true).set e.2.toNat true else l
def Qsw (es:List (Int×Int)):Nat->List Bool->List Bool
 | 0,l=>l
 | m+1,l=>Qsw es m (es.foldl Qrl l)
theorem Qlk (l:List Bool) (e:Int×Int):(Qrl l e).length=l.length:=by rw [Qrl];split <;> simp
theorem Qmt (es:List (Int×Int)):∀ l:List Bool,(es.foldl Qrl l).length=l.length:=by
 induction es with
 | nil=>intro l;rfl
 | cons e es ih=>intro l;rw [Kdv,ih,Qlk]
theorem Qq9 (es:List (Int×Int)):∀ (m:Nat) (l:List Bool),(Qsw es m l).length=l.length
 | 0,_=>rfl
 | m+1,l=>by rw [Qsw,Qq9 es m,Qmt]
def Qxt (n:Nat) (es:List (Int×Int)) (v:Nat):List Int:=(rgF n 0).filter fun u=>(Qsw es n ((List.replicate n false).set v true)).getD u.toNat false
theorem cs_in (n:Nat) (es:List (Int×Int)) (c:Bool) (hes:∀ e ∈ es,0<=e.1/\e.1 < n/\0<=e.2/\e.2 < n) (hel:es.length<=1000) (k:Nat):∀ (m j:Nat) (l:List Bool) (B:Qad),j+m=es.length->l.length=n ->
 wp tb (.loop Jk5) { T:=[(2,.bptr 0 0 0),(5,OB l),(6,I k),(7,I j)],loc:=[I n,L2 es c]::B,M:=[] }
  (fun ex st=>ex=.exit 2/\∃ B',st={ T:=[(2,.bptr 0 0 0),(5,OB ((es.drop j).foldl Qrl l)),(6,I k),(7,I es.length),(27,Bo false)],loc:=[I n,L2 es c]::B',M:=[] }):=by
 intro m
 induction m with
 | zero =>
   intro j l B hj hl;have h3:j=es.length:=hj;subst h3;refine jL ?_
   repeat refine go0 ?_
   exact ⟨rfl,_,by simp;rfl⟩
 | succ m ih =>
   intro j l B hj hl;have hj2:j < es.length:=by omega
   have hd:es.drop j=es[j]::es.drop (j+1):=Kay hj2;have hb:=hes _ (Kao hj2);obtain ⟨⟨x,y⟩,hx⟩:∃ e,e=es[j]:=⟨_,rfl⟩;rw [<- hx] at hb;simp only at hb;obtain ⟨a,rfl⟩:=Kbm hb.1;obtain ⟨b,rfl⟩:=Kbm hb.2.2.1;have hx2:=hx.symm;have han:a < n:=by omega
   have hbn:b < n:=by omega
   have ha:a < l.length:=by omega
   have hbl:b < l.length:=by omega
   have w1:IntKind.i64.wrap ((j:Int)+1)=((j+1:Nat):Int):=Qas (by omega);have ga:l.getD a false=l[a]:=by rw [Kad,Kag ha];rfl
   have gb:l.getD b false=l[b]:=by rw [Kad,Kag hbl];rfl
   have hn:=ih (j+1) (Qrl l ((a:Int),(b:Int))) (B++[[I a,I b]]) (by omega) (by rw [Qlk,hl]);have hr:Qrl l ((a:Int),(b:Int))=if (l[a] || l[b])=true then (l.set a true).set b true else l:=by
    simp only [Qrl,Kax,ga,gb]
   rw [hd,<- hx,Kdv];rw [hr] at hn |-;cases k1:l[a] with
   | true =>
     simp only [k1,Bool.true_or,if_true] at hn |-;refine jL ?_;have Hq:=cj9 hj2 hx2 ha hbl hl han hbn k1 w1;repeat refine go1 ?_
     exact hn
   | false =>
     cases k2:l[b] with
     | true =>
       simp only [k1,k2,Bool.or_true,if_true] at hn |-;refine jL ?_;have Hq:=Qwo hj2 hx2 ha hbl hl han hbn k1 k2 w1;repeat refine go1 ?_
       exact hn
     | false =>
       simp only [k1,k2,Bool.or_false,Kap,Kbs] at hn |-;refine jL ?_;have Hq:=Qwo hj2 hx2 ha hbl hl han hbn k1 k2 w1;repeat refine go1 ?_
       exact hn
theorem cs_out (n:Nat) (es:List (Int×Int)) (c:Bool) (hes:∀ e ∈ es,0<=e.1/\e.1 < n/\0<=e.2/\e.2 < n) (hel:es.length<=1000) (hn7:n<=7):∀ (m k:Nat) (l:List Bool) (B:Qad),k+m=n->l.length=n ->
 wp tb (.loop Jfz) { T:=[(2,.bptr 0 0 0),(5,OB l),(6,I k)],loc:=[I n,L2 es c]::B,M:=[] }
  (fun ex st=>ex=.exit 0/\∃ B',st={ T:=[(2,.bptr 0 0 0),(5,OB (Qsw es m l)),(6,I n),(20,Bo false)],loc:=[I n,L2 es c]::B',M:=[] }):=by
 intro m
 induction m with
 | zero =>
   intro k l B hk hl;have h3:k=n:=hk;subst h3;refine jL ?_
   repeat refine go0 ?_
   exact ⟨rfl,_,rfl⟩
 | succ m ih =>
   intro k l B hk hl;have hk2:k < n:=by omega
   have w1:IntKind.i64.wrap ((k:Int)+1)=((k+1:Nat):Int):=Qas (by omega);have inner:=cs_in n es c hes hel k es.length 0 l B (by omega) hl;rw [show ((0:Nat):Int)=0 from rfl] at inner;refine jL ?_;have Hq:=hk2;repeat refine go1 ?_
   refine Qab inner ?_;rintro ex st ⟨rfl,B',rfl⟩;simp only [if_true,Kcb];have Hq:=w1;repeat refine go1 ?_
   exact ih (k+1) (es.foldl Qrl l) B' (by omega) (by rw [Qmt,hl])
theorem Jv5 (n:Nat) (hn7:n<=7) (es:List (Int×Int)) (c:Bool) (l:List Bool) (hl:l.length=n) (B:Qad):∀ (m i:Nat) (acc:List Int),i+m=n->acc.length<=i ->
 wp tb (.loop Jff) { T:=[(2,.bptr 0 0 0),(5,OB l),(9,O acc),(10,I i)],loc:=[I n,L2 es c]::B,M:=[] }
  (fun ex st=>ex=.exit 4/\st={ T:=[(2,.bptr 0 0 0),(5,OB l),(9,O (acc++(rgF n i).filter fun u=>l.getD u.toNat false)),(10,I n),(59,Bo false)],loc:=[I n,L2 es c]::B,M:=[] }):=by
 intro m
 induction m with
 | zero =>
   intro i acc hi ha;have h3:i=n:=hi;subst h3;rw [Qqg,Kdw,Kbb];refine jL ?_
   repeat refine go0 ?_
   exact ⟨rfl,rfl⟩
 | succ m ih =>
   intro i acc hi ha;have hi2:i < n:=by omega
   have hil:i < l.length:=by omega
   have w1:IntKind.i64.wrap ((i:Int)+1)=((i+1:Nat):Int):=Qas (by omega);have gi:l.getD i false=l[i]:=by rw [Kad,Kag hil];rfl
   rw [Qg7 hi2];cases hq:l[i] with
   | true =>
     rw [Kdd (by rw [Kax,gi,hq])];have hn2:=ih (i+1) (acc++[(i:Int)]) (by omega) (by simp;omega);rw [Kal,Kbk,Kaq] at hn2;have hl1:acc.length+1<=274877906944:=by omega
     have hT:∀ x:Int,List.take (acc.length+1) (acc++[x])=acc++[x]:=fun x=>Kae (by simp);have hT2:List.take acc.length acc=acc:=Kae (Kam _);refine jL ?_;have Hq:=cj8 hi2 hil hl hq w1 hl1 hT hT2;repeat refine go1 ?_
     exact hn2
   | false =>
     rw [Keu (by rw [Kax,gi,hq];simp)];have hn2:=ih (i+1) acc (by omega) (by omega);refine jL ?_;have Hq:=cj5 hi2 hil hl hq w1;repeat refine go1 ?_
     exact hn2
theorem Qrt (n:Nat) (hn7:n<=7) (es:List (Int×Int)) (c:Bool) (hes:∀ e ∈ es,0<=e.1/\e.1 < n/\0<=e.2/\e.2 < n) (hel:es.length<=1000) (v:Nat) (hv:v < n) :
 Ev tb Jgn [] [Gr n es c,I v] [] ⟨O (Qxt n es v),[],[],[]⟩:=by
 have hl1:n<=274877906944:=by omega
 have h1:=fun B=>cs_out n es c hes hel hn7 n 0 ((List.replicate n false).set v true) B (by omega) (by simp);have hml:(Qsw es n ((List.replicate n false).set v true)).length=n:=by rw [Qq9];simp
 have h2:=fun B=>Jv5 n hn7 es c (Qsw es n ((List.replicate n false).set v true)) hml B n 0 [] (by omega) (by simp);rw [Qxt];generalize Qsw es n ((List.replicate n false).set v true)=R at *
 simp only [Kaq,show ((0:Nat):Int)=0 from rfl] at h1 h2;refine jC zt342 rfl ?_
 repeat (first|apply jA|apply jQ|refine wr (by simp [hl1,hv];with_reducible rfl) ?_|refine wq (by simp [hl1,hv];with_reducible rfl) ?_|refine wt (by simpa [hl1,hv]) ?_|refine wf (by simpa [hl1,hv]) ?_|refine xt (by simpa [hl1,hv]) ?_|refine xf (by simpa [hl1,hv]) ?_|apply jB|apply Que|refine jX ?_|refine jY ?_|refine jR ?_|refine jK ?_|refine jE ?_)
 refine Qab (h1 []) ?_;rintro ex st ⟨rfl,B',rfl⟩;simp only [if_true]
 repeat refine go0 ?_
 refine Qab (h2 B') ?_;rintro ex st ⟨rfl,rfl⟩;simp only [if_true]
 repeat refine go0 ?_
 simp [Jm6]
end Go.Idl
namespace Go.Idl
open Go
def hdV (n:Nat) (es:List (Int×Int)) (v:Int):Bool:=decide ((Qxt n es v.toNat).getD 0 0=v)
def Qlv (n:Nat) (es:List (Int×Int)) (i:Nat):List (List Int):=((rgF n i).filter (hdV n es)).map fun v=>Qxt n es v.toNat
theorem Qlw {l:List Bool} {e:Int×Int} {v:Nat} (h:l.getD v false=true):(Qrl l e).getD v false=true:=by
 have hv:v < l.length:=by
  rw [Kad] at h;by_cases hv:v < l.length
  . exact hv
  . rw [Kar (by omega)] at h;cases h
 rw [Qrl];split
 . rw [Kad] at h |-;rw [Kdp,Kdp];split
   . split
     . rfl
     . rename_i h1 h2;simp at h2;omega
   . split
     . split
       . rfl
       . omega
     . exact h
 . exact h
theorem Qgo {v:Nat}:∀ (es:List (Int×Int)) {l:List Bool},l.getD v false=true->(es.foldl Qrl l).getD v false=true
 | [],_,h=>h
 | e::es,_,h=>Qgo es (Qlw h)
theorem Qse {es:List (Int×Int)} {v:Nat}:∀ (m:Nat) {l:List Bool},l.getD v false=true->(Qsw es m l).getD v false=true
 | 0,_,h=>h
 | m+1,_,h=>Qse m (Qgo es h)
theorem Qxx {n:Nat} {es:List (Int×Int)} {v:Nat} (hv:v < n):(v:Int) ∈ Qxt n es v:=by
 refine Kbr.2 ⟨Qhp.2 ⟨by omega,by omega⟩,?_⟩;refine Qse n ?_;rw [Kax,Kad,Kbl (by simpa using hv)];rfl
theorem Jym (n:Nat) (hn7:n<=7) (es:List (Int×Int)) (c:Bool) (hes:∀ e ∈ es,0<=e.1/\e.1 < n/\0<=e.2/\e.2 < n) (hel:es.length<=1000):∀ (m i:Nat) (acc:List (List Int)),i+m=n->acc.length<=i ->
 wp tb (.loop Jrl) { T:=[(1,.bptr 0 0 0),(3,OT acc),(4,I i)],loc:=[[I n,L2 es c]],M:=[] }
  (fun ex st=>ex=.exit 0/\st={ T:=[(1,.bptr 0 0 0),(3,OT (acc++Qlv n es i)),(4,I n),(10,Bo false)],loc:=[[I n,L2 es c]],M:=[] }):=by
 intro m
 induction m with
 | zero =>
   intro i acc hi ha;have h3:i=n:=hi;subst h3;rw [Qlv,Qqg,Kdw,Kdn,Kbb];refine jL ?_
   repeat refine go0 ?_
   exact ⟨rfl,rfl⟩
 | succ m ih =>
   intro i acc hi ha;have hi2:i < n:=by omega
   have w1:IntKind.i64.wrap ((i:Int)+1)=((i+1:Nat):Int):=Qas (by omega);have e1:=fun c=>Qaa (Qrt n hn7 es c hes hel i hi2);have hm:=Qxx (es:=es) hi2;have hh:hdV n es (i:Int)=decide ((Qxt n es i).getD 0 0=(i:Int)):=by rw [hdV,Kax]
   rw [Qlv,Qg7 hi2];have hn0:=ih (i+1) acc (by omega) (by omega);have hn1:=ih (i+1) (acc++[Qxt n es i]) (by omega) (by simp;omega);rw [Kal,Kbk,Kaq] at hn1;have hl1:acc.length+1<=274877906944:=by omega
   have hT:∀ x:List Int,List.take (acc.length+1) (acc++[x])=acc++[x]:=fun x=>Kae (by simp);have hT2:List.take acc.length acc=acc:=Kae (Kam _);by_cases hq:(Qxt n es i).getD 0 0=(i:Int)
   . rw [Kdd (by rw [hh];exact Kbo hq),Kbd,Kax];rw [Qlv] at hn1;generalize Qxt n es i=C at *
     cases C with
     | nil=>cases hm
     | cons y ys =>
       have hq:y=(i:Int):=hq;subst hq;refine jL ?_;have Hq:=cj6 hi2 e1 w1 hl1 hT hT2;repeat refine go1 ?_
       exact hn1
   . rw [Keu (by rw [hh,Kai];exact hq)];rw [Qlv] at hn0;generalize Qxt n es i=C at *
     cases C with
     | nil=>cases hm
     | cons y ys =>
       have hq:¬ y=(i:Int):=hq;refine jL ?_;have Hq:=cj4 hi2 e1 w1 hq;repeat refine go1 ?_
       exact hn0
theorem Qi6 (n:Nat) (hn7:n<=7) (es:List (Int×Int)) (c:Bool) (hes:∀ e ∈ es,0<=e.1/\e.1 < n/\0<=e.2/\e.2 < n) (hel:es.length<=1000) :
 Ev tb Jhr [] [Gr n es c] [] ⟨OT (Qlv n es 0),[],[],[]⟩:=by
 have loop:=Jym n hn7 es c hes hel n 0 [] (by omega) (by simp);rw [Kaq,show ((0:Nat):Int)=0 from rfl] at loop;simp only [OT,Jxm] at loop;refine jC zt343 rfl ?_
 repeat refine go0 ?_
 refine Qab loop ?_;rintro ex st ⟨rfl,rfl⟩;simp only [if_true]
 repeat refine go0 ?_
 simp [Jp5]
theorem Qku (es:List (Int×Int)) (c:Bool) (v1:Qbc tb Qrm [] [Gr 0 es c] []=some ⟨Bo true,[],[],[]⟩):Ev tb Qvu [] [Gr 0 es c] [] ⟨Bo false,[],[],[]⟩:=by
 have e1:Qbc tb Qh2 [] [I 0,I (-1)] []=some ⟨Z,[],[],[]⟩:=Qaa (Qb7 0 (-1) (by omega));have e2:Qbc tb Ja2 [] [Gr 0 es c] []=some ⟨Z,[],[],[]⟩:=by
  refine Qaa ?_;refine jC zt172 rfl ?_;have Hq:=e1;repeat refine go1 ?_
  refine jL ?_
  repeat refine go0 ?_
  simp [Jdx]
 have e3:=Qaa (Qyh []);simp only [nlT] at e3;have e4:Qbc tb Qzq [] [Gr 0 es c] []=some ⟨Z,[],[],[]⟩:=by
  refine Qaa ?_;refine jC zt170 rfl ?_;have Hq:=e2;repeat refine go1 ?_
  refine jL ?_;have Hq:=e3;repeat refine go1 ?_
  simp [Ja4]
 refine jC Jmg rfl ?_;have Hq:=cj2 v1 e4;repeat refine go1 ?_
 simp [Qwy]
end Go.Idl
namespace Go.Idl
open Go
theorem Qkn (d:List Int) (c:Bool) (hv:Qba d=true):Ev tb Jeq [] [L d c] [] ⟨Bo (decide (d.length=1) || (decide (1 < d.length) && (Qd9 d && decide (d.sum=2 * ((d.length:Int) - 1))))),[],[],[]⟩:=by
 have hf:=Qam hv;have e2:=Qaa (Qmg d c hf.small);have h7:=hf.1;cases d with
 | nil =>
   refine jC Jpk rfl ?_
   repeat refine go0 ?_
   simp [Qu1]
 | cons x r =>
 have e3:=Qaa (Qv8 x r c (by simp at h7;omega));have w1:IntKind.i64.wrap (r.length:Int)=(r.length:Int):=Qac (by omega) (by simp at h7;omega);have w2:IntKind.i64.wrap (2 * (r.length:Int))=2 * (r.length:Int):=Qac (by omega) (by simp at h7;omega);by_cases h1:r=[]
 . subst h1;refine jC Jpk rfl ?_
   repeat refine go0 ?_
   simp [Qu1]
 . have h2:¬ r.length=0:=fun h=>h1 (Kav.1 h);have h3:¬ (r.length:Int)=0:=by omega
   have h4:¬ (r.length:Int)+1=1:=by omega
   have h5:(1:Int) < (r.length:Int)+1:=by omega
   have h6:(0:Int) < (r.length:Int):=by omega
   have h6':0 < r.length:=by omega
   rw [show Qd9 (x::r)=decide (0 < Qct x r) from Jkd.symm];by_cases hp:0 < Qct x r
   . refine jC Jpk rfl ?_;have Hq:=Qvr e2 e3 h1 h2 h3 h4 h5 h6 hp w1 w2;repeat refine go1 ?_
     simp [Qu1,h1,hp,h6']
     try rfl
   . refine jC Jpk rfl ?_;have Hq:=Qvr e2 e3 h1 h2 h3 h4 h5 h6 hp w1 w2;repeat refine go1 ?_
     simp [Qu1,h1,hp]
end Go.Idl
namespace Go.Idl
open Go
theorem Jjd (d:List Int) (c:Bool) (hl:d.length<=7):Ev tb Jh8 [] [L d c] [] ⟨I (Qee (fall d)),[],[],[]⟩:=by
 have e1:=Qaa (Qds d c (by omega));have hfl:=Qaz d;generalize fall d=s at *
 have loop:∀ (m i k:Nat),i+m=s.length->k<=i->wp tb (.loop Jr8) { T:=[(3,O s),(4,I k),(5,I i)],loc:=[],M:=[] }
  (fun ex st=>ex=.exit 0/\st={ T:=[(3,O s),(4,I (Qha (s.drop i) i k)),(5,I s.length),(11,Bo false)],loc:=[],M:=[] }):=by
  intro m
  induction m with
  | zero =>
    intro i k hi hk;obtain ⟨h1,h2⟩:=Qch hi;have h3:i=s.length:=hi;subst h3;refine jL ?_
    repeat refine go0 ?_
    rw [h2];exact ⟨rfl,rfl⟩
  | succ m ih =>
    intro i k hi hk;obtain ⟨hi2,h2,h3⟩:=Qck hi;have w2:IntKind.i64.wrap ((i:Int)+1)=((i+1:Nat):Int):=Qas (by omega);rw [h2,Qha];by_cases hq:(i:Int)<=s[i]
    . rw [if_pos hq];refine jL ?_;have Hq:=cj3 hi2 hq w2;repeat refine go1 ?_
      exact ih (i+1) (i+1) (by omega) (by omega)
    . rw [if_neg hq];refine jL ?_;have Hq:=cj3 hi2 hq w2;repeat refine go1 ?_
      exact ih (i+1) k (by omega) (by omega)
 refine jC zt349 rfl ?_;have Hq:=e1;repeat refine go1 ?_
 refine Qab (loop s.length 0 0 (by simp) (by omega)) ?_;rintro ex st ⟨rfl,rfl⟩
 try simp only [if_true]
 repeat refine go0 ?_
 simp [Joj,Qee]
theorem Qp4 (d:List Int) (c:Bool) (hv:Qba d=true):Ev tb Jh1 [] [L d c] [] ⟨I (if d.length=0 then 0 else (Qa9 d).getD (Qee (fall d) - 1) 0),[],[],[]⟩:=by
 have hf:=Qam hv;have e1:=Qaa (Jjd d c hf.1);by_cases h0:d.length=0
 . have hd:d=[]:=Kav.1 h0;subst hd;have hz:Qee (fall [])=0:=rfl;rw [hz,show ((0:Nat):Int)=0 from rfl] at e1;rw [if_pos h0];refine jC zt381 rfl ?_;have Hq:=e1;repeat refine go1 ?_
   simp [Jiw]
 have e2:=Qaa (Qtf d c hf);have hd1:=Qwf (fall d);have hd2:1<=Qee (fall d):=Qwk (fun h=>h0 (by rw [<- Qaz,h];rfl)) (fun x hx=>(hf.fall.2 x hx).1);rw [Qaz] at hd1;have hsl:=Qeu d;obtain ⟨k,hk⟩:∃ k,Qee (fall d)=k+1:=⟨Qee (fall d) - 1,by omega⟩;have hl:=hf.1;have w1:IntKind.i64.wrap (k:Int)=(k:Int):=Qac (by omega) (by omega);have hk2:k < (Qa9 d).length:=by omega
 have hs:(Qa9 d).getD (Qee (fall d) - 1) 0=(Qa9 d)[k]:=by
  rw [hk,Nat.add_sub_cancel,Kad,Kag hk2];rfl
 have hkz:¬ (k:Int)+1=0:=by omega
 rw [if_neg h0,hs];rw [hk] at e1;refine jC zt381 rfl ?_;have Hq:=cj5 e1 e2 w1 hk2 hkz;repeat refine go1 ?_
 simp [Jiw]
end Go.Idl
namespace Go.Idl
open Go
theorem Qmf (d:List Int) (c:Bool) (hv:Qba d=true):Ev tb Jgl [] [L d c] [] ⟨RS d.length (Jow d),[],[],[]⟩:=by
 have hf:=Qam hv;have h7:=hf.1;have e2:=Qaa (Qmm d c (by omega));have hlo:=sr_out d c d.length h7 rfl d.length d [] [] (by simp) rfl (fun x hx=>by have:=hf.2 x hx;omega) (by simp;omega);unfold Jow;cases hr:Qsj d.length d.length d [] [] with
 | none =>
   simp only [hr] at hlo;refine jC zt370 rfl ?_;have Hq:=e2;repeat refine go1 ?_
   refine Qab hlo ?_;rintro ex st ⟨rfl,B,rfl⟩;simp [Jj4]
 | some es =>
   simp only [hr] at hlo;refine jC zt370 rfl ?_;have Hq:=e2;repeat refine go1 ?_
   refine Qab hlo ?_;rintro ex st ⟨rfl,left',done',rfl⟩;simp only [if_true];have het:es.take es.length=es:=Kae (Kam _);have Hq:=het;repeat refine go1 ?_
   simp [Jj4]
theorem Qns (d:List Int) (c:Bool) (hv:Qba d=true):Ev tb Jgu [] [L d c] [] ⟨Bo (decide (fall d=Qdj (fall d))),[],[],[]⟩:=by
 have h7:=(Qam hv).1;have hcl:(Qdj (fall d)).length=d.length:=by simp [Qdj,Qaz]
 have hfl:=Qaz d;have e2:=Qaa (Qds d c (by omega));have e3:=fun c=>Qaa (Qr2 (fall d) c (by omega));have e4:=fun c1 c2=>Qaa (ev_same (fall d) (Qdj (fall d)) c1 c2 (by omega) (by omega));generalize Qdj (fall d)=cs at *
 generalize fall d=fs at *
 generalize decide (fs=cs)=b at *
 refine jC zt358 rfl ?_;have Hq:=cj3 e2 e3 e4;repeat refine go1 ?_
 simp [Jpj]
def Qjm (b:Bool):List UInt8:=if b then [121,101,115] else [110,111]
theorem Qd6 (b:Bool):Ev tb Qpo [] [Bo b] [] ⟨SB (Qjm b),[],[],[]⟩:=by
 cases b <;>
 . refine jC zt389 rfl ?_
   repeat (first|apply jA|apply jQ|refine wr (by simp;with_reducible rfl) ?_|refine wt (by simpa) ?_|refine wf (by simpa) ?_|refine xt (by simpa) ?_|refine xf (by simpa) ?_|apply jB|apply Que|refine jX ?_|refine jY ?_|refine jR ?_|refine jK ?_|refine jE ?_)
   simp [Jlu,Qjm]
theorem Qm2 (l:List UInt8) (hl:l.length<=1500000):Ev tb Jas [] [SB l] [] ⟨.tup [O (l.map rds),Bo (Qba (l.map rds))],[],[],[]⟩:=by
 have hs:(⟨l.toArray⟩:ByteArray).size=l.length:=rfl;have loop:∀ (m i:Nat),i+m=l.length->wp tb (.loop Jqz) { T:=[(0,SB l),(4,O ((l.take i).map rds)),(5,I i)],loc:=[],M:=[] }
  fun ex st=>ex=.exit 0/\st={ T:=[(0,SB l),(4,O (l.map rds)),(5,I l.length),(10,Bo false)],loc:=[],M:=[] }:=by
  intro m
  induction m with
  | zero =>
    intro i hi;have:i=l.length:=by omega
    subst this;rw [Kdb];refine jL ?_;have Hq:=hs;repeat refine go1 ?_
    exact ⟨rfl,rfl⟩
  | succ m ih =>
    intro i hi;have hlt:i < l.length:=by omega
    have hlt':(i:Int) < l.length:=by omega
    have w1:IntKind.i64.wrap ((i:Int)+1)=((i+1:Nat):Int):=Qas (by omega);have g1:=bs_get? l i hlt;have g2:∀ h:i < (⟨l.toArray⟩:ByteArray).size,(⟨l.toArray⟩:ByteArray)[i]'h=l[i]:=fun _=>rfl;have b1:=l[i].toNat_lt;have x1:IntKind.i64.wrap (l[i].toNat:Int)=l[i].toNat:=Qac (by omega) (by omega);have x2:IntKind.i64.wrap ((l[i].toNat:Int) - 48)=rds l[i]:=Qac (by omega) (by omega);have hn:=ih (i+1) (by omega);rw [Kau hlt,Kct,Kbd,Kdn] at hn;have hal:((l.take i).map rds).length=i:=by simp;omega
    generalize (l.take i).map rds=A at *
    have hlm:i+1<=274877906944:=by omega
    have htA:A.take i=A:=Kae (by omega);refine jL ?_;have Hq:=Qvr w1 hs hlt hlt' hal g1 g2 x1 x2 hlm htA;repeat refine go1 ?_
    exact hn
 have v1:=Qaa (Qnj (l.map rds) false (by simp;omega));have lp:=loop l.length 0 (by omega);rw [Kcz,Kdn] at lp;have htA:(l.map rds).take (l.map rds).length=l.map rds:=Kae (Kam _);have hll:(l.map rds).length=l.length:=by simp
 generalize l.map rds=A at *
 refine jC zt366 rfl ?_
 repeat refine go0 ?_
 refine Qab lp ?_;rintro ex st ⟨rfl,rfl⟩;show wp tb _ _ _;have Hq:=cj2 v1 htA;repeat refine go1 ?_
 simp [Jls]
def Qd1 (l:List UInt8):Option (List Int):=if Qba (l.map rdb) then some (l.map rdb) else none
theorem Qsh (l:List UInt8):Qba (l.map rds)=Qba (l.map rdb)/\(Qba (l.map rdb)=true->l.map rds=l.map rdb):=by
 by_cases h:∀ b ∈ l,48<=b.toNat
 . have:l.map rds=l.map rdb:=Kdr fun b hb=>by
    have:=h b hb;rw [rds,rdb,if_neg (by omega)]
   rw [this];exact ⟨rfl,fun _=>rfl⟩
 . have h2:∃ b ∈ l,b.toNat < 48:=by
    refine Kcx fun hh=>h fun b hb=>?_;refine Kcx fun hq=>hh ⟨b,hb,by omega⟩
   obtain ⟨b,hb,hq⟩:=h2;have n1:Qba (l.map rdb)=false:=by
    cases hv:Qba (l.map rdb) with
    | false=>rfl
    | true =>
      have h1:=Qcs hv (rdb b) (List.mem_map_of_mem hb);have h3:=(Qam hv).1;rw [rdb,if_pos (by omega)] at h1;omega
   have n2:Qba (l.map rds)=false:=by
    cases hv:Qba (l.map rds) with
    | false=>rfl
    | true =>
      have h1:=Qcs hv (rds b) (List.mem_map_of_mem hb);rw [rds] at h1;omega
   rw [n1,n2];exact ⟨rfl,fun h=>by cases h⟩
theorem Qkr (l:List UInt8) (hl:l.length<=1500000):∃ X,Ev tb Jas [] [SB l] [] ⟨.tup [O X,Bo (Qd1 l).isSome],[],[],[]⟩/\∀ d,Qd1 l=some d->X=d:=by
 refine ⟨l.map rds,?_,fun d hd=>?_⟩
 . have:=Qm2 l hl;have hq:(Qd1 l).isSome=Qba (l.map rds):=by
    rw [(Qsh l).1,Qd1];split <;> simp_all
   rw [hq];exact this
 . rw [Qd1] at hd;split at hd
   . rename_i hv;cases hd;exact (Qsh l).2 hv
   . cases hd
theorem Qco {l:List UInt8} {d:List Int} (h:Qd1 l=some d):Qba d=true:=by
 rw [Qd1] at h;split at h
 . rename_i hv;cases h;exact hv
 . cases h
theorem Qoc (l:List UInt8) (hl:l.length<=1500000):∃ G,(∃ n es,G=.agg [I n,Z] \/ G=OG n es)/\Ev tb Quk [] [SB l] [] ⟨.tup [G,Bo (Qde l).isSome],[],[],[]⟩/\∀ n es,Qde l=some (n,es)->G=OG n es:=by
 by_cases hf:l.length < 2
 . have hp:Qde l=none:=by
    rw [Jfi,Jpu];have:Jbe l=none:=by
     match l,hf with
     | [],_=>rfl
     | [_],_=>rfl
    rw [this]
   refine ⟨.agg [I 0,Z],⟨0,[],.inl rfl⟩,?_,fun n es h=>by rw [hp] at h;cases h⟩;rw [hp];exact Qrf l hf
 . obtain ⟨h0,h1,r,rfl⟩:∃ h0 h1 r,l=h0::h1::r:=by
    match l,hf with
    | [],h=>exact absurd (by simp) h
    | [_],h=>exact absurd (by simp) h
    | a::b::r,_=>exact ⟨a,b,r,rfl⟩
   have e:=Jev h0 h1 r (by simp at hl;omega);refine ⟨OG (rds h0) (Qfq r),⟨_,_,.inr rfl⟩,?_,?_⟩
   . have hq:(Qde (h0::h1::r)).isSome=(Qak (rds h0) (Qfq r) && decide (gtx (rds h0) (Qfq r)=h0::h1::r)):=by
      rw [Jfi,Jpu,Jbe];by_cases hc:Qak (rds h0) (Qfq r)=true/\gtx (rds h0) (Qfq r)=h0::h1::r
      . show (if _ then _ else none:Option (Int×List (Int×Int))).isSome=_;rw [if_pos hc,hc.1,Kbo hc.2];rfl
      . show (if _ then _ else none:Option (Int×List (Int×Int))).isSome=_;rw [if_neg hc]
        symm
        show _=false;rw [Bool.and_eq_false_iff,Kcr];cases hv:Qak (rds h0) (Qfq r) with
        | false=>exact .inl rfl
        | true=>exact .inr fun h=>hc ⟨hv,h⟩
     rw [hq];exact e
   . intro n es h;rw [Jfi,Jpu,Jbe] at h;simp only at h;split at h
     . cases h;rfl
     . cases h
theorem Jh3 {c:UInt8}:∀ {x:List UInt8},c ∉ x->Qci c x=[x]
 | [],_=>rfl
 | b::x,h=>by
   simp only [Kaf,not_or] at h;rw [Qci,if_neg (Ne.symm h.1),Jh3 h.2]
theorem Qtu {c:UInt8}:∀ {x:List UInt8} (y:List UInt8),c ∉ x->Qci c (x++c::y)=x::Qci c y
 | [],y,_=>by simp [Qci]
 | b::x,y,h=>by
   simp only [Kaf,not_or] at h;rw [Kbk,Qci,if_neg (Ne.symm h.1),Qtu y h.2]
def Qag (l:List (List UInt8)):List (List IV):=l.map fun x=>[SB x]
theorem Jbr (l:List UInt8) (hl:l.length<=1500000):Ev tb Jjo [] [SB l] [] ⟨.own 1 (Qag (Qci 32 l)),[],[],[]⟩:=by
 have hs:(⟨l.toArray⟩:ByteArray).size=l.length:=rfl;have loop:∀ (m i f:Nat) (A:List (List UInt8)),i+m=l.length->f<=i->A.length<=f->32 ∉ (l.drop f).take (i - f)->A++Qci 32 (l.drop f)=Qci 32 l ->
  wp tb (.loop Jq9) { T:=[(0,SB l),(3,.own 1 (Qag A)),(4,I f),(5,I i)],loc:=[],M:=[] }
  fun ex st=>ex=.exit 0/\∃ (f:Nat) (A:List (List UInt8)),(f<=l.length/\A.length<=f/\A++[l.drop f]=Qci 32 l)/\st={ T:=[(0,SB l),(3,.own 1 (Qag A)),(4,I f),(5,I l.length),(10,Bo false)],loc:=[],M:=[] }:=by
  intro m
  induction m with
  | zero =>
    intro i f A hi hf hA hn hsp;have:i=l.length:=by omega
    subst this;refine jL ?_;have Hq:=hs;repeat refine go1 ?_
    refine ⟨rfl,f,A,⟨hf,hA,?_⟩,rfl⟩;rw [Kae (by simp)] at hn;rw [<- hsp,Jh3 hn]
  | succ m ih =>
    intro i f A hi hf hA hn hsp;have hlt:i < l.length:=by omega
    have hlt':(i:Int) < l.length:=by omega
    have w1:IntKind.i64.wrap ((i:Int)+1)=((i+1:Nat):Int):=Qas (by omega);have g1:=bs_get? l i hlt;have hsplit:l.drop f=(l.drop f).take (i - f)++l[i]::l.drop (i+1):=by
     have h1:(l.drop f).drop (i - f)=l.drop i:=by rw [Kdo];congr 1;omega
     conv=>lhs;rw [<- Kcg (i - f) (l.drop f),h1,Kay hlt]
    by_cases hq:l[i]=32
    . have hq2:l[i].toNat=32:=by rw [hq];rfl
      have hq3:((l[i].toNat:Nat):Int)=32:=by omega
      rw [hq] at hsplit;have hn2:=ih (i+1) (i+1) (A++[(l.drop f).take (i - f)]) (by omega) (Kam _) (by simp;omega) (by simp) (by
       have e2:Qci 32 (l.drop f)=(l.drop f).take (i - f)::Qci 32 (l.drop (i+1)):=by
        conv=>lhs;rw [hsplit]
        exact Qtu _ hn
       rw [<- hsp,e2,Kal];rfl)
      have c1:=Qhj l f i;have hAl:(Qag A).length=A.length:=by simp [Qag]
      have hlm:A.length+1<=274877906944:=by omega
      rw [show Qag (A++[(l.drop f).take (i - f)])=Qag A++[[SB ((l.drop f).take (i - f))]] from by simp [Qag]] at hn2;generalize (l.drop f).take (i - f)=P at *
      generalize Qag A=S at *
      have htA:S.take A.length=S:=Kae (by omega);have hfi:f<=i/\i<=l.length:=by omega
      have k1:f<=i:=by omega
      have k2:i<=l.length:=by omega
      refine jL ?_;have Hq:=Jlb hs hlt hlt' g1 hq2 hq3 hAl c1 k1 k2 hlm htA w1;repeat refine go1 ?_
      exact hn2
    . have hq2:¬ l[i].toNat=32:=fun h=>hq (by rw [<- UInt8.toNat_inj];exact h);have hq3:¬ ((l[i].toNat:Nat):Int)=32:=by omega
      have hn2:=ih (i+1) f A (by omega) (by omega) hA (by
       rw [show i+1 - f=(i - f)+1 by omega,List.take_succ,Kbp,show f+(i - f)=i by omega,Kag hlt];simp only [Option.toList_some,Kah,Kce,not_or];exact ⟨hn,Ne.symm hq⟩) hsp
      refine jL ?_;have Hq:=cj7 hs hlt hlt' g1 hq2 hq3 w1;repeat refine go1 ?_
      exact hn2
 have lp:=loop l.length 0 0 [] (by omega) (Kam _) (Kam _) (by simp) (by simp);refine jC zt379 rfl ?_
 repeat refine go0 ?_
 refine Qab lp ?_;rintro ex st ⟨rfl,f,A,⟨h1,h2,h3⟩,rfl⟩;show wp tb _ _ _;have c1:=Qhj l f l.length;rw [Kae (by simp)] at c1;have hAl:(Qag A).length=A.length:=by simp [Qag]
 have hlm:A.length+1<=274877906944:=by omega
 rw [<- h3,show Qag (A++[l.drop f])=Qag A++[[SB (l.drop f)]] from by simp [Qag]];generalize l.drop f=P at *
 generalize Qag A=S at *
 have htA:S.take A.length=S:=Kae (by omega);have Hq:=cj6 hs hAl c1 h1 hlm htA;repeat refine go1 ?_
 simp [Jm9]
end Go.Idl
namespace Go.Idl
def Qid:List Int->Nat
 | []=>1
 | x::r=>facN (x - 1).toNat * Qid r
theorem Jbi {xs ys:List Int} (h:xs.Perm ys):Qid xs=Qid ys:=by
 induction h with
 | nil=>rfl
 | cons x _ ih=>rw [Qid,Qid,ih]
 | swap x y r=>rw [Qid,Qid,Qid,Qid,Nat.mul_left_comm]
 | trans _ _ h1 h2=>rw [h1,h2]
theorem Qub:∀ (d:List Int) (o:Nat),divs d o=o / Qid d
 | [],o=>by simp [divs,Qid]
 | x::r,o=>by rw [divs,Qub r,Qid,Nat.div_div_eq_div_mul]
theorem Qr5:∀ d:List Int,0 < Qid d
 | []=>by decide
 | x::r=>Nat.mul_pos (Qxa _) (Qr5 r)
def Jxo (s:List Int):Bool:=!(decide (s.sum=2 * ((s.length:Int) - 1)) && Qd9 s) || (Jga (slS s) && decide (Qid s<=facN ((s.length:Int) - 2).toNat))
set_option maxRecDepth 100000 in
theorem Jhy:(List.range 8).all (fun n=>allD Jxo n (n - 1) [])=true:=by kernel_rfl
theorem Qv9 {xs ys:List Int} (h:xs.Perm ys):Qd9 xs=Qd9 ys:=by
 rw [Kdq,Qd9,Qd9,Kaj,Kaj];exact ⟨fun h1 x hx=>h1 x (h.mem_iff.2 hx),fun h1 x hx=>h1 x (h.mem_iff.1 hx)⟩
theorem Jyw (d:List Int) (h:Qba d=true):Qu2 d=true:=by
 have h1:=(Qam h).1;have h2:=Qcs h;have hc:=Kaj.1 Jhy d.length (Kaz.2 (by omega));have h3:=Jgt Jxo d.length (d.length - 1) [] (fall d) hc (Qaz d) (Qmi d) (fun x hx=>by
  have:=h2 x (Qxe.1 hx);omega)
 simp only [Ken,Kaq,Jxo,Qyk,Qaz,Qv9 (Qdu d),Jbi (Qdu d),<- Qyz] at h3;simp only [Qu2,Kac,Kbt,Kbj,Kby,Kai];simp only [Kbj,Kby,Bool.and_eq_false_iff,Kac,Kai,Kcr] at h3;have hgr:∀ hs:d.sum=2 * ((d.length:Int) - 1),Jga (Qa9 d)=true->Qa2 d=true:=fun hs hn=>by
  rw [Qa2,h];have:d.sum % 2=0:=by omega
  simp only [this,decide_true,Bool.and_true,Kbx];exact hn
 by_cases hd0:d.length=0
 . have:d=[]:=Kav.1 hd0;subst this;decide
 by_cases hd1:d.length=1
 . match d,hd1 with
   | [x],_ =>
     have:=h2 x (by simp);have:x=0:=by simp at this;omega
     subst this;decide +kernel
 by_cases hs:d.sum=2 * ((d.length:Int) - 1);rotate_left
 . have ht:Qfb d=false:=by
    simp only [Qfb,Bool.and_eq_false_iff,Kcr];exact .inr (by omega)
   rw [ht];refine ⟨?_,.inl rfl⟩;simp [Jjm,hd1,hs]
 cases hp:Qd9 d with
 | false =>
   have ht:Qfb d=false:=by simp [Qfb,Ju7,hp,hd1]
   rw [ht];refine ⟨?_,.inl rfl⟩;simp [Jjm,hd1,hp]
 | true =>
   rcases h3 with h3 | ⟨h3,h4⟩
   . rcases h3 with h3 | h3
     . exact absurd hs h3
     . rw [hp] at h3;cases h3
   . have ht:Qfb d=true:=by
      simp only [Qfb,Ju7,hgr hs h3,hp,Bool.or_true,Kbx,Kac,Kai];exact ⟨⟨by omega,by omega⟩,by omega⟩
     rw [ht];refine ⟨?_,.inr ?_⟩
     . simp only [Jjm,h,hp,hs,Kbx,decide_true,Bool.and_true]
       symm
       simp only [Kbj,Kai];exact .inr (by omega)
     . rw [cntT,Qub];exact Nat.div_pos h4 (Qr5 d)
end Go.Idl
namespace Go.Idl
def Cl (es:List (Int×Int)) (p:Nat->Bool):Prop:=∀ e ∈ es,p e.1.toNat=p e.2.toNat
def Con (n:Nat) (es:List (Int×Int)):Prop:=∀ p,Cl es p->∀ u v,u < n->v < n->p u=p v
theorem Qgm {α:Type} {p q:α->Bool}:∀ {l:List α},(∀ a ∈ l,p a=true->q a=true)->(∃ a ∈ l,p a=false/\q a=true)->l.countP p < l.countP q
 | [],_,⟨a,h,_⟩=>by cases h
 | b::l,hi,⟨a,ha,h1,h2⟩=>by
   rw [List.countP_cons,List.countP_cons];have hle:l.countP p<=l.countP q:=List.countP_mono_left fun x hx=>hi x (by simp [hx]);by_cases hab:a=b
   . subst hab;rw [h1,h2];simp;omega
   . have ha2:a ∈ l:=by
      rcases Kaf.1 ha with h | h
      . exact absurd h hab
      . exact h
     have:=Qgm (l:=l) (fun x hx=>hi x (by simp [hx])) ⟨a,ha2,h1,h2⟩;have hb:=hi b (by simp);cases hp:p b with
     | false=>cases q b <;> simp <;> omega
     | true=>rw [hb hp];simp;omega
theorem grow {n:Nat} {es:List (Int×Int)} (hC:Con n es) (hes:∀ e ∈ es,e.1.toNat < n/\e.2.toNat < n) (Z:Nat->Nat->Bool) (h0:∃ v,v < n/\Z 0 v=true) (hm:∀ k v,Z k v=true->Z (k+1) v=true)
 (he:∀ k,∀ e ∈ es,(Z k e.1.toNat=true \/ Z k e.2.toNat=true)->Z (k+1) e.1.toNat=true/\Z (k+1) e.2.toNat=true):∀ k,min (k+1) n<=(List.range n).countP (Z k)/\∃ v,v < n/\Z k v=true
 | 0=>by
   obtain ⟨v,hv,hz⟩:=h0;have:0 < (List.range n).countP (Z 0):=List.countP_pos_iff.2 ⟨v,Kaz.2 hv,hz⟩;exact ⟨by omega,v,hv,hz⟩
 | k+1=>by
   obtain ⟨ih,v,hv,hz⟩:=grow hC hes Z h0 hm he k;refine ⟨?_,v,hv,hm k v hz⟩;have hle:(List.range n).countP (Z k)<=(List.range n).countP (Z (k+1)):=List.countP_mono_left fun x _=>hm k x;by_cases hall:∀ u,u < n->Z k u=true
   . have:(List.range n).countP (Z k)=(List.range n).length:=List.countP_eq_length.2 fun a ha=>hall a (Kaz.1 ha);simp at this;omega
   . simp only [Kfd] at hall;obtain ⟨u,hu,hzu⟩:=hall;have hncl:¬ Cl es (Z k):=fun hc=>hzu (by rw [hC _ hc u v hu hv];exact hz);simp only [Cl,Kfd] at hncl;obtain ⟨e,hee,hne⟩:=hncl;have hlt:(List.range n).countP (Z k) < (List.range n).countP (Z (k+1)):=by
      have hb:=hes e hee;refine Qgm (fun x _=>hm k x) ?_;cases h1:Z k e.1.toNat with
      | true =>
        have h2:Z k e.2.toNat=false:=by
         cases h2:Z k e.2.toNat with
         | false=>rfl
         | true=>rw [h1,h2] at hne;exact absurd rfl hne
        exact ⟨_,Kaz.2 hb.2,h2,(he k e hee (.inl h1)).2⟩
      | false =>
        have h2:Z k e.2.toNat=true:=by
         cases h2:Z k e.2.toNat with
         | true=>rfl
         | false=>rw [h1,h2] at hne;exact absurd rfl hne
        exact ⟨_,Kaz.2 hb.1,h1,(he k e hee (.inr h2)).1⟩
     omega
theorem Qy0 {n:Nat} {es:List (Int×Int)} (hC:Con n es) (hes:∀ e ∈ es,e.1.toNat < n/\e.2.toNat < n) (Z:Nat->Nat->Bool) (h0:∃ v,v < n/\Z 0 v=true) (hm:∀ k v,Z k v=true->Z (k+1) v=true)
 (he:∀ k,∀ e ∈ es,(Z k e.1.toNat=true \/ Z k e.2.toNat=true)->Z (k+1) e.1.toNat=true/\Z (k+1) e.2.toNat=true):∀ v,v < n->Z n v=true:=fun v hv=>by
 have h1:=(grow hC hes Z h0 hm he n).1;have h2:(List.range n).countP (Z n)<=(List.range n).length:=Kej;simp at h2;have h3:(List.range n).countP (Z n)=(List.range n).length:=by simp;omega
 exact List.countP_eq_length.1 h3 v (Kaz.2 hv)
theorem Qf3 (es:List (Int×Int)):∀ (k:Nat) (o:List Int),Qkf es (k+1) o=es.foldl Qd3 (Qkf es k o)
 | 0,_=>rfl
 | k+1,o=>by rw [Qkf,Qf3 es k,Qkf]
theorem Qf0 {o:List Int} {e:Int×Int} (h1:e.1.toNat < o.length) (h2:e.2.toNat < o.length) (v:Nat) :
 (Qd3 o e).getD v 0=if v=e.1.toNat \/ v=e.2.toNat then min (o.getD e.1.toNat 0) (o.getD e.2.toNat 0) else o.getD v 0:=by
 rw [Qd3,Kad,Kdp,Kdp];by_cases k2:v=e.2.toNat
 . subst k2;simp [h2]
 . by_cases k1:v=e.1.toNat
   . subst k1;simp [h1,Ne.symm k2]
   . simp [k1,k2,Ne.symm k1,Ne.symm k2]
def Jcv (n:Nat) (p:Nat->Bool) (o:List Int):Prop:=o.length=n/\∀ v,v < n->0<=o.getD v 0/\o.getD v 0<=v/\p (o.getD v 0).toNat=p v
theorem Qll {n:Nat} {p:Nat->Bool} {o:List Int} {e:Int×Int} (h1:e.1.toNat < n) (h2:e.2.toNat < n) (hp:p e.1.toNat=p e.2.toNat) (h:Jcv n p o):Jcv n p (Qd3 o e):=by
 refine ⟨by rw [Qgl];exact h.1,fun v hv=>?_⟩;rw [Qf0 (by rw [h.1];exact h1) (by rw [h.1];exact h2)];have a:=h.2 _ h1;have b:=h.2 _ h2;split
 . rename_i hq;have hpm:p (min (o.getD e.1.toNat 0) (o.getD e.2.toNat 0)).toNat=p v:=by
    have hpv:p v=p e.1.toNat:=by
     rcases hq with rfl | rfl
     . rfl
     . exact hp.symm
    rcases Int.le_total (o.getD e.1.toNat 0) (o.getD e.2.toNat 0) with hl | hl
    . rw [Int.min_eq_left hl,a.2.2,hpv]
    . rw [Int.min_eq_right hl,b.2.2,hpv,hp]
   refine ⟨by omega,?_,hpm⟩;rcases hq with rfl | rfl <;> omega
 . exact h.2 v hv
theorem Qxp {n:Nat} {p:Nat->Bool}:∀ (es:List (Int×Int)) {o:List Int},(∀ e ∈ es,e.1.toNat < n/\e.2.toNat < n)->Cl es p->Jcv n p o->Jcv n p (es.foldl Qd3 o)
 | [],_,_,_,h=>h
 | e::es,_,he,hc,h=>Qxp es (fun x hx=>he x (by simp [hx])) (fun x hx=>hc x (by simp [hx])) (Qll (he e (by simp)).1 (he e (by simp)).2 (hc e (by simp)) h)
theorem Qk3 {n:Nat} {p:Nat->Bool} {es:List (Int×Int)} (he:∀ e ∈ es,e.1.toNat < n/\e.2.toNat < n) (hc:Cl es p):∀ (k:Nat) {o:List Int},Jcv n p o->Jcv n p (Qkf es k o)
 | 0,_,h=>h
 | k+1,_,h=>Qk3 he hc k (Qxp es he hc h)
theorem Qk7 (n:Nat) (p:Nat->Bool):Jcv n p (Qbx n (-1)):=by
 have hg:∀ v,v < n->(Qbx n (-1)).getD v 0=(v:Int):=fun v hv=>by
  rw [Qbe,Kad,Kdx,Kfh hv];rfl
 refine ⟨by rw [Qbe];simp,fun v hv=>?_⟩;rw [hg v hv];exact ⟨by omega,by omega,by rw [Kax]⟩
theorem Qi7 {n:Nat}:∀ (es:List (Int×Int)) {o:List Int} {v:Nat},(∀ e ∈ es,e.1.toNat < n/\e.2.toNat < n)->Jcv n (fun _=>true) o->v < n->o.getD v 0=0->(es.foldl Qd3 o).getD v 0=0
 | [],_,_,_,_,_,h=>h
 | e::es,o,v,he,hi,hv,h=>by
   have hb:=he e (by simp);have hi2:=Qll hb.1 hb.2 rfl hi;refine Qi7 es (fun x hx=>he x (by simp [hx])) hi2 hv ?_;rw [Qf0 (by rw [hi.1];exact hb.1) (by rw [hi.1];exact hb.2)];have a:=hi.2 _ hb.1;have b:=hi.2 _ hb.2;split
   . rename_i hq;rcases hq with rfl | rfl <;> omega
   . exact h
theorem Qsn {n:Nat}:∀ (es:List (Int×Int)) {o:List Int},(∀ e ∈ es,e.1.toNat < n/\e.2.toNat < n)->Jcv n (fun _=>true) o->∀ e ∈ es,(o.getD e.1.toNat 0=0 \/ o.getD e.2.toNat 0=0) ->
 (es.foldl Qd3 o).getD e.1.toNat 0=0/\(es.foldl Qd3 o).getD e.2.toNat 0=0
 | [],_,_,_,_,h,_=>by cases h
 | f::es,o,he,hi,e,hm,h=>by
   have hb:=he f (by simp);have hbe:=he e hm;have he':∀ e ∈ es,e.1.toNat < n/\e.2.toNat < n:=fun x hx=>he x (by simp [hx]);have hi2:=Qll hb.1 hb.2 rfl hi;have a:=hi.2 _ hb.1;have b:=hi.2 _ hb.2;have rg:=fun v=>Qf0 (o:=o) (e:=f) (by rw [hi.1];exact hb.1) (by rw [hi.1];exact hb.2) v;rcases Kaf.1 hm with rfl | hm2
   . refine ⟨Qi7 es he' hi2 hb.1 ?_,Qi7 es he' hi2 hb.2 ?_⟩
     . rw [rg,if_pos (.inl rfl)];omega
     . rw [rg,if_pos (.inr rfl)];omega
   . refine Qsn es he' hi2 e hm2 ?_;rcases h with h | h
     . left;rw [rg];split
       . rename_i hq;rcases hq with hq | hq <;> rw [hq] at h <;> omega
       . exact h
     . right;rw [rg];split
       . rename_i hq;rcases hq with hq | hq <;> rw [hq] at h <;> omega
       . exact h
theorem Jp1 {n:Nat} (hn1:1<=n) {es:List (Int×Int)} (hes:∀ e ∈ es,e.1.toNat < n/\e.2.toNat < n) (hC:Con n es):∀ v,v < n->(Qkf es n (Qbx n (-1))).getD v 0=0:=by
 have hi:∀ k,Jcv n (fun _=>true) (Qkf es k (Qbx n (-1))):=fun k=>Qk3 hes (fun _ _=>rfl) k (Qk7 n _);have hb:=Qk7 n (fun _=>true);have hA:∀ v,v < n->(fun (k v:Nat)=>decide (v < n) && decide ((Qkf es k (Qbx n (-1))).getD v 0=0)) n v=true:=by
  refine Qy0 hC hes (fun k v=>decide (v < n) && decide ((Qkf es k (Qbx n (-1))).getD v 0=0)) ⟨0,by omega,?_⟩ (fun k v h=>?_) (fun k e he h=>?_)
  . have hz:=hb.2 0 (by omega);have hz2:(Qbx n (-1)).getD 0 0=0:=by
     have h1:=hz.1;have h2:=hz.2.1;omega
    show (decide (0 < n) && decide ((Qbx n (-1)).getD 0 0=0))=true;rw [Kbo (show 0 < n by omega),Kbo hz2];rfl
  . simp only [Kac,Kai] at h |-;rw [Qf3];exact ⟨h.1,Qi7 es hes (hi k) h.1 h.2⟩
  . have hbe:=hes e he;simp only [Kac,Kai] at h |-;rw [Qf3];have:=Qsn es hes (hi k) e he (h.elim (fun h=>.inl h.2) (fun h=>.inr h.2));exact ⟨⟨hbe.1,this.1⟩,⟨hbe.2,this.2⟩⟩
 intro v hv;have:=hA v hv;simp only [Kac,Kai] at this;exact this.2
theorem Qti (n:Nat) (es:List (Int×Int)):(Qm7 n es).length=((rgF n 0).filter (isR (Qkf es n (Qbx n (-1))))).length:=by rw [Qm7,Qkb,Kcu]
theorem Jfp (n:Nat) (es:List (Int×Int)):(Qlv n es 0).length=((rgF n 0).filter (hdV n es)).length:=by rw [Qlv,Kcu]
theorem Qw7 {n:Nat} (hn1:1<=n) (p:Int->Bool) (h0:p 0=true) (h:∀ v:Nat,v < n->1<=v->p v=false):((rgF n 0).filter p).length=1:=by
 rw [Qg7 (show 0 < n by omega),show ((0:Nat):Int)=0 from rfl,Kdd h0,List.filter_eq_nil_iff.2 fun x hx=>?_]
 . rfl
 . have hb:=Qhp.1 hx;obtain ⟨k,rfl⟩:=Kbm (show 0<=x by omega);rw [h k (by omega) (by omega)];simp
theorem Qx8 {n:Nat} (p:Int->Bool) {a b:Nat} (ha:a < n) (hb:b < n) (hab:a ≠ b) (pa:p a=true) (pb:p b=true):2<=((rgF n 0).filter p).length:=by
 have:[(a:Int),(b:Int)].length<=((rgF n 0).filter p).length:=Jep (by simp;omega) fun x hx=>by
  simp only [Kaf,Kaw,Kcf] at hx;rcases hx with rfl | rfl
  . exact Kbr.2 ⟨Qhp.2 (by omega),pa⟩
  . exact Kbr.2 ⟨Qhp.2 (by omega),pb⟩
 simpa using this
theorem Qpv {n:Nat} {p:Nat->Bool} {b:Bool} {v:Nat} (hv:v < n) (h:p v=b):∃ r,r < n/\p r=b/\∀ u,u < r->p u ≠ b:=by
 induction v using Nat.strongRecOn with
 | _ v ih =>
   by_cases hq:∃ u,u < v/\p u=b
   . obtain ⟨u,hu,hpu⟩:=hq;exact ih u hu (by omega) hpu
   . exact ⟨v,hv,h,fun u hu hpu=>hq ⟨u,hu,hpu⟩⟩
theorem Jgj {n:Nat} {es:List (Int×Int)} (h:¬ Con n es):∃ p a b,Cl es p/\a < n/\b < n/\p a=true/\p b=false/\(∀ u,u < a->p u ≠ true)/\∀ u,u < b->p u ≠ false:=by
 simp only [Con,Kfd] at h;obtain ⟨p,hc,u,v,hu,hv,hne⟩:=h;have ht:∃ x,x < n/\p x=true:=by
  cases h1:p u with
  | true=>exact ⟨u,hu,h1⟩
  | false =>
    cases h2:p v with
    | true=>exact ⟨v,hv,h2⟩
    | false=>rw [h1,h2] at hne;exact absurd rfl hne
 have hf:∃ x,x < n/\p x=false:=by
  cases h1:p u with
  | false=>exact ⟨u,hu,h1⟩
  | true =>
    cases h2:p v with
    | false=>exact ⟨v,hv,h2⟩
    | true=>rw [h1,h2] at hne;exact absurd rfl hne
 obtain ⟨x,hx,hpx⟩:=ht;obtain ⟨y,hy,hpy⟩:=hf;obtain ⟨a,a1,a2,a3⟩:=Qpv hx hpx;obtain ⟨b,b1,b2,b3⟩:=Qpv hy hpy;exact ⟨p,a,b,hc,a1,b1,a2,b2,a3,b3⟩
theorem Jea {n:Nat} (hn1:1<=n) {es:List (Int×Int)} (hes:∀ e ∈ es,e.1.toNat < n/\e.2.toNat < n):(Qm7 n es).length=1 <-> Con n es:=by
 rw [Qti];constructor
 . intro h1;refine Kcx fun hC=>?_;obtain ⟨p,a,b,hc,ha,hb,pa,pb,la,lb⟩:=Jgj hC;have hi:=Qk3 hes hc n (Qk7 n p);have key:∀ (r:Nat) (x:Bool),r < n->p r=x->(∀ u,u < r->p u ≠ x)->isR (Qkf es n (Qbx n (-1))) r=true:=fun r x hr hpr hl=>by
    rw [isR,inP,Kax,Kai];have:=hi.2 r hr;by_cases hq:(Qkf es n (Qbx n (-1))).getD r 0=r
    . exact hq
    . exact absurd (this.2.2.trans hpr) (hl _ (by omega))
   have:=Qx8 (isR (Qkf es n (Qbx n (-1)))) ha hb (fun h=>by rw [h,pb] at pa;cases pa) (key a true ha pa la) (key b false hb pb lb);omega
 . intro hC;have hz:=Jp1 hn1 hes hC;refine Qw7 hn1 _ ?_ fun v hv h1=>?_
   . rw [isR,inP,Kai];exact hz 0 (by omega)
   . rw [isR,inP,Kax,hz v hv,Kcr];omega
theorem Qmn (es:List (Int×Int)):∀ (k:Nat) (o:List Bool),Qsw es (k+1) o=es.foldl Qrl (Qsw es k o)
 | 0,_=>rfl
 | k+1,o=>by rw [Qsw,Qmn es k,Qsw]
theorem Qre {l:List Bool} {e:Int×Int} (h1:e.1.toNat < l.length) (h2:e.2.toNat < l.length) (v:Nat) :
 (Qrl l e).getD v false=if (l.getD e.1.toNat false || l.getD e.2.toNat false)=true/\(v=e.1.toNat \/ v=e.2.toNat) then true else l.getD v false:=by
 rw [Qrl];by_cases hq:(l.getD e.1.toNat false || l.getD e.2.toNat false)=true
 . by_cases k2:v=e.2.toNat
   . have hR:(if (l.getD e.1.toNat false || l.getD e.2.toNat false)=true/\(v=e.1.toNat \/ v=e.2.toNat) then true else l.getD v false)=true:=if_pos ⟨hq,.inr k2⟩;rw [hR,if_pos hq,Kad,k2,Kbl (by simpa using h2)];rfl
   . by_cases k1:v=e.1.toNat
     . have hR:(if (l.getD e.1.toNat false || l.getD e.2.toNat false)=true/\(v=e.1.toNat \/ v=e.2.toNat) then true else l.getD v false)=true:=if_pos ⟨hq,.inl k1⟩;rw [hR,if_pos hq,Kad,Kbi (Ne.symm k2),k1,Kbl h1];rfl
     . have hR:(if (l.getD e.1.toNat false || l.getD e.2.toNat false)=true/\(v=e.1.toNat \/ v=e.2.toNat) then true else l.getD v false)=l.getD v false:=if_neg fun h=>h.2.elim k1 k2;rw [hR,if_pos hq,Kad,Kbi (Ne.symm k2),Kbi (Ne.symm k1),Kad]
 . rw [if_neg hq,if_neg fun h=>hq h.1]
theorem Qon {n:Nat}:∀ (es:List (Int×Int)) {l:List Bool},l.length=n->(∀ e ∈ es,e.1.toNat < n/\e.2.toNat < n)->∀ e ∈ es,(l.getD e.1.toNat false=true \/ l.getD e.2.toNat false=true) ->
 (es.foldl Qrl l).getD e.1.toNat false=true/\(es.foldl Qrl l).getD e.2.toNat false=true
 | [],_,_,_,_,h,_=>by cases h
 | f::es,l,hl,he,e,hm,h=>by
   have he':∀ e ∈ es,e.1.toNat < n/\e.2.toNat < n:=fun x hx=>he x (by simp [hx]);have hb:=he f (by simp);rcases Kaf.1 hm with rfl | hm2
   . have hq:(l.getD e.1.toNat false || l.getD e.2.toNat false)=true:=by
      rcases h with h | h <;> rw [h] <;> simp
     refine ⟨Qgo es ?_,Qgo es ?_⟩
     . rw [Qre (by omega) (by omega),if_pos ⟨hq,.inl rfl⟩]
     . rw [Qre (by omega) (by omega),if_pos ⟨hq,.inr rfl⟩]
   . exact Qon es (by rw [Qlk,hl]) he' e hm2 (h.elim (fun h=>.inl (Qlw h)) (fun h=>.inr (Qlw h)))
theorem Qr0 {p:Nat->Bool} {v n:Nat}:∀ (es:List (Int×Int)) {l:List Bool},l.length=n->(∀ e ∈ es,e.1.toNat < n/\e.2.toNat < n)->Cl es p->(∀ u,l.getD u false=true->p u=p v)->∀ u,(es.foldl Qrl l).getD u false=true->p u=p v
 | [],_,_,_,_,h=>h
 | e::es,l,hl,he,hc,h=>by
   have hb:=he e (by simp);refine Qr0 es (by rw [Qlk,hl]) (fun x hx=>he x (by simp [hx])) (fun x hx=>hc x (by simp [hx])) fun u hu=>?_;rw [Qre (by omega) (by omega)] at hu;split at hu
   . rename_i hq;have hce:=hc e (by simp);have h1:p e.1.toNat=p v:=by
      have hq1:=hq.1;rw [Kbj] at hq1;rcases hq1 with hq1 | hq1
      . exact h _ hq1
      . rw [hce];exact h _ hq1
     rcases hq.2 with rfl | rfl
     . exact h1
     . rw [<- hce];exact h1
   . exact h u hu
theorem Qx1 {p:Nat->Bool} {v n:Nat} {es:List (Int×Int)} (he:∀ e ∈ es,e.1.toNat < n/\e.2.toNat < n) (hc:Cl es p):∀ (k:Nat) {l:List Bool},l.length=n->(∀ u,l.getD u false=true->p u=p v)->∀ u,(Qsw es k l).getD u false=true->p u=p v
 | 0,_,_,h=>h
 | k+1,l,hl,h=>Qx1 he hc k (by rw [Qmt,hl]) (Qr0 es hl he hc h)
theorem Qrx {n v:Nat} (hv:v < n) (u:Nat):((List.replicate n false).set v true).getD u false=decide (u=v):=by
 rw [Kad,Kdp];by_cases h:v=u
 . subst h;simp [hv]
 . have:¬ u=v:=fun hh=>h hh.symm;rw [if_neg h,Kbf this,List.getElem?_replicate];split <;> rfl
theorem Juw (n:Nat) (es:List (Int×Int)) (v:Nat):(Qxt n es v).Pairwise (fun a b:Int=>a < b):=by
 refine List.Pairwise.filter _ ?_;rw [Jw4];exact Qlo n
theorem Jkr {n:Nat} (hn1:1<=n) {es:List (Int×Int)} (hes:∀ e ∈ es,e.1.toNat < n/\e.2.toNat < n):(Qlv n es 0).length=1 <-> Con n es:=by
 rw [Jfp];constructor
 . intro h1;refine Kcx fun hC=>?_;obtain ⟨p,a,b,hc,ha,hb,pa,pb,la,lb⟩:=Jgj hC;have key:∀ (r:Nat) (x:Bool),r < n->p r=x->(∀ u,u < r->p u ≠ x)->hdV n es r=true:=fun r x hr hpr hl=>by
    rw [hdV,Kax,Kai];have hm:=Qxx (es:=es) hr;have hpw:=Juw n es r;have hall:∀ u ∈ Qxt n es r,(r:Int)<=u:=fun u hu=>by
     have h2:=Kbr.1 hu;have hb:=Qhp.1 h2.1;have h3:=Qx1 (v:=r) hes hc n (l:=(List.replicate n false).set r true) (by simp) (fun w hw=>by rw [Qrx hr,Kai] at hw;rw [hw]) u.toNat h2.2;by_cases hq:(r:Int)<=u
     . exact hq
     . exact absurd (h3.trans hpr) (hl _ (by omega))
    cases hC:Qxt n es r with
    | nil=>rw [hC] at hm;cases hm
    | cons y ys =>
      rw [hC] at hm hpw hall;have hy:=hall y (by simp);rcases Kaf.1 hm with h | h
      . exact h.symm
      . have:=(Kbe.1 hpw).1 _ h;show y=r;omega
   have:=Qx8 (hdV n es) ha hb (fun h=>by rw [h,pb] at pa;cases pa) (key a true ha pa la) (key b false hb pb lb);omega
 . intro hC;have hall:∀ v,v < n->∀ u,u < n->(Qsw es n ((List.replicate n false).set v true)).getD u false=true:=fun v hv=>by
    have hlen:∀ k,(Qsw es k ((List.replicate n false).set v true)).length=n:=fun k=>by rw [Qq9];simp
    refine Qy0 hC hes (fun k u=>(Qsw es k ((List.replicate n false).set v true)).getD u false) ⟨v,hv,?_⟩ (fun k u h=>?_) (fun k e he h=>?_)
    . show ((List.replicate n false).set v true).getD v false=true;rw [Qrx hv];simp
    . rw [Qmn];exact Qgo es h
    . rw [Qmn];exact Qon es (hlen k) hes e he h
   have hcm:∀ v,v < n->Qxt n es v=rgF n 0:=fun v hv=>Keb.2 fun u hu=>by
    have hb:=Qhp.1 hu;exact hall v hv _ (by omega)
   have hhd:∀ v:Nat,v < n->hdV n es v=decide ((0:Int)=v):=fun v hv=>by
    rw [hdV,Kax,hcm v hv,Qg7 (show 0 < n by omega)];rfl
   refine Qw7 hn1 _ ?_ fun v hv h1=>?_
   . have:=hhd 0 (by omega);rw [show ((0:Nat):Int)=0 from rfl] at this;rw [this];rfl
   . rw [hhd v hv,Kcr];omega
end Go.Idl
namespace Go.Idl
def Qla (es:List (Int×Int)) (u v:Nat):Prop:=∀ p,Cl es p->p u=p v
theorem Qla.symm {es:List (Int×Int)} {u v:Nat} (h:Qla es u v):Qla es v u:=fun p hp=>(h p hp).symm
theorem Qla.trans {es:List (Int×Int)} {u v w:Nat} (h:Qla es u v) (k:Qla es v w):Qla es u w:=fun p hp=>(h p hp).trans (k p hp)
theorem Qla.mono {es fs:List (Int×Int)} (h:∀ e ∈ es,e ∈ fs) {u v:Nat} (k:Qla es u v):Qla fs u v:=fun p hp=>k p fun e he=>hp e (h e he)
theorem Jgb {es:List (Int×Int)} {e:Int×Int} (h:e ∈ es):Qla es e.1.toNat e.2.toNat:=fun _ hp=>hp e h
theorem grow2 {n:Nat} {es:List (Int×Int)} (S:Nat->Bool) (hSn:∀ u,S u=true->u < n) (hCl:Cl es S) (hC:∀ p,Cl es p->∀ u v,S u=true->S v=true->p u=p v) (Z:Nat->Nat->Bool) (h0:∃ v,S v=true/\Z 0 v=true) (hm:∀ k v,Z k v=true->Z (k+1) v=true)
 (he:∀ k,∀ e ∈ es,(Z k e.1.toNat=true \/ Z k e.2.toNat=true)->Z (k+1) e.1.toNat=true/\Z (k+1) e.2.toNat=true):∀ k,min (k+1) ((List.range n).countP S)<=(List.range n).countP (fun v=>S v && Z k v)/\∃ v,S v=true/\Z k v=true
 | 0=>by
   obtain ⟨v,hv,hz⟩:=h0;have:0 < (List.range n).countP (fun v=>S v && Z 0 v):=List.countP_pos_iff.2 ⟨v,Kaz.2 (hSn v hv),by rw [hv,hz];rfl⟩;exact ⟨by omega,v,hv,hz⟩
 | k+1=>by
   obtain ⟨ih,v,hv,hz⟩:=grow2 S hSn hCl hC Z h0 hm he k;refine ⟨?_,v,hv,hm k v hz⟩;have hmono:∀ x ∈ List.range n,(S x && Z k x)=true->(S x && Z (k+1) x)=true:=fun x _ h=>by
    rw [Kac] at h |-;exact ⟨h.1,hm k x h.2⟩
   have hle:=List.countP_mono_left hmono;by_cases hall:∀ u,S u=true->Z k u=true
   . have:(List.range n).countP (fun v=>S v && Z k v)=(List.range n).countP S:=List.countP_congr fun x _=>by
      rw [Kac];exact ⟨fun h=>h.1,fun h=>⟨h,hall x h⟩⟩
     omega
   . simp only [Kfd] at hall;obtain ⟨u,hu,hzu⟩:=hall;have hncl:¬ Cl es (fun x=>S x && Z k x):=fun hc=>by
      have:=hC _ hc u v hu hv;simp only [hu,hv,hz,Kbx] at this;exact hzu this
     simp only [Cl,Kfd] at hncl;obtain ⟨e,hee,hne⟩:=hncl;have hS:=hCl e hee;have hlt:(List.range n).countP (fun v=>S v && Z k v) < (List.range n).countP (fun v=>S v && Z (k+1) v):=by
      refine Qgm hmono ?_;cases h1:S e.1.toNat with
      | false=>rw [<- hS,h1] at hne;exact absurd rfl hne
      | true =>
        rw [<- hS,h1,Kbx,Kbx] at hne;have h1':=hS.symm.trans h1;cases h3:Z k e.1.toNat with
        | true =>
          have h2:Z k e.2.toNat=false:=by
           cases h2:Z k e.2.toNat with
           | false=>rfl
           | true=>rw [h3,h2] at hne;exact absurd rfl hne
          exact ⟨_,Kaz.2 (hSn _ h1'),by rw [h2,Bool.and_false],by rw [h1',(he k e hee (.inl h3)).2];rfl⟩
        | false =>
          have h2:Z k e.2.toNat=true:=by
           cases h2:Z k e.2.toNat with
           | true=>rfl
           | false=>rw [h3,h2] at hne;exact absurd rfl hne
          exact ⟨_,Kaz.2 (hSn _ h1),by rw [h3,Bool.and_false],by rw [h1,(he k e hee (.inr h2)).1];rfl⟩
     omega
theorem Qp0 {n:Nat}:∀ (es:List (Int×Int)) {o:List Int},o.length=n->(∀ e ∈ es,e.1.toNat < n/\e.2.toNat < n)->∀ v,(es.foldl Qd3 o).getD v 0<=o.getD v 0
 | [],_,_,_,_=>Int.le_refl _
 | e::es,o,hl,he,v=>by
   have hb:=he e (by simp);refine Int.le_trans (Qp0 es (by rw [Qgl];exact hl) (fun x hx=>he x (by simp [hx])) v) ?_;rw [Qf0 (by omega) (by omega)];split
   . rename_i hq;rcases hq with rfl | rfl <;> omega
   . exact Int.le_refl _
theorem Qj2 {n:Nat}:∀ (es:List (Int×Int)) {o:List Int},o.length=n->(∀ e ∈ es,e.1.toNat < n/\e.2.toNat < n)->∀ e ∈ es,
 (es.foldl Qd3 o).getD e.1.toNat 0<=min (o.getD e.1.toNat 0) (o.getD e.2.toNat 0)/\(es.foldl Qd3 o).getD e.2.toNat 0<=min (o.getD e.1.toNat 0) (o.getD e.2.toNat 0)
 | [],_,_,_,_,h=>by cases h
 | f::es,o,hl,he,e,hm=>by
   have hb:=he f (by simp);have he':∀ e ∈ es,e.1.toNat < n/\e.2.toNat < n:=fun x hx=>he x (by simp [hx]);have hl2:(Qd3 o f).length=n:=by rw [Qgl];exact hl
   have rg:=fun v=>Qf0 (o:=o) (e:=f) (by omega) (by omega) v;rw [Kdv];rcases Kaf.1 hm with rfl | hm2
   . have a:=Qp0 es hl2 he' e.1.toNat;have b:=Qp0 es hl2 he' e.2.toNat;rw [rg,if_pos (.inl rfl)] at a;rw [rg,if_pos (.inr rfl)] at b;exact ⟨a,b⟩
   . have ih:=Qj2 es hl2 he' e hm2;have le1:∀ v,(Qd3 o f).getD v 0<=o.getD v 0:=fun v=>by
      rw [rg];split
      . rename_i hq;rcases hq with rfl | rfl <;> omega
      . exact Int.le_refl _
     have a:=le1 e.1.toNat;have b:=le1 e.2.toNat;omega
abbrev rtF (n:Nat) (es:List (Int×Int)):List Int:=Qkf es n (Qbx n (-1))
open Classical in
theorem Qrh {n:Nat} {es:List (Int×Int)} (hes:∀ e ∈ es,e.1.toNat < n/\e.2.toNat < n) {v:Nat} (hv:v < n) :
 ∃ m:Nat,m < n/\Qla es v m/\(∀ u,u < n->Qla es v u->m<=u)/\∀ u,u < n->Qla es v u->(rtF n es).getD u 0=m:=by
 obtain ⟨S,hS⟩:∃ S:Nat->Bool,S=fun u=>decide (u < n/\Qla es v u):=⟨_,rfl⟩
 have hSi:∀ u,S u=true <-> u < n/\Qla es v u:=fun u=>by rw [hS];exact decide_eq_true_iff
 have hSv:S v=true:=(hSi v).2 ⟨hv,fun _ _=>rfl⟩;obtain ⟨m,hm1,hm2,hm3⟩:=Qpv hv hSv;have hSm:=(hSi m).1 hm2;have hmin:∀ u,S u=true->m<=u:=fun u hu=>Nat.le_of_not_lt fun h=>hm3 u h hu;have hCl:Cl es S:=fun e he=>by
  have hb:=hes e he;have hse:=Jgb he;rw [Kdq,hSi,hSi];exact ⟨fun h=>⟨hb.2,h.2.trans hse⟩,fun h=>⟨hb.1,h.2.trans hse.symm⟩⟩
 have hC:∀ p,Cl es p->∀ u w,S u=true->S w=true->p u=p w:=fun p hp u w hu hw =>
  (((hSi u).1 hu).2 p hp).symm.trans (((hSi w).1 hw).2 p hp)
 have hinv:∀ k,Jcv n S (Qkf es k (Qbx n (-1))):=fun k=>Qk3 hes hCl k (Qk7 n S);have hlow:∀ k u,S u=true->(m:Int)<=(Qkf es k (Qbx n (-1))).getD u 0:=fun k u hu=>by
  have h1:=(hinv k).2 u ((hSi u).1 hu).1;have:=hmin _ (h1.2.2.trans hu);omega
 have g:=grow2 S (fun u hu=>((hSi u).1 hu).1) hCl hC (fun k u=>S u && decide ((Qkf es k (Qbx n (-1))).getD u 0=m)) ⟨m,hm2,by
  show (S m && decide ((Qbx n (-1)).getD m 0=m))=true;rw [hm2,Kbx];refine Kbo ?_;rw [Qbe,Kad,Kdx,Kfh hm1];rfl⟩ (fun k u h=>by
  simp only [Kac,Kai] at h |-;have h1:=Qp0 es (hinv k).1 hes u;have h2:=hlow (k+1) u h.1;rw [Qf3] at h2 |-;exact ⟨h.1,by omega⟩) (fun k e he h=>by
  simp only [Kac,Kai] at h |-;have hse:=hCl e he;have hs1:S e.1.toNat=true:=h.elim (fun h=>h.1) (fun h=>hse.trans h.1);have hs2:=hse.symm.trans hs1;have h1:=Qj2 es (hinv k).1 hes e he;have h2:=hlow (k+1) _ hs1;have h3:=hlow (k+1) _ hs2;have h4:=hlow k _ hs1;have h5:=hlow k _ hs2;rw [Qf3] at h2 h3 |-;refine ⟨⟨hs1,?_⟩,hs2,?_⟩ <;> rcases h with h | h <;> omega) n
 have hcS:(List.range n).countP S<=n:=by have:=Kej (p:=S) (l:=List.range n);simpa using this
 have hall:∀ u,S u=true->(rtF n es).getD u 0=m:=fun u hu=>by
  refine Kcx fun hno=>?_;have hlt:(List.range n).countP (fun v=>S v && (S v && decide ((Qkf es n (Qbx n (-1))).getD v 0=m))) < (List.range n).countP S :=
   Qgm (fun x _ h=>by rw [Kac] at h;exact h.1) ⟨u,Kaz.2 ((hSi u).1 hu).1,by
    rw [Kbf hno];simp,hu⟩
  have:=g.1;omega
 exact ⟨m,hm1,hSm.2,fun u hu hs=>hmin u ((hSi u).2 ⟨hu,hs⟩),fun u hu hs=>hall u ((hSi u).2 ⟨hu,hs⟩)⟩
def Lb (n:Nat) (es:List (Int×Int)) (r:Nat):Bool:=decide ((rtF n es).getD r 0=r)
theorem Qsg (n:Nat) (es:List (Int×Int)):(Qm7 n es).length=(List.range n).countP (Lb n es):=by
 rw [Qti,rgF,Kcb,<- List.countP_eq_length_filter,List.countP_map];rfl
theorem Qza {n:Nat} {es:List (Int×Int)} (hes:∀ e ∈ es,e.1.toNat < n/\e.2.toNat < n) {r:Nat} (hr:r < n):Lb n es r=true <-> ∀ u,u < n->Qla es r u->r<=u:=by
 obtain ⟨m,h1,h2,h3,h4⟩:=Qrh hes hr;have h5:=h4 r hr (fun _ _=>rfl);rw [Lb,h5,Kai];constructor
 . intro h u hu hs;have:=h3 u hu hs;omega
 . intro h;have a:=h m h1 h2;have b:=h3 r hr (fun _ _=>rfl);omega
theorem joins {n:Nat} {es fs:List (Int×Int)} (hes:∀ e ∈ es,e.1.toNat < n/\e.2.toNat < n) (hfs:∀ e ∈ fs,e.1.toNat < n/\e.2.toNat < n) (h:∀ u v,Qla es u v->Qla fs u v) {x y:Nat} (hx:x < n) (hy:y < n) (h1:Qla fs x y) (h2:¬ Qla es x y) :
 (Qm7 n fs).length < (Qm7 n es).length:=by
 rw [Qsg,Qsg];refine Qgm (fun r hr hl=>(Qza hes (Kaz.1 hr)).2 fun u hu hs=>(Qza hfs (Kaz.1 hr)).1 hl u hu (h _ _ hs)) ?_;obtain ⟨a,a1,a2,a3,a4⟩:=Qrh hes hx;obtain ⟨b,b1,b2,b3,b4⟩:=Qrh hes hy;have hab:a ≠ b:=fun hh=>h2 (a2.trans (hh ▸ b2.symm));have hs:Qla fs a b:=(h _ _ a2.symm).trans (h1.trans (h _ _ b2));have key:∀ c d,c < n->d < n->c < d->Qla fs d c->(∀ u,u < n->Qla es d u->d<=u)->∃ r ∈ List.range n,Lb n fs r=false/\Lb n es r=true:=fun c d hc hd hcd hsd hl =>
  ⟨d,Kaz.2 hd,by
    cases hq:Lb n fs d with
    | false=>rfl
    | true=>have:=(Qza hfs hd).1 hq c hc hsd;omega,(Qza hes hd).2 hl⟩
 rcases Nat.lt_or_gt_of_ne hab with hlt | hlt
 . exact key a b a1 b1 hlt hs.symm fun u hu hs2=>b3 u hu (b2.trans hs2)
 . exact key b a b1 a1 hlt hs fun u hu hs2=>a3 u hu (a2.trans hs2)
end Go.Idl
namespace Go.Idl
open Go
theorem Jh6 {d:List Int} (hv:Qba d=true):(Qa2 d && decide ((if d.length=0 then 0 else (Qa9 d).getD (Qee (fall d) - 1) 0)=0))=decide (Qeb d=0):=by
 cases hg:Qa2 d with
 | false=>simp [Qeb,hg]
 | true =>
   rw [Qeb,hg,if_pos rfl,Kbx];by_cases h0:d.length=0
   . rw [if_pos h0,if_pos h0]
   rw [if_neg h0,if_neg h0];have hnn:∀ x ∈ fall d,0<=x:=fun x hx=>by
    have:=Qcs hv x ((Qdu _).mem_iff.1 hx);omega
   have h1:=Qwk (s:=fall d) (fun hh=>by have:=Qaz d;rw [hh] at this;simp at this;omega) hnn;have h2:=Qwf (fall d);rw [Qaz] at h2;have h7:=(Qam hv).1;have hget:(Qa9 d).getD (Qee (fall d) - 1) 0=slk (fall d) (Qee (fall d)):=by
    rw [Qyz,slS,Qaz,Kad,Kdx,Kfh (by omega)];simp only [Kes,Kdf];rw [show Qee (fall d) - 1+1=Qee (fall d) by omega]
   have hsl:=Jo8 (Qmi d);rw [Qyk] at hsl;simp only [Qa2,Kac,Kai,Kaj] at hg;have hge:0<=(Qa9 d).getD (Qee (fall d) - 1) 0:=by
    rw [Kad];cases hq:(Qa9 d)[Qee (fall d) - 1]? with
    | none=>simp
    | some x=>exact hg.2 x (Kbn hq)
   have hev:((Qee (fall d):Int) * ((Qee (fall d):Int) - 1)) % 2=0:=by
    generalize Qee (fall d)=k at *
    have:k=1 \/ k=2 \/ k=3 \/ k=4 \/ k=5 \/ k=6 \/ k=7:=by omega
    rcases this with h | h | h | h | h | h | h <;> rw [h] <;> decide
   rw [hget] at hge |-;have he:=hg.1.2;generalize (Qee (fall d):Int) * ((Qee (fall d):Int) - 1)=A at *
   generalize slk (fall d) (Qee (fall d))=s at *
   generalize ((fall d).take (Qee (fall d))).sum=t at *
   rw [Kfa,Kds hge];omega
theorem Qvq {n:Nat} {es:List (Int×Int)} (h:Qak n es=true):Jcb n es=Qfr n es:=by
 rw [Jcb,Qfr];exact Kel fun e _=>by rw [Jpt (Qcx.1 h).2.1]
abbrev Jnz:List UInt8:=[110,111,110,101]
abbrev Qe0:List UInt8:=[119,114,111,110,103]
abbrev Jmv:List UInt8:=[119,104,97,116]
abbrev wG:List UInt8:=[103,114,97,112,104,105,99]
abbrev wT:List UInt8:=[116,114,101,101]
abbrev wH:List UInt8:=[116,104,114,101,115,104,111,108,100]
abbrev wS:List UInt8:=[115,112,108,105,116]
abbrev wR:List UInt8:=[114,101,97,108,105,122,101]
abbrev wD:List UInt8:=[100,101,103,114,101,101,115]
abbrev wC:List UInt8:=[99,111,110,110,101,99,116,101,100]
abbrev wM:List UInt8:=[99,111,109,112,108,101,109,101,110,116]
abbrev wK:List UInt8:=[99,111,100,101]
theorem Ji0 (w C:List UInt8):Op.stringOp .eql (⟨w.toArray⟩:ByteArray) ⟨C.toArray⟩=Sem.pure (.bool (decide (w=C))):=by
 rw [Qyi];congr 2;rw [Kfa];constructor
 . intro h;have:=congrArg (fun b:ByteArray=>b.data.toList) h;simpa using this
 . intro h;rw [h]
structure SwW (B:ByteArray) (b0 b1 b2 b3 b4 b5 b6 b7 b8:Bool):Prop where
 s0:Op.stringOp .eql B ⟨#[103,114,97,112,104,105,99]⟩=Sem.pure (.bool b0)
 s1:Op.stringOp .eql B ⟨#[116,114,101,101]⟩=Sem.pure (.bool b1)
 s2:Op.stringOp .eql B ⟨#[116,104,114,101,115,104,111,108,100]⟩=Sem.pure (.bool b2)
 s3:Op.stringOp .eql B ⟨#[115,112,108,105,116]⟩=Sem.pure (.bool b3)
 s4:Op.stringOp .eql B ⟨#[114,101,97,108,105,122,101]⟩=Sem.pure (.bool b4)
 s5:Op.stringOp .eql B ⟨#[100,101,103,114,101,101,115]⟩=Sem.pure (.bool b5)
 s6:Op.stringOp .eql B ⟨#[99,111,110,110,101,99,116,101,100]⟩=Sem.pure (.bool b6)
 s7:Op.stringOp .eql B ⟨#[99,111,109,112,108,101,109,101,110,116]⟩=Sem.pure (.bool b7)
 s8:Op.stringOp .eql B ⟨#[99,111,100,101]⟩=Sem.pure (.bool b8)
theorem Qfp (w:List UInt8):SwW ⟨w.toArray⟩ (decide (w=wG)) (decide (w=wT)) (decide (w=wH)) (decide (w=wS)) (decide (w=wR)) (decide (w=wD)) (decide (w=wC)) (decide (w=wM)) (decide (w=wK)) :=
 ⟨Ji0 w wG,Ji0 w wT,Ji0 w wH,Ji0 w wS,Ji0 w wR,Ji0 w wD,Ji0 w wC,Ji0 w wM,Ji0 w wK⟩
def Qzi (w:List UInt8) (d:List Int):List UInt8 :=
 if w=wG then Qjm (Qa2 d) else if w=wT then Qjm (Qfb d) else if w=wH then Qjm (thr d) else if w=wS then Qjm (decide (Qeb d=0)) else
 match Qkx d with
 | some es=>gtx d.length (Qfs es)
 | none=>Jnz
def cnB (n:Nat) (es:List (Int×Int)):Bool:=decide (1<=n) && decide ((Qm7 n es).length=1)
def Jcn (w:List UInt8) (n:Nat) (es:List (Int×Int)):List UInt8 :=
 if w=wD then (Qda n es).map dgt else if w=wC then Qjm (cnB n es) else if w=wM then gtx n (Qfr n es) else if n=0 then Qe0 else
 match coI es n (Qbx n (-1)) [] [] with
 | some (l,_)=>l.map fun x=>UInt8.ofNat x.toNat
 | none=>Jnz
def Qfw (w t:List UInt8):List UInt8 :=
 if w ∈ [wG,wT,wH,wS,wR] then (match Qd1 t with | some d=>Qzi w d | none=>Qe0) else if w ∈ [wD,wC,wM,wK] then (match Qde t with | some (n,es)=>Jcn w n.toNat es | none=>Qe0) else Jmv
def Qnm (l:List UInt8):List UInt8:=match Qi9 32 l with
 | some (w,t)=>if (Qi9 32 t).isSome then Jmv else Qfw w t
 | none=>Jmv
theorem Jqp (b:Bool):Ev tb Qp5 [] [Bo b] [] ⟨SB (Qjm b),[],[],[]⟩:=by
 cases b <;>
 . refine jC zt221 rfl ?_
   repeat (first|apply jA|apply jQ|refine wr (by simp;with_reducible rfl) ?_|refine wt (by simpa) ?_|refine wf (by simpa) ?_|refine xt (by simpa) ?_|refine xf (by simpa) ?_|apply jB|apply Que|refine jX ?_|refine jY ?_|refine jR ?_|refine jK ?_|refine jE ?_)
   simp [Jl6,Qjm]
theorem Qmq (l:List UInt8) (hl:l.length<=1500000):Ev tb Jef [] [SB l] [] ⟨match Qd1 l with | some d=>.tup [nlI d,Bo true] | none=>.tup [Z,Bo false],[],[],[]⟩:=by
 have e1:=Qaa (Qfi l (by omega));have e2:=fun c=>Qaa (Qbk (l.map rdb) c (by simp;omega));rw [Qd1];cases hv:Qba (l.map rdb) with
 | false =>
   rw [hv] at e2;rw [if_neg (by simp)];have e2z:l.map rdb ≠ []:=fun h=>by rw [h] at hv;cases hv
   generalize l.map rdb=A at *
   cases A with
   | nil=>exact absurd rfl e2z
   | cons a A =>
     rw [show nlI (a::A)=O (a::A) from rfl] at e1;refine jC Jzd rfl ?_;have Hq:=cj2 e1 e2;repeat refine go1 ?_
     simp [Qz0]
 | true =>
   rw [hv] at e2;rw [if_pos rfl];generalize l.map rdb=A at *
   cases A with
   | nil =>
     rw [show nlI []=Z from rfl] at *
     have e3:∀ c,Qbc tb Jck [] [.lst 1 [] c] []=some ⟨Bo true,[],[],[]⟩:=e2;refine jC Jzd rfl ?_;have Hq:=cj2 e1 e3;repeat refine go1 ?_
     simp [Qz0,nlI]
   | cons a A =>
     rw [show nlI (a::A)=O (a::A) from rfl] at *
     refine jC Jzd rfl ?_;have Hq:=cj2 e1 e2;repeat refine go1 ?_
     simp [Qz0,nlI]
theorem Qnw (d:List Int) (c:Bool) (hv:Qba d=true):Ev tb Jhw [] [L d c] [] ⟨SB (d.map dgt),[],[],[]⟩:=by
 have h7:=(Qam hv).1;have e1:=fun c=>Qaa (Qbk d c (by omega));rw [hv] at e1;have e2:=fun c=>Qaa (Qir d c (by omega) (fun x hx=>by have:=Qcs hv x hx;omega));generalize d.map dgt=S at *
 refine jC zt162 rfl ?_;have Hq:=cj2 e1 e2;repeat refine go1 ?_
 simp [Jor]
theorem Qho (n:Nat) (hn:n<=7):Ev tb Qrz [] [.agg [I n,Z]] [] ⟨SB (gtx n []),[],[],[]⟩:=by
 have v1:=Qaa (Ql6 n);rw [show Qak n []=true by simp [Qak,vEs];omega] at v1;have e1:Qbc tb Ql8 [] [.lst 1 [[I (n:Int)]] false] []=some ⟨SB [dgt n],[],[],[]⟩:=Qaa (Qir [(n:Int)] false (by simp) (by simp;omega));have e2:=Qaa (Qr4 [44]);have a1:=Qcr (a:=[dgt n]) (b:=[58]) (by simp);have a2:=Qcr (a:=[dgt n]++[58]) (b:=[]) (by simp);have hg:gtx (n:Int) []=[dgt n]++[58]++[]:=rfl;rw [hg];generalize hG:[dgt (n:Int)]++[58]++[]=G at *
 generalize [dgt (n:Int)]++[58]=H at a1 a2;refine jC Jy6 rfl ?_;have Hq:=v1;repeat refine go1 ?_
 refine jL ?_;have Hq:=cj4 e1 e2 a1 a2;repeat refine go1 ?_
 simp [Qux]
end Go.Idl
namespace Go.Idl
open Go
theorem Qq4 (w:List UInt8) (d:List Int) (c:Bool) (hv:Qba d=true):Ev tb Jb1 [] [SB w,L d c] [] ⟨SB (Qzi w d),[],[],[]⟩:=by
 have h7:=(Qam hv).1;have hS:=Qfp w;have e1:=fun c=>Qaa (Qgr d c (by omega));have e2:=fun c=>Qaa (Qkm d c (by omega));have e3:=fun c=>Qaa (Qob d c (by omega));have e4:=fun c=>Qaa (Jbn d c (by omega));have y:=fun b=>Qaa (Jqp b);rw [Qzi];by_cases h0:w=wG
 . rw [if_pos h0];rw [Kbo h0] at hS;obtain ⟨s0,-,-,-,-,-,-,-,-⟩:=hS;have y1:=y (Qa2 d);generalize Qjm (Qa2 d)=Y at *
   generalize Qa2 d=b at *
   refine jC Qzk rfl ?_;have Hq:=cj3 s0 e1 y1;repeat refine go1 ?_
   simp [Qpn]
 rw [if_neg h0];rw [Kbf h0] at hS;by_cases h1:w=wT
 . rw [if_pos h1];rw [Kbo h1] at hS;obtain ⟨s0,s1,-,-,-,-,-,-,-⟩:=hS;have y1:=y (Qfb d);generalize Qjm (Qfb d)=Y at *
   generalize Qfb d=b at *
   refine jC Qzk rfl ?_;have Hq:=cj4 s0 s1 e2 y1;repeat refine go1 ?_
   simp [Qpn]
 rw [if_neg h1];rw [Kbf h1] at hS;by_cases h2:w=wH
 . rw [if_pos h2];rw [Kbo h2] at hS;obtain ⟨s0,s1,s2,-,-,-,-,-,-⟩:=hS;have y1:=y (thr d);generalize Qjm (thr d)=Y at *
   generalize thr d=b at *
   refine jC Qzk rfl ?_;have Hq:=cj5 s0 s1 s2 e3 y1;repeat refine go1 ?_
   simp [Qpn]
 rw [if_neg h2];rw [Kbf h2] at hS;by_cases h3:w=wS
 . rw [if_pos h3];rw [Kbo h3] at hS;obtain ⟨s0,s1,s2,s3,-,-,-,-,-⟩:=hS;have y1:=y (decide (Qeb d=0));generalize Qjm (decide (Qeb d=0))=Y at *
   generalize decide (Qeb d=0)=b at *
   refine jC Qzk rfl ?_;have Hq:=cj6 s0 s1 s2 s3 e4 y1;repeat refine go1 ?_
   simp [Qpn]
 rw [if_neg h3];rw [Kbf h3] at hS;obtain ⟨s0,s1,s2,s3,-,-,-,-,-⟩:=hS;have e5:=fun c=>Qaa (Qjg d c hv);have hlaw:=(Qqs d hv).2;cases hr:Qkx d with
 | none =>
   rw [hr] at e5;refine jC Qzk rfl ?_;have Hq:=cj5 s0 s1 s2 s3 e5;repeat refine go1 ?_
   simp [Qpn]
 | some es =>
   rw [hr] at e5;obtain ⟨k1,-⟩:=hlaw es hr;have hf:Fit (Qfs es):=fun e he=>by have:=Qq3 k1 e he;omega
   have hel:=Qec k1;have g1:=fun c=>Qaa (Qcy d.length (Qfs es) c hf (by omega));rw [k1,if_pos rfl] at g1;have e5:∀ c,Qbc tb Qug [] [L d c] []=some ⟨.tup [OG d.length (Qfs es),Bo true],[],[],[]⟩:=e5;simp only;generalize gtx (d.length:Int) (Qfs es)=Y at *
   generalize Qfs es=E at *
   refine jC Qzk rfl ?_;have Hq:=cj6 s0 s1 s2 s3 e5 g1;repeat refine go1 ?_
   simp [Qpn]
theorem Qvk (w:List UInt8) (n:Nat) (es:List (Int×Int)) (c:Bool) (hv:Qak n es=true):Ev tb Jkz [] [SB w,Gr n es c] [] ⟨SB (Jcn w n es),[],[],[]⟩:=by
 have h7:=(Qcx.1 hv).2.2;have hel:=Qec hv;have hin:=Qq3 hv;have hf:Fit es:=fun e he=>by have:=hin e he;omega
 have hS:=Qfp w;rw [Jcn];by_cases h0:w=wD
 . rw [if_pos h0];rw [Kbo h0] at hS;obtain ⟨-,-,-,-,-,s5,-,-,-⟩:=hS;have e1:=fun c=>Qaa (Qki n es c (by omega) (by omega) hin);have e2:=fun c=>Qaa (Qnw (Qda n es) c (Qew hv));generalize (Qda n es).map dgt=Y at *
   generalize Qda n es=D at *
   refine jC Qwl rfl ?_;have Hq:=cj3 s5 e1 e2;repeat refine go1 ?_
   simp [Qnt]
 rw [if_neg h0];rw [Kbf h0] at hS;by_cases h1:w=wC
 . rw [if_pos h1];rw [Kbo h1] at hS;obtain ⟨-,-,-,-,-,s5,s6,-,-⟩:=hS;have e1:∀ c,Qbc tb Qvu [] [Gr n es c] []=some ⟨Bo (cnB n es),[],[],[]⟩:=fun c=>by
    have v1:=Qaa (Qdl n es c hf (by omega));rw [hv] at v1;rw [cnB];by_cases hn:1<=n
    . rw [Kbo hn,Kbx];exact Qaa (Qn6 n hn 2 es c (.inl rfl) (by omega) hv v1)
    . have hn0:n=0:=by omega
      subst hn0;rw [Kbf (by omega),Kee];exact Qaa (Qku es c v1)
   have y1:=Qaa (Jqp (cnB n es));generalize Qjm (cnB n es)=Y at *
   generalize cnB n es=b at *
   refine jC Qwl rfl ?_;have Hq:=cj4 s5 s6 e1 y1;repeat refine go1 ?_
   simp [Qnt]
 rw [if_neg h1];rw [Kbf h1] at hS;by_cases h2:w=wM
 . rw [if_pos h2];rw [Kbo h2] at hS;obtain ⟨-,-,-,-,-,s5,s6,s7,-⟩:=hS;have e1:=fun c=>Qaa (Qh6 n (by omega) es c (by omega));have k1:Qak n (Qfr n es)=true:=Qlj h7 es;have kf:Fit (Qfr n es):=fun e he=>by have:=Qq3 k1 e he;omega
   have kel:=Qec k1;have g1:=fun c=>Qaa (Qcy n (Qfr n es) c kf (by omega));rw [k1,if_pos rfl] at g1;have g2:=Qaa (Qho n h7);cases hE:Qfr n es with
   | nil =>
     rw [hE] at e1;rw [Qc2] at e1;generalize gtx (n:Int) []=Y at *
     refine jC Qwl rfl ?_;have Hq:=cj5 s5 s6 s7 e1 g2;repeat refine go1 ?_
     simp [Qnt]
   | cons x r =>
     rw [hE] at e1 g1;rw [Qcj] at e1;generalize gtx (n:Int) (x::r)=Y at *
     generalize x::r=E at *
     refine jC Qwl rfl ?_;have Hq:=cj5 s5 s6 s7 e1 g1;repeat refine go1 ?_
     simp [Qnt]
 rw [if_neg h2];rw [Kbf h2] at hS;obtain ⟨-,-,-,-,-,s5,s6,s7,-⟩:=hS;by_cases hn:n=0
 . subst hn;rw [if_pos rfl];refine jC Qwl rfl ?_;have Hq:=cj3 s5 s6 s7;repeat refine go1 ?_
   simp [Qnt]
 rw [if_neg hn];have hn1:¬ (n:Int)=0:=by omega
 have hn2:((n:Int) == 0)=false:=by simpa using hn
 have e1:=fun c=>Qaa (Qn5 n es c hf (by omega) hv hn1);rw [Kax] at e1;cases hq:coI es n (Qbx n (-1)) [] [] with
 | none =>
   rw [hq] at e1;simp only [Qix] at e1;refine jC Qwl rfl ?_;have Hq:=cj7 s5 s6 s7 hn hn1 hn2 e1;repeat refine go1 ?_
   simp [Qnt]
 | some r =>
   obtain ⟨l,o⟩:=r;rw [hq] at e1;simp only [Qix,Qbi] at e1;show Ev tb _ _ _ _ ⟨SB (l.map fun x=>UInt8.ofNat x.toNat),[],[],[]⟩;generalize (l.map fun x=>UInt8.ofNat x.toNat)=Y at *
   refine jC Qwl rfl ?_;have Hq:=cj7 s5 s6 s7 hn hn1 hn2 e1;repeat refine go1 ?_
   simp [Qnt]
theorem Qjw (cs:List (List UInt8)) (c:Bool) (w:List UInt8) (hl:cs.length<=1000):Ev tb Qtv [] [.lst 1 (Qag cs) c,SB w] [] ⟨Bo (decide (w ∈ cs)),[],[],[]⟩:=by
 have hsl:(Qag cs).length=cs.length:=by simp [Qag]
 have loop:∀ (m i:Nat),i+m=cs.length->w ∉ cs.take i->wp tb (.loop Jr7) { T:=[(0,.lst 1 (Qag cs) c),(1,SB w),(7,I cs.length),(8,I i)],loc:=[],M:=[] }
  fun ex st=>(w ∉ cs/\ex=.exit 0/\st={ T:=[(0,.lst 1 (Qag cs) c),(1,SB w),(7,I cs.length),(8,I cs.length),(9,Bo false)],loc:=[],M:=[] }) \/ (w ∈ cs/\ex=.ret/\∃ j:Nat,st={ T:=[(4,I j)],loc:=[],M:=[] }):=by
  intro m
  induction m with
  | zero =>
    intro i hi hn;have:i=cs.length:=by omega
    subst this;rw [Kdb] at hn;refine jL ?_
    repeat refine go0 ?_
    exact .inl ⟨hn,rfl,rfl⟩
  | succ m ih =>
    intro i hi hn;have hlt:i < cs.length:=by omega
    have hlt':(i:Int) < cs.length:=by omega
    have w1:IntKind.i64.wrap ((i:Int)+1)=((i+1:Nat):Int):=Qas (by omega);have hlt2:i < (Qag cs).length:=by omega
    have g1:(Qag cs)[i]? = some [SB cs[i]]:=by simp [Qag,hlt]
    have g2:(Qag cs)[i]=[SB cs[i]]:=by simp [Qag]
    have s0:=Ji0 w cs[i];by_cases hq:w=cs[i]
    . rw [Kbo hq] at s0;have hm:w ∈ cs:=hq ▸ Kao hlt;refine jL ?_;have Hq:=cj8 hsl hlt hlt' hlt2 g1 g2 s0 w1;repeat refine go1 ?_
      exact .inr ⟨hm,rfl,i,rfl⟩
    . rw [Kbf hq] at s0;have hn2:=ih (i+1) (by omega) (by
       rw [Kau hlt];simp only [Kah,Kce,not_or];exact ⟨hn,hq⟩)
      refine jL ?_;have Hq:=cj8 hsl hlt hlt' hlt2 g1 g2 s0 w1;repeat refine go1 ?_
      exact hn2
 have lp:=loop cs.length 0 (by omega) (by simp);rw [show ((0:Nat):Int)=0 from rfl] at lp;have e1:∃ j:Int,(decide (0<=j)=decide (w ∈ cs))/\Qbc tb Jbz [] [.lst 1 (Qag cs) c,SB w] []=some ⟨I j,[],[],[]⟩:=by
  suffices hh:∃ r,(∃ j:Int,decide (0<=j)=decide (w ∈ cs)/\r=⟨I j,[],[],[]⟩)/\Ev tb Jbz [] [.lst 1 (Qag cs) c,SB w] [] r by
   obtain ⟨r,⟨j,q1,rfl⟩,q2⟩:=hh;exact ⟨j,q1,Qaa q2⟩
  refine Qf5 zt270 rfl ?_;have Hq:=hsl;repeat refine go1 ?_
  refine Qab lp ?_;rintro ex st (⟨hm,rfl,rfl⟩ | ⟨hm,rfl,j,rfl⟩)
  . show wp tb _ _ _
    repeat refine go0 ?_
    refine ⟨.inr rfl,_,⟨-1,by simp [hm],rfl⟩,?_⟩;simp [Jdb]
  . refine ⟨.inr rfl,_,⟨j,by simp [hm],rfl⟩,?_⟩;simp [Jdb]
 obtain ⟨j,hj,e1⟩:=e1;rw [<- hj];generalize Qag cs=S at *
 refine jC zt264 rfl ?_;have Hq:=e1;repeat refine go1 ?_
 simp [Jox]
theorem Qsi (l:List UInt8) (c:UInt8):Ev tb Jby [] [SB l,SB [c]] [] ⟨Bo (Qi9 c l).isSome,[],[],[]⟩:=by
 have e1:=Qaa (Qt1 l c);cases hc:Qi9 c l with
 | none =>
   rw [(Qex hc).1] at e1;refine jC zt395 rfl ?_;have Hq:=e1;repeat refine go1 ?_
   simp [Jfa]
 | some p =>
   obtain ⟨x,y⟩:=p;rw [(Qcv hc).1] at e1;have h0:(0:Int)<=x.length:=by omega
   refine jC zt395 rfl ?_;have Hq:=cj2 e1 h0;repeat refine go1 ?_
   simp [Jfa]
end Go.Idl
namespace Go.Idl
open Go
theorem Qui (l:List UInt8) (hl:l.length<=1500000):Ev tb Qog [] [SB l] [] ⟨SB (Qnm l),[],[],[]⟩:=by
 have e1:Qbc tb Qwd [] [SB l,Str ⟨#[32]⟩] []=some ⟨Jcm l (Qi9 32 l),[],[],[]⟩:=Qaa (Qvo l 32 (by omega));rw [Qnm];cases hc:Qi9 32 l with
 | none =>
   rw [hc] at e1;simp only [Jcm] at e1;refine jC Qrv rfl ?_;have Hq:=e1;repeat refine go1 ?_
   simp [Qmv]
 | some p =>
   obtain ⟨w,t⟩:=p;obtain ⟨-,-,-,h4⟩:=Qcv hc;have htl:t.length<=l.length:=by rw [h4];simp;omega
   rw [hc] at e1;simp only [Jcm] at e1;have e2:Qbc tb Jby [] [SB t,Str ⟨#[32]⟩] []=some ⟨Bo (Qi9 32 t).isSome,[],[],[]⟩:=Qaa (Qsi t 32);simp only;cases hs:(Qi9 32 t).isSome with
   | true =>
     rw [hs] at e2;rw [if_pos rfl];refine jC Qrv rfl ?_;have Hq:=cj2 e1 e2;repeat refine go1 ?_
     simp [Qmv]
   | false =>
     rw [hs] at e2;rw [if_neg (by simp),Qfw];have e3:Qbc tb Qtv [] [.lst 1 [[Str ⟨#[103,114,97,112,104,105,99]⟩],[Str ⟨#[116,114,101,101]⟩],[Str ⟨#[116,104,114,101,115,104,111,108,100]⟩],[Str ⟨#[115,112,108,105,116]⟩],[Str ⟨#[114,101,97,108,105,122,101]⟩]] false,SB w] []=some ⟨Bo (decide (w ∈ [wG,wT,wH,wS,wR])),[],[],[]⟩:=Qaa (Qjw [wG,wT,wH,wS,wR] false w (by simp));have e4:Qbc tb Qtv [] [.lst 1 [[Str ⟨#[100,101,103,114,101,101,115]⟩],[Str ⟨#[99,111,110,110,101,99,116,101,100]⟩],[Str ⟨#[99,111,109,112,108,101,109,101,110,116]⟩],[Str ⟨#[99,111,100,101]⟩]] false,SB w] []=some ⟨Bo (decide (w ∈ [wD,wC,wM,wK])),[],[],[]⟩:=Qaa (Qjw [wD,wC,wM,wK] false w (by simp));by_cases hw:w ∈ [wG,wT,wH,wS,wR]
     . rw [if_pos hw];rw [Kbo hw] at e3;have e5:=Qaa (Qmq t (by omega));cases hp:Qd1 t with
       | none =>
         rw [hp] at e5;simp only at e5 |-;refine jC Qrv rfl ?_;have Hq:=cj4 e1 e2 e3 e5;repeat refine go1 ?_
         simp [Qmv]
       | some d =>
         rw [hp] at e5;simp only at e5 |-;have e6:=fun c=>Qaa (Qq4 w d c (Qco hp));generalize Qzi w d=Y at *
         cases d with
         | nil =>
           have e6:∀ c,Qbc tb Jb1 [] [SB w,.lst 1 [] c] []=some ⟨SB Y,[],[],[]⟩:=e6;simp only [nlI] at e5;refine jC Qrv rfl ?_;have Hq:=cj5 e1 e2 e3 e5 e6;repeat refine go1 ?_
           simp [Qmv]
         | cons a A =>
           simp only [nlI] at e5;generalize a::A=D at *
           refine jC Qrv rfl ?_;have Hq:=cj5 e1 e2 e3 e5 e6;repeat refine go1 ?_
           simp [Qmv]
     rw [if_neg hw];rw [Kbf hw] at e3;by_cases hw2:w ∈ [wD,wC,wM,wK]
     . rw [if_pos hw2];rw [Kbo hw2] at e4;have e5:=Qaa (Qia t (by omega));cases hp:Qde t with
       | none =>
         rw [hp] at e5;simp only [Jlh] at e5 |-;refine jC Qrv rfl ?_;have Hq:=cj5 e1 e2 e3 e4 e5;repeat refine go1 ?_
         simp [Qmv]
       | some p =>
         obtain ⟨n,es⟩:=p;obtain ⟨hv,-⟩:=Qc7 hp;obtain ⟨m,rfl,h7⟩:=Qni hv;rw [hp] at e5;simp only [Jlh,Kax] at e5 |-;have e6:=fun c=>Qaa (Qvk w m es c hv);generalize Jcn w m es=Y at *
         refine jC Qrv rfl ?_;have Hq:=cj6 e1 e2 e3 e4 e5 e6;repeat refine go1 ?_
         simp [Qmv]
     rw [if_neg hw2];rw [Kbf hw2] at e4;refine jC Qrv rfl ?_;have Hq:=cj4 e1 e2 e3 e4;repeat refine go1 ?_
     simp [Qmv]
theorem Qhi (d:List Int) (c:Bool) (hl:d.length<=1000) (h:∀ x ∈ d,0<=x/\x<=9):Ev tb Jbd [] [L d c] [] ⟨SB (d.map dgt),[],[],[]⟩:=by
 have loop:∀ (m i:Nat),i+m=d.length->wp tb (.loop Jsf) { T:=[(0,L d c),(3,SB ((d.take i).map dgt)),(4,I i)],loc:=[],M:=[] }
  fun ex st=>ex=.exit 0/\st={ T:=[(0,L d c),(3,SB (d.map dgt)),(4,I d.length),(8,Bo false)],loc:=[],M:=[] }:=by
  intro m
  induction m with
  | zero =>
    intro i hi;have:i=d.length:=by omega
    subst this;rw [Kdb];refine jL ?_
    repeat refine go0 ?_
    exact ⟨rfl,rfl⟩
  | succ m ih =>
    intro i hi;have hlt:i < d.length:=by omega
    have hlt':(i:Int) < d.length:=by omega
    have w1:IntKind.i64.wrap ((i:Int)+1)=((i+1:Nat):Int):=Qas (by omega);have hb:=h d[i] (Kao hlt);have e1:=Qaa (Qk4 d[i].toNat (by omega));rw [show ((d[i].toNat:Nat):Int)=d[i] by omega] at e1;have hn:=ih (i+1) (by omega);rw [Kau hlt,Kct,Kbd,Kdn] at hn;have hal:((d.take i).map dgt).length=i:=by simp;omega
    have a1:=Qcr (a:=(d.take i).map dgt) (b:=[dgt d[i]]) (by simp;omega);generalize (d.take i).map dgt++[dgt d[i]]=N at *
    generalize (d.take i).map dgt=A at *
    refine jL ?_;have Hq:=cj5 hlt hlt' e1 a1 w1;repeat refine go1 ?_
    exact hn
 have lp:=loop d.length 0 (by omega);rw [Kcz,Kdn] at lp;generalize d.map dgt=Y at *
 refine jC zt346 rfl ?_
 repeat refine go0 ?_
 refine Qab lp ?_;rintro ex st ⟨rfl,rfl⟩;show wp tb _ _ _
 repeat refine go0 ?_
 simp [Jmy]
def Qdd:IC->IC
 | .seq _ b=>b
 | x=>x
theorem ans_0 (t:List UInt8):Qfw wG t=(match Qd1 t with | some d=>Qjm (Qa2 d) | none=>Qe0):=by
 cases h:Qd1 t <;> simp [Qfw,Qzi,h]
theorem ans_1 (t:List UInt8):Qfw wT t=(match Qd1 t with | some d=>Qjm (Qfb d) | none=>Qe0):=by
 cases h:Qd1 t <;> simp [Qfw,Qzi,h]
theorem ans_2 (t:List UInt8):Qfw wH t=(match Qd1 t with | some d=>Qjm (thr d) | none=>Qe0):=by
 cases h:Qd1 t <;> simp [Qfw,Qzi,h]
theorem ans_3 (t:List UInt8):Qfw wS t=(match Qd1 t with | some d=>Qjm (decide (Qeb d=0)) | none=>Qe0):=by
 cases h:Qd1 t <;> simp [Qfw,Qzi,h]
theorem ans_4 (t:List UInt8):Qfw wR t=(match Qd1 t with | some d=>(match Qkx d with | some es=>gtx d.length (Qfs es) | none=>Jnz) | none=>Qe0):=by
 cases h:Qd1 t <;> simp [Qfw,Qzi,h] <;> rfl
theorem ans_5 (t:List UInt8):Qfw wD t=(match Qde t with | some (n,es)=>(Qda n.toNat es).map dgt | none=>Qe0):=by
 cases h:Qde t <;> simp [Qfw,Jcn,h]
theorem ans_6 (t:List UInt8):Qfw wC t=(match Qde t with | some (n,es)=>Qjm (cnB n.toNat es) | none=>Qe0):=by
 cases h:Qde t <;> simp [Qfw,Jcn,h]
theorem ans_7 (t:List UInt8):Qfw wM t=(match Qde t with | some (n,es)=>gtx n.toNat (Qfr n.toNat es) | none=>Qe0):=by
 cases h:Qde t <;> simp [Qfw,Jcn,h]
theorem ans_8 (t:List UInt8):Qfw wK t=(match Qde t with | some (n,es)=>(if n.toNat=0 then Qe0 else match coI es n.toNat (Qbx n.toNat (-1)) [] [] with | some (l,_)=>l.map fun x=>UInt8.ofNat x.toNat | none=>Jnz) | none=>Qe0):=by
 cases h:Qde t <;> simp [Qfw,Jcn,h] <;> rfl
end Go.Idl
namespace Go.Idl
open Go
theorem Jsl {d:List Int} (hv:Qba d=true):Qfb d=(decide (d.length=1) || (decide (1 < d.length) && (Qd9 d && decide (d.sum=2 * ((d.length:Int) - 1))))):=by
 have:=Jyw d hv;simp only [Qu2,Kac,Kbt] at this;rw [this.1,Jjm,hv,Kbx]
theorem cnB_eq {n:Nat} {es:List (Int×Int)} (hv:Qak n es=true):cnB n es=decide ((Qlv n es 0).length=1):=by
 rw [cnB];by_cases hn:1<=n
 . have hes:∀ e ∈ es,e.1.toNat < n/\e.2.toNat < n:=fun e he=>by have:=Qeq.1 ((Qcx.1 hv).2.1 e he);omega
   rw [Kbo hn,Kbx,Kfa,Jea hn hes,Jkr hn hes]
 . have:n=0:=by omega
   subst this;rfl
abbrev Qno:IC:=Qdd (Qdd (Qdd (Qdd (Qdd Qft.body))))
theorem Ji3 (t:List UInt8) (X:List Int) (okd okg:Bool) (hX:∀ d,Qd1 t=some d->X=d) (hokd:okd=(Qd1 t).isSome) (hokg:okg=(Qde t).isSome) (m:Int) (x:IV) (hG:∀ n es,Qde t=some (n,es)->m=n/\x=O2 es) :
 wp tb Qno { T:=[(3,.own 1 [[SB wG],[SB t]]),(4,O X),(5,Bo okd),(6,.bptr 0 0 0),(7,Bo okg)],loc:=[[I m,x]],M:=[] } fun ex st=>ex=.ret/\∃ B,st={ T:=[(2,SB (Qfw wG t))],loc:=B,M:=[] }:=by
 have hS:SwW (⟨wG.toArray⟩:ByteArray) true false false false false false false false false:=Qfp wG;obtain ⟨s0,s1,s2,s3,s4,s5,s6,s7,s8⟩:=hS;rw [ans_0];simp only [Qno,Qdd,Qft];cases hp:Qd1 t with
 | none =>
   rw [hp] at hokd;simp only [Kdi] at hokd;subst hokd;have Hq:=cj9 s0 s1 s2 s3 s4 s5 s6 s7 s8;repeat refine go1 ?_
   exact ⟨rfl,_,rfl⟩
 | some d =>
   obtain rfl:=hX d hp;rw [hp] at hokd;simp only [Kdh] at hokd;subst hokd;have hv:=Qco hp;have h7:=(Qam hv).1;simp only;have e:=fun c=>Qaa (Qj6 X c hv);have y:=Qaa (Qd6 (Qa2 X));generalize Qjm (Qa2 X)=Y at *
   generalize (Qa2 X)=q at *
   have Hq:=Qvr s0 s1 s2 s3 s4 s5 s6 s7 s8 e y;repeat refine go1 ?_
   exact ⟨rfl,_,rfl⟩
theorem Jj2 (t:List UInt8) (X:List Int) (okd okg:Bool) (hX:∀ d,Qd1 t=some d->X=d) (hokd:okd=(Qd1 t).isSome) (hokg:okg=(Qde t).isSome) (m:Int) (x:IV) (hG:∀ n es,Qde t=some (n,es)->m=n/\x=O2 es) :
 wp tb Qno { T:=[(3,.own 1 [[SB wT],[SB t]]),(4,O X),(5,Bo okd),(6,.bptr 0 0 0),(7,Bo okg)],loc:=[[I m,x]],M:=[] } fun ex st=>ex=.ret/\∃ B,st={ T:=[(2,SB (Qfw wT t))],loc:=B,M:=[] }:=by
 have hS:SwW (⟨wT.toArray⟩:ByteArray) false true false false false false false false false:=Qfp wT;obtain ⟨s0,s1,s2,s3,s4,s5,s6,s7,s8⟩:=hS;rw [ans_1];simp only [Qno,Qdd,Qft];cases hp:Qd1 t with
 | none =>
   rw [hp] at hokd;simp only [Kdi] at hokd;subst hokd;have Hq:=cj9 s0 s1 s2 s3 s4 s5 s6 s7 s8;repeat refine go1 ?_
   exact ⟨rfl,_,rfl⟩
 | some d =>
   obtain rfl:=hX d hp;rw [hp] at hokd;simp only [Kdh] at hokd;subst hokd;have hv:=Qco hp;have h7:=(Qam hv).1;simp only;have e:=fun c=>Qaa (Qkn X c hv);rw [<- Jsl hv] at e;have y:=Qaa (Qd6 (Qfb X));generalize Qjm (Qfb X)=Y at *
   generalize (Qfb X)=q at *
   have Hq:=Qvr s0 s1 s2 s3 s4 s5 s6 s7 s8 e y;repeat refine go1 ?_
   exact ⟨rfl,_,rfl⟩
theorem Jjb (t:List UInt8) (X:List Int) (okd okg:Bool) (hX:∀ d,Qd1 t=some d->X=d) (hokd:okd=(Qd1 t).isSome) (hokg:okg=(Qde t).isSome) (m:Int) (x:IV) (hG:∀ n es,Qde t=some (n,es)->m=n/\x=O2 es) :
 wp tb Qno { T:=[(3,.own 1 [[SB wH],[SB t]]),(4,O X),(5,Bo okd),(6,.bptr 0 0 0),(7,Bo okg)],loc:=[[I m,x]],M:=[] } fun ex st=>ex=.ret/\∃ B,st={ T:=[(2,SB (Qfw wH t))],loc:=B,M:=[] }:=by
 have hS:SwW (⟨wH.toArray⟩:ByteArray) false false true false false false false false false:=Qfp wH;obtain ⟨s0,s1,s2,s3,s4,s5,s6,s7,s8⟩:=hS;rw [ans_2];simp only [Qno,Qdd,Qft];cases hp:Qd1 t with
 | none =>
   rw [hp] at hokd;simp only [Kdi] at hokd;subst hokd;have Hq:=cj9 s0 s1 s2 s3 s4 s5 s6 s7 s8;repeat refine go1 ?_
   exact ⟨rfl,_,rfl⟩
 | some d =>
   obtain rfl:=hX d hp;rw [hp] at hokd;simp only [Kdh] at hokd;subst hokd;have hv:=Qco hp;have h7:=(Qam hv).1;simp only;have e:=fun c=>Qaa (Qns X c hv);have ht:thr X=decide (fall X=Qdj (fall X)):=by rw [thr,hv,Kbx]
   rw [<- ht] at e;have y:=Qaa (Qd6 (thr X));generalize Qjm (thr X)=Y at *
   generalize (thr X)=q at *
   have Hq:=Qvr s0 s1 s2 s3 s4 s5 s6 s7 s8 e y;repeat refine go1 ?_
   exact ⟨rfl,_,rfl⟩
theorem Jdr (t:List UInt8) (X:List Int) (okd okg:Bool) (hX:∀ d,Qd1 t=some d->X=d) (hokd:okd=(Qd1 t).isSome) (hokg:okg=(Qde t).isSome) (m:Int) (x:IV) (hG:∀ n es,Qde t=some (n,es)->m=n/\x=O2 es) :
 wp tb Qno { T:=[(3,.own 1 [[SB wS],[SB t]]),(4,O X),(5,Bo okd),(6,.bptr 0 0 0),(7,Bo okg)],loc:=[[I m,x]],M:=[] } fun ex st=>ex=.ret/\∃ B,st={ T:=[(2,SB (Qfw wS t))],loc:=B,M:=[] }:=by
 have hS:SwW (⟨wS.toArray⟩:ByteArray) false false false true false false false false false:=Qfp wS;obtain ⟨s0,s1,s2,s3,s4,s5,s6,s7,s8⟩:=hS;rw [ans_3];simp only [Qno,Qdd,Qft];cases hp:Qd1 t with
 | none =>
   rw [hp] at hokd;simp only [Kdi] at hokd;subst hokd;have Hq:=cj9 s0 s1 s2 s3 s4 s5 s6 s7 s8;repeat refine go1 ?_
   exact ⟨rfl,_,rfl⟩
 | some d =>
   obtain rfl:=hX d hp;rw [hp] at hokd;simp only [Kdh] at hokd;subst hokd;have hv:=Qco hp;have h7:=(Qam hv).1;simp only;have e:=fun c=>Qaa (Qj6 X c hv);have e2:=fun c=>Qaa (Qp4 X c hv);rw [<- Jh6 hv];generalize (if X.length=0 then 0 else (Qa9 X).getD (Qee (fall X) - 1) 0)=z at *
   cases hg:Qa2 X with
   | false =>
     rw [hg] at e;have y:=Qaa (Qd6 false);rw [Kee];have Hq:=Qvr s0 s1 s2 s3 s4 s5 s6 s7 s8 e y;repeat refine go1 ?_
     exact ⟨rfl,_,rfl⟩
   | true =>
     rw [hg] at e;rw [Kbx];by_cases hz:z=0
     . rw [Kbo hz];have y:=Qaa (Qd6 true);have hz2:(z == 0)=true:=by simpa using hz
       have Hq:=cj14 s0 s1 s2 s3 s4 s5 s6 s7 s8 e e2 hz hz2 y;repeat refine go1 ?_
       exact ⟨rfl,_,rfl⟩
     . rw [Kbf hz];have y:=Qaa (Qd6 false);have hz2:(z == 0)=false:=by simpa using hz
       have Hq:=cj14 s0 s1 s2 s3 s4 s5 s6 s7 s8 e e2 hz hz2 y;repeat refine go1 ?_
       exact ⟨rfl,_,rfl⟩
theorem Jho (t:List UInt8) (X:List Int) (okd okg:Bool) (hX:∀ d,Qd1 t=some d->X=d) (hokd:okd=(Qd1 t).isSome) (hokg:okg=(Qde t).isSome) (m:Int) (x:IV) (hG:∀ n es,Qde t=some (n,es)->m=n/\x=O2 es) :
 wp tb Qno { T:=[(3,.own 1 [[SB wR],[SB t]]),(4,O X),(5,Bo okd),(6,.bptr 0 0 0),(7,Bo okg)],loc:=[[I m,x]],M:=[] } fun ex st=>ex=.ret/\∃ B,st={ T:=[(2,SB (Qfw wR t))],loc:=B,M:=[] }:=by
 have hS:SwW (⟨wR.toArray⟩:ByteArray) false false false false true false false false false:=Qfp wR;obtain ⟨s0,s1,s2,s3,s4,s5,s6,s7,s8⟩:=hS;rw [ans_4];simp only [Qno,Qdd,Qft];cases hp:Qd1 t with
 | none =>
   rw [hp] at hokd;simp only [Kdi] at hokd;subst hokd;have Hq:=cj9 s0 s1 s2 s3 s4 s5 s6 s7 s8;repeat refine go1 ?_
   exact ⟨rfl,_,rfl⟩
 | some d =>
   obtain rfl:=hX d hp;rw [hp] at hokd;simp only [Kdh] at hokd;subst hokd;have hv:=Qco hp;have h7:=(Qam hv).1;simp only;have e:=fun c=>Qaa (Qmf X c hv);have hlaw:=(Qqs X hv).2;rw [Qye (fun x hx=>by have:=Qcs hv x hx;omega)] at e;cases hr:Qkx X with
   | none =>
     rw [hr] at e;simp only [Option.map_none] at e;have Hq:=Qwo s0 s1 s2 s3 s4 s5 s6 s7 s8 e;repeat refine go1 ?_
     exact ⟨rfl,_,rfl⟩
   | some es =>
     rw [hr] at e;simp only [Kes] at e;obtain ⟨k1,-⟩:=hlaw es hr;have hel:=Qec k1;have g1:=fun c=>Qaa (Qej X.length (Qfs es) c (by omega) (by omega) (Qh5 h7 k1));simp only;generalize gtx (X.length:Int) (Qfs es)=Y at *
     generalize Qfs es=E at *
     have Hq:=Qvr s0 s1 s2 s3 s4 s5 s6 s7 s8 e g1;repeat refine go1 ?_
     exact ⟨rfl,_,rfl⟩
theorem Jk8 (t:List UInt8) (X:List Int) (okd okg:Bool) (hX:∀ d,Qd1 t=some d->X=d) (hokd:okd=(Qd1 t).isSome) (hokg:okg=(Qde t).isSome) (m:Int) (x:IV) (hG:∀ n es,Qde t=some (n,es)->m=n/\x=O2 es) :
 wp tb Qno { T:=[(3,.own 1 [[SB wD],[SB t]]),(4,O X),(5,Bo okd),(6,.bptr 0 0 0),(7,Bo okg)],loc:=[[I m,x]],M:=[] } fun ex st=>ex=.ret/\∃ B,st={ T:=[(2,SB (Qfw wD t))],loc:=B,M:=[] }:=by
 have hS:SwW (⟨wD.toArray⟩:ByteArray) false false false false false true false false false:=Qfp wD;obtain ⟨s0,s1,s2,s3,s4,s5,s6,s7,s8⟩:=hS;rw [ans_5];simp only [Qno,Qdd,Qft];cases hp:Qde t with
 | none =>
   rw [hp] at hokg;simp only [Kdi] at hokg;subst hokg;have Hq:=cj9 s0 s1 s2 s3 s4 s5 s6 s7 s8;repeat refine go1 ?_
   exact ⟨rfl,_,rfl⟩
 | some p =>
   obtain ⟨n,es⟩:=p;obtain ⟨hv,-⟩:=Qc7 hp;obtain ⟨rfl,rfl⟩:=hG n es hp;obtain ⟨n,rfl,h7⟩:=Qni hv;rw [hp] at hokg;simp only [Kdh] at hokg;subst hokg;have hel:=Qec hv;have hin:=Qq3 hv;simp only [Kax];have e:=fun c=>Qaa (Qgw n es c (by omega) (by omega) hin);have hdv:=Qew hv;have hd7:=(Qam hdv).1;have e2:=fun c=>Qaa (Qhi (Qda n es) c (by omega) (fun z hz=>by have:=Qcs hdv z hz;omega));generalize (Qda n es).map dgt=Y at *
   generalize Qda n es=D at *
   have Hq:=Qvr s0 s1 s2 s3 s4 s5 s6 s7 s8 e e2;repeat refine go1 ?_
   exact ⟨rfl,_,rfl⟩
theorem Jdk (t:List UInt8) (X:List Int) (okd okg:Bool) (hX:∀ d,Qd1 t=some d->X=d) (hokd:okd=(Qd1 t).isSome) (hokg:okg=(Qde t).isSome) (m:Int) (x:IV) (hG:∀ n es,Qde t=some (n,es)->m=n/\x=O2 es) :
 wp tb Qno { T:=[(3,.own 1 [[SB wC],[SB t]]),(4,O X),(5,Bo okd),(6,.bptr 0 0 0),(7,Bo okg)],loc:=[[I m,x]],M:=[] } fun ex st=>ex=.ret/\∃ B,st={ T:=[(2,SB (Qfw wC t))],loc:=B,M:=[] }:=by
 have hS:SwW (⟨wC.toArray⟩:ByteArray) false false false false false false true false false:=Qfp wC;obtain ⟨s0,s1,s2,s3,s4,s5,s6,s7,s8⟩:=hS;rw [ans_6];simp only [Qno,Qdd,Qft];cases hp:Qde t with
 | none =>
   rw [hp] at hokg;simp only [Kdi] at hokg;subst hokg;have Hq:=cj9 s0 s1 s2 s3 s4 s5 s6 s7 s8;repeat refine go1 ?_
   exact ⟨rfl,_,rfl⟩
 | some p =>
   obtain ⟨n,es⟩:=p;obtain ⟨hv,-⟩:=Qc7 hp;obtain ⟨rfl,rfl⟩:=hG n es hp;obtain ⟨n,rfl,h7⟩:=Qni hv;rw [hp] at hokg;simp only [Kdh] at hokg;subst hokg;have hel:=Qec hv;have hin:=Qq3 hv;simp only [Kax];have e:=fun c=>Qaa (Qi6 n h7 es c hin (by omega));rw [cnB_eq hv];generalize Qlv n es 0=P at *
   by_cases hz:P.length=1
   . rw [Kbo hz];have y:=Qaa (Qd6 true);have hz1:(P.length:Int)=1:=by omega
     have Hq:=Jlb s0 s1 s2 s3 s4 s5 s6 s7 s8 e hz hz1 y;repeat refine go1 ?_
     exact ⟨rfl,_,rfl⟩
   . rw [Kbf hz];have y:=Qaa (Qd6 false);have hz1:¬ (P.length:Int)=1:=by omega
     have hz2:((P.length:Int) == 1)=false:=by simpa using hz1
     have Hq:=cj14 s0 s1 s2 s3 s4 s5 s6 s7 s8 e hz hz1 hz2 y;repeat refine go1 ?_
     exact ⟨rfl,_,rfl⟩
theorem Je8 (t:List UInt8) (X:List Int) (okd okg:Bool) (hX:∀ d,Qd1 t=some d->X=d) (hokd:okd=(Qd1 t).isSome) (hokg:okg=(Qde t).isSome) (m:Int) (x:IV) (hG:∀ n es,Qde t=some (n,es)->m=n/\x=O2 es) :
 wp tb Qno { T:=[(3,.own 1 [[SB wM],[SB t]]),(4,O X),(5,Bo okd),(6,.bptr 0 0 0),(7,Bo okg)],loc:=[[I m,x]],M:=[] } fun ex st=>ex=.ret/\∃ B,st={ T:=[(2,SB (Qfw wM t))],loc:=B,M:=[] }:=by
 have hS:SwW (⟨wM.toArray⟩:ByteArray) false false false false false false false true false:=Qfp wM;obtain ⟨s0,s1,s2,s3,s4,s5,s6,s7,s8⟩:=hS;rw [ans_7];simp only [Qno,Qdd,Qft];cases hp:Qde t with
 | none =>
   rw [hp] at hokg;simp only [Kdi] at hokg;subst hokg;have Hq:=cj9 s0 s1 s2 s3 s4 s5 s6 s7 s8;repeat refine go1 ?_
   exact ⟨rfl,_,rfl⟩
 | some p =>
   obtain ⟨n,es⟩:=p;obtain ⟨hv,-⟩:=Qc7 hp;obtain ⟨rfl,rfl⟩:=hG n es hp;obtain ⟨n,rfl,h7⟩:=Qni hv;rw [hp] at hokg;simp only [Kdh] at hokg;subst hokg;have hel:=Qec hv;have hin:=Qq3 hv;simp only [Kax];have e:=fun c=>Qaa (Qek n (by omega) es c (by omega));rw [Qvq hv] at e;have k1:Qak n (Qfr n es)=true:=Qlj h7 es;have kel:=Qec k1;have g1:=fun c=>Qaa (Qej n (Qfr n es) c (by omega) (by omega) (Qh5 h7 k1));generalize gtx (n:Int) (Qfr n es)=Y at *
   generalize Qfr n es=E at *
   have Hq:=Qvr s0 s1 s2 s3 s4 s5 s6 s7 s8 e g1;repeat refine go1 ?_
   exact ⟨rfl,_,rfl⟩
theorem Jit (t:List UInt8) (X:List Int) (okd okg:Bool) (hX:∀ d,Qd1 t=some d->X=d) (hokd:okd=(Qd1 t).isSome) (hokg:okg=(Qde t).isSome) (m:Int) (x:IV) (hG:∀ n es,Qde t=some (n,es)->m=n/\x=O2 es) :
 wp tb Qno { T:=[(3,.own 1 [[SB wK],[SB t]]),(4,O X),(5,Bo okd),(6,.bptr 0 0 0),(7,Bo okg)],loc:=[[I m,x]],M:=[] } fun ex st=>ex=.ret/\∃ B,st={ T:=[(2,SB (Qfw wK t))],loc:=B,M:=[] }:=by
 have hS:SwW (⟨wK.toArray⟩:ByteArray) false false false false false false false false true:=Qfp wK;obtain ⟨s0,s1,s2,s3,s4,s5,s6,s7,s8⟩:=hS;rw [ans_8];simp only [Qno,Qdd,Qft];cases hp:Qde t with
 | none =>
   rw [hp] at hokg;simp only [Kdi] at hokg;subst hokg;have Hq:=cj9 s0 s1 s2 s3 s4 s5 s6 s7 s8;repeat refine go1 ?_
   exact ⟨rfl,_,rfl⟩
 | some p =>
   obtain ⟨n,es⟩:=p;obtain ⟨hv,-⟩:=Qc7 hp;obtain ⟨rfl,rfl⟩:=hG n es hp;obtain ⟨n,rfl,h7⟩:=Qni hv;rw [hp] at hokg;simp only [Kdh] at hokg;subst hokg;have hel:=Qec hv;have hin:=Qq3 hv;simp only [Kax];by_cases hn:n=0
   . subst hn;rw [if_pos rfl];have Hq:=cj9 s0 s1 s2 s3 s4 s5 s6 s7 s8;repeat refine go1 ?_
     exact ⟨rfl,_,rfl⟩
   rw [if_neg hn];have hn1:(0:Int) < n:=by omega
   have hn2:0 < n:=by omega
   have e:=fun c=>Qaa (Qn2 n h7 es c (by omega) hin);rw [codLaw hv] at e;cases hq:coI es n (Qbx n (-1)) [] [] with
   | none =>
     rw [hq] at e;simp only [Qix] at e |-;have Hq:=Qxj s0 s1 s2 s3 s4 s5 s6 s7 s8 e hn1 hn2;repeat refine go1 ?_
     exact ⟨rfl,_,rfl⟩
   | some r =>
     obtain ⟨l,o⟩:=r;rw [hq] at e;simp only [Qix,Qbi] at e |-;generalize (l.map fun x=>UInt8.ofNat x.toNat)=Y at *
     have Hq:=Qxj s0 s1 s2 s3 s4 s5 s6 s7 s8 e hn1 hn2;repeat refine go1 ?_
     exact ⟨rfl,_,rfl⟩
theorem Jfx (w t:List UInt8) (X:List Int) (okd okg:Bool) (m:Int) (x:IV) (hw:w ∉ [wG,wT,wH,wS,wR]) (hw2:w ∉ [wD,wC,wM,wK]) :
 wp tb Qno { T:=[(3,.own 1 [[SB w],[SB t]]),(4,O X),(5,Bo okd),(6,.bptr 0 0 0),(7,Bo okg)],loc:=[[I m,x]],M:=[] } fun ex st=>ex=.ret/\∃ B,st={ T:=[(2,SB (Qfw w t))],loc:=B,M:=[] }:=by
 have hS:=Qfp w;rw [Qfw,if_neg hw,if_neg hw2];simp only [Kaf,Kaw,Kcf,not_or] at hw hw2;rw [Kbf hw.1,Kbf hw.2.1,Kbf hw.2.2.1,Kbf hw.2.2.2.1,Kbf hw.2.2.2.2,Kbf hw2.1,Kbf hw2.2.1,Kbf hw2.2.2.1,Kbf hw2.2.2.2] at hS;obtain ⟨s0,s1,s2,s3,s4,s5,s6,s7,s8⟩:=hS;simp only [Qno,Qdd,Qft];have Hq:=cj9 s0 s1 s2 s3 s4 s5 s6 s7 s8;repeat refine go1 ?_
 exact ⟨rfl,_,rfl⟩
end Go.Idl
namespace Go.Idl
open Go
theorem Qqn (l:List UInt8):(Qi9 32 l=none/\Qci 32 l=[l]) \/ ∃ w t,Qi9 32 l=some (w,t)/\Qci 32 l=w::Qci 32 t:=by
 cases hc:Qi9 32 l with
 | none=>exact .inl ⟨rfl,(Qex hc).2.1⟩
 | some p =>
   obtain ⟨w,t⟩:=p;exact .inr ⟨w,t,rfl,(Qcv hc).2.1⟩
set_option maxHeartbeats 1000000 in
theorem Jhe (l:List UInt8) (hl:l.length<=1500000):Ev tb Jdw [] [SB l] [] ⟨SB (Qnm l),[],[],[]⟩:=by
 have e1:=Qaa (Jbr l hl);by_cases h2:∃ w t,Qci 32 l=[w,t]
 . obtain ⟨w,t,hs⟩:=h2;have hd:Qnm l=Qfw w t/\t.length<=l.length:=by
    rcases Qqn l with ⟨h1,h2⟩ | ⟨w',t',h1,h2⟩
    . rw [hs] at h2;cases h2
    . rw [hs] at h2;simp only [Ket] at h2;obtain ⟨rfl,h3⟩:=h2;rcases Qqn t' with ⟨k1,k2⟩ | ⟨w2,t2,k1,k2⟩
      . rw [k2] at h3;simp only [Ket,and_true] at h3;subst h3;obtain ⟨-,-,-,h4⟩:=Qcv h1;refine ⟨by rw [Qnm,h1];simp only;rw [k1];rfl,by rw [h4];simp;omega⟩
      . rw [k2] at h3;simp only [Ket] at h3;exact absurd h3.2.symm (Jes 32 t2)
   rw [hd.1];rw [hs,show Qag [w,t]=[[SB w],[SB t]] from rfl] at e1;obtain ⟨X,e2,hX⟩:=Qkr t (by omega);have e2:=Qaa e2;obtain ⟨G,⟨gn,ges,hGs⟩,e3,hG⟩:=Qoc t (by omega);have e3:=Qaa e3;have key:∀ (m:Int) (x:IV),(∀ n es,Qde t=some (n,es)->m=n/\x=O2 es) ->
    wp tb Qno { T:=[(3,.own 1 [[SB w],[SB t]]),(4,O X),(5,Bo (Qd1 t).isSome),(6,.bptr 0 0 0),(7,Bo (Qde t).isSome)],loc:=[[I m,x]],M:=[] } fun ex st=>ex=.ret/\∃ B,st={ T:=[(2,SB (Qfw w t))],loc:=B,M:=[] }:=fun m x hx=>by
    by_cases h1:w ∈ [wG,wT,wH,wS,wR]
    . simp only [Kaf,Kaw,Kcf] at h1;rcases h1 with rfl | rfl | rfl | rfl | rfl
      . exact Ji3 t X _ _ hX rfl rfl m x hx
      . exact Jj2 t X _ _ hX rfl rfl m x hx
      . exact Jjb t X _ _ hX rfl rfl m x hx
      . exact Jdr t X _ _ hX rfl rfl m x hx
      . exact Jho t X _ _ hX rfl rfl m x hx
    by_cases h2:w ∈ [wD,wC,wM,wK]
    . simp only [Kaf,Kaw,Kcf] at h2;rcases h2 with rfl | rfl | rfl | rfl
      . exact Jk8 t X _ _ hX rfl rfl m x hx
      . exact Jdk t X _ _ hX rfl rfl m x hx
      . exact Je8 t X _ _ hX rfl rfl m x hx
      . exact Jit t X _ _ hX rfl rfl m x hx
    exact Jfx w t X _ _ m x h1 h2
   simp only [Qno,Qdd,Qft] at key;generalize (Qd1 t).isSome=okd at *
   generalize (Qde t).isSome=okg at *
   rcases hGs with rfl | rfl
   . have kk:=key gn Z (fun n es h=>by have:=hG n es h;simp at this);refine jC Jxv rfl ?_;refine wr (by simp [e1,e2,e3];with_reducible rfl) ?_;refine wr (by simp [e1,e2,e3];with_reducible rfl) ?_;apply jA;refine wr (by simp [e1,e2,e3];with_reducible rfl) ?_;refine wf (by simpa [e1,e2,e3]) ?_;apply jQ;refine wr (by simp [e1,e2,e3];with_reducible rfl) ?_;refine wr (by simp [e1,e2,e3];with_reducible rfl) ?_;refine Qab kk ?_;rintro ex st ⟨rfl,B,rfl⟩;simp [Qft]
   . have kk:=key gn (O2 ges) (fun n es h=>by have:=hG n es h;simp at this;exact ⟨this.1,by show IV.own 2 (eds ges)=_;rw [this.2]⟩);refine jC Jxv rfl ?_;refine wr (by simp [e1,e2,e3];with_reducible rfl) ?_;refine wr (by simp [e1,e2,e3];with_reducible rfl) ?_;apply jA;refine wr (by simp [e1,e2,e3];with_reducible rfl) ?_;refine wf (by simpa [e1,e2,e3]) ?_;apply jQ;refine wr (by simp [e1,e2,e3];with_reducible rfl) ?_;refine wr (by simp [e1,e2,e3];with_reducible rfl) ?_;refine Qab kk ?_;rintro ex st ⟨rfl,B,rfl⟩;simp [Qft]
 . have hd:Qnm l=Jmv:=by
    rw [Qnm];rcases Qqn l with ⟨h1,-⟩ | ⟨w,t,h1,h3⟩
    . rw [h1]
    . rw [h1];simp only;rcases Qqn t with ⟨k1,k2⟩ | ⟨w2,t2,k1,k2⟩
      . rw [k2] at h3;exact absurd ⟨w,t,h3⟩ h2
      . rw [k1];rfl
   rw [hd];have hlen:¬ (Qci 32 l).length=2:=fun h=>by
    match hq:Qci 32 l,h with
    | [a,b],_=>exact h2 ⟨a,b,hq⟩
   have hl2:(Qag (Qci 32 l)).length=(Qci 32 l).length:=by simp [Qag]
   have hl3:¬ ((Qag (Qci 32 l)).length:Int)=2:=by omega
   have hl4:¬ (Qag (Qci 32 l)).length=2:=by omega
   generalize Qag (Qci 32 l)=S at *
   refine jC Jxv rfl ?_;have Hq:=cj3 e1 hl3 hl4;repeat refine go1 ?_
   simp [Qft]
def Qcw (ls:List (List UInt8)):List UInt8:=(ls.map fun l=>Qnm l++[10]).flatten
theorem Jge (A:List (List UInt8)) (l:List UInt8):Qcw (A++[l])=Qcw A++Qnm l++[10]:=by simp [Qcw]
theorem Qul (n:Int) (es:List (Int×Int)):(gtx n es).length<=2+3 * es.length+3:=by
 have:=Qpf es;rw [gtx];simp;omega
theorem Jn7 (w:List UInt8) {d:List Int} (hv:Qba d=true):(Qzi w d).length<=1000:=by
 have hy:∀ b,(Qjm b).length<=1000:=fun b=>by cases b <;> simp [Qjm]
 rw [Qzi]
 (repeat' split) <;> first | exact hy _ | (rename_i es hr;obtain ⟨k1,-⟩:=(Qqs d hv).2 es hr;have:=Qec k1;have:=Qul d.length (Qfs es);omega) | simp
theorem Jpx (w:List UInt8) {n:Nat} {es:List (Int×Int)} (hv:Qak n es=true):(Jcn w n es).length<=1000:=by
 have hy:∀ b,(Qjm b).length<=1000:=fun b=>by cases b <;> simp [Qjm]
 have h7:=(Qcx.1 hv).2.2;rw [Jcn];split
 . rw [Kcu,Jlt];omega
 split
 . exact hy _
 split
 . have k1:Qak n (Qfr n es)=true:=Qlj h7 es;have:=Qec k1;have:=Qul n (Qfr n es);omega
 split
 . simp
 split
 . rename_i l o hq;rw [Kcu,(Jku hq).1];omega
 . simp
theorem Qpu (l:List UInt8):(Qnm l).length<=1000:=by
 rw [Qnm];split
 . split
   . simp
   . rw [Qfw];split
     . split
       . rename_i d hp;exact Jn7 _ (Qco hp)
       . simp
     split
     . split
       . rename_i n es hp;obtain ⟨hv,-⟩:=Qc7 hp;obtain ⟨m,rfl,h7⟩:=Qni hv;rw [Kax];exact Jpx _ hv
       . simp
     . simp
 . simp
theorem Qqb:∀ ls:List (List UInt8),(Qcw ls).length<=ls.length * 1001
 | []=>by simp [Qcw]
 | l::ls=>by
   have h1:=Qpu l;have h2:=Qqb ls;have e:Qcw (l::ls)=(Qnm l++[10])++Qcw ls:=rfl;have h3:([10]:List UInt8).length=1:=rfl;have h4:(l::ls).length=ls.length+1:=rfl;rw [e,Kbu,Kbu,h3,h4];omega
theorem Qnd (ls:List (List UInt8)) (c:Bool) (h:∀ l ∈ ls,l.length<=1500000) (hl:ls.length<=20):Ev tb Jbv [] [.lst 1 (Qag ls) c] [] ⟨SB (Qcw ls),[],[],[]⟩:=by
 have hsl:(Qag ls).length=ls.length:=by simp [Qag]
 have loop:∀ (m i:Nat),i+m=ls.length->wp tb (.loop Jqc) { T:=[(0,.lst 1 (Qag ls) c),(3,SB (Qcw (ls.take i))),(4,I i)],loc:=[],M:=[] }
  fun ex st=>ex=.exit 0/\st={ T:=[(0,.lst 1 (Qag ls) c),(3,SB (Qcw ls)),(4,I ls.length),(11,Bo false)],loc:=[],M:=[] }:=by
  intro m
  induction m with
  | zero =>
    intro i hi;have:i=ls.length:=by omega
    subst this;rw [Kdb];refine jL ?_;have Hq:=hsl;repeat refine go1 ?_
    exact ⟨rfl,rfl⟩
  | succ m ih =>
    intro i hi;have hlt:i < ls.length:=by omega
    have hlt':(i:Int) < ls.length:=by omega
    have w1:IntKind.i64.wrap ((i:Int)+1)=((i+1:Nat):Int):=Qas (by omega);have hlt2:i < (Qag ls).length:=by omega
    have g1:(Qag ls)[i]? = some [SB ls[i]]:=by simp [Qag,hlt]
    have g2:(Qag ls)[i]=[SB ls[i]]:=by simp [Qag]
    have e1:=Qaa (Jhe ls[i] (h _ (Kao hlt)));have hn:=ih (i+1) (by omega);rw [Kau hlt,Jge] at hn;have k1:=Qqb (ls.take i);have k2:=Qpu ls[i];rw [Kas,Nat.min_eq_left (by omega)] at k1;have a1:=Qcr (a:=Qcw (ls.take i)) (b:=Qnm ls[i]) (by omega);have a2:=Qcr (a:=Qcw (ls.take i)++Qnm ls[i]) (b:=[10]) (by simp;omega);generalize Qcw (ls.take i)++Qnm ls[i]++[10]=N2 at *
    generalize Qcw (ls.take i)++Qnm ls[i]=N1 at *
    generalize Qcw (ls.take i)=N0 at *
    generalize Qnm ls[i]=Y at *
    refine jL ?_;have Hq:=Qwo hsl hlt hlt' hlt2 g1 g2 e1 a1 a2 w1;repeat refine go1 ?_
    exact hn
 have lp:=loop ls.length 0 (by omega);rw [Kcz,show Qcw []=[] from rfl,show ((0:Nat):Int)=0 from rfl] at lp;have h20:¬ ((20:Int) < ls.length):=by omega
 have h20':¬ (20 < ls.length):=by omega
 generalize Qcw ls=Y at *
 refine jC zt325 rfl ?_;have Hq:=cj3 hsl h20 h20';repeat refine go1 ?_
 refine Qab lp ?_;rintro ex st ⟨rfl,rfl⟩;show wp tb _ _ _
 repeat refine go0 ?_
 simp [Jmd]
theorem Jt1 {g:CF->List IV->Option IV} {st:St} {Q:Ex->St->Prop} {v:IV} (h:∃ N,∀ n,N<=n->g (Qb3 tb n) (st.T.map (·.2))=some v) (q:Q .ret { st with T:=[(0,v)] }):wp tb (.ext g) st Q:=⟨v,h,q⟩
theorem Qov:∀ (ls:List (List UInt8)),(∀ l ∈ ls,l.length<=1500000)->∃ N,∀ n,N<=n->Qmp Qog (Qb3 tb n) (Qag ls)=some (Qcw ls)
 | [],_=>⟨0,fun _ _=>rfl⟩
 | l::ls,h=>by
   obtain ⟨N1,h1⟩:=Qov ls fun x hx=>h x (by simp [hx])
   obtain ⟨N2,h2⟩:=Qui l (h l (by simp));refine ⟨max N1 N2,fun n hn=>?_⟩;have e1:=h1 n (by omega);have e2:=h2 n (by omega);have hs:(⟨(Qnm l).toArray⟩:ByteArray).size<=1000000:=by
    have:=Qpu l;show (Qnm l).toArray.size<=_;rw [List.size_toArray];omega
   show (match Qb3 tb n Qog [] [SB l] [] with
    | some ⟨.sc (.string t),[],[],[]⟩=>if t.size<=1000000 then (match Qmp Qog (Qb3 tb n) (Qag ls) with
      | some x=>some (t.data.toList++10::x)
      | none=>none) else none
    | _=>none)=some (Qcw (l::ls))
   rw [e2,e1];simp only;rw [if_pos hs];simp [Qcw]
theorem Qgg (ls:List (List UInt8)) (c:Bool) (h:∀ l ∈ ls,l.length<=1500000) (hl:ls.length<=20):Ev tb Qsb [] [.lst 1 (Qag ls) c] [] ⟨SB (Qcw ls),[],[],[]⟩:=by
 obtain ⟨N,hN⟩:=Qov ls h;refine jC zt195 rfl ?_;refine Jt1 (v:=SB (Qcw ls)) ⟨N,fun n hn=>?_⟩ ⟨.inr rfl,?_⟩
 . show Qb6 Qog (Qb3 tb n) [.lst 1 (Qag ls) c]=_;have hsl:(Qag ls).length=ls.length:=by simp [Qag]
   rw [Qb6,if_neg (by omega),if_pos (.inl rfl),hN n hn]
 . simp [Qev,Jps]
end Go.Idl
namespace Go.Idl
open Go
theorem bs_of (b:ByteArray):(⟨b.data.toList.toArray⟩:ByteArray)=b:=by
 cases b;rfl
end Go.Idl
