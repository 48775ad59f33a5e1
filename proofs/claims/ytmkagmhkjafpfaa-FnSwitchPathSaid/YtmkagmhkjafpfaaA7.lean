/- Part 7 of a proof by an ideal interpreter of the code: its definitions and lemmas. Conditions: none. -/
import Derived.KernelRfl
import Derived.Test.YtmkagmhkjafpfaaA6
set_option linter.all false
set_option linter.unusedVariables false
set_option linter.unusedSimpArgs false
namespace Go.Idl
open Go
def pot (n:Nat):Nat:=if n≤12 then 0 else (n - 11) / 2
theorem Qq3 {X:List (Int×Int)} {a n lim:Nat} {M:List Qae}
 (h:wp tb (.loop Qhv) { T:=[(0,O2 X),(1,I a),(2,I ((a:Int)+n)),(3,I lim),(4,fcE),(10,Bo true),(11,Bo true)],loc:=[],M:=M }
   (fun ex st=>ex=.ret∧∃ X':List (Int×Int),Seg X X' a (a+n)∧Qdf X' a (a+n)∧Qk5 Qob [0] st=some ⟨.tup [],[O2 X'],M,[]⟩)) :
 ∃ X':List (Int×Int),Seg X X' a (a+n)∧Qdf X' a (a+n)∧Ev tb Qm7 [0] [O2 X,I a,I ((a:Int)+n),I lim,fcE] M ⟨.tup [],[O2 X'],M,[]⟩:=by
 suffices hh:∃ r,(∃ X':List (Int×Int),Seg X X' a (a+n)∧Qdf X' a (a+n)∧r=⟨.tup [],[O2 X'],M,[]⟩)∧Ev tb Qm7 [0] [O2 X,I a,I ((a:Int)+n),I lim,fcE] M r by
  obtain ⟨r,⟨X',q1,q2,rfl⟩,q3⟩:=hh
  exact ⟨X',q1,q2,q3⟩
 refine Qel zt285 rfl ?_
 repeat (first|apply wA|apply wS|refine wr (by simp;with_reducible rfl) ?_|refine wq (by simp;with_reducible rfl) ?_|refine wt (by simpa) ?_|refine wf (by simpa) ?_|refine xt (by simpa) ?_|refine xf (by simpa) ?_|apply wB|apply Qaa|refine wX ?_|refine wY ?_|refine wR ?_|refine wK ?_|refine wE ?_)
 refine Qal h ?_
 rintro ex st ⟨rfl,X',q1,q2,q3⟩
 exact ⟨.inr rfl,_,⟨X',q1,q2,rfl⟩,q3⟩
abbrev Ql8 (X:List (Int×Int)) (a n:Nat) (M:List Qae) (ex:Ex) (st:St):Prop :=
 ex=.ret∧∃ X':List (Int×Int),Seg X X' a (a+n)∧Qdf X' a (a+n)∧Qk5 Qob [0] st=some ⟨.tup [],[O2 X'],M,[]⟩
theorem Qvh (n:Nat) (h12:n≤12) (X:List (Int×Int)) (a lim:Nat) (bal part:Bool) (M:List Qae) (hX:∀ x ∈ X,DE x) (hnd:X.Nodup) (hl:X.length≤700000) (hab:a+n≤X.length) :
 wp tb (.loop Qhv) { T:=[(0,O2 X),(1,I a),(2,I ((a:Int)+n)),(3,I lim),(4,fcE),(10,Bo bal),(11,Bo part)],loc:=[],M:=M } (Ql8 X a n M):=by
 obtain ⟨X',hS,hs,hE⟩:=Jb3 X hX hnd hl a n hab (M++[[]])
 have e1:=Qab hE
 have w00:(a:Int)+(n:Int) - a=n:=by omega
 have w0:IntKind.i64.wrap (n:Int)=(n:Int):=Qaj (by omega) (by omega)
 have g1:(n:Int)≤12:=by omega
 refine wW ?_
 repeat (first|apply wA|apply wS|refine wr (by simp [w00,w0,g1,h12,e1];with_reducible rfl) ?_|refine wq (by simp [w00,w0,g1,h12,e1];with_reducible rfl) ?_|refine wt (by simpa [w00,w0,g1,h12,e1]) ?_|refine wf (by simpa [w00,w0,g1,h12,e1]) ?_|refine xt (by simpa [w00,w0,g1,h12,e1]) ?_|refine xf (by simpa [w00,w0,g1,h12,e1]) ?_|apply wB|apply Qaa|refine wX ?_|refine wY ?_|refine wR ?_|refine wK ?_|refine wE ?_)
 refine ⟨rfl,X',hS,hs,?_⟩
 simp [Qob]
set_option maxHeartbeats 4000000 in
theorem Jcr:∀ (N n:Nat),n≤N→n≤21→∀ (X:List (Int×Int)) (a lim:Nat) (bal part:Bool) (M:List Qae),(∀ x ∈ X,DE x)→X.Nodup→X.length≤700000→a+n≤X.length→pot n≤lim→lim≤1000 →
 (a=0 ∨ ∀ k e f,a≤k→k < a+n→X[a - 1]? = some e→X[k]? = some f→Qao e f=true) →
 wp tb (.loop Qhv) { T:=[(0,O2 X),(1,I a),(2,I ((a:Int)+n)),(3,I lim),(4,fcE),(10,Bo bal),(11,Bo part)],loc:=[],M:=M } (Ql8 X a n M):=by
 intro N
 induction N with
 | zero =>
   intro n hn h21 X a lim bal part M hX hnd hl hab hpot hlim h0
   exact Qvh n (by omega) X a lim bal part M hX hnd hl hab
 | succ N ih =>
   intro n hn h21 X a lim bal part M hX hnd hl hab hpot hlim h0
   by_cases h12:n≤12
   · exact Qvh n h12 X a lim bal part M hX hnd hl hab
   have hp1:pot n=(n - 11) / 2:=by rw [pot,if_neg h12]
   have hlim1:1≤lim:=by omega
   have hpm:∀ n',n'+2≤n→pot n'≤lim - 1:=fun n' h=>by
    rw [pot];split <;> omega
   have hrec:∀ lim',lim - 1≤lim'→lim'≤1000→∀ M,Qr9 n lim' M:=fun lim' h1 h2 M n' a' X hn' hX hnd hl hab h0=>by
    obtain ⟨X',q1,q2,q3⟩:=Qq3 (ih n' (by omega) (by omega) X a' lim' true true M hX hnd hl hab (by have:=hpm n' hn';omega) h2 h0)
    exact ⟨X',q1,q2,Qab q3⟩
   have w00:(a:Int)+(n:Int) - a=n:=by omega
   have w0:IntKind.i64.wrap (n:Int)=(n:Int):=Qaj (by omega) (by omega)
   have g1:¬ (n:Int)≤12:=by omega
   have g2:¬ (lim:Int)=0:=by omega
   have g2':¬ lim=0:=by omega
   have fin:∀ (X1:List (Int×Int)) (lim1:Nat),Seg X X1 a (a+n)→lim - 1≤lim1→lim1≤1000 →
    (∀ (X3:List (Int×Int)) (mid:Nat) (bal part:Bool),a < mid→mid+1 < a+n→Seg X1 X3 a (a+n)→Qdf X3 a (mid+1)→Qiw X3 a (mid+1) (a+n) →
      wp tb (.loop Qhv) { T:=[(0,O2 X3),(1,I (mid+1:Nat)),(2,I ((a:Int)+n)),(3,I lim1),(4,fcE),(10,Bo bal),(11,Bo part)],loc:=[],M:=M } (Ql8 X a n M)) ∧
    (∀ (X3:List (Int×Int)) (mid:Nat) (bal part:Bool),a < mid→mid+1 < a+n→Seg X1 X3 a (a+n)→Qdf X3 mid (a+n)→Qiw X3 a mid (a+n) →
      wp tb (.loop Qhv) { T:=[(0,O2 X3),(1,I a),(2,I mid),(3,I lim1),(4,fcE),(10,Bo bal),(11,Bo part)],loc:=[],M:=M } (Ql8 X a n M)):=by
    intro X1 lim1 hS1 hl1 hl2
    refine ⟨fun X3 mid bal part h1 h2 hS3 hs hc=>?_,fun X3 mid bal part h1 h2 hS3 hs hc=>?_⟩
    · have hS:=hS1.trans hS3
      have hle:=hS.len
      obtain ⟨n2,hn2⟩:∃ n2,a+n=mid+1+n2:=⟨a+n - (mid+1),by omega⟩
      have:=ih n2 (by omega) (by omega) X3 (mid+1) lim1 bal part M (fun x hx=>hX x (hS.perm.mem_iff.1 hx)) (hS.nodup hnd) (by omega) (by omega) (by have:=hpm n2 (by omega);omega) hl2 (.inr fun k e f k1 k2 he hf=>by
       rw [Nat.add_sub_cancel] at he
       exact hc mid k e f (by omega) (by omega) k1 (by omega) he hf)
      rw [show ((mid+1:Nat):Int)+(n2:Int)=(a:Int)+n by omega] at this
      refine Qal this ?_
      rintro ex st ⟨rfl,X',q1,q2,q3⟩
      rw [← hn2] at q1 q2
      exact ⟨rfl,X',hS.trans (q1.mono (by omega) (Nat.le_refl _)),Qrj (hS.nodup hnd) hs hc q1 q2,q3⟩
    · have hS:=hS1.trans hS3
      have hle:=hS.len
      obtain ⟨n1,hn1⟩:∃ n1,mid=a+n1:=⟨mid - a,by omega⟩
      have:=ih n1 (by omega) (by omega) X3 a lim1 bal part M (fun x hx=>hX x (hS.perm.mem_iff.1 hx)) (hS.nodup hnd) (by omega) (by omega) (by have:=hpm n1 (by omega);omega) hl2 (by
       rcases h0 with h0 | h0
       · exact .inl h0
       · by_cases ha:a=0
         · exact .inl ha
         · refine .inr fun k e f k1 k2 he hf=>?_
           rw [hS.out (a - 1) (by omega)] at he
           obtain ⟨k',hk',hf'⟩:=hS.back hnd ⟨k1,by omega⟩ hf
           exact h0 k' e f hk'.1 hk'.2 he hf')
      rw [show (a:Int)+(n1:Int)=(mid:Int) by omega] at this
      refine Qal this ?_
      rintro ex st ⟨rfl,X',q1,q2,q3⟩
      rw [← hn1] at q1 q2
      exact ⟨rfl,X',hS.trans (q1.mono (Nat.le_refl _) (by omega)),Qou (hS.nodup hnd) hs hc q1 q2,q3⟩
   cases bal with
   | true =>
     obtain ⟨fL,fR⟩:=fin X lim (Seg.refl X a (a+n)) (by omega) hlim
     refine wW ?_
     iterate 10 (first|apply wA|apply wS|refine wr (by simp [w00,w0,g1,h12,g2,g2'];with_reducible rfl) ?_|refine wq (by simp [w00,w0,g1,h12,g2,g2'];with_reducible rfl) ?_|refine wt (by simpa [w00,w0,g1,h12,g2,g2']) ?_|refine wf (by simpa [w00,w0,g1,h12,g2,g2']) ?_|refine xt (by simpa [w00,w0,g1,h12,g2,g2']) ?_|refine xf (by simpa [w00,w0,g1,h12,g2,g2']) ?_|apply wB|apply Qaa|refine wX ?_|refine wY ?_|refine wR ?_|refine wK ?_|refine wE ?_)
     refine wK ?_
     refine Jsy X hX hnd hl a n lim (by omega) h21 hab M (hrec lim (by omega) hlim _) h0 true part _ true ?_ ?_ ?_
     · intro m hs
       refine ⟨rfl,X,Seg.refl X a (a+n),hs,?_⟩
       simp [Qob]
     · intro X3 mid bal part h1 h2 h3 h4 h5
       exact fL X3 mid bal part h1 h2 h3 h4 h5
     · intro X3 mid bal part h1 h2 h3 h4 h5
       exact fR X3 mid bal part h1 h2 h3 h4 h5
   | false =>
     obtain ⟨X1,hS1,hE⟩:=Qi0 X (by omega) a n (by omega) h21 hab (M++[[]])
     have e1:=Qab hE
     obtain ⟨lim1,hlim2⟩:∃ lim1,lim=lim1+1:=⟨lim - 1,by omega⟩
     have hle:=hS1.len
     have w1:IntKind.i64.wrap ((lim:Int) - 1)=(lim1:Int):=by rw [Qaj (by omega) (by omega)];omega
     obtain ⟨fL,fR⟩:=fin X1 lim1 hS1 (by omega) (by omega)
     refine wW ?_
     iterate 12 (first|apply wA|apply wS|refine wr (by simp [w00,w0,g1,h12,g2,g2',e1,w1];with_reducible rfl) ?_|refine wq (by simp [w00,w0,g1,h12,g2,g2',e1,w1];with_reducible rfl) ?_|refine wt (by simpa [w00,w0,g1,h12,g2,g2',e1,w1]) ?_|refine wf (by simpa [w00,w0,g1,h12,g2,g2',e1,w1]) ?_|refine xt (by simpa [w00,w0,g1,h12,g2,g2',e1,w1]) ?_|refine xf (by simpa [w00,w0,g1,h12,g2,g2',e1,w1]) ?_|apply wB|apply Qaa|refine wX ?_|refine wY ?_|refine wR ?_|refine wK ?_|refine wE ?_)
     refine Jsy X1 (fun x hx=>hX x (hS1.perm.mem_iff.1 hx)) (hS1.nodup hnd) (by omega) a n lim1 (by omega) h21 (by omega) M (hrec lim1 (by omega) (by omega) _) ?_ false part _ false ?_ ?_ ?_
     · rcases h0 with h0 | h0
       · exact .inl h0
       · by_cases ha:a=0
         · exact .inl ha
         · refine .inr fun k e f k1 k2 he hf=>?_
           rw [hS1.out (a - 1) (by omega)] at he
           obtain ⟨k',hk',hf'⟩:=hS1.back hnd ⟨k1,k2⟩ hf
           exact h0 k' e f hk'.1 hk'.2 he hf'
     · intro m hs
       refine ⟨rfl,X1,hS1,hs,?_⟩
       simp [Qob]
     · intro X3 mid bal part h1 h2 h3 h4 h5
       exact fL X3 mid bal part h1 h2 h3 h4 h5
     · intro X3 mid bal part h1 h2 h3 h4 h5
       exact fR X3 mid bal part h1 h2 h3 h4 h5
theorem Qkw (X:List (Int×Int)) (hX:∀ x ∈ X,DE x) (hn:X.Nodup) (h21:X.length≤21) (M:List Qae) :
 ∃ X':List (Int×Int),X'.Perm X∧Qdf X' 0 X.length∧Ev tb Qte [0] [O2 X,fcE] M ⟨.tup [],[O2 X'],M,[]⟩:=by
 have hb:Qul X.length≤1000:=by unfold Qul;(repeat' split) <;> omega
 have hp:pot X.length≤Qul X.length:=by
  unfold pot Qul
  (repeat' split) <;> omega
 obtain ⟨X',hS,hs,hE⟩:=Qq3 (Jcr X.length X.length (Nat.le_refl _) h21 X 0 (Qul X.length) true true (M++[[]]) hX hn (by omega) (by omega) hp hb (.inl rfl))
 have e1:=Qab hE
 have e2:=Qab (Qvi X.length h21)
 have w1:=@Jf1 X.length (by omega)
 rw [show ((0:Nat):Int)=0 from rfl,Int.zero_add] at e1
 rw [Nat.zero_add] at hs
 refine ⟨X',hS.perm,hs,?_⟩
 refine cW zt272 rfl ?_
 repeat (first|apply wA|apply wS|refine wr (by simp [e1,e2,w1];with_reducible rfl) ?_|refine wq (by simp [e1,e2,w1];with_reducible rfl) ?_|refine wt (by simpa [e1,e2,w1]) ?_|refine wf (by simpa [e1,e2,w1]) ?_|refine xt (by simpa [e1,e2,w1]) ?_|refine xf (by simpa [e1,e2,w1]) ?_|apply wB|apply Qaa|refine wX ?_|refine wY ?_|refine wR ?_|refine wK ?_|refine wE ?_)
 simp [Ja6]
def Jd8 (X:List (Int×Int)):List (Int×Int):=Qni Qao [] X
theorem Qmn {X:List (Int×Int)} (hn:X.Nodup):PW (Jd8 X):=by
 obtain ⟨h1,h2⟩:=Qpu (lt:=Qao) Qr4 (fun a b h=>Qen h) X [] .nil
 have hnd:(Jd8 X).Nodup:=h2.nodup_iff.2 (by simpa using hn)
 refine (h1.and hnd).imp fun {a b} h=>?_
 rcases Qb2 h.2 with q | q
 · exact q
 · rw [h.1] at q;cases q
theorem Qfa (X:List (Int×Int)):(Jd8 X).Perm X:=by
 have:=Qnq Qao X []
 rwa [List.nil_append] at this
theorem Qqs (X:List (Int×Int)) (hX:∀ x ∈ X,DE x) (hn:X.Nodup) (h21:X.length≤21) (M:List Qae) :
 Ev tb Qte [0] [O2 X,fcE] M ⟨.tup [],[O2 (Jd8 X)],M,[]⟩:=by
 obtain ⟨X',hp,hs,hE⟩:=Qkw X hX hn h21 M
 have hl:=hp.length_eq
 have hpw:PW X':=List.pairwise_iff_getElem.2 fun i j hi hj hij=>hs i j _ _ (by omega) hij (by omega) (List.getElem?_eq_getElem hi) (List.getElem?_eq_getElem hj)
 have:X'=Jd8 X:=Qif hpw (Qmn hn) fun e=>by rw [hp.mem_iff,(Qfa X).mem_iff]
 rw [← this];exact hE
end Go.Idl
namespace Go.Idl
open Go
def Qix (o:List Int) (i:Nat):List Int:=o.set i (o.getD i 0 - 1)
def subs:List (Int×Int)→List Int→List (Int×Int)→List (List (Int×Int))
 | [],left,chosen=>if left.all (fun x=>decide (x=0)) then [chosen] else []
 | e::r,left,chosen =>
   (if 0 < left.getD e.1.toNat 0∧0 < left.getD e.2.toNat 0 then subs r (Qix (Qix left e.1.toNat) e.2.toNat) (chosen++[e]) else [])++subs r left chosen
theorem Qny (e0:Nat) (es:List (Int×Int)) (c:Bool) (he0:e0=2 ∨ es=[]) (hl:es.length≤2000000):Ev tb Qtu [] [.lst e0 (eds es) c] [] ⟨O2 es,[],[],[]⟩:=by
 rcases he0 with rfl | rfl
 · refine cW Jqf rfl ?_
   refine Qf2 (by simp;rfl) (by simp;rfl) ?_
   refine Qu1 (b:=es.isEmpty) (by simp [Qvl];rfl) (by simp) ?_ ?_ ?_ (ex:=.ret) (st':={ T:=[(2,.own 2 (eds es))],loc:=[],M:=[] })
   · refine Qqb (t:=false) (by simp) (by simp) fun _=>wS ?_
     refine Qf2 (by simp [show es.length≤274877906944 by omega];rfl) (by simp;rfl) ?_
     refine wR ?_
     simp
   · intro he
     have:es=[]:=by simpa using he
     subst this
     refine Qqb (t:=true) (by simp) (fun _=>wA ?_) (by simp)
     refine Qf2 (by simp;rfl) (by simp;rfl) ?_
     refine wX ?_
     simp
   · simp [Qwj]
 · refine cW Jqf rfl ?_
   refine Qf2 (by simp;rfl) (by simp;rfl) ?_
   refine Qu1 (b:=([]:List (Int×Int)).isEmpty) (by simp [Qvl];rfl) (by simp) ?_ ?_ ?_ (ex:=.ret) (st':={ T:=[(2,.own 2 (eds ([]:List (Int×Int))))],loc:=[],M:=[] })
   · refine Qqb (t:=false) (by simp) (by simp) fun _=>wS ?_
     refine Qf2 (by simp;rfl) (by simp;rfl) ?_
     refine wR ?_
     simp
   · intro he
     refine Qqb (t:=true) (by simp) (fun _=>wA ?_) (by simp)
     refine Qf2 (by simp;rfl) (by simp;rfl) ?_
     refine wX ?_
     simp
   · simp [Qwj]
theorem Qnl (e0:Nat) (es:List (Int×Int)) (c:Bool) (he0:e0=2 ∨ es=[]) (hl:es.length≤2000000):Ev tb Qub [] [.lst e0 (eds es) c] [] ⟨O2 es,[],[],[]⟩:=by
 have e1:=Qab (Qny e0 es c he0 hl)
 have e2:=Qab (Jap es)
 refine cW Jyw rfl ?_
 repeat (first|apply wA|apply wS|refine wr (by simp [e1,e2];with_reducible rfl) ?_|refine wq (by simp [e1,e2];with_reducible rfl) ?_|refine wt (by simpa [e1,e2]) ?_|refine wf (by simpa [e1,e2]) ?_|refine xt (by simpa [e1,e2]) ?_|refine xf (by simpa [e1,e2]) ?_|apply wB|apply Qaa|refine wX ?_|refine wY ?_|refine wR ?_|refine wK ?_|refine wE ?_)
 simp [Jdi]
end Go.Idl
namespace Go.Idl
open Go
theorem Jiz (n:Int) (e0:Nat) (es:List (Int×Int)) (c:Bool) (he0:e0=2 ∨ es=[]) (hX:∀ x ∈ es,DE x) (hn:es.Nodup) (h21:es.length≤21) :
 Ev tb Quq [] [I n,.lst e0 (eds es) c] [] ⟨OG n (Jd8 es),[],[],[]⟩:=by
 have e1:=Qab (Qnl e0 es c he0 (by omega))
 have e2:=Qab (Qqs es hX hn h21 [[[I 0,Z]]])
 refine cW zt214 rfl ?_
 repeat (first|apply wA|apply wS|refine wr (by simp [e1,e2];with_reducible rfl) ?_|refine wq (by simp [e1,e2];with_reducible rfl) ?_|refine wt (by simpa [e1,e2]) ?_|refine wf (by simpa [e1,e2]) ?_|refine xt (by simpa [e1,e2]) ?_|refine xf (by simpa [e1,e2]) ?_|apply wB|apply Qaa|refine wX ?_|refine wY ?_|refine wR ?_|refine wK ?_|refine wE ?_)
 simp [Jci]
end Go.Idl
namespace Go.Idl
open Go
def Jae (p:Int×Int→Bool) (i:Int):List (Int×Int)→Int
 | []=>-1
 | x::xs=>if p x then i else Jae p (i+1) xs
theorem Qks (xs:List (Int×Int)) (F:Lab) (caps:List IV) (M:List Qae) (p:Int×Int→Bool) (hl:xs.length≤2000000)
 (hp:∀ x ∈ xs,Ev tb F [] (.agg [I x.1,I x.2]::caps) (M++[[]]) ⟨Bo (p x),[],M++[[]],[]⟩) :
 Ev tb Qz3 [0] [O2 xs,.fn F caps] M ⟨I (Jae p 0 xs),[O2 xs],M,[]⟩:=by
 have loop:∀ (m i:Nat),i+m=xs.length→wp tb (.loop Jes) { T:=[(0,O2 xs),(1,.fn F caps),(7,I xs.length),(8,I i)],loc:=[],M:=M }
  (fun ex st=>(ex=.exit 0∧Jae p i (xs.drop i)=-1∧st={ T:=[(0,O2 xs),(1,.fn F caps),(7,I xs.length),(8,I xs.length),(9,Bo false)],loc:=[],M:=M }) ∨
    ex=.ret∧st={ T:=[(0,O2 xs),(4,I (Jae p i (xs.drop i)))],loc:=[],M:=M }):=by
  intro m
  induction m with
  | zero =>
    intro i hi
    have h2:xs.drop i=[]:=List.drop_of_length_le (by omega)
    have h3:i=xs.length:=hi
    subst h3
    refine wW ?_
    repeat (first|apply wA|apply wS|refine wr (by simp;with_reducible rfl) ?_|refine wq (by simp;with_reducible rfl) ?_|refine wt (by simpa) ?_|refine wf (by simpa) ?_|refine xt (by simpa) ?_|refine xf (by simpa) ?_|apply wB|apply Qaa|refine wX ?_|refine wY ?_|refine wR ?_|refine wK ?_|refine wE ?_)
    refine .inl ⟨rfl,by rw [h2];rfl,rfl⟩
  | succ m ih =>
    intro i hi
    have hi2:i < xs.length:=by omega
    have h2:xs.drop i=xs[i]::xs.drop (i+1):=List.drop_eq_getElem_cons hi2
    have e1:=Qab (hp _ (List.getElem_mem hi2))
    have w1:IntKind.i64.wrap ((i:Int)+1)=((i+1:Nat):Int):=Qbe (by omega)
    have gx:(eds xs)[i]'(by simpa using hi2)=[I xs[i].1,I xs[i].2]:=by simp [eds]
    rw [h2]
    cases hpx:p xs[i] with
    | true =>
      refine wW ?_
      repeat (first|apply wA|apply wS|refine wr (by simp [e1,hi2,w1,hpx,gx];with_reducible rfl) ?_|refine wq (by simp [e1,hi2,w1,hpx,gx];with_reducible rfl) ?_|refine wt (by simpa [e1,hi2,w1,hpx,gx]) ?_|refine wf (by simpa [e1,hi2,w1,hpx,gx]) ?_|refine xt (by simpa [e1,hi2,w1,hpx,gx]) ?_|refine xf (by simpa [e1,hi2,w1,hpx,gx]) ?_|apply wB|apply Qaa|refine wX ?_|refine wY ?_|refine wR ?_|refine wK ?_|refine wE ?_)
      refine .inr ⟨rfl,by simp [Jae,hpx]⟩
    | false =>
      refine wW ?_
      repeat (first|apply wA|apply wS|refine wr (by simp [e1,hi2,w1,hpx,gx];with_reducible rfl) ?_|refine wq (by simp [e1,hi2,w1,hpx,gx];with_reducible rfl) ?_|refine wt (by simpa [e1,hi2,w1,hpx,gx]) ?_|refine wf (by simpa [e1,hi2,w1,hpx,gx]) ?_|refine xt (by simpa [e1,hi2,w1,hpx,gx]) ?_|refine xf (by simpa [e1,hi2,w1,hpx,gx]) ?_|apply wB|apply Qaa|refine wX ?_|refine wY ?_|refine wR ?_|refine wK ?_|refine wE ?_)
      have:=ih (i+1) (by omega)
      simp only [Jae,hpx] at this ⊢
      exact this
 refine cW Jz3 rfl ?_
 repeat (first|apply wA|apply wS|refine wr (by simp;with_reducible rfl) ?_|refine wq (by simp;with_reducible rfl) ?_|refine wt (by simpa) ?_|refine wf (by simpa) ?_|refine xt (by simpa) ?_|refine xf (by simpa) ?_|apply wB|apply Qaa|refine wX ?_|refine wY ?_|refine wR ?_|refine wK ?_|refine wE ?_)
 refine Qal (loop xs.length 0 (by simp)) ?_
 rintro ex st (⟨rfl,h,rfl⟩ | ⟨rfl,rfl⟩)
 · simp only [if_true]
   repeat (first|apply wA|apply wS|refine wr (by simp;with_reducible rfl) ?_|refine wq (by simp;with_reducible rfl) ?_|refine wt (by simpa) ?_|refine wf (by simpa) ?_|refine xt (by simpa) ?_|refine xf (by simpa) ?_|apply wB|apply Qaa|refine wX ?_|refine wY ?_|refine wR ?_|refine wK ?_|refine wE ?_)
   simp at h
   simp [Qww,h]
 · simp [Qww]
theorem Qoo (p:Int×Int→Bool):∀ (xs:List (Int×Int)) (i:Nat),(Jae p i xs=-1∧∀ x ∈ xs,p x=false) ∨ ∃ k:Nat,∃ h:k < xs.length,Jae p i xs=((i+k:Nat):Int)∧p xs[k]=true∧∀ x ∈ xs.take k,p x=false
 | [],i=>.inl ⟨rfl,by simp⟩
 | x::r,i=>by
   cases hp:p x with
   | true=>exact .inr ⟨0,by simp,by simp [Jae,hp],hp,by simp⟩
   | false =>
     rcases Qoo p r (i+1) with ⟨h1,h2⟩ | ⟨k,hk,h1,h2,h3⟩
     · refine .inl ⟨?_,fun y hy=>?_⟩
       · simp only [Jae,hp,Bool.false_eq_true,if_false];exact h1
       · rcases List.mem_cons.1 hy with rfl | hy
         · exact hp
         · exact h2 y hy
     · refine .inr ⟨k+1,by simp;exact hk,?_,h2,fun y hy=>?_⟩
       · simp only [Jae,hp,Bool.false_eq_true,if_false]
         rw [show ((i:Int)+1)=((i+1:Nat):Int) by omega,h1];omega
       · rw [List.take_succ_cons] at hy
         rcases List.mem_cons.1 hy with rfl | hy
         · exact hp
         · exact h3 y hy
theorem Qvy (xs:List (Int×Int)) (F:Lab) (caps:List IV) (M:List Qae) (p:Int×Int→Bool) (hl:xs.length≤2000000)
 (hp:∀ bs,∀ x ∈ xs,Ev tb F [] (.agg [I x.1,I x.2]::caps) (M++[bs]) ⟨Bo (p x),[],M++[bs],[]⟩):∀ (m j i:Nat) (s:List (Int×Int)) (bs:Qae),j+m=xs.length→i < j→s.length=xs.length→s.take i=(xs.take j).filter (fun x=>!p x)→s.drop j=xs.drop j →
 wp tb (.loop Qw0) { T:=[(0,O2 s),(1,.fn F caps),(5,I i),(6,I j)],loc:=bs,M:=M }
  (fun ex st=>ex=.exit 0∧∃ (i:Nat) (s:List (Int×Int)) (bs:Qae),(i < xs.length∧s.length=xs.length∧s.take i=xs.filter (fun x=>!p x))∧st={ T:=[(0,O2 s),(1,.fn F caps),(5,I i),(6,I xs.length),(19,Bo false)],loc:=bs,M:=M }):=by
 intro m
 induction m with
 | zero =>
   intro j i s bs hj hij hs h1 h2
   have h3:j=xs.length:=hj
   subst h3
   rw [List.take_length] at h1
   refine wW ?_
   repeat (first|apply wA|apply wS|refine wr (by simp [hs];with_reducible rfl) ?_|refine wq (by simp [hs];with_reducible rfl) ?_|refine wt (by simpa [hs]) ?_|refine wf (by simpa [hs]) ?_|refine xt (by simpa [hs]) ?_|refine xf (by simpa [hs]) ?_|apply wB|apply Qaa|refine wX ?_|refine wY ?_|refine wR ?_|refine wK ?_|refine wE ?_)
   exact ⟨rfl,i,s,bs,⟨hij,hs,h1⟩,rfl⟩
 | succ m ih =>
   intro j i s bs hj hij hs h1 h2
   have hjl:j < xs.length:=by omega
   have hjs:j < s.length:=by omega
   have hil:i < s.length:=by omega
   have hil':i < xs.length:=by omega
   have hsj:s[j]=xs[j]:=by
    have h3:s.drop j=s[j]::s.drop (j+1):=List.drop_eq_getElem_cons hjs
    have h4:xs.drop j=xs[j]::xs.drop (j+1):=List.drop_eq_getElem_cons hjl
    rw [h3,h4] at h2
    exact (List.cons.inj h2).1
   have hd2:s.drop (j+1)=xs.drop (j+1):=by
    have h3:s.drop j=s[j]::s.drop (j+1):=List.drop_eq_getElem_cons hjs
    have h4:xs.drop j=xs[j]::xs.drop (j+1):=List.drop_eq_getElem_cons hjl
    rw [h3,h4] at h2
    exact (List.cons.inj h2).2
   have gx:(eds s)[j]'(by simpa using hjs)=[I xs[j].1,I xs[j].2]:=by simp [eds,hsj]
   have e1:=fun bs=>Qab (hp bs _ (List.getElem_mem hjl))
   have w1:IntKind.i64.wrap ((j:Int)+1)=((j+1:Nat):Int):=Qbe (by omega)
   have w2:IntKind.i64.wrap ((i:Int)+1)=((i+1:Nat):Int):=Qbe (by omega)
   have ht:(xs.take (j+1)).filter (fun x=>!p x)=(xs.take j).filter (fun x=>!p x)++(if p xs[j] then [] else [xs[j]]):=by
    rw [List.take_succ_eq_append_getElem hjl,List.filter_append,List.filter_cons,List.filter_nil]
    cases p xs[j] <;> rfl
   cases hpx:p xs[j] with
   | true =>
     rw [hpx,if_pos rfl,List.append_nil] at ht
     have hn:=fun bs=>ih (j+1) i s bs (by omega) (by omega) hs (by rw [ht];exact h1) hd2
     refine wW ?_
     repeat (first|apply wA|apply wS|refine wr (by simp [hs,hjl,hjs,gx,e1,hpx,w1];with_reducible rfl) ?_|refine wq (by simp [hs,hjl,hjs,gx,e1,hpx,w1];with_reducible rfl) ?_|refine wt (by simpa [hs,hjl,hjs,gx,e1,hpx,w1]) ?_|refine wf (by simpa [hs,hjl,hjs,gx,e1,hpx,w1]) ?_|refine xt (by simpa [hs,hjl,hjs,gx,e1,hpx,w1]) ?_|refine xf (by simpa [hs,hjl,hjs,gx,e1,hpx,w1]) ?_|apply wB|apply Qaa|refine wX ?_|refine wY ?_|refine wR ?_|refine wK ?_|refine wE ?_)
     exact hn _
   | false =>
     rw [hpx,if_neg (by simp)] at ht
     have hn:=fun bs=>ih (j+1) (i+1) (s.set i xs[j]) bs (by omega) (by omega) (by simpa using hs) (by
      rw [ht,← h1,List.take_succ_eq_append_getElem (by simpa using hil),List.take_set_of_le (Nat.le_refl _),List.getElem_set_self]) (by
      rw [List.drop_set_of_lt (by omega)];exact hd2)
     refine wW ?_
     repeat (first|apply wA|apply wS|refine wr (by simp [hs,hjl,hjs,gx,e1,hpx,w1,w2,hil,hil',Qh8];with_reducible rfl) ?_|refine wq (by simp [hs,hjl,hjs,gx,e1,hpx,w1,w2,hil,hil',Qh8];with_reducible rfl) ?_|refine wt (by simpa [hs,hjl,hjs,gx,e1,hpx,w1,w2,hil,hil',Qh8]) ?_|refine wf (by simpa [hs,hjl,hjs,gx,e1,hpx,w1,w2,hil,hil',Qh8]) ?_|refine xt (by simpa [hs,hjl,hjs,gx,e1,hpx,w1,w2,hil,hil',Qh8]) ?_|refine xf (by simpa [hs,hjl,hjs,gx,e1,hpx,w1,w2,hil,hil',Qh8]) ?_|apply wB|apply Qaa|refine wX ?_|refine wY ?_|refine wR ?_|refine wK ?_|refine wE ?_)
     exact hn _
theorem Qfv (xs:List (Int×Int)):((eds xs).all fun x=>x.all IV.isSc)=true:=by
 induction xs with
 | nil=>rfl
 | cons x xs ih=>simp only [eds,List.map_cons,List.all_cons] at *;rw [ih];rfl
theorem Qkt (xs:List (Int×Int)) (F:Lab) (caps:List IV) (M:List Qae) (p:Int×Int→Bool) (hl:xs.length≤2000000)
 (hp:∀ bs M' x,x ∈ xs→Ev tb F [] (.agg [I x.1,I x.2]::caps) (M++[bs]++M') ⟨Bo (p x),[],M++[bs]++M',[]⟩) :
 Ev tb Qwv [] [O2 xs,.fn F caps] M ⟨O2 (xs.filter fun x=>!p x),[],M,[]⟩:=by
 have e1:=Qab (Qks xs F caps (M++[[]]) p hl (fun x hx=>hp [] [[]] x hx))
 rcases Qoo p xs 0 with ⟨h1,h2⟩ | ⟨k,hk,h1,h2,h3⟩
 · rw [show ((0:Nat):Int)=0 from rfl] at h1
   rw [h1] at e1
   have hf:(xs.filter fun x=>!p x)=xs:=List.filter_eq_self.2 fun x hx=>by rw [h2 x hx];rfl
   rw [hf]
   refine cW Ju7 rfl ?_
   repeat (first|apply wA|apply wS|refine wr (by simp [e1];with_reducible rfl) ?_|refine wq (by simp [e1];with_reducible rfl) ?_|refine wt (by simpa [e1]) ?_|refine wf (by simpa [e1]) ?_|refine xt (by simpa [e1]) ?_|refine xf (by simpa [e1]) ?_|apply wB|apply Qaa|refine wX ?_|refine wY ?_|refine wR ?_|refine wK ?_|refine wE ?_)
   simp [Qzq]
 · rw [show ((0:Nat):Int)=0 from rfl,Nat.zero_add] at h1
   rw [h1] at e1
   have hk0:¬ (k:Int)=-1:=by omega
   have w1:IntKind.i64.wrap ((k:Int)+1)=((k+1:Nat):Int):=Qbe (by omega)
   have hlo:=Qvy xs F caps M p hl (fun bs x hx=>by simpa using hp bs [] x hx) (xs.length - (k+1)) (k+1) k xs [] (by omega) (by omega) rfl (by
    rw [List.take_succ_eq_append_getElem hk,List.filter_append,List.filter_cons,h2]
    simp only [Bool.not_true,Bool.false_eq_true,if_false,List.filter_nil,List.append_nil]
    exact (List.filter_eq_self.2 fun x hx=>by rw [h3 x hx];rfl).symm) rfl
   refine cW Ju7 rfl ?_
   repeat (first|apply wA|apply wS|refine wr (by simp [e1,hk0,w1];with_reducible rfl) ?_|refine wq (by simp [e1,hk0,w1];with_reducible rfl) ?_|refine wt (by simpa [e1,hk0,w1]) ?_|refine wf (by simpa [e1,hk0,w1]) ?_|refine xt (by simpa [e1,hk0,w1]) ?_|refine xf (by simpa [e1,hk0,w1]) ?_|apply wB|apply Qaa|refine wX ?_|refine wY ?_|refine wR ?_|refine wK ?_|refine wE ?_)
   refine Qal hlo ?_
   rintro ex st ⟨rfl,i,s,bs,⟨k1,k2,k3⟩,rfl⟩
   simp only [if_true]
   have hil:i≤xs.length:=by omega
   have hz:s.drop xs.length=[]:=List.drop_of_length_le (by omega)
   have hti:(s.take i).length=i:=by simp;omega
   have hfl:(xs.filter fun x=>!p x).length=i:=by rw [← k3];exact hti
   generalize (xs.filter fun x=>!p x)=G at *
   have htk:∀ Z:List (List IV),(eds G++Z).take i=eds G:=fun Z=>by
    rw [List.take_append_of_le_length (by rw [Qy1];omega),List.take_of_length_le (by rw [Qy1];omega)]
   repeat (first|apply wA|apply wS|refine wr (by simp [k2,hil,↓Qfv,hz,k3,hti,hfl,htk];with_reducible rfl) ?_|refine wq (by simp [k2,hil,↓Qfv,hz,k3,hti,hfl,htk];with_reducible rfl) ?_|refine wt (by simpa [k2,hil,↓Qfv,hz,k3,hti,hfl,htk]) ?_|refine wf (by simpa [k2,hil,↓Qfv,hz,k3,hti,hfl,htk]) ?_|refine xt (by simpa [k2,hil,↓Qfv,hz,k3,hti,hfl,htk]) ?_|refine xf (by simpa [k2,hil,↓Qfv,hz,k3,hti,hfl,htk]) ?_|apply wB|apply Qaa|refine wX ?_|refine wY ?_|refine wR ?_|refine wK ?_|refine wE ?_)
   simp [Qzq]
end Go.Idl
namespace Go.Idl
open Go
def apart (a b c d:Int):Bool:=decide (a ≠ b) && decide (a ≠ c) && decide (a ≠ d) && decide (b ≠ c) && decide (b ≠ d) && decide (c ≠ d)
abbrev Sw (a b c d:Int):IV:=.agg [I a,I b,I c,I d]
set_option maxHeartbeats 4000000 in
theorem Jdm (a b c d:Int) (M:List Qae):Ev tb Qx0 [] [Sw a b c d] M ⟨Bo (apart a b c d),[],M,[]⟩:=by
 by_cases h1:a=b
 · subst h1
   refine cW Qp5 rfl ?_
   repeat (first|apply wA|apply wS|refine wr (by simp;with_reducible rfl) ?_|refine wq (by simp;with_reducible rfl) ?_|refine wt (by simpa) ?_|refine wf (by simpa) ?_|refine xt (by simpa) ?_|refine xf (by simpa) ?_|apply wB|apply Qaa|refine wX ?_|refine wY ?_|refine wR ?_|refine wK ?_|refine wE ?_)
   simp [Qkq,apart]
 by_cases h2:a=c
 · subst h2
   refine cW Qp5 rfl ?_
   repeat (first|apply wA|apply wS|refine wr (by simp [h1];with_reducible rfl) ?_|refine wq (by simp [h1];with_reducible rfl) ?_|refine wt (by simpa [h1]) ?_|refine wf (by simpa [h1]) ?_|refine xt (by simpa [h1]) ?_|refine xf (by simpa [h1]) ?_|apply wB|apply Qaa|refine wX ?_|refine wY ?_|refine wR ?_|refine wK ?_|refine wE ?_)
   simp [Qkq,apart,h1]
 by_cases h3:a=d
 · subst h3
   refine cW Qp5 rfl ?_
   repeat (first|apply wA|apply wS|refine wr (by simp [h1,h2];with_reducible rfl) ?_|refine wq (by simp [h1,h2];with_reducible rfl) ?_|refine wt (by simpa [h1,h2]) ?_|refine wf (by simpa [h1,h2]) ?_|refine xt (by simpa [h1,h2]) ?_|refine xf (by simpa [h1,h2]) ?_|apply wB|apply Qaa|refine wX ?_|refine wY ?_|refine wR ?_|refine wK ?_|refine wE ?_)
   simp [Qkq,apart,h1,h2]
 by_cases h4:b=c
 · subst h4
   refine cW Qp5 rfl ?_
   repeat (first|apply wA|apply wS|refine wr (by simp [h1,h2,h3];with_reducible rfl) ?_|refine wq (by simp [h1,h2,h3];with_reducible rfl) ?_|refine wt (by simpa [h1,h2,h3]) ?_|refine wf (by simpa [h1,h2,h3]) ?_|refine xt (by simpa [h1,h2,h3]) ?_|refine xf (by simpa [h1,h2,h3]) ?_|apply wB|apply Qaa|refine wX ?_|refine wY ?_|refine wR ?_|refine wK ?_|refine wE ?_)
   simp [Qkq,apart,h1,h2,h3]
 by_cases h5:b=d
 · subst h5
   refine cW Qp5 rfl ?_
   repeat (first|apply wA|apply wS|refine wr (by simp [h1,h2,h3,h4];with_reducible rfl) ?_|refine wq (by simp [h1,h2,h3,h4];with_reducible rfl) ?_|refine wt (by simpa [h1,h2,h3,h4]) ?_|refine wf (by simpa [h1,h2,h3,h4]) ?_|refine xt (by simpa [h1,h2,h3,h4]) ?_|refine xf (by simpa [h1,h2,h3,h4]) ?_|apply wB|apply Qaa|refine wX ?_|refine wY ?_|refine wR ?_|refine wK ?_|refine wE ?_)
   simp [Qkq,apart,h1,h2,h3,h4]
 by_cases h6:c=d
 · subst h6
   refine cW Qp5 rfl ?_
   repeat (first|apply wA|apply wS|refine wr (by simp [h1,h2,h3,h4,h5];with_reducible rfl) ?_|refine wq (by simp [h1,h2,h3,h4,h5];with_reducible rfl) ?_|refine wt (by simpa [h1,h2,h3,h4,h5]) ?_|refine wf (by simpa [h1,h2,h3,h4,h5]) ?_|refine xt (by simpa [h1,h2,h3,h4,h5]) ?_|refine xf (by simpa [h1,h2,h3,h4,h5]) ?_|apply wB|apply Qaa|refine wX ?_|refine wY ?_|refine wR ?_|refine wK ?_|refine wE ?_)
   simp [Qkq,apart,h1,h2,h3,h4,h5]
 refine cW Qp5 rfl ?_
 repeat (first|apply wA|apply wS|refine wr (by simp [h1,h2,h3,h4,h5,h6];with_reducible rfl) ?_|refine wq (by simp [h1,h2,h3,h4,h5,h6];with_reducible rfl) ?_|refine wt (by simpa [h1,h2,h3,h4,h5,h6]) ?_|refine wf (by simpa [h1,h2,h3,h4,h5,h6]) ?_|refine xt (by simpa [h1,h2,h3,h4,h5,h6]) ?_|refine xf (by simpa [h1,h2,h3,h4,h5,h6]) ?_|apply wB|apply Qaa|refine wX ?_|refine wY ?_|refine wR ?_|refine wK ?_|refine wE ?_)
 simp [Qkq,apart,h1,h2,h3,h4,h5,h6]
def Qum (a b c d:Int) (x:Int×Int):Bool:=decide (x=(min a b,max a b)) || decide (x=(min c d,max c d))
set_option maxHeartbeats 4000000 in
theorem Qnp (x:Int×Int) (a b c d:Int) (B:Qae) (k:Nat) (hB:B[k]? = some [I a,I b,I c,I d]) (Ms:List Qae):Ev tb Qud [] [.agg [I x.1,I x.2],.bptr 0 k 0] (B::Ms) ⟨Bo (Qum a b c d x),[],B::Ms,[]⟩:=by
 have e1:=fun M=>Qab (Qlr a b M)
 have e2:=fun M=>Qab (Qlr c d M)
 obtain ⟨x1,x2⟩:=x
 have hg:Qum a b c d (x1,x2)=(decide (x1=min a b) && decide (x2=max a b) || decide (x1=min c d) && decide (x2=max c d)):=by
  simp [Qum]
 rw [hg]
 generalize min a b=p at *
 generalize max a b=q at *
 generalize min c d=r at *
 generalize max c d=s at *
 by_cases h1:x1=p
 · subst h1
   by_cases h2:x2=q
   · subst h2
     refine cW Qql rfl ?_
     repeat (first|apply wA|apply wS|refine wr (by simp [e1,e2,hB];with_reducible rfl) ?_|refine wq (by simp [e1,e2,hB];with_reducible rfl) ?_|refine wt (by simpa [e1,e2,hB]) ?_|refine wf (by simpa [e1,e2,hB]) ?_|refine xt (by simpa [e1,e2,hB]) ?_|refine xf (by simpa [e1,e2,hB]) ?_|apply wB|apply Qaa|refine wX ?_|refine wY ?_|refine wR ?_|refine wK ?_|refine wE ?_)
     refine Qdt (by simp [e1,e2,hB];with_reducible rfl) (by simp;with_reducible rfl) ?_ ?_
     · intro p hp
       simp only [List.mem_cons,List.not_mem_nil,or_false] at hp
       rcases hp with rfl | rfl | rfl
       · exact ⟨_,by simp [e1,e2,hB];with_reducible rfl,by simp⟩
       · exact ⟨_,by simp [e1,e2,hB];with_reducible rfl,by simp⟩
       · exact ⟨_,by simp [e1,e2,hB];with_reducible rfl,by simp⟩
     repeat (first|apply wA|apply wS|refine wr (by simp;with_reducible rfl) ?_|refine wq (by simp;with_reducible rfl) ?_|refine wt (by simpa) ?_|refine wf (by simpa) ?_|refine xt (by simpa) ?_|refine xf (by simpa) ?_|apply wB|apply Qaa|refine wX ?_|refine wY ?_|refine wR ?_|refine wK ?_|refine wE ?_)
     simp [Qkx]
   · by_cases h3:x1=r
     · subst h3
       by_cases h4:x2=s
       · subst h4
         refine cW Qql rfl ?_
         repeat (first|apply wA|apply wS|refine wr (by simp [e1,e2,hB,h2];with_reducible rfl) ?_|refine wq (by simp [e1,e2,hB,h2];with_reducible rfl) ?_|refine wt (by simpa [e1,e2,hB,h2]) ?_|refine wf (by simpa [e1,e2,hB,h2]) ?_|refine xt (by simpa [e1,e2,hB,h2]) ?_|refine xf (by simpa [e1,e2,hB,h2]) ?_|apply wB|apply Qaa|refine wX ?_|refine wY ?_|refine wR ?_|refine wK ?_|refine wE ?_)
         refine Qdt (by simp [e1,e2,hB,h2];with_reducible rfl) (by simp;with_reducible rfl) ?_ ?_
         · intro p hp
           simp only [List.mem_cons,List.not_mem_nil,or_false] at hp
           rcases hp with rfl | rfl | rfl
           · exact ⟨_,by simp [e1,e2,hB,h2];with_reducible rfl,by simp⟩
           · exact ⟨_,by simp [e1,e2,hB,h2];with_reducible rfl,by simp⟩
           · exact ⟨_,by simp [e1,e2,hB,h2];with_reducible rfl,by simp⟩
         repeat (first|apply wA|apply wS|refine wr (by simp;with_reducible rfl) ?_|refine wq (by simp;with_reducible rfl) ?_|refine wt (by simpa) ?_|refine wf (by simpa) ?_|refine xt (by simpa) ?_|refine xf (by simpa) ?_|apply wB|apply Qaa|refine wX ?_|refine wY ?_|refine wR ?_|refine wK ?_|refine wE ?_)
         simp [Qkx,h2]
       · refine cW Qql rfl ?_
         repeat (first|apply wA|apply wS|refine wr (by simp [e1,e2,hB,h2,h4];with_reducible rfl) ?_|refine wq (by simp [e1,e2,hB,h2,h4];with_reducible rfl) ?_|refine wt (by simpa [e1,e2,hB,h2,h4]) ?_|refine wf (by simpa [e1,e2,hB,h2,h4]) ?_|refine xt (by simpa [e1,e2,hB,h2,h4]) ?_|refine xf (by simpa [e1,e2,hB,h2,h4]) ?_|apply wB|apply Qaa|refine wX ?_|refine wY ?_|refine wR ?_|refine wK ?_|refine wE ?_)
         refine Qdt (by simp [e1,e2,hB,h2,h4];with_reducible rfl) (by simp;with_reducible rfl) ?_ ?_
         · intro p hp
           simp only [List.mem_cons,List.not_mem_nil,or_false] at hp
           rcases hp with rfl | rfl | rfl
           · exact ⟨_,by simp [e1,e2,hB,h2,h4];with_reducible rfl,by simp⟩
           · exact ⟨_,by simp [e1,e2,hB,h2,h4];with_reducible rfl,by simp⟩
           · exact ⟨_,by simp [e1,e2,hB,h2,h4];with_reducible rfl,by simp⟩
         repeat (first|apply wA|apply wS|refine wr (by simp;with_reducible rfl) ?_|refine wq (by simp;with_reducible rfl) ?_|refine wt (by simpa) ?_|refine wf (by simpa) ?_|refine xt (by simpa) ?_|refine xf (by simpa) ?_|apply wB|apply Qaa|refine wX ?_|refine wY ?_|refine wR ?_|refine wK ?_|refine wE ?_)
         simp [Qkx,h2,h4]
     · refine cW Qql rfl ?_
       repeat (first|apply wA|apply wS|refine wr (by simp [e1,e2,hB,h2,h3];with_reducible rfl) ?_|refine wq (by simp [e1,e2,hB,h2,h3];with_reducible rfl) ?_|refine wt (by simpa [e1,e2,hB,h2,h3]) ?_|refine wf (by simpa [e1,e2,hB,h2,h3]) ?_|refine xt (by simpa [e1,e2,hB,h2,h3]) ?_|refine xf (by simpa [e1,e2,hB,h2,h3]) ?_|apply wB|apply Qaa|refine wX ?_|refine wY ?_|refine wR ?_|refine wK ?_|refine wE ?_)
       refine Qdt (by simp [e1,e2,hB,h2,h3];with_reducible rfl) (by simp;with_reducible rfl) ?_ ?_
       · intro p hp
         simp only [List.mem_cons,List.not_mem_nil,or_false] at hp
         rcases hp with rfl | rfl | rfl
         · exact ⟨_,by simp [e1,e2,hB,h2,h3];with_reducible rfl,by simp⟩
         · exact ⟨_,by simp [e1,e2,hB,h2,h3];with_reducible rfl,by simp⟩
         · exact ⟨_,by simp [e1,e2,hB,h2,h3];with_reducible rfl,by simp⟩
       repeat (first|apply wA|apply wS|refine wr (by simp;with_reducible rfl) ?_|refine wq (by simp;with_reducible rfl) ?_|refine wt (by simpa) ?_|refine wf (by simpa) ?_|refine xt (by simpa) ?_|refine xf (by simpa) ?_|apply wB|apply Qaa|refine wX ?_|refine wY ?_|refine wR ?_|refine wK ?_|refine wE ?_)
       simp [Qkx,h2,h3]
 · by_cases h3:x1=r
   · subst h3
     by_cases h4:x2=s
     · subst h4
       refine cW Qql rfl ?_
       repeat (first|apply wA|apply wS|refine wr (by simp [e1,e2,hB,h1];with_reducible rfl) ?_|refine wq (by simp [e1,e2,hB,h1];with_reducible rfl) ?_|refine wt (by simpa [e1,e2,hB,h1]) ?_|refine wf (by simpa [e1,e2,hB,h1]) ?_|refine xt (by simpa [e1,e2,hB,h1]) ?_|refine xf (by simpa [e1,e2,hB,h1]) ?_|apply wB|apply Qaa|refine wX ?_|refine wY ?_|refine wR ?_|refine wK ?_|refine wE ?_)
       refine Qdt (by simp [e1,e2,hB,h1];with_reducible rfl) (by simp;with_reducible rfl) ?_ ?_
       · intro p hp
         simp only [List.mem_cons,List.not_mem_nil,or_false] at hp
         rcases hp with rfl | rfl | rfl
         · exact ⟨_,by simp [e1,e2,hB,h1];with_reducible rfl,by simp⟩
         · exact ⟨_,by simp [e1,e2,hB,h1];with_reducible rfl,by simp⟩
         · exact ⟨_,by simp [e1,e2,hB,h1];with_reducible rfl,by simp⟩
       repeat (first|apply wA|apply wS|refine wr (by simp;with_reducible rfl) ?_|refine wq (by simp;with_reducible rfl) ?_|refine wt (by simpa) ?_|refine wf (by simpa) ?_|refine xt (by simpa) ?_|refine xf (by simpa) ?_|apply wB|apply Qaa|refine wX ?_|refine wY ?_|refine wR ?_|refine wK ?_|refine wE ?_)
       simp [Qkx,h1]
     · refine cW Qql rfl ?_
       repeat (first|apply wA|apply wS|refine wr (by simp [e1,e2,hB,h1,h4];with_reducible rfl) ?_|refine wq (by simp [e1,e2,hB,h1,h4];with_reducible rfl) ?_|refine wt (by simpa [e1,e2,hB,h1,h4]) ?_|refine wf (by simpa [e1,e2,hB,h1,h4]) ?_|refine xt (by simpa [e1,e2,hB,h1,h4]) ?_|refine xf (by simpa [e1,e2,hB,h1,h4]) ?_|apply wB|apply Qaa|refine wX ?_|refine wY ?_|refine wR ?_|refine wK ?_|refine wE ?_)
       refine Qdt (by simp [e1,e2,hB,h1,h4];with_reducible rfl) (by simp;with_reducible rfl) ?_ ?_
       · intro p hp
         simp only [List.mem_cons,List.not_mem_nil,or_false] at hp
         rcases hp with rfl | rfl | rfl
         · exact ⟨_,by simp [e1,e2,hB,h1,h4];with_reducible rfl,by simp⟩
         · exact ⟨_,by simp [e1,e2,hB,h1,h4];with_reducible rfl,by simp⟩
         · exact ⟨_,by simp [e1,e2,hB,h1,h4];with_reducible rfl,by simp⟩
       repeat (first|apply wA|apply wS|refine wr (by simp;with_reducible rfl) ?_|refine wq (by simp;with_reducible rfl) ?_|refine wt (by simpa) ?_|refine wf (by simpa) ?_|refine xt (by simpa) ?_|refine xf (by simpa) ?_|apply wB|apply Qaa|refine wX ?_|refine wY ?_|refine wR ?_|refine wK ?_|refine wE ?_)
       simp [Qkx,h1,h4]
   · refine cW Qql rfl ?_
     repeat (first|apply wA|apply wS|refine wr (by simp [e1,e2,hB,h1,h3];with_reducible rfl) ?_|refine wq (by simp [e1,e2,hB,h1,h3];with_reducible rfl) ?_|refine wt (by simpa [e1,e2,hB,h1,h3]) ?_|refine wf (by simpa [e1,e2,hB,h1,h3]) ?_|refine xt (by simpa [e1,e2,hB,h1,h3]) ?_|refine xf (by simpa [e1,e2,hB,h1,h3]) ?_|apply wB|apply Qaa|refine wX ?_|refine wY ?_|refine wR ?_|refine wK ?_|refine wE ?_)
     refine Qdt (by simp [e1,e2,hB,h1,h3];with_reducible rfl) (by simp;with_reducible rfl) ?_ ?_
     · intro p hp
       simp only [List.mem_cons,List.not_mem_nil,or_false] at hp
       rcases hp with rfl | rfl | rfl
       · exact ⟨_,by simp [e1,e2,hB,h1,h3];with_reducible rfl,by simp⟩
       · exact ⟨_,by simp [e1,e2,hB,h1,h3];with_reducible rfl,by simp⟩
       · exact ⟨_,by simp [e1,e2,hB,h1,h3];with_reducible rfl,by simp⟩
     repeat (first|apply wA|apply wS|refine wr (by simp;with_reducible rfl) ?_|refine wq (by simp;with_reducible rfl) ?_|refine wt (by simpa) ?_|refine wf (by simpa) ?_|refine xt (by simpa) ?_|refine xf (by simpa) ?_|apply wB|apply Qaa|refine wX ?_|refine wY ?_|refine wR ?_|refine wK ?_|refine wE ?_)
     simp [Qkx,h1,h3]
end Go.Idl
namespace Go.Idl
open Go
def swX (es:List (Int×Int)) (a b c d:Int):List (Int×Int):=es.filter (fun x=>!Qum a b c d x)++[(min a c,max a c),(min b d,max b d)]
def sw (es:List (Int×Int)) (a b c d:Int):List (Int×Int):=Jd8 (swX es a b c d)
def Qdc (es:List (Int×Int)) (a b c d:Int):Bool:=apart a b c d && Qi9 es a b && Qi9 es c d && !Qi9 es a c && !Qi9 es b d
theorem Qi5 {es:List (Int×Int)} {a b:Int}:Qi9 es a b=true ↔ (min a b,max a b) ∈ es:=by
 simp [Qi9]
theorem Qwr {es:List (Int×Int)} {a b:Int}:Qi9 es a b=false ↔ (min a b,max a b) ∉ es:=by
 rw [← Qi5];simp
theorem Qbz {es:List (Int×Int)} {a b c d:Int}:Qdc es a b c d=true ↔ (a ≠ b∧a ≠ c∧a ≠ d∧b ≠ c∧b ≠ d∧c ≠ d)∧(min a b,max a b) ∈ es∧(min c d,max c d) ∈ es∧(min a c,max a c) ∉ es∧(min b d,max b d) ∉ es:=by
 rw [Qdc]
 simp only [Qba,Bool.not_eq_true',apart,decide_eq_true_eq,Qi5,Qwr,and_assoc]
theorem Qkn {n:Nat} (hn:n≤7) {es:List (Int×Int)} (h:Qac n es=true):es.length≤21:=by
 have h1:=(Qn1 h).length_le
 have h2:∀ n,n≤7→(prs n).length≤21:=by decide +kernel
 have:=h2 _ hn
 omega
theorem Qcw {n:Nat} {es:List (Int×Int)} {a b c d:Int} (h:Qac n es=true) (hm:Qdc es a b c d=true) :
 (swX es a b c d).Nodup∧(∀ e ∈ swX es a b c d,e ∈ prs n)∧Qac n (sw es a b c d)=true∧(swX es a b c d).length≤21:=by
 obtain ⟨h1,h2,h3⟩:=Qaz.1 h
 obtain ⟨⟨k1,k2,k3,k4,k5,k6⟩,m1,m2,m3,m4⟩:=Qbz.1 hm
 have p1:=Qay.1 (h2 _ m1)
 have p2:=Qay.1 (h2 _ m2)
 have hn:(swX es a b c d).Nodup:=by
  refine List.nodup_append.2 ⟨(Qgf h1).filter _,?_,?_⟩
  · simp only [List.nodup_cons,List.mem_singleton,List.not_mem_nil,not_false_eq_true,List.nodup_nil,and_true,Qpi]
    omega
  · intro x hx y hy hxy
    subst hxy
    have hx:=(List.mem_filter.1 hx).1
    simp only [List.mem_cons,List.not_mem_nil,or_false] at hy
    rcases hy with rfl | rfl
    · exact m3 hx
    · exact m4 hx
 have hp:∀ e ∈ swX es a b c d,e ∈ prs n:=fun e he=>by
  rcases List.mem_append.1 he with he | he
  · exact h2 _ (List.mem_filter.1 he).1
  · simp only [List.mem_cons,List.not_mem_nil,or_false] at he
    simp only at p1 p2
    rcases he with rfl | rfl
    · exact Qay.2 (by simp only;omega)
    · exact Qay.2 (by simp only;omega)
 have hv:Qac n (sw es a b c d)=true:=Qaz.2 ⟨Qmn hn,fun e he=>hp e ((Qfa _).mem_iff.1 he),h3⟩
 refine ⟨hn,hp,hv,?_⟩
 have:=Qkn h3 hv
 rw [sw,(Qfa _).length_eq] at this
 exact this
abbrev OS (n:Nat) (es:List (Int×Int)) (a b c d:Int):IV:=if Qdc es a b c d then .tup [OG n (sw es a b c d),Bo true] else .tup [.agg [I 0,Z],Bo false]
set_option maxHeartbeats 4000000 in
theorem Qkh (n:Nat) (es:List (Int×Int)) (cc:Bool) (a b c d:Int) (hv:Qac n es=true):Ev tb Qqe [] [Gr n es cc,Sw a b c d] [] ⟨OS n es a b c d,[],[],[]⟩:=by
 have hn7:=(Qaz.1 hv).2.2
 have h21:=Qkn hn7 hv
 have ea:=fun M=>Qab (Jdm a b c d M)
 have eh:=fun c' a b M=>Qab (Qxw n 2 es c' a b (.inl rfl) (by omega) M)
 cases h1:apart a b c d with
 | false =>
   have hm:Qdc es a b c d=false:=by simp [Qdc,h1]
   rw [OS,hm]
   refine cW Qs1 rfl ?_
   repeat (first|apply wA|apply wS|refine wr (by simp [ea,eh,h1];with_reducible rfl) ?_|refine wq (by simp [ea,eh,h1];with_reducible rfl) ?_|refine wt (by simpa [ea,eh,h1]) ?_|refine wf (by simpa [ea,eh,h1]) ?_|refine xt (by simpa [ea,eh,h1]) ?_|refine xf (by simpa [ea,eh,h1]) ?_|apply wB|apply Qaa|refine wX ?_|refine wY ?_|refine wR ?_|refine wK ?_|refine wE ?_)
   simp [Ql3]
 | true =>
 cases h2:Qi9 es a b with
 | false =>
   have hm:Qdc es a b c d=false:=by simp [Qdc,h2]
   rw [OS,hm]
   refine cW Qs1 rfl ?_
   repeat (first|apply wA|apply wS|refine wr (by simp [ea,eh,h1,h2];with_reducible rfl) ?_|refine wq (by simp [ea,eh,h1,h2];with_reducible rfl) ?_|refine wt (by simpa [ea,eh,h1,h2]) ?_|refine wf (by simpa [ea,eh,h1,h2]) ?_|refine xt (by simpa [ea,eh,h1,h2]) ?_|refine xf (by simpa [ea,eh,h1,h2]) ?_|apply wB|apply Qaa|refine wX ?_|refine wY ?_|refine wR ?_|refine wK ?_|refine wE ?_)
   simp [Ql3]
 | true =>
 cases h3:Qi9 es c d with
 | false =>
   have hm:Qdc es a b c d=false:=by simp [Qdc,h3]
   rw [OS,hm]
   refine cW Qs1 rfl ?_
   repeat (first|apply wA|apply wS|refine wr (by simp [ea,eh,h1,h2,h3];with_reducible rfl) ?_|refine wq (by simp [ea,eh,h1,h2,h3];with_reducible rfl) ?_|refine wt (by simpa [ea,eh,h1,h2,h3]) ?_|refine wf (by simpa [ea,eh,h1,h2,h3]) ?_|refine xt (by simpa [ea,eh,h1,h2,h3]) ?_|refine xf (by simpa [ea,eh,h1,h2,h3]) ?_|apply wB|apply Qaa|refine wX ?_|refine wY ?_|refine wR ?_|refine wK ?_|refine wE ?_)
   simp [Ql3]
 | true =>
 cases h4:Qi9 es a c with
 | true =>
   have hm:Qdc es a b c d=false:=by simp [Qdc,h4]
   rw [OS,hm]
   refine cW Qs1 rfl ?_
   repeat (first|apply wA|apply wS|refine wr (by simp [ea,eh,h1,h2,h3,h4];with_reducible rfl) ?_|refine wq (by simp [ea,eh,h1,h2,h3,h4];with_reducible rfl) ?_|refine wt (by simpa [ea,eh,h1,h2,h3,h4]) ?_|refine wf (by simpa [ea,eh,h1,h2,h3,h4]) ?_|refine xt (by simpa [ea,eh,h1,h2,h3,h4]) ?_|refine xf (by simpa [ea,eh,h1,h2,h3,h4]) ?_|apply wB|apply Qaa|refine wX ?_|refine wY ?_|refine wR ?_|refine wK ?_|refine wE ?_)
   simp [Ql3]
 | false =>
 cases h5:Qi9 es b d with
 | true =>
   have hm:Qdc es a b c d=false:=by simp [Qdc,h5]
   rw [OS,hm]
   refine cW Qs1 rfl ?_
   repeat (first|apply wA|apply wS|refine wr (by simp [ea,eh,h1,h2,h3,h4,h5];with_reducible rfl) ?_|refine wq (by simp [ea,eh,h1,h2,h3,h4,h5];with_reducible rfl) ?_|refine wt (by simpa [ea,eh,h1,h2,h3,h4,h5]) ?_|refine wf (by simpa [ea,eh,h1,h2,h3,h4,h5]) ?_|refine xt (by simpa [ea,eh,h1,h2,h3,h4,h5]) ?_|refine xf (by simpa [ea,eh,h1,h2,h3,h4,h5]) ?_|apply wB|apply Qaa|refine wX ?_|refine wY ?_|refine wR ?_|refine wK ?_|refine wE ?_)
   simp [Ql3]
 | false =>
 have hm:Qdc es a b c d=true:=by simp [Qdc,h1,h2,h3,h4,h5]
 obtain ⟨q1,q2,q3,q4⟩:=Qcw hv hm
 rw [OS,hm]
 have ec:=fun c'=>Qab (Qny 2 es c' (.inl rfl) (by omega))
 have ed:=Qab (Qkt es Qud [.bptr 0 1 0] [[[I n,L2 es cc],[I a,I b,I c,I d],[I 0,Z]]] (Qum a b c d) (by omega) (fun bs M' x _=>Qnp x a b c d _ 1 rfl _))
 have ee:=fun a b M=>Qab (Qlr a b M)
 have em:=fun c'=>Qab (Jiz n 2 (swX es a b c d) c' (.inl rfl) (fun x hx=>by have:=Qay.1 (q2 x hx);simp only [DE];omega) q1 q4)
 have hf:Fit (sw es a b c d):=fun e he=>by have:=Qay.1 ((Qaz.1 q3).2.1 e he);omega
 have hl:(sw es a b c d).length≤21:=Qkn hn7 q3
 have ev:=fun c'=>Qab (Qbb n (sw es a b c d) c' hf (by omega))
 rw [q3] at ev
 rw [show Jd8 (swX es a b c d)=sw es a b c d from rfl] at em
 simp only [swX] at em
 have hG:(es.filter (fun x=>!Qum a b c d x)).length≤274877906942:=by have:=List.length_filter_le (fun x=>!Qum a b c d x) es;omega
 generalize sw es a b c d=R at *
 generalize es.filter (fun x=>!Qum a b c d x)=G at *
 have hT:Qcf (List.take (G.length+2) (eds G++[[I (min a c),I (max a c)],[I (min b d),I (max b d)]]))=eds (G++[(min a c,max a c),(min b d,max b d)]):=by
  rw [List.take_of_length_le (by simp),← Qzy (G++[(min a c,max a c),(min b d,max b d)]),← Jik]
  rfl
 refine cW Qs1 rfl ?_
 repeat (first|apply wA|apply wS|refine wr (by simp [ea,eh,h1,h2,h3,h4,h5,ec,ed];with_reducible rfl) ?_|refine wq (by simp [ea,eh,h1,h2,h3,h4,h5,ec,ed];with_reducible rfl) ?_|refine wt (by simpa [ea,eh,h1,h2,h3,h4,h5,ec,ed]) ?_|refine wf (by simpa [ea,eh,h1,h2,h3,h4,h5,ec,ed]) ?_|refine xt (by simpa [ea,eh,h1,h2,h3,h4,h5,ec,ed]) ?_|refine xf (by simpa [ea,eh,h1,h2,h3,h4,h5,ec,ed]) ?_|apply wB|apply Qaa|refine wX ?_|refine wY ?_|refine wR ?_|refine wK ?_|refine wE ?_)
 refine Qpc rfl (by simp [ee,em,hG,hT];with_reducible rfl) (by simp;with_reducible rfl) ?_ ?_
 · intro p hp
   simp only [List.mem_cons,List.not_mem_nil,or_false] at hp
   rcases hp with rfl | rfl | rfl | rfl | rfl | rfl | rfl | rfl | rfl | rfl | rfl
   · exact ⟨_,by simp [ee,em,hG,hT];with_reducible rfl,by simp⟩
   · exact ⟨_,by simp [ee,em,hG,hT];with_reducible rfl,by simp⟩
   · exact ⟨_,by simp [ee,em,hG,hT];with_reducible rfl,by simp⟩
   · exact ⟨_,by simp [ee,em,hG,hT];with_reducible rfl,by simp⟩
   · exact ⟨_,by simp [ee,em,hG,hT];with_reducible rfl,by simp⟩
   · exact ⟨_,by simp [ee,em,hG,hT];with_reducible rfl,by simp⟩
   · exact ⟨_,by simp [ee,em,hG,hT];with_reducible rfl,by simp⟩
   · exact ⟨_,by simp [ee,em,hG,hT];with_reducible rfl,by simp⟩
   · exact ⟨_,by simp [ee,em,hG,hT];with_reducible rfl,by simp⟩
   · exact ⟨_,by simp [ee,em,hG,hT];with_reducible rfl,by simp⟩
   · exact ⟨_,by simp [ee,em,hG,hT];with_reducible rfl,by simp⟩
 repeat (first|apply wA|apply wS|refine wr (by simp [ev];with_reducible rfl) ?_|refine wq (by simp [ev];with_reducible rfl) ?_|refine wt (by simpa [ev]) ?_|refine wf (by simpa [ev]) ?_|refine xt (by simpa [ev]) ?_|refine xf (by simpa [ev]) ?_|apply wB|apply Qaa|refine wX ?_|refine wY ?_|refine wR ?_|refine wK ?_|refine wE ?_)
 refine Qdt (by simp [ev];with_reducible rfl) (by simp;with_reducible rfl) ?_ ?_
 · intro p hp
   simp only [List.mem_cons,List.not_mem_nil,or_false] at hp
   subst hp
   exact ⟨_,by simp [ev];with_reducible rfl,by simp⟩
 repeat (first|apply wA|apply wS|refine wr (by simp;with_reducible rfl) ?_|refine wq (by simp;with_reducible rfl) ?_|refine wt (by simpa) ?_|refine wf (by simpa) ?_|refine xt (by simpa) ?_|refine xf (by simpa) ?_|apply wB|apply Qaa|refine wX ?_|refine wY ?_|refine wR ?_|refine wK ?_|refine wE ?_)
 simp [Ql3]
end Go.Idl
namespace Go.Idl
open Go
def Qkr (e:Int×Int):List (Int×Int)→List (Int×Int)
 | []=>[e]
 | x::r=>if Qao x e then x::Qkr e r else e::x::r
theorem Ji8 (e:Int×Int) (es:List (Int×Int)) (k:Nat) (hk:k≤es.length) (h:∀ x ∈ es.take k,Qao x e=true) (hs:∀ h:k < es.length,Qao es[k] e=false) :
 Qkr e es=es.take k++[e]++es.drop k:=by
 induction es generalizing k with
 | nil=>simp at hk;subst hk;rfl
 | cons x r ih =>
   cases k with
   | zero =>
     have:=hs (by simp)
     simp only [List.getElem_cons_zero] at this
     simp [Qkr,this]
   | succ k =>
     have h1:=h x (by simp)
     rw [Qkr,if_pos h1,ih k (by simpa using hk) (fun y hy=>h y (by simp [hy])) (fun hh=>hs (by simpa using hh))]
     simp
theorem Jbb (e:Int×Int) (es:List (Int×Int)):(Qkr e es).length=es.length+1:=by
 induction es with
 | nil=>rfl
 | cons x r ih=>rw [Qkr];split <;> simp [ih]
theorem Qja (e x:Int×Int) (es:List (Int×Int)):x ∈ Qkr e es ↔ x=e ∨ x ∈ es:=by
 induction es with
 | nil=>simp [Qkr]
 | cons y r ih =>
   rw [Qkr];split
   · rw [List.mem_cons,ih,List.mem_cons]
     constructor
     · rintro (h | h | h) <;> simp [h]
     · rintro (h | h | h) <;> simp [h]
   · simp
theorem Qln (n:Int) (es:List (Int×Int)) (c:Bool) (a b:Int) (hl:es.length≤2000000) :
 Ev tb Qt0 [] [Gr n es c,I a,I b] [] ⟨OG n (Qkr (min a b,max a b) es),[],[],[]⟩:=by
 obtain ⟨e,he⟩:∃ e:Int×Int,e=(min a b,max a b):=⟨_,rfl⟩
 have he1:(if b < a then b else a)=e.1:=by rw [he];simp only;split <;> omega
 have he2:(if a < b then b else a)=e.2:=by rw [he];simp only;split <;> omega
 rw [← he]
 have loop:∀ (m k:Nat),k+m=es.length→(∀ x ∈ es.take k,Qao x e=true)→wp tb (.loop Je1) { T:=[(3,.bptr 0 0 0),(6,.bptr 0 1 0),(7,.bptr 0 2 0),(8,I k)],loc:=[[I n,L2 es c],[I 0,Z],[I e.1,I e.2]],M:=[] }
  (fun ex st=>ex=.exit 0∧∃ k:Nat,(k≤es.length∧(∀ x ∈ es.take k,Qao x e=true)∧(∀ h:k < es.length,Qao es[k] e=false)) ∧
    st={ T:=[(3,.bptr 0 0 0),(6,.bptr 0 1 0),(7,.bptr 0 2 0),(8,I k),(30,Bo false)],loc:=[[I n,L2 es c],[I 0,Z],[I e.1,I e.2]],M:=[] }):=by
  intro m
  induction m with
  | zero =>
    intro k hk hb
    have h3:k=es.length:=hk
    subst h3
    refine wW ?_
    repeat (first|apply wA|apply wS|refine wr (by simp;with_reducible rfl) ?_|refine wq (by simp;with_reducible rfl) ?_|refine wt (by simpa) ?_|refine wf (by simpa) ?_|refine xt (by simpa) ?_|refine xf (by simpa) ?_|apply wB|apply Qaa|refine wX ?_|refine wY ?_|refine wR ?_|refine wK ?_|refine wE ?_)
    exact ⟨rfl,es.length,⟨Nat.le_refl _,hb,fun h=>absurd h (by omega)⟩,rfl⟩
  | succ m ih =>
    intro k hk hb
    have hi2:k < es.length:=by omega
    have w2:IntKind.i64.wrap ((k:Int)+1)=((k+1:Nat):Int):=Qbe (by omega)
    have e1:=Qab (Qim es[k] e)
    cases hq:Qao es[k] e with
    | true =>
      refine wW ?_
      repeat (first|apply wA|apply wS|refine wr (by simp [hi2,e1,hq,w2];with_reducible rfl) ?_|refine wq (by simp [hi2,e1,hq,w2];with_reducible rfl) ?_|refine wt (by simpa [hi2,e1,hq,w2]) ?_|refine wf (by simpa [hi2,e1,hq,w2]) ?_|refine xt (by simpa [hi2,e1,hq,w2]) ?_|refine xf (by simpa [hi2,e1,hq,w2]) ?_|apply wB|apply Qaa|refine wX ?_|refine wY ?_|refine wR ?_|refine wK ?_|refine wE ?_)
      refine ih (k+1) (by omega) fun x hx=>?_
      rw [List.take_succ_eq_append_getElem hi2] at hx
      rcases List.mem_append.1 hx with hx | hx
      · exact hb x hx
      · simp at hx;subst hx;exact hq
    | false =>
      refine wW ?_
      repeat (first|apply wA|apply wS|refine wr (by simp [hi2,e1,hq];with_reducible rfl) ?_|refine wq (by simp [hi2,e1,hq];with_reducible rfl) ?_|refine wt (by simpa [hi2,e1,hq]) ?_|refine wf (by simpa [hi2,e1,hq]) ?_|refine xt (by simpa [hi2,e1,hq]) ?_|refine xf (by simpa [hi2,e1,hq]) ?_|apply wB|apply Qaa|refine wX ?_|refine wY ?_|refine wR ?_|refine wK ?_|refine wE ?_)
      exact ⟨rfl,k,⟨by omega,hb,fun _=>hq⟩,rfl⟩
 refine cW zt335 rfl ?_
 repeat (first|apply wA|apply wS|refine wr (by simp [he1,he2];with_reducible rfl) ?_|refine wq (by simp [he1,he2];with_reducible rfl) ?_|refine wt (by simpa [he1,he2]) ?_|refine wf (by simpa [he1,he2]) ?_|refine xt (by simpa [he1,he2]) ?_|refine xf (by simpa [he1,he2]) ?_|apply wB|apply Qaa|refine wX ?_|refine wY ?_|refine wR ?_|refine wK ?_|refine wE ?_)
 refine Qal (loop es.length 0 (by simp) (by simp)) ?_
 rintro ex st ⟨rfl,k,⟨hk,hb,hs⟩,rfl⟩
 rw [Ji8 e es k hk hb hs]
 try simp only [if_true]
 have hT:es.take es.length=es:=List.take_of_length_le (Nat.le_refl _)
 have hT2:(es.drop k).take (es.length - k)=es.drop k:=List.take_of_length_le (by simp)
 have hT3:(es.take k).take k=es.take k:=by rw [List.take_take,Nat.min_self]
 have hl1:k≤274877906943:=by omega
 have hl2:k≤274877906944:=by omega
 have hl3:k+1≤274877906944:=by omega
 have hl4:k+1+(es.length - k)≤274877906944:=by omega
 have hT4:(es.take k++[(e.1,e.2)]).take (k+1)=es.take k++[(e.1,e.2)]:=List.take_of_length_le (by simp;omega)
 have hmin:min k es.length=k:=by omega
 repeat (first|apply wA|apply wS|refine wr (by simp [hk,hT,hT2,hT3,hl1,hl2,hl3,hl4,hT4,hmin];with_reducible rfl) ?_|refine wq (by simp [hk,hT,hT2,hT3,hl1,hl2,hl3,hl4,hT4,hmin];with_reducible rfl) ?_|refine wt (by simpa [hk,hT,hT2,hT3,hl1,hl2,hl3,hl4,hT4,hmin]) ?_|refine wf (by simpa [hk,hT,hT2,hT3,hl1,hl2,hl3,hl4,hT4,hmin]) ?_|refine xt (by simpa [hk,hT,hT2,hT3,hl1,hl2,hl3,hl4,hT4,hmin]) ?_|refine xf (by simpa [hk,hT,hT2,hT3,hl1,hl2,hl3,hl4,hT4,hmin]) ?_|apply wB|apply Qaa|refine wX ?_|refine wY ?_|refine wR ?_|refine wK ?_|refine wE ?_)
 refine Qdt (by simp [hk,hT,hT2,hT3,hl1,hl2,hl3,hl4,hT4,hmin];with_reducible rfl) (by simp;with_reducible rfl) ?_ ?_
 · intro p hp
   simp only [List.mem_cons,List.not_mem_nil,or_false] at hp
   rcases hp with rfl | rfl | rfl | rfl | rfl | rfl | rfl | rfl | rfl | rfl | rfl
   · exact ⟨_,by simp [hk,hT,hT2,hT3,hl1,hl2,hl3,hl4,hT4,hmin];with_reducible rfl,by simp⟩
   · exact ⟨_,by simp [hk,hT,hT2,hT3,hl1,hl2,hl3,hl4,hT4,hmin];with_reducible rfl,by simp⟩
   · exact ⟨_,by simp [hk,hT,hT2,hT3,hl1,hl2,hl3,hl4,hT4,hmin];with_reducible rfl,by simp⟩
   · exact ⟨_,by simp [hk,hT,hT2,hT3,hl1,hl2,hl3,hl4,hT4,hmin];with_reducible rfl,by simp⟩
   · exact ⟨_,by simp [hk,hT,hT2,hT3,hl1,hl2,hl3,hl4,hT4,hmin];with_reducible rfl,by simp⟩
   · exact ⟨_,by simp [hk,hT,hT2,hT3,hl1,hl2,hl3,hl4,hT4,hmin];with_reducible rfl,by simp⟩
   · exact ⟨_,by simp [hk,hT,hT2,hT3,hl1,hl2,hl3,hl4,hT4,hmin];with_reducible rfl,by simp⟩
   · exact ⟨_,by simp [hk,hT,hT2,hT3,hl1,hl2,hl3,hl4,hT4,hmin];with_reducible rfl,by simp⟩
   · exact ⟨_,by simp [hk,hT,hT2,hT3,hl1,hl2,hl3,hl4,hT4,hmin];with_reducible rfl,by simp⟩
   · exact ⟨_,by simp [hk,hT,hT2,hT3,hl1,hl2,hl3,hl4,hT4,hmin];with_reducible rfl,by simp⟩
   · exact ⟨_,by simp [hk,hT,hT2,hT3,hl1,hl2,hl3,hl4,hT4,hmin];with_reducible rfl,by simp⟩
 repeat (first|apply wA|apply wS|refine wr (by simp;with_reducible rfl) ?_|refine wq (by simp;with_reducible rfl) ?_|refine wt (by simpa) ?_|refine wf (by simpa) ?_|refine xt (by simpa) ?_|refine xf (by simpa) ?_|apply wB|apply Qaa|refine wX ?_|refine wY ?_|refine wR ?_|refine wK ?_|refine wE ?_)
 simp [Jdv]
end Go.Idl
namespace Go.Idl
open Go
def Qsz (p q:Int) (x:Int×Int):Bool:=!(decide (x.1=p) && decide (x.2=q))
def Qcq (a b:Int) (es:List (Int×Int)):List (Int×Int):=es.filter (Qsz (min a b) (max a b))
theorem Qj1 (n:Int) (es:List (Int×Int)) (c:Bool) (a b:Int) (hl:es.length≤100000) :
 Ev tb Qt4 [] [Gr n es c,I a,I b] [] ⟨OG n (Qcq a b es),[],[],[]⟩:=by
 obtain ⟨p,hp⟩:∃ p,p=min a b:=⟨_,rfl⟩
 obtain ⟨q,hq⟩:∃ q,q=max a b:=⟨_,rfl⟩
 have he1:(if b < a then b else a)=p:=by rw [hp];split <;> omega
 have he2:(if a < b then b else a)=q:=by rw [hq];split <;> omega
 rw [Qcq,← hp,← hq]
 have loop:∀ (m i:Nat) (acc:List (Int×Int)) (B:Qae),i+m=es.length→acc.length≤i→wp tb (.loop Jd7) { T:=[(1,I a),(2,I b),(3,.bptr 0 0 0),(6,.bptr 0 1 0),(7,.bptr 0 2 0),(8,I i)],loc:=[I n,L2 es c]::[I 0,Z]::[I n,O2 acc]::B,M:=[] }
  (fun ex st=>ex=.exit 0∧∃ B',st={ T:=[(1,I a),(2,I b),(3,.bptr 0 0 0),(6,.bptr 0 1 0),(7,.bptr 0 2 0),(8,I es.length),(18,Bo false)],loc:=[I n,L2 es c]::[I 0,Z]::[I n,O2 (acc++(es.drop i).filter (Qsz p q))]::B',M:=[] }):=by
  intro m
  induction m with
  | zero =>
    intro i acc B hi ha
    have h3:i=es.length:=hi
    subst h3
    refine wW ?_
    repeat (first|apply wA|apply wS|refine wr (by simp;with_reducible rfl) ?_|refine wq (by simp;with_reducible rfl) ?_|refine wt (by simpa) ?_|refine wf (by simpa) ?_|refine xt (by simpa) ?_|refine xf (by simpa) ?_|apply wB|apply Qaa|refine wX ?_|refine wY ?_|refine wR ?_|refine wK ?_|refine wE ?_)
    refine ⟨rfl,_,by simp;rfl⟩
  | succ m ih =>
    intro i acc B hi ha
    have hi2:i < es.length:=by omega
    have w1:IntKind.i64.wrap ((i:Int)+1)=((i+1:Nat):Int):=Qbe (by omega)
    have hd:es.drop i=es[i]::es.drop (i+1):=List.drop_eq_getElem_cons hi2
    have hl1:acc.length+1≤274877906944:=by omega
    have hl2:acc.length≤274877906943:=by omega
    have hT:∀ x,List.take (acc.length+1) (acc++[x])=acc++[x]:=fun x=>List.take_of_length_le (by simp)
    have hT2:List.take acc.length acc=acc:=List.take_of_length_le (Nat.le_refl _)
    rw [hd]
    obtain ⟨⟨x1,x2⟩,hx⟩:∃ x,x=es[i]:=⟨_,rfl⟩
    rw [← hx]
    have hx2:=hx.symm
    by_cases h1:x1=p
    · subst h1
      by_cases h2:x2=q
      · subst h2
        refine wW ?_
        repeat (first|apply wA|apply wS|refine wr (by simp [hi2,w1,hx2,he1,he2];with_reducible rfl) ?_|refine wq (by simp [hi2,w1,hx2,he1,he2];with_reducible rfl) ?_|refine wt (by simpa [hi2,w1,hx2,he1,he2]) ?_|refine wf (by simpa [hi2,w1,hx2,he1,he2]) ?_|refine xt (by simpa [hi2,w1,hx2,he1,he2]) ?_|refine xf (by simpa [hi2,w1,hx2,he1,he2]) ?_|apply wB|apply Qaa|refine wX ?_|refine wY ?_|refine wR ?_|refine wK ?_|refine wE ?_)
        have hn:=ih (i+1) acc (B++[[I x1,I x2]]) (by omega) (by omega)
        rw [List.filter_cons_of_neg (by simp [Qsz])]
        exact hn
      · refine wW ?_
        repeat (first|apply wA|apply wS|refine wr (by simp [hi2,w1,hx2,he1,he2,h2,hl1,hl2,hT,hT2];with_reducible rfl) ?_|refine wq (by simp [hi2,w1,hx2,he1,he2,h2,hl1,hl2,hT,hT2];with_reducible rfl) ?_|refine wt (by simpa [hi2,w1,hx2,he1,he2,h2,hl1,hl2,hT,hT2]) ?_|refine wf (by simpa [hi2,w1,hx2,he1,he2,h2,hl1,hl2,hT,hT2]) ?_|refine xt (by simpa [hi2,w1,hx2,he1,he2,h2,hl1,hl2,hT,hT2]) ?_|refine xf (by simpa [hi2,w1,hx2,he1,he2,h2,hl1,hl2,hT,hT2]) ?_|apply wB|apply Qaa|refine wX ?_|refine wY ?_|refine wR ?_|refine wK ?_|refine wE ?_)
        have hn:=ih (i+1) (acc++[(x1,x2)]) (B++[[I x1,I x2]]) (by omega) (by simp;omega)
        rw [List.filter_cons_of_pos (by simp [Qsz,h2])]
        simp only [List.append_assoc,List.cons_append,List.nil_append] at hn
        exact hn
    · refine wW ?_
      repeat (first|apply wA|apply wS|refine wr (by simp [hi2,w1,hx2,he1,he2,h1,hl1,hl2,hT,hT2];with_reducible rfl) ?_|refine wq (by simp [hi2,w1,hx2,he1,he2,h1,hl1,hl2,hT,hT2];with_reducible rfl) ?_|refine wt (by simpa [hi2,w1,hx2,he1,he2,h1,hl1,hl2,hT,hT2]) ?_|refine wf (by simpa [hi2,w1,hx2,he1,he2,h1,hl1,hl2,hT,hT2]) ?_|refine xt (by simpa [hi2,w1,hx2,he1,he2,h1,hl1,hl2,hT,hT2]) ?_|refine xf (by simpa [hi2,w1,hx2,he1,he2,h1,hl1,hl2,hT,hT2]) ?_|apply wB|apply Qaa|refine wX ?_|refine wY ?_|refine wR ?_|refine wK ?_|refine wE ?_)
      have hn:=ih (i+1) (acc++[(x1,x2)]) (B++[[I x1,I x2]]) (by omega) (by simp;omega)
      rw [List.filter_cons_of_pos (by simp [Qsz,h1])]
      simp only [List.append_assoc,List.cons_append,List.nil_append] at hn
      exact hn
 refine cW zt348 rfl ?_
 repeat (first|apply wA|apply wS|refine wr (by simp;with_reducible rfl) ?_|refine wq (by simp;with_reducible rfl) ?_|refine wt (by simpa) ?_|refine wf (by simpa) ?_|refine xt (by simpa) ?_|refine xf (by simpa) ?_|apply wB|apply Qaa|refine wX ?_|refine wY ?_|refine wR ?_|refine wK ?_|refine wE ?_)
 refine Qal (loop es.length 0 [] [] (by simp) (by simp)) ?_
 rintro ex st ⟨rfl,B',rfl⟩
 simp only [if_true]
 repeat (first|apply wA|apply wS|refine wr (by simp;with_reducible rfl) ?_|refine wq (by simp;with_reducible rfl) ?_|refine wt (by simpa) ?_|refine wf (by simpa) ?_|refine xt (by simpa) ?_|refine xf (by simpa) ?_|apply wB|apply Qaa|refine wX ?_|refine wY ?_|refine wR ?_|refine wK ?_|refine wE ?_)
 simp [Jdb]
def Qpm (es:List (Int×Int)) (a b c d:Int):Bool:=decide (a ≠ c) && decide (b ≠ d) && decide (a ≠ d) && decide (b ≠ c) && has es a b && has es c d && !has es a c && !has es b d
theorem Qoy (n:Int) (es:List (Int×Int)) (cc:Bool) (a b c d:Int) (hl:es.length≤100000) :
 Ev tb Qt8 [] [Gr n es cc,Sw a b c d] [] ⟨Bo (Qpm es a b c d),[],[],[]⟩:=by
 have eh:=fun cc a b=>Qab (Qfs n es cc a b hl)
 by_cases h1:a=c
 · subst h1
   refine cW Qow rfl ?_
   repeat (first|apply wA|apply wS|refine wr (by simp;with_reducible rfl) ?_|refine wq (by simp;with_reducible rfl) ?_|refine wt (by simpa) ?_|refine wf (by simpa) ?_|refine xt (by simpa) ?_|refine xf (by simpa) ?_|apply wB|apply Qaa|refine wX ?_|refine wY ?_|refine wR ?_|refine wK ?_|refine wE ?_)
   simp [Qkm,Qpm]
 by_cases h2:b=d
 · subst h2
   refine cW Qow rfl ?_
   repeat (first|apply wA|apply wS|refine wr (by simp [h1];with_reducible rfl) ?_|refine wq (by simp [h1];with_reducible rfl) ?_|refine wt (by simpa [h1]) ?_|refine wf (by simpa [h1]) ?_|refine xt (by simpa [h1]) ?_|refine xf (by simpa [h1]) ?_|apply wB|apply Qaa|refine wX ?_|refine wY ?_|refine wR ?_|refine wK ?_|refine wE ?_)
   simp [Qkm,Qpm]
 by_cases h3:a=d
 · subst h3
   refine cW Qow rfl ?_
   repeat (first|apply wA|apply wS|refine wr (by simp [h1,h2];with_reducible rfl) ?_|refine wq (by simp [h1,h2];with_reducible rfl) ?_|refine wt (by simpa [h1,h2]) ?_|refine wf (by simpa [h1,h2]) ?_|refine xt (by simpa [h1,h2]) ?_|refine xf (by simpa [h1,h2]) ?_|apply wB|apply Qaa|refine wX ?_|refine wY ?_|refine wR ?_|refine wK ?_|refine wE ?_)
   simp [Qkm,Qpm]
 by_cases h4:b=c
 · subst h4
   refine cW Qow rfl ?_
   repeat (first|apply wA|apply wS|refine wr (by simp [h1,h2,h3];with_reducible rfl) ?_|refine wq (by simp [h1,h2,h3];with_reducible rfl) ?_|refine wt (by simpa [h1,h2,h3]) ?_|refine wf (by simpa [h1,h2,h3]) ?_|refine xt (by simpa [h1,h2,h3]) ?_|refine xf (by simpa [h1,h2,h3]) ?_|apply wB|apply Qaa|refine wX ?_|refine wY ?_|refine wR ?_|refine wK ?_|refine wE ?_)
   simp [Qkm,Qpm]
 have hd:Qpm es a b c d=(has es a b && has es c d && !has es a c && !has es b d):=by simp [Qpm,h1,h2,h3,h4]
 rw [hd]
 cases k1:has es a b with
 | false =>
   refine cW Qow rfl ?_
   repeat (first|apply wA|apply wS|refine wr (by simp [h1,h2,h3,h4,eh,k1];with_reducible rfl) ?_|refine wq (by simp [h1,h2,h3,h4,eh,k1];with_reducible rfl) ?_|refine wt (by simpa [h1,h2,h3,h4,eh,k1]) ?_|refine wf (by simpa [h1,h2,h3,h4,eh,k1]) ?_|refine xt (by simpa [h1,h2,h3,h4,eh,k1]) ?_|refine xf (by simpa [h1,h2,h3,h4,eh,k1]) ?_|apply wB|apply Qaa|refine wX ?_|refine wY ?_|refine wR ?_|refine wK ?_|refine wE ?_)
   simp [Qkm]
 | true =>
 cases k2:has es c d with
 | false =>
   refine cW Qow rfl ?_
   repeat (first|apply wA|apply wS|refine wr (by simp [h1,h2,h3,h4,eh,k1,k2];with_reducible rfl) ?_|refine wq (by simp [h1,h2,h3,h4,eh,k1,k2];with_reducible rfl) ?_|refine wt (by simpa [h1,h2,h3,h4,eh,k1,k2]) ?_|refine wf (by simpa [h1,h2,h3,h4,eh,k1,k2]) ?_|refine xt (by simpa [h1,h2,h3,h4,eh,k1,k2]) ?_|refine xf (by simpa [h1,h2,h3,h4,eh,k1,k2]) ?_|apply wB|apply Qaa|refine wX ?_|refine wY ?_|refine wR ?_|refine wK ?_|refine wE ?_)
   simp [Qkm]
 | true =>
 cases k3:has es a c with
 | true =>
   refine cW Qow rfl ?_
   repeat (first|apply wA|apply wS|refine wr (by simp [h1,h2,h3,h4,eh,k1,k2,k3];with_reducible rfl) ?_|refine wq (by simp [h1,h2,h3,h4,eh,k1,k2,k3];with_reducible rfl) ?_|refine wt (by simpa [h1,h2,h3,h4,eh,k1,k2,k3]) ?_|refine wf (by simpa [h1,h2,h3,h4,eh,k1,k2,k3]) ?_|refine xt (by simpa [h1,h2,h3,h4,eh,k1,k2,k3]) ?_|refine xf (by simpa [h1,h2,h3,h4,eh,k1,k2,k3]) ?_|apply wB|apply Qaa|refine wX ?_|refine wY ?_|refine wR ?_|refine wK ?_|refine wE ?_)
   simp [Qkm]
 | false =>
 refine cW Qow rfl ?_
 repeat (first|apply wA|apply wS|refine wr (by simp [h1,h2,h3,h4,eh,k1,k2,k3];with_reducible rfl) ?_|refine wq (by simp [h1,h2,h3,h4,eh,k1,k2,k3];with_reducible rfl) ?_|refine wt (by simpa [h1,h2,h3,h4,eh,k1,k2,k3]) ?_|refine wf (by simpa [h1,h2,h3,h4,eh,k1,k2,k3]) ?_|refine xt (by simpa [h1,h2,h3,h4,eh,k1,k2,k3]) ?_|refine xf (by simpa [h1,h2,h3,h4,eh,k1,k2,k3]) ?_|apply wB|apply Qaa|refine wX ?_|refine wY ?_|refine wR ?_|refine wK ?_|refine wE ?_)
 simp [Qkm]
theorem Qn3 (a b:Int) (es:List (Int×Int)):(Qcq a b es).length≤es.length:=List.length_filter_le _ _
def swS (es:List (Int×Int)) (a b c d:Int):List (Int×Int):=Qkr (min b d,max b d) (Qkr (min a c,max a c) (Qcq c d (Qcq a b es)))
theorem Qkc (n:Int) (es:List (Int×Int)) (cc:Bool) (a b c d:Int) (hl:es.length≤100000) :
 Ev tb Qtr [] [Gr n es cc,Sw a b c d] [] ⟨OG n (swS es a b c d),[],[],[]⟩:=by
 have g1:=Qn3 a b es
 have g2:=Qn3 c d (Qcq a b es)
 have g3:=Jbb (min a c,max a c) (Qcq c d (Qcq a b es))
 have e1:=fun cc=>Qab (Qj1 n es cc a b hl)
 have e2:=fun cc=>Qab (Qj1 n (Qcq a b es) cc c d (by omega))
 have e3:=fun cc=>Qab (Qln n (Qcq c d (Qcq a b es)) cc a c (by omega))
 have e4:=fun cc=>Qab (Qln n (Qkr (min a c,max a c) (Qcq c d (Qcq a b es))) cc b d (by omega))
 rw [swS]
 generalize Qkr (min b d,max b d) (Qkr (min a c,max a c) (Qcq c d (Qcq a b es)))=x4 at *
 generalize Qkr (min a c,max a c) (Qcq c d (Qcq a b es))=x3 at *
 generalize Qcq c d (Qcq a b es)=x2 at *
 generalize Qcq a b es=x1 at *
 refine cW zt383 rfl ?_
 repeat (first|apply wA|apply wS|refine wr (by simp;with_reducible rfl) ?_|refine wq (by simp;with_reducible rfl) ?_|refine wt (by simpa) ?_|refine wf (by simpa) ?_|refine xt (by simpa) ?_|refine xf (by simpa) ?_|apply wB|apply Qaa|refine wX ?_|refine wY ?_|refine wR ?_|refine wK ?_|refine wE ?_)
 refine Qx6 rfl (by simp [e1,e2,e3,e4];with_reducible rfl) (by simp;with_reducible rfl) ?_
 repeat (first|apply wA|apply wS|refine wr (by simp;with_reducible rfl) ?_|refine wq (by simp;with_reducible rfl) ?_|refine wt (by simpa) ?_|refine wf (by simpa) ?_|refine xt (by simpa) ?_|refine xf (by simpa) ?_|apply wB|apply Qaa|refine wX ?_|refine wY ?_|refine wR ?_|refine wK ?_|refine wE ?_)
 simp [Jdf]
end Go.Idl
namespace Go.Idl
open Go
structure Qfj (n:Int) (es:List (Int×Int)):Prop where
 n1:-1≤n
 n2:n≤8
 len:es.length≤60
 el:∀ e ∈ es,-1≤e.1∧e.1≤8∧-1≤e.2∧e.2≤8
theorem Qfj.fit {n es} (h:Qfj n es):Fit es:=fun e he=>by have:=h.el e he;omega
theorem Qh7 {n:Nat} {es:List (Int×Int)} (hn:n≤7) (hs:es.Sublist (prs n)):Qfj n es :=
 ⟨by omega,by omega,by have:=Qx9 hn hs;omega,fun e he=>by have:=Jep hs e he;omega⟩
theorem Qz0 {n:Int} {es:List (Int×Int)} (h:Qfj n es) {k:Nat} {e:Int×Int} (he:-1≤e.1∧e.1≤8∧-1≤e.2∧e.2≤8):Qfj n (es.set k e) :=
 ⟨h.n1,h.n2,by rw [List.length_set];exact h.len,fun x hx=>by
   rcases List.mem_or_eq_of_mem_set hx with hx | rfl
   · exact h.el x hx
   · exact he⟩
theorem Qn2 (code:List Int) (c:Bool) (hc:Qe6 code) (cnt:Nat) (hn:cnt≤80000) (A bs:Qae) (Ms:List Qae) :
 ∃ (n:Int) (es:List (Int×Int)) (k:Nat),Qfj n es∧k≤cnt+110 ∧
   Qcb tb Qtc [] [.bptr 0 A.length 0] ((A++R code c cnt::bs)::Ms)=some ⟨OG n es,[],(A++R code c k::bs)::Ms,[]⟩:=by
 obtain ⟨n,es,k1,hn7,hs,hk1,e1⟩:=Qnb code c hc cnt (by omega) A bs (Ms++[[]])
 have e1:=Qab e1
 have hS:=Qh7 hn7 hs
 have hel:=hS.len
 suffices hh:∃ r,(∃ (n:Int) (es:List (Int×Int)) (k:Nat),Qfj n es∧k≤cnt+110∧r=⟨OG n es,[],(A++R code c k::bs)::Ms,[]⟩)∧Ev tb Qtc [] [.bptr 0 A.length 0] ((A++R code c cnt::bs)::Ms) r by
  obtain ⟨r,⟨n,es,k,q1,q2,rfl⟩,q3⟩:=hh
  exact ⟨n,es,k,q1,q2,Qab q3⟩
 refine Qel zt378 rfl ?_
 by_cases h0:es.length=0
 · have h00:es=[]:=List.length_eq_zero_iff.1 h0
   subst h00
   repeat (first|apply wA|apply wS|refine wr (by simp [e1];with_reducible rfl) ?_|refine wq (by simp [e1];with_reducible rfl) ?_|refine wt (by simpa [e1]) ?_|refine wf (by simpa [e1]) ?_|refine xt (by simpa [e1]) ?_|refine xf (by simpa [e1]) ?_|apply wB|apply Qaa|refine wX ?_|refine wY ?_|refine wR ?_|refine wK ?_|refine wE ?_)
   refine ⟨.inr rfl,_,⟨n,[],k1,hS,by omega,rfl⟩,?_⟩
   simp [Qnm]
 have h1:(0:Int) < es.length:=by omega
 have h1':0 < es.length:=by omega
 obtain ⟨v,k2,hv,hk2,e2⟩:=Qzf code c hc k1 (by omega) (es.length:Int) (by omega) A bs (Ms++[[]])
 have hv:=hv (by omega)
 have hvl:v < es.length:=by omega
 obtain ⟨u,k3,-,hk3,e3⟩:=Qzf code c hc k2 (by omega) 30 (by omega) A bs (Ms++[[]])
 have hev:=hS.el es[v] (List.getElem_mem hvl)
 by_cases hu0:u=0
 · subst hu0
   obtain ⟨x,k4,hx,hk4,e4⟩:=Jyk code c hc k3 (by omega) [-1,7,es[v].2] (by simp) A bs (Ms++[[]])
   have hx:-1≤x∧x≤8:=by simp at hx;omega
   repeat (first|apply wA|apply wS|refine wr (by simp [e1,e2,e3,h1,h1'];with_reducible rfl) ?_|refine wq (by simp [e1,e2,e3,h1,h1'];with_reducible rfl) ?_|refine wt (by simpa [e1,e2,e3,h1,h1']) ?_|refine wf (by simpa [e1,e2,e3,h1,h1']) ?_|refine xt (by simpa [e1,e2,e3,h1,h1']) ?_|refine xf (by simpa [e1,e2,e3,h1,h1']) ?_|apply wB|apply Qaa|refine wX ?_|refine wY ?_|refine wR ?_|refine wK ?_|refine wE ?_)
   refine Qm3 (by simp [hvl,e4];with_reducible rfl) (by simp;with_reducible rfl) ?_ ?_
   · intro p hp
     simp only [List.mem_cons,List.not_mem_nil,or_false] at hp
     rcases hp with rfl | rfl
     · exact ⟨_,by simp [hvl,e4];with_reducible rfl,by simp⟩
     · exact ⟨_,by simp [hvl,e4];with_reducible rfl,by simp⟩
   repeat (first|apply wA|apply wS|refine wr (by simp;with_reducible rfl) ?_|refine wq (by simp;with_reducible rfl) ?_|refine wt (by simpa) ?_|refine wf (by simpa) ?_|refine xt (by simpa) ?_|refine xf (by simpa) ?_|apply wB|apply Qaa|refine wX ?_|refine wY ?_|refine wR ?_|refine wK ?_|refine wE ?_)
   refine ⟨.inr rfl,_,⟨n,es.set v (x,es[v].2),k4,Qz0 hS ⟨by omega,by omega,by omega,by omega⟩,by omega,rfl⟩,?_⟩
   simp [Qnm]
   rw [List.take_of_length_le (by simp)]
 by_cases hu1:u=1
 · subst hu1
   have hap:Qfj n (es++[es[v]]):=⟨hS.n1,hS.n2,by have:=Qx9 hn7 hs;simp;omega,fun e he=>by
    rcases List.mem_append.1 he with he | he
    · exact hS.el e he
    · simp at he;subst he;exact hev⟩
   have hlm:es.length+1≤274877906944:=by omega
   repeat (first|apply wA|apply wS|refine wr (by simp [e1,e2,e3,h1,h1'];with_reducible rfl) ?_|refine wq (by simp [e1,e2,e3,h1,h1'];with_reducible rfl) ?_|refine wt (by simpa [e1,e2,e3,h1,h1']) ?_|refine wf (by simpa [e1,e2,e3,h1,h1']) ?_|refine xt (by simpa [e1,e2,e3,h1,h1']) ?_|refine xf (by simpa [e1,e2,e3,h1,h1']) ?_|apply wB|apply Qaa|refine wX ?_|refine wY ?_|refine wR ?_|refine wK ?_|refine wE ?_)
   refine Qm3 (by simp [hvl,hlm];with_reducible rfl) (by simp;with_reducible rfl) ?_ ?_
   · intro p hp
     simp only [List.mem_cons,List.not_mem_nil,or_false] at hp
     subst hp
     exact ⟨_,by simp [hvl,hlm];with_reducible rfl,by simp⟩
   repeat (first|apply wA|apply wS|refine wr (by simp;with_reducible rfl) ?_|refine wq (by simp;with_reducible rfl) ?_|refine wt (by simpa) ?_|refine wf (by simpa) ?_|refine xt (by simpa) ?_|refine xf (by simpa) ?_|apply wB|apply Qaa|refine wX ?_|refine wY ?_|refine wR ?_|refine wK ?_|refine wE ?_)
   refine ⟨.inr rfl,_,⟨n,es++[es[v]],k3,hap,by omega,rfl⟩,?_⟩
   simp [Qnm]
   rw [List.take_of_length_le (by simp)]
 have hu0':¬ (u:Int)=0:=by omega
 have hu1':¬ (u:Int)=1:=by omega
 by_cases hu2:u=2
 · subst hu2
   obtain ⟨x,k4,hx,hk4,e4⟩:=Jyk code c hc k3 (by omega) [-1,8,2] (by simp) A bs (Ms++[[]])
   have hx:-1≤x∧x≤8:=by simp at hx;omega
   repeat (first|apply wA|apply wS|refine wr (by simp [e1,e2,e3,e4,h1,h1'];with_reducible rfl) ?_|refine wq (by simp [e1,e2,e3,e4,h1,h1'];with_reducible rfl) ?_|refine wt (by simpa [e1,e2,e3,e4,h1,h1']) ?_|refine wf (by simpa [e1,e2,e3,e4,h1,h1']) ?_|refine xt (by simpa [e1,e2,e3,e4,h1,h1']) ?_|refine xf (by simpa [e1,e2,e3,e4,h1,h1']) ?_|apply wB|apply Qaa|refine wX ?_|refine wY ?_|refine wR ?_|refine wK ?_|refine wE ?_)
   refine ⟨.inr rfl,_,⟨x,es,k4,⟨hx.1,hx.2,hS.len,hS.el⟩,by omega,rfl⟩,?_⟩
   simp [Qnm]
 · have hu2':¬ (u:Int)=2:=by omega
   repeat (first|apply wA|apply wS|refine wr (by simp [e1,e2,e3,h1,h1',hu0,hu1,hu2,hu0',hu1',hu2'];with_reducible rfl) ?_|refine wq (by simp [e1,e2,e3,h1,h1',hu0,hu1,hu2,hu0',hu1',hu2'];with_reducible rfl) ?_|refine wt (by simpa [e1,e2,e3,h1,h1',hu0,hu1,hu2,hu0',hu1',hu2']) ?_|refine wf (by simpa [e1,e2,e3,h1,h1',hu0,hu1,hu2,hu0',hu1',hu2']) ?_|refine xt (by simpa [e1,e2,e3,h1,h1',hu0,hu1,hu2,hu0',hu1',hu2']) ?_|refine xf (by simpa [e1,e2,e3,h1,h1',hu0,hu1,hu2,hu0',hu1',hu2']) ?_|apply wB|apply Qaa|refine wX ?_|refine wY ?_|refine wR ?_|refine wK ?_|refine wE ?_)
   refine ⟨.inr rfl,_,⟨n,es,k3,hS,by omega,rfl⟩,?_⟩
   simp [Qnm]
end Go.Idl
namespace Go.Idl
open Go
abbrev Q4:=Int×Int×Int×Int
def sws (xs:List Q4):List (List IV):=xs.map fun s=>[I s.1,I s.2.1,I s.2.2.1,I s.2.2.2]
abbrev O4 (xs:List Q4):IV:=.own 4 (sws xs)
@[simp] theorem sws_len (xs:List Q4):(sws xs).length=xs.length:=by simp [sws]
@[simp] theorem Qne:sws []=[]:=rfl
@[simp] theorem Jym (xs:List Q4) (n:Nat):(sws xs).take n=sws (xs.take n):=by simp [sws,List.map_take]
@[simp] theorem Jx6 (xs:List Q4) (n:Nat):(sws xs).drop n=sws (xs.drop n):=by simp [sws,List.map_drop]
@[simp] theorem sws_one (xs:List Q4) (a b c d:Int):sws xs++[[IV.sc (.int .i64 a),IV.sc (.int .i64 b),IV.sc (.int .i64 c),IV.sc (.int .i64 d)]]=sws (xs++[(a,b,c,d)]):=by simp [sws]
@[simp] theorem sws_get (xs:List Q4) (i:Nat) (h:i < (sws xs).length):(sws xs)[i]=[IV.sc (.int .i64 (xs[i]'(by simpa [sws] using h)).1),IV.sc (.int .i64 (xs[i]'(by simpa [sws] using h)).2.1),IV.sc (.int .i64 (xs[i]'(by simpa [sws] using h)).2.2.1),IV.sc (.int .i64 (xs[i]'(by simpa [sws] using h)).2.2.2)]:=by simp [sws]
@[simp] theorem sws_get? (xs:List Q4) (i:Nat):(sws xs)[i]? = xs[i]?.map fun s=>[IV.sc (.int .i64 s.1),IV.sc (.int .i64 s.2.1),IV.sc (.int .i64 s.2.2.1),IV.sc (.int .i64 s.2.2.2)]:=by simp [sws]
@[simp] theorem Jyh (xs:List Q4):((sws xs).all fun x=>x.all IV.plain1)=true:=by
  induction xs with
  | nil=>rfl
  | cons x xs ih=>simp only [sws,List.map_cons,List.all_cons] at *;rw [ih];rfl
@[simp] theorem Jyb (xs:List Q4):((sws xs).all fun x=>x.all IV.isData)=true:=by
  induction xs with
  | nil=>rfl
  | cons x xs ih=>simp only [sws,List.map_cons,List.all_cons] at *;rw [ih];rfl
@[simp] theorem Jq6 (xs:List Q4):Qb1 (sws xs)=true:=by
  induction xs with
  | nil=>rfl
  | cons x xs ih=>simp only [sws,List.map_cons,Qb1,Qa7,Qbt] at *;rw [ih];rfl
@[simp] theorem Jiu (xs:List Q4):Qcf (sws xs)=sws xs:=by
  induction xs with
  | nil=>rfl
  | cons x xs ih=>simp only [sws,List.map_cons,Qcf,Qc2,Qgc] at *;rw [ih]
def Qng (es:List (Int×Int)) (e f:Int×Int):List Q4 :=
 (if Qpm es e.1 e.2 f.1 f.2=true then [(e.1,e.2,f.1,f.2)] else [])++(if Qpm es e.1 e.2 f.2 f.1=true then [(e.1,e.2,f.2,f.1)] else [])
theorem Jbs (es:List (Int×Int)) (e f:Int×Int):(Qng es e f).length≤2:=by
 simp only [Qng,List.length_append];split <;> split <;> simp
theorem Qgv (es:List (Int×Int)) (e:Int×Int):∀ r:List (Int×Int),(r.flatMap (Qng es e)).length≤2 * r.length
 | []=>by simp
 | f::r=>by
   have h1:=Jbs es e f
   have h2:=Qgv es e r
   simp only [List.flatMap_cons,List.length_append,List.length_cons];omega
def swl (es:List (Int×Int)):List (Int×Int)→List Q4
 | []=>[]
 | e::r=>r.flatMap (Qng es e)++swl es r
theorem Qmg (es:List (Int×Int)):∀ r:List (Int×Int),r.length≤100→(swl es r).length≤200 * r.length
 | [],_=>by simp [swl]
 | e::r,h=>by
   have h1:=Qgv es e r
   simp only [List.length_cons] at h
   have h2:=Qmg es r (by omega)
   rw [swl,List.length_append,List.length_cons];omega
set_option maxHeartbeats 4000000 in
theorem Jy8 (n:Int) (es:List (Int×Int)) (c:Bool) (hl:es.length≤1000) (i:Nat) (hi:i < es.length):∀ (m k:Nat) (acc:List Q4) (B:Qae),k+m=es.length→acc.length+2 * m≤4000000 →
 wp tb (.loop Qxj) { T:=[(1,.bptr 0 0 0),(3,O4 acc),(4,I i),(5,I k)],loc:=[I n,L2 es c]::B,M:=[] }
  (fun ex st=>ex=.exit 2∧∃ B',st={ T:=[(1,.bptr 0 0 0),(3,O4 (acc++(es.drop k).flatMap (Qng es es[i]))),(4,I i),(5,I es.length),(24,Bo false)],loc:=[I n,L2 es c]::B',M:=[] }):=by
 intro m
 induction m with
 | zero =>
   intro k acc B hk ha
   have h3:k=es.length:=hk
   subst h3
   refine wW ?_
   repeat (first|apply wA|apply wS|refine wr (by simp;with_reducible rfl) ?_|refine wq (by simp;with_reducible rfl) ?_|refine wt (by simpa) ?_|refine wf (by simpa) ?_|refine xt (by simpa) ?_|refine xf (by simpa) ?_|apply wB|apply Qaa|refine wX ?_|refine wY ?_|refine wR ?_|refine wK ?_|refine wE ?_)
   refine ⟨rfl,_,by simp;rfl⟩
 | succ m ih =>
   intro k acc B hk ha
   have hk2:k < es.length:=by omega
   have w1:IntKind.i64.wrap ((k:Int)+1)=((k+1:Nat):Int):=Qbe (by omega)
   have em:=fun cc a b c d=>Qab (Qoy n es cc a b c d (by omega))
   have hd:es.drop k=es[k]::es.drop (k+1):=List.drop_eq_getElem_cons hk2
   rw [hd,List.flatMap_cons]
   have hn:=fun acc B h=>ih (k+1) acc B (by omega) h
   obtain ⟨⟨x1,x2⟩,hx⟩:∃ x,x=es[i]:=⟨_,rfl⟩
   obtain ⟨⟨y1,y2⟩,hy⟩:∃ x,x=es[k]:=⟨_,rfl⟩
   rw [← hx] at hn ⊢
   rw [← hy]
   have hx2:=hx.symm
   have hy2:=hy.symm
   have hl1:acc.length+1≤274877906944:=by omega
   have hl2:acc.length≤274877906943:=by omega
   have hl3:acc.length+1+1≤274877906944:=by omega
   have hl4:acc.length+1≤274877906943:=by omega
   have hT:∀ x:Q4,List.take (acc.length+1) (acc++[x])=acc++[x]:=fun x=>List.take_of_length_le (by simp)
   have hT2:List.take acc.length acc=acc:=List.take_of_length_le (Nat.le_refl _)
   have hT3:∀ x y:Q4,List.take (acc.length+1+1) (acc++[x,y])=acc++[x,y]:=fun x y=>List.take_of_length_le (by simp)
   have hB:=B.length
   cases k1:Qpm es x1 x2 y1 y2 with
   | false =>
     cases k2:Qpm es x1 x2 y2 y1 with
     | false =>
       refine wW ?_
       repeat (first|apply wA|apply wS|refine wr (by simp [hi,hk2,w1,hx2,hy2,em,k1,k2,hl1,hl2,hT,hT2];with_reducible rfl) ?_|refine wq (by simp [hi,hk2,w1,hx2,hy2,em,k1,k2,hl1,hl2,hT,hT2];with_reducible rfl) ?_|refine wt (by simpa [hi,hk2,w1,hx2,hy2,em,k1,k2,hl1,hl2,hT,hT2]) ?_|refine wf (by simpa [hi,hk2,w1,hx2,hy2,em,k1,k2,hl1,hl2,hT,hT2]) ?_|refine xt (by simpa [hi,hk2,w1,hx2,hy2,em,k1,k2,hl1,hl2,hT,hT2]) ?_|refine xf (by simpa [hi,hk2,w1,hx2,hy2,em,k1,k2,hl1,hl2,hT,hT2]) ?_|apply wB|apply Qaa|refine wX ?_|refine wY ?_|refine wR ?_|refine wK ?_|refine wE ?_)
       have hh:=hn acc (B++[[I x1,I x2],[I y1,I y2],[I x1,I x2,I y1,I y2],[I x1,I x2,I y2,I y1]]) (by omega)
       simp only [Qng,k1,k2]
       simpa using hh
     | true =>
       refine wW ?_
       repeat (first|apply wA|apply wS|refine wr (by simp [hi,hk2,w1,hx2,hy2,em,k1,k2,hl1,hl2,hT,hT2];with_reducible rfl) ?_|refine wq (by simp [hi,hk2,w1,hx2,hy2,em,k1,k2,hl1,hl2,hT,hT2];with_reducible rfl) ?_|refine wt (by simpa [hi,hk2,w1,hx2,hy2,em,k1,k2,hl1,hl2,hT,hT2]) ?_|refine wf (by simpa [hi,hk2,w1,hx2,hy2,em,k1,k2,hl1,hl2,hT,hT2]) ?_|refine xt (by simpa [hi,hk2,w1,hx2,hy2,em,k1,k2,hl1,hl2,hT,hT2]) ?_|refine xf (by simpa [hi,hk2,w1,hx2,hy2,em,k1,k2,hl1,hl2,hT,hT2]) ?_|apply wB|apply Qaa|refine wX ?_|refine wY ?_|refine wR ?_|refine wK ?_|refine wE ?_)
       have hh:=hn (acc++[(x1,x2,y2,y1)]) (B++[[I x1,I x2],[I y1,I y2],[I x1,I x2,I y1,I y2],[I x1,I x2,I y2,I y1]]) (by simp;omega)
       simp only [Qng,k1,k2]
       simpa using hh
   | true =>
     cases k2:Qpm es x1 x2 y2 y1 with
     | false =>
       refine wW ?_
       repeat (first|apply wA|apply wS|refine wr (by simp [hi,hk2,w1,hx2,hy2,em,k1,k2,hl1,hl2,hT,hT2];with_reducible rfl) ?_|refine wq (by simp [hi,hk2,w1,hx2,hy2,em,k1,k2,hl1,hl2,hT,hT2];with_reducible rfl) ?_|refine wt (by simpa [hi,hk2,w1,hx2,hy2,em,k1,k2,hl1,hl2,hT,hT2]) ?_|refine wf (by simpa [hi,hk2,w1,hx2,hy2,em,k1,k2,hl1,hl2,hT,hT2]) ?_|refine xt (by simpa [hi,hk2,w1,hx2,hy2,em,k1,k2,hl1,hl2,hT,hT2]) ?_|refine xf (by simpa [hi,hk2,w1,hx2,hy2,em,k1,k2,hl1,hl2,hT,hT2]) ?_|apply wB|apply Qaa|refine wX ?_|refine wY ?_|refine wR ?_|refine wK ?_|refine wE ?_)
       have hh:=hn (acc++[(x1,x2,y1,y2)]) (B++[[I x1,I x2],[I y1,I y2],[I x1,I x2,I y1,I y2],[I x1,I x2,I y2,I y1]]) (by simp;omega)
       simp only [Qng,k1,k2]
       simpa using hh
     | true =>
       refine wW ?_
       repeat (first|apply wA|apply wS|refine wr (by simp [hi,hk2,w1,hx2,hy2,em,k1,k2,hl1,hl2,hl3,hl4,hT,hT2,hT3];with_reducible rfl) ?_|refine wq (by simp [hi,hk2,w1,hx2,hy2,em,k1,k2,hl1,hl2,hl3,hl4,hT,hT2,hT3];with_reducible rfl) ?_|refine wt (by simpa [hi,hk2,w1,hx2,hy2,em,k1,k2,hl1,hl2,hl3,hl4,hT,hT2,hT3]) ?_|refine wf (by simpa [hi,hk2,w1,hx2,hy2,em,k1,k2,hl1,hl2,hl3,hl4,hT,hT2,hT3]) ?_|refine xt (by simpa [hi,hk2,w1,hx2,hy2,em,k1,k2,hl1,hl2,hl3,hl4,hT,hT2,hT3]) ?_|refine xf (by simpa [hi,hk2,w1,hx2,hy2,em,k1,k2,hl1,hl2,hl3,hl4,hT,hT2,hT3]) ?_|apply wB|apply Qaa|refine wX ?_|refine wY ?_|refine wR ?_|refine wK ?_|refine wE ?_)
       have hh:=hn (acc++[(x1,x2,y1,y2),(x1,x2,y2,y1)]) (B++[[I x1,I x2],[I y1,I y2],[I x1,I x2,I y1,I y2],[I x1,I x2,I y2,I y1]]) (by simp;omega)
       simp only [Qng,k1,k2]
       simpa using hh
theorem Qex (n:Int) (es:List (Int×Int)) (c:Bool) (hl:es.length≤1000) :
 Ev tb Qsw [] [Gr n es c] [] ⟨O4 (swl es es),[],[],[]⟩:=by
 have loop:∀ (m i:Nat) (acc:List Q4) (B:Qae),i+m=es.length→acc.length+2000 * m≤3000000 →
  wp tb (.loop Qyv) { T:=[(1,.bptr 0 0 0),(3,O4 acc),(4,I i)],loc:=[I n,L2 es c]::B,M:=[] }
  (fun ex st=>ex=.exit 0∧∃ B',st={ T:=[(1,.bptr 0 0 0),(3,O4 (acc++swl es (es.drop i))),(4,I es.length),(15,Bo false)],loc:=[I n,L2 es c]::B',M:=[] }):=by
  intro m
  induction m with
  | zero =>
    intro i acc B hi ha
    have h3:i=es.length:=hi
    subst h3
    refine wW ?_
    repeat (first|apply wA|apply wS|refine wr (by simp;with_reducible rfl) ?_|refine wq (by simp;with_reducible rfl) ?_|refine wt (by simpa) ?_|refine wf (by simpa) ?_|refine xt (by simpa) ?_|refine xf (by simpa) ?_|apply wB|apply Qaa|refine wX ?_|refine wY ?_|refine wR ?_|refine wK ?_|refine wE ?_)
    refine ⟨rfl,_,by simp [swl];rfl⟩
  | succ m ih =>
    intro i acc B hi ha
    have hi2:i < es.length:=by omega
    have w1:IntKind.i64.wrap ((i:Int)+1)=((i+1:Nat):Int):=Qbe (by omega)
    have hd:es.drop i=es[i]::es.drop (i+1):=List.drop_eq_getElem_cons hi2
    refine wW ?_
    repeat (first|apply wA|apply wS|refine wr (by simp [hi2,w1];with_reducible rfl) ?_|refine wq (by simp [hi2,w1];with_reducible rfl) ?_|refine wt (by simpa [hi2,w1]) ?_|refine wf (by simpa [hi2,w1]) ?_|refine xt (by simpa [hi2,w1]) ?_|refine xf (by simpa [hi2,w1]) ?_|apply wB|apply Qaa|refine wX ?_|refine wY ?_|refine wR ?_|refine wK ?_|refine wE ?_)
    refine Qal (Jy8 n es c hl i hi2 m (i+1) acc B (by omega) (by omega)) ?_
    rintro ex st ⟨rfl,B',rfl⟩
    simp only [if_true]
    repeat (first|apply wA|apply wS|refine wr (by simp [w1];with_reducible rfl) ?_|refine wq (by simp [w1];with_reducible rfl) ?_|refine wt (by simpa [w1]) ?_|refine wf (by simpa [w1]) ?_|refine xt (by simpa [w1]) ?_|refine xf (by simpa [w1]) ?_|apply wB|apply Qaa|refine wX ?_|refine wY ?_|refine wR ?_|refine wK ?_|refine wE ?_)
    have hrl:=Qgv es es[i] (es.drop (i+1))
    simp only [List.length_drop] at hrl
    have hn:=ih (i+1) (acc++(es.drop (i+1)).flatMap (Qng es es[i])) B' (by omega) (by simp only [List.length_append];omega)
    rw [hd,swl]
    simp only [List.append_assoc] at hn
    exact hn
 refine cW Jzc rfl ?_
 repeat (first|apply wA|apply wS|refine wr (by simp;with_reducible rfl) ?_|refine wq (by simp;with_reducible rfl) ?_|refine wt (by simpa) ?_|refine wf (by simpa) ?_|refine xt (by simpa) ?_|refine xf (by simpa) ?_|apply wB|apply Qaa|refine wX ?_|refine wY ?_|refine wR ?_|refine wK ?_|refine wE ?_)
 refine Qal (loop es.length 0 [] [] (by simp) (by simp;omega)) ?_
 rintro ex st ⟨rfl,B',rfl⟩
 simp only [if_true]
 repeat (first|apply wA|apply wS|refine wr (by simp;with_reducible rfl) ?_|refine wq (by simp;with_reducible rfl) ?_|refine wt (by simpa) ?_|refine wf (by simpa) ?_|refine xt (by simpa) ?_|refine xf (by simpa) ?_|apply wB|apply Qaa|refine wX ?_|refine wY ?_|refine wR ?_|refine wK ?_|refine wE ?_)
 simp [Jba]
end Go.Idl
namespace Go.Idl
open Go
def tab (t:List (List Int)):List (List IV):=t.map fun r=>[.lst 1 (Qdd r) false]
def oab (t:List (List Int)):List (List IV):=t.map fun r=>[.own 1 (Qdd r)]
@[simp] theorem tab_len (t:List (List Int)):(tab t).length=t.length:=by simp [tab]
@[simp] theorem Jz7 (t:List (List Int)):(oab t).length=t.length:=by simp [oab]
@[simp] theorem Jzd:oab []=[]:=rfl
@[simp] theorem tab_get? (t:List (List Int)) (i:Nat):(tab t)[i]? = t[i]?.map fun r=>[IV.lst 1 (Qdd r) false]:=by simp [tab]
@[simp] theorem tab_get (t:List (List Int)) (i:Nat) (h:i < (tab t).length):(tab t)[i]=[IV.lst 1 (Qdd (t[i]'(by simpa [tab] using h))) false]:=by simp [tab]
@[simp] theorem oab_get? (t:List (List Int)) (i:Nat):(oab t)[i]? = t[i]?.map fun r=>[IV.own 1 (Qdd r)]:=by simp [oab]
@[simp] theorem oab_get (t:List (List Int)) (i:Nat) (h:i < (oab t).length):(oab t)[i]=[IV.own 1 (Qdd (t[i]'(by simpa [oab] using h)))]:=by simp [oab]
@[simp] theorem Jza (t:List (List Int)) (r:List Int):oab t++[[IV.own 1 (Qdd r)]]=oab (t++[r]):=by simp [oab]
@[simp] theorem Jzn (t:List (List Int)) (i:Nat) (r:List Int):(oab t).set i [IV.own 1 (Qdd r)]=oab (t.set i r):=by simp [oab,List.map_set]
@[simp] theorem Jx7 (t:List (List Int)) (n:Nat):(oab t).take n=oab (t.take n):=by simp [oab,List.map_take]
@[simp] theorem frz_oab (t:List (List Int)):Qcf (oab t)=tab t:=by
  induction t with
  | nil=>rfl
  | cons x xs ih =>
    simp only [oab,tab,List.map_cons,Qcf,Qc2,Qgc] at *
    rw [ih]
    have:Qcf (Qdd x)=Qdd x:=by
     clear ih
     induction x with
     | nil=>rfl
     | cons y ys ih=>simp only [Qdd,List.map_cons,Qcf,Qc2,Qgc] at *;rw [ih]
    rw [this]
@[simp] theorem Jyq (t:List (List Int)):((tab t).all fun x=>x.all IV.plain1)=true:=by
  induction t with
  | nil=>rfl
  | cons x xs ih=>simp only [tab,List.map_cons,List.all_cons] at *;rw [ih];rfl
@[simp] theorem Jvy (t:List (List Int)):Qb1 (oab t)=true:=by
  induction t with
  | nil=>rfl
  | cons x xs ih =>
    simp only [oab,List.map_cons,Qb1,Qa7,Qbt] at *
    rw [ih,Qt3];rfl
def g2 (t:List (List Int)) (a b:Nat):Int:=(t.getD a []).getD b 0
end Go.Idl
namespace Go.Idl
open Go
def asc0 (s:List Int):List Int:=(fall s).reverse
def Jzi (s:List Int) (i:Nat):Int:=((asc0 s).take (i+1)).sum - ((i:Int)+1) * i / 2
def over (s:List Int):List Int:=mapR s.length (Jzi s)
end Go.Idl
namespace Go.Idl
open Go
theorem Jz9 (r:List Int) (h:∀ x ∈ r,0≤x∧x≤1):0≤r.sum∧r.sum≤r.length:=by
 induction r with
 | nil=>simp
 | cons x xs ih =>
   have h1:=h x (by simp)
   have h2:=ih fun y hy=>h y (by simp [hy])
   simp only [List.sum_cons,List.length_cons];omega
end Go.Idl
namespace Go.Idl
open Go
def VE (es:List (Int×Int)) (x:IV):Prop:=(∃ c,x=L2 es c) ∨ (es=[]∧x=Z)
theorem Qkd (xs ys:List (Int×Int)) (c d:Bool) (hl:xs.length≤2000000) (hm:ys.length≤2000000):Ev tb Qss [] [L2 xs c,L2 ys d] [] ⟨Bo (decide (xs=ys)),[],[],[]⟩:=by
 by_cases he:xs.length=ys.length
 · have loop:∀ (m i:Nat),i+m=xs.length→wp tb (.loop Jd5) { T:=[(0,L2 xs c),(1,L2 ys d),(5,I i)],loc:=[],M:=[] }
    (fun ex st=>(ex=.exit 0∧xs.drop i=ys.drop i∧st={ T:=[(0,L2 xs c),(1,L2 ys d),(5,I xs.length),(14,Bo false)],loc:=[],M:=[] }) ∨
      ex=.ret∧xs.drop i ≠ ys.drop i∧st={ T:=[(4,Bo false)],loc:=[],M:=[] }):=by
    intro m
    induction m with
    | zero =>
      intro i hi
      have h2:xs.drop i=[]:=List.drop_of_length_le (by omega)
      have h3:i=xs.length:=hi
      subst h3
      have hf:¬ xs.length < ys.length:=by omega
      refine wW ?_
      repeat (first|apply wA|apply wS|refine wr (by simp [he];with_reducible rfl) ?_|refine wq (by simp [he];with_reducible rfl) ?_|refine wt (by simpa [he]) ?_|refine wf (by simpa [he]) ?_|refine xt (by simpa [he]) ?_|refine xf (by simpa [he]) ?_|apply wB|apply Qaa|refine wX ?_|refine wY ?_|refine wR ?_|refine wK ?_|refine wE ?_)
      refine .inl ⟨rfl,?_,by simp [he]⟩
      rw [h2,he,List.drop_length]
    | succ m ih =>
      intro i hi
      have hix:i < xs.length:=by omega
      have hiy:i < ys.length:=by omega
      have w2:IntKind.i64.wrap ((i:Int)+1)=((i+1:Nat):Int):=Qbe (by omega)
      rw [List.drop_eq_getElem_cons hix,List.drop_eq_getElem_cons hiy]
      generalize hx:xs[i]=a
      generalize hy:ys[i]=b
      obtain ⟨a1,a2⟩:=a
      obtain ⟨b1,b2⟩:=b
      have gx:(eds xs)[i]'(by simpa using hix)=[I a1,I a2]:=by simp [eds,hx]
      have gy:(eds ys)[i]'(by simpa using hiy)=[I b1,I b2]:=by simp [eds,hy]
      by_cases h1:a1=b1
      · by_cases h2:a2=b2
        · refine wW ?_
          repeat (first|apply wA|apply wS|refine wr (by simp [hix,hiy,gx,gy,h1,h2,w2];with_reducible rfl) ?_|refine wq (by simp [hix,hiy,gx,gy,h1,h2,w2];with_reducible rfl) ?_|refine wt (by simpa [hix,hiy,gx,gy,h1,h2,w2]) ?_|refine wf (by simpa [hix,hiy,gx,gy,h1,h2,w2]) ?_|refine xt (by simpa [hix,hiy,gx,gy,h1,h2,w2]) ?_|refine xf (by simpa [hix,hiy,gx,gy,h1,h2,w2]) ?_|apply wB|apply Qaa|refine wX ?_|refine wY ?_|refine wR ?_|refine wK ?_|refine wE ?_)
          refine Qal (ih (i+1) (by omega)) ?_
          rintro ex st (⟨rfl,h5,rfl⟩ | ⟨rfl,h5,rfl⟩)
          · exact .inl ⟨rfl,by rw [h1,h2,h5],rfl⟩
          · exact .inr ⟨rfl,by simp [h1,h2,h5],rfl⟩
        · refine wW ?_
          repeat (first|apply wA|apply wS|refine wr (by simp [hix,hiy,gx,gy,h1,h2,w2];with_reducible rfl) ?_|refine wq (by simp [hix,hiy,gx,gy,h1,h2,w2];with_reducible rfl) ?_|refine wt (by simpa [hix,hiy,gx,gy,h1,h2,w2]) ?_|refine wf (by simpa [hix,hiy,gx,gy,h1,h2,w2]) ?_|refine xt (by simpa [hix,hiy,gx,gy,h1,h2,w2]) ?_|refine xf (by simpa [hix,hiy,gx,gy,h1,h2,w2]) ?_|apply wB|apply Qaa|refine wX ?_|refine wY ?_|refine wR ?_|refine wK ?_|refine wE ?_)
          exact .inr ⟨rfl,by simp [h1,h2],rfl⟩
      · refine wW ?_
        repeat (first|apply wA|apply wS|refine wr (by simp [hix,hiy,gx,gy,h1,w2];with_reducible rfl) ?_|refine wq (by simp [hix,hiy,gx,gy,h1,w2];with_reducible rfl) ?_|refine wt (by simpa [hix,hiy,gx,gy,h1,w2]) ?_|refine wf (by simpa [hix,hiy,gx,gy,h1,w2]) ?_|refine xt (by simpa [hix,hiy,gx,gy,h1,w2]) ?_|refine xf (by simpa [hix,hiy,gx,gy,h1,w2]) ?_|apply wB|apply Qaa|refine wX ?_|refine wY ?_|refine wR ?_|refine wK ?_|refine wE ?_)
        exact .inr ⟨rfl,by simp [h1],rfl⟩
   refine cW Qqa rfl ?_
   repeat (first|apply wA|apply wS|refine wr (by simp [he];with_reducible rfl) ?_|refine wq (by simp [he];with_reducible rfl) ?_|refine wt (by simpa [he]) ?_|refine wf (by simpa [he]) ?_|refine xt (by simpa [he]) ?_|refine xf (by simpa [he]) ?_|apply wB|apply Qaa|refine wX ?_|refine wY ?_|refine wR ?_|refine wK ?_|refine wE ?_)
   refine Qal (loop xs.length 0 (by simp)) ?_
   rintro ex st (⟨rfl,h5,rfl⟩ | ⟨rfl,h5,rfl⟩)
   · simp only [if_true]
     repeat (first|apply wA|apply wS|refine wr (by simp;with_reducible rfl) ?_|refine wq (by simp;with_reducible rfl) ?_|refine wt (by simpa) ?_|refine wf (by simpa) ?_|refine xt (by simpa) ?_|refine xf (by simpa) ?_|apply wB|apply Qaa|refine wX ?_|refine wY ?_|refine wR ?_|refine wK ?_|refine wE ?_)
     simp only [List.drop_zero] at h5
     simp [Qkf,h5]
   · simp only [List.drop_zero] at h5
     simp [Qkf,h5]
 · have h5:xs ≠ ys:=fun h=>he (by rw [h])
   have he':((xs.length:Int) != ys.length)=true:=by simp;omega
   refine cW Qqa rfl ?_
   repeat (first|apply wA|apply wS|refine wr (by simp [he,he'];with_reducible rfl) ?_|refine wq (by simp [he,he'];with_reducible rfl) ?_|refine wt (by simpa [he,he']) ?_|refine wf (by simpa [he,he']) ?_|refine xt (by simpa [he,he']) ?_|refine xf (by simpa [he,he']) ?_|apply wB|apply Qaa|refine wX ?_|refine wY ?_|refine wR ?_|refine wK ?_|refine wE ?_)
   simp [Qkf,h5]
theorem Qmq (xs ys:List (Int×Int)) (x y:IV) (hx:VE xs x) (hy:VE ys y) (hl:xs.length≤2000000) (hm:ys.length≤2000000):Ev tb Qss [] [x,y] [] ⟨Bo (decide (xs=ys)),[],[],[]⟩:=by
 rcases hx with ⟨c,rfl⟩ | ⟨rfl,rfl⟩
 · rcases hy with ⟨d,rfl⟩ | ⟨rfl,rfl⟩
   · exact Qkd xs ys c d hl hm
   · cases xs with
     | nil =>
       refine cW Qqa rfl ?_
       repeat (first|apply wA|apply wS|refine wr (by simp;with_reducible rfl) ?_|refine wq (by simp;with_reducible rfl) ?_|refine wt (by simpa) ?_|refine wf (by simpa) ?_|refine xt (by simpa) ?_|refine xf (by simpa) ?_|apply wB|apply Qaa|refine wX ?_|refine wY ?_|refine wR ?_|refine wK ?_|refine wE ?_)
       refine wW ?_
       repeat (first|apply wA|apply wS|refine wr (by simp;with_reducible rfl) ?_|refine wq (by simp;with_reducible rfl) ?_|refine wt (by simpa) ?_|refine wf (by simpa) ?_|refine xt (by simpa) ?_|refine xf (by simpa) ?_|apply wB|apply Qaa|refine wX ?_|refine wY ?_|refine wR ?_|refine wK ?_|refine wE ?_)
       simp [Qkf]
     | cons a xs =>
       have h0:¬ (xs.length:Int)+1=0:=by omega
       refine cW Qqa rfl ?_
       repeat (first|apply wA|apply wS|refine wr (by simp [h0];with_reducible rfl) ?_|refine wq (by simp [h0];with_reducible rfl) ?_|refine wt (by simpa [h0]) ?_|refine wf (by simpa [h0]) ?_|refine xt (by simpa [h0]) ?_|refine xf (by simpa [h0]) ?_|apply wB|apply Qaa|refine wX ?_|refine wY ?_|refine wR ?_|refine wK ?_|refine wE ?_)
       simp [Qkf]
 · rcases hy with ⟨d,rfl⟩ | ⟨rfl,rfl⟩
   · cases ys with
     | nil =>
       refine cW Qqa rfl ?_
       repeat (first|apply wA|apply wS|refine wr (by simp;with_reducible rfl) ?_|refine wq (by simp;with_reducible rfl) ?_|refine wt (by simpa) ?_|refine wf (by simpa) ?_|refine xt (by simpa) ?_|refine xf (by simpa) ?_|apply wB|apply Qaa|refine wX ?_|refine wY ?_|refine wR ?_|refine wK ?_|refine wE ?_)
       refine wW ?_
       repeat (first|apply wA|apply wS|refine wr (by simp;with_reducible rfl) ?_|refine wq (by simp;with_reducible rfl) ?_|refine wt (by simpa) ?_|refine wf (by simpa) ?_|refine xt (by simpa) ?_|refine xf (by simpa) ?_|apply wB|apply Qaa|refine wX ?_|refine wY ?_|refine wR ?_|refine wK ?_|refine wE ?_)
       simp [Qkf]
     | cons a ys =>
       have h0:¬ (0:Int)=(ys.length:Int)+1:=by omega
       refine cW Qqa rfl ?_
       repeat (first|apply wA|apply wS|refine wr (by simp [h0];with_reducible rfl) ?_|refine wq (by simp [h0];with_reducible rfl) ?_|refine wt (by simpa [h0]) ?_|refine wf (by simpa [h0]) ?_|refine xt (by simpa [h0]) ?_|refine xf (by simpa [h0]) ?_|apply wB|apply Qaa|refine wX ?_|refine wY ?_|refine wR ?_|refine wK ?_|refine wE ?_)
       simp [Qkf]
   · refine cW Qqa rfl ?_
     repeat (first|apply wA|apply wS|refine wr (by simp;with_reducible rfl) ?_|refine wq (by simp;with_reducible rfl) ?_|refine wt (by simpa) ?_|refine wf (by simpa) ?_|refine xt (by simpa) ?_|refine xf (by simpa) ?_|apply wB|apply Qaa|refine wX ?_|refine wY ?_|refine wR ?_|refine wK ?_|refine wE ?_)
     refine wW ?_
     repeat (first|apply wA|apply wS|refine wr (by simp;with_reducible rfl) ?_|refine wq (by simp;with_reducible rfl) ?_|refine wt (by simpa) ?_|refine wf (by simpa) ?_|refine xt (by simpa) ?_|refine xf (by simpa) ?_|apply wB|apply Qaa|refine wX ?_|refine wY ?_|refine wR ?_|refine wK ?_|refine wE ?_)
     simp [Qkf]
theorem Qmx (n m:Int) (xs ys:List (Int×Int)) (x y:IV) (hx:VE xs x) (hy:VE ys y) (hl:xs.length≤2000000) (hm:ys.length≤2000000):Ev tb Qx5 [] [.agg [I n,x],.agg [I m,y]] [] ⟨Bo (decide (n=m) && decide (xs=ys)),[],[],[]⟩:=by
 have e1:=Qab (Qmq xs ys x y hx hy hl hm)
 by_cases hnm:n=m
 · subst hnm
   rcases hx with ⟨c,rfl⟩ | ⟨rfl,rfl⟩
   · rcases hy with ⟨d,rfl⟩ | ⟨rfl,rfl⟩
     · refine cW Qns rfl ?_
       repeat (first|apply wA|apply wS|refine wr (by simp [e1];with_reducible rfl) ?_|refine wq (by simp [e1];with_reducible rfl) ?_|refine wt (by simpa [e1]) ?_|refine wf (by simpa [e1]) ?_|refine xt (by simpa [e1]) ?_|refine xf (by simpa [e1]) ?_|apply wB|apply Qaa|refine wX ?_|refine wY ?_|refine wR ?_|refine wK ?_|refine wE ?_)
       simp [Qjp]
     · refine cW Qns rfl ?_
       repeat (first|apply wA|apply wS|refine wr (by simp [e1];with_reducible rfl) ?_|refine wq (by simp [e1];with_reducible rfl) ?_|refine wt (by simpa [e1]) ?_|refine wf (by simpa [e1]) ?_|refine xt (by simpa [e1]) ?_|refine xf (by simpa [e1]) ?_|apply wB|apply Qaa|refine wX ?_|refine wY ?_|refine wR ?_|refine wK ?_|refine wE ?_)
       simp [Qjp]
   · rcases hy with ⟨d,rfl⟩ | ⟨rfl,rfl⟩
     · refine cW Qns rfl ?_
       repeat (first|apply wA|apply wS|refine wr (by simp [e1];with_reducible rfl) ?_|refine wq (by simp [e1];with_reducible rfl) ?_|refine wt (by simpa [e1]) ?_|refine wf (by simpa [e1]) ?_|refine xt (by simpa [e1]) ?_|refine xf (by simpa [e1]) ?_|apply wB|apply Qaa|refine wX ?_|refine wY ?_|refine wR ?_|refine wK ?_|refine wE ?_)
       simp [Qjp]
     · refine cW Qns rfl ?_
       repeat (first|apply wA|apply wS|refine wr (by simp [e1];with_reducible rfl) ?_|refine wq (by simp [e1];with_reducible rfl) ?_|refine wt (by simpa [e1]) ?_|refine wf (by simpa [e1]) ?_|refine xt (by simpa [e1]) ?_|refine xf (by simpa [e1]) ?_|apply wB|apply Qaa|refine wX ?_|refine wY ?_|refine wR ?_|refine wK ?_|refine wE ?_)
       simp [Qjp]
 · rcases hx with ⟨c,rfl⟩ | ⟨rfl,rfl⟩
   · rcases hy with ⟨d,rfl⟩ | ⟨rfl,rfl⟩
     · refine cW Qns rfl ?_
       repeat (first|apply wA|apply wS|refine wr (by simp [hnm];with_reducible rfl) ?_|refine wq (by simp [hnm];with_reducible rfl) ?_|refine wt (by simpa [hnm]) ?_|refine wf (by simpa [hnm]) ?_|refine xt (by simpa [hnm]) ?_|refine xf (by simpa [hnm]) ?_|apply wB|apply Qaa|refine wX ?_|refine wY ?_|refine wR ?_|refine wK ?_|refine wE ?_)
       simp [Qjp,hnm]
     · refine cW Qns rfl ?_
       repeat (first|apply wA|apply wS|refine wr (by simp [hnm];with_reducible rfl) ?_|refine wq (by simp [hnm];with_reducible rfl) ?_|refine wt (by simpa [hnm]) ?_|refine wf (by simpa [hnm]) ?_|refine xt (by simpa [hnm]) ?_|refine xf (by simpa [hnm]) ?_|apply wB|apply Qaa|refine wX ?_|refine wY ?_|refine wR ?_|refine wK ?_|refine wE ?_)
       simp [Qjp,hnm]
   · rcases hy with ⟨d,rfl⟩ | ⟨rfl,rfl⟩
     · refine cW Qns rfl ?_
       repeat (first|apply wA|apply wS|refine wr (by simp [hnm];with_reducible rfl) ?_|refine wq (by simp [hnm];with_reducible rfl) ?_|refine wt (by simpa [hnm]) ?_|refine wf (by simpa [hnm]) ?_|refine xt (by simpa [hnm]) ?_|refine xf (by simpa [hnm]) ?_|apply wB|apply Qaa|refine wX ?_|refine wY ?_|refine wR ?_|refine wK ?_|refine wE ?_)
       simp [Qjp,hnm]
     · refine cW Qns rfl ?_
       repeat (first|apply wA|apply wS|refine wr (by simp [hnm];with_reducible rfl) ?_|refine wq (by simp [hnm];with_reducible rfl) ?_|refine wt (by simpa [hnm]) ?_|refine wf (by simpa [hnm]) ?_|refine xt (by simpa [hnm]) ?_|refine xf (by simpa [hnm]) ?_|apply wB|apply Qaa|refine wX ?_|refine wY ?_|refine wR ?_|refine wK ?_|refine wE ?_)
       simp [Qjp,hnm]
end Go.Idl
namespace Go.Idl
open Go
theorem Qzm (n:Nat) (es fs:List (Int×Int)) (c1 c2:Bool) (h1:Qac n es=true) (h2:Qac n fs=true) (f1:Fit es) (f2:Fit fs) (l1:es.length≤1000) (l2:fs.length≤1000) :
 Ev tb Qqh [] [Gr n es c1,Gr n fs c2] [] ⟨Bo true,[],[],[]⟩:=by
 have e1:=fun c=>Qab (Qbb n es c f1 (by omega))
 have e2:=fun c=>Qab (Qbb n fs c f2 (by omega))
 rw [h1] at e1
 rw [h2] at e2
 refine cW Qwb rfl ?_
 repeat (first|apply wA|apply wS|refine wr (by simp [e1,e2];with_reducible rfl) ?_|refine wq (by simp [e1,e2];with_reducible rfl) ?_|refine wt (by simpa [e1,e2]) ?_|refine wf (by simpa [e1,e2]) ?_|refine xt (by simpa [e1,e2]) ?_|refine xf (by simpa [e1,e2]) ?_|apply wB|apply Qaa|refine wX ?_|refine wY ?_|refine wR ?_|refine wK ?_|refine wE ?_)
 simp [Qoc]
def Qe1 (es fs:List (Int×Int)) (e:Int×Int):Bool:=Qi9 es e.1 e.2 != Qi9 fs e.1 e.2
def Qdg (es fs P:List (Int×Int)):Nat:=(P.filter (Qe1 es fs)).length
set_option maxHeartbeats 4000000 in
theorem Qxh (n:Nat) (es fs:List (Int×Int)) (c1 c2:Bool) (l1:es.length≤1000) (l2:fs.length≤1000) (P:List (Int×Int)) (hP:P.length≤1000) :
 ∀ (m i k:Nat) (B:Qae),i+m=P.length→k≤i →
 wp tb (.loop Qwy) { T:=[(2,.bptr 0 0 0),(3,.bptr 0 1 0),(5,I k),(14,O2 P),(15,I P.length),(16,I i)],loc:=[I n,L2 es c1]::[I n,L2 fs c2]::B,M:=[] }
  (fun ex st=>ex=.exit 0∧∃ B',st={ T:=[(2,.bptr 0 0 0),(3,.bptr 0 1 0),(5,I ((k+Qdg es fs (P.drop i):Nat):Int)),(14,O2 P),(15,I P.length),(16,I P.length),(17,Bo false)],loc:=[I n,L2 es c1]::[I n,L2 fs c2]::B',M:=[] }):=by
 intro m
 induction m with
 | zero =>
   intro i k B hi hk
   have h3:i=P.length:=hi
   subst h3
   refine wW ?_
   repeat (first|apply wA|apply wS|refine wr (by simp;with_reducible rfl) ?_|refine wq (by simp;with_reducible rfl) ?_|refine wt (by simpa) ?_|refine wf (by simpa) ?_|refine xt (by simpa) ?_|refine xf (by simpa) ?_|apply wB|apply Qaa|refine wX ?_|refine wY ?_|refine wR ?_|refine wK ?_|refine wE ?_)
   refine ⟨rfl,_,by simp [Qdg];rfl⟩
 | succ m ih =>
   intro i k B hi hk
   have hi2:i < P.length:=by omega
   have w1:IntKind.i64.wrap ((i:Int)+1)=((i+1:Nat):Int):=Qbe (by omega)
   have w2:IntKind.i64.wrap ((k:Int)+1)=((k+1:Nat):Int):=Qbe (by omega)
   have eh1:=fun c a b M=>Qab (Qxw n 2 es c a b (.inl rfl) (by omega) M)
   have eh2:=fun c a b M=>Qab (Qxw n 2 fs c a b (.inl rfl) (by omega) M)
   have hd:P.drop i=P[i]::P.drop (i+1):=List.drop_eq_getElem_cons hi2
   rw [hd,Qdg,List.filter_cons]
   obtain ⟨⟨x1,x2⟩,hx⟩:∃ x,x=P[i]:=⟨_,rfl⟩
   rw [← hx]
   have hx2:=hx.symm
   have hn:=fun k' h=>ih (i+1) k' (B++[[I x1,I x2]]) (by omega) h
   cases k1:Qi9 es x1 x2 with
   | false =>
     cases k2:Qi9 fs x1 x2 with
     | false =>
       refine wW ?_
       repeat (first|apply wA|apply wS|refine wr (by simp [hi2,w1,w2,hx2];with_reducible rfl) ?_|refine wq (by simp [hi2,w1,w2,hx2];with_reducible rfl) ?_|refine wt (by simpa [hi2,w1,w2,hx2]) ?_|refine wf (by simpa [hi2,w1,w2,hx2]) ?_|refine xt (by simpa [hi2,w1,w2,hx2]) ?_|refine xf (by simpa [hi2,w1,w2,hx2]) ?_|apply wB|apply Qaa|refine wX ?_|refine wY ?_|refine wR ?_|refine wK ?_|refine wE ?_)
       refine Qdt (by simp [eh1,eh2,k1,k2];with_reducible rfl) (by simp;with_reducible rfl) ?_ ?_
       · intro p hp
         simp only [List.mem_cons,List.not_mem_nil,or_false] at hp
         rcases hp with rfl | rfl | rfl | rfl | rfl | rfl | rfl
         · exact ⟨_,by simp [eh1,eh2,k1,k2];with_reducible rfl,by simp⟩
         · exact ⟨_,by simp [eh1,eh2,k1,k2];with_reducible rfl,by simp⟩
         · exact ⟨_,by simp [eh1,eh2,k1,k2];with_reducible rfl,by simp⟩
         · exact ⟨_,by simp [eh1,eh2,k1,k2];with_reducible rfl,by simp⟩
         · exact ⟨_,by simp [eh1,eh2,k1,k2];with_reducible rfl,by simp⟩
         · exact ⟨_,by simp [eh1,eh2,k1,k2];with_reducible rfl,by simp⟩
         · exact ⟨_,by simp [eh1,eh2,k1,k2];with_reducible rfl,by simp⟩
       repeat (first|apply wA|apply wS|refine wr (by simp [w1,w2];with_reducible rfl) ?_|refine wq (by simp [w1,w2];with_reducible rfl) ?_|refine wt (by simpa [w1,w2]) ?_|refine wf (by simpa [w1,w2]) ?_|refine xt (by simpa [w1,w2]) ?_|refine xf (by simpa [w1,w2]) ?_|apply wB|apply Qaa|refine wX ?_|refine wY ?_|refine wR ?_|refine wK ?_|refine wE ?_)
       simpa [Qe1,k1,k2,Qdg] using hn k (by omega)
     | true =>
       refine wW ?_
       repeat (first|apply wA|apply wS|refine wr (by simp [hi2,w1,w2,hx2];with_reducible rfl) ?_|refine wq (by simp [hi2,w1,w2,hx2];with_reducible rfl) ?_|refine wt (by simpa [hi2,w1,w2,hx2]) ?_|refine wf (by simpa [hi2,w1,w2,hx2]) ?_|refine xt (by simpa [hi2,w1,w2,hx2]) ?_|refine xf (by simpa [hi2,w1,w2,hx2]) ?_|apply wB|apply Qaa|refine wX ?_|refine wY ?_|refine wR ?_|refine wK ?_|refine wE ?_)
       refine Qdt (by simp [eh1,eh2,k1,k2];with_reducible rfl) (by simp;with_reducible rfl) ?_ ?_
       · intro p hp
         simp only [List.mem_cons,List.not_mem_nil,or_false] at hp
         rcases hp with rfl | rfl | rfl | rfl | rfl | rfl | rfl
         · exact ⟨_,by simp [eh1,eh2,k1,k2];with_reducible rfl,by simp⟩
         · exact ⟨_,by simp [eh1,eh2,k1,k2];with_reducible rfl,by simp⟩
         · exact ⟨_,by simp [eh1,eh2,k1,k2];with_reducible rfl,by simp⟩
         · exact ⟨_,by simp [eh1,eh2,k1,k2];with_reducible rfl,by simp⟩
         · exact ⟨_,by simp [eh1,eh2,k1,k2];with_reducible rfl,by simp⟩
         · exact ⟨_,by simp [eh1,eh2,k1,k2];with_reducible rfl,by simp⟩
         · exact ⟨_,by simp [eh1,eh2,k1,k2];with_reducible rfl,by simp⟩
       repeat (first|apply wA|apply wS|refine wr (by simp [w1,w2];with_reducible rfl) ?_|refine wq (by simp [w1,w2];with_reducible rfl) ?_|refine wt (by simpa [w1,w2]) ?_|refine wf (by simpa [w1,w2]) ?_|refine xt (by simpa [w1,w2]) ?_|refine xf (by simpa [w1,w2]) ?_|apply wB|apply Qaa|refine wX ?_|refine wY ?_|refine wR ?_|refine wK ?_|refine wE ?_)
       have hh:=hn (k+1) (by omega)
       rw [show k+1+Qdg es fs (P.drop (i+1))=k+(Qdg es fs (P.drop (i+1))+1) by omega] at hh
       simpa [Qe1,k1,k2,Qdg] using hh
   | true =>
     cases k2:Qi9 fs x1 x2 with
     | false =>
       refine wW ?_
       repeat (first|apply wA|apply wS|refine wr (by simp [hi2,w1,w2,hx2];with_reducible rfl) ?_|refine wq (by simp [hi2,w1,w2,hx2];with_reducible rfl) ?_|refine wt (by simpa [hi2,w1,w2,hx2]) ?_|refine wf (by simpa [hi2,w1,w2,hx2]) ?_|refine xt (by simpa [hi2,w1,w2,hx2]) ?_|refine xf (by simpa [hi2,w1,w2,hx2]) ?_|apply wB|apply Qaa|refine wX ?_|refine wY ?_|refine wR ?_|refine wK ?_|refine wE ?_)
       refine Qdt (by simp [eh1,eh2,k1,k2];with_reducible rfl) (by simp;with_reducible rfl) ?_ ?_
       · intro p hp
         simp only [List.mem_cons,List.not_mem_nil,or_false] at hp
         rcases hp with rfl | rfl | rfl | rfl | rfl | rfl | rfl
         · exact ⟨_,by simp [eh1,eh2,k1,k2];with_reducible rfl,by simp⟩
         · exact ⟨_,by simp [eh1,eh2,k1,k2];with_reducible rfl,by simp⟩
         · exact ⟨_,by simp [eh1,eh2,k1,k2];with_reducible rfl,by simp⟩
         · exact ⟨_,by simp [eh1,eh2,k1,k2];with_reducible rfl,by simp⟩
         · exact ⟨_,by simp [eh1,eh2,k1,k2];with_reducible rfl,by simp⟩
         · exact ⟨_,by simp [eh1,eh2,k1,k2];with_reducible rfl,by simp⟩
         · exact ⟨_,by simp [eh1,eh2,k1,k2];with_reducible rfl,by simp⟩
       repeat (first|apply wA|apply wS|refine wr (by simp [w1,w2];with_reducible rfl) ?_|refine wq (by simp [w1,w2];with_reducible rfl) ?_|refine wt (by simpa [w1,w2]) ?_|refine wf (by simpa [w1,w2]) ?_|refine xt (by simpa [w1,w2]) ?_|refine xf (by simpa [w1,w2]) ?_|apply wB|apply Qaa|refine wX ?_|refine wY ?_|refine wR ?_|refine wK ?_|refine wE ?_)
       have hh:=hn (k+1) (by omega)
       rw [show k+1+Qdg es fs (P.drop (i+1))=k+(Qdg es fs (P.drop (i+1))+1) by omega] at hh
       simpa [Qe1,k1,k2,Qdg] using hh
     | true =>
       refine wW ?_
       repeat (first|apply wA|apply wS|refine wr (by simp [hi2,w1,w2,hx2];with_reducible rfl) ?_|refine wq (by simp [hi2,w1,w2,hx2];with_reducible rfl) ?_|refine wt (by simpa [hi2,w1,w2,hx2]) ?_|refine wf (by simpa [hi2,w1,w2,hx2]) ?_|refine xt (by simpa [hi2,w1,w2,hx2]) ?_|refine xf (by simpa [hi2,w1,w2,hx2]) ?_|apply wB|apply Qaa|refine wX ?_|refine wY ?_|refine wR ?_|refine wK ?_|refine wE ?_)
       refine Qdt (by simp [eh1,eh2,k1,k2];with_reducible rfl) (by simp;with_reducible rfl) ?_ ?_
       · intro p hp
         simp only [List.mem_cons,List.not_mem_nil,or_false] at hp
         rcases hp with rfl | rfl | rfl | rfl | rfl | rfl | rfl
         · exact ⟨_,by simp [eh1,eh2,k1,k2];with_reducible rfl,by simp⟩
         · exact ⟨_,by simp [eh1,eh2,k1,k2];with_reducible rfl,by simp⟩
         · exact ⟨_,by simp [eh1,eh2,k1,k2];with_reducible rfl,by simp⟩
         · exact ⟨_,by simp [eh1,eh2,k1,k2];with_reducible rfl,by simp⟩
         · exact ⟨_,by simp [eh1,eh2,k1,k2];with_reducible rfl,by simp⟩
         · exact ⟨_,by simp [eh1,eh2,k1,k2];with_reducible rfl,by simp⟩
         · exact ⟨_,by simp [eh1,eh2,k1,k2];with_reducible rfl,by simp⟩
       repeat (first|apply wA|apply wS|refine wr (by simp [w1,w2];with_reducible rfl) ?_|refine wq (by simp [w1,w2];with_reducible rfl) ?_|refine wt (by simpa [w1,w2]) ?_|refine wf (by simpa [w1,w2]) ?_|refine xt (by simpa [w1,w2]) ?_|refine xf (by simpa [w1,w2]) ?_|apply wB|apply Qaa|refine wX ?_|refine wY ?_|refine wR ?_|refine wK ?_|refine wE ?_)
       simpa [Qe1,k1,k2,Qdg] using hn k (by omega)
theorem Qjz (n:Nat) (es fs:List (Int×Int)) (c1 c2:Bool) (h1:Qac n es=true) (h2:Qac n fs=true) (f1:Fit es) (f2:Fit fs) (l1:es.length≤1000) (l2:fs.length≤1000) (hp:prs n ≠ []) :
 Ev tb Qp4 [] [Gr n es c1,Gr n fs c2] [] ⟨I (Qdg es fs (prs n)),[],[],[]⟩:=by
 have eb:=fun c1 c2=>Qab (Qzm n es fs c1 c2 h1 h2 f1 f2 l1 l2)
 have hn7:=(Qaz.1 h1).2.2
 have ep:=Qab (Qgm n (by omega))
 have hP:(prs n).length≤1000:=by
  have h2:∀ n,n≤7→(prs n).length≤21:=by decide +kernel
  have:=h2 _ hn7
  omega
 generalize prs n=P at *
 obtain ⟨q,Q,hQ⟩:∃ q Q,P=q::Q:=by
  cases P with
  | nil=>exact absurd rfl hp
  | cons q Q=>exact ⟨q,Q,rfl⟩
 have ep2:nl2 P=O2 P:=by rw [hQ];rfl
 rw [ep2] at ep
 have loop:=Qxh n es fs c1 c2 l1 l2 P hP P.length 0 0 [] (by omega) (by omega)
 rw [show ((0:Nat):Int)=0 from rfl] at loop
 refine cW Jrj rfl ?_
 repeat (first|apply wA|apply wS|refine wr (by simp [eb,ep];with_reducible rfl) ?_|refine wq (by simp [eb,ep];with_reducible rfl) ?_|refine wt (by simpa [eb,ep]) ?_|refine wf (by simpa [eb,ep]) ?_|refine xt (by simpa [eb,ep]) ?_|refine xf (by simpa [eb,ep]) ?_|apply wB|apply Qaa|refine wX ?_|refine wY ?_|refine wR ?_|refine wK ?_|refine wE ?_)
 refine Qal loop ?_
 rintro ex st ⟨rfl,B',rfl⟩
 simp only [if_true]
 repeat (first|apply wA|apply wS|refine wr (by simp;with_reducible rfl) ?_|refine wq (by simp;with_reducible rfl) ?_|refine wt (by simpa) ?_|refine wf (by simpa) ?_|refine xt (by simpa) ?_|refine xf (by simpa) ?_|apply wB|apply Qaa|refine wX ?_|refine wY ?_|refine wR ?_|refine wK ?_|refine wE ?_)
 simp [Qw9]
end Go.Idl
namespace Go.Idl
open Go
abbrev L4 (xs:List Q4) (c:Bool):IV:=.lst 4 (sws xs) c
def Qef:List (Int×Int)→List Q4→Option (List (Int×Int))
 | es,[]=>some es
 | es,s::r=>if Qdc es s.1 s.2.1 s.2.2.1 s.2.2.2 then Qef (sw es s.1 s.2.1 s.2.2.1 s.2.2.2) r else none
abbrev OR (n:Int) (o:Option (List (Int×Int))):IV:=match o with
 | some x=>.tup [OG n x,Bo true]
 | none=>.tup [.agg [I 0,Z],Bo false]
set_option maxHeartbeats 4000000 in
theorem Qza (n:Nat) (es:List (Int×Int)) (cc c:Bool) (l:List Q4) (hl:l.length≤2000000) :
 ∀ (m j:Nat) (es':List (Int×Int)) (B:Qae),j+m=l.length→Qac n es'=true →
 wp tb (.loop Qy4) { T:=[(1,L4 l c),(4,.bptr 0 1 0),(6,.bptr 0 2 0),(21,L4 l c),(22,I l.length),(23,I j)],loc:=[I n,L2 es cc]::[I 0,Z]::[I n,O2 es']::B,M:=[] }
  (fun ex st=>match Qef es' (l.drop j) with
    | some x=>ex=.exit 0∧∃ B',st={ T:=[(1,L4 l c),(4,.bptr 0 1 0),(6,.bptr 0 2 0),(21,L4 l c),(22,I l.length),(23,I l.length),(24,Bo false)],loc:=[I n,L2 es cc]::[I 0,Z]::[I n,O2 x]::B',M:=[] }
    | none=>ex=.ret∧∃ B',st={ T:=[(4,.bptr 0 1 0),(5,Bo false)],loc:=[I n,L2 es cc]::[I 0,Z]::B',M:=[] }):=by
 intro m
 induction m with
 | zero =>
   intro j es' B hj hv
   have h3:j=l.length:=hj
   subst h3
   have h2:l.drop l.length=[]:=List.drop_length
   rw [h2]
   refine wW ?_
   repeat (first|apply wA|apply wS|refine wr (by simp;with_reducible rfl) ?_|refine wq (by simp;with_reducible rfl) ?_|refine wt (by simpa) ?_|refine wf (by simpa) ?_|refine xt (by simpa) ?_|refine xf (by simpa) ?_|apply wB|apply Qaa|refine wX ?_|refine wY ?_|refine wR ?_|refine wK ?_|refine wE ?_)
   exact ⟨rfl,_,rfl⟩
 | succ m ih =>
   intro j es' B hj hv
   have hjl:j < l.length:=by omega
   have h2:l.drop j=l[j]::l.drop (j+1):=List.drop_eq_getElem_cons hjl
   obtain ⟨⟨a,b,x,d⟩,hx⟩:∃ x,x=l[j]:=⟨_,rfl⟩
   have hx2:=hx.symm
   have w2:IntKind.i64.wrap ((j:Int)+1)=((j+1:Nat):Int):=Qbe (by omega)
   have e1:=fun cc=>Qab (Qkh n es' cc a b x d hv)
   rw [h2,hx2,Qef]
   cases hm:Qdc es' a b x d with
   | false =>
     simp only [OS,hm,Bool.false_eq_true,if_false] at e1
     refine wW ?_
     repeat (first|apply wA|apply wS|refine wr (by simp [hjl,hx2,e1,w2];with_reducible rfl) ?_|refine wq (by simp [hjl,hx2,e1,w2];with_reducible rfl) ?_|refine wt (by simpa [hjl,hx2,e1,w2]) ?_|refine wf (by simpa [hjl,hx2,e1,w2]) ?_|refine xt (by simpa [hjl,hx2,e1,w2]) ?_|refine xf (by simpa [hjl,hx2,e1,w2]) ?_|apply wB|apply Qaa|refine wX ?_|refine wY ?_|refine wR ?_|refine wK ?_|refine wE ?_)
     exact ⟨rfl,_,rfl⟩
   | true =>
     simp only [OS,hm,if_true] at e1
     obtain ⟨-,-,q3,-⟩:=Qcw hv hm
     have hn:=fun B=>ih (j+1) (sw es' a b x d) B (by omega) q3
     refine wW ?_
     repeat (first|apply wA|apply wS|refine wr (by simp [hjl,hx2,e1,w2];with_reducible rfl) ?_|refine wq (by simp [hjl,hx2,e1,w2];with_reducible rfl) ?_|refine wt (by simpa [hjl,hx2,e1,w2]) ?_|refine wf (by simpa [hjl,hx2,e1,w2]) ?_|refine xt (by simpa [hjl,hx2,e1,w2]) ?_|refine xf (by simpa [hjl,hx2,e1,w2]) ?_|apply wB|apply Qaa|refine wX ?_|refine wY ?_|refine wR ?_|refine wK ?_|refine wE ?_)
     exact hn _
set_option maxHeartbeats 4000000 in
theorem Qku (n:Nat) (es:List (Int×Int)) (cc:Bool) (l:List Q4) (c:Bool) (hv:Qac n es=true) (f1:Fit es) (l1:es.length≤2000000) (hl:l.length≤2000000) :
 Ev tb Qye [] [Gr n es cc,L4 l c] [] ⟨OR n (Qef es l),[],[],[]⟩:=by
 have e1:=fun c=>Qab (Qbb n es c f1 (by omega))
 rw [hv] at e1
 have e2:=fun c=>Qab (Qnl 2 es c (.inl rfl) (by omega))
 have loop:=Qza n es cc c l hl l.length 0 es [] (by omega) hv
 rw [List.drop_zero] at loop
 refine cW zt196 rfl ?_
 repeat (first|apply wA|apply wS|refine wr (by simp [e1];with_reducible rfl) ?_|refine wq (by simp [e1];with_reducible rfl) ?_|refine wt (by simpa [e1]) ?_|refine wf (by simpa [e1]) ?_|refine xt (by simpa [e1]) ?_|refine xf (by simpa [e1]) ?_|apply wB|apply Qaa|refine wX ?_|refine wY ?_|refine wR ?_|refine wK ?_|refine wE ?_)
 refine Qx6 rfl (by simp [e2];with_reducible rfl) (by simp;with_reducible rfl) ?_
 repeat (first|apply wA|apply wS|refine wr (by simp;with_reducible rfl) ?_|refine wq (by simp;with_reducible rfl) ?_|refine wt (by simpa) ?_|refine wf (by simpa) ?_|refine xt (by simpa) ?_|refine xf (by simpa) ?_|apply wB|apply Qaa|refine wX ?_|refine wY ?_|refine wR ?_|refine wK ?_|refine wE ?_)
 refine Qal loop ?_
 intro ex st hst
 cases hr:Qef es l with
 | none =>
   rw [hr] at hst
   obtain ⟨rfl,B',rfl⟩:=hst
   simp [Qy5]
 | some x =>
   rw [hr] at hst
   obtain ⟨rfl,B',rfl⟩:=hst
   repeat (first|apply wA|apply wS|refine wr (by simp;with_reducible rfl) ?_|refine wq (by simp;with_reducible rfl) ?_|refine wt (by simpa) ?_|refine wf (by simpa) ?_|refine xt (by simpa) ?_|refine xf (by simpa) ?_|apply wB|apply Qaa|refine wX ?_|refine wY ?_|refine wR ?_|refine wK ?_|refine wE ?_)
   simp [Qy5]
end Go.Idl
namespace Go.Idl
open Go
abbrev Str (s:ByteArray):IV:=.sc (.string s)
def Jei (l:List ByteArray):List (List IV):=l.map fun s=>[Str s]
@[simp] theorem Jx1 (l:List ByteArray):(Jei l).length=l.length:=by simp [Jei]
@[simp] theorem Jyn (l:List ByteArray) (i:Nat) (h:i < (Jei l).length):(Jei l)[i]=[IV.sc (.string (l[i]'(by simpa [Jei] using h)))]:=by simp [Jei]
@[simp] theorem strs_get? (l:List ByteArray) (i:Nat):(Jei l)[i]? = l[i]?.map fun s=>[IV.sc (.string s)]:=by simp [Jei]
end Go.Idl
namespace Go.Idl
open Go
theorem Qlv:∀ (r:List (Int×Int)) (left:List Int) (ch:List (Int×Int)),(subs r left ch).length≤2 ^ r.length
 | [],left,ch=>by rw [subs];split <;> simp
 | e::r,left,ch=>by
   have h1:=Qlv r (Qix (Qix left e.1.toNat) e.2.toNat) (ch++[e])
   have h2:=Qlv r left ch
   rw [subs,List.length_append,List.length_cons,Nat.pow_succ]
   split
   · omega
   · simp;omega
end Go.Idl
namespace Go.Idl
open Go
def gls (n:Int) (gl:List (List (Int×Int))):List (List IV):=gl.map fun es=>[I n,O2 es]
@[simp] theorem gls_len (n:Int) (gl):(gls n gl).length=gl.length:=by simp [gls]
@[simp] theorem Jyv (n:Int) (gl) (es:List (Int×Int)):gls n gl++[[IV.sc (.int .i64 n),.own 2 (eds es)]]=gls n (gl++[es]):=by simp [gls]
@[simp] theorem gls_emp (n:Int) (gl):(gls n gl).isEmpty=gl.isEmpty:=by cases gl <;> rfl
@[simp] theorem Jxw (n:Int) (gl) (k:Nat):(gls n gl).take k=gls n (gl.take k):=by simp [gls,List.map_take]
@[simp] theorem Jzj (n:Int) (gl):((gls n gl).all fun x=>x.all IV.isData)=true:=by
  induction gl with
  | nil=>rfl
  | cons x xs ih=>simp only [gls,List.map_cons,List.all_cons] at *;rw [ih];rfl
@[simp] theorem Jrq (n:Int) (gl):Qb1 (gls n gl)=true:=by
  induction gl with
  | nil=>rfl
  | cons x xs ih=>simp only [gls,List.map_cons,Qb1,Qa7,Qbt,Qw8] at *;rw [ih];rfl
def Jdl (d:List Int):List (List (Int×Int)):=subs (prs d.length) d []
end Go.Idl
namespace Go.Idl
open Go
abbrev GF:=List (List (Int×Int)×Bool)
def glf (n:Int) (R:GF):List (List IV):=R.map fun x=>[I n,L2 x.1 x.2]
@[simp] theorem Jyu (n:Int) (R:GF):(glf n R).length=R.length:=by simp [glf]
@[simp] theorem glf_nil (n:Int):glf n []=[]:=rfl
@[simp] theorem Jy3 (n:Int) (R S:GF):glf n R++glf n S=glf n (R++S):=by simp [glf]
@[simp] theorem Jx5 (n:Int) (R:GF) (k:Nat):(glf n R).take k=glf n (R.take k):=by simp [glf,List.map_take]
@[simp] theorem glf_all (n:Int) (R:GF):((glf n R).all fun x=>x.all IV.isData)=true:=by
  induction R with
  | nil=>rfl
  | cons x xs ih=>simp only [glf,List.map_cons,List.all_cons] at *;rw [ih];rfl
end Go.Idl
namespace Go.Idl
open Go
@[simp] theorem un_neg (n:Int):Op.unary .neg (.int .i64 n)=.pure (.int .i64 (IntKind.i64.wrap (-n))):=by
  rw [← Int.zero_sub];rfl
def gs (r c:List Int) (i:Nat):Int:=-((fall r).take (i+1)).sum+(c.map fun x:Int=>min x ((i:Int)+1)).sum
end Go.Idl
namespace Go.Idl
open Go
def TT (n:Nat) (t:List (List Int)):Prop:=t.length=n∧∀ r ∈ t,r.length=n∧∀ x ∈ r,0≤x∧x≤1
theorem TT.set {n:Nat} {t:List (List Int)} (h:TT n t) {a b:Nat} {v:Int} (ha:a < t.length) (hv:0≤v∧v≤1):TT n (t.set a (t[a].set b v)):=by
 refine ⟨by simpa using h.1,fun r hr=>?_⟩
 have h1:=h.2 _ (List.getElem_mem ha)
 rcases List.mem_or_eq_of_mem_set hr with hr | rfl
 · exact h.2 r hr
 · refine ⟨by simpa using h1.1,fun x hx=>?_⟩
   rcases List.mem_or_eq_of_mem_set hx with hx | rfl
   · exact h1.2 x hx
   · exact hv
end Go.Idl
namespace Go.Idl
open Go
def MM (h w:Nat) (t:List (List Int)):Prop:=t.length=h∧∀ r ∈ t,r.length=w∧∀ x ∈ r,0≤x∧x≤1
end Go.Idl
namespace Go.Idl
open Go
theorem MM.few {h w:Nat} {t:List (List Int)} (ht:MM h w t) (hw:w≤5):∀ r ∈ t,Few r:=fun r hr=>⟨by have:=(ht.2 r hr).1;omega,fun x hx=>by have:=(ht.2 r hr).2 x hx;omega⟩
theorem MM.sums {h w:Nat} {t:List (List Int)} (ht:MM h w t) (hw:w≤5):∀ x ∈ t.map List.sum,0≤x∧x≤5:=by
 intro x hx
 obtain ⟨r,hr,rfl⟩:=List.mem_map.1 hx
 have h1:=ht.2 r hr
 have:=Jz9 r h1.2
 omega
end Go.Idl
namespace Go.Idl
def insP (x:Nat×Nat):List (Nat×Nat)→List (Nat×Nat)
 | []=>[x]
 | y::r=>if Nat.ble y.1 x.1 then x::y::r else y::insP x r
def hh:Nat→List (Nat×Nat)→List (Nat×Nat)
 | 0,_=>[]
 | _+1,[]=>[]
 | m+1,x::r=>(r.take x.1).map (fun y:Nat×Nat=>(x.2,y.2))++hh m ((((r.take x.1).map (fun y:Nat×Nat=>(y.1 - 1,y.2))++r.drop x.1:List (Nat×Nat))).foldr insP [])
theorem Qgw {left:List Int} {N:Nat} (hl:left.length=N):left.all (fun x=>decide (x=0))=true ↔ ∀ v,v < N→(0:Int)=left.getD v 0:=by
 rw [List.all_eq_true]
 constructor
 · intro h v hv
   rw [List.getD_eq_getElem?_getD,List.getElem?_eq_getElem (by omega)]
   have:=of_decide_eq_true (h _ (List.getElem_mem (show v < left.length by omega)))
   simp [this]
 · intro h x hx
   obtain ⟨v,hv,rfl⟩:=List.getElem_of_mem hx
   have:=h v (by omega)
   rw [List.getD_eq_getElem?_getD,List.getElem?_eq_getElem hv] at this
   simpa using this.symm
theorem Qo0 {o:List Int} {i v:Nat} (hv:v < o.length):(Qix o i).getD v 0=o.getD v 0 - (if i=v then 1 else 0):=by
 rw [Qix,List.getD_eq_getElem?_getD,List.getElem?_set]
 by_cases h:i=v
 · subst h;simp [hv,List.getD_eq_getElem?_getD]
 · simp [h,List.getD_eq_getElem?_getD]
theorem Qs8 (v:Nat) (e:Int×Int):0≤inc v e:=by simp only [inc];split <;> split <;> decide
theorem Qgr {N:Nat}:∀ (r:List (Int×Int)) (left:List Int) (ch g:List (Int×Int)),(∀ e ∈ r,0≤e.1∧e.1 < e.2∧e.2 < N)→left.length=N →
 (g ∈ subs r left ch ↔ ∃ s:List (Int×Int),s.Sublist r∧g=ch++s∧∀ v,v < N→deg s v=left.getD v 0)
 | [],left,ch,g,_,hl=>by
   rw [subs]
   constructor
   · intro h
     split at h
     · rename_i hz
       simp at h
       subst h
       exact ⟨[],List.Sublist.refl _,by simp,fun v hv=>(Qgw hl).1 hz v hv⟩
     · simp at h
   · rintro ⟨s,hs,rfl,hd⟩
     have:s=[]:=by simpa using hs
     subst this
     rw [if_pos ((Qgw hl).2 fun v hv=>hd v hv)]
     simp
 | e::r,left,ch,g,hr,hl=>by
   have he:=hr e (by simp)
   have hr':∀ x ∈ r,0≤x.1∧x.1 < x.2∧x.2 < N:=fun x hx=>hr x (by simp [hx])
   have hdl:(Qix (Qix left e.1.toNat) e.2.toNat).length=N:=by simp [Qix,hl]
   have hget:∀ v,v < N→(Qix (Qix left e.1.toNat) e.2.toNat).getD v 0=left.getD v 0 - inc v e:=fun v hv=>by
    rw [Qo0 (by simp [Qix];omega),Qo0 (by omega),inc]
    have c1:(e.1.toNat=v)=(e.1=(v:Int)):=by rw [eq_iff_iff];omega
    have c2:(e.2.toNat=v)=(e.2=(v:Int)):=by rw [eq_iff_iff];omega
    simp only [c1,c2];omega
   rw [subs,List.mem_append]
   constructor
   · rintro (h | h)
     · split at h
       rotate_left
       · simp at h
       obtain ⟨s,hs,rfl,hd⟩:=(Qgr r _ _ g hr' hdl).1 h
       refine ⟨e::s,hs.cons_cons e,by simp,fun v hv=>?_⟩
       have h1:=hd v hv
       rw [hget v hv] at h1
       rw [deg,Qic]
       have h2:S s (inc v)=left.getD v 0 - inc v e:=h1
       rw [h2];omega
     · obtain ⟨s,hs,rfl,hd⟩:=(Qgr r _ _ g hr' hl).1 h
       exact ⟨s,hs.cons e,rfl,hd⟩
   · rintro ⟨s,hs,rfl,hd⟩
     rcases List.sublist_cons_iff.1 hs with hs2 | ⟨s',rfl,hs2⟩
     · exact .inr ((Qgr r _ _ _ hr' hl).2 ⟨s,hs2,rfl,hd⟩)
     · refine .inl ?_
       have hd':∀ v,v < N→inc v e+deg s' v=left.getD v 0:=fun v hv=>by
        rw [← hd v hv,deg,deg,Qic]
       have pos:∀ x:Int,0≤x→x < N→(e.1=x ∨ e.2=x)→0 < left.getD x.toNat 0:=fun x h0 h1 h2=>by
        have h3:=hd' x.toNat (by omega)
        have h4:0≤deg s' x.toNat:=Jbo fun y _=>Qs8 _ y
        have h5:1≤inc x.toNat e:=by
         simp only [inc,show ((x.toNat:Nat):Int)=x by omega]
         rcases h2 with h2 | h2
         · rw [if_pos h2];split <;> decide
         · rw [if_pos h2];split <;> decide
        omega
       rw [if_pos ⟨pos e.1 (by omega) (by omega) (.inl rfl),pos e.2 (by omega) (by omega) (.inr rfl)⟩]
       refine (Qgr r _ _ _ hr' hdl).2 ⟨s',hs2,by simp,fun v hv=>?_⟩
       rw [hget v hv,← hd' v hv];omega
def mk (u v:Nat):Int×Int:=(min (u:Int) v,max (u:Int) v)
theorem Qle {n u v:Nat} (hu:u < n) (hv:v < n) (h:u ≠ v):mk u v ∈ prs n:=Qay.2 (by simp only [mk];omega)
end Go.Idl
namespace Go.Idl
theorem Qqr {e:Int×Int}:∀ {es:List (Int×Int)},PW es→e ∉ es→PW (Qkr e es)
 | [],_,_=>by simp [Qkr,PW]
 | x::r,h,hn=>by
   have h':=List.pairwise_cons.1 h
   rw [Qkr]
   split
   · rename_i hx
     refine List.pairwise_cons.2 ⟨fun y hy=>?_,Qqr h'.2 fun hm=>hn (by simp [hm])⟩
     rcases (Qja _ _ _).1 hy with rfl | hy
     · exact hx
     · exact h'.1 y hy
   · rename_i hx
     have hxe:Qao e x=true:=by
      rcases Qb2 (a:=e) (b:=x) (fun h=>hn (by simp [h])) with q | q
      · exact q
      · exact absurd q hx
     refine List.pairwise_cons.2 ⟨fun y hy=>?_,h⟩
     rcases List.mem_cons.1 hy with rfl | hy
     · exact hxe
     · exact Qds hxe (h'.1 y hy)
end Go.Idl
namespace Go.Idl
theorem Qea {es:List (Int×Int)} {a b c d:Int} {e:Int×Int}:e ∈ sw es a b c d ↔ (e ∈ es∧e ≠ (min a b,max a b)∧e ≠ (min c d,max c d)) ∨ e=(min a c,max a c) ∨ e=(min b d,max b d):=by
 rw [sw,(Qfa _).mem_iff,swX,List.mem_append,List.mem_filter]
 simp only [Qum,Bool.not_eq_true',Bool.or_eq_false_iff,decide_eq_false_iff_not,List.mem_cons,List.not_mem_nil,or_false,ne_eq]
theorem Jcj {n:Nat} {es:List (Int×Int)} (h:∀ e ∈ es,e ∈ prs n) (a b:Int):has es a b=Qi9 es a b:=by
 rw [Bool.eq_iff_iff,Qi5,has,List.any_eq_true]
 constructor
 · rintro ⟨e,he,hi⟩
   have hp:=Qay.1 (h e he)
   simp only [isE,Bool.or_eq_true,Qba,decide_eq_true_eq] at hi
   have h2:e=(min a b,max a b):=Prod.ext (by simp only;omega) (by simp only;omega)
   rw [← h2];exact he
 · intro hm
   refine ⟨_,hm,?_⟩
   simp only [isE,Bool.or_eq_true,Qba,decide_eq_true_eq]
   omega
theorem Qv0 {n:Nat} {es:List (Int×Int)} (h:Qac n es=true) (a b c d:Int):Qpm es a b c d=Qdc es a b c d:=by
 have hin:=(Qaz.1 h).2.1
 rw [Bool.eq_iff_iff,Qbz]
 simp only [Qpm,Jcj hin,Qba,decide_eq_true_eq,Bool.not_eq_true',Qi5,Qwr,and_assoc]
 constructor
 · rintro ⟨h1,h2,h3,h4,m1,m2,m3,m4⟩
   have p1:=Qay.1 (hin _ m1)
   have p2:=Qay.1 (hin _ m2)
   simp only at p1 p2
   exact ⟨by omega,h1,h3,fun h=>h4 h,h2,by omega,m1,m2,m3,m4⟩
 · rintro ⟨h1,h2,h3,h4,h5,h6,m1,m2,m3,m4⟩
   exact ⟨h2,h5,h3,h4,m1,m2,m3,m4⟩
theorem Qp7 {a b c d:Int} (h:a ≠ b∧a ≠ c∧a ≠ d∧b ≠ c∧b ≠ d∧c ≠ d) :
 ((min a b,max a b):Int×Int) ≠ (min c d,max c d)∧((min a b,max a b):Int×Int) ≠ (min a c,max a c)∧((min a b,max a b):Int×Int) ≠ (min b d,max b d) ∧
 ((min c d,max c d):Int×Int) ≠ (min a c,max a c)∧((min c d,max c d):Int×Int) ≠ (min b d,max b d)∧((min a c,max a c):Int×Int) ≠ (min b d,max b d):=by
 simp only [ne_eq,Qpi]
 omega
theorem Jng {n:Nat} {es:List (Int×Int)} {a b c d:Int} (h:Qac n es=true) (hm:Qdc es a b c d=true):swS es a b c d=sw es a b c d:=by
 obtain ⟨h1,h2,h3⟩:=Qaz.1 h
 obtain ⟨hd,m1,m2,m3,m4⟩:=Qbz.1 hm
 have f4:=Qp7 hd
 have hs1:PW (Qcq c d (Qcq a b es)):=(h1.filter _).filter _
 have hs2:∀ e,e ∈ Qcq c d (Qcq a b es) ↔ e ∈ es∧e ≠ (min a b,max a b)∧e ≠ (min c d,max c d):=fun e=>by
  simp only [Qcq,List.mem_filter,Qsz,Bool.not_eq_true',Bool.and_eq_false_imp,decide_eq_true_eq,decide_eq_false_iff_not,and_assoc,ne_eq,Prod.ext_iff,not_and]
 have n1:((min a c,max a c):Int×Int) ∉ Qcq c d (Qcq a b es):=fun hh=>m3 ((hs2 _).1 hh).1
 have n2:((min b d,max b d):Int×Int) ∉ Qkr (min a c,max a c) (Qcq c d (Qcq a b es)):=fun hh=>by
  rcases (Qja _ _ _).1 hh with hh | hh
  · exact f4.2.2.2.2.2 hh.symm
  · exact m4 ((hs2 _).1 hh).1
 refine Qif (Qqr (Qqr hs1 n1) n2) (Qmn (Qcw h hm).1) fun e=>?_
 show e ∈ Qkr _ _ ↔ e ∈ sw es a b c d
 rw [Qja,Qja,hs2,Qea]
 constructor
 · rintro (h | h | h)
   · exact .inr (.inr h)
   · exact .inr (.inl h)
   · exact .inl h
 · rintro (h | h | h)
   · exact .inr (.inr h)
   · exact .inr (.inl h)
   · exact .inl h
theorem Jo6 (v:Nat) (a c:Int):inc v (min a c,max a c)=(if a=v then 1 else 0)+(if c=v then 1 else 0):=by
 rcases Int.le_total a c with h | h
 · rw [inc,Int.min_eq_left h,Int.max_eq_right h]
 · rw [inc,Int.min_eq_right h,Int.max_eq_left h,Int.add_comm]
theorem Jpl {n:Nat} {es:List (Int×Int)} {a b c d:Int} (h:Qac n es=true) (hm:Qdc es a b c d=true) (v:Nat):deg (sw es a b c d) v=deg es v:=by
 obtain ⟨h1,h2,h3⟩:=Qaz.1 h
 obtain ⟨hd,m1,m2,m3,m4⟩:=Qbz.1 hm
 have f4:=Qp7 hd
 have hp:(es.filter (Qum a b c d)).Perm [(min a b,max a b),(min c d,max c d)]:=by
  refine (List.perm_ext_iff_of_nodup ((Qgf h1).filter _) (by simpa using f4.1)).2 fun e=>?_
  simp only [List.mem_filter,Qum,Bool.or_eq_true,decide_eq_true_eq,List.mem_cons,List.not_mem_nil,or_false]
  constructor
  · exact fun h=>h.2
  · rintro (rfl | rfl)
    · exact ⟨m1,.inl rfl⟩
    · exact ⟨m2,.inr rfl⟩
 have e1:=Jbp es (Qum a b c d) (inc v)
 have e2:=Jd9 hp (inc v)
 have e3:=Jd9 (Qfa (swX es a b c d)) (inc v)
 rw [deg,deg,sw,e3,swX,Jyx,← e1,e2]
 simp only [S,List.map_cons,List.map_nil,List.sum_cons,List.sum_nil,Jo6]
 omega
theorem Qvj {n:Nat} {es:List (Int×Int)} {a b c d:Int} (h:Qac n es=true) (hm:Qdc es a b c d=true):Qco n (sw es a b c d)=Qco n es:=by
 have i1:Qh6 n es:=fun e he=>by have:=Qay.1 ((Qaz.1 h).2.1 e he);omega
 have i2:Qh6 n (sw es a b c d):=fun e he=>by have:=Qay.1 ((Qaz.1 (Qcw h hm).2.2.1).2.1 e he);omega
 rw [Qhn i1,Qhn i2]
 exact List.map_congr_left fun v _=>Jpl h hm v
theorem Jgg {n:Nat} {es:List (Int×Int)} {a b c d:Int} (h:Qac n es=true) (hm:Qdc es a b c d=true) :
 Qdc (sw es a b c d) a c b d=true∧sw (sw es a b c d) a c b d=es:=by
 obtain ⟨h1,h2,h3⟩:=Qaz.1 h
 obtain ⟨hd,m1,m2,m3,m4⟩:=Qbz.1 hm
 have f4:=Qp7 hd
 have hm':Qdc (sw es a b c d) a c b d=true:=by
  refine Qbz.2 ⟨by omega,Qea.2 (.inr (.inl rfl)),Qea.2 (.inr (.inr rfl)),fun hh=>?_,fun hh=>?_⟩
  · rcases Qea.1 hh with hh | hh | hh
    · exact hh.2.1 rfl
    · exact f4.2.1 hh
    · exact f4.2.2.1 hh
  · rcases Qea.1 hh with hh | hh | hh
    · exact hh.2.2 rfl
    · exact f4.2.2.2.1 hh
    · exact f4.2.2.2.2.1 hh
 refine ⟨hm',Qif (Qmn (Qcw (Qcw h hm).2.2.1 hm').1) h1 fun e=>?_⟩
 show e ∈ sw (sw es a b c d) a c b d ↔ _
 rw [Qea,Qea]
 constructor
 · rintro (⟨(h | h),k1,k2⟩ | h | h)
   · exact h.1
   · rcases h with h | h
     · exact absurd h k1
     · exact absurd h k2
   · rw [h];exact m1
   · rw [h];exact m2
 · intro he
   by_cases k1:e=(min a b,max a b)
   · exact .inr (.inl k1)
   by_cases k2:e=(min c d,max c d)
   · exact .inr (.inr k2)
   exact .inl ⟨.inl ⟨he,k1,k2⟩,fun h=>m3 (h ▸ he),fun h=>m4 (h ▸ he)⟩
end Go.Idl
namespace Go.Idl
open Go
def nl4:List Q4→IV
 | []=>Z
 | x::r=>O4 (x::r)
theorem Jka (acc:List Q4) (x:Q4):nl4 (acc++[x])=O4 (acc++[x]):=by cases acc <;> rfl
abbrev Que (es:List (Int×Int)) (s:Q4):Bool:=Qdc es s.1 s.2.1 s.2.2.1 s.2.2.2
set_option maxHeartbeats 4000000 in
theorem gs_in (n:Nat) (es:List (Int×Int)) (c:Bool) (hv:Qac n es=true) (kb N i k:Nat) (zs:List (Int×Int)) (c2:Bool) (qs:List Q4) (hq:qs.length≤100):∀ (m j:Nat) (acc:List Q4) (B:Qae),j+m=qs.length→acc.length+m≤4000000 →
 wp tb (.loop Qm5) { T:=[(1,.bptr 0 0 0),(3,nl4 acc),(5,.bptr 0 kb 0),(13,L2 es c),(14,I N),(15,I i),(24,L2 zs c2),(25,I zs.length),(26,I k),(48,O4 qs),(49,I qs.length),(50,I j)],loc:=[I n,L2 es c]::B,M:=[] }
  (fun ex st=>ex=.exit 4∧∃ D,st={ T:=[(1,.bptr 0 0 0),(3,nl4 (acc++(qs.drop j).filter (Que es))),(5,.bptr 0 kb 0),(13,L2 es c),(14,I N),(15,I i),(24,L2 zs c2),(25,I zs.length),(26,I k),(48,O4 qs),(49,I qs.length),(50,I qs.length),(51,Bo false)],loc:=[I n,L2 es c]::(B++D),M:=[] }):=by
 intro m
 induction m with
 | zero =>
   intro j acc B hj ha
   have h3:j=qs.length:=hj
   subst h3
   rw [List.drop_length,List.filter_nil,List.append_nil]
   cases acc with
   | nil =>
     simp only [nl4]
     refine wW ?_
     repeat (first|apply wA|apply wS|refine wr (by simp;with_reducible rfl) ?_|refine wq (by simp;with_reducible rfl) ?_|refine wt (by simpa) ?_|refine wf (by simpa) ?_|refine xt (by simpa) ?_|refine xf (by simpa) ?_|apply wB|apply Qaa|refine wX ?_|refine wY ?_|refine wR ?_|refine wK ?_|refine wE ?_)
     exact ⟨rfl,[],by simp⟩
   | cons s r =>
     simp only [nl4]
     refine wW ?_
     repeat (first|apply wA|apply wS|refine wr (by simp;with_reducible rfl) ?_|refine wq (by simp;with_reducible rfl) ?_|refine wt (by simpa) ?_|refine wf (by simpa) ?_|refine xt (by simpa) ?_|refine xf (by simpa) ?_|apply wB|apply Qaa|refine wX ?_|refine wY ?_|refine wR ?_|refine wK ?_|refine wE ?_)
     exact ⟨rfl,[],by simp⟩
 | succ m ih =>
   intro j acc B hj ha
   have hj2:j < qs.length:=by omega
   have hd:qs.drop j=qs[j]::qs.drop (j+1):=List.drop_eq_getElem_cons hj2
   obtain ⟨⟨a,b,x,y⟩,hx⟩:∃ s,s=qs[j]:=⟨_,rfl⟩
   have hx2:=hx.symm
   have w1:IntKind.i64.wrap ((j:Int)+1)=((j+1:Nat):Int):=Qbe (by omega)
   have e1:=fun cc=>Qab (Qkh n es cc a b x y hv)
   have hl1:acc.length+1≤274877906944:=by omega
   rw [hd,← hx,List.filter_cons]
   cases hm:Qdc es a b x y with
   | false =>
     simp only [OS,hm,Bool.false_eq_true,if_false] at e1
     simp only [Que,hm,Bool.false_eq_true,if_false]
     have hn:=fun q=>ih (j+1) acc (B++q) (by omega) (by omega)
     have fin:∀ q:Qae,wp tb (.loop Qm5) { T:=[(1,.bptr 0 0 0),(3,nl4 acc),(5,.bptr 0 kb 0),(13,L2 es c),(14,I N),(15,I i),(24,L2 zs c2),(25,I zs.length),(26,I k),(48,O4 qs),(49,I qs.length),(50,I (j+1:Nat))],loc:=[I n,L2 es c]::(B++q),M:=[] }
      (fun ex st=>ex=.exit 4∧∃ D,st={ T:=[(1,.bptr 0 0 0),(3,nl4 (acc++(qs.drop (j+1)).filter (Que es))),(5,.bptr 0 kb 0),(13,L2 es c),(14,I N),(15,I i),(24,L2 zs c2),(25,I zs.length),(26,I k),(48,O4 qs),(49,I qs.length),(50,I qs.length),(51,Bo false)],loc:=[I n,L2 es c]::(B++D),M:=[] }):=fun q=>by
      refine Qal (hn q) ?_
      rintro ex st ⟨rfl,D,rfl⟩
      exact ⟨rfl,q++D,by simp⟩
     cases acc with
     | nil =>
       simp only [nl4] at fin ⊢
       refine wW ?_
       repeat (first|apply wA|apply wS|refine wr (by simp [hj2,hx2,w1,e1];with_reducible rfl) ?_|refine wq (by simp [hj2,hx2,w1,e1];with_reducible rfl) ?_|refine wt (by simpa [hj2,hx2,w1,e1]) ?_|refine wf (by simpa [hj2,hx2,w1,e1]) ?_|refine xt (by simpa [hj2,hx2,w1,e1]) ?_|refine xf (by simpa [hj2,hx2,w1,e1]) ?_|apply wB|apply Qaa|refine wX ?_|refine wY ?_|refine wR ?_|refine wK ?_|refine wE ?_)
       exact fin _
     | cons s r =>
       simp only [nl4] at fin ⊢
       refine wW ?_
       repeat (first|apply wA|apply wS|refine wr (by simp [hj2,hx2,w1,e1];with_reducible rfl) ?_|refine wq (by simp [hj2,hx2,w1,e1];with_reducible rfl) ?_|refine wt (by simpa [hj2,hx2,w1,e1]) ?_|refine wf (by simpa [hj2,hx2,w1,e1]) ?_|refine xt (by simpa [hj2,hx2,w1,e1]) ?_|refine xf (by simpa [hj2,hx2,w1,e1]) ?_|apply wB|apply Qaa|refine wX ?_|refine wY ?_|refine wR ?_|refine wK ?_|refine wE ?_)
       exact fin _
   | true =>
     simp only [OS,hm,if_true] at e1
     simp only [Que,hm,if_true]
     generalize sw es a b x y=R at *
     have hn:=fun q=>ih (j+1) (acc++[(a,b,x,y)]) (B++q) (by omega) (by simp;omega)
     have fin:∀ q:Qae,wp tb (.loop Qm5) { T:=[(1,.bptr 0 0 0),(3,O4 (acc++[(a,b,x,y)])),(5,.bptr 0 kb 0),(13,L2 es c),(14,I N),(15,I i),(24,L2 zs c2),(25,I zs.length),(26,I k),(48,O4 qs),(49,I qs.length),(50,I (j+1:Nat))],loc:=[I n,L2 es c]::(B++q),M:=[] }
      (fun ex st=>ex=.exit 4∧∃ D,st={ T:=[(1,.bptr 0 0 0),(3,nl4 (acc++(a,b,x,y)::(qs.drop (j+1)).filter (Que es))),(5,.bptr 0 kb 0),(13,L2 es c),(14,I N),(15,I i),(24,L2 zs c2),(25,I zs.length),(26,I k),(48,O4 qs),(49,I qs.length),(50,I qs.length),(51,Bo false)],loc:=[I n,L2 es c]::(B++D),M:=[] }):=fun q=>by
      have hn:=hn q
      rw [Jka] at hn
      refine Qal hn ?_
      rintro ex st ⟨rfl,D,rfl⟩
      exact ⟨rfl,q++D,by simp⟩
     cases acc with
     | nil =>
       simp only [nl4] at fin ⊢
       refine wW ?_
       repeat (first|apply wA|apply wS|refine wr (by simp [hj2,hx2,w1,e1];with_reducible rfl) ?_|refine wq (by simp [hj2,hx2,w1,e1];with_reducible rfl) ?_|refine wt (by simpa [hj2,hx2,w1,e1]) ?_|refine wf (by simpa [hj2,hx2,w1,e1]) ?_|refine xt (by simpa [hj2,hx2,w1,e1]) ?_|refine xf (by simpa [hj2,hx2,w1,e1]) ?_|apply wB|apply Qaa|refine wX ?_|refine wY ?_|refine wR ?_|refine wK ?_|refine wE ?_)
       exact fin _
     | cons s r =>
       have hT2:List.take (s::r).length (s::r)=s::r:=List.take_of_length_le (Nat.le_refl _)
       simp only [List.length_cons] at hl1 hT2
       generalize hacc:s::r=acc at *
       have hlen:r.length+1=acc.length:=by rw [← hacc];rfl
       rw [hlen] at hl1 hT2
       have hnl:nl4 acc=O4 acc:=by rw [← hacc];rfl
       rw [hnl] at *
       refine wW ?_
       repeat (first|apply wA|apply wS|refine wr (by simp [hj2,hx2,w1,e1,hl1,hT2];with_reducible rfl) ?_|refine wq (by simp [hj2,hx2,w1,e1,hl1,hT2];with_reducible rfl) ?_|refine wt (by simpa [hj2,hx2,w1,e1,hl1,hT2]) ?_|refine wf (by simpa [hj2,hx2,w1,e1,hl1,hT2]) ?_|refine xt (by simpa [hj2,hx2,w1,e1,hl1,hT2]) ?_|refine xf (by simpa [hj2,hx2,w1,e1,hl1,hT2]) ?_|apply wB|apply Qaa|refine wX ?_|refine wY ?_|refine wR ?_|refine wK ?_|refine wE ?_)
       exact fin _
set_option maxHeartbeats 4000000 in
theorem Jqx (n:Nat) (es:List (Int×Int)) (c:Bool) (hv:Qac n es=true) (kb N i:Nat) (e:Int×Int) (zs:List (Int×Int)) (c2:Bool) (hz:zs.length≤100):∀ (m k:Nat) (acc:List Q4) (B:Qae),k+m=zs.length→acc.length+2 * m≤3000000→B[kb]? = some [I e.1,I e.2] →
 wp tb (.loop Qqw) { T:=[(1,.bptr 0 0 0),(3,nl4 acc),(5,.bptr 0 (kb+1) 0),(13,L2 es c),(14,I N),(15,I i),(24,L2 zs c2),(25,I zs.length),(26,I k)],loc:=[I n,L2 es c]::B,M:=[] }
  (fun ex st=>ex=.exit 2∧∃ D,st={ T:=[(1,.bptr 0 0 0),(3,nl4 (acc++(zs.drop k).flatMap fun f=>[(e.1,e.2,f.1,f.2),(e.1,e.2,f.2,f.1)].filter (Que es))),(5,.bptr 0 (kb+1) 0),(13,L2 es c),(14,I N),(15,I i),(24,L2 zs c2),(25,I zs.length),(26,I zs.length),(27,Bo false)],loc:=[I n,L2 es c]::(B++D),M:=[] }):=by
 intro m
 induction m with
 | zero =>
   intro k acc B hk ha hB
   have h3:k=zs.length:=hk
   subst h3
   rw [List.drop_length,List.flatMap_nil,List.append_nil]
   cases acc with
   | nil =>
     simp only [nl4]
     refine wW ?_
     repeat (first|apply wA|apply wS|refine wr (by simp;with_reducible rfl) ?_|refine wq (by simp;with_reducible rfl) ?_|refine wt (by simpa) ?_|refine wf (by simpa) ?_|refine xt (by simpa) ?_|refine xf (by simpa) ?_|apply wB|apply Qaa|refine wX ?_|refine wY ?_|refine wR ?_|refine wK ?_|refine wE ?_)
     exact ⟨rfl,[],by simp⟩
   | cons s r =>
     simp only [nl4]
     refine wW ?_
     repeat (first|apply wA|apply wS|refine wr (by simp;with_reducible rfl) ?_|refine wq (by simp;with_reducible rfl) ?_|refine wt (by simpa) ?_|refine wf (by simpa) ?_|refine xt (by simpa) ?_|refine xf (by simpa) ?_|apply wB|apply Qaa|refine wX ?_|refine wY ?_|refine wR ?_|refine wK ?_|refine wE ?_)
     exact ⟨rfl,[],by simp⟩
 | succ m ih =>
   intro k acc B hk ha hB
   have hk2:k < zs.length:=by omega
   have hd:zs.drop k=zs[k]::zs.drop (k+1):=List.drop_eq_getElem_cons hk2
   obtain ⟨⟨x,y⟩,hx⟩:∃ s,s=zs[k]:=⟨_,rfl⟩
   have hx2:=hx.symm
   obtain ⟨a,b⟩:=e
   have w1:IntKind.i64.wrap ((k:Int)+1)=((k+1:Nat):Int):=Qbe (by omega)
   have hkB:kb < B.length:=(List.getElem?_eq_some_iff.1 hB).1
   have hB2:∀ q,(B++q)[kb]? = some [I a,I b]:=fun q=>by rw [List.getElem?_append_left hkB,hB]
   have hF:([(a,b,x,y),(a,b,y,x)].filter (Que es)).length≤2:=List.length_filter_le _ _
   have inner:=fun q=>gs_in n es c hv (kb+1) N i k zs c2 [(a,b,x,y),(a,b,y,x)] (by simp) 2 0 acc (B++q) rfl (by omega)
   rw [hd,← hx,List.flatMap_cons]
   simp only [List.drop_zero] at inner
   have hn:=fun D=>ih (k+1) (acc++[(a,b,x,y),(a,b,y,x)].filter (Que es)) (B++D) (by omega) (by rw [List.length_append];omega) (hB2 D)
   generalize [(a,b,x,y),(a,b,y,x)].filter (Que es)=F at *
   have fin:∀ D:Qae,wp tb (.loop Qqw) { T:=[(1,.bptr 0 0 0),(3,nl4 (acc++F)),(5,.bptr 0 (kb+1) 0),(13,L2 es c),(14,I N),(15,I i),(24,L2 zs c2),(25,I zs.length),(26,I (k+1:Nat))],loc:=[I n,L2 es c]::(B++D),M:=[] }
    (fun ex st=>ex=.exit 2∧∃ D,st={ T:=[(1,.bptr 0 0 0),(3,nl4 (acc++(F++(zs.drop (k+1)).flatMap fun f=>[(a,b,f.1,f.2),(a,b,f.2,f.1)].filter (Que es)))),(5,.bptr 0 (kb+1) 0),(13,L2 es c),(14,I N),(15,I i),(24,L2 zs c2),(25,I zs.length),(26,I zs.length),(27,Bo false)],loc:=[I n,L2 es c]::(B++D),M:=[] }):=fun D=>by
    refine Qal (hn D) ?_
    rintro ex st ⟨rfl,D',rfl⟩
    exact ⟨rfl,D++D',by simp⟩
   simp only [O4,sws,List.map_cons,List.map_nil,List.length_cons,List.length_nil,Nat.zero_add,Nat.reduceAdd,show ((2:Nat):Int)=2 from rfl,show ((0:Nat):Int)=0 from rfl] at inner
   have back:∀ G:List Q4,nl4 G=Z∧G=[] ∨ nl4 G=O4 G:=fun G=>by cases G <;> simp [nl4]
   rcases back acc with ⟨hb,-⟩ | hb
   · rw [hb] at inner ⊢
     refine wW ?_
     repeat (first|apply wA|apply wS|refine wr (by simp [hk2,hx2,hB,hB2];with_reducible rfl) ?_|refine wq (by simp [hk2,hx2,hB,hB2];with_reducible rfl) ?_|refine wt (by simpa [hk2,hx2,hB,hB2]) ?_|refine wf (by simpa [hk2,hx2,hB,hB2]) ?_|refine xt (by simpa [hk2,hx2,hB,hB2]) ?_|refine xf (by simpa [hk2,hx2,hB,hB2]) ?_|apply wB|apply Qaa|refine wX ?_|refine wY ?_|refine wR ?_|refine wK ?_|refine wE ?_)
     refine Qal (inner _) ?_
     rintro ex st ⟨rfl,D,rfl⟩
     simp only [if_true]
     rw [List.append_assoc]
     rcases back (acc++F) with ⟨h,-⟩ | h
     · rw [h] at fin ⊢
       repeat (first|apply wA|apply wS|refine wr (by simp [w1];with_reducible rfl) ?_|refine wq (by simp [w1];with_reducible rfl) ?_|refine wt (by simpa [w1]) ?_|refine wf (by simpa [w1]) ?_|refine xt (by simpa [w1]) ?_|refine xf (by simpa [w1]) ?_|apply wB|apply Qaa|refine wX ?_|refine wY ?_|refine wR ?_|refine wK ?_|refine wE ?_)
       exact fin _
     · rw [h] at fin ⊢
       repeat (first|apply wA|apply wS|refine wr (by simp [w1];with_reducible rfl) ?_|refine wq (by simp [w1];with_reducible rfl) ?_|refine wt (by simpa [w1]) ?_|refine wf (by simpa [w1]) ?_|refine xt (by simpa [w1]) ?_|refine xf (by simpa [w1]) ?_|apply wB|apply Qaa|refine wX ?_|refine wY ?_|refine wR ?_|refine wK ?_|refine wE ?_)
       exact fin _
   · rw [hb] at inner ⊢
     refine wW ?_
     repeat (first|apply wA|apply wS|refine wr (by simp [hk2,hx2,hB,hB2];with_reducible rfl) ?_|refine wq (by simp [hk2,hx2,hB,hB2];with_reducible rfl) ?_|refine wt (by simpa [hk2,hx2,hB,hB2]) ?_|refine wf (by simpa [hk2,hx2,hB,hB2]) ?_|refine xt (by simpa [hk2,hx2,hB,hB2]) ?_|refine xf (by simpa [hk2,hx2,hB,hB2]) ?_|apply wB|apply Qaa|refine wX ?_|refine wY ?_|refine wR ?_|refine wK ?_|refine wE ?_)
     refine Qal (inner _) ?_
     rintro ex st ⟨rfl,D,rfl⟩
     simp only [if_true]
     rw [List.append_assoc]
     rcases back (acc++F) with ⟨h,-⟩ | h
     · rw [h] at fin ⊢
       repeat (first|apply wA|apply wS|refine wr (by simp [w1];with_reducible rfl) ?_|refine wq (by simp [w1];with_reducible rfl) ?_|refine wt (by simpa [w1]) ?_|refine wf (by simpa [w1]) ?_|refine xt (by simpa [w1]) ?_|refine xf (by simpa [w1]) ?_|apply wB|apply Qaa|refine wX ?_|refine wY ?_|refine wR ?_|refine wK ?_|refine wE ?_)
       exact fin _
     · rw [h] at fin ⊢
       repeat (first|apply wA|apply wS|refine wr (by simp [w1];with_reducible rfl) ?_|refine wq (by simp [w1];with_reducible rfl) ?_|refine wt (by simpa [w1]) ?_|refine wf (by simpa [w1]) ?_|refine xt (by simpa [w1]) ?_|refine xf (by simpa [w1]) ?_|apply wB|apply Qaa|refine wX ?_|refine wY ?_|refine wR ?_|refine wK ?_|refine wE ?_)
       exact fin _
theorem Qzl {n:Nat} {es:List (Int×Int)} (hv:Qac n es=true) (e f:Int×Int):[(e.1,e.2,f.1,f.2),(e.1,e.2,f.2,f.1)].filter (Que es)=Qng es e f:=by
 simp only [Qng,Qv0 hv,List.filter_cons,List.filter_nil,Que]
 split <;> split <;> simp_all
theorem Jcq {n:Nat} {es:List (Int×Int)} (hv:Qac n es=true) (e:Int×Int) (zs:List (Int×Int)):(zs.flatMap fun f=>[(e.1,e.2,f.1,f.2),(e.1,e.2,f.2,f.1)].filter (Que es))=zs.flatMap (Qng es e):=by
 congr 1
 funext f
 exact Qzl hv e f
set_option maxHeartbeats 4000000 in
theorem Jpa (n:Nat) (es:List (Int×Int)) (c:Bool) (hv:Qac n es=true):∀ (m i:Nat) (acc:List Q4) (B:Qae),i+m=es.length→acc.length+200 * m≤2000000 →
 wp tb (.loop Qxq) { T:=[(1,.bptr 0 0 0),(3,nl4 acc),(13,L2 es c),(14,I es.length),(15,I i)],loc:=[I n,L2 es c]::B,M:=[] }
  (fun ex st=>ex=.exit 0∧∃ D,st={ T:=[(1,.bptr 0 0 0),(3,nl4 (acc++swl es (es.drop i))),(13,L2 es c),(14,I es.length),(15,I es.length),(16,Bo false)],loc:=[I n,L2 es c]::D,M:=[] }):=by
 have hn7:=(Qaz.1 hv).2.2
 have h21:=Qkn hn7 hv
 have back:∀ G:List Q4,nl4 G=Z∧G=[] ∨ nl4 G=O4 G:=fun G=>by cases G <;> simp [nl4]
 intro m
 induction m with
 | zero =>
   intro i acc B hi ha
   have h3:i=es.length:=hi
   subst h3
   rw [List.drop_length,swl,List.append_nil]
   rcases back acc with ⟨h,-⟩ | h
   · rw [h]
     refine wW ?_
     repeat (first|apply wA|apply wS|refine wr (by simp;with_reducible rfl) ?_|refine wq (by simp;with_reducible rfl) ?_|refine wt (by simpa) ?_|refine wf (by simpa) ?_|refine xt (by simpa) ?_|refine xf (by simpa) ?_|apply wB|apply Qaa|refine wX ?_|refine wY ?_|refine wR ?_|refine wK ?_|refine wE ?_)
     exact ⟨rfl,_,rfl⟩
   · rw [h]
     refine wW ?_
     repeat (first|apply wA|apply wS|refine wr (by simp;with_reducible rfl) ?_|refine wq (by simp;with_reducible rfl) ?_|refine wt (by simpa) ?_|refine wf (by simpa) ?_|refine xt (by simpa) ?_|refine xf (by simpa) ?_|apply wB|apply Qaa|refine wX ?_|refine wY ?_|refine wR ?_|refine wK ?_|refine wE ?_)
     exact ⟨rfl,_,rfl⟩
 | succ m ih =>
   intro i acc B hi ha
   have hi2:i < es.length:=by omega
   have hd:es.drop i=es[i]::es.drop (i+1):=List.drop_eq_getElem_cons hi2
   obtain ⟨⟨a,b⟩,hx⟩:∃ s,s=es[i]:=⟨_,rfl⟩
   have hx2:=hx.symm
   have w1:IntKind.i64.wrap ((i:Int)+1)=((i+1:Nat):Int):=Qbe (by omega)
   have hzl:(es.drop (i+1)).length=es.length - (i+1):=List.length_drop
   have hrl:=Qgv es (a,b) (es.drop (i+1))
   have mid:=fun c2=>Jqx n es c hv (B.length) es.length i (a,b) (es.drop (i+1)) c2 (by omega) (es.drop (i+1)).length 0 acc (B++[[I a,I b]]) (by omega) (by omega) (by simp)
   have fr:=Jcq hv (a,b) (es.drop (i+1))
   simp only at fr
   simp only [List.drop_zero,fr,show ((0:Nat):Int)=0 from rfl] at mid
   rw [hd,← hx,swl]
   have hn:=fun D=>ih (i+1) (acc++(es.drop (i+1)).flatMap (Qng es (a,b))) D (by omega) (by rw [List.length_append];omega)
   generalize (es.drop (i+1)).flatMap (Qng es (a,b))=F at *
   simp only [List.append_assoc] at hn
   rw [hzl] at mid
   have hi3:i+1≤es.length:=by omega
   have hcast:((es.length - (i+1):Nat):Int)=(es.length:Int) - ((i:Int)+1):=by omega
   have htk:(es.drop (i+1)).take (es.length - (i+1))=es.drop (i+1):=List.take_of_length_le (by omega)
   rcases back acc with ⟨hb,-⟩ | hb
   · rw [hb] at mid ⊢
     refine wW ?_
     repeat (first|apply wA|apply wS|refine wr (by simp [hi2,hx2,w1,hi3,htk];with_reducible rfl) ?_|refine wq (by simp [hi2,hx2,w1,hi3,htk];with_reducible rfl) ?_|refine wt (by simpa [hi2,hx2,w1,hi3,htk]) ?_|refine wf (by simpa [hi2,hx2,w1,hi3,htk]) ?_|refine xt (by simpa [hi2,hx2,w1,hi3,htk]) ?_|refine xf (by simpa [hi2,hx2,w1,hi3,htk]) ?_|apply wB|apply Qaa|refine wX ?_|refine wY ?_|refine wR ?_|refine wK ?_|refine wE ?_)
     refine Qal (mid _) ?_
     rintro ex st ⟨rfl,D,rfl⟩
     simp only [if_true]
     rcases back (acc++F) with ⟨h,-⟩ | h
     · rw [h] at hn ⊢
       repeat (first|apply wA|apply wS|refine wr (by simp [w1];with_reducible rfl) ?_|refine wq (by simp [w1];with_reducible rfl) ?_|refine wt (by simpa [w1]) ?_|refine wf (by simpa [w1]) ?_|refine xt (by simpa [w1]) ?_|refine xf (by simpa [w1]) ?_|apply wB|apply Qaa|refine wX ?_|refine wY ?_|refine wR ?_|refine wK ?_|refine wE ?_)
       exact hn _
     · rw [h] at hn ⊢
       repeat (first|apply wA|apply wS|refine wr (by simp [w1];with_reducible rfl) ?_|refine wq (by simp [w1];with_reducible rfl) ?_|refine wt (by simpa [w1]) ?_|refine wf (by simpa [w1]) ?_|refine xt (by simpa [w1]) ?_|refine xf (by simpa [w1]) ?_|apply wB|apply Qaa|refine wX ?_|refine wY ?_|refine wR ?_|refine wK ?_|refine wE ?_)
       exact hn _
   · rw [hb] at mid ⊢
     refine wW ?_
     repeat (first|apply wA|apply wS|refine wr (by simp [hi2,hx2,w1,hi3,htk];with_reducible rfl) ?_|refine wq (by simp [hi2,hx2,w1,hi3,htk];with_reducible rfl) ?_|refine wt (by simpa [hi2,hx2,w1,hi3,htk]) ?_|refine wf (by simpa [hi2,hx2,w1,hi3,htk]) ?_|refine xt (by simpa [hi2,hx2,w1,hi3,htk]) ?_|refine xf (by simpa [hi2,hx2,w1,hi3,htk]) ?_|apply wB|apply Qaa|refine wX ?_|refine wY ?_|refine wR ?_|refine wK ?_|refine wE ?_)
     refine Qal (mid _) ?_
     rintro ex st ⟨rfl,D,rfl⟩
     simp only [if_true]
     rcases back (acc++F) with ⟨h,-⟩ | h
     · rw [h] at hn ⊢
       repeat (first|apply wA|apply wS|refine wr (by simp [w1];with_reducible rfl) ?_|refine wq (by simp [w1];with_reducible rfl) ?_|refine wt (by simpa [w1]) ?_|refine wf (by simpa [w1]) ?_|refine xt (by simpa [w1]) ?_|refine xf (by simpa [w1]) ?_|apply wB|apply Qaa|refine wX ?_|refine wY ?_|refine wR ?_|refine wK ?_|refine wE ?_)
       exact hn _
     · rw [h] at hn ⊢
       repeat (first|apply wA|apply wS|refine wr (by simp [w1];with_reducible rfl) ?_|refine wq (by simp [w1];with_reducible rfl) ?_|refine wt (by simpa [w1]) ?_|refine wf (by simpa [w1]) ?_|refine xt (by simpa [w1]) ?_|refine xf (by simpa [w1]) ?_|apply wB|apply Qaa|refine wX ?_|refine wY ?_|refine wR ?_|refine wK ?_|refine wE ?_)
       exact hn _
theorem Jcn (xs:List Q4):Ev tb Qqp [] [nl4 xs] [] ⟨nl4 xs,[],[],[]⟩:=by
 cases xs with
 | nil =>
   simp only [nl4]
   refine cW Jh6 rfl ?_
   repeat (first|apply wA|apply wS|refine wr (by simp;with_reducible rfl) ?_|refine wq (by simp;with_reducible rfl) ?_|refine wt (by simpa) ?_|refine wf (by simpa) ?_|refine xt (by simpa) ?_|refine xf (by simpa) ?_|apply wB|apply Qaa|refine wX ?_|refine wY ?_|refine wR ?_|refine wK ?_|refine wE ?_)
   simp [Qts]
 | cons s r =>
   simp only [nl4]
   refine cW Jh6 rfl ?_
   repeat (first|apply wA|apply wS|refine wr (by simp;with_reducible rfl) ?_|refine wq (by simp;with_reducible rfl) ?_|refine wt (by simpa) ?_|refine wf (by simpa) ?_|refine xt (by simpa) ?_|refine xf (by simpa) ?_|apply wB|apply Qaa|refine wX ?_|refine wY ?_|refine wR ?_|refine wK ?_|refine wE ?_)
   simp [Qts]
theorem Qhr (n:Nat) (es:List (Int×Int)) (c:Bool) (hv:Qac n es=true) :
 Ev tb Qxa [] [Gr n es c] [] ⟨nl4 (swl es es),[],[],[]⟩:=by
 have hn7:=(Qaz.1 hv).2.2
 have h21:=Qkn hn7 hv
 have loop:=Jpa n es c hv es.length 0 [] [] (by omega) (by simp;omega)
 rw [show ((0:Nat):Int)=0 from rfl,List.drop_zero,List.nil_append,show nl4 []=Z from rfl] at loop
 have e1:=Qab (Jcn (swl es es))
 generalize swl es es=G at *
 cases G with
 | nil =>
   simp only [nl4] at loop e1 ⊢
   refine cW Juj rfl ?_
   repeat (first|apply wA|apply wS|refine wr (by simp;with_reducible rfl) ?_|refine wq (by simp;with_reducible rfl) ?_|refine wt (by simpa) ?_|refine wf (by simpa) ?_|refine xt (by simpa) ?_|refine xf (by simpa) ?_|apply wB|apply Qaa|refine wX ?_|refine wY ?_|refine wR ?_|refine wK ?_|refine wE ?_)
   refine Qal loop ?_
   rintro ex st ⟨rfl,D,rfl⟩
   simp only [if_true]
   repeat (first|apply wA|apply wS|refine wr (by simp [e1];with_reducible rfl) ?_|refine wq (by simp [e1];with_reducible rfl) ?_|refine wt (by simpa [e1]) ?_|refine wf (by simpa [e1]) ?_|refine xt (by simpa [e1]) ?_|refine xf (by simpa [e1]) ?_|apply wB|apply Qaa|refine wX ?_|refine wY ?_|refine wR ?_|refine wK ?_|refine wE ?_)
   simp [Qvq]
 | cons s r =>
   simp only [nl4] at loop e1 ⊢
   refine cW Juj rfl ?_
   repeat (first|apply wA|apply wS|refine wr (by simp;with_reducible rfl) ?_|refine wq (by simp;with_reducible rfl) ?_|refine wt (by simpa) ?_|refine wf (by simpa) ?_|refine xt (by simpa) ?_|refine xf (by simpa) ?_|apply wB|apply Qaa|refine wX ?_|refine wY ?_|refine wR ?_|refine wK ?_|refine wE ?_)
   refine Qal loop ?_
   rintro ex st ⟨rfl,D,rfl⟩
   simp only [if_true]
   repeat (first|apply wA|apply wS|refine wr (by simp [e1];with_reducible rfl) ?_|refine wq (by simp [e1];with_reducible rfl) ?_|refine wt (by simpa [e1]) ?_|refine wf (by simpa [e1]) ?_|refine xt (by simpa [e1]) ?_|refine xf (by simpa [e1]) ?_|apply wB|apply Qaa|refine wX ?_|refine wY ?_|refine wR ?_|refine wK ?_|refine wE ?_)
   simp [Qvq]
end Go.Idl
namespace Go.Idl
open Go
@[simp] theorem glf_get (n:Int) (R:GF) (i:Nat) (h:i < (glf n R).length):(glf n R)[i]=[IV.sc (.int .i64 n),.lst 2 (eds (R[i]'(by simpa [glf] using h)).1) (R[i]'(by simpa [glf] using h)).2]:=by simp [glf]
@[simp] theorem glf_get? (n:Int) (R:GF) (i:Nat):(glf n R)[i]? = R[i]?.map fun x=>[IV.sc (.int .i64 n),.lst 2 (eds x.1) x.2]:=by simp [glf]
@[simp] theorem frz_glf (n:Int) (R:GF):Qcf (glf n R)=glf n R:=by
  induction R with
  | nil=>rfl
  | cons x xs ih=>simp only [glf,List.map_cons,Qcf,Qc2,Qgc] at *;rw [ih]
@[simp] theorem frz_gls (n:Int) (gl:List (List (Int×Int))):Qcf (gls n gl)=glf n (gl.map fun es=>(es,false)):=by
  induction gl with
  | nil=>rfl
  | cons x xs ih=>simp only [gls,glf,List.map_cons,Qcf,Qc2,Qgc,Qzy] at *;rw [ih]
end Go.Idl
namespace Go.Idl
theorem Qrm {n:Nat} {s:List (Int×Int)} (hs:s.Sublist (prs n)) {d:List Int} (hl:d.length=n):(∀ v,v < n→deg s v=d.getD v 0) ↔ Qco n s=d:=by
 rw [Qhn (Jep hs)]
 constructor
 · intro h
   refine List.ext_getElem (by simp [hl]) fun v h1 h2=>?_
   rw [List.getElem_map,List.getElem_range,h v (by omega),List.getD_eq_getElem?_getD,List.getElem?_eq_getElem h2];rfl
 · intro h v hv
   rw [← h,List.getD_eq_getElem?_getD,List.getElem?_map,List.getElem?_range hv];rfl
theorem Qur {d:List Int} (h7:d.length≤7) (g:List (Int×Int)):g ∈ Jdl d ↔ Qac d.length g=true∧Qco d.length g=d:=by
 rw [Jdl,Qgr (N:=d.length) _ _ _ _ (fun e he=>Qay.1 he) rfl]
 constructor
 · rintro ⟨s,hs,rfl,hd⟩
   exact ⟨Qaz.2 ⟨(Qsk _).sublist hs,fun e he=>hs.mem he,h7⟩,(Qrm hs rfl).1 hd⟩
 · rintro ⟨h1,h2⟩
   exact ⟨g,Qn1 h1,rfl,(Qrm (Qn1 h1) rfl).2 h2⟩
end Go.Idl
namespace Go.Idl
def hv:Nat→List Int→Bool
 | 0,_=>true
 | _+1,[]=>true
 | m+1,x::r=>decide (x≤r.length) && (r.take x.toNat).all (fun y=>!decide (y=0)) && hv m (fall ((r.take x.toNat).map (fun y=>y - 1)++r.drop x.toNat))
end Go.Idl
namespace Go.Idl
theorem Qpq {α:Type} [DecidableEq α]:∀ {l k:List α},l.Nodup→(∀ x ∈ l,x ∈ k)→l.length≤k.length
 | [],_,_,_=>by simp
 | a::l,k,hn,hs=>by
   have hn':=List.nodup_cons.1 hn
   have h1:=Qpq (l:=l) (k:=k.erase a) hn'.2 (fun x hx=>(List.mem_erase_of_ne (fun h=>hn'.1 (by rw [← h];exact hx))).2 (hs x (by simp [hx])))
   have h2:=List.length_erase_of_mem (hs a (by simp))
   have h3:0 < k.length:=List.length_pos_of_mem (hs a (by simp))
   simp only [List.length_cons];omega
end Go.Idl
namespace Go.Idl
theorem Qrc {es:List (Int×Int)} {e f:Int×Int} {s:Q4}:s ∈ Qng es e f ↔ Qpm es s.1 s.2.1 s.2.2.1 s.2.2.2=true∧(s=(e.1,e.2,f.1,f.2) ∨ s=(e.1,e.2,f.2,f.1)):=by
 rw [Qng,List.mem_append]
 constructor
 · rintro (h | h)
   · split at h
     · rename_i hq
       rw [List.mem_singleton] at h
       subst h
       exact ⟨hq,.inl rfl⟩
     · cases h
   · split at h
     · rename_i hq
       rw [List.mem_singleton] at h
       subst h
       exact ⟨hq,.inr rfl⟩
     · cases h
 · rintro ⟨h,rfl | rfl⟩
   · left;rw [if_pos h];simp
   · right;rw [if_pos h];simp
theorem Qpn {es:List (Int×Int)} {s:Q4}:∀ {r:List (Int×Int)},s ∈ swl es r ↔ ∃ e f,[e,f].Sublist r∧s ∈ Qng es e f
 | []=>by
   rw [swl]
   constructor
   · intro h;cases h
   · rintro ⟨e,f,h,-⟩;cases h
 | x::r=>by
   rw [swl,List.mem_append,List.mem_flatMap,Qpn]
   constructor
   · rintro (⟨f,hf,h⟩ | ⟨e,f,h1,h2⟩)
     · exact ⟨x,f,(List.singleton_sublist.2 hf).cons₂ x,h⟩
     · exact ⟨e,f,h1.cons x,h2⟩
   · rintro ⟨e,f,h1,h2⟩
     rcases List.sublist_cons_iff.1 h1 with h | ⟨t,ht,h⟩
     · exact .inr ⟨e,f,h,h2⟩
     · cases ht
       exact .inl ⟨f,List.singleton_sublist.1 h,h2⟩
structure SwIn (n:Nat) (es:List (Int×Int)) (s:Q4):Prop where
 may:Qdc es s.1 s.2.1 s.2.2.1 s.2.2.2=true
 lt:s.1 < s.2.1
 bel:Qao (s.1,s.2.1) (min s.2.2.1 s.2.2.2,max s.2.2.1 s.2.2.2)=true
theorem Qnw {n:Nat} {es:List (Int×Int)} (h:Qac n es=true) {s:Q4} (hs:s ∈ swl es es):SwIn n es s:=by
 obtain ⟨e,f,h1,h2⟩:=Qpn.1 hs
 obtain ⟨h3,h4⟩:=Qrc.1 h2
 have hv:=Qaz.1 h
 have hp:PW [e,f]:=hv.1.sublist h1
 have he:=Qay.1 (hv.2.1 e (h1.subset (by simp)))
 have hf:=Qay.1 (hv.2.1 f (h1.subset (by simp)))
 have hb:Qao e f=true:=(List.pairwise_cons.1 hp).1 f (by simp)
 rw [Qv0 h] at h3
 rcases h4 with rfl | rfl
 · refine ⟨h3,by simp only;omega,?_⟩
   simp only
   rw [show min f.1 f.2=f.1 by omega,show max f.1 f.2=f.2 by omega]
   exact hb
 · refine ⟨h3,by simp only;omega,?_⟩
   simp only
   rw [show min f.2 f.1=f.1 by omega,show max f.2 f.1=f.2 by omega]
   exact hb
theorem Qr6 {es:List (Int×Int)} {a b c d:Int} (h:Qdc es a b c d=true):Qdc es b a d c=true:=by
 obtain ⟨⟨n1,n2,n3,n4,n5,n6⟩,i1,i2,i3,i4⟩:=Qbz.1 h
 exact Qbz.2 ⟨by omega,by rw [Int.min_comm,Int.max_comm];exact i1,by rw [Int.min_comm,Int.max_comm];exact i2,i4,i3⟩
theorem Qr5 {es:List (Int×Int)} {a b c d:Int} (h:Qdc es a b c d=true):Qdc es c d a b=true:=by
 obtain ⟨⟨n1,n2,n3,n4,n5,n6⟩,i1,i2,i3,i4⟩:=Qbz.1 h
 exact Qbz.2 ⟨by omega,i2,i1,by rw [Int.min_comm,Int.max_comm];exact i3,by rw [Int.min_comm,Int.max_comm];exact i4⟩
theorem Qrq {e f:Int×Int}:∀ {r:List (Int×Int)},PW r→e ∈ r→f ∈ r→Qao e f=true→[e,f].Sublist r
 | x::r,hp,he,hf,h=>by
   have hp':=List.pairwise_cons.1 hp
   rcases List.mem_cons.1 he with he1 | he1
   · rcases List.mem_cons.1 hf with hf1 | hf1
     · exact absurd (he1.trans hf1.symm) (Qhe h)
     · rw [he1];exact (List.singleton_sublist.2 hf1).cons₂ _
   · rcases List.mem_cons.1 hf with hf1 | hf1
     · have:=Qen (hp'.1 e he1);rw [← hf1,h] at this;cases this
     · exact (Qrq hp'.2 he1 hf1 h).cons x
end Go.Idl
namespace Go.Idl
open Go
@[simp] theorem Jky (xs:List Q4) (c:Bool):Qgc (IV.lst 4 (sws xs) c)=.lst 4 (sws xs) c:=rfl
theorem Qiv (xs:List Q4) (c1 c2:Bool) (hl:xs.length≤2000000):Ev tb Qqf [] [L4 xs c1,L4 xs c2] [] ⟨Bo true,[],[],[]⟩:=by
 have loop:∀ (m i:Nat),i+m=xs.length→wp tb (.loop Jeh) { T:=[(0,L4 xs c1),(1,L4 xs c2),(5,I i)],loc:=[],M:=[] }
  (fun ex st=>ex=.exit 0∧st={ T:=[(0,L4 xs c1),(1,L4 xs c2),(5,I xs.length),(14,Bo false)],loc:=[],M:=[] }):=by
  intro m
  induction m with
  | zero =>
    intro i hi
    have h3:i=xs.length:=hi
    subst h3
    refine wW ?_
    repeat (first|apply wA|apply wS|refine wr (by simp;with_reducible rfl) ?_|refine wq (by simp;with_reducible rfl) ?_|refine wt (by simpa) ?_|refine wf (by simpa) ?_|refine xt (by simpa) ?_|refine xf (by simpa) ?_|apply wB|apply Qaa|refine wX ?_|refine wY ?_|refine wR ?_|refine wK ?_|refine wE ?_)
    exact ⟨rfl,rfl⟩
  | succ m ih =>
    intro i hi
    have hi2:i < xs.length:=by omega
    have w1:IntKind.i64.wrap ((i:Int)+1)=((i+1:Nat):Int):=Qbe (by omega)
    obtain ⟨⟨a,b,x,y⟩,hx⟩:∃ s,s=xs[i]:=⟨_,rfl⟩
    have hx2:=hx.symm
    have hn:=ih (i+1) (by omega)
    refine wW ?_
    repeat (first|apply wA|apply wS|refine wr (by simp [hi2,hx2,w1];with_reducible rfl) ?_|refine wq (by simp [hi2,hx2,w1];with_reducible rfl) ?_|refine wt (by simpa [hi2,hx2,w1]) ?_|refine wf (by simpa [hi2,hx2,w1]) ?_|refine xt (by simpa [hi2,hx2,w1]) ?_|refine xf (by simpa [hi2,hx2,w1]) ?_|apply wB|apply Qaa|refine wX ?_|refine wY ?_|refine wR ?_|refine wK ?_|refine wE ?_)
    exact hn
 have loop:=loop xs.length 0 (by omega)
 rw [show ((0:Nat):Int)=0 from rfl] at loop
 refine cW Jo2 rfl ?_
 repeat (first|apply wA|apply wS|refine wr (by simp;with_reducible rfl) ?_|refine wq (by simp;with_reducible rfl) ?_|refine wt (by simpa) ?_|refine wf (by simpa) ?_|refine xt (by simpa) ?_|refine xf (by simpa) ?_|apply wB|apply Qaa|refine wX ?_|refine wY ?_|refine wR ?_|refine wK ?_|refine wE ?_)
 refine Qal loop ?_
 rintro ex st ⟨rfl,rfl⟩
 simp only [if_true]
 repeat (first|apply wA|apply wS|refine wr (by simp;with_reducible rfl) ?_|refine wq (by simp;with_reducible rfl) ?_|refine wt (by simpa) ?_|refine wf (by simpa) ?_|refine xt (by simpa) ?_|refine xf (by simpa) ?_|apply wB|apply Qaa|refine wX ?_|refine wY ?_|refine wR ?_|refine wK ?_|refine wE ?_)
 simp [Qzz]
end Go.Idl
namespace Go.Idl
open Go
@[simp] theorem Jzl (p:IV→Bool) (x:IV) (xs:List IV):(x::xs).findIdx? p=if p x then some 0 else (xs.findIdx? p).map (·+1):=List.findIdx?_cons
@[simp] theorem eds_rep (n:Nat):List.replicate n [IV.sc (.int .i64 0),IV.sc (.int .i64 0)]=eds (List.replicate n (0,0)):=by simp [eds]
end Go.Idl
namespace Go.Idl
open Go
@[simp] theorem sws_rep (n:Nat):List.replicate n [IV.sc (.int .i64 0),IV.sc (.int .i64 0),IV.sc (.int .i64 0),IV.sc (.int .i64 0)]=sws (List.replicate n (0,0,0,0)):=by simp [sws]
@[simp] theorem sws_set (xs:List Q4) (i:Nat) (a b c d:Int):(sws xs).set i [IV.sc (.int .i64 a),IV.sc (.int .i64 b),IV.sc (.int .i64 c),IV.sc (.int .i64 d)]=sws (xs.set i (a,b,c,d)):=by
  simp [sws,List.map_set]
end Go.Idl
namespace Go.Idl
open Go
theorem Qyf (e0 e1:Nat) (xs ys:List (Int×Int)) (c1 c2:Bool) (h0:e0=2 ∨ xs=[]) (h1:e1=2 ∨ ys=[]) (hl:xs.length≤2000000) (hl2:ys.length≤2000000) :
 Ev tb Qvw [] [.lst e0 (eds xs) c1,.lst e1 (eds ys) c2] [] ⟨Bo (decide (xs=ys)),[],[],[]⟩:=by
 by_cases hlen:xs.length=ys.length
 · have loop:∀ (m i:Nat),i+m=xs.length→wp tb (.loop Jea) { T:=[(0,.lst e0 (eds xs) c1),(1,.lst e1 (eds ys) c2),(12,I xs.length),(13,I i)],loc:=[],M:=[] }
    (fun ex st=>(ex=.exit 0∧xs.drop i=ys.drop i∧st={ T:=[(0,.lst e0 (eds xs) c1),(1,.lst e1 (eds ys) c2),(12,I xs.length),(13,I xs.length),(14,Bo false)],loc:=[],M:=[] }) ∨
      ex=.ret∧¬ xs.drop i=ys.drop i∧st={ T:=[(4,Bo false)],loc:=[],M:=[] }):=by
    intro m
    induction m with
    | zero =>
      intro i hi
      have h3:i=xs.length:=hi
      subst h3
      refine wW ?_
      repeat (first|apply wA|apply wS|refine wr (by simp;with_reducible rfl) ?_|refine wq (by simp;with_reducible rfl) ?_|refine wt (by simpa) ?_|refine wf (by simpa) ?_|refine xt (by simpa) ?_|refine xf (by simpa) ?_|apply wB|apply Qaa|refine wX ?_|refine wY ?_|refine wR ?_|refine wK ?_|refine wE ?_)
      refine .inl ⟨rfl,?_,rfl⟩
      rw [List.drop_eq_nil_of_le (Nat.le_refl _),List.drop_eq_nil_of_le (by omega)]
    | succ m ih =>
      intro i hi
      have hi2:i < xs.length:=by omega
      have hi3:i < ys.length:=by omega
      have he0:e0=2:=h0.resolve_right fun h=>by rw [h] at hi2;simp at hi2
      have he1:e1=2:=h1.resolve_right fun h=>by rw [h] at hi3;simp at hi3
      subst he0 he1
      have d1:xs.drop i=xs[i]::xs.drop (i+1):=List.drop_eq_getElem_cons hi2
      have d2:ys.drop i=ys[i]::ys.drop (i+1):=List.drop_eq_getElem_cons hi3
      have w1:IntKind.i64.wrap ((i:Int)+1)=((i+1:Nat):Int):=Qbe (by omega)
      obtain ⟨⟨a,b⟩,hx⟩:∃ e,e=xs[i]:=⟨_,rfl⟩
      obtain ⟨⟨c,d⟩,hy⟩:∃ e,e=ys[i]:=⟨_,rfl⟩
      have hx2:=hx.symm
      have hy2:=hy.symm
      have hg:=ih (i+1) (by omega)
      rw [d1,d2,hx2,hy2]
      by_cases hq:((a,b):Int×Int)=(c,d)
      · simp only [Qpi] at hq
        obtain ⟨rfl,rfl⟩:=hq
        refine wW ?_
        repeat (first|apply wA|apply wS|refine wr (by simp [hi2,hi3,hx2,hy2,w1];with_reducible rfl) ?_|refine wq (by simp [hi2,hi3,hx2,hy2,w1];with_reducible rfl) ?_|refine wt (by simpa [hi2,hi3,hx2,hy2,w1]) ?_|refine wf (by simpa [hi2,hi3,hx2,hy2,w1]) ?_|refine xt (by simpa [hi2,hi3,hx2,hy2,w1]) ?_|refine xf (by simpa [hi2,hi3,hx2,hy2,w1]) ?_|apply wB|apply Qaa|refine wX ?_|refine wY ?_|refine wR ?_|refine wK ?_|refine wE ?_)
        simp only [List.cons.injEq,true_and]
        exact hg
      · have hq2:a=c→¬ b=d:=fun h1 h2=>hq (by rw [h1,h2])
        refine wW ?_
        by_cases hac:a=c
        · have hbd:=hq2 hac
          subst hac
          repeat (first|apply wA|apply wS|refine wr (by simp [hi2,hi3,hx2,hy2,w1,hbd];with_reducible rfl) ?_|refine wq (by simp [hi2,hi3,hx2,hy2,w1,hbd];with_reducible rfl) ?_|refine wt (by simpa [hi2,hi3,hx2,hy2,w1,hbd]) ?_|refine wf (by simpa [hi2,hi3,hx2,hy2,w1,hbd]) ?_|refine xt (by simpa [hi2,hi3,hx2,hy2,w1,hbd]) ?_|refine xf (by simpa [hi2,hi3,hx2,hy2,w1,hbd]) ?_|apply wB|apply Qaa|refine wX ?_|refine wY ?_|refine wR ?_|refine wK ?_|refine wE ?_)
          refine .inr ⟨rfl,fun h=>?_,rfl⟩
          simp only [List.cons.injEq,Qpi] at h
          exact hbd h.1.2
        · repeat (first | apply wA | apply wS | refine wr (by simp [hi2,hi3,hx2,hy2,w1,hac];with_reducible rfl) ?_ | refine wq (by simp [hi2,hi3,hx2,hy2,w1,hac];with_reducible rfl) ?_ | refine wt (by simpa [hi2,hi3,hx2,hy2,w1,hac]) ?_ | refine wf (by simpa [hi2,hi3,hx2,hy2,w1,hac]) ?_ | refine xt (by simpa [hi2,hi3,hx2,hy2,w1,hac]) ?_ | refine xf (by simpa [hi2,hi3,hx2,hy2,w1,hac]) ?_ | apply wB | apply Qaa | refine wX ?_ | refine wY ?_ | refine wR ?_ | refine wK ?_ | refine wE ?_)
          refine .inr ⟨rfl,fun h=>?_,rfl⟩
          simp only [List.cons.injEq,Qpi] at h
          exact hac h.1.1
   have l0:=loop xs.length 0 (by omega)
   rw [List.drop_zero,List.drop_zero,show ((0:Nat):Int)=0 from rfl] at l0
   refine cW Jop rfl ?_
   repeat (first|apply wA|apply wS|refine wr (by simp [hlen];with_reducible rfl) ?_|refine wq (by simp [hlen];with_reducible rfl) ?_|refine wt (by simpa [hlen]) ?_|refine wf (by simpa [hlen]) ?_|refine xt (by simpa [hlen]) ?_|refine xf (by simpa [hlen]) ?_|apply wB|apply Qaa|refine wX ?_|refine wY ?_|refine wR ?_|refine wK ?_|refine wE ?_)
   rw [← hlen]
   refine Qal l0 ?_
   rintro ex st (⟨rfl,h,rfl⟩ | ⟨rfl,h,rfl⟩)
   · simp only [if_true]
     repeat (first|apply wA|apply wS|refine wr (by simp;with_reducible rfl) ?_|refine wq (by simp;with_reducible rfl) ?_|refine wt (by simpa) ?_|refine wf (by simpa) ?_|refine xt (by simpa) ?_|refine xf (by simpa) ?_|apply wB|apply Qaa|refine wX ?_|refine wY ?_|refine wR ?_|refine wK ?_|refine wE ?_)
     simp [Qt6,h]
   · simp [Qt6,h]
 · have h:¬ xs=ys:=fun h=>hlen (by rw [h])
   have h2:¬ (xs.length:Int)=(ys.length:Int):=by omega
   refine cW Jop rfl ?_
   repeat (first|apply wA|apply wS|refine wr (by simp [hlen,h2];with_reducible rfl) ?_|refine wq (by simp [hlen,h2];with_reducible rfl) ?_|refine wt (by simpa [hlen,h2]) ?_|refine wf (by simpa [hlen,h2]) ?_|refine xt (by simpa [hlen,h2]) ?_|refine xf (by simpa [hlen,h2]) ?_|apply wB|apply Qaa|refine wX ?_|refine wY ?_|refine wR ?_|refine wK ?_|refine wE ?_)
   simp [Qt6,h]
theorem Qrx (n m:Int) (xs ys:List (Int×Int)) (c1 c2:Bool) (hl:xs.length≤2000000) (hl2:ys.length≤2000000) :
 Ev tb Qtq [] [Gr n xs c1,Gr m ys c2] [] ⟨Bo (decide (n=m) && decide (xs=ys)),[],[],[]⟩:=by
 have e1:=Qab (Qyf 2 2 xs ys c1 c2 (.inl rfl) (.inl rfl) hl hl2)
 generalize decide (xs=ys)=b at *
 by_cases h:n=m
 · refine cW Job rfl ?_
   repeat (first|apply wA|apply wS|refine wr (by simp [e1,h];with_reducible rfl) ?_|refine wq (by simp [e1,h];with_reducible rfl) ?_|refine wt (by simpa [e1,h]) ?_|refine wf (by simpa [e1,h]) ?_|refine xt (by simpa [e1,h]) ?_|refine xf (by simpa [e1,h]) ?_|apply wB|apply Qaa|refine wX ?_|refine wY ?_|refine wR ?_|refine wK ?_|refine wE ?_)
   simp [Qw6,h]
 · refine cW Job rfl ?_
   repeat (first|apply wA|apply wS|refine wr (by simp [h];with_reducible rfl) ?_|refine wq (by simp [h];with_reducible rfl) ?_|refine wt (by simpa [h]) ?_|refine wf (by simpa [h]) ?_|refine xt (by simpa [h]) ?_|refine xf (by simpa [h]) ?_|apply wB|apply Qaa|refine wX ?_|refine wY ?_|refine wR ?_|refine wK ?_|refine wE ?_)
   simp [Qw6,h]
abbrev Vs:=(List (Int×Int)×Bool)×Int×Q4
def vis (n:Int) (A:List Vs):List (List IV):=A.map fun t=>[I n,L2 t.1.1 t.1.2,I t.2.1,I t.2.2.1,I t.2.2.2.1,I t.2.2.2.2.1,I t.2.2.2.2.2]
@[simp] theorem Jyt (n:Int) (A:List Vs):(vis n A).length=A.length:=by simp [vis]
@[simp] theorem vis_nil (n:Int):vis n []=[]:=rfl
@[simp] theorem vis_get? (n:Int) (A:List Vs) (i:Nat):(vis n A)[i]? = A[i]?.map fun t=>[I n,L2 t.1.1 t.1.2,I t.2.1,I t.2.2.1,I t.2.2.2.1,I t.2.2.2.2.1,I t.2.2.2.2.2]:=by simp [vis]
@[simp] theorem vis_get (n:Int) (A:List Vs) (i:Nat) (h:i < (vis n A).length):(vis n A)[i]=[I n,L2 (A[i]'(by simpa using h)).1.1 (A[i]'(by simpa using h)).1.2,I (A[i]'(by simpa using h)).2.1,I (A[i]'(by simpa using h)).2.2.1,I (A[i]'(by simpa using h)).2.2.2.1,I (A[i]'(by simpa using h)).2.2.2.2.1,I (A[i]'(by simpa using h)).2.2.2.2.2]:=by simp [vis]
@[simp] theorem Jyj (n:Int) (A:List Vs) (k:Nat):(vis n A).take k=vis n (A.take k):=by simp [vis,List.map_take]
@[simp] theorem vis_app (n:Int) (A:List Vs) (es:List (Int×Int)) (c:Bool) (f a b x d:Int):vis n A++[[IV.sc (.int .i64 n),.lst 2 (eds es) c,IV.sc (.int .i64 f),IV.sc (.int .i64 a),IV.sc (.int .i64 b),IV.sc (.int .i64 x),IV.sc (.int .i64 d)]]=vis n (A++[((es,c),f,a,b,x,d)]):=by simp [vis]
@[simp] theorem vis_emp (n:Int) (A:List Vs):(vis n A).isEmpty=A.isEmpty:=by cases A <;> rfl
@[simp] theorem Jzq (n:Int) (A:List Vs):((vis n A).all fun x=>x.all IV.isData)=true:=by
  induction A with
  | nil=>rfl
  | cons x xs ih=>simp only [vis,List.map_cons,List.all_cons] at *;rw [ih];rfl
theorem Jdp (n:Int) (t:Vs) (ys:List (Int×Int)) (c2:Bool) (hl:t.1.1.length≤2000000) (hl2:ys.length≤2000000) (M:List Qae) (l k:Nat) (B:Qae) (hM:M[l]? = some B) (hB:B[k]? = some [I n,L2 ys c2]) (hlM:l < M.length) (hne:l ≠ M.length) :
 Ev tb Qsu [] [.agg [I n,L2 t.1.1 t.1.2,I t.2.1,I t.2.2.1,I t.2.2.2.1,I t.2.2.2.2.1,I t.2.2.2.2.2],.bptr l k 0] M ⟨Bo (decide (t.1.1=ys)),[],M,[]⟩:=by
 have e1:=fun c1 c2=>Qab (Qrx n n t.1.1 ys c1 c2 hl hl2)
 simp only [decide_true,Bool.true_and] at e1
 generalize decide (t.1.1=ys)=b at *
 refine cW zt465 rfl ?_
 repeat (first|apply wA|apply wS|refine wr (by simp [hM,hB,hne,e1];with_reducible rfl) ?_|refine wq (by simp [hM,hB,hne,e1];with_reducible rfl) ?_|refine wt (by simpa [hM,hB,hne,e1]) ?_|refine wf (by simpa [hM,hB,hne,e1]) ?_|refine xt (by simpa [hM,hB,hne,e1]) ?_|refine xf (by simpa [hM,hB,hne,e1]) ?_|apply wB|apply Qaa|refine wX ?_|refine wY ?_|refine wR ?_|refine wK ?_|refine wE ?_)
 simp [Jd1]
theorem Qmi (n:Int) (A:List Vs) (F:Lab) (caps:List IV) (M:List Qae) (p:Vs→Bool) (hl:A.length≤2000000)
 (hp:∀ t ∈ A,Ev tb F [] (.agg [I n,L2 t.1.1 t.1.2,I t.2.1,I t.2.2.1,I t.2.2.2.1,I t.2.2.2.2.1,I t.2.2.2.2.2]::caps) (M++[[]]) ⟨Bo (p t),[],M++[[]],[]⟩) :
 ∃ r:Int,decide (0≤r)=A.any p∧Ev tb Qtl [0] [.own 7 (vis n A),.fn F caps] M ⟨I r,[.own 7 (vis n A)],M,[]⟩:=by
 have loop:∀ (m i:Nat),i+m=A.length→wp tb (.loop Jev) { T:=[(0,.own 7 (vis n A)),(1,.fn F caps),(7,I A.length),(8,I i)],loc:=[],M:=M }
  (fun ex st=>(ex=.exit 0∧(A.drop i).any p=false∧st={ T:=[(0,.own 7 (vis n A)),(1,.fn F caps),(7,I A.length),(8,I A.length),(9,Bo false)],loc:=[],M:=M }) ∨
    ex=.ret∧(A.drop i).any p=true∧∃ k:Nat,st={ T:=[(0,.own 7 (vis n A)),(4,I k)],loc:=[],M:=M }):=by
  intro m
  induction m with
  | zero =>
    intro i hi
    have h3:i=A.length:=hi
    subst h3
    refine wW ?_
    repeat (first|apply wA|apply wS|refine wr (by simp;with_reducible rfl) ?_|refine wq (by simp;with_reducible rfl) ?_|refine wt (by simpa) ?_|refine wf (by simpa) ?_|refine xt (by simpa) ?_|refine xf (by simpa) ?_|apply wB|apply Qaa|refine wX ?_|refine wY ?_|refine wR ?_|refine wK ?_|refine wE ?_)
    exact .inl ⟨rfl,by rw [List.drop_length];rfl,rfl⟩
  | succ m ih =>
    intro i hi
    have hi2:i < A.length:=by omega
    have h2:A.drop i=A[i]::A.drop (i+1):=List.drop_eq_getElem_cons hi2
    have e1:=Qab (hp _ (List.getElem_mem hi2))
    have w1:IntKind.i64.wrap ((i:Int)+1)=((i+1:Nat):Int):=Qbe (by omega)
    have hn:=ih (i+1) (by omega)
    obtain ⟨t,ht⟩:∃ t,t=A[i]:=⟨_,rfl⟩
    have ht2:=ht.symm
    rw [ht2] at e1
    rw [h2,ht2,List.any_cons]
    cases hpx:p t with
    | true =>
      rw [hpx] at e1
      refine wW ?_
      repeat (first|apply wA|apply wS|refine wr (by simp [e1,hi2,ht2,w1];with_reducible rfl) ?_|refine wq (by simp [e1,hi2,ht2,w1];with_reducible rfl) ?_|refine wt (by simpa [e1,hi2,ht2,w1]) ?_|refine wf (by simpa [e1,hi2,ht2,w1]) ?_|refine xt (by simpa [e1,hi2,ht2,w1]) ?_|refine xf (by simpa [e1,hi2,ht2,w1]) ?_|apply wB|apply Qaa|refine wX ?_|refine wY ?_|refine wR ?_|refine wK ?_|refine wE ?_)
      exact .inr ⟨rfl,rfl,i,rfl⟩
    | false =>
      rw [hpx] at e1
      simp only [Bool.false_or]
      refine wW ?_
      repeat (first|apply wA|apply wS|refine wr (by simp [e1,hi2,ht2,w1];with_reducible rfl) ?_|refine wq (by simp [e1,hi2,ht2,w1];with_reducible rfl) ?_|refine wt (by simpa [e1,hi2,ht2,w1]) ?_|refine wf (by simpa [e1,hi2,ht2,w1]) ?_|refine xt (by simpa [e1,hi2,ht2,w1]) ?_|refine xf (by simpa [e1,hi2,ht2,w1]) ?_|apply wB|apply Qaa|refine wX ?_|refine wY ?_|refine wR ?_|refine wK ?_|refine wE ?_)
      exact hn
 have l0:=loop A.length 0 (by omega)
 rw [List.drop_zero,show ((0:Nat):Int)=0 from rfl] at l0
 suffices hh:∃ r,(∃ q:Int,decide (0≤q)=A.any p∧r=⟨I q,[.own 7 (vis n A)],M,[]⟩)∧Ev tb Qtl [0] [.own 7 (vis n A),.fn F caps] M r by
  obtain ⟨r,⟨q,h1,rfl⟩,h⟩:=hh
  exact ⟨q,h1,h⟩
 refine Qel zt479 rfl ?_
 repeat (first|apply wA|apply wS|refine wr (by simp;with_reducible rfl) ?_|refine wq (by simp;with_reducible rfl) ?_|refine wt (by simpa) ?_|refine wf (by simpa) ?_|refine xt (by simpa) ?_|refine xf (by simpa) ?_|apply wB|apply Qaa|refine wX ?_|refine wY ?_|refine wR ?_|refine wK ?_|refine wE ?_)
 refine Qal l0 ?_
 rintro ex st (⟨rfl,h,rfl⟩ | ⟨rfl,h,k,rfl⟩)
 · simp only [if_true]
   repeat (first|apply wA|apply wS|refine wr (by simp;with_reducible rfl) ?_|refine wq (by simp;with_reducible rfl) ?_|refine wt (by simpa) ?_|refine wf (by simpa) ?_|refine xt (by simpa) ?_|refine xf (by simpa) ?_|apply wB|apply Qaa|refine wX ?_|refine wY ?_|refine wR ?_|refine wK ?_|refine wE ?_)
   refine ⟨.inr rfl,_,⟨-1,by rw [h];rfl,rfl⟩,?_⟩
   simp [Qwo]
 · refine ⟨.inr rfl,_,⟨(k:Int),by rw [h];exact decide_eq_true (by omega),rfl⟩,?_⟩
   simp [Qwo]
theorem Qit (n:Int) (A:List Vs) (F:Lab) (caps:List IV) (M:List Qae) (p:Vs→Bool) (hl:A.length≤2000000)
 (hp:∀ t ∈ A,Ev tb F [] (.agg [I n,L2 t.1.1 t.1.2,I t.2.1,I t.2.2.1,I t.2.2.2.1,I t.2.2.2.2.1,I t.2.2.2.2.2]::caps) (M++[[]]++[[]]) ⟨Bo (p t),[],M++[[]]++[[]],[]⟩) :
 Ev tb Qup [0] [.own 7 (vis n A),.fn F caps] M ⟨Bo (A.any p),[.own 7 (vis n A)],M,[]⟩:=by
 obtain ⟨r,h1,E⟩:=Qmi n A F caps (M++[[]]) p hl hp
 have e1:=Qab E
 rw [← h1]
 by_cases h:0≤r
 · refine cW Jxm rfl ?_
   repeat (first|apply wA|apply wS|refine wr (by simp [e1,h];with_reducible rfl) ?_|refine wq (by simp [e1,h];with_reducible rfl) ?_|refine wt (by simpa [e1,h]) ?_|refine wf (by simpa [e1,h]) ?_|refine xt (by simpa [e1,h]) ?_|refine xf (by simpa [e1,h]) ?_|apply wB|apply Qaa|refine wX ?_|refine wY ?_|refine wR ?_|refine wK ?_|refine wE ?_)
   simp [Qvc,h]
 · refine cW Jxm rfl ?_
   repeat (first|apply wA|apply wS|refine wr (by simp [e1,h];with_reducible rfl) ?_|refine wq (by simp [e1,h];with_reducible rfl) ?_|refine wt (by simpa [e1,h]) ?_|refine wf (by simpa [e1,h]) ?_|refine xt (by simpa [e1,h]) ?_|refine xf (by simpa [e1,h]) ?_|apply wB|apply Qaa|refine wX ?_|refine wY ?_|refine wR ?_|refine wK ?_|refine wE ?_)
   simp [Qvc,h]
theorem Qjy {A m B:List Q4} {x y:Q4}:(A++x::(m++y::B))[A.length+m.length+1]? = some y:=by
 rw [List.getElem?_append_right (by omega),show A.length+m.length+1 - A.length=m.length+1 by omega,List.getElem?_cons_succ,List.getElem?_append_right (by omega)];simp
theorem Qhq {A m B:List Q4} {x y:Q4} {h}:(A++x::(m++y::B))[A.length+m.length+1]'h=y:=by
 have:=@Qjy A m B x y
 rw [List.getElem?_eq_getElem h] at this
 exact Option.some.inj this
theorem Qlg {A m B:List Q4} {v x y:Q4}:(A++v::(m++y::B)).set (A.length+m.length+1) x=A++v::(m++x::B):=by
 rw [List.set_append_right _ _ (by omega)]
 simp [show A.length+m.length+1 - A.length=m.length+1 by omega]
theorem Qf0 {A B:List Q4} {x:Q4}:(A++x::B)[A.length]? = some x:=by simp
theorem rev4 (M:List Qae):∀ (k:Nat) (A m B:List Q4),m.length≤k→A.length+m.length+B.length≤2000000 →
 wp tb (.loop Jew) { T:=[(0,O4 (A++(m++B))),(2,I A.length),(3,I ((A.length:Int)+m.length - 1))],loc:=[],M:=M }
  (fun ex st=>ex=.exit 0∧∃ a b:Int,st={ T:=[(0,O4 (A++(m.reverse++B))),(2,I a),(3,I b),(9,Bo false)],loc:=[],M:=M }):=by
 intro k
 induction k with
 | zero =>
   intro A m B hk hl
   have:m=[]:=List.length_eq_zero_iff.1 (by omega)
   subst this
   refine wW ?_
   have h:¬ ((A.length:Int) < A.length - 1):=by omega
   repeat (first|apply wA|apply wS|refine wr (by simp [h];with_reducible rfl) ?_|refine wq (by simp [h];with_reducible rfl) ?_|refine wt (by simpa [h]) ?_|refine wf (by simpa [h]) ?_|refine xt (by simpa [h]) ?_|refine xf (by simpa [h]) ?_|apply wB|apply Qaa|refine wX ?_|refine wY ?_|refine wR ?_|refine wK ?_|refine wE ?_)
   exact ⟨rfl,_,_,rfl⟩
 | succ k ih =>
   intro A m B hk hl
   match m,hk,hl with
   | [],hk,hl =>
     refine wW ?_
     have h:¬ ((A.length:Int) < A.length - 1):=by omega
     repeat (first|apply wA|apply wS|refine wr (by simp [h];with_reducible rfl) ?_|refine wq (by simp [h];with_reducible rfl) ?_|refine wt (by simpa [h]) ?_|refine wf (by simpa [h]) ?_|refine xt (by simpa [h]) ?_|refine xf (by simpa [h]) ?_|apply wB|apply Qaa|refine wX ?_|refine wY ?_|refine wR ?_|refine wK ?_|refine wE ?_)
     exact ⟨rfl,_,_,rfl⟩
   | [x],hk,hl =>
     refine wW ?_
     repeat (first|apply wA|apply wS|refine wr (by simp;with_reducible rfl) ?_|refine wq (by simp;with_reducible rfl) ?_|refine wt (by simpa) ?_|refine wf (by simpa) ?_|refine xt (by simpa) ?_|refine xf (by simpa) ?_|apply wB|apply Qaa|refine wX ?_|refine wY ?_|refine wR ?_|refine wK ?_|refine wE ?_)
     exact ⟨rfl,_,_,rfl⟩
   | x::z::m',hk,hl =>
     obtain ⟨m,y,hm⟩:∃ m y,z::m'=m++[y]:=⟨(z::m').dropLast,(z::m').getLast (by simp),(List.dropLast_concat_getLast _).symm⟩
     rw [hm] at hk hl ⊢
     simp only [List.length_cons,List.length_append,List.length_nil] at hk hl
     have hj:(A.length:Int)+(x::(m++[y])).length - 1=(A.length:Int)+m.length+1:=by simp;omega
     rw [hj]
     simp only [List.cons_append,List.append_assoc,List.nil_append]
     refine wW ?_
     have h:(A.length:Int) < A.length+m.length+1:=by omega
     have h2:A.length < A.length+(m.length+(B.length+1)+1):=by omega
     have h3:A.length+m.length+1 < A.length+(m.length+(B.length+1)+1):=by omega
     have w1:IntKind.i64.wrap ((A.length:Int)+1)=((A++[y]).length:Int):=by rw [Qaj (by omega) (by omega)];simp
     have w2:IntKind.i64.wrap ((A.length:Int)+m.length)=((A++[y]).length:Int)+m.length - 1:=by rw [Qaj (by omega) (by omega)];simp;omega
     repeat (first|apply wA|apply wS|refine wr (by simp [h,h2,h3,w1,w2,Qjy,Qhq,Qlg,Qdm,Qf0];with_reducible rfl) ?_|refine wq (by simp [h,h2,h3,w1,w2,Qjy,Qhq,Qlg,Qdm,Qf0];with_reducible rfl) ?_|refine wt (by simpa [h,h2,h3,w1,w2,Qjy,Qhq,Qlg,Qdm,Qf0]) ?_|refine wf (by simpa [h,h2,h3,w1,w2,Qjy,Qhq,Qlg,Qdm,Qf0]) ?_|refine xt (by simpa [h,h2,h3,w1,w2,Qjy,Qhq,Qlg,Qdm,Qf0]) ?_|refine xf (by simpa [h,h2,h3,w1,w2,Qjy,Qhq,Qlg,Qdm,Qf0]) ?_|apply wB|apply Qaa|refine wX ?_|refine wY ?_|refine wR ?_|refine wK ?_|refine wE ?_)
     have:=ih (A++[y]) m (x::B) (by omega) (by simp;omega)
     simp at this ⊢
     exact this
theorem Qpy (xs:List Q4) (hl:xs.length≤2000000) (M:List Qae) :
 Ev tb Qvb [0] [O4 xs] M ⟨.tup [],[O4 xs.reverse],M,[]⟩:=by
 have w1:IntKind.i64.wrap ((xs.length:Int) - 1)=(xs.length:Int) - 1:=Qaj (by omega) (by omega)
 refine cW zt480 rfl ?_
 repeat (first|apply wA|apply wS|refine wr (by simp [w1];with_reducible rfl) ?_|refine wq (by simp [w1];with_reducible rfl) ?_|refine wt (by simpa [w1]) ?_|refine wf (by simpa [w1]) ?_|refine xt (by simpa [w1]) ?_|refine xf (by simpa [w1]) ?_|apply wB|apply Qaa|refine wX ?_|refine wY ?_|refine wR ?_|refine wK ?_|refine wE ?_)
 have:=rev4 M xs.length [] xs [] (by omega) (by simp;omega)
 simp at this
 refine Qal this ?_
 rintro ex st ⟨rfl,a,b,rfl⟩
 simp [Jdw]
theorem Qvn (xs:List Q4):Ev tb Qqp [] [O4 xs] [] ⟨O4 xs,[],[],[]⟩:=by
 have ht:xs.take xs.length=xs:=List.take_of_length_le (Nat.le_refl _)
 refine cW Jh6 rfl ?_
 repeat (first|apply wA|apply wS|refine wr (by simp [ht];with_reducible rfl) ?_|refine wq (by simp [ht];with_reducible rfl) ?_|refine wt (by simpa [ht]) ?_|refine wf (by simpa [ht]) ?_|refine xt (by simpa [ht]) ?_|refine xf (by simpa [ht]) ?_|apply wB|apply Qaa|refine wX ?_|refine wY ?_|refine wR ?_|refine wK ?_|refine wE ?_)
 simp [Qts,ht]
end Go.Idl
namespace Go.Idl
open Go
abbrev swq (g:List (Int×Int)) (s:Q4):List (Int×Int):=sw g s.1 s.2.1 s.2.2.1 s.2.2.2
def bfA (g:List (Int×Int)) (i:Int):List Q4→List Vs→List Vs
 | [],A=>A
 | s::r,A=>bfA g i r (if (A.any fun t=>decide (t.1.1=swq g s))=true then A else A++[((swq g s,false),i,s)])
def bfs (h:List (Int×Int)):Nat→Nat→List Vs→Option (Nat×List Vs)
 | 0,_,_=>none
 | m+1,i,A=>match A[i]? with
   | none=>none
   | some t=>if t.1.1=h then some (i,A) else bfs h m (i+1) (bfA t.1.1 i (swl t.1.1 t.1.1) A)
def chn (A:List Vs):Nat→Int→List Q4
 | 0,_=>[]
 | m+1,k=>match A[k.toNat]? with
   | none=>[]
   | some t=>if 0≤t.2.1 then t.2.2::chn A m t.2.1 else []
structure Met (n:Nat) (d:List Int) (A:List Vs):Prop where
 v:∀ t ∈ A,Qac n t.1.1=true∧Qco n t.1.1=d
 nd:(A.map fun t=>t.1.1).Nodup
 fr:∀ (k:Nat) (t:Vs),A[k]? = some t→t.2.1 < (k:Int)
 lo:∀ t ∈ A,-1≤t.2.1
theorem Met.few {n:Nat} {d:List Int} {A:List Vs} (h:Met n d A) (hn:n≤5) (hd:d.length=n):A.length≤1024:=by
 have h1:(A.map fun t=>t.1.1).length≤(Jdl d).length:=Qpq h.nd fun x hx=>by
  obtain ⟨t,ht,rfl⟩:=List.mem_map.1 hx
  have:=h.v t ht
  rw [← hd] at this
  exact (Qur (by omega) _).2 this
 have h2:=Qlv (prs d.length) d []
 have h3:(prs d.length).length≤10:=by
  have:∀ n,n≤5→(prs n).length≤10:=by decide +kernel
  exact this _ (by omega)
 have h4:2 ^ (prs d.length).length≤2 ^ 10:=Nat.pow_le_pow_right (by omega) h3
 have h5:(2:Nat) ^ 10=1024:=by decide
 have h6:(Jdl d).length=(subs (prs d.length) d []).length:=rfl
 rw [List.length_map] at h1
 omega
theorem Met.add {n:Nat} {d:List Int} {A:List Vs} (h:Met n d A) {g:List (Int×Int)} (hg:Qac n g=true) (hdg:Qco n g=d) (i:Nat) (hi:i < A.length) {s:Q4} (hs:Qdc g s.1 s.2.1 s.2.2.1 s.2.2.2=true)
 (hno:(A.any fun t=>decide (t.1.1=swq g s))=false):Met n d (A++[((swq g s,false),(i:Int),s)]):=by
 obtain ⟨-,-,k3,-⟩:=Qcw hg hs
 have k4:=Qvj hg hs
 refine ⟨fun t ht=>?_,?_,fun k t hk=>?_,fun t ht=>?_⟩
 · rcases List.mem_append.1 ht with ht | ht
   · exact h.v t ht
   · rw [List.mem_singleton] at ht;subst ht;exact ⟨k3,by rw [← hdg];exact k4⟩
 · rw [List.map_append,List.nodup_append]
   refine ⟨h.nd,by simp,fun x hx y hy he=>?_⟩
   subst he
   simp only [List.map_cons,List.map_nil,List.mem_singleton] at hy
   obtain ⟨t,ht,hte⟩:=List.mem_map.1 hx
   have:=List.any_eq_false.1 hno t ht
   simp only [decide_eq_true_eq] at this
   exact this (by rw [hte,hy])
 · by_cases hkl:k < A.length
   · rw [List.getElem?_append_left hkl] at hk;exact h.fr k t hk
   · have hke:k=A.length:=by
      have:=(List.getElem?_eq_some_iff.1 hk).1
      simp at this;omega
     subst hke
     rw [List.getElem?_append_right (Nat.le_refl _),Nat.sub_self] at hk
     simp only [List.getElem?_cons_zero,Qoi] at hk
     subst hk
     simp only;omega
 · rcases List.mem_append.1 ht with ht | ht
   · exact h.lo t ht
   · rw [List.mem_singleton] at ht;subst ht;simp only;omega
theorem Qm8 {n:Nat} {d:List Int} {g:List (Int×Int)} (hg:Qac n g=true) (hdg:Qco n g=d) (i:Nat):∀ (r:List Q4) (A:List Vs),(∀ s ∈ r,Qdc g s.1 s.2.1 s.2.2.1 s.2.2.2=true)→Met n d A→i < A.length →
 Met n d (bfA g i r A)∧∃ B,bfA g i r A=A++B
 | [],A,_,h,_=>⟨h,[],by simp [bfA]⟩
 | s::r,A,hr,h,hi=>by
   rw [bfA]
   cases hq:A.any fun t=>decide (t.1.1=swq g s) with
   | true =>
     simp only [if_true]
     exact Qm8 hg hdg i r A (fun x hx=>hr x (by simp [hx])) h hi
   | false =>
     simp only [Bool.false_eq_true,if_false]
     have h2:=h.add hg hdg i hi (hr s (by simp)) hq
     obtain ⟨k1,B,k2⟩:=Qm8 hg hdg i r _ (fun x hx=>hr x (by simp [hx])) h2 (by simp;omega)
     exact ⟨k1,((swq g s,false),(i:Int),s)::B,by rw [k2];simp⟩
theorem Jzz (n:Nat) (hn:n≤5) (d:List Int) (hd:d.length=n) (e0:Nat) (g:List (Int×Int)) (hg:Qac n g=true) (hdg:Qco n g=d) (i:Nat) (sl:List Q4) (hsl:sl.length≤2000000) (hs:∀ s ∈ sl,Qdc g s.1 s.2.1 s.2.2.1 s.2.2.2=true) (b0 b1:List IV) :
 ∀ (m j:Nat) (A:List Vs) (B:Qae),j+m=sl.length→Met n d A→(∃ c f q,A[i]? = some ((g,c),f,q)) →
 wp tb (.loop Qvr) { T:=[(3,.bptr 0 1 0),(6,.own 7 (vis n A)),(7,I i),(68,O4 sl),(69,I sl.length),(70,I j)],loc:=b0::b1::B,M:=[] }
  (fun ex st=>ex=.exit 4∧∃ B',st={ T:=[(3,.bptr 0 1 0),(6,.own 7 (vis n (bfA g i (sl.drop j) A))),(7,I i),(68,O4 sl),(69,I sl.length),(70,I sl.length),(71,Bo false)],loc:=b0::b1::B',M:=[] }):=by
 intro m
 induction m with
 | zero =>
   intro j A B hj hA hAi
   have h3:j=sl.length:=hj
   subst h3
   rw [List.drop_length,bfA]
   refine wW ?_
   repeat (first|apply wA|apply wS|refine wr (by simp;with_reducible rfl) ?_|refine wq (by simp;with_reducible rfl) ?_|refine wt (by simpa) ?_|refine wf (by simpa) ?_|refine xt (by simpa) ?_|refine xf (by simpa) ?_|apply wB|apply Qaa|refine wX ?_|refine wY ?_|refine wR ?_|refine wK ?_|refine wE ?_)
   exact ⟨rfl,B,rfl⟩
 | succ m ih =>
   intro j A B hj hA hAi
   have hj2:j < sl.length:=by omega
   have hdr:sl.drop j=sl[j]::sl.drop (j+1):=List.drop_eq_getElem_cons hj2
   obtain ⟨cg,f,q,hAi'⟩:=hAi
   have hi:i < A.length:=(List.getElem?_eq_some_iff.1 hAi').1
   have hAi2:A[i]=((g,cg),f,q):=(List.getElem?_eq_some_iff.1 hAi').2
   have w1:IntKind.i64.wrap ((j:Int)+1)=((j+1:Nat):Int):=Qbe (by omega)
   have hmay:=hs _ (List.getElem_mem hj2)
   obtain ⟨⟨a,b,x,y⟩,hx⟩:∃ s,s=sl[j]:=⟨_,rfl⟩
   have hx2:=hx.symm
   rw [hx2] at hmay hdr
   simp only at hmay
   have e1:=fun cc=>Qab (Qkh n g cc a b x y hg)
   simp only [OS,hmay,if_true] at e1
   have hAl:=hA.few hn hd
   have h21:=Qkn (by omega) hg
   obtain ⟨-,-,k3,-⟩:=Qcw hg hmay
   have hR21:=Qkn (by omega) k3
   have e2:=Qab (Qit n A Qsu [.bptr 0 (B.length+1+1+1) 0] [b0::b1::(B++[[I a,I b,I x,I y],[I n,L2 (sw g a b x y) false]])] (fun t=>decide (t.1.1=sw g a b x y)) (by omega) (fun t ht=>by
    have hv:=(hA.v t ht).1
    have:=Qkn (by omega) hv
    exact Jdp n t (sw g a b x y) false (by omega) (by omega) _ 0 (B.length+1+1+1) (b0::b1::(B++[[I a,I b,I x,I y],[I n,L2 (sw g a b x y) false]])) rfl (by simp) (by simp) (by simp)))
   rw [hdr,bfA]
   simp only [swq]
   cases hq:A.any fun t=>decide (t.1.1=sw g a b x y) with
   | true =>
     rw [hq] at e2
     simp only [if_true]
     have hnx:=fun B=>ih (j+1) A B (by omega) hA ⟨cg,f,q,hAi'⟩
     generalize sw g a b x y=R at *
     refine wW ?_
     repeat (first|apply wA|apply wS|refine wr (by simp [hj2,hx2,w1];with_reducible rfl) ?_|refine wq (by simp [hj2,hx2,w1];with_reducible rfl) ?_|refine wt (by simpa [hj2,hx2,w1]) ?_|refine wf (by simpa [hj2,hx2,w1]) ?_|refine xt (by simpa [hj2,hx2,w1]) ?_|refine xf (by simpa [hj2,hx2,w1]) ?_|apply wB|apply Qaa|refine wX ?_|refine wY ?_|refine wR ?_|refine wK ?_|refine wE ?_)
     refine Qpc (by rfl) (by simp [hi,hAi2,hAi',e1];with_reducible rfl) (by simp;with_reducible rfl) ?_ ?_
     · intro p hp
       simp only [List.mem_cons,List.not_mem_nil,or_false] at hp
       rcases hp with rfl | rfl
       · exact ⟨_,by simp [hi,hAi2,hAi',e1];with_reducible rfl,by simp⟩
       · exact ⟨_,by simp [hi,hAi2,hAi',e1];with_reducible rfl,by simp⟩
     repeat (first|apply wA|apply wS|refine wr (by simp [e2,w1];with_reducible rfl) ?_|refine wq (by simp [e2,w1];with_reducible rfl) ?_|refine wt (by simpa [e2,w1]) ?_|refine wf (by simpa [e2,w1]) ?_|refine xt (by simpa [e2,w1]) ?_|refine xf (by simpa [e2,w1]) ?_|apply wB|apply Qaa|refine wX ?_|refine wY ?_|refine wR ?_|refine wK ?_|refine wE ?_)
     simpa using hnx (B++[[I a,I b,I x,I y],[I n,L2 R false]])
   | false =>
     rw [hq] at e2
     simp only [Bool.false_eq_true,if_false]
     have hA2:=hA.add hg hdg i hi (s:=(a,b,x,y)) hmay hq
     have hA2l:=hA2.few hn hd
     have hlm:A.length+1≤274877906944:=by omega
     have htt:A.take A.length=A:=List.take_of_length_le (Nat.le_refl _)
     have hnx:=fun B=>ih (j+1) (A++[((sw g a b x y,false),(i:Int),(a,b,x,y))]) B (by omega) hA2 ⟨cg,f,q,by rw [List.getElem?_append_left hi];exact hAi'⟩
     generalize sw g a b x y=R at *
     refine wW ?_
     repeat (first|apply wA|apply wS|refine wr (by simp [hj2,hx2,w1];with_reducible rfl) ?_|refine wq (by simp [hj2,hx2,w1];with_reducible rfl) ?_|refine wt (by simpa [hj2,hx2,w1]) ?_|refine wf (by simpa [hj2,hx2,w1]) ?_|refine xt (by simpa [hj2,hx2,w1]) ?_|refine xf (by simpa [hj2,hx2,w1]) ?_|apply wB|apply Qaa|refine wX ?_|refine wY ?_|refine wR ?_|refine wK ?_|refine wE ?_)
     refine Qpc (by rfl) (by simp [hi,hAi2,hAi',e1];with_reducible rfl) (by simp;with_reducible rfl) ?_ ?_
     · intro p hp
       simp only [List.mem_cons,List.not_mem_nil,or_false] at hp
       rcases hp with rfl | rfl
       · exact ⟨_,by simp [hi,hAi2,hAi',e1];with_reducible rfl,by simp⟩
       · exact ⟨_,by simp [hi,hAi2,hAi',e1];with_reducible rfl,by simp⟩
     repeat (first|apply wA|apply wS|refine wr (by simp [e2,w1,hlm,htt];with_reducible rfl) ?_|refine wq (by simp [e2,w1,hlm,htt];with_reducible rfl) ?_|refine wt (by simpa [e2,w1,hlm,htt]) ?_|refine wf (by simpa [e2,w1,hlm,htt]) ?_|refine xt (by simpa [e2,w1,hlm,htt]) ?_|refine xf (by simpa [e2,w1,hlm,htt]) ?_|apply wB|apply Qaa|refine wX ?_|refine wY ?_|refine wR ?_|refine wK ?_|refine wE ?_)
     simpa using hnx (B++[[I a,I b,I x,I y],[I n,L2 R false]])
end Go.Idl
