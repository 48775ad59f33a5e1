/- Part 8 of a proof by an ideal interpreter of the code: its definitions and lemmas. Conditions: none. -/
import Derived.KernelRfl
import Derived.Test.YtmkagmhkjafpfaaA7
set_option linter.all false
set_option linter.unusedVariables false
set_option linter.unusedSimpArgs false
namespace Go.Idl
open Go
theorem Jaz (n:Nat) (d:List Int) (A:List Vs) (hA:Met n d A) (hl:A.length≤2000) (loc:Qae):∀ (m k:Nat) (acc:List Q4),k < m→k < A.length→acc.length+m≤100000 →
 wp tb (.loop Qzu) { T:=[(6,.own 7 (vis n A)),(8,O4 acc),(9,I k)],loc:=loc,M:=[] }
  (fun ex st=>ex=.exit 2∧∃ k':Nat,st={ T:=[(6,.own 7 (vis n A)),(8,O4 (acc++chn A m k)),(9,I k'),(45,Bo false)],loc:=loc,M:=[] }):=by
 intro m
 induction m with
 | zero=>intro k acc h;omega
 | succ m ih =>
   intro k acc hkm hkl hacc
   have hk:A[k]? = some A[k]:=List.getElem?_eq_getElem hkl
   have hfr:=hA.fr k _ hk
   have hlo:=hA.lo _ (List.getElem_mem hkl)
   obtain ⟨⟨⟨g,c⟩,f,a,b,x,y⟩,ht⟩:∃ t,t=A[k]:=⟨_,rfl⟩
   have ht2:=ht.symm
   rw [ht2] at hfr hlo hk
   simp only at hfr hlo
   have hc:chn A (m+1) k=if 0≤f then (a,b,x,y)::chn A m f else []:=by
    rw [chn,Int.toNat_natCast,hk]
   rw [hc]
   by_cases hf:0≤f
   · obtain ⟨p,rfl⟩:=Int.eq_ofNat_of_zero_le hf
     have hlm:acc.length+1≤274877906944:=by omega
     have htt:acc.take acc.length=acc:=List.take_of_length_le (Nat.le_refl _)
     have hn:=ih p (acc++[(a,b,x,y)]) (by omega) (by omega) (by simp;omega)
     rw [if_pos hf]
     refine wW ?_
     repeat (first|apply wA|apply wS|refine wr (by simp [hkl,ht2,hf,hlm,htt];with_reducible rfl) ?_|refine wq (by simp [hkl,ht2,hf,hlm,htt];with_reducible rfl) ?_|refine wt (by simpa [hkl,ht2,hf,hlm,htt]) ?_|refine wf (by simpa [hkl,ht2,hf,hlm,htt]) ?_|refine xt (by simpa [hkl,ht2,hf,hlm,htt]) ?_|refine xf (by simpa [hkl,ht2,hf,hlm,htt]) ?_|apply wB|apply Qaa|refine wX ?_|refine wY ?_|refine wR ?_|refine wK ?_|refine wE ?_)
     simpa using hn
   · rw [if_neg hf]
     refine wW ?_
     repeat (first|apply wA|apply wS|refine wr (by simp [hkl,ht2,hf];with_reducible rfl) ?_|refine wq (by simp [hkl,ht2,hf];with_reducible rfl) ?_|refine wt (by simpa [hkl,ht2,hf]) ?_|refine wf (by simpa [hkl,ht2,hf]) ?_|refine xt (by simpa [hkl,ht2,hf]) ?_|refine xf (by simpa [hkl,ht2,hf]) ?_|apply wB|apply Qaa|refine wX ?_|refine wY ?_|refine wR ?_|refine wK ?_|refine wE ?_)
     exact ⟨rfl,k,by simp⟩
theorem Qqv (g:List (Int×Int)) (i:Int):∀ (r:List Q4) (A:List Vs),A.length≤(bfA g i r A).length
 | [],A=>by rw [bfA];omega
 | s::r,A=>by
   have:=Qqv g i r (if (A.any fun t=>decide (t.1.1=swq g s))=true then A else A++[((swq g s,false),i,s)])
   rw [bfA]
   split at this
   · rw [if_pos ‹_›];omega
   · rw [if_neg ‹_›];simp at this;omega
set_option maxHeartbeats 4000000 in
theorem Jgu (n:Nat) (hn:n≤5) (d:List Int) (hd:d.length=n) (h:List (Int×Int)) (ch:Bool) (hh:h.length≤21) (b0:List IV):∀ (m i:Nat) (A:List Vs) (B:Qae),i+m=1025→i≤A.length→Met n d A →
 wp tb (.loop Qx8) { T:=[(3,.bptr 0 1 0),(6,.own 7 (vis n A)),(7,I i)],loc:=b0::[I n,L2 h ch]::B,M:=[] }
  (fun ex st=>match bfs h m i A with
    | none=>ex=.exit 0∧∃ A' i' B',st={ T:=[(3,.bptr 0 1 0),(6,.own 7 (vis n A')),(7,I i'),(29,Bo false)],loc:=b0::[I n,L2 h ch]::B',M:=[] }
    | some (k,A')=>ex=.ret∧∃ B',st={ T:=[(4,O4 (chn A' (k+1) k).reverse),(5,Bo true)],loc:=b0::[I n,L2 h ch]::B',M:=[] }):=by
 intro m
 induction m with
 | zero =>
   intro i A B hi hiA hA
   have:=hA.few hn hd
   omega
 | succ m ih =>
   intro i A B hi hiA hA
   have hAl:=hA.few hn hd
   by_cases hie:i=A.length
   · subst hie
     have hb:bfs h (m+1) A.length A=none:=by
      rw [bfs,List.getElem?_eq_none (Nat.le_refl _)]
     rw [hb]
     refine wW ?_
     repeat (first|apply wA|apply wS|refine wr (by simp;with_reducible rfl) ?_|refine wq (by simp;with_reducible rfl) ?_|refine wt (by simpa) ?_|refine wf (by simpa) ?_|refine xt (by simpa) ?_|refine xf (by simpa) ?_|apply wB|apply Qaa|refine wX ?_|refine wY ?_|refine wR ?_|refine wK ?_|refine wE ?_)
     exact ⟨rfl,A,A.length,B,rfl⟩
   have hi2:i < A.length:=by omega
   have hk:A[i]? = some A[i]:=List.getElem?_eq_getElem hi2
   have hv:=hA.v _ (List.getElem_mem hi2)
   obtain ⟨⟨⟨g,c⟩,f,q⟩,ht⟩:∃ t,t=A[i]:=⟨_,rfl⟩
   have ht2:=ht.symm
   rw [ht2] at hv hk
   have hg:Qac n g=true:=hv.1
   have hdg:Qco n g=d:=hv.2
   have hg21:=Qkn (by omega) hg
   have w1:IntKind.i64.wrap ((i:Int)+1)=((i+1:Nat):Int):=Qbe (by omega)
   have e1:=fun c1 c2=>Qab (Qrx n n g h c1 c2 (by omega) (by omega))
   simp only [decide_true,Bool.true_and] at e1
   have hb:bfs h (m+1) i A=if g=h then some (i,A) else bfs h m (i+1) (bfA g i (swl g g) A):=by
    rw [bfs,hk]
   rw [hb]
   by_cases hgh:g=h
   · rw [if_pos hgh]
     subst hgh
     simp only [decide_true] at e1
     have hcl:∀ (m:Nat) (k:Int),(chn A m k).length≤m:=by
      intro m
      induction m with
      | zero=>intro k;simp [chn]
      | succ m ih =>
        intro k
        rw [chn]
        split
        · simp
        · rename_i t _
          split
          · have:=ih t.2.1
            simp;omega
          · simp
     have hcl2:=hcl (i+1) i
     have lc:=Jaz n d A hA (by omega) (b0::[I n,L2 g ch]::B) (i+1) i [] (by omega) hi2 (by simp;omega)
     rw [List.nil_append] at lc
     dsimp only
     generalize chn A (i+1) i=P at *
     have htr:P.reverse.take P.length=P.reverse:=List.take_of_length_le (by simp)
     have e2:=fun M=>Qab (Qpy P (by omega) M)
     have e3:=Qab (Qvn P.reverse)
     refine wW ?_
     repeat (first|apply wA|apply wS|refine wr (by simp [hi2,ht2,e1];with_reducible rfl) ?_|refine wq (by simp [hi2,ht2,e1];with_reducible rfl) ?_|refine wt (by simpa [hi2,ht2,e1]) ?_|refine wf (by simpa [hi2,ht2,e1]) ?_|refine xt (by simpa [hi2,ht2,e1]) ?_|refine xf (by simpa [hi2,ht2,e1]) ?_|apply wB|apply Qaa|refine wX ?_|refine wY ?_|refine wR ?_|refine wK ?_|refine wE ?_)
     refine Qal lc ?_
     rintro ex st ⟨rfl,k',rfl⟩
     simp only [if_true]
     repeat (first|apply wA|apply wS|refine wr (by simp [e2,e3,htr];with_reducible rfl) ?_|refine wq (by simp [e2,e3,htr];with_reducible rfl) ?_|refine wt (by simpa [e2,e3,htr]) ?_|refine wf (by simpa [e2,e3,htr]) ?_|refine xt (by simpa [e2,e3,htr]) ?_|refine xf (by simpa [e2,e3,htr]) ?_|apply wB|apply Qaa|refine wX ?_|refine wY ?_|refine wR ?_|refine wK ?_|refine wE ?_)
     exact ⟨rfl,B,rfl⟩
   · rw [if_neg hgh]
     have hsl:(swl g g).length≤2000000:=by
      have:=Qmg g g (by omega)
      omega
     have hsm:∀ s ∈ swl g g,Qdc g s.1 s.2.1 s.2.2.1 s.2.2.2=true:=fun s hs=>(Qnw hg hs).may
     have hmet:=Qm8 hg hdg i (swl g g) A hsm hA hi2
     have hln:=Qqv g i (swl g g) A
     have nx:=fun B=>ih (i+1) (bfA g i (swl g g) A) B (by omega) (by omega) hmet.1
     have lin:=Jzz n hn d hd 0 g hg hdg i (swl g g) hsl hsm b0 [I n,L2 h ch] (swl g g).length 0 A B (by omega) hA ⟨c,f,q,hk⟩
     rw [List.drop_zero,show ((0:Nat):Int)=0 from rfl] at lin
     have e4:=fun c=>Qab (Qhr n g c hg)
     simp only [decide_eq_false hgh] at e1
     cases hs:swl g g with
     | nil =>
       rw [hs] at e4 nx
       simp only [nl4] at e4
       simp only [bfA] at nx ⊢
       refine wW ?_
       repeat (first|apply wA|apply wS|refine wr (by simp [hi2,ht2,e1,e4];with_reducible rfl) ?_|refine wq (by simp [hi2,ht2,e1,e4];with_reducible rfl) ?_|refine wt (by simpa [hi2,ht2,e1,e4]) ?_|refine wf (by simpa [hi2,ht2,e1,e4]) ?_|refine xt (by simpa [hi2,ht2,e1,e4]) ?_|refine xf (by simpa [hi2,ht2,e1,e4]) ?_|apply wB|apply Qaa|refine wX ?_|refine wY ?_|refine wR ?_|refine wK ?_|refine wE ?_)
       refine wW ?_
       repeat (first|apply wA|apply wS|refine wr (by simp [w1];with_reducible rfl) ?_|refine wq (by simp [w1];with_reducible rfl) ?_|refine wt (by simpa [w1]) ?_|refine wf (by simpa [w1]) ?_|refine xt (by simpa [w1]) ?_|refine xf (by simpa [w1]) ?_|apply wB|apply Qaa|refine wX ?_|refine wY ?_|refine wR ?_|refine wK ?_|refine wE ?_)
       simpa using nx B
     | cons s r =>
       rw [hs] at e4 nx lin
       simp only [nl4] at e4
       generalize s::r=S at *
       refine wW ?_
       repeat (first|apply wA|apply wS|refine wr (by simp [hi2,ht2,e1,e4];with_reducible rfl) ?_|refine wq (by simp [hi2,ht2,e1,e4];with_reducible rfl) ?_|refine wt (by simpa [hi2,ht2,e1,e4]) ?_|refine wf (by simpa [hi2,ht2,e1,e4]) ?_|refine xt (by simpa [hi2,ht2,e1,e4]) ?_|refine xf (by simpa [hi2,ht2,e1,e4]) ?_|apply wB|apply Qaa|refine wX ?_|refine wY ?_|refine wR ?_|refine wK ?_|refine wE ?_)
       refine Qal lin ?_
       rintro ex st ⟨rfl,B',rfl⟩
       simp only [if_true]
       repeat (first|apply wA|apply wS|refine wr (by simp [w1];with_reducible rfl) ?_|refine wq (by simp [w1];with_reducible rfl) ?_|refine wt (by simpa [w1]) ?_|refine wf (by simpa [w1]) ?_|refine xt (by simpa [w1]) ?_|refine xf (by simpa [w1]) ?_|apply wB|apply Qaa|refine wX ?_|refine wY ?_|refine wR ?_|refine wK ?_|refine wE ?_)
       simpa using nx B'
def A0 (g:List (Int×Int)) (c:Bool):List Vs:=[((g,c),-1,(0,0,0,0))]
theorem met0 {n:Nat} {d:List Int} {g:List (Int×Int)} (hg:Qac n g=true) (hdg:Qco n g=d) (c:Bool):Met n d (A0 g c) where
 v:=fun t ht=>by
  simp only [A0,List.mem_singleton] at ht
  subst ht;exact ⟨hg,hdg⟩
 nd:=by simp [A0]
 fr:=fun k t hk=>by
  cases k with
  | zero=>simp only [A0,List.getElem?_cons_zero,Qoi] at hk;subst hk;simp
  | succ k=>simp [A0] at hk
 lo:=fun t ht=>by
  simp only [A0,List.mem_singleton] at ht
  subst ht;simp
def spI (g:List (Int×Int)) (c:Bool) (h:List (Int×Int)):Option (List Q4):=(bfs h 1025 0 (A0 g c)).map fun p=>(chn p.2 (p.1+1) p.1).reverse
def spV:Option (List Q4)→IV
 | none=>.tup [O4 [],Bo false]
 | some p=>.tup [O4 p,Bo true]
theorem Qka (n m:Int) (es fs:List (Int×Int)) (c1 c2:Bool) (f1:Fit es) (f2:Fit fs) (l1:es.length≤2000000) (l2:fs.length≤2000000) :
 Ev tb Qqh [] [Gr n es c1,Gr m fs c2] [] ⟨Bo (Qac n es && (Qac m fs && decide (n=m))),[],[],[]⟩:=by
 have e1:=fun c=>Qab (Qbb n es c f1 (by omega))
 have e2:=fun c=>Qab (Qbb m fs c f2 (by omega))
 cases h1:Qac n es with
 | false =>
   rw [h1] at e1
   refine cW Qwb rfl ?_
   repeat (first|apply wA|apply wS|refine wr (by simp [e1];with_reducible rfl) ?_|refine wq (by simp [e1];with_reducible rfl) ?_|refine wt (by simpa [e1]) ?_|refine wf (by simpa [e1]) ?_|refine xt (by simpa [e1]) ?_|refine xf (by simpa [e1]) ?_|apply wB|apply Qaa|refine wX ?_|refine wY ?_|refine wR ?_|refine wK ?_|refine wE ?_)
   simp [Qoc]
 | true =>
   rw [h1] at e1
   cases h2:Qac m fs with
   | false =>
     rw [h2] at e2
     refine cW Qwb rfl ?_
     repeat (first|apply wA|apply wS|refine wr (by simp [e1,e2];with_reducible rfl) ?_|refine wq (by simp [e1,e2];with_reducible rfl) ?_|refine wt (by simpa [e1,e2]) ?_|refine wf (by simpa [e1,e2]) ?_|refine xt (by simpa [e1,e2]) ?_|refine xf (by simpa [e1,e2]) ?_|apply wB|apply Qaa|refine wX ?_|refine wY ?_|refine wR ?_|refine wK ?_|refine wE ?_)
     simp [Qoc]
   | true =>
     rw [h2] at e2
     by_cases hnm:n=m
     · subst hnm
       refine cW Qwb rfl ?_
       repeat (first|apply wA|apply wS|refine wr (by simp [e1,e2];with_reducible rfl) ?_|refine wq (by simp [e1,e2];with_reducible rfl) ?_|refine wt (by simpa [e1,e2]) ?_|refine wf (by simpa [e1,e2]) ?_|refine xt (by simpa [e1,e2]) ?_|refine xf (by simpa [e1,e2]) ?_|apply wB|apply Qaa|refine wX ?_|refine wY ?_|refine wR ?_|refine wK ?_|refine wE ?_)
       simp [Qoc]
     · refine cW Qwb rfl ?_
       repeat (first|apply wA|apply wS|refine wr (by simp [e1,e2,hnm];with_reducible rfl) ?_|refine wq (by simp [e1,e2,hnm];with_reducible rfl) ?_|refine wt (by simpa [e1,e2,hnm]) ?_|refine wf (by simpa [e1,e2,hnm]) ?_|refine xt (by simpa [e1,e2,hnm]) ?_|refine xf (by simpa [e1,e2,hnm]) ?_|apply wB|apply Qaa|refine wX ?_|refine wY ?_|refine wR ?_|refine wK ?_|refine wE ?_)
       simp [Qoc,hnm]
theorem Qiq (n m:Int) (g h:List (Int×Int)) (cg ch:Bool) (f1:Fit g) (f2:Fit h) (l1:g.length≤2000000) (l2:h.length≤2000000)
 (hno:(Qac n g && (Qac m h && (decide (n=m) && decide (n≤5))))=false) :
 Ev tb Qlu [] [Gr n g cg,Gr m h ch] [] ⟨spV none,[],[],[]⟩:=by
 have e1:=fun c1 c2=>Qab (Qka n m g h c1 c2 f1 f2 l1 l2)
 cases hb:Qac n g && (Qac m h && decide (n=m)) with
 | false =>
   rw [hb] at e1
   refine cW Jct rfl ?_
   repeat (first|apply wA|apply wS|refine wr (by simp [e1];with_reducible rfl) ?_|refine wq (by simp [e1];with_reducible rfl) ?_|refine wt (by simpa [e1]) ?_|refine wf (by simpa [e1]) ?_|refine xt (by simpa [e1]) ?_|refine xf (by simpa [e1]) ?_|apply wB|apply Qaa|refine wX ?_|refine wY ?_|refine wR ?_|refine wK ?_|refine wE ?_)
   simp [Qpp,spV]
 | true =>
   rw [hb] at e1
   have h5:(5:Int) < n:=by
    simp only [Qba] at hb
    rw [hb.1,hb.2.1,hb.2.2] at hno
    simp at hno;omega
   refine cW Jct rfl ?_
   repeat (first|apply wA|apply wS|refine wr (by simp [e1,h5];with_reducible rfl) ?_|refine wq (by simp [e1,h5];with_reducible rfl) ?_|refine wt (by simpa [e1,h5]) ?_|refine wf (by simpa [e1,h5]) ?_|refine xt (by simpa [e1,h5]) ?_|refine xf (by simpa [e1,h5]) ?_|apply wB|apply Qaa|refine wX ?_|refine wY ?_|refine wR ?_|refine wK ?_|refine wE ?_)
   simp [Qpp,spV]
set_option maxHeartbeats 4000000 in
theorem Qg1 (n:Nat) (g h:List (Int×Int)) (cg ch:Bool) (hn:n≤5) (hg:Qac n g=true) (hh:Qac n h=true) :
 Ev tb Qlu [] [Gr n g cg,Gr n h ch] [] ⟨spV (spI g cg h),[],[],[]⟩:=by
 have g21:=Qkn (by omega) hg
 have h21:=Qkn (by omega) hh
 have f1:Fit g:=fun e he=>by have:=Qay.1 ((Qaz.1 hg).2.1 e he);omega
 have f2:Fit h:=fun e he=>by have:=Qay.1 ((Qaz.1 hh).2.1 e he);omega
 have e1:=fun c1 c2=>Qab (Qka n n g h c1 c2 f1 f2 (by omega) (by omega))
 rw [hg,hh] at e1
 simp only [decide_true,Bool.and_self] at e1
 have h5:¬ (5:Int) < n:=by omega
 have h5':¬ 5 < n:=by omega
 have hdl:(Qco n g).length=n:=by rw [Qco,Qd8];simp
 have lo:=Jgu n hn (Qco n g) hdl h ch h21 [I n,L2 g cg] 1025 0 (A0 g cg) [] (by omega) (by simp [A0]) (met0 hg rfl cg)
 rw [show ((0:Nat):Int)=0 from rfl] at lo
 unfold spI
 cases hb:bfs h 1025 0 (A0 g cg) with
 | none =>
   rw [hb] at lo
   refine cW Jct rfl ?_
   repeat (first|apply wA|apply wS|refine wr (by simp [e1,h5,h5'];with_reducible rfl) ?_|refine wq (by simp [e1,h5,h5'];with_reducible rfl) ?_|refine wt (by simpa [e1,h5,h5']) ?_|refine wf (by simpa [e1,h5,h5']) ?_|refine xt (by simpa [e1,h5,h5']) ?_|refine xf (by simpa [e1,h5,h5']) ?_|apply wB|apply Qaa|refine wX ?_|refine wY ?_|refine wR ?_|refine wK ?_|refine wE ?_)
   refine Qal lo ?_
   rintro ex st ⟨rfl,A',i',B',rfl⟩
   simp only [if_true]
   repeat (first|apply wA|apply wS|refine wr (by simp;with_reducible rfl) ?_|refine wq (by simp;with_reducible rfl) ?_|refine wt (by simpa) ?_|refine wf (by simpa) ?_|refine xt (by simpa) ?_|refine xf (by simpa) ?_|apply wB|apply Qaa|refine wX ?_|refine wY ?_|refine wR ?_|refine wK ?_|refine wE ?_)
   simp [Qpp,spV]
 | some p =>
   obtain ⟨k,A'⟩:=p
   rw [hb] at lo
   refine cW Jct rfl ?_
   repeat (first|apply wA|apply wS|refine wr (by simp [e1,h5,h5'];with_reducible rfl) ?_|refine wq (by simp [e1,h5,h5'];with_reducible rfl) ?_|refine wt (by simpa [e1,h5,h5']) ?_|refine wf (by simpa [e1,h5,h5']) ?_|refine xt (by simpa [e1,h5,h5']) ?_|refine xf (by simpa [e1,h5,h5']) ?_|apply wB|apply Qaa|refine wX ?_|refine wY ?_|refine wR ?_|refine wK ?_|refine wE ?_)
   refine Qal lo ?_
   rintro ex st ⟨rfl,B',rfl⟩
   simp [Qpp,spV]
end Go.Idl
namespace Go.Idl
open Go
def Qcp (g h:List (Int×Int)):Nat:=(g.filter fun e=>!has h e.1 e.2).length
theorem Qlp (e:Int×Int) (g h:List (Int×Int)):Qcp (e::g) h=(if has h e.1 e.2=true then 0 else 1)+Qcp g h:=by
 rw [Qcp,Qcp,List.filter_cons]
 cases has h e.1 e.2 <;> simp [Nat.add_comm]
theorem Ja9 (g h:List (Int×Int)):Qcp g h≤g.length:=List.length_filter_le ..
theorem Qpd (n m:Int) (g h:List (Int×Int)) (cg ch:Bool) (hg:g.length≤1000) (hh:h.length≤1000):Ev tb Qsq [] [Gr n g cg,Gr m h ch] [] ⟨I (Qcp g h+Qcp h g:Nat),[],[],[]⟩:=by
 have l1:∀ (k i c:Nat),i+k=g.length→c≤i→wp tb (.loop Jey) { T:=[(2,.bptr 0 0 0),(3,.bptr 0 1 0),(5,I c),(6,I i)],loc:=[[I n,L2 g cg],[I m,L2 h ch]],M:=[] }
  (fun ex st=>ex=.exit 0∧st={ T:=[(2,.bptr 0 0 0),(3,.bptr 0 1 0),(5,I (c+Qcp (g.drop i) h:Nat)),(6,I g.length),(12,Bo false)],loc:=[[I n,L2 g cg],[I m,L2 h ch]],M:=[] }):=by
  intro k
  induction k with
  | zero =>
    intro i c hi hc
    have h3:i=g.length:=hi
    subst h3
    refine wW ?_
    repeat (first|apply wA|apply wS|refine wr (by simp;with_reducible rfl) ?_|refine wq (by simp;with_reducible rfl) ?_|refine wt (by simpa) ?_|refine wf (by simpa) ?_|refine xt (by simpa) ?_|refine xf (by simpa) ?_|apply wB|apply Qaa|refine wX ?_|refine wY ?_|refine wR ?_|refine wK ?_|refine wE ?_)
    exact ⟨rfl,by simp [Qcp]⟩
  | succ k ih =>
    intro i c hi hc
    have hi2:i < g.length:=by omega
    have w1:IntKind.i64.wrap ((i:Int)+1)=((i+1:Nat):Int):=Qbe (by omega)
    have w2:IntKind.i64.wrap ((c:Int)+1)=((c+1:Nat):Int):=Qbe (by omega)
    have hd:g.drop i=g[i]::g.drop (i+1):=List.drop_eq_getElem_cons hi2
    obtain ⟨⟨a,b⟩,he⟩:∃ e,e=g[i]:=⟨_,rfl⟩
    have he2:=he.symm
    have e1:=fun c=>Qab (Qfs m h c a b (by omega))
    rw [hd,he2,Qlp]
    cases hv:has h a b with
    | true =>
      rw [hv] at e1
      refine wW ?_
      repeat (first|apply wA|apply wS|refine wr (by simp [hi2,he2,e1,w1];with_reducible rfl) ?_|refine wq (by simp [hi2,he2,e1,w1];with_reducible rfl) ?_|refine wt (by simpa [hi2,he2,e1,w1]) ?_|refine wf (by simpa [hi2,he2,e1,w1]) ?_|refine xt (by simpa [hi2,he2,e1,w1]) ?_|refine xf (by simpa [hi2,he2,e1,w1]) ?_|apply wB|apply Qaa|refine wX ?_|refine wY ?_|refine wR ?_|refine wK ?_|refine wE ?_)
      simpa using ih (i+1) c (by omega) (by omega)
    | false =>
      rw [hv] at e1
      refine wW ?_
      repeat (first|apply wA|apply wS|refine wr (by simp [hi2,he2,e1,w1,w2];with_reducible rfl) ?_|refine wq (by simp [hi2,he2,e1,w1,w2];with_reducible rfl) ?_|refine wt (by simpa [hi2,he2,e1,w1,w2]) ?_|refine wf (by simpa [hi2,he2,e1,w1,w2]) ?_|refine xt (by simpa [hi2,he2,e1,w1,w2]) ?_|refine xf (by simpa [hi2,he2,e1,w1,w2]) ?_|apply wB|apply Qaa|refine wX ?_|refine wY ?_|refine wR ?_|refine wK ?_|refine wE ?_)
      have:=ih (i+1) (c+1) (by omega) (by omega)
      simpa [Nat.add_assoc,Int.add_assoc] using this
 have l2:∀ (k i c:Nat),i+k=h.length→c≤1000+i→wp tb (.loop Qys) { T:=[(2,.bptr 0 0 0),(3,.bptr 0 1 0),(5,I c),(7,I i)],loc:=[[I n,L2 g cg],[I m,L2 h ch]],M:=[] }
  (fun ex st=>ex=.exit 2∧st={ T:=[(2,.bptr 0 0 0),(3,.bptr 0 1 0),(5,I (c+Qcp (h.drop i) g:Nat)),(7,I h.length),(36,Bo false)],loc:=[[I n,L2 g cg],[I m,L2 h ch]],M:=[] }):=by
  intro k
  induction k with
  | zero =>
    intro i c hi hc
    have h3:i=h.length:=hi
    subst h3
    refine wW ?_
    repeat (first|apply wA|apply wS|refine wr (by simp;with_reducible rfl) ?_|refine wq (by simp;with_reducible rfl) ?_|refine wt (by simpa) ?_|refine wf (by simpa) ?_|refine xt (by simpa) ?_|refine xf (by simpa) ?_|apply wB|apply Qaa|refine wX ?_|refine wY ?_|refine wR ?_|refine wK ?_|refine wE ?_)
    exact ⟨rfl,by simp [Qcp]⟩
  | succ k ih =>
    intro i c hi hc
    have hi2:i < h.length:=by omega
    have w1:IntKind.i64.wrap ((i:Int)+1)=((i+1:Nat):Int):=Qbe (by omega)
    have w2:IntKind.i64.wrap ((c:Int)+1)=((c+1:Nat):Int):=Qbe (by omega)
    have hd:h.drop i=h[i]::h.drop (i+1):=List.drop_eq_getElem_cons hi2
    obtain ⟨⟨a,b⟩,he⟩:∃ e,e=h[i]:=⟨_,rfl⟩
    have he2:=he.symm
    have e1:=fun c=>Qab (Qfs n g c a b (by omega))
    rw [hd,he2,Qlp]
    cases hv:has g a b with
    | true =>
      rw [hv] at e1
      refine wW ?_
      repeat (first|apply wA|apply wS|refine wr (by simp [hi2,he2,e1,w1];with_reducible rfl) ?_|refine wq (by simp [hi2,he2,e1,w1];with_reducible rfl) ?_|refine wt (by simpa [hi2,he2,e1,w1]) ?_|refine wf (by simpa [hi2,he2,e1,w1]) ?_|refine xt (by simpa [hi2,he2,e1,w1]) ?_|refine xf (by simpa [hi2,he2,e1,w1]) ?_|apply wB|apply Qaa|refine wX ?_|refine wY ?_|refine wR ?_|refine wK ?_|refine wE ?_)
      simpa using ih (i+1) c (by omega) (by omega)
    | false =>
      rw [hv] at e1
      refine wW ?_
      repeat (first|apply wA|apply wS|refine wr (by simp [hi2,he2,e1,w1,w2];with_reducible rfl) ?_|refine wq (by simp [hi2,he2,e1,w1,w2];with_reducible rfl) ?_|refine wt (by simpa [hi2,he2,e1,w1,w2]) ?_|refine wf (by simpa [hi2,he2,e1,w1,w2]) ?_|refine xt (by simpa [hi2,he2,e1,w1,w2]) ?_|refine xf (by simpa [hi2,he2,e1,w1,w2]) ?_|apply wB|apply Qaa|refine wX ?_|refine wY ?_|refine wR ?_|refine wK ?_|refine wE ?_)
      have:=ih (i+1) (c+1) (by omega) (by omega)
      simpa [Nat.add_assoc,Int.add_assoc] using this
 have q1:=l1 g.length 0 0 (by omega) (by omega)
 have hl:=Ja9 g h
 have q2:=l2 h.length 0 (Qcp g h) (by omega) (by omega)
 rw [List.drop_zero,Nat.zero_add] at q1
 rw [List.drop_zero] at q2
 refine cW Jzm rfl ?_
 repeat (first|apply wA|apply wS|refine wr (by simp;with_reducible rfl) ?_|refine wq (by simp;with_reducible rfl) ?_|refine wt (by simpa) ?_|refine wf (by simpa) ?_|refine xt (by simpa) ?_|refine xf (by simpa) ?_|apply wB|apply Qaa|refine wX ?_|refine wY ?_|refine wR ?_|refine wK ?_|refine wE ?_)
 refine Qal q1 ?_
 rintro ex st ⟨rfl,rfl⟩
 simp only [if_true]
 repeat (first|apply wA|apply wS|refine wr (by simp;with_reducible rfl) ?_|refine wq (by simp;with_reducible rfl) ?_|refine wt (by simpa) ?_|refine wf (by simpa) ?_|refine xt (by simpa) ?_|refine xf (by simpa) ?_|apply wB|apply Qaa|refine wX ?_|refine wY ?_|refine wR ?_|refine wK ?_|refine wE ?_)
 refine Qal q2 ?_
 rintro ex st ⟨rfl,rfl⟩
 simp only [if_true]
 repeat (first|apply wA|apply wS|refine wr (by simp;with_reducible rfl) ?_|refine wq (by simp;with_reducible rfl) ?_|refine wt (by simpa) ?_|refine wf (by simpa) ?_|refine xt (by simpa) ?_|refine xf (by simpa) ?_|apply wB|apply Qaa|refine wX ?_|refine wY ?_|refine wR ?_|refine wK ?_|refine wE ?_)
 simp [Jce]
abbrev Ps:=(List (Int×Int)×Bool)×List Q4
def rcl (n:Int) (A:List Ps):List (List IV):=A.map fun t=>[I n,L2 t.1.1 t.1.2,L4 t.2 false]
@[simp] theorem Jy6 (n:Int) (A:List Ps):(rcl n A).length=A.length:=by simp [rcl]
@[simp] theorem rcl_get? (n:Int) (A:List Ps) (i:Nat):(rcl n A)[i]? = A[i]?.map fun t=>[I n,L2 t.1.1 t.1.2,L4 t.2 false]:=by simp [rcl]
@[simp] theorem Jzp (n:Int) (A:List Ps) (i:Nat) (h:i < (rcl n A).length):(rcl n A)[i]=[I n,L2 (A[i]'(by simpa using h)).1.1 (A[i]'(by simpa using h)).1.2,L4 (A[i]'(by simpa using h)).2 false]:=by simp [rcl]
theorem Qn6 (n:Int) (A:List Ps) (c:Bool) (g:List (Int×Int)) (cg:Bool) (hA:A.length≤2000000) (hl:∀ t ∈ A,t.1.1.length≤1000) (hg:g.length≤1000) :
 ∃ r:Int,decide (r < 0)=(A.all fun t=>!decide (Qcp t.1.1 g+Qcp g t.1.1=0))∧Ev tb Qsr [] [.lst 3 (rcl n A) c,Gr n g cg] [] ⟨I r,[],[],[]⟩:=by
 have loop:∀ (m i:Nat),i+m=A.length→wp tb (.loop Jen) { T:=[(0,.lst 3 (rcl n A) c),(3,.bptr 0 0 0),(5,I i)],loc:=[[I n,L2 g cg]],M:=[] }
  (fun ex st=>(ex=.exit 0∧((A.drop i).all fun t=>!decide (Qcp t.1.1 g+Qcp g t.1.1=0))=true∧st={ T:=[(0,.lst 3 (rcl n A) c),(3,.bptr 0 0 0),(5,I A.length),(9,Bo false)],loc:=[[I n,L2 g cg]],M:=[] }) ∨
    ex=.ret∧((A.drop i).all fun t=>!decide (Qcp t.1.1 g+Qcp g t.1.1=0))=false∧∃ k:Nat,st={ T:=[(4,I k)],loc:=[[I n,L2 g cg]],M:=[] }):=by
  intro m
  induction m with
  | zero =>
    intro i hi
    have h3:i=A.length:=hi
    subst h3
    refine wW ?_
    repeat (first|apply wA|apply wS|refine wr (by simp;with_reducible rfl) ?_|refine wq (by simp;with_reducible rfl) ?_|refine wt (by simpa) ?_|refine wf (by simpa) ?_|refine xt (by simpa) ?_|refine xf (by simpa) ?_|apply wB|apply Qaa|refine wX ?_|refine wY ?_|refine wR ?_|refine wK ?_|refine wE ?_)
    exact .inl ⟨rfl,by simp,rfl⟩
  | succ m ih =>
    intro i hi
    have hi2:i < A.length:=by omega
    have h2:A.drop i=A[i]::A.drop (i+1):=List.drop_eq_getElem_cons hi2
    have hll:=hl _ (List.getElem_mem hi2)
    have w1:IntKind.i64.wrap ((i:Int)+1)=((i+1:Nat):Int):=Qbe (by omega)
    have hn:=ih (i+1) (by omega)
    obtain ⟨⟨⟨h,ch⟩,p⟩,ht⟩:∃ t,t=A[i]:=⟨_,rfl⟩
    have ht2:=ht.symm
    rw [ht2] at hll
    have e1:=fun c1 c2=>Qab (Qpd n n h g c1 c2 hll hg)
    rw [h2,ht2,List.all_cons]
    simp only
    generalize Qcp h g+Qcp g h=k at *
    by_cases hk:k=0
    · subst hk
      refine wW ?_
      repeat (first|apply wA|apply wS|refine wr (by simp [e1,hi2,ht2,w1];with_reducible rfl) ?_|refine wq (by simp [e1,hi2,ht2,w1];with_reducible rfl) ?_|refine wt (by simpa [e1,hi2,ht2,w1]) ?_|refine wf (by simpa [e1,hi2,ht2,w1]) ?_|refine xt (by simpa [e1,hi2,ht2,w1]) ?_|refine xf (by simpa [e1,hi2,ht2,w1]) ?_|apply wB|apply Qaa|refine wX ?_|refine wY ?_|refine wR ?_|refine wK ?_|refine wE ?_)
      exact .inr ⟨rfl,rfl,i,rfl⟩
    · have hk2:¬ (k:Int)=0:=by omega
      refine wW ?_
      repeat (first|apply wA|apply wS|refine wr (by simp [e1,hi2,ht2,w1,hk,hk2];with_reducible rfl) ?_|refine wq (by simp [e1,hi2,ht2,w1,hk,hk2];with_reducible rfl) ?_|refine wt (by simpa [e1,hi2,ht2,w1,hk,hk2]) ?_|refine wf (by simpa [e1,hi2,ht2,w1,hk,hk2]) ?_|refine xt (by simpa [e1,hi2,ht2,w1,hk,hk2]) ?_|refine xf (by simpa [e1,hi2,ht2,w1,hk,hk2]) ?_|apply wB|apply Qaa|refine wX ?_|refine wY ?_|refine wR ?_|refine wK ?_|refine wE ?_)
      simpa [hk] using hn
 have l0:=loop A.length 0 (by omega)
 rw [List.drop_zero,show ((0:Nat):Int)=0 from rfl] at l0
 suffices hh:∃ r,(∃ q:Int,decide (q < 0)=(A.all fun t=>!decide (Qcp t.1.1 g+Qcp g t.1.1=0))∧r=(⟨I q,[],[],[]⟩:Ret))∧Ev tb Qsr [] [.lst 3 (rcl n A) c,Gr n g cg] [] r by
  obtain ⟨r,⟨q,h1,rfl⟩,h⟩:=hh
  exact ⟨q,h1,h⟩
 refine Qel zt491 rfl ?_
 repeat (first|apply wA|apply wS|refine wr (by simp;with_reducible rfl) ?_|refine wq (by simp;with_reducible rfl) ?_|refine wt (by simpa) ?_|refine wf (by simpa) ?_|refine xt (by simpa) ?_|refine xf (by simpa) ?_|apply wB|apply Qaa|refine wX ?_|refine wY ?_|refine wR ?_|refine wK ?_|refine wE ?_)
 refine Qal l0 ?_
 rintro ex st (⟨rfl,h,rfl⟩ | ⟨rfl,h,k,rfl⟩)
 · simp only [if_true]
   repeat (first|apply wA|apply wS|refine wr (by simp;with_reducible rfl) ?_|refine wq (by simp;with_reducible rfl) ?_|refine wt (by simpa) ?_|refine wf (by simpa) ?_|refine xt (by simpa) ?_|refine xf (by simpa) ?_|apply wB|apply Qaa|refine wX ?_|refine wY ?_|refine wR ?_|refine wK ?_|refine wE ?_)
   refine ⟨.inr rfl,_,⟨-1,by rw [h];rfl,rfl⟩,?_⟩
   simp [Qxk]
 · refine ⟨.inr rfl,_,⟨(k:Int),by rw [h];exact decide_eq_false (by omega),rfl⟩,?_⟩
   simp [Qxk]
end Go.Idl
namespace Go.Idl
open Go
theorem Qpr {n:Nat} {d:List Int} {A:List Vs} (hA:Met n d A) (X:List Vs):∀ (m k:Nat),k < A.length→chn (A++X) m k=chn A m k:=by
 intro m
 induction m with
 | zero=>intro k _;rfl
 | succ m ih =>
   intro k hk
   have hk2:A[k]? = some A[k]:=List.getElem?_eq_getElem hk
   have hfr:=hA.fr k _ hk2
   rw [chn,chn,Int.toNat_natCast,List.getElem?_append_left hk,hk2]
   simp only
   by_cases hf:0≤A[k].2.1
   · rw [if_pos hf,if_pos hf]
     obtain ⟨p,hp⟩:=Int.eq_ofNat_of_zero_le hf
     rw [hp] at hfr ⊢
     rw [ih p (by omega)]
   · rw [if_neg hf,if_neg hf]
theorem Qra {n:Nat} {d:List Int} {A:List Vs} (hA:Met n d A):∀ (m m' k:Nat),k < A.length→k < m→m≤m'→chn A m' k=chn A m k:=by
 intro m
 induction m with
 | zero=>intro m' k _ h;omega
 | succ m ih =>
   intro m' k hk hm hmm
   obtain ⟨m',rfl⟩:∃ x,m'=x+1:=⟨m' - 1,by omega⟩
   have hk2:A[k]? = some A[k]:=List.getElem?_eq_getElem hk
   have hfr:=hA.fr k _ hk2
   rw [chn,chn,Int.toNat_natCast,hk2]
   simp only
   by_cases hf:0≤A[k].2.1
   · rw [if_pos hf,if_pos hf]
     obtain ⟨p,hp⟩:=Int.eq_ofNat_of_zero_le hf
     rw [hp] at hfr ⊢
     rw [ih m' p (by omega) (by omega) (by omega)]
   · rw [if_neg hf,if_neg hf]
theorem Qw7 (A:List Vs):∀ (m:Nat) (k:Int),(chn A m k).length≤m:=by
 intro m
 induction m with
 | zero=>intro k;simp [chn]
 | succ m ih =>
   intro k
   rw [chn]
   split
   · simp
   · rename_i t _
     split
     · have:=ih t.2.1
       simp;omega
     · simp
def pth (A:List Vs):List Ps:=A.zipIdx.map fun p=>(p.1.1,(chn A (p.2+1) p.2).reverse)
theorem Qd2 (A:List Vs):(pth A).length=A.length:=by simp [pth]
theorem pth_get? (A:List Vs) (k:Nat):(pth A)[k]? = A[k]?.map fun t=>(t.1,(chn A (k+1) k).reverse):=by
 simp [pth,List.getElem?_zipIdx,Function.comp_def]
theorem Jfy {n:Nat} {d:List Int} {A:List Vs} (hA:Met n d A) (x:List (Int×Int)×Bool) (i:Nat) (s:Q4) (hi:i < A.length) (hA2:Met n d (A++[(x,(i:Int),s)])) :
 pth (A++[(x,(i:Int),s)])=pth A++[(x,(chn A (i+1) i).reverse++[s])]:=by
 refine List.ext_getElem? fun k=>?_
 rw [pth_get?]
 by_cases hk:k < A.length
 · rw [List.getElem?_append_left hk,List.getElem?_append_left (by rw [Qd2];exact hk),pth_get?,Qpr hA _ _ _ hk]
 · by_cases hk2:k=A.length
   · subst hk2
     rw [List.getElem?_append_right (Nat.le_refl _),List.getElem?_append_right (by rw [Qd2];omega)]
     simp only [Nat.sub_self,List.getElem?_cons_zero,Option.map_some,Qd2]
     have h1:chn (A++[(x,(i:Int),s)]) (A.length+1) A.length=s::chn A (i+1) i:=by
      rw [chn,Int.toNat_natCast,List.getElem?_append_right (Nat.le_refl _),Nat.sub_self]
      simp only [List.getElem?_cons_zero]
      rw [if_pos (by omega),Qpr hA _ _ _ hi,Qra hA (i+1) A.length i hi (by omega) (by omega)]
     rw [h1,List.reverse_cons]
   · rw [List.getElem?_eq_none (by simp;omega),List.getElem?_eq_none (by simp [Qd2];omega)];rfl
def rco (n:Int) (A:List Ps):List (List IV):=A.map fun t=>[I n,L2 t.1.1 t.1.2,O4 t.2]
@[simp] theorem Jy1 (n:Int) (A:List Ps):(rco n A).length=A.length:=by simp [rco]
@[simp] theorem rco_get? (n:Int) (A:List Ps) (i:Nat):(rco n A)[i]? = A[i]?.map fun t=>[I n,L2 t.1.1 t.1.2,O4 t.2]:=by simp [rco]
@[simp] theorem rco_get (n:Int) (A:List Ps) (i:Nat) (h:i < (rco n A).length):(rco n A)[i]=[I n,L2 (A[i]'(by simpa using h)).1.1 (A[i]'(by simpa using h)).1.2,O4 (A[i]'(by simpa using h)).2]:=by simp [rco]
@[simp] theorem Jxt (n:Int) (A:List Ps) (k:Nat):(rco n A).take k=rco n (A.take k):=by simp [rco,List.map_take]
@[simp] theorem rco_app (n:Int) (A:List Ps) (es:List (Int×Int)) (c:Bool) (p:List Q4):rco n A++[[IV.sc (.int .i64 n),.lst 2 (eds es) c,.own 4 (sws p)]]=rco n (A++[((es,c),p)]):=by simp [rco]
@[simp] theorem rco_emp (n:Int) (A:List Ps):(rco n A).isEmpty=A.isEmpty:=by cases A <;> rfl
@[simp] theorem rco_all (n:Int) (A:List Ps):((rco n A).all fun x=>x.all IV.isData)=true:=by
  induction A with
  | nil=>rfl
  | cons x xs ih=>simp only [rco,List.map_cons,List.all_cons] at *;rw [ih];rfl
@[simp] theorem frz_rco (n:Int) (A:List Ps):Qcf (rco n A)=rcl n A:=by
  induction A with
  | nil=>rfl
  | cons x xs ih=>simp only [rco,rcl,List.map_cons,Qcf,Qc2,Qgc,Jiu] at *;rw [ih]
theorem Qh5 {n:Nat} {g h:List (Int×Int)} (hg:Qac n g=true) (hh:Qac n h=true):(Qcp g h+Qcp h g=0) ↔ g=h:=by
 have one:∀ {g h:List (Int×Int)},Qac n g=true→Qac n h=true→Qcp g h=0→∀ e ∈ g,e ∈ h:=fun {g h} hg hh h0 e he=>by
  have h1:=List.length_eq_zero_iff.1 h0
  have h2:=List.filter_eq_nil_iff.1 h1 e he
  have hp:=Qay.1 ((Qaz.1 hg).2.1 e he)
  simp only [Bool.not_eq_true,Bool.not_eq_false'] at h2
  rw [has,List.any_eq_true] at h2
  obtain ⟨f,hf,hq⟩:=h2
  have hpf:=Qay.1 ((Qaz.1 hh).2.1 f hf)
  simp only [isE,Bool.or_eq_true,Qba,decide_eq_true_eq] at hq
  have:e=f:=Prod.ext (by omega) (by omega)
  rwa [this]
 constructor
 · intro h0
   exact Qif (Qaz.1 hg).1 (Qaz.1 hh).1 fun e=>⟨one hg hh (by omega) e,one hh hg (by omega) e⟩
 · rintro rfl
   have:Qcp g g=0:=by
    rw [Qcp,List.length_eq_zero_iff,List.filter_eq_nil_iff]
    intro e he
    simp only [Bool.not_eq_true,Bool.not_eq_false',has,List.any_eq_true]
    exact ⟨e,he,by simp [isE]⟩
   omega
set_option maxHeartbeats 4000000 in
theorem ss_in (n:Nat) (hn:n≤5) (d:List Int) (hd:d.length=n) (g:List (Int×Int)) (hg:Qac n g=true) (hdg:Qco n g=d) (i:Nat) (sl:List Q4) (hsl:sl.length≤2000000) (hs:∀ s ∈ sl,Qdc g s.1 s.2.1 s.2.2.1 s.2.2.2=true) (b0 b1:List IV) :
 ∀ (m j:Nat) (A:List Vs) (B:Qae),j+m=sl.length→Met n d A→(∃ c f q,A[i]? = some ((g,c),f,q)) →
 wp tb (.loop Qv1) { T:=[(3,.bptr 0 1 0),(6,.own 3 (rco n (pth A))),(7,I i),(8,O4 sl),(9,I j)],loc:=b0::b1::B,M:=[] }
  (fun ex st=>ex=.exit 2∧∃ B',st={ T:=[(3,.bptr 0 1 0),(6,.own 3 (rco n (pth (bfA g i (sl.drop j) A)))),(7,I i),(8,O4 sl),(9,I sl.length),(63,Bo false)],loc:=b0::b1::B',M:=[] }):=by
 intro m
 induction m with
 | zero =>
   intro j A B hj hA hAi
   have h3:j=sl.length:=hj
   subst h3
   rw [List.drop_length,bfA]
   refine wW ?_
   repeat (first|apply wA|apply wS|refine wr (by simp;with_reducible rfl) ?_|refine wq (by simp;with_reducible rfl) ?_|refine wt (by simpa) ?_|refine wf (by simpa) ?_|refine xt (by simpa) ?_|refine xf (by simpa) ?_|apply wB|apply Qaa|refine wX ?_|refine wY ?_|refine wR ?_|refine wK ?_|refine wE ?_)
   exact ⟨rfl,B,rfl⟩
 | succ m ih =>
   intro j A B hj hA hAi
   have hj2:j < sl.length:=by omega
   have hdr:sl.drop j=sl[j]::sl.drop (j+1):=List.drop_eq_getElem_cons hj2
   obtain ⟨cg,f,q,hAi'⟩:=hAi
   have hi:i < A.length:=(List.getElem?_eq_some_iff.1 hAi').1
   obtain ⟨P,hP⟩:∃ P,P=(chn A (i+1) i).reverse:=⟨_,rfl⟩
   have hPl:P.length≤i+1:=by rw [hP,List.length_reverse];exact Qw7 A (i+1) i
   have hpi:(pth A)[i]? = some ((g,cg),P):=by rw [pth_get?,hAi',hP];rfl
   have hip:i < (pth A).length:=by rw [Qd2];exact hi
   have hpi2:(pth A)[i]=((g,cg),P):=(List.getElem?_eq_some_iff.1 hpi).2
   have w1:IntKind.i64.wrap ((j:Int)+1)=((j+1:Nat):Int):=Qbe (by omega)
   have hmay:=hs _ (List.getElem_mem hj2)
   obtain ⟨⟨a,b,x,y⟩,hx⟩:∃ s,s=sl[j]:=⟨_,rfl⟩
   have hx2:=hx.symm
   rw [hx2] at hmay hdr
   simp only at hmay
   have h21:=Qkn (by omega) hg
   have e1:=fun cc=>Qab (Qkc n g cc a b x y (by omega))
   rw [Jng hg hmay] at e1
   have hAl:=hA.few hn hd
   obtain ⟨-,-,k3,-⟩:=Qcw hg hmay
   have hR21:=Qkn (by omega) k3
   have hvp:∀ t ∈ pth A,Qac n t.1.1=true:=fun t ht=>by
    obtain ⟨k,hk⟩:=List.mem_iff_getElem?.1 ht
    rw [pth_get?] at hk
    cases hq:A[k]? with
    | none=>rw [hq] at hk;cases hk
    | some u =>
      rw [hq] at hk
      simp only [Option.map_some,Qoi] at hk
      subst hk
      exact (hA.v u (List.mem_of_getElem? hq)).1
   obtain ⟨r,hr,E⟩:=Qn6 n (pth A) false (sw g a b x y) false (by rw [Qd2];omega) (fun t ht=>by have:=Qkn (by omega) (hvp t ht);omega) (by omega)
   have e2:=Qab E
   have hr2:decide (r < 0)=!(A.any fun t=>decide (t.1.1=swq g (a,b,x,y))):=by
    rw [hr,List.not_any_eq_all_not,Bool.eq_iff_iff,List.all_eq_true,List.all_eq_true]
    constructor
    · intro h t ht
      obtain ⟨k,hk⟩:=List.mem_iff_getElem?.1 ht
      have hm:(t.1,(chn A (k+1) k).reverse) ∈ pth A:=List.mem_of_getElem? (i:=k) (by rw [pth_get?,hk];rfl)
      have:=h _ hm
      simp only [Bool.not_eq_true',decide_eq_false_iff_not] at this ⊢
      intro he
      exact this ((Qh5 (hvp _ hm) k3).2 he)
    · intro h t ht
      obtain ⟨k,hk⟩:=List.mem_iff_getElem?.1 ht
      rw [pth_get?] at hk
      cases hq:A[k]? with
      | none=>rw [hq] at hk;cases hk
      | some u =>
        rw [hq] at hk
        simp only [Option.map_some,Qoi] at hk
        have:=h u (List.mem_of_getElem? hq)
        simp only [Bool.not_eq_true',decide_eq_false_iff_not] at this ⊢
        intro he
        have hv:=hvp t ht
        subst hk
        exact this ((Qh5 hv k3).1 he)
   rw [hdr,bfA]
   simp only [swq] at hr2 ⊢
   cases hq:A.any fun t=>decide (t.1.1=sw g a b x y) with
   | true =>
     rw [hq] at hr2
     have hr3:¬ r < 0:=by simpa using hr2
     simp only [if_true]
     have hnx:=fun B=>ih (j+1) A B (by omega) hA ⟨cg,f,q,hAi'⟩
     generalize sw g a b x y=R at *
     refine wW ?_
     repeat (first|apply wA|apply wS|refine wr (by simp [hj2,hx2,w1];with_reducible rfl) ?_|refine wq (by simp [hj2,hx2,w1];with_reducible rfl) ?_|refine wt (by simpa [hj2,hx2,w1]) ?_|refine wf (by simpa [hj2,hx2,w1]) ?_|refine xt (by simpa [hj2,hx2,w1]) ?_|refine xf (by simpa [hj2,hx2,w1]) ?_|apply wB|apply Qaa|refine wX ?_|refine wY ?_|refine wR ?_|refine wK ?_|refine wE ?_)
     refine Qdt (by simp [hip,hpi2,hpi,hj2,hx2,e1];with_reducible rfl) (by simp;with_reducible rfl) ?_ ?_
     · intro p hp
       simp only [List.mem_cons,List.not_mem_nil,or_false] at hp
       rcases hp with rfl | rfl | rfl | rfl
       · exact ⟨_,by simp [hip,hpi2,hpi,hj2,hx2,e1];with_reducible rfl,by simp⟩
       · exact ⟨_,by simp [hip,hpi2,hpi,hj2,hx2,e1];with_reducible rfl,by simp⟩
       · exact ⟨_,by simp [hip,hpi2,hpi,hj2,hx2,e1];with_reducible rfl,by simp⟩
       · exact ⟨_,by simp [hip,hpi2,hpi,hj2,hx2,e1];with_reducible rfl,by simp⟩
     repeat (first|apply wA|apply wS|refine wr (by simp [e2,hr3,w1];with_reducible rfl) ?_|refine wq (by simp [e2,hr3,w1];with_reducible rfl) ?_|refine wt (by simpa [e2,hr3,w1]) ?_|refine wf (by simpa [e2,hr3,w1]) ?_|refine xt (by simpa [e2,hr3,w1]) ?_|refine xf (by simpa [e2,hr3,w1]) ?_|apply wB|apply Qaa|refine wX ?_|refine wY ?_|refine wR ?_|refine wK ?_|refine wE ?_)
     simpa using hnx (B++[[I n,L2 R false]])
   | false =>
     rw [hq] at hr2
     have hr3:r < 0:=by simpa using hr2
     simp only [Bool.false_eq_true,if_false]
     have hA2:=hA.add hg hdg i hi (s:=(a,b,x,y)) hmay hq
     simp only [swq] at hA2
     have hadd:=Jfy hA (sw g a b x y,false) i (a,b,x,y) hi hA2
     rw [← hP] at hadd
     have hlmP:P.length≤274877906944:=by omega
     have hlmP1:P.length+1≤274877906944:=by omega
     have htP:P.take P.length=P:=List.take_of_length_le (Nat.le_refl _)
     have hlm:(pth A).length+1≤274877906944:=by rw [Qd2];omega
     have htt:(pth A).take (pth A).length=pth A:=List.take_of_length_le (Nat.le_refl _)
     have hnx:=fun B=>ih (j+1) (A++[((sw g a b x y,false),(i:Int),(a,b,x,y))]) B (by omega) hA2 ⟨cg,f,q,by rw [List.getElem?_append_left hi];exact hAi'⟩
     rw [hadd] at hnx
     generalize sw g a b x y=R at *
     generalize pth A=Q at *
     refine wW ?_
     repeat (first|apply wA|apply wS|refine wr (by simp [hj2,hx2,w1];with_reducible rfl) ?_|refine wq (by simp [hj2,hx2,w1];with_reducible rfl) ?_|refine wt (by simpa [hj2,hx2,w1]) ?_|refine wf (by simpa [hj2,hx2,w1]) ?_|refine xt (by simpa [hj2,hx2,w1]) ?_|refine xf (by simpa [hj2,hx2,w1]) ?_|apply wB|apply Qaa|refine wX ?_|refine wY ?_|refine wR ?_|refine wK ?_|refine wE ?_)
     refine Qdt (by simp [hip,hpi2,hpi,hj2,hx2,e1];with_reducible rfl) (by simp;with_reducible rfl) ?_ ?_
     · intro p hp
       simp only [List.mem_cons,List.not_mem_nil,or_false] at hp
       rcases hp with rfl | rfl | rfl | rfl
       · exact ⟨_,by simp [hip,hpi2,hpi,hj2,hx2,e1];with_reducible rfl,by simp⟩
       · exact ⟨_,by simp [hip,hpi2,hpi,hj2,hx2,e1];with_reducible rfl,by simp⟩
       · exact ⟨_,by simp [hip,hpi2,hpi,hj2,hx2,e1];with_reducible rfl,by simp⟩
       · exact ⟨_,by simp [hip,hpi2,hpi,hj2,hx2,e1];with_reducible rfl,by simp⟩
     repeat (first|apply wA|apply wS|refine wr (by simp [e2,hr3,w1];with_reducible rfl) ?_|refine wq (by simp [e2,hr3,w1];with_reducible rfl) ?_|refine wt (by simpa [e2,hr3,w1]) ?_|refine wf (by simpa [e2,hr3,w1]) ?_|refine xt (by simpa [e2,hr3,w1]) ?_|refine xf (by simpa [e2,hr3,w1]) ?_|apply wB|apply Qaa|refine wX ?_|refine wY ?_|refine wR ?_|refine wK ?_|refine wE ?_)
     refine Jix (by simp) (by simp [hip,hpi2,hpi,hj2,hx2,hlmP,hlmP1,htP,hlm,htt];with_reducible rfl) (by simp;with_reducible rfl) (fun _ h=>nomatch h) ?_
     repeat (first|apply wA|apply wS|refine wr (by simp [w1];with_reducible rfl) ?_|refine wq (by simp [w1];with_reducible rfl) ?_|refine wt (by simpa [w1]) ?_|refine wf (by simpa [w1]) ?_|refine xt (by simpa [w1]) ?_|refine xf (by simpa [w1]) ?_|apply wB|apply Qaa|refine wX ?_|refine wY ?_|refine wR ?_|refine wK ?_|refine wE ?_)
     simpa using hnx (B++[[I n,L2 R false]])
end Go.Idl
namespace Go.Idl
open Go
theorem Jaw {n:Nat} {d:List Int} {g:List (Int×Int)} (hg:Qac n g=true) (hdg:Qco n g=d) (i:Nat) (A:List Vs) (hA:Met n d A) (hi:i < A.length):Met n d (bfA g i (swl g g) A) :=
 (Qm8 hg hdg i (swl g g) A (fun s hs=>(Qnw hg hs).may) hA hi).1
abbrev pArr (A:List Vs) (k:Nat):IV:=.arr (.S 6) 0 [(k,2)] 4 0 (chn A (k+1) k).length false
set_option maxHeartbeats 4000000 in
theorem Jxs (n:Nat) (hn:n≤5) (d:List Int) (hd:d.length=n) (h:List (Int×Int)) (ch:Bool) (hh:Qac n h=true) (b0:List IV):∀ (m i:Nat) (A:List Vs) (B:Qae),i+m=1025→i≤A.length→Met n d A →
 wp tb (.loop Qu3) { T:=[(3,.bptr 0 1 0),(6,.own 3 (rco n (pth A))),(7,I i)],loc:=b0::[I n,L2 h ch]::B,M:=[] }
  (fun ex st=>match bfs h m i A with
    | none=>ex=.exit 0∧∃ A' i' B',st={ T:=[(3,.bptr 0 1 0),(6,.own 3 (rco n (pth A'))),(7,I i'),(38,Bo false)],loc:=b0::[I n,L2 h ch]::B',M:=[] }
    | some (k,A')=>ex=.ret∧k < A'.length∧∃ B',st={ T:=[(4,pArr A' k),(5,Bo true),(6,.own 3 (rco n (pth A')))],loc:=b0::[I n,L2 h ch]::B',M:=[] }):=by
 intro m
 induction m with
 | zero =>
   intro i A B hi hiA hA
   have:=hA.few hn hd
   omega
 | succ m ih =>
   intro i A B hi hiA hA
   have hAl:=hA.few hn hd
   by_cases hie:i=A.length
   · subst hie
     have hb:bfs h (m+1) A.length A=none:=by
      rw [bfs,List.getElem?_eq_none (Nat.le_refl _)]
     rw [hb]
     have hpl:=Qd2 A
     refine wW ?_
     repeat (first|apply wA|apply wS|refine wr (by simp [hpl];with_reducible rfl) ?_|refine wq (by simp [hpl];with_reducible rfl) ?_|refine wt (by simpa [hpl]) ?_|refine wf (by simpa [hpl]) ?_|refine xt (by simpa [hpl]) ?_|refine xf (by simpa [hpl]) ?_|apply wB|apply Qaa|refine wX ?_|refine wY ?_|refine wR ?_|refine wK ?_|refine wE ?_)
     exact ⟨rfl,A,A.length,B,rfl⟩
   have hi2:i < A.length:=by omega
   have hk:A[i]? = some A[i]:=List.getElem?_eq_getElem hi2
   have hv:=hA.v _ (List.getElem_mem hi2)
   obtain ⟨⟨⟨g,c⟩,f,q⟩,ht⟩:∃ t,t=A[i]:=⟨_,rfl⟩
   have ht2:=ht.symm
   rw [ht2] at hv hk
   have hg:Qac n g=true:=hv.1
   have hdg:Qco n g=d:=hv.2
   have hg21:=Qkn (by omega) hg
   have hh21:=Qkn (by omega) hh
   have w1:IntKind.i64.wrap ((i:Int)+1)=((i+1:Nat):Int):=Qbe (by omega)
   obtain ⟨P,hP⟩:∃ P,P=(chn A (i+1) i).reverse:=⟨_,rfl⟩
   have hPl:P.length=(chn A (i+1) i).length:=by rw [hP,List.length_reverse]
   have hpi:(pth A)[i]? = some ((g,c),P):=by rw [pth_get?,hk,hP];rfl
   have hip:i < (pth A).length:=by rw [Qd2];exact hi2
   have hpi2:(pth A)[i]=((g,c),P):=(List.getElem?_eq_some_iff.1 hpi).2
   have e1:=fun c1 c2=>Qab (Qpd n n g h c1 c2 (by omega) (by omega))
   have hb:bfs h (m+1) i A=if g=h then some (i,A) else bfs h m (i+1) (bfA g i (swl g g) A):=by
    rw [bfs,hk]
   rw [hb]
   have hz:=@Qh5 n g h hg hh
   generalize Qcp g h+Qcp h g=z at *
   by_cases hgh:g=h
   · rw [if_pos hgh]
     have hz0:=hz.2 hgh
     subst hz0
     dsimp only
     rw [pArr,← hPl]
     generalize pth A=Q at *
     refine wW ?_
     repeat (first|apply wA|apply wS|refine wr (by simp [hip,hpi2,hpi,e1];with_reducible rfl) ?_|refine wq (by simp [hip,hpi2,hpi,e1];with_reducible rfl) ?_|refine wt (by simpa [hip,hpi2,hpi,e1]) ?_|refine wf (by simpa [hip,hpi2,hpi,e1]) ?_|refine xt (by simpa [hip,hpi2,hpi,e1]) ?_|refine xf (by simpa [hip,hpi2,hpi,e1]) ?_|apply wB|apply Qaa|refine wX ?_|refine wY ?_|refine wR ?_|refine wK ?_|refine wE ?_)
     exact ⟨rfl,hi2,B,rfl⟩
   · rw [if_neg hgh]
     have hz0:¬ z=0:=fun h0=>hgh (hz.1 h0)
     have hz1:¬ (z:Int)=0:=by omega
     have hsl:(swl g g).length≤2000000:=by
      have:=Qmg g g (by omega)
      omega
     have hsm:∀ s ∈ swl g g,Qdc g s.1 s.2.1 s.2.2.1 s.2.2.2=true:=fun s hs=>(Qnw hg hs).may
     have hmet:=Jaw hg hdg i A hA hi2
     have hln:=Qqv g i (swl g g) A
     have nx:=fun B=>ih (i+1) (bfA g i (swl g g) A) B (by omega) (by omega) hmet
     have lin:=ss_in n hn d hd g hg hdg i (swl g g) hsl hsm b0 [I n,L2 h ch] (swl g g).length 0 A B (by omega) hA ⟨c,f,q,hk⟩
     rw [List.drop_zero,show ((0:Nat):Int)=0 from rfl] at lin
     have e4:=fun c=>Qab (Qex n g c (by omega))
     generalize swl g g=S at *
     generalize bfA g i S A=A2 at *
     generalize pth A=Q at *
     refine wW ?_
     repeat (first|apply wA|apply wS|refine wr (by simp [hip,hpi2,hpi,e1,hz0,hz1,e4];with_reducible rfl) ?_|refine wq (by simp [hip,hpi2,hpi,e1,hz0,hz1,e4];with_reducible rfl) ?_|refine wt (by simpa [hip,hpi2,hpi,e1,hz0,hz1,e4]) ?_|refine wf (by simpa [hip,hpi2,hpi,e1,hz0,hz1,e4]) ?_|refine xt (by simpa [hip,hpi2,hpi,e1,hz0,hz1,e4]) ?_|refine xf (by simpa [hip,hpi2,hpi,e1,hz0,hz1,e4]) ?_|apply wB|apply Qaa|refine wX ?_|refine wY ?_|refine wR ?_|refine wK ?_|refine wE ?_)
     refine Qal lin ?_
     rintro ex st ⟨rfl,B',rfl⟩
     simp only [if_true]
     repeat (first|apply wA|apply wS|refine wr (by simp [w1];with_reducible rfl) ?_|refine wq (by simp [w1];with_reducible rfl) ?_|refine wt (by simpa [w1]) ?_|refine wf (by simpa [w1]) ?_|refine xt (by simpa [w1]) ?_|refine xf (by simpa [w1]) ?_|apply wB|apply Qaa|refine wX ?_|refine wY ?_|refine wR ?_|refine wK ?_|refine wE ?_)
     simpa using nx B'
def spW:Option (List Q4)→IV
 | none=>.tup [Z,Bo false]
 | some p=>.tup [O4 p,Bo true]
theorem Qfi (n m:Int) (g h:List (Int×Int)) (cg ch:Bool) (l1:g.length≤2000000) (l2:h.length≤2000000)
 (hno:(Qac n g && (Qac m h && (decide (n=m) && decide (n≤5))))=false) :
 Ev tb Qqy [] [Gr n g cg,Gr m h ch] [] ⟨spW none,[],[],[]⟩:=by
 have e1:=fun c=>Qab (Qcr n g c (by omega))
 have e2:=fun c=>Qab (Qcr m h c (by omega))
 cases h1:Qac n g with
 | false =>
   rw [h1] at e1
   refine cW Qs6 rfl ?_
   repeat (first|apply wA|apply wS|refine wr (by simp [e1];with_reducible rfl) ?_|refine wq (by simp [e1];with_reducible rfl) ?_|refine wt (by simpa [e1]) ?_|refine wf (by simpa [e1]) ?_|refine xt (by simpa [e1]) ?_|refine xf (by simpa [e1]) ?_|apply wB|apply Qaa|refine wX ?_|refine wY ?_|refine wR ?_|refine wK ?_|refine wE ?_)
   simp [Qnd,spW]
 | true =>
   rw [h1] at e1
   cases h2:Qac m h with
   | false =>
     rw [h2] at e2
     refine cW Qs6 rfl ?_
     repeat (first|apply wA|apply wS|refine wr (by simp [e1,e2];with_reducible rfl) ?_|refine wq (by simp [e1,e2];with_reducible rfl) ?_|refine wt (by simpa [e1,e2]) ?_|refine wf (by simpa [e1,e2]) ?_|refine xt (by simpa [e1,e2]) ?_|refine xf (by simpa [e1,e2]) ?_|apply wB|apply Qaa|refine wX ?_|refine wY ?_|refine wR ?_|refine wK ?_|refine wE ?_)
     simp [Qnd,spW]
   | true =>
     rw [h2] at e2
     by_cases hnm:n=m
     · subst hnm
       have h5:(5:Int) < n:=by
        rw [h1,h2] at hno
        simp at hno;omega
       refine cW Qs6 rfl ?_
       repeat (first|apply wA|apply wS|refine wr (by simp [e1,e2,h5];with_reducible rfl) ?_|refine wq (by simp [e1,e2,h5];with_reducible rfl) ?_|refine wt (by simpa [e1,e2,h5]) ?_|refine wf (by simpa [e1,e2,h5]) ?_|refine xt (by simpa [e1,e2,h5]) ?_|refine xf (by simpa [e1,e2,h5]) ?_|apply wB|apply Qaa|refine wX ?_|refine wY ?_|refine wR ?_|refine wK ?_|refine wE ?_)
       simp [Qnd,spW]
     · refine cW Qs6 rfl ?_
       repeat (first|apply wA|apply wS|refine wr (by simp [e1,e2,hnm];with_reducible rfl) ?_|refine wq (by simp [e1,e2,hnm];with_reducible rfl) ?_|refine wt (by simpa [e1,e2,hnm]) ?_|refine wf (by simpa [e1,e2,hnm]) ?_|refine xt (by simpa [e1,e2,hnm]) ?_|refine xf (by simpa [e1,e2,hnm]) ?_|apply wB|apply Qaa|refine wX ?_|refine wY ?_|refine wR ?_|refine wK ?_|refine wE ?_)
       simp [Qnd,spW]
set_option maxHeartbeats 4000000 in
theorem Qgg (n:Nat) (g h:List (Int×Int)) (cg ch:Bool) (hn:n≤5) (hg:Qac n g=true) (hh:Qac n h=true) :
 Ev tb Qqy [] [Gr n g cg,Gr n h ch] [] ⟨spW (spI g cg h),[],[],[]⟩:=by
 have g21:=Qkn (by omega) hg
 have h21:=Qkn (by omega) hh
 have e1:=fun c=>Qab (Qcr n g c (by omega))
 have e2:=fun c=>Qab (Qcr n h c (by omega))
 rw [hg] at e1
 rw [hh] at e2
 have h5:¬ (5:Int) < n:=by omega
 have h5':¬ 5 < n:=by omega
 have hdl:(Qco n g).length=n:=by rw [Qco,Qd8];simp
 have lo:=Jxs n hn (Qco n g) hdl h ch hh [I n,L2 g cg] 1025 0 (A0 g cg) [] (by omega) (by simp [A0]) (met0 hg rfl cg)
 rw [show ((0:Nat):Int)=0 from rfl] at lo
 unfold spI
 cases hb:bfs h 1025 0 (A0 g cg) with
 | none =>
   rw [hb] at lo
   refine cW Qs6 rfl ?_
   repeat (first|apply wA|apply wS|refine wr (by simp [e1,e2,h5,h5'];with_reducible rfl) ?_|refine wq (by simp [e1,e2,h5,h5'];with_reducible rfl) ?_|refine wt (by simpa [e1,e2,h5,h5']) ?_|refine wf (by simpa [e1,e2,h5,h5']) ?_|refine xt (by simpa [e1,e2,h5,h5']) ?_|refine xf (by simpa [e1,e2,h5,h5']) ?_|apply wB|apply Qaa|refine wX ?_|refine wY ?_|refine wR ?_|refine wK ?_|refine wE ?_)
   refine Qal lo ?_
   rintro ex st ⟨rfl,A',i',B',rfl⟩
   simp only [if_true]
   repeat (first|apply wA|apply wS|refine wr (by simp;with_reducible rfl) ?_|refine wq (by simp;with_reducible rfl) ?_|refine wt (by simpa) ?_|refine wf (by simpa) ?_|refine xt (by simpa) ?_|refine xf (by simpa) ?_|apply wB|apply Qaa|refine wX ?_|refine wY ?_|refine wR ?_|refine wK ?_|refine wE ?_)
   simp [Qnd,spW]
 | some p =>
   obtain ⟨k,A'⟩:=p
   rw [hb] at lo
   refine cW Qs6 rfl ?_
   repeat (first|apply wA|apply wS|refine wr (by simp [e1,e2,h5,h5'];with_reducible rfl) ?_|refine wq (by simp [e1,e2,h5,h5'];with_reducible rfl) ?_|refine wt (by simpa [e1,e2,h5,h5']) ?_|refine wf (by simpa [e1,e2,h5,h5']) ?_|refine xt (by simpa [e1,e2,h5,h5']) ?_|refine xf (by simpa [e1,e2,h5,h5']) ?_|apply wB|apply Qaa|refine wX ?_|refine wY ?_|refine wR ?_|refine wK ?_|refine wE ?_)
   refine Qal lo ?_
   rintro ex st ⟨rfl,hkl,B',rfl⟩
   have hip:k < (pth A').length:=by rw [Qd2];exact hkl
   have hpi:(pth A')[k]? = some (A'[k].1,(chn A' (k+1) k).reverse):=by rw [pth_get?,List.getElem?_eq_getElem hkl];rfl
   have hpi2:=(List.getElem?_eq_some_iff.1 hpi).2
   have hln:(chn A' (k+1) k).length=(chn A' (k+1) k).reverse.length:=by simp
   have htt:(chn A' (k+1) k).reverse.take (chn A' (k+1) k).length=(chn A' (k+1) k).reverse:=List.take_of_length_le (by simp)
   simp [Qnd,spW,hip,hpi,hpi2,htt]
end Go.Idl
namespace Go.Idl
def scQ:List (Nat×Nat):=[(524290,2052),(1048578,4100),(524290,1032),(268435458,4104),(1048578,1040),(268435458,2064),(2052,524290),(4100,1048578),(2052,1032),(268435460,1048584),(4100,1040),(268435460,524304),(1032,524290),(4104,268435458),(1032,2052),(1048584,268435460),(4104,2064),(1048584,524304),(1040,1048578),(2064,268435458),(1040,4100),(524304,268435460),(2064,4104),(524304,1048584),(268436480,1050624),(268436480,528384),(1050624,268436480),(1050624,528384),(528384,268436480),(528384,1050624)]
def scE:List (Nat×Nat):=[(2,9),(4,65),(8,513),(16,4097),(1024,72),(2048,520),(4096,4104),(524288,576),(1048576,4160),(268435456,4608)]
def scL:List (Nat×Nat):=[(0,0),(9,2),(65,4),(72,1024),(74,6),(81,1026),(137,1028),(146,1030),(513,8),(520,2048),(522,10),(529,2050),(576,524288),(578,12),(585,524290),(587,14),(592,3072),(594,2054),(601,3074),(641,524292),(648,525312),(650,524294),(657,525314),(659,1038),(666,3078),(713,525316),(722,525318),(1033,2056),(1042,2058),(1089,524296),(1096,526336),(1098,524298),(1105,526338),(1107,2062),(1114,3082),(1154,524300),(1161,526340),(1163,524302),(1168,527360),(1170,526342),(1177,527362),(1179,3086),(1226,525324),(1233,527364),(1235,525326),(1242,527366),(1609,526344),(1618,526346),(1674,526348),(1681,527368),(1683,526350),(1690,527370),(1746,527372),(1755,527374),(4097,16),(4104,4096),(4106,18),(4113,4098),(4160,1048576),(4162,20),(4169,1048578),(4171,22),(4176,5120),(4178,4102),(4185,5122),(4225,1048580),(4232,1049600),(4234,1048582),(4241,1049602),(4243,1046),(4250,5126),(4297,1049604),(4306,1049606),(4608,268435456),(4610,24),(4617,268435458),(4619,26),(4624,6144),(4626,4106),(4633,6146),(4673,268435460),(4675,28),(4680,268436480),(4682,268435462),(4684,30),(4689,268436482),(4691,4110),(4696,7168),(4698,6150),(4705,7170),(4736,1572864),(4738,1048588),(4745,268436484),(4747,1048590),(4752,1051648),(4754,268436486),(4756,1054),(4761,1051650),(4763,5134),(4770,7174),(4801,1572868),(4808,1573888),(4810,1572870),(4817,1573890),(4819,1049614),(4826,1051654),(4873,1573892),(4882,1573894),(5121,268435464),(5128,268437504),(5130,268435466),(5137,268437506),(5139,2074),(5146,6154),(5184,268959744),(5186,268435468),(5193,268959746),(5195,268435470),(5200,268438528),(5202,268437510),(5204,2078),(5209,268438530),(5211,6158),(5218,7178),(5249,268959748),(5251,524316),(5256,268960768),(5258,268959750),(5260,524318),(5265,268960770),(5267,268436494),(5272,531456),(5274,268438534),(5276,3102),(5281,531458),(5283,7182),(5314,1572876),(5321,268960772),(5323,1572878),(5328,1575936),(5330,268960774),(5332,525342),(5337,1575938),(5339,1051662),(5346,531462),(5386,1573900),(5393,1575940),(5395,1573902),(5402,1575942),(5641,268437512),(5650,268437514),(5697,268959752),(5704,268961792),(5706,268959754),(5713,268961794),(5715,268437518),(5722,268438538),(5762,268959756),(5769,268961796),(5771,268959758),(5776,268962816),(5778,268961798),(5780,526366),(5785,268962818),(5787,268438542),(5794,531466),(5834,268960780),(5841,268962820),(5843,268960782),(5850,268962822),(5852,527390),(5859,531470),(5906,1575948),(5915,1575950),(6217,268961800),(6226,268961802),(6282,268961804),(6289,268962824),(6291,268961806),(6298,268962826),(6354,268962828),(6363,268962830),(8201,4112),(8210,4114),(8257,1048592),(8264,1052672),(8266,1048594),(8273,1052674),(8275,4118),(8282,5138),(8322,1048596),(8329,1052676),(8331,1048598),(8336,1053696),(8338,1052678),(8345,1053698),(8347,5142),(8394,1049620),(8401,1053700),(8403,1049622),(8410,1053702),(8705,268435472),(8712,268439552),(8714,268435474),(8721,268439554),(8723,4122),(8730,6162),(8768,269484032),(8770,268435476),(8777,269484034),(8779,268435478),(8784,268440576),(8786,268439558),(8788,4126),(8793,268440578),(8795,6166),(8802,7186),(8833,269484036),(8835,1048604),(8840,269485056),(8842,269484038),(8844,1048606),(8849,269485058),(8851,268436502),(8856,1055744),(8858,268440582),(8860,5150),(8865,1055746),(8867,7190),(8898,1572884),(8905,269485060),(8907,1572886),(8912,1577984),(8914,269485062),(8916,1049630),(8921,1577986),(8923,1053710),(8930,1055750),(8970,1573908),(8977,1577988),(8979,1573910),(8986,1577990),(9218,268435480),(9225,268439560),(9227,268435482),(9232,268441600),(9234,268439562),(9241,268441602),(9243,6170),(9281,269484040),(9283,268435484),(9288,269486080),(9290,269484042),(9292,268435486),(9297,269486082),(9299,268439566),(9304,268442624),(9306,268441606),(9308,6174),(9313,268442626),(9315,7194),(9344,270008320),(9346,269484044),(9353,270008322),(9355,269484046),(9360,269487104),(9362,269486086),(9364,268436510),(9369,269487106),(9371,268440590),(9378,268442630),(9380,7198),(9409,270008324),(9411,1572892),(9416,270009344),(9418,270008326),(9420,1572894),(9425,270009346),(9427,269485070),(9432,1580032),(9434,269487110),(9436,1051678),(9441,1580034),(9443,1055758),(9481,270009348),(9483,1573916),(9490,270009350),(9492,1573918),(9497,1580036),(9499,1577998),(9506,1580038),(9738,268437528),(9745,268441608),(9747,268437530),(9754,268441610),(9794,268959768),(9801,269486088),(9803,268959770),(9808,268965888),(9810,269486090),(9812,268437534),(9817,268965890),(9819,268441614),(9826,268442634),(9857,270008328),(9859,268959772),(9864,270010368),(9866,270008330),(9868,268959774),(9873,270010370),(9875,269486094),(9880,268966912),(9882,269487114),(9884,268438558),(9889,268966914),(9891,268442638),(9922,270008332),(9929,270010372),(9931,270008334),(9936,270011392),(9938,270010374),(9940,268960798),(9945,270011394),(9947,269487118),(9954,268966918),(9956,531486),(9994,270009356),(10001,270011396),(10003,270009358),(10010,270011398),(10012,1575966),(10019,1580046),(10314,268961816),(10321,268965896),(10323,268961818),(10330,268965898),(10377,270010376),(10379,268961820),(10386,270010378),(10388,268961822),(10393,268966920),(10395,268965902),(10402,268966922),(10442,270010380),(10449,270011400),(10451,270010382),(10458,270011402),(10460,268962846),(10467,268966926),(10514,270011404),(10523,270011406),(12361,1052688),(12370,1052690),(12426,1052692),(12433,1053712),(12435,1052694),(12442,1053714),(12498,1053716),(12507,1053718),(12809,268439568),(12818,268439570),(12865,269484048),(12872,269488128),(12874,269484050),(12881,269488130),(12883,268439574),(12890,268440594),(12930,269484052),(12937,269488132),(12939,269484054),(12944,269489152),(12946,269488134),(12948,1052702),(12953,269489154),(12955,268440598),(12962,1055762),(13002,269485076),(13009,269489156),(13011,269485078),(13018,269489158),(13020,1053726),(13027,1055766),(13074,1578004),(13083,1578006),(13322,268439576),(13329,268441616),(13331,268439578),(13338,268441618),(13378,269484056),(13385,269488136),(13387,269484058),(13392,269490176),(13394,269488138),(13396,268439582),(13401,269490178),(13403,268441622),(13410,268442642),(13441,270008336),(13443,269484060),(13448,270012416),(13450,270008338),(13452,269484062),(13457,270012418),(13459,269488142),(13464,269491200),(13466,269490182),(13468,268440606),(13473,269491202),(13475,268442646),(13506,270008340),(13513,270012420),(13515,270008342),(13520,270013440),(13522,270012422),(13524,269485086),(13529,270013442),(13531,269489166),(13538,269491206),(13540,1055774),(13578,270009364),(13585,270013444),(13587,270009366),(13594,270013446),(13596,1578014),(13603,1580054),(13842,268441624),(13851,268441626),(13898,269486104),(13905,269490184),(13907,269486106),(13914,269490186),(13916,268441630),(13923,268442650),(13954,270008344),(13961,270012424),(13963,270008346),(13968,270014464),(13970,270012426),(13972,269486110),(13977,270014466),(13979,269490190),(13986,269491210),(13988,268442654),(14019,270008348),(14026,270012428),(14028,270008350),(14033,270014468),(14035,270012430),(14040,270015488),(14042,270014470),(14044,269487134),(14049,270015490),(14051,269491214),(14091,270009372),(14098,270013452),(14100,270009374),(14105,270015492),(14107,270013454),(14114,270015494),(14116,1580062),(14418,268965912),(14427,268965914),(14474,270010392),(14481,270014472),(14483,270010394),(14490,270014474),(14492,268965918),(14499,268966938),(14539,270010396),(14546,270014476),(14548,270010398),(14553,270015496),(14555,270014478),(14562,270015498),(14564,268966942),(14611,270011420),(14618,270015500),(14620,270011422),(14627,270015502),(16969,269488144),(16978,269488146),(17034,269488148),(17041,269489168),(17043,269488150),(17050,269489170),(17106,269489172),(17115,269489174),(17482,269488152),(17489,269490192),(17491,269488154),(17498,269490194),(17545,270012432),(17547,269488156),(17554,270012434),(17556,269488158),(17561,269491216),(17563,269490198),(17570,269491218),(17610,270012436),(17617,270013456),(17619,270012438),(17626,270013458),(17628,269489182),(17635,269491222),(17682,270013460),(17691,270013462),(18002,269490200),(18011,269490202),(18058,270012440),(18065,270014480),(18067,270012442),(18074,270014482),(18076,269490206),(18083,269491226),(18123,270012444),(18130,270014484),(18132,270012446),(18137,270015504),(18139,270014486),(18146,270015506),(18148,269491230),(18195,270013468),(18202,270015508),(18204,270013470),(18211,270015510),(18578,270014488),(18587,270014490),(18643,270014492),(18650,270015512),(18652,270014494),(18659,270015514),(18715,270015516),(18724,270015518)]
noncomputable def scX (m:Nat) (f:Nat→Bool) (l:List (Nat×Nat)):Bool :=
 List.rec false (fun q _ ih=>Bool.rec ih (Bool.rec ih (Bool.rec ih true (f (Nat.xor m (Nat.lor q.1 q.2)))) (Nat.beq (Nat.land m q.2) 0)) (Nat.beq (Nat.land m q.1) q.1)) l
noncomputable def scM (c m:Nat) (l:List (Nat×Nat)):Bool :=
 List.rec false (fun q _ ih=>Bool.rec ih (Nat.beq q.2 m) (Nat.beq q.1 c)) l
noncomputable def Jg4 (m:Nat):Bool:=scX m (fun x=>Nat.ble (Nat.succ m) x) scQ
noncomputable def Jfe (m:Nat):Bool:=scX m (fun x=>scX x (fun y=>Nat.ble (Nat.succ m) y) scQ) scQ
noncomputable def scP (m c:Nat):Bool:=Bool.rec (Bool.rec (scM c m scL) true (Jfe m)) true (Jg4 m)
noncomputable def scA (l:List (Nat×Nat)):Nat→Nat→Bool :=
 List.rec (motive:=fun _=>Nat→Nat→Bool) (fun m c=>scP m c) (fun e _ ih m c=>Bool.rec false (ih (Nat.lor m e.1) (Nat.add c e.2)) (ih m c)) l
noncomputable def scS (l:List (Nat×Nat)):Nat→Bool :=
 List.rec (motive:=fun _=>Nat→Bool) (fun _=>true) (fun q _ ih b=>Bool.rec false (ih (Nat.succ q.1)) (Nat.ble b q.1)) l
theorem Jfk:scA scE 0 0=true:=by kernel_rfl
theorem Jgz:scS scL 0=true:=by kernel_rfl
end Go.Idl
namespace Go.Idl
open Go
theorem Qpo {n:Nat}:∀ (l:List Q4) {es x:List (Int×Int)},Qac n es=true→Qef es l=some x→Qac n x=true∧Qco n x=Qco n es:=by
 intro l
 induction l with
 | nil =>
   intro es x hv h
   rw [Qef] at h
   cases h
   exact ⟨hv,rfl⟩
 | cons s l ih =>
   intro es x hv h
   rw [Qef] at h
   split at h
   · rename_i hm
     obtain ⟨-,-,q3,-⟩:=Qcw hv hm
     obtain ⟨h1,h2⟩:=ih q3 h
     exact ⟨h1,by rw [h2,Qvj hv hm]⟩
   · cases h
end Go.Idl
namespace Go.Idl
def pb (e:Int×Int):Nat:=8 * e.1.toNat+e.2.toNat
def Qhg (g:List (Int×Int)) (m:Nat):Nat:=g.foldl (fun m e=>Nat.lor m (2 ^ pb e)) m
def Qvp (g:List (Int×Int)) (c:Nat):Nat:=g.foldl (fun c e=>Nat.add c (8 ^ e.1.toNat+8 ^ e.2.toNat)) c
theorem Jwa:scE=(prs 5).map fun e=>(2 ^ pb e,8 ^ e.1.toNat+8 ^ e.2.toNat):=by decide +kernel
theorem Jvf:∀ {r g:List (Int×Int)},g.Sublist r→∀ {m c:Nat},scA (r.map fun e=>(2 ^ pb e,8 ^ e.1.toNat+8 ^ e.2.toNat)) m c=true→scP (Qhg g m) (Qvp g c)=true:=by
 intro r g h
 induction h with
 | slnil=>intro m c hq;exact hq
 | cons e h ih =>
   intro m c hq
   apply ih
   have h2:(Bool.rec false (scA (List.map (fun e=>(2 ^ pb e,8 ^ e.1.toNat+8 ^ e.2.toNat)) _) (Nat.lor m (2 ^ pb e)) (Nat.add c (8 ^ e.1.toNat+8 ^ e.2.toNat))) (scA (List.map (fun e=>(2 ^ pb e,8 ^ e.1.toNat+8 ^ e.2.toNat)) _) m c):Bool)=true:=hq
   cases hx:scA (List.map (fun e=>(2 ^ pb e,8 ^ e.1.toNat+8 ^ e.2.toNat)) _) m c with
   | true=>rfl
   | false=>rw [hx] at h2;cases h2
 | cons_cons e h ih =>
   intro m c hq
   have h2:(Bool.rec false (scA (List.map (fun e=>(2 ^ pb e,8 ^ e.1.toNat+8 ^ e.2.toNat)) _) (Nat.lor m (2 ^ pb e)) (Nat.add c (8 ^ e.1.toNat+8 ^ e.2.toNat))) (scA (List.map (fun e=>(2 ^ pb e,8 ^ e.1.toNat+8 ^ e.2.toNat)) _) m c):Bool)=true:=hq
   refine ih ?_
   cases hx:scA (List.map (fun e=>(2 ^ pb e,8 ^ e.1.toNat+8 ^ e.2.toNat)) _) m c with
   | true=>rw [hx] at h2;exact h2
   | false=>rw [hx] at h2;cases h2
theorem Jij {g:List (Int×Int)} (h:g.Sublist (prs 5)):scP (Qhg g 0) (Qvp g 0)=true:=Jvf h (by rw [← Jwa];exact Jfk)
theorem Qjc (i:Nat):∀ (g:List (Int×Int)) (m:Nat),(Qhg g m).testBit i=(m.testBit i || g.any fun e=>decide (pb e=i))
 | [],m=>by simp [Qhg]
 | e::g,m=>by
   have ih:=Qjc i g (Nat.lor m (2 ^ pb e))
   have h1:(Nat.lor m (2 ^ pb e)).testBit i=(m.testBit i || decide (pb e=i)):=by
    have:=Nat.testBit_or m (2 ^ pb e) i
    rw [Nat.testBit_two_pow] at this
    exact this
   rw [h1,Bool.or_assoc] at ih
   exact ih
theorem Qc3 {n:Nat} (hn:n≤7) {g:List (Int×Int)} (hg:∀ e ∈ g,e ∈ prs n) {e:Int×Int} (he:e ∈ prs n):(Qhg g 0).testBit (pb e)=decide (e ∈ g):=by
 rw [Qjc,Nat.zero_testBit,Bool.false_or,Bool.eq_iff_iff,List.any_eq_true,decide_eq_true_eq]
 constructor
 · rintro ⟨f,hf,hq⟩
   have h1:=Qay.1 (hg f hf)
   have h2:=Qay.1 he
   have hq:=of_decide_eq_true hq
   unfold pb at hq
   have:f=e:=Prod.ext (by omega) (by omega)
   rwa [← this]
 · intro h
   exact ⟨e,h,by simp⟩
theorem Jc6 {n:Nat} (hn:n≤7) {g h:List (Int×Int)} (hg:Qac n g=true) (hh:Qac n h=true) (he:Qhg g 0=Qhg h 0):g=h:=by
 refine Qif (Qaz.1 hg).1 (Qaz.1 hh).1 fun e=>?_
 have gi:=(Qaz.1 hg).2.1
 have hi:=(Qaz.1 hh).2.1
 constructor
 · intro h1
   have a:=Qc3 hn gi (gi e h1)
   rw [he,Qc3 hn hi (gi e h1),decide_eq_true h1] at a
   exact of_decide_eq_true a
 · intro h1
   have a:=Qc3 hn hi (hi e h1)
   rw [← he,Qc3 hn gi (hi e h1),decide_eq_true h1] at a
   exact of_decide_eq_true a
def qb (a b:Nat):Nat:=8 * min a b+max a b
theorem Jm4:(scQ.all fun q=>(List.range 5).any fun a=>(List.range 5).any fun b=>(List.range 5).any fun c=>(List.range 5).any fun d =>
 decide (a ≠ b∧a ≠ c∧a ≠ d∧b ≠ c∧b ≠ d∧c ≠ d) && (decide (q.1=Nat.lor (2 ^ qb a b) (2 ^ qb c d)) && decide (q.2=Nat.lor (2 ^ qb a c) (2 ^ qb b d))))=true:=by decide +kernel
theorem Jvr {q:Nat×Nat} (h:q ∈ scQ):∃ a b c d:Nat,(a < 5∧b < 5∧c < 5∧d < 5)∧(a ≠ b∧a ≠ c∧a ≠ d∧b ≠ c∧b ≠ d∧c ≠ d)∧q.1=Nat.lor (2 ^ qb a b) (2 ^ qb c d)∧q.2=Nat.lor (2 ^ qb a c) (2 ^ qb b d):=by
 have h1:=List.all_eq_true.1 Jm4 q h
 simp only [List.any_eq_true,List.mem_range,Qba,decide_eq_true_eq] at h1
 obtain ⟨a,ha,b,hb,c,hc,d,hd,h2,h3,h4⟩:=h1
 exact ⟨a,b,c,d,⟨ha,hb,hc,hd⟩,h2,h3,h4⟩
theorem Qr7 {m:Nat} {f:Nat→Bool}:∀ {l:List (Nat×Nat)},scX m f l=true→∃ q ∈ l,Nat.land m q.1=q.1∧Nat.land m q.2=0∧f (Nat.xor m (Nat.lor q.1 q.2))=true
 | [],h=>by cases h
 | q::l,h=>by
   have h2:(Bool.rec (scX m f l) (Bool.rec (scX m f l) (Bool.rec (scX m f l) true (f (Nat.xor m (Nat.lor q.1 q.2)))) (Nat.beq (Nat.land m q.2) 0)) (Nat.beq (Nat.land m q.1) q.1):Bool)=true:=h
   have rest:scX m f l=true→∃ q' ∈ q::l,Nat.land m q'.1=q'.1∧Nat.land m q'.2=0∧f (Nat.xor m (Nat.lor q'.1 q'.2))=true:=fun h=>by
    obtain ⟨q',h1,h3⟩:=Qr7 h
    exact ⟨q',List.mem_cons_of_mem _ h1,h3⟩
   cases c1:Nat.beq (Nat.land m q.1) q.1 with
   | false=>rw [c1] at h2;exact rest h2
   | true =>
     rw [c1] at h2
     cases c2:Nat.beq (Nat.land m q.2) 0 with
     | false=>rw [c2] at h2;exact rest h2
     | true =>
       rw [c2] at h2
       cases c3:f (Nat.xor m (Nat.lor q.1 q.2)) with
       | false=>rw [c3] at h2;exact rest h2
       | true=>exact ⟨q,by simp,Nat.eq_of_beq_eq_true c1,Nat.eq_of_beq_eq_true c2,c3⟩
theorem mkQ (a b:Nat):pb (mk a b)=qb a b:=by simp only [pb,mk,qb];omega
theorem Qj7 {g:List (Int×Int)} (hg:Qac (5:Nat) g=true) {q:Nat×Nat} (hq:q ∈ scQ) (h1:Nat.land (Qhg g 0) q.1=q.1) (h2:Nat.land (Qhg g 0) q.2=0) :
 ∃ s:Q4,Qdc g s.1 s.2.1 s.2.2.1 s.2.2.2=true∧Qhg (sw g s.1 s.2.1 s.2.2.1 s.2.2.2) 0=Nat.xor (Qhg g 0) (Nat.lor q.1 q.2):=by
 obtain ⟨a,b,c,d,⟨ha,hb,hc,hd⟩,⟨n1,n2,n3,n4,n5,n6⟩,e1,e2⟩:=Jvr hq
 have gi:=(Qaz.1 hg).2.1
 have pab:=Qle ha hb n1
 have pcd:=Qle hc hd n6
 have pac:=Qle ha hc n2
 have pbd:=Qle hb hd n5
 have b1:∀ i,q.1.testBit i=(decide (qb a b=i) || decide (qb c d=i)):=fun i=>by
  rw [e1]
  have:=Nat.testBit_or (2 ^ qb a b) (2 ^ qb c d) i
  rw [Nat.testBit_two_pow,Nat.testBit_two_pow] at this
  exact this
 have b2:∀ i,q.2.testBit i=(decide (qb a c=i) || decide (qb b d=i)):=fun i=>by
  rw [e2]
  have:=Nat.testBit_or (2 ^ qb a c) (2 ^ qb b d) i
  rw [Nat.testBit_two_pow,Nat.testBit_two_pow] at this
  exact this
 have l1:∀ i,((Qhg g 0).testBit i && q.1.testBit i)=q.1.testBit i:=fun i=>by
  rw [← Nat.testBit_and];exact congrArg (Nat.testBit · i) h1
 have l2:∀ i,((Qhg g 0).testBit i && q.2.testBit i)=false:=fun i=>by
  rw [← Nat.testBit_and]
  have:=congrArg (Nat.testBit · i) h2
  simp only [Nat.zero_testBit] at this
  exact this
 have mab:mk a b ∈ g:=by
  have:=l1 (pb (mk a b))
  rw [Qc3 (by omega) gi pab,b1,mkQ] at this
  simpa using this
 have mcd:mk c d ∈ g:=by
  have:=l1 (pb (mk c d))
  rw [Qc3 (by omega) gi pcd,b1,mkQ] at this
  simpa using this
 have mac:mk a c ∉ g:=by
  have:=l2 (pb (mk a c))
  rw [Qc3 (by omega) gi pac,b2,mkQ] at this
  simpa using this
 have mbd:mk b d ∉ g:=by
  have:=l2 (pb (mk b d))
  rw [Qc3 (by omega) gi pbd,b2,mkQ] at this
  simpa using this
 have hmay:Qdc g a b c d=true:=Qbz.2 ⟨⟨by omega,by omega,by omega,by omega,by omega,by omega⟩,mab,mcd,mac,mbd⟩
 refine ⟨((a:Int),(b:Int),(c:Int),(d:Int)),hmay,?_⟩
 simp only
 obtain ⟨-,-,hsv,-⟩:=Qcw hg hmay
 have si:=(Qaz.1 hsv).2.1
 refine Nat.eq_of_testBit_eq fun i=>?_
 have hx:(Nat.xor (Qhg g 0) (Nat.lor q.1 q.2)).testBit i=((Qhg g 0).testBit i ^^ (q.1.testBit i || q.2.testBit i)):=by
  have t1:=Nat.testBit_xor (Qhg g 0) (Nat.lor q.1 q.2) i
  have t2:=Nat.testBit_or q.1 q.2 i
  refine Eq.trans t1 ?_
  exact congrArg _ t2
 rw [hx,b1,b2]
 by_cases hi:∃ e ∈ prs 5,pb e=i
 · obtain ⟨e,he,rfl⟩:=hi
   rw [Qc3 (by omega) si he,Qc3 (by omega) gi he]
   have inj:∀ x y:Nat,x < 5→y < 5→x ≠ y→(qb x y=pb e ↔ e=mk x y):=fun x y hx hy hxy=>by
    rw [← mkQ]
    have k1:=Qay.1 he
    have k2:=Qay.1 (Qle hx hy hxy)
    constructor
    · intro h
      simp only [pb] at h
      exact Prod.ext (by omega) (by omega)
    · rintro rfl;rfl
   have dd:∀ x y:Nat,x < 5→y < 5→x ≠ y→decide (qb x y=pb e)=decide (e=mk x y):=fun x y hx hy hxy=>decide_eq_decide.2 (inj x y hx hy hxy)
   rw [dd a b ha hb n1,dd c d hc hd n6,dd a c ha hc n2,dd b d hb hd n5]
   have hm:e ∈ sw g a b c d ↔ (e ∈ g∧e ≠ mk a b∧e ≠ mk c d) ∨ e=mk a c ∨ e=mk b d:=Qea
   have hm2:decide (e ∈ sw g a b c d)=decide ((e ∈ g∧e ≠ mk a b∧e ≠ mk c d) ∨ e=mk a c ∨ e=mk b d):=decide_eq_decide.2 hm
   rw [hm2]
   by_cases x1:e=mk a b
   · have y1:e ∈ g:=x1 ▸ mab
     have y2:e ≠ mk a c:=fun h=>mac (h ▸ y1)
     have y3:e ≠ mk b d:=fun h=>mbd (h ▸ y1)
     simp [x1 ▸ y2,x1 ▸ y3,← x1,y1,y2,y3]
   · by_cases x2:e=mk c d
     · have y1:e ∈ g:=x2 ▸ mcd
       have y2:e ≠ mk a c:=fun h=>mac (h ▸ y1)
       have y3:e ≠ mk b d:=fun h=>mbd (h ▸ y1)
       simp [y1,y2,y3,x1,x2]
       simp [← x2,y1,y2,y3,x1]
     · by_cases x3:e=mk a c
       · have y1:e ∉ g:=fun h=>mac (x3 ▸ h)
         simp [y1,x1,x2,x3]
         simp [← x3,y1]
       · by_cases x4:e=mk b d
         · have y1:e ∉ g:=fun h=>mbd (x4 ▸ h)
           simp [y1,x1,x2,x3,x4]
           simp [← x4,y1]
         · simp [x1,x2,x3,x4]
 · have no:∀ x y:Nat,x < 5→y < 5→x ≠ y→decide (qb x y=i)=false:=fun x y hx hy hxy=>decide_eq_false fun h=>hi ⟨mk x y,Qle hx hy hxy,by rw [mkQ];exact h⟩
   have nog:∀ g:List (Int×Int),(∀ e ∈ g,e ∈ prs 5)→(Qhg g 0).testBit i=false:=fun g hg=>by
    rw [Qjc,Nat.zero_testBit,Bool.false_or,List.any_eq_false]
    intro e he hq
    exact hi ⟨e,hg e he,of_decide_eq_true hq⟩
   rw [nog _ si,nog _ gi,no a b ha hb n1,no c d hc hd n6,no a c ha hc n2,no b d hb hd n5];rfl
theorem vG5 {n:Nat} (hn:n≤5) {g:List (Int×Int)} (hg:Qac n g=true):Qac (5:Nat) g=true:=by
 obtain ⟨h1,h2,h3⟩:=Qaz.1 hg
 refine Qaz.2 ⟨h1,fun e he=>?_,by omega⟩
 have:=Qay.1 (h2 e he)
 exact Qay.2 (by omega)
theorem Jlb:((prs 5).all fun e=>decide (((8 ^ e.1.toNat+8 ^ e.2.toNat:Nat):Int)=inc 0 e+8 * inc 1 e+64 * inc 2 e+512 * inc 3 e+4096 * inc 4 e))=true:=by decide +kernel
theorem Qnc:∀ (g:List (Int×Int)) (c:Nat),(∀ e ∈ g,e ∈ prs 5)→(Qvp g c:Int)=c+(deg g 0+8 * deg g 1+64 * deg g 2+512 * deg g 3+4096 * deg g 4)
 | [],c,_=>by simp [Qvp,deg,S]
 | e::g,c,h=>by
   have ih:=Qnc g (Nat.add c (8 ^ e.1.toNat+8 ^ e.2.toNat)) fun x hx=>h x (by simp [hx])
   have hw:=of_decide_eq_true (List.all_eq_true.1 Jlb e (h e (by simp)))
   have h1:Qvp (e::g) c=Qvp g (Nat.add c (8 ^ e.1.toNat+8 ^ e.2.toNat)):=rfl
   have d:∀ v,deg (e::g) v=inc v e+deg g v:=fun v=>Qic _ _ _
   rw [h1,ih,d,d,d,d,d]
   have h2:((Nat.add c (8 ^ e.1.toNat+8 ^ e.2.toNat):Nat):Int)=c+((8 ^ e.1.toNat+8 ^ e.2.toNat:Nat):Int):=by
    show ((c+(8 ^ e.1.toNat+8 ^ e.2.toNat):Nat):Int)=_
    omega
   rw [h2,hw]
   omega
theorem Jef:∀ {l:List (Nat×Nat)} {b:Nat},scS l b=true→(∀ q ∈ l,b≤q.1)∧∀ c m m',(c,m) ∈ l→(c,m') ∈ l→m=m'
 | [],b,_=>⟨by simp,by simp⟩
 | q::l,b,h=>by
   have h2:(Bool.rec false (scS l (Nat.succ q.1)) (Nat.ble b q.1):Bool)=true:=h
   cases c1:Nat.ble b q.1 with
   | false=>rw [c1] at h2;cases h2
   | true =>
     rw [c1] at h2
     have hb:=Nat.le_of_ble_eq_true c1
     obtain ⟨k1,k2⟩:=Jef (l:=l) h2
     refine ⟨fun x hx=>?_,fun c m m' hm hm'=>?_⟩
     · rcases List.mem_cons.1 hx with rfl | hx
       · exact hb
       · have:=k1 x hx;omega
     · rcases List.mem_cons.1 hm with e1 | hm <;> rcases List.mem_cons.1 hm' with e2 | hm'
       · rw [← e1] at e2;exact (Prod.mk.inj e2).2.symm
       · have:=k1 _ hm';rw [← e1] at this;simp only at this;omega
       · have:=k1 _ hm;rw [← e2] at this;simp only at this;omega
       · exact k2 c m m' hm hm'
theorem Qz1 {c m:Nat}:∀ {l:List (Nat×Nat)},scM c m l=true→(c,m) ∈ l
 | [],h=>by cases h
 | q::l,h=>by
   have h2:(Bool.rec (scM c m l) (Nat.beq q.2 m) (Nat.beq q.1 c):Bool)=true:=h
   cases c1:Nat.beq q.1 c with
   | false=>rw [c1] at h2;exact List.mem_cons_of_mem _ (Qz1 h2)
   | true =>
     rw [c1] at h2
     have e1:=Nat.eq_of_beq_eq_true c1
     have e2:=Nat.eq_of_beq_eq_true h2
     have:(c,m)=q:=Prod.ext e1.symm e2.symm
     rw [this];simp
theorem Qfw:∀ (l k:List Q4) {g h:List (Int×Int)},Qef g l=some h→Qef g (l++k)=Qef h k
 | [],k,g,h,hq=>by rw [Qef] at hq;cases hq;rfl
 | s::l,k,g,h,hq=>by
   rw [Qef] at hq
   rw [List.cons_append,Qef]
   split at hq
   · rename_i hm
     rw [if_pos hm]
     exact Qfw l k hq
   · cases hq
theorem Qi4 {g:List (Int×Int)} {s:Q4} (hm:Qdc g s.1 s.2.1 s.2.2.1 s.2.2.2=true):Qef g [s]=some (sw g s.1 s.2.1 s.2.2.1 s.2.2.2):=by
 rw [Qef,if_pos hm,Qef]
theorem Qg9 {n:Nat}:∀ (l:List Q4) {g h:List (Int×Int)},Qac n g=true→Qef g l=some h→∃ k:List Q4,k.length=l.length∧Qef h k=some g
 | [],g,h,_,hq=>by rw [Qef] at hq;cases hq;exact ⟨[],rfl,rfl⟩
 | s::l,g,h,hg,hq=>by
   rw [Qef] at hq
   split at hq
   · rename_i hm
     obtain ⟨-,-,hv,-⟩:=Qcw hg hm
     obtain ⟨k,k1,k2⟩:=Qg9 l hv hq
     obtain ⟨b1,b2⟩:=Jgg hg hm
     refine ⟨k++[(s.1,s.2.2.1,s.2.1,s.2.2.2)],by simp [k1],?_⟩
     rw [Qfw k _ k2,Qi4 (s:=(s.1,s.2.2.1,s.2.1,s.2.2.2)) b1]
     exact congrArg some b2
   · cases hq
theorem sc_up {g:List (Int×Int)} (hg:Qac (5:Nat) g=true):(∃ (l:List Q4) (h:List (Int×Int)),Qef g l=some h∧Qhg g 0 < Qhg h 0) ∨ scM (Qvp g 0) (Qhg g 0) scL=true:=by
 have h0:=Jij (Qn1 hg)
 have h2:(Bool.rec (Bool.rec (scM (Qvp g 0) (Qhg g 0) scL) true (Jfe (Qhg g 0))) true (Jg4 (Qhg g 0)):Bool)=true:=h0
 cases c1:Jg4 (Qhg g 0) with
 | true =>
   left
   obtain ⟨q,hq,k1,k2,k3⟩:=Qr7 c1
   obtain ⟨s,s1,s2⟩:=Qj7 hg hq k1 k2
   refine ⟨[s],_,Qi4 s1,?_⟩
   rw [s2]
   exact Nat.le_of_ble_eq_true k3
 | false =>
   rw [c1] at h2
   cases c2:Jfe (Qhg g 0) with
   | true =>
     left
     obtain ⟨q,hq,k1,k2,k3⟩:=Qr7 c2
     obtain ⟨s,s1,s2⟩:=Qj7 hg hq k1 k2
     obtain ⟨-,-,hv,-⟩:=Qcw hg s1
     rw [← s2] at k3
     obtain ⟨q',hq',j1,j2,j3⟩:=Qr7 k3
     obtain ⟨s',t1,t2⟩:=Qj7 hv hq' j1 j2
     refine ⟨[s,s'],sw (sw g s.1 s.2.1 s.2.2.1 s.2.2.2) s'.1 s'.2.1 s'.2.2.1 s'.2.2.2,?_,?_⟩
     · rw [Qef,if_pos s1];exact Qi4 t1
     · rw [t2];exact Nat.le_of_ble_eq_true j3
   | false =>
     rw [c2] at h2
     exact .inr h2
theorem Jf9 {g:List (Int×Int)} (hg:∀ e ∈ g,e ∈ prs 5):Qhg g 0 < 2 ^ 64:=by
 refine Nat.lt_pow_two_of_testBit _ fun i hi=>?_
 rw [Qjc,Nat.zero_testBit,Bool.false_or,List.any_eq_false]
 intro e he hq
 have:=Qay.1 (hg e he)
 have hq:=of_decide_eq_true hq
 simp only [pb] at hq
 omega
theorem Qvo:∀ (k:Nat) {g:List (Int×Int)},Qac (5:Nat) g=true→2 ^ 64≤Qhg g 0+k→∃ (l:List Q4) (h:List (Int×Int)),Qef g l=some h∧scM (Qvp h 0) (Qhg h 0) scL=true
 | 0,g,hg,hk=>by
   have:=Jf9 (Qaz.1 hg).2.1
   omega
 | k+1,g,hg,hk=>by
   rcases sc_up hg with ⟨l,h,h1,h2⟩ | h
   · obtain ⟨hv,-⟩:=Qpo l hg h1
     obtain ⟨l2,h',k1,k2⟩:=Qvo k hv (by omega)
     exact ⟨l++l2,h',by rw [Qfw l l2 h1];exact k1,k2⟩
   · exact ⟨[],g,rfl,h⟩
theorem Qwq {n:Nat} {g:List (Int×Int)} (hg:∀ e ∈ g,e ∈ prs n) {v:Nat} (hv:n≤v):deg g v=0:=by
 induction g with
 | nil=>rfl
 | cons e g ih =>
   have h1:deg (e::g) v=inc v e+deg g v:=Qic _ _ _
   have:=Qay.1 (hg e (by simp))
   rw [h1,ih fun x hx=>hg x (by simp [hx]),inc,if_neg (by omega),if_neg (by omega)];rfl
theorem Ji4 {n:Nat} (hn:n≤5) {g h:List (Int×Int)} (hg:Qac n g=true) (hh:Qac n h=true) (hd:Qco n g=Qco n h):∃ l:List Q4,Qef g l=some h:=by
 have g5:=vG5 hn hg
 have h5:=vG5 hn hh
 obtain ⟨l1,x,a1,a2⟩:=Qvo (2 ^ 64) g5 (by omega)
 obtain ⟨l2,y,b1,b2⟩:=Qvo (2 ^ 64) h5 (by omega)
 obtain ⟨xv,xd⟩:=Qpo l1 g5 a1
 obtain ⟨yv,yd⟩:=Qpo l2 h5 b1
 have hdeg:∀ v,deg g v=deg h v:=fun v=>by
  by_cases hv:v < n
  · have e1:=Qhn (n:=n) (es:=g) fun e he=>by have:=Qay.1 ((Qaz.1 hg).2.1 e he);omega
    have e2:=Qhn (n:=n) (es:=h) fun e he=>by have:=Qay.1 ((Qaz.1 hh).2.1 e he);omega
    rw [e1,e2] at hd
    have:=congrArg (fun l=>l[v]?) hd
    simpa [hv] using this
  · rw [Qwq (Qaz.1 hg).2.1 (by omega),Qwq (Qaz.1 hh).2.1 (by omega)]
 have d5:∀ {u:List (Int×Int)},Qac (5:Nat) u=true→Qco 5 u=(List.range 5).map (deg u):=fun {u} hu=>Qhn fun e he=>by have:=Qay.1 ((Qaz.1 hu).2.1 e he);omega
 have hxy:Qco 5 x=Qco 5 y:=by
  rw [xd,yd,d5 g5,d5 h5]
  exact List.map_congr_left fun v _=>hdeg v
 have hc:Qvp x 0=Qvp y 0:=by
  have c1:=Qnc x 0 (Qaz.1 xv).2.1
  have c2:=Qnc y 0 (Qaz.1 yv).2.1
  rw [d5 xv,d5 yv] at hxy
  have at_:∀ v,v < 5→deg x v=deg y v:=fun v hv=>by
   have:=congrArg (fun l=>l[v]?) hxy
   simpa [hv] using this
  rw [at_ 0 (by omega),at_ 1 (by omega),at_ 2 (by omega),at_ 3 (by omega),at_ 4 (by omega)] at c1
  omega
 rw [hc] at a2
 have hm:=(Jef Jgz).2 _ _ _ (Qz1 a2) (Qz1 b2)
 have hxy:=Jc6 (n:=5) (by omega) xv yv hm
 subst hxy
 obtain ⟨k,-,k2⟩:=Qg9 l2 h5 b1
 exact ⟨l1++k,by rw [Qfw l1 k a1];exact k2⟩
end Go.Idl
namespace Go.Idl
theorem Jig {n:Nat} {es:List (Int×Int)} (h:Qac n es=true) {a b c d:Int} (hm:Qdc es a b c d=true):sw es b a d c=sw es a b c d:=by
 obtain ⟨-,-,v1,-⟩:=Qcw h hm
 obtain ⟨-,-,v2,-⟩:=Qcw h (Qr6 hm)
 refine Qif (Qaz.1 v2).1 (Qaz.1 v1).1 fun e=>?_
 rw [Qea,Qea,Int.min_comm b a,Int.max_comm b a,Int.min_comm d c,Int.max_comm d c,or_comm (a:=e=(min b d,max b d))]
theorem Jhq {n:Nat} {es:List (Int×Int)} (h:Qac n es=true) {a b c d:Int} (hm:Qdc es a b c d=true):sw es c d a b=sw es a b c d:=by
 obtain ⟨-,-,v1,-⟩:=Qcw h hm
 obtain ⟨-,-,v2,-⟩:=Qcw h (Qr5 hm)
 refine Qif (Qaz.1 v2).1 (Qaz.1 v1).1 fun e=>?_
 rw [Qea,Qea,Int.min_comm c a,Int.max_comm c a,Int.min_comm d b,Int.max_comm d b,and_comm (a:=e ≠ (min c d,max c d))]
theorem Jbk {n:Nat} {es:List (Int×Int)} (h:Qac n es=true) {a b c d:Int} (hm:Qdc es a b c d=true):∃ s ∈ swl es es,swq es s=sw es a b c d:=by
 have hv:=Qaz.1 h
 have fin:∀ a b c d:Int,a < b→Qao (a,b) (min c d,max c d)=true→Qdc es a b c d=true→(a,b,c,d) ∈ swl es es:=by
  intro a b c d hab hb hm
  obtain ⟨⟨n1,n2,n3,n4,n5,n6⟩,i1,i2,i3,i4⟩:=Qbz.1 hm
  rw [show min a b=a by omega,show max a b=b by omega] at i1
  have hs:=Qrq hv.1 i1 i2 hb
  refine Qpn.2 ⟨_,_,hs,Qrc.2 ⟨by rw [Qv0 h];exact hm,?_⟩⟩
  by_cases hcd:c < d
  · left;rw [show min c d=c by omega,show max c d=d by omega]
  · right;rw [show min c d=d by omega,show max c d=c by omega]
 have one:∀ a b c d:Int,Qao (min a b,max a b) (min c d,max c d)=true→Qdc es a b c d=true→∃ s ∈ swl es es,swq es s=sw es a b c d:=by
  intro a b c d hb hm
  obtain ⟨⟨n1,n2,n3,n4,n5,n6⟩,i1,i2,i3,i4⟩:=Qbz.1 hm
  by_cases hab:a < b
  · rw [show min a b=a by omega,show max a b=b by omega] at hb
    exact ⟨_,fin a b c d hab hb hm,rfl⟩
  · rw [show min a b=b by omega,show max a b=a by omega,Int.min_comm,Int.max_comm] at hb
    exact ⟨_,fin b a d c (by omega) hb (Qr6 hm),Jig h hm⟩
 obtain ⟨⟨n1,n2,n3,n4,n5,n6⟩,i1,i2,i3,i4⟩:=Qbz.1 hm
 rcases Qb2 (a:=(min a b,max a b)) (b:=(min c d,max c d)) (fun hh=>by simp only [Qpi] at hh;omega) with hb | hb
 · exact one a b c d hb hm
 · obtain ⟨s,s1,s2⟩:=one c d a b hb (Qr5 hm)
   exact ⟨s,s1,by rw [s2];exact Jhq h hm⟩
def dep (A:List Vs) (k:Nat):Nat:=(chn A (k+1) k).length
structure Jks (n:Nat) (g0:List (Int×Int)) (A:List Vs):Prop where
 met:Met n (Qco n g0) A
 z:∃ c q,A[0]? = some ((g0,c),-1,q)
 st:∀ (k:Nat) (t:Vs),A[k]? = some t→k ≠ 0→∃ (p:Nat) (u:Vs),t.2.1=(p:Int)∧p < k∧A[p]? = some u∧Qdc u.1.1 t.2.2.1 t.2.2.2.1 t.2.2.2.2.1 t.2.2.2.2.2=true∧t.1.1=swq u.1.1 t.2.2
 mono:∀ k k',k≤k'→k' < A.length→dep A k≤dep A k'
theorem Qmv {n:Nat} {g0:List (Int×Int)} {A:List Vs} (h:Jks n g0 A):dep A 0=0:=by
 obtain ⟨c,q,hz⟩:=h.z
 rw [dep,chn]
 simp only [Int.toNat_natCast,hz]
 rw [if_neg (by omega)];rfl
theorem Qrg {n:Nat} {d:List Int} {A:List Vs} (h:Met n d A) {k p:Nat} {t:Vs} (hk:A[k]? = some t) (hp:t.2.1=(p:Int)) (hpk:p < k):chn A (k+1) k=t.2.2::chn A (p+1) p:=by
 have hkl:=(List.getElem?_eq_some_iff.1 hk).1
 rw [chn,Int.toNat_natCast,hk]
 simp only
 rw [hp,if_pos (by omega),Qra h (p+1) k p (by omega) (by omega) (by omega)]
theorem Qmy {n:Nat} {d:List Int} {A:List Vs} (h:Met n d A) {k p:Nat} {t:Vs} (hk:A[k]? = some t) (hp:t.2.1=(p:Int)) (hpk:p < k):dep A k=dep A p+1:=by
 rw [dep,Qrg h hk hp hpk,List.length_cons,dep]
theorem Qhl {n:Nat} {d:List Int} {A:List Vs} (h:Met n d A) (X:List Vs) {k:Nat} (hk:k < A.length):dep (A++X) k=dep A k:=by
 rw [dep,Qpr h X _ _ hk,dep]
theorem Jgt {n:Nat} {g0:List (Int×Int)} {A:List Vs} (h:Jks n g0 A):∀ (m k:Nat),k < m→∀ t,A[k]? = some t→Qef g0 (chn A (k+1) k).reverse=some t.1.1:=by
 intro m
 induction m with
 | zero=>intro k hk;omega
 | succ m ih =>
   intro k hk t ht
   by_cases hk0:k=0
   · subst hk0
     obtain ⟨c,q,hz⟩:=h.z
     rw [hz] at ht
     cases ht
     rw [chn]
     simp only [Int.toNat_natCast,hz]
     rw [if_neg (by omega)];rfl
   · obtain ⟨p,u,h1,h2,h3,h4,h5⟩:=h.st k t ht hk0
     rw [Qrg h.met ht h1 h2,List.reverse_cons,Qfw _ _ (ih p (by omega) u h3),Qi4 h4]
     exact congrArg some h5.symm
structure Jpx (n:Nat) (g0:List (Int×Int)) (i:Nat) (A:List Vs):Prop where
 inv:Jks n g0 A
 par:∀ (k:Nat) (t:Vs) (p:Nat),A[k]? = some t→t.2.1=(p:Int)→p < i
 cl:∀ p,p < i→∀ u,A[p]? = some u→∀ s:Q4,Qdc u.1.1 s.1 s.2.1 s.2.2.1 s.2.2.2=true→∃ (k:Nat) (t:Vs),A[k]? = some t∧t.1.1=swq u.1.1 s∧dep A k≤dep A p+1
theorem Qek {A X:List Vs} {k:Nat} {t:Vs} (h:A[k]? = some t):(A++X)[k]? = some t:=by
 rw [List.getElem?_append_left (List.getElem?_eq_some_iff.1 h).1];exact h
theorem Qqk {n:Nat} {g0 g:List (Int×Int)} (hg:Qac n g=true) (hdg:Qco n g=Qco n g0) (i:Nat):∀ (r:List Q4) (A:List Vs),(∀ s ∈ r,Qdc g s.1 s.2.1 s.2.2.1 s.2.2.2=true)→Jks n g0 A →
 (∃ u,A[i]? = some u∧u.1.1=g)→(∀ (k:Nat) (t:Vs) (p:Nat),A[k]? = some t→t.2.1=(p:Int)→p≤i) →
 Jks n g0 (bfA g i r A)∧(∃ X,bfA g i r A=A++X)∧(∀ (k:Nat) (t:Vs) (p:Nat),(bfA g i r A)[k]? = some t→t.2.1=(p:Int)→p≤i) ∧
  ∀ s ∈ r,∃ (k:Nat) (t:Vs),(bfA g i r A)[k]? = some t∧t.1.1=swq g s
 | [],A,_,hI,_,hp=>⟨by rw [bfA];exact hI,⟨[],by rw [bfA,List.append_nil]⟩,by rw [bfA];exact hp,by simp⟩
 | s::r,A,hr,hI,⟨u,hu,hug⟩,hp=>by
   have hil:=(List.getElem?_eq_some_iff.1 hu).1
   rw [bfA]
   cases hq:A.any fun t=>decide (t.1.1=swq g s) with
   | true =>
     simp only [if_true]
     obtain ⟨k1,⟨X,k2⟩,k3,k4⟩:=Qqk hg hdg i r A (fun x hx=>hr x (by simp [hx])) hI ⟨u,hu,hug⟩ hp
     refine ⟨k1,⟨X,k2⟩,k3,fun x hx=>?_⟩
     rcases List.mem_cons.1 hx with rfl | hx
     · obtain ⟨t,ht,hte⟩:=List.any_eq_true.1 hq
       obtain ⟨k,hk⟩:=List.mem_iff_getElem?.1 ht
       exact ⟨k,t,by rw [k2];exact Qek hk,of_decide_eq_true hte⟩
     · exact k4 x hx
   | false =>
     simp only [Bool.false_eq_true,if_false]
     have hm:=hr s (by simp)
     have hM2:=hI.met.add hg hdg i hil hm hq
     obtain ⟨T,hT⟩:∃ T:Vs,T=((swq g s,false),(i:Int),s):=⟨_,rfl⟩
     rw [← hT] at hM2 ⊢
     have hnew:(A++[T])[A.length]? = some T:=by rw [List.getElem?_append_right (Nat.le_refl _)];simp
     have hdn:dep (A++[T]) A.length=dep A i+1:=by
      rw [Qmy hM2 hnew (p:=i) (by rw [hT]) hil,Qhl hI.met _ hil]
     have hle:∀ k,k < A.length→dep A k≤dep A i+1:=fun k hk=>by
      by_cases hk0:k=0
      · subst hk0;rw [Qmv hI];omega
      · obtain ⟨t,ht⟩:∃ t,A[k]? = some t:=⟨_,List.getElem?_eq_getElem hk⟩
        obtain ⟨p,u',h1,h2,-⟩:=hI.st k t ht hk0
        have h3:=hp k t p ht h1
        rw [Qmy hI.met ht h1 h2]
        have:=hI.mono p i h3 hil
        omega
     have hI2:Jks n g0 (A++[T]):=by
      refine ⟨hM2,?_,fun k t hk hk0=>?_,fun k k' hkk hk'=>?_⟩
      · obtain ⟨c,q,hz⟩:=hI.z
        exact ⟨c,q,Qek hz⟩
      · by_cases hkl:k < A.length
        · rw [List.getElem?_append_left hkl] at hk
          obtain ⟨p,u',h1,h2,h3,h4,h5⟩:=hI.st k t hk hk0
          exact ⟨p,u',h1,h2,Qek h3,h4,h5⟩
        · have hke:k=A.length:=by
           have:=(List.getElem?_eq_some_iff.1 hk).1
           simp at this;omega
          subst hke
          rw [hnew] at hk
          cases hk
          rw [hT]
          exact ⟨i,u,rfl,hil,Qek hu,by rw [hug];exact hm,by rw [hug]⟩
      · rw [List.length_append,List.length_singleton] at hk'
        by_cases hkl:k' < A.length
        · rw [Qhl hI.met _ hkl,Qhl hI.met _ (by omega)]
          exact hI.mono k k' hkk hkl
        · have hke:k'=A.length:=by omega
          subst hke
          by_cases hk2:k < A.length
          · rw [hdn,Qhl hI.met _ hk2];exact hle k hk2
          · have:k=A.length:=by omega
            subst this;exact Nat.le_refl _
     have hp2:∀ (k:Nat) (t:Vs) (p:Nat),(A++[T])[k]? = some t→t.2.1=(p:Int)→p≤i:=fun k t p hk htp=>by
      by_cases hkl:k < A.length
      · rw [List.getElem?_append_left hkl] at hk;exact hp k t p hk htp
      · have hke:k=A.length:=by
         have:=(List.getElem?_eq_some_iff.1 hk).1
         simp at this;omega
        subst hke
        rw [hnew] at hk
        cases hk
        rw [hT] at htp
        simp only at htp
        omega
     obtain ⟨k1,⟨X,k2⟩,k3,k4⟩:=Qqk hg hdg i r (A++[T]) (fun x hx=>hr x (by simp [hx])) hI2 ⟨u,Qek hu,hug⟩ hp2
     refine ⟨k1,⟨[T]++X,by rw [k2,List.append_assoc]⟩,k3,fun x hx=>?_⟩
     rcases List.mem_cons.1 hx with rfl | hx
     · exact ⟨A.length,T,by rw [k2];exact Qek hnew,by rw [hT]⟩
     · exact k4 x hx
theorem Jv6 {n:Nat} (hn:n≤5) {g0 h:List (Int×Int)}:∀ (m i:Nat) (A:List Vs),i+m=1025→i≤A.length→Jpx n g0 i A→(∀ p,p < i→∀ u,A[p]? = some u→u.1.1 ≠ h)→(Qco n g0).length=n →
 match bfs h m i A with
 | none=>∃ A',Jpx n g0 A'.length A'∧∀ u ∈ A',u.1.1 ≠ h
 | some (k,A')=>Jpx n g0 k A'∧∃ t,A'[k]? = some t∧t.1.1=h:=by
 intro m
 induction m with
 | zero =>
   intro i A hi hiA hO _ hd
   have:=hO.inv.met.few hn hd
   omega
 | succ m ih =>
   intro i A hi hiA hO hno hd
   rw [bfs]
   cases hk:A[i]? with
   | none =>
     have:A.length≤i:=List.getElem?_eq_none_iff.1 hk
     have hie:i=A.length:=by omega
     subst hie
     refine ⟨A,hO,fun u hu=>?_⟩
     obtain ⟨k,hk⟩:=List.mem_iff_getElem?.1 hu
     exact hno k (List.getElem?_eq_some_iff.1 hk).1 u hk
   | some t =>
     simp only
     by_cases hth:t.1.1=h
     · rw [if_pos hth]
       exact ⟨hO,t,hk,hth⟩
     · rw [if_neg hth]
       have hil:=(List.getElem?_eq_some_iff.1 hk).1
       have hv:=hO.inv.met.v t (List.mem_of_getElem? hk)
       have hsm:∀ s ∈ swl t.1.1 t.1.1,Qdc t.1.1 s.1 s.2.1 s.2.2.1 s.2.2.2=true:=fun s hs=>(Qnw hv.1 hs).may
       obtain ⟨k1,⟨X,k2⟩,k3,k4⟩:=Qqk hv.1 hv.2 i (swl t.1.1 t.1.1) A hsm hO.inv ⟨t,hk,rfl⟩ (fun k t p h1 h2=>Nat.le_of_lt (hO.par k t p h1 h2))
       refine ih (i+1) _ (by omega) (by rw [k2,List.length_append];omega) ⟨k1,fun k t p h1 h2=>by have:=k3 k t p h1 h2;omega,fun p hp u hu s hs=>?_⟩ (fun p hp u hu=>?_) hd
       · by_cases hpi:p < i
         · have hu2:A[p]? = some u:=by
            rw [k2,List.getElem?_append_left (by omega)] at hu;exact hu
           obtain ⟨k,t',c1,c2,c3⟩:=hO.cl p hpi u hu2 s hs
           refine ⟨k,t',by rw [k2];exact Qek c1,c2,?_⟩
           rw [k2,Qhl hO.inv.met _ (List.getElem?_eq_some_iff.1 c1).1,Qhl hO.inv.met _ (by omega)]
           exact c3
         · have hpe:p=i:=by omega
           subst hpe
           have hut:u=t:=by
            rw [k2,Qek hk] at hu
            exact (Option.some.inj hu).symm
           subst hut
           obtain ⟨s',s1,s2⟩:=Jbk hv.1 hs
           obtain ⟨k,t',c1,c2⟩:=k4 s' s1
           refine ⟨k,t',c1,by rw [c2,s2],?_⟩
           by_cases hk0:k=0
           · subst hk0;rw [Qmv k1];omega
           · obtain ⟨q,u',h1,h2,-⟩:=k1.st k t' c1 hk0
             have h3:=k3 k t' q c1 h1
             rw [Qmy k1.met c1 h1 h2]
             have:=k1.mono q p h3 (by rw [k2,List.length_append];omega)
             omega
       · by_cases hpi:p < i
         · rw [k2,List.getElem?_append_left (by omega)] at hu
           exact hno p hpi u hu
         · have hpe:p=i:=by omega
           subst hpe
           rw [k2,Qek hk] at hu
           cases hu
           exact hth
theorem out0 {n:Nat} {g:List (Int×Int)} (hg:Qac n g=true) (c:Bool):Jpx n g 0 (A0 g c) where
 inv:={
  met:=met0 hg rfl c
  z:=⟨c,_,rfl⟩
  st:=fun k t hk hk0=>by
   cases k with
   | zero=>exact absurd rfl hk0
   | succ k=>simp [A0] at hk
  mono:=fun k k' h1 h2=>by
   simp [A0] at h2
   have e1:k=k':=by omega
   subst e1;exact Nat.le_refl _ }
 par:=fun k t p hk htp=>by
  cases k with
  | zero =>
    simp only [A0,List.getElem?_cons_zero,Qoi] at hk
    subst hk
    simp only at htp
    omega
  | succ k=>simp [A0] at hk
 cl:=fun p hp=>by omega
theorem Qyw {n:Nat} {g0:List (Int×Int)} {i:Nat} {A:List Vs} (hO:Jpx n g0 i A):∀ (m:Nat) (l:List Q4) (x:List (Int×Int)),l.length=m→Qef g0 l=some x →
 (∃ p u,A[p]? = some u∧u.1.1=x∧dep A p≤m) ∨ (i < A.length∧dep A i≤m):=by
 intro m
 induction m with
 | zero =>
   intro l x hl hx
   have:=List.length_eq_zero_iff.1 hl
   subst this
   rw [Qef] at hx
   cases hx
   obtain ⟨c,q,hz⟩:=hO.inv.z
   exact .inl ⟨0,_,hz,rfl,by rw [Qmv hO.inv];omega⟩
 | succ m ih =>
   intro l x hl hx
   have hne:l ≠ []:=fun h=>by rw [h] at hl;cases hl
   obtain ⟨l0,s,rfl⟩:∃ l0 s,l=l0++[s]:=⟨_,_,(List.dropLast_concat_getLast hne).symm⟩
   have hl0:l0.length=m:=by simpa using hl
   obtain ⟨y,hy⟩:∃ y,Qef g0 l0=some y:=by
    have pre:∀ (l:List Q4) (g:List (Int×Int)),Qef g (l++[s])=some x→∃ y,Qef g l=some y:=by
     intro l
     induction l with
     | nil=>intro g _;exact ⟨g,rfl⟩
     | cons a l ih2 =>
       intro g hq
       rw [List.cons_append,Qef] at hq
       split at hq
       · rename_i hm
         rw [Qef,if_pos hm]
         exact ih2 _ hq
       · cases hq
    exact pre l0 g0 hx
   rw [Qfw l0 [s] hy,Qef] at hx
   split at hx
   rotate_left
   · cases hx
   rename_i hm
   rw [Qef] at hx
   cases hx
   rcases ih l0 y hl0 hy with ⟨p,u,h1,h2,h3⟩ | ⟨h1,h2⟩
   · by_cases hp:p < i
     · subst h2
       obtain ⟨k,t,c1,c2,c3⟩:=hO.cl p hp u h1 s hm
       exact .inl ⟨k,t,c1,c2,by omega⟩
     · have hpl:=(List.getElem?_eq_some_iff.1 h1).1
       have:=hO.inv.mono i p (by omega) hpl
       exact .inr ⟨by omega,by omega⟩
   · exact .inr ⟨h1,by omega⟩
theorem Qrn {n:Nat} (hn:n≤5) {g h:List (Int×Int)} (hg:Qac n g=true) (hh:Qac n h=true) (c:Bool) :
 ((spI g c h).isSome=decide (Qco n g=Qco n h))∧∀ p,spI g c h=some p→Qef g p=some h∧p.length≤1024∧∀ l,Qef g l=some h→p.length≤l.length:=by
 have hdl:(Qco n g).length=n:=by rw [Qco,Qd8];simp
 have hb:=Jv6 hn (h:=h) 1025 0 (A0 g c) (by omega) (by simp [A0]) (out0 hg c) (fun p hp=>by omega) hdl
 unfold spI
 cases hq:bfs h 1025 0 (A0 g c) with
 | none =>
   rw [hq] at hb
   obtain ⟨A',hO,hno⟩:=hb
   refine ⟨?_,fun p hp=>by cases hp⟩
   symm
   refine decide_eq_false fun hd=>?_
   obtain ⟨l,hl⟩:=Ji4 hn hg hh hd
   rcases Qyw hO l.length l h rfl hl with ⟨p,u,h1,h2,-⟩ | ⟨h1,-⟩
   · exact hno u (List.mem_of_getElem? h1) h2
   · omega
 | some kA =>
   obtain ⟨k,A'⟩:=kA
   rw [hq] at hb
   obtain ⟨hO,t,ht,hth⟩:=hb
   have hv:=hO.inv.met.v t (List.mem_of_getElem? ht)
   have hkl:=(List.getElem?_eq_some_iff.1 ht).1
   refine ⟨?_,fun p hp=>?_⟩
   · symm
     refine decide_eq_true ?_
     rw [← hv.2,hth]
   · simp only [Option.map_some,Qoi] at hp
     subst hp
     have hr:=Jgt hO.inv (k+1) k (by omega) t ht
     rw [hth] at hr
     have hfew:=hO.inv.met.few hn hdl
     refine ⟨hr,?_,fun l hl=>?_⟩
     · rw [List.length_reverse]
       have:=Qw7 A' (k+1) k
       omega
     · rw [List.length_reverse]
       show dep A' k≤l.length
       rcases Qyw hO l.length l h rfl hl with ⟨p,u,h1,h2,h3⟩ | ⟨-,h2⟩
       · have hpk:p=k:=by
          have hnd:=hO.inv.met.nd
          have e1:(A'.map fun t=>t.1.1)[p]? = some h:=by rw [List.getElem?_map,h1];exact congrArg some h2
          have e2:(A'.map fun t=>t.1.1)[k]? = some h:=by rw [List.getElem?_map,ht];exact congrArg some hth
          obtain ⟨l1,g1⟩:=List.getElem?_eq_some_iff.1 e1
          obtain ⟨l2,g2⟩:=List.getElem?_eq_some_iff.1 e2
          have hp:=List.pairwise_iff_getElem.1 hnd
          by_cases a1:p < k
          · exact absurd (g1.trans g2.symm) (hp p k l1 l2 a1)
          · by_cases a2:k < p
            · exact absurd (g2.trans g1.symm) (hp k p l2 l1 a2)
            · omega
         subst hpk;exact h3
       · exact h2
theorem Jc1 {n:Nat} (hn:n≤5) {g h:List (Int×Int)} (hg:Qac n g=true) (hh:Qac n h=true) {c c':Bool} {p q:List Q4} (hp:spI g c h=some p) (hq:spI h c' g=some q):p.length=q.length:=by
 obtain ⟨-,k1⟩:=Qrn hn hg hh c
 obtain ⟨-,k2⟩:=Qrn hn hh hg c'
 obtain ⟨r1,-,m1⟩:=k1 p hp
 obtain ⟨r2,-,m2⟩:=k2 q hq
 obtain ⟨x,x1,x2⟩:=Qg9 p hg r1
 obtain ⟨y,y1,y2⟩:=Qg9 q hh r2
 have:=m1 y y2
 have:=m2 x x2
 omega
def Qhi (A:List Vs):List Vs:=A.map fun t=>((t.1.1,false),t.2)
theorem Qo4 (A:List Vs) (k:Nat):(Qhi A)[k]? = A[k]?.map fun t=>((t.1.1,false),t.2):=by simp [Qhi]
theorem Qjd (g:List (Int×Int)) (i:Int):∀ (r:List Q4) (A:List Vs),bfA g i r (Qhi A)=Qhi (bfA g i r A)
 | [],A=>by rw [bfA,bfA]
 | s::r,A=>by
   have h1:((Qhi A).any fun t=>decide (t.1.1=swq g s))=A.any fun t=>decide (t.1.1=swq g s):=by simp [Qhi,Function.comp_def]
   rw [bfA,bfA,h1]
   split
   · exact Qjd g i r A
   · have h2:Qhi A++[((swq g s,false),i,s)]=Qhi (A++[((swq g s,false),i,s)]):=by simp [Qhi]
     rw [h2];exact Qjd g i r _
theorem Qz7 (A:List Vs):∀ (m:Nat) (k:Int),chn (Qhi A) m k=chn A m k:=by
 intro m
 induction m with
 | zero=>intro k;rfl
 | succ m ih =>
   intro k
   rw [chn,chn,Qo4]
   cases A[k.toNat]? with
   | none=>rfl
   | some t=>simp only [Option.map_some,ih]
theorem Qxd (h:List (Int×Int)):∀ (m i:Nat) (A:List Vs),bfs h m i (Qhi A)=(bfs h m i A).map fun p=>(p.1,Qhi p.2):=by
 intro m
 induction m with
 | zero=>intro i A;rfl
 | succ m ih =>
   intro i A
   rw [bfs,bfs,Qo4]
   cases A[i]? with
   | none=>rfl
   | some t =>
     simp only [Option.map_some]
     split
     · rfl
     · rw [Qjd];exact ih _ _
theorem Qmz (g:List (Int×Int)) (c:Bool) (h:List (Int×Int)):spI g c h=spI g false h:=by
 have h1:Qhi (A0 g c)=A0 g false:=rfl
 have h2:=Qxd h 1025 0 (A0 g c)
 rw [h1] at h2
 rw [spI,spI,h2]
 cases bfs h 1025 0 (A0 g c) with
 | none=>rfl
 | some p=>simp only [Option.map_some,Qz7]
theorem Jcm (g h k P:List (Int×Int)):Qdg g k P≤Qdg g h P+Qdg h k P:=by
 induction P with
 | nil=>simp [Qdg]
 | cons e P ih =>
   simp only [Qdg,List.filter_cons] at ih ⊢
   have h1:Qe1 g k e=true→Qe1 g h e=true ∨ Qe1 h k e=true:=by
    simp only [Qe1]
    cases Qi9 g e.1 e.2 <;> cases Qi9 h e.1 e.2 <;> cases Qi9 k e.1 e.2 <;> simp
   cases c1:Qe1 g k e with
   | false =>
     simp only [Bool.false_eq_true,if_false]
     cases Qe1 g h e <;> cases Qe1 h k e <;> simp <;> omega
   | true =>
     rcases h1 c1 with h2 | h2
     · rw [h2];cases Qe1 h k e <;> simp <;> omega
     · rw [h2];cases Qe1 g h e <;> simp <;> omega
theorem Jdh {n:Nat} {g:List (Int×Int)} (hg:Qac n g=true) {s:Q4} (hm:Qdc g s.1 s.2.1 s.2.2.1 s.2.2.2=true):Qdg g (swq g s) (prs n)≤4:=by
 obtain ⟨a,b,c,d⟩:=s
 have hsub:∀ e ∈ (prs n).filter (Qe1 g (swq g (a,b,c,d))),e ∈ [(min a b,max a b),(min c d,max c d),(min a c,max a c),(min b d,max b d)]:=fun e he=>by
  obtain ⟨h1,h2⟩:=List.mem_filter.1 he
  by_cases x1:e=(min a b,max a b)
  · simp [x1]
  by_cases x2:e=(min c d,max c d)
  · simp [x2]
  by_cases x3:e=(min a c,max a c)
  · simp [x3]
  by_cases x4:e=(min b d,max b d)
  · simp [x4]
  exfalso
  have hmem:e ∈ sw g a b c d ↔ e ∈ g:=by
   rw [Qea]
   simp [x1,x2,x3,x4]
  simp only [Qe1,swq,Ja0 h1,decide_eq_decide.2 hmem] at h2
  simp at h2
 have hnd:((prs n).filter (Qe1 g (swq g (a,b,c,d)))).Nodup:=List.Nodup.sublist (List.filter_sublist ..) (Qgf (Qsk n))
 exact Qpq hnd hsub
theorem Qwn (g P:List (Int×Int)):Qdg g g P=0:=by
 rw [Qdg,List.length_eq_zero_iff,List.filter_eq_nil_iff]
 intro e _
 simp [Qe1]
theorem Qq1 {n:Nat}:∀ (l:List Q4) {g h:List (Int×Int)},Qac n g=true→Qef g l=some h→Qdg g h (prs n)≤4 * l.length
 | [],g,h,_,hq=>by rw [Qef] at hq;cases hq;rw [Qwn];omega
 | s::l,g,h,hg,hq=>by
   rw [Qef] at hq
   split at hq
   · rename_i hm
     obtain ⟨-,-,hv,-⟩:=Qcw hg hm
     have h1:=Qq1 l hv hq
     have h2:=Jdh hg hm
     have h3:=Jcm g (swq g s) h (prs n)
     simp only [swq] at h2 h3
     rw [List.length_cons]
     omega
   · cases hq
end Go.Idl
namespace Go.Idl
open Go
abbrev twM (code:List Int) (c:Bool) (k:Nat):List Qae:=[[[I 0,Z],[I 0,Z],R code c k]]
theorem Qk3 (code:List Int) (c:Bool) (hc:Qe6 code) (cnt:Nat) (hn:cnt≤90000) :
 ∃ (n:Nat) (es:List (Int×Int)) (k:Nat),n≤5∧es.Sublist (prs n)∧k≤cnt+101 ∧
   Qcb tb Qtk [] [.bptr 0 2 0] (twM code c cnt)=some ⟨OG n es,[],twM code c k,[]⟩:=by
 obtain ⟨x,k1,hx,hk1,e1⟩:=Jyk code c hc cnt (by omega) [5,4,5,3,2,1] (by simp) [[I 0,Z],[I 0,Z]] [] [[[I 0,.lst 0 [] true]]]
 obtain ⟨n,rfl,hn7⟩:∃ n:Nat,x=(n:Int)∧n≤5:=by
  simp at hx
  exact ⟨x.toNat,by omega,by omega⟩
 obtain ⟨es,k,hs,hk,ea⟩:=Qia code c hc k1 (by omega) n (by omega) [[I 0,Z],[I 0,Z]] [] [[[I 0,.lst 0 [] true]]]
 have e2:=Qab ea
 simp only [List.cons_append,List.nil_append,List.length_cons,List.length_nil,List.map] at e1 e2
 refine ⟨n,es,k,hn7,hs,by omega,Qab ?_⟩
 refine cW zt375 rfl ?_
 repeat (first|apply wA|apply wS|refine wr (by simp [e1,e2];with_reducible rfl) ?_|refine wq (by simp [e1,e2];with_reducible rfl) ?_|refine wt (by simpa [e1,e2]) ?_|refine wf (by simpa [e1,e2]) ?_|refine xt (by simpa [e1,e2]) ?_|refine xf (by simpa [e1,e2]) ?_|apply wB|apply Qaa|refine wX ?_|refine wY ?_|refine wR ?_|refine wK ?_|refine wE ?_)
 simp [Jbw]
abbrev twL (n:Nat) (g:List (Int×Int)) (cg:Bool) (h:List (Int×Int)) (ch:Bool):Qae:=[[I n,L2 g cg],[I 0,Z],[I 0,Z],[I n,L2 h ch]]
set_option maxHeartbeats 4000000 in
theorem Jkg (code:List Int) (c:Bool) (hc:Qe6 code) (n:Nat) (hn:n≤5) (g:List (Int×Int)) (cg:Bool):∀ (m cnt:Nat) (h:List (Int×Int)) (ch:Bool),Qac n h=true→cnt+m≤60000 →
 wp tb (.loop Qzx) { T:=[(0,.bptr 0 2 0),(3,.bptr 1 0 0),(4,.bptr 1 1 0),(5,.bptr 1 2 0),(6,.bptr 1 3 0),(7,I m)],loc:=twL n g cg h ch,M:=twM code c cnt }
  (fun ex st=>ex=.exit 0∧∃ h' ch' cnt',Qac n h'=true∧cnt'≤60000∧st={ T:=[(0,.bptr 0 2 0),(3,.bptr 1 0 0),(4,.bptr 1 1 0),(5,.bptr 1 2 0),(6,.bptr 1 3 0),(7,I 0),(24,Bo false)],loc:=twL n g cg h' ch',M:=twM code c cnt' }):=by
 intro m
 induction m with
 | zero =>
   intro cnt h ch hv hk
   refine wW ?_
   repeat (first|apply wA|apply wS|refine wr (by simp;with_reducible rfl) ?_|refine wq (by simp;with_reducible rfl) ?_|refine wt (by simpa) ?_|refine wf (by simpa) ?_|refine xt (by simpa) ?_|refine xf (by simpa) ?_|apply wB|apply Qaa|refine wX ?_|refine wY ?_|refine wR ?_|refine wK ?_|refine wE ?_)
   exact ⟨rfl,h,ch,cnt,hv,by omega,rfl⟩
 | succ m ih =>
   intro cnt h ch hv hk
   have h21:=Qkn (by omega) hv
   have w1:IntKind.i64.wrap ((m:Int)+1 - 1)=m:=Qaj (by omega) (by omega) |>.trans (by omega)
   have w2:IntKind.i64.wrap (m:Int)=m:=Qaj (by omega) (by omega)
   have hpos:0 < (m:Int)+1:=by omega
   have e1:=fun c=>Qab (Qex n h c (by omega))
   have hsm:∀ s ∈ swl h h,Qdc h s.1 s.2.1 s.2.2.1 s.2.2.2=true:=fun s hs=>(Qnw hv hs).may
   have hsl:(swl h h).length≤4200:=by
    have:=Qmg h h (by omega)
    omega
   generalize swl h h=S at *
   cases S with
   | nil =>
     simp only [O4,Qne] at e1
     refine wW ?_
     repeat (first|apply wA|apply wS|refine wr (by simp [hpos,e1,w1,w2];with_reducible rfl) ?_|refine wq (by simp [hpos,e1,w1,w2];with_reducible rfl) ?_|refine wt (by simpa [hpos,e1,w1,w2]) ?_|refine wf (by simpa [hpos,e1,w1,w2]) ?_|refine xt (by simpa [hpos,e1,w1,w2]) ?_|refine xf (by simpa [hpos,e1,w1,w2]) ?_|apply wB|apply Qaa|refine wX ?_|refine wY ?_|refine wR ?_|refine wK ?_|refine wE ?_)
     exact ih cnt h ch hv (by omega)
   | cons s0 r0 =>
     have hS0:0 < (s0::r0).length:=by simp
     generalize s0::r0=S at *
     have hS1:¬ S.length=0:=by omega
     obtain ⟨v,k,hvk,hk1,e2⟩:=Qzf code c hc cnt (by omega) S.length (by omega) [[I 0,Z],[I 0,Z]] [] [twL n g cg h ch]
     simp only [List.cons_append,List.nil_append,List.length_cons,List.length_nil] at e2
     have hvl:v < S.length:=by have:=hvk (by omega);omega
     obtain ⟨⟨a,b,x,y⟩,hs⟩:∃ s,s=S[v]:=⟨_,rfl⟩
     have hs2:=hs.symm
     have hm:=hsm _ (List.getElem_mem hvl)
     rw [hs2] at hm
     simp only at hm
     have e3:=fun c=>Qab (Qkc n h c a b x y (by omega))
     rw [Jng hv hm] at e3
     obtain ⟨-,-,k3,-⟩:=Qcw hv hm
     have nx:=ih k (sw h a b x y) false k3 (by omega)
     generalize sw h a b x y=Q at *
     refine wW ?_
     repeat (first|apply wA|apply wS|refine wr (by simp [hpos,e1,hS0,hS1,w1,w2];with_reducible rfl) ?_|refine wq (by simp [hpos,e1,hS0,hS1,w1,w2];with_reducible rfl) ?_|refine wt (by simpa [hpos,e1,hS0,hS1,w1,w2]) ?_|refine wf (by simpa [hpos,e1,hS0,hS1,w1,w2]) ?_|refine xt (by simpa [hpos,e1,hS0,hS1,w1,w2]) ?_|refine xf (by simpa [hpos,e1,hS0,hS1,w1,w2]) ?_|apply wB|apply Qaa|refine wX ?_|refine wY ?_|refine wR ?_|refine wK ?_|refine wE ?_)
     refine Qdt (by simp [e2,hvl,hs2,e3];with_reducible rfl) (by simp;with_reducible rfl) ?_ ?_
     · intro p hp
       simp only [List.mem_cons,List.not_mem_nil,or_false] at hp
       subst hp
       exact ⟨_,by simp [e2,hvl,hs2,e3];with_reducible rfl,by simp⟩
     repeat (first|apply wA|apply wS|refine wr (by simp [w1,w2];with_reducible rfl) ?_|refine wq (by simp [w1,w2];with_reducible rfl) ?_|refine wt (by simpa [w1,w2]) ?_|refine wf (by simpa [w1,w2]) ?_|refine xt (by simpa [w1,w2]) ?_|refine xf (by simpa [w1,w2]) ?_|apply wB|apply Qaa|refine wX ?_|refine wY ?_|refine wR ?_|refine wK ?_|refine wE ?_)
     simpa using nx
set_option maxHeartbeats 8000000 in
theorem Qph (code:List Int) (c:Bool) (hc:Qe6 code) (cnt:Nat) (hk:cnt≤1000) (n:Nat) (hn:n≤5) (g:List (Int×Int)) (cg:Bool) (hg:Qac n g=true) :
 ∃ (m:Int) (h:List (Int×Int)) (ch:Bool) (k:Nat),Qfj m h∧Qcb tb Quh [] [.bptr 0 2 0,Gr n g cg] (twM code c cnt)=some ⟨.tup [Gr n g cg,Gr m h ch],[],twM code c k,[]⟩:=by
 suffices hh:∃ r,(∃ (m:Int) (h:List (Int×Int)) (ch:Bool) (k:Nat),Qfj m h∧r=(⟨.tup [Gr n g cg,Gr m h ch],[],twM code c k,[]⟩:Ret))∧Ev tb Quh [] [.bptr 0 2 0,Gr n g cg] (twM code c cnt) r by
  obtain ⟨r,⟨m,h,ch,k,h1,rfl⟩,h2⟩:=hh
  exact ⟨m,h,ch,k,h1,Qab h2⟩
 have h21:=Qkn (by omega) hg
 have v1:=fun c=>Qab (Qcr n g c (by omega))
 rw [hg] at v1
 have hL:g.length≤274877906944:=by omega
 have htt:g.take g.length=g:=List.take_of_length_le (Nat.le_refl _)
 obtain ⟨v,k1,hv,hk1,e1⟩:=Qzf code c hc cnt (by omega) 4 (by omega) [[I 0,Z],[I 0,Z]] [] [twL n g cg g false]
 simp only [List.cons_append,List.nil_append,List.length_cons,List.length_nil] at e1
 have hv4:=hv (by omega)
 have loop:=Jkg code c hc n hn g cg v k1 g false hg (by omega)
 refine Qel zt495 rfl ?_
 repeat (first|apply wA|apply wS|refine wr (by simp;with_reducible rfl) ?_|refine wq (by simp;with_reducible rfl) ?_|refine wt (by simpa) ?_|refine wf (by simpa) ?_|refine xt (by simpa) ?_|refine xf (by simpa) ?_|apply wB|apply Qaa|refine wX ?_|refine wY ?_|refine wR ?_|refine wK ?_|refine wE ?_)
 refine Qpc rfl (by simp [hL,htt];with_reducible rfl) (by simp;with_reducible rfl) ?_ ?_
 · intro p hp
   simp only [List.mem_cons,List.not_mem_nil,or_false] at hp
   rcases hp with rfl | rfl | rfl | rfl | rfl | rfl | rfl | rfl | rfl | rfl | rfl | rfl | rfl | rfl | rfl | rfl | rfl
   · exact ⟨_,by simp [hL,htt];with_reducible rfl,by simp⟩
   · exact ⟨_,by simp [hL,htt];with_reducible rfl,by simp⟩
   · exact ⟨_,by simp [hL,htt];with_reducible rfl,by simp⟩
   · exact ⟨_,by simp [hL,htt];with_reducible rfl,by simp⟩
   · exact ⟨_,by simp [hL,htt];with_reducible rfl,by simp⟩
   · exact ⟨_,by simp [hL,htt];with_reducible rfl,by simp⟩
   · exact ⟨_,by simp [hL,htt];with_reducible rfl,by simp⟩
   · exact ⟨_,by simp [hL,htt];with_reducible rfl,by simp⟩
   · exact ⟨_,by simp [hL,htt];with_reducible rfl,by simp⟩
   · exact ⟨_,by simp [hL,htt];with_reducible rfl,by simp⟩
   · exact ⟨_,by simp [hL,htt];with_reducible rfl,by simp⟩
   · exact ⟨_,by simp [hL,htt];with_reducible rfl,by simp⟩
   · exact ⟨_,by simp [hL,htt];with_reducible rfl,by simp⟩
   · exact ⟨_,by simp [hL,htt];with_reducible rfl,by simp⟩
   · exact ⟨_,by simp [hL,htt];with_reducible rfl,by simp⟩
   · exact ⟨_,by simp [hL,htt];with_reducible rfl,by simp⟩
   · exact ⟨_,by simp [hL,htt];with_reducible rfl,by simp⟩
 repeat (first|apply wA|apply wS|refine wr (by simp [v1,e1];with_reducible rfl) ?_|refine wq (by simp [v1,e1];with_reducible rfl) ?_|refine wt (by simpa [v1,e1]) ?_|refine wf (by simpa [v1,e1]) ?_|refine xt (by simpa [v1,e1]) ?_|refine xf (by simpa [v1,e1]) ?_|apply wB|apply Qaa|refine wX ?_|refine wY ?_|refine wR ?_|refine wK ?_|refine wE ?_)
 refine Qal loop ?_
 rintro ex st ⟨rfl,h,ch,cnt',hh,hk',rfl⟩
 simp only [if_true]
 have hsm:=Qh7 (by omega:n≤7) (Qn1 hh)
 obtain ⟨w,k2,hw,hk2,e2⟩:=Qzf code c hc cnt' (by omega) 8 (by omega) [[I 0,Z],[I 0,Z]] [] [twL n g cg h ch]
 simp only [List.cons_append,List.nil_append,List.length_cons,List.length_nil] at e2
 have hw8:=hw (by omega)
 by_cases w0:w=0
 · subst w0
   obtain ⟨es,k3,hs,hk3,ea⟩:=Qia code c hc k2 (by omega) n (by omega) [[I 0,Z],[I 0,Z]] [] [twL n g cg h ch]
   have e3:=Qab ea
   simp only [List.cons_append,List.nil_append,List.length_cons,List.length_nil] at e3
   rw [show ((0:Nat):Int)=0 from rfl] at e2
   repeat (first|apply wA|apply wS|refine wr (by simp [e2];with_reducible rfl) ?_|refine wq (by simp [e2];with_reducible rfl) ?_|refine wt (by simpa [e2]) ?_|refine wf (by simpa [e2]) ?_|refine xt (by simpa [e2]) ?_|refine xf (by simpa [e2]) ?_|apply wB|apply Qaa|refine wX ?_|refine wY ?_|refine wR ?_|refine wK ?_|refine wE ?_)
   refine Qdt (by simp [e3];with_reducible rfl) (by simp;with_reducible rfl) ?_ ?_
   · intro p hp
     simp only [List.mem_cons,List.not_mem_nil,or_false] at hp
     subst hp
     exact ⟨_,by simp [e3];with_reducible rfl,by simp⟩
   repeat (first|apply wA|apply wS|refine wr (by simp;with_reducible rfl) ?_|refine wq (by simp;with_reducible rfl) ?_|refine wt (by simpa) ?_|refine wf (by simpa) ?_|refine xt (by simpa) ?_|refine xf (by simpa) ?_|apply wB|apply Qaa|refine wX ?_|refine wY ?_|refine wR ?_|refine wK ?_|refine wE ?_)
   exact ⟨.inr rfl,_,⟨n,es,false,k3,Qh7 (by omega) hs,rfl⟩,by simp [Qtp]⟩
 · by_cases w1:w=1
   · subst w1
     obtain ⟨m,es,k3,hs,hk3,ea⟩:=Qn2 code c hc k2 (by omega) [[I 0,Z],[I 0,Z]] [] [twL n g cg h ch]
     simp only [List.cons_append,List.nil_append,List.length_cons,List.length_nil] at ea
     rw [show ((1:Nat):Int)=1 from rfl] at e2
     repeat (first|apply wA|apply wS|refine wr (by simp [e2];with_reducible rfl) ?_|refine wq (by simp [e2];with_reducible rfl) ?_|refine wt (by simpa [e2]) ?_|refine wf (by simpa [e2]) ?_|refine xt (by simpa [e2]) ?_|refine xf (by simpa [e2]) ?_|apply wB|apply Qaa|refine wX ?_|refine wY ?_|refine wR ?_|refine wK ?_|refine wE ?_)
     refine Qdt (by simp [ea];with_reducible rfl) (by simp;with_reducible rfl) ?_ ?_
     · intro p hp
       simp only [List.mem_cons,List.not_mem_nil,or_false] at hp
       subst hp
       exact ⟨_,by simp [ea];with_reducible rfl,by simp⟩
     repeat (first|apply wA|apply wS|refine wr (by simp;with_reducible rfl) ?_|refine wq (by simp;with_reducible rfl) ?_|refine wt (by simpa) ?_|refine wf (by simpa) ?_|refine xt (by simpa) ?_|refine xf (by simpa) ?_|apply wB|apply Qaa|refine wX ?_|refine wY ?_|refine wR ?_|refine wK ?_|refine wE ?_)
     exact ⟨.inr rfl,_,⟨m,es,false,k3,hs,rfl⟩,by simp [Qtp]⟩
   · have w0':¬ (w:Int)=0:=by omega
     have w1':¬ (w:Int)=1:=by omega
     repeat (first|apply wA|apply wS|refine wr (by simp [e2,w0,w1,w0',w1'];with_reducible rfl) ?_|refine wq (by simp [e2,w0,w1,w0',w1'];with_reducible rfl) ?_|refine wt (by simpa [e2,w0,w1,w0',w1']) ?_|refine wf (by simpa [e2,w0,w1,w0',w1']) ?_|refine xt (by simpa [e2,w0,w1,w0',w1']) ?_|refine xf (by simpa [e2,w0,w1,w0',w1']) ?_|apply wB|apply Qaa|refine wX ?_|refine wY ?_|refine wR ?_|refine wK ?_|refine wE ?_)
     refine Qdt (by simp;with_reducible rfl) (by simp;with_reducible rfl) ?_ ?_
     · intro p hp
       simp only [List.mem_cons,List.not_mem_nil,or_false] at hp
       subst hp
       exact ⟨_,by simp [];with_reducible rfl,by simp⟩
     repeat (first|apply wA|apply wS|refine wr (by simp;with_reducible rfl) ?_|refine wq (by simp;with_reducible rfl) ?_|refine wt (by simpa) ?_|refine wf (by simpa) ?_|refine xt (by simpa) ?_|refine xf (by simpa) ?_|apply wB|apply Qaa|refine wX ?_|refine wY ?_|refine wR ?_|refine wK ?_|refine wE ?_)
     exact ⟨.inr rfl,_,⟨n,h,ch,k2,hsm,rfl⟩,by simp [Qtp]⟩
theorem Qhw (code:List Int) (c:Bool) (h:∀ x ∈ code,0≤x∧x≤255) (hl:code.length≤10000000) :
 ∃ (n:Nat) (g:List (Int×Int)) (cg:Bool) (m:Int) (f:List (Int×Int)) (cf:Bool),n≤5∧Qac n g=true∧Qfj m f ∧
   Qcb tb Qx7 [] [.lst 1 (bytes code) c] []=some ⟨.tup [Gr n g cg,Gr m f cf],[],[],[]⟩:=by
 obtain ⟨c',e⟩:=Qo2 code c [[[I 0,Z],[I 0,Z]]] (by omega)
 have e1:=Qab e
 obtain ⟨n,es,k,hn5,hs,hk,e2⟩:=Qk3 (code.take 2000) c' (Qyz h) 0 (by omega)
 have hv:Qac n es=true:=by
  have:=Qsk n
  exact Qaz.2 ⟨this.sublist hs,fun e he=>hs.mem he,by omega⟩
 have e2:Qcb tb Qtk [] [.bptr 0 2 0] [[[I 0,Z],[I 0,Z],R (code.take 2000) c' 0]]=_:=e2
 obtain ⟨m,f,cf,k3,hf,e3⟩:=Qph (code.take 2000) c' (Qyz h) k (by omega) n hn5 es false hv
 refine ⟨n,es,false,m,f,cf,hn5,hv,hf,Qab ?_⟩
 refine cW zt487 rfl ?_
 repeat (first|apply wA|apply wS|refine wr (by simp [e1,e2,e3];with_reducible rfl) ?_|refine wq (by simp [e1,e2,e3];with_reducible rfl) ?_|refine wt (by simpa [e1,e2,e3]) ?_|refine wf (by simpa [e1,e2,e3]) ?_|refine xt (by simpa [e1,e2,e3]) ?_|refine xf (by simpa [e1,e2,e3]) ?_|apply wB|apply Qaa|refine wX ?_|refine wY ?_|refine wR ?_|refine wK ?_|refine wE ?_)
 simp [Jc7]
end Go.Idl
namespace Go.Idl
open Go
theorem Qga (c:Bool):Ev tb Qqf [] [L4 [] c,Z] [] ⟨Bo true,[],[],[]⟩:=by
 refine cW Jo2 rfl ?_
 repeat (first|apply wA|apply wS|refine wr (by simp;with_reducible rfl) ?_|refine wq (by simp;with_reducible rfl) ?_|refine wt (by simpa) ?_|refine wf (by simpa) ?_|refine xt (by simpa) ?_|refine xf (by simpa) ?_|apply wB|apply Qaa|refine wX ?_|refine wY ?_|refine wR ?_|refine wK ?_|refine wE ?_)
 refine wW ?_
 repeat (first|apply wA|apply wS|refine wr (by simp;with_reducible rfl) ?_|refine wq (by simp;with_reducible rfl) ?_|refine wt (by simpa) ?_|refine wf (by simpa) ?_|refine xt (by simpa) ?_|refine xf (by simpa) ?_|apply wB|apply Qaa|refine wX ?_|refine wY ?_|refine wR ?_|refine wK ?_|refine wE ?_)
 simp [Qzz]
theorem Qiz (n:Nat) (es fs:List (Int×Int)) (c1 c2:Bool) (h1:Qac n es=true) (h2:Qac n fs=true) (f1:Fit es) (f2:Fit fs) (l1:es.length≤1000) (l2:fs.length≤1000) (h0:prs n=[]) (hn:n≤7) :
 Ev tb Qp4 [] [Gr n es c1,Gr n fs c2] [] ⟨I (Qdg es fs (prs n)),[],[],[]⟩:=by
 have e1:=fun c1 c2=>Qab (Qzm n es fs c1 c2 h1 h2 f1 f2 l1 l2)
 have e2:=Qab (Qgm n (by omega))
 rw [h0] at e2 ⊢
 simp only [Je9] at e2
 refine cW Jrj rfl ?_
 repeat (first|apply wA|apply wS|refine wr (by simp [e1,e2];with_reducible rfl) ?_|refine wq (by simp [e1,e2];with_reducible rfl) ?_|refine wt (by simpa [e1,e2]) ?_|refine wf (by simpa [e1,e2]) ?_|refine xt (by simpa [e1,e2]) ?_|refine xf (by simpa [e1,e2]) ?_|apply wB|apply Qaa|refine wX ?_|refine wY ?_|refine wR ?_|refine wK ?_|refine wE ?_)
 refine wW ?_
 repeat (first|apply wA|apply wS|refine wr (by simp;with_reducible rfl) ?_|refine wq (by simp;with_reducible rfl) ?_|refine wt (by simpa) ?_|refine wf (by simpa) ?_|refine xt (by simpa) ?_|refine xf (by simpa) ?_|apply wB|apply Qaa|refine wX ?_|refine wY ?_|refine wR ?_|refine wK ?_|refine wE ?_)
 simp [Qw9,Qdg]
set_option maxHeartbeats 8000000 in
theorem ev_FnSwitchPath (code:List Int) (cl:Bool) (h:∀ x ∈ code,0≤x∧x≤255):Ev tb Jbz [] [.lst 1 (bytes code) cl] [] ⟨Bo true,[],[],[]⟩:=by
 by_cases hc:(1048576:Int) < code.length
 · have hc2:1048576 < code.length:=by omega
   refine cW Qwt rfl ?_
   repeat (first|apply wA|apply wS|refine wr (by simp [hc,hc2];with_reducible rfl) ?_|refine wq (by simp [hc,hc2];with_reducible rfl) ?_|refine wt (by simpa [hc,hc2]) ?_|refine wf (by simpa [hc,hc2]) ?_|refine xt (by simpa [hc,hc2]) ?_|refine xf (by simpa [hc,hc2]) ?_|apply wB|apply Qaa|refine wX ?_|refine wY ?_|refine wR ?_|refine wK ?_|refine wE ?_)
   simp [Qor]
 have hc2:¬ 1048576 < code.length:=by omega
 obtain ⟨n,g,cg,m,f,cf,hn5,hg,hf,e1⟩:=Qhw code cl h (by omega)
 have g21:=Qkn (by omega) hg
 have fl:=hf.len
 have ff:=hf.fit
 have fg:Fit g:=fun e he=>by have:=Qay.1 ((Qaz.1 hg).2.1 e he);omega
 have v1:=fun c=>Qab (Qbb n g c fg (by omega))
 have v2:=fun c=>Qab (Qbb m f c ff (by omega))
 rw [hg] at v1
 have h5:¬ (5:Int) < n:=by omega
 have h5':¬ 5 < n:=by omega
 have z1:=fun c=>Qab (Qga c)
 simp only [L4,Qne] at z1
 cases hq:Qac m f && decide ((n:Int)=m) with
 | false =>
   have hno:(Qac n g && (Qac m f && (decide ((n:Int)=m) && decide ((n:Int)≤5))))=false:=by
    rw [hg,Bool.true_and,← Bool.and_assoc,hq,Bool.false_and]
   have e2:=fun c1 c2=>Qab (Qiq n m g f c1 c2 fg ff (by omega) (by omega) hno)
   have e3:=fun c1 c2=>Qab (Qfi n m g f c1 c2 (by omega) (by omega) hno)
   simp only [spV,spW,O4,Qne] at e2 e3
   cases hv:Qac m f with
   | false =>
     rw [hv] at v2
     refine cW Qwt rfl ?_
     repeat (first|apply wA|apply wS|refine wr (by simp [hc,hc2,e1,e2,e3,z1,v1,v2];with_reducible rfl) ?_|refine wq (by simp [hc,hc2,e1,e2,e3,z1,v1,v2];with_reducible rfl) ?_|refine wt (by simpa [hc,hc2,e1,e2,e3,z1,v1,v2]) ?_|refine wf (by simpa [hc,hc2,e1,e2,e3,z1,v1,v2]) ?_|refine xt (by simpa [hc,hc2,e1,e2,e3,z1,v1,v2]) ?_|refine xf (by simpa [hc,hc2,e1,e2,e3,z1,v1,v2]) ?_|apply wB|apply Qaa|refine wX ?_|refine wY ?_|refine wR ?_|refine wK ?_|refine wE ?_)
     simp [Qor]
   | true =>
     rw [hv] at v2 hq
     have hnm:¬ (n:Int)=m:=by simpa using hq
     refine cW Qwt rfl ?_
     repeat (first|apply wA|apply wS|refine wr (by simp [hc,hc2,e1,e2,e3,z1,v1,v2,hnm];with_reducible rfl) ?_|refine wq (by simp [hc,hc2,e1,e2,e3,z1,v1,v2,hnm];with_reducible rfl) ?_|refine wt (by simpa [hc,hc2,e1,e2,e3,z1,v1,v2,hnm]) ?_|refine wf (by simpa [hc,hc2,e1,e2,e3,z1,v1,v2,hnm]) ?_|refine xt (by simpa [hc,hc2,e1,e2,e3,z1,v1,v2,hnm]) ?_|refine xf (by simpa [hc,hc2,e1,e2,e3,z1,v1,v2,hnm]) ?_|apply wB|apply Qaa|refine wX ?_|refine wY ?_|refine wR ?_|refine wK ?_|refine wE ?_)
     simp [Qor]
 | true =>
   simp only [Qba,decide_eq_true_eq] at hq
   obtain ⟨hv,rfl⟩:=hq
   rw [hv] at v2
   have e2:∀ c d,Qcb tb Qlu [] [Gr n g c,Gr n f d] []=some ⟨spV (spI g false f),[],[],[]⟩:=fun c d=>by
    have:=Qab (Qg1 n g f c d hn5 hg hv)
    rwa [Qmz] at this
   have e2':∀ c d,Qcb tb Qlu [] [Gr n f c,Gr n g d] []=some ⟨spV (spI f false g),[],[],[]⟩:=fun c d=>by
    have:=Qab (Qg1 n f g c d hn5 hv hg)
    rwa [Qmz] at this
   have e3:∀ c d,Qcb tb Qqy [] [Gr n g c,Gr n f d] []=some ⟨spW (spI g false f),[],[],[]⟩:=fun c d=>by
    have:=Qab (Qgg n g f c d hn5 hg hv)
    rwa [Qmz] at this
   obtain ⟨k1,k2⟩:=Qrn hn5 hg hv false
   obtain ⟨j1,j2⟩:=Qrn hn5 hv hg false
   have hback:=@Jc1 n hn5 g f hg hv false false
   have d1:=fun c=>Qab (Qec n g c fg (by omega) hg)
   have d2:=fun c=>Qab (Qec n f c ff (by omega) hv)
   have hdl:∀ g,(Qco n g).length=n:=fun g=>by rw [Qco,Qd8];simp
   have i1:=fun c1 c2=>Qab (Qol (Qco n g) (Qco n f) c1 c2 (by rw [hdl];omega) (by rw [hdl];omega))
   have tg:(Qco n g).take n=Qco n g:=List.take_of_length_le (by rw [hdl];omega)
   have tf:(Qco n f).take n=Qco n f:=List.take_of_length_le (by rw [hdl];omega)
   have lg:=hdl g
   have lf:=hdl f
   cases hs:spI g false f with
   | none =>
     rw [hs] at e2 e3 k1
     have hd:decide (Qco n g=Qco n f)=false:=k1.symm
     rw [hd] at i1
     simp only [spV,spW,O4,Qne] at e2 e3
     generalize Qco n g=D1 at *
     generalize Qco n f=D2 at *
     refine cW Qwt rfl ?_
     repeat (first|apply wA|apply wS|refine wr (by simp [hc,hc2,e1,e2,e3,z1,v1,v2,h5,h5'];with_reducible rfl) ?_|refine wq (by simp [hc,hc2,e1,e2,e3,z1,v1,v2,h5,h5'];with_reducible rfl) ?_|refine wt (by simpa [hc,hc2,e1,e2,e3,z1,v1,v2,h5,h5']) ?_|refine wf (by simpa [hc,hc2,e1,e2,e3,z1,v1,v2,h5,h5']) ?_|refine xt (by simpa [hc,hc2,e1,e2,e3,z1,v1,v2,h5,h5']) ?_|refine xf (by simpa [hc,hc2,e1,e2,e3,z1,v1,v2,h5,h5']) ?_|apply wB|apply Qaa|refine wX ?_|refine wY ?_|refine wR ?_|refine wK ?_|refine wE ?_)
     refine Qdt (by simp [d1,d2,i1,tg,tf,lg,lf];with_reducible rfl) (by simp;with_reducible rfl) ?_ ?_
     · intro p hp
       simp only [List.mem_cons,List.not_mem_nil,or_false] at hp
       subst hp
       exact ⟨_,by simp [d1,d2,i1,tg,tf,lg,lf];with_reducible rfl,by simp⟩
     repeat (first|apply wA|apply wS|refine wr (by simp;with_reducible rfl) ?_|refine wq (by simp;with_reducible rfl) ?_|refine wt (by simpa) ?_|refine wf (by simpa) ?_|refine xt (by simpa) ?_|refine xf (by simpa) ?_|apply wB|apply Qaa|refine wX ?_|refine wY ?_|refine wR ?_|refine wK ?_|refine wE ?_)
     simp [Qor]
   | some p =>
     rw [hs] at e2 e3 k1
     have hd:decide (Qco n g=Qco n f)=true:=k1.symm
     have hd2:decide (Qco n f=Qco n g)=true:=decide_eq_true (of_decide_eq_true hd).symm
     rw [hd] at i1
     rw [hd2] at j1
     obtain ⟨q,hq⟩:=Option.isSome_iff_exists.1 j1
     have hlen:=(hback hs hq).symm
     obtain ⟨r1,r2,-⟩:=k2 p hs
     have hdiff:=Qq1 p hg r1
     have f21:=Qkn (by omega) hv
     have e4:=fun c d=>Qab (Qku n g c p d hg fg (by omega) (by omega))
     simp only [r1,OR] at e4
     rw [hq] at e2'
     have x1:=fun c1 c2=>Qab (Qmx n n f f (L2 f c1) (L2 f c2) (.inl ⟨_,rfl⟩) (.inl ⟨_,rfl⟩) (by omega) (by omega))
     simp only [decide_true,Bool.and_self] at x1
     have x2:∀ c1 c2,Qcb tb Qp4 [] [Gr n g c1,Gr n f c2] []=some ⟨I (Qdg g f (prs n)),[],[],[]⟩:=fun c1 c2=>by
      by_cases hp0:prs n=[]
      · exact Qab (Qiz n g f c1 c2 hg hv fg ff (by omega) (by omega) hp0 (by omega))
      · exact Qab (Qjz n g f c1 c2 hg hv fg ff (by omega) (by omega) hp0)
     have z2:=fun c1 c2=>Qab (Qiv p c1 c2 (by omega))
     have tp:p.take p.length=p:=List.take_of_length_le (Nat.le_refl _)
     have w4:IntKind.i64.wrap (4 * (p.length:Int))=4 * (p.length:Int):=Qaj (by omega) (by omega)
     generalize Qdg g f (prs n)=df at *
     have hge:(df:Int)≤4 * (p.length:Int):=by omega
     simp only [spV,spW] at e2 e2' e3
     generalize Qco n g=D1 at *
     generalize Qco n f=D2 at *
     refine cW Qwt rfl ?_
     repeat (first|apply wA|apply wS|refine wr (by simp [hc,hc2,e1,e2,e3,z2,v1,v2,h5,h5',tp];with_reducible rfl) ?_|refine wq (by simp [hc,hc2,e1,e2,e3,z2,v1,v2,h5,h5',tp];with_reducible rfl) ?_|refine wt (by simpa [hc,hc2,e1,e2,e3,z2,v1,v2,h5,h5',tp]) ?_|refine wf (by simpa [hc,hc2,e1,e2,e3,z2,v1,v2,h5,h5',tp]) ?_|refine xt (by simpa [hc,hc2,e1,e2,e3,z2,v1,v2,h5,h5',tp]) ?_|refine xf (by simpa [hc,hc2,e1,e2,e3,z2,v1,v2,h5,h5',tp]) ?_|apply wB|apply Qaa|refine wX ?_|refine wY ?_|refine wR ?_|refine wK ?_|refine wE ?_)
     refine Qdt (by simp [d1,d2,i1,tg,tf,lg,lf];with_reducible rfl) (by simp;with_reducible rfl) ?_ ?_
     · intro p hp
       simp only [List.mem_cons,List.not_mem_nil,or_false] at hp
       subst hp
       exact ⟨_,by simp [d1,d2,i1,tg,tf,lg,lf];with_reducible rfl,by simp⟩
     repeat (first|apply wA|apply wS|refine wr (by simp [e4,e2',x1,x2,tp,w4,hge,hlen];with_reducible rfl) ?_|refine wq (by simp [e4,e2',x1,x2,tp,w4,hge,hlen];with_reducible rfl) ?_|refine wt (by simpa [e4,e2',x1,x2,tp,w4,hge,hlen]) ?_|refine wf (by simpa [e4,e2',x1,x2,tp,w4,hge,hlen]) ?_|refine xt (by simpa [e4,e2',x1,x2,tp,w4,hge,hlen]) ?_|refine xf (by simpa [e4,e2',x1,x2,tp,w4,hge,hlen]) ?_|apply wB|apply Qaa|refine wX ?_|refine wY ?_|refine wR ?_|refine wK ?_|refine wE ?_)
     simp [Qor]
end Go.Idl
