/- Part 8 of a proof by an ideal interpreter of the code: its definitions and lemmas. Conditions: none. -/
import Derived.KernelRfl
import Derived.Test.YtgcdgdmpdbhdhaaGreatA7
set_option linter.all false
set_option linter.unusedVariables false
set_option linter.unusedSimpArgs false
namespace Go.Idl
open Go
theorem Qgh (n:Int) (es:List (Int×Int)) (c:Bool) (hf:Fit es) (hl:es.length≤1000) (hv:Qao n es=false):Ev tb Qq0 [] [Gr n es c] [] ⟨.tup [.agg [I 0,Z],Bo false],[],[],[]⟩:=by
 have v1:=fun c=>Qaa (Qbz n es c hf (by omega))
 rw [hv] at v1
 refine cW Jas rfl ?_
 repeat (first|apply wA|apply wS|refine wr (by simp [v1];with_reducible rfl) ?_|refine wq (by simp [v1];with_reducible rfl) ?_|refine wt (by simpa [v1]) ?_|refine wf (by simpa [v1]) ?_|refine xt (by simpa [v1]) ?_|refine xf (by simpa [v1]) ?_|apply wB|apply Qab|refine wX ?_|refine wY ?_|refine wR ?_|refine wK ?_|refine wE ?_)
 simp [Qqu]
theorem Qd9 (n:Int) (es:List (Int×Int)) (c:Bool) (hl:es.length≤1000) (hv:Qao n es=false):Ev tb Qqy [] [Gr n es c] [] ⟨.tup [.agg [I 0,Z],Bo false],[],[],[]⟩:=by
 have v1:=fun c=>Qaa (Qei n es c (by omega))
 rw [hv] at v1
 refine cW Jbt rfl ?_
 repeat (first|apply wA|apply wS|refine wr (by simp [v1];with_reducible rfl) ?_|refine wq (by simp [v1];with_reducible rfl) ?_|refine wt (by simpa [v1]) ?_|refine wf (by simpa [v1]) ?_|refine xt (by simpa [v1]) ?_|refine xf (by simpa [v1]) ?_|apply wB|apply Qab|refine wX ?_|refine wY ?_|refine wR ?_|refine wK ?_|refine wE ?_)
 simp [Qq4]
set_option maxHeartbeats 4000000 in
theorem Qem (c:Bool):Ev tb Qqy [] [Gr 0 [] c] [] ⟨.tup [OG 0 [],Bo false],[],[],[]⟩:=by
 have v1:=fun c=>Qaa (Qei 0 [] c (by simp))
 rw [show Qao 0 []=true from rfl] at v1
 have e1:=fun c=>Qaa (Qcf 0 (by omega) [] c (fun e he=>by cases he) (by simp))
 rw [show Qhw 0 [] 0=[] from rfl,show ((0:Nat):Int)=0 from rfl] at e1
 simp only [Gr,L2,Qmy] at e1
 refine cW Jbt rfl ?_
 repeat (first|apply wA|apply wS|refine wr (by simp [v1];with_reducible rfl) ?_|refine wq (by simp [v1];with_reducible rfl) ?_|refine wt (by simpa [v1]) ?_|refine wf (by simpa [v1]) ?_|refine xt (by simpa [v1]) ?_|refine xf (by simpa [v1]) ?_|apply wB|apply Qab|refine wX ?_|refine wY ?_|refine wR ?_|refine wK ?_|refine wE ?_)
 refine Qoz rfl (by simp;with_reducible rfl) (by simp;with_reducible rfl) ?_ ?_
 · intro p hp
   simp only [List.mem_cons,List.not_mem_nil,or_false] at hp
   rcases hp with rfl | rfl | rfl | rfl | rfl | rfl | rfl | rfl | rfl | rfl | rfl | rfl | rfl | rfl | rfl | rfl | rfl
   · exact ⟨_,by simp ;with_reducible rfl,by simp⟩
   · exact ⟨_,by simp ;with_reducible rfl,by simp⟩
   · exact ⟨_,by simp ;with_reducible rfl,by simp⟩
   · exact ⟨_,by simp ;with_reducible rfl,by simp⟩
   · exact ⟨_,by simp ;with_reducible rfl,by simp⟩
   · exact ⟨_,by simp ;with_reducible rfl,by simp⟩
   · exact ⟨_,by simp ;with_reducible rfl,by simp⟩
   · exact ⟨_,by simp ;with_reducible rfl,by simp⟩
   · exact ⟨_,by simp ;with_reducible rfl,by simp⟩
   · exact ⟨_,by simp ;with_reducible rfl,by simp⟩
   · exact ⟨_,by simp ;with_reducible rfl,by simp⟩
   · exact ⟨_,by simp ;with_reducible rfl,by simp⟩
   · exact ⟨_,by simp ;with_reducible rfl,by simp⟩
   · exact ⟨_,by simp ;with_reducible rfl,by simp⟩
   · exact ⟨_,by simp ;with_reducible rfl,by simp⟩
   · exact ⟨_,by simp ;with_reducible rfl,by simp⟩
   · exact ⟨_,by simp ;with_reducible rfl,by simp⟩
 repeat (first|apply wA|apply wS|refine wr (by simp;with_reducible rfl) ?_|refine wq (by simp;with_reducible rfl) ?_|refine wt (by simpa) ?_|refine wf (by simpa) ?_|refine xt (by simpa) ?_|refine xf (by simpa) ?_|apply wB|apply Qab|refine wX ?_|refine wY ?_|refine wR ?_|refine wK ?_|refine wE ?_)
 refine wW ?_
 repeat (first|apply wA|apply wS|refine wr (by simp [e1];with_reducible rfl) ?_|refine wq (by simp [e1];with_reducible rfl) ?_|refine wt (by simpa [e1]) ?_|refine wf (by simpa [e1]) ?_|refine xt (by simpa [e1]) ?_|refine xf (by simpa [e1]) ?_|apply wB|apply Qab|refine wX ?_|refine wY ?_|refine wR ?_|refine wK ?_|refine wE ?_)
 refine Qe7 (by simp [e1];with_reducible rfl) (by simp;with_reducible rfl) ?_ ?_
 · intro p hp
   simp only [List.mem_cons,List.not_mem_nil,or_false] at hp
   subst hp
   exact ⟨_,by simp [e1];with_reducible rfl,by simp⟩
 repeat (first|apply wA|apply wS|refine wr (by simp;with_reducible rfl) ?_|refine wq (by simp;with_reducible rfl) ?_|refine wt (by simpa) ?_|refine wf (by simpa) ?_|refine xt (by simpa) ?_|refine xf (by simpa) ?_|apply wB|apply Qab|refine wX ?_|refine wY ?_|refine wR ?_|refine wK ?_|refine wE ?_)
 simp [Qq4]
theorem Qz1 (code:List Int) (c:Bool) (hc:Qgs code) (l:List (Int×Int)) (hl:l.length≤10) (hb:∀ e ∈ l,0≤e.1∧e.1≤7∧0≤e.2∧e.2≤7) :
 ∀ (m i cnt:Nat) (es:List (Int×Int)),i+m=l.length→cnt+m≤10000→es.length≤i→(∀ e ∈ es,-1≤e.1∧e.1≤8∧-1≤e.2∧e.2≤8) →
 wp tb (.loop Qwg) { T:=[(2,.bptr 0 0 0),(3,.bptr 0 1 0),(4,.bptr 0 2 0),(5,O2 l),(6,I i)],loc:=[[I 0,Z],R code c cnt,[I 7,L2 es false]],M:=[] }
  (fun ex st=>ex=.exit 0∧∃ (es':List (Int×Int)) (k:Nat),(es'.length≤10∧∀ e ∈ es',-1≤e.1∧e.1≤8∧-1≤e.2∧e.2≤8)∧st={ T:=[(2,.bptr 0 0 0),(3,.bptr 0 1 0),(4,.bptr 0 2 0),(5,O2 l),(6,I l.length),(25,Bo false)],loc:=[[I 0,Z],R code c k,[I 7,L2 es' false]],M:=[] }):=by
 intro m
 induction m with
 | zero =>
   intro i cnt es hi hcn hel hee
   have h3:i=l.length:=hi
   subst h3
   refine wW ?_
   repeat (first|apply wA|apply wS|refine wr (by simp;with_reducible rfl) ?_|refine wq (by simp;with_reducible rfl) ?_|refine wt (by simpa) ?_|refine wf (by simpa) ?_|refine xt (by simpa) ?_|refine xf (by simpa) ?_|apply wB|apply Qab|refine wX ?_|refine wY ?_|refine wR ?_|refine wK ?_|refine wE ?_)
   exact ⟨rfl,es,cnt,⟨by omega,hee⟩,rfl⟩
 | succ m ih =>
   intro i cnt es hi hcn hel hee
   have hi2:i < l.length:=by omega
   obtain ⟨v,k,hv,hk,e1⟩:=Jco code c hc cnt (by omega) 8 (by omega) [[I 0,Z]] [[I 7,L2 es false]] []
   simp only [List.length_cons,List.length_nil,List.cons_append,List.nil_append,Nat.zero_add] at e1
   have w1:IntKind.i64.wrap ((i:Int)+1)=((i+1:Nat):Int):=Qbg (by omega)
   obtain ⟨⟨a,b⟩,hx⟩:∃ e,e=l[i]:=⟨_,rfl⟩
   have hx2:=hx.symm
   have hbx:=hb _ (List.getElem_mem hi2)
   rw [hx2] at hbx
   simp only at hbx
   have e2:=fun c=>Qaa (Qia 7 es c a b (by omega))
   cases v with
   | zero =>
     have hn:=ih (i+1) k es (by omega) (by omega) (by omega) hee
     refine wW ?_
     repeat (first|apply wA|apply wS|refine wr (by simp [hi2,e1,w1];with_reducible rfl) ?_|refine wq (by simp [hi2,e1,w1];with_reducible rfl) ?_|refine wt (by simpa [hi2,e1,w1]) ?_|refine wf (by simpa [hi2,e1,w1]) ?_|refine xt (by simpa [hi2,e1,w1]) ?_|refine xf (by simpa [hi2,e1,w1]) ?_|apply wB|apply Qab|refine wX ?_|refine wY ?_|refine wR ?_|refine wK ?_|refine wE ?_)
     exact hn
   | succ v =>
     have hp:(0:Int) < (v:Int)+1:=by omega
     have hn:=ih (i+1) k (Qkm (min a b,max a b) es) (by omega) (by omega) (by rw [Qse];omega) (fun e he=>by
      rcases (Qgg _ _ _).1 he with rfl | he
      · simp only;omega
      · exact hee e he)
     refine wW ?_
     repeat (first|apply wA|apply wS|refine wr (by simp [hi2,hx2,e1,e2,w1,hp];with_reducible rfl) ?_|refine wq (by simp [hi2,hx2,e1,e2,w1,hp];with_reducible rfl) ?_|refine wt (by simpa [hi2,hx2,e1,e2,w1,hp]) ?_|refine wf (by simpa [hi2,hx2,e1,e2,w1,hp]) ?_|refine xt (by simpa [hi2,hx2,e1,e2,w1,hp]) ?_|refine xf (by simpa [hi2,hx2,e1,e2,w1,hp]) ?_|apply wB|apply Qab|refine wX ?_|refine wY ?_|refine wR ?_|refine wK ?_|refine wE ?_)
     exact hn
theorem Qf8 (code:List Int) (c:Bool) (h:∀ x ∈ code,0≤x∧x≤255) (hl:code.length≤10000000) :
 ∃ (n:Int) (es:List (Int×Int)),Qfz n es∧Qco tb Qs7 [] [.lst 1 (bytes code) c] []=some ⟨Gr n es false,[],[],[]⟩:=by
 obtain ⟨c',e⟩:=Qov code c [[[I 0,Z]]] (by omega)
 have e1:=Qaa e
 obtain ⟨v,k,hv,hk,e2⟩:=Jco (code.take 2000) c' (Qph h) 0 (by omega) 2 (by omega) [[I 0,Z]] [] []
 rw [show ((0:Nat):Int)=0 from rfl] at e2
 simp only [List.length_cons,List.length_nil,List.cons_append,List.nil_append,Nat.zero_add] at e2
 cases v with
 | zero =>
   have loop:=Qz1 (code.take 2000) c' (Qph h) [(0,1),(0,2),(1,2),(3,4),(3,5),(4,5),(5,6)] (by decide) (by decide) 7 0 k [] rfl (by omega) (by simp) (by simp)
   simp only [O2,eds,List.map_cons,List.map_nil] at loop
   rw [show ((0:Nat):Int)=0 from rfl] at loop
   suffices hh:∃ r,(∃ (es:List (Int×Int)),Qfz 7 es∧r=⟨Gr 7 es false,[],[],[]⟩)∧Ev tb Qs7 [] [.lst 1 (bytes code) c] [] r by
    obtain ⟨r,⟨es,q1,rfl⟩,q4⟩:=hh
    exact ⟨7,es,q1,Qaa q4⟩
   refine Qf7 Jp8 rfl ?_
   repeat (first|apply wA|apply wS|refine wr (by simp [e1,e2];with_reducible rfl) ?_|refine wq (by simp [e1,e2];with_reducible rfl) ?_|refine wt (by simpa [e1,e2]) ?_|refine wf (by simpa [e1,e2]) ?_|refine xt (by simpa [e1,e2]) ?_|refine xf (by simpa [e1,e2]) ?_|apply wB|apply Qab|refine wX ?_|refine wY ?_|refine wR ?_|refine wK ?_|refine wE ?_)
   refine Qah loop ?_
   rintro ex st ⟨rfl,es',k',⟨q1,q2⟩,rfl⟩
   try simp only [if_true]
   repeat (first|apply wA|apply wS|refine wr (by simp;with_reducible rfl) ?_|refine wq (by simp;with_reducible rfl) ?_|refine wt (by simpa) ?_|refine wf (by simpa) ?_|refine xt (by simpa) ?_|refine xf (by simpa) ?_|apply wB|apply Qab|refine wX ?_|refine wY ?_|refine wR ?_|refine wK ?_|refine wE ?_)
   refine ⟨.inr rfl,_,⟨es',⟨by omega,by omega,by omega,q2⟩,rfl⟩,?_⟩
   simp [Qx3]
 | succ v =>
   have hp:¬ (v:Int)+1=0:=by omega
   obtain ⟨n,es,k2,h1,h2,e3⟩:=Qn1 (code.take 2000) c' (Qph h) k (by omega) [[I 0,Z]] [] []
   simp only [List.length_cons,List.length_nil,List.cons_append,List.nil_append,Nat.zero_add] at e3
   refine ⟨n,es,h1,Qaa ?_⟩
   refine cW Jp8 rfl ?_
   repeat (first|apply wA|apply wS|refine wr (by simp [e1,e2,e3,hp];with_reducible rfl) ?_|refine wq (by simp [e1,e2,e3,hp];with_reducible rfl) ?_|refine wt (by simpa [e1,e2,e3,hp]) ?_|refine wf (by simpa [e1,e2,e3,hp]) ?_|refine xt (by simpa [e1,e2,e3,hp]) ?_|refine xf (by simpa [e1,e2,e3,hp]) ?_|apply wB|apply Qab|refine wX ?_|refine wY ?_|refine wR ?_|refine wK ?_|refine wE ?_)
   simp [Qx3]
set_option maxHeartbeats 4000000 in
theorem ev_FnConnectGraph (code:List Int) (c:Bool) (h:∀ x ∈ code,0≤x∧x≤255) :
 Ev tb Jcx [] [.lst 1 (bytes code) c] [] ⟨Bo true,[],[],[]⟩:=by
 by_cases hc:(1048576:Int) < code.length
 · refine cW Qtc rfl ?_
   repeat (first|apply wA|apply wS|refine wr (by simp [hc];with_reducible rfl) ?_|refine wq (by simp [hc];with_reducible rfl) ?_|refine wt (by simpa [hc]) ?_|refine wf (by simpa [hc]) ?_|refine xt (by simpa [hc]) ?_|refine xf (by simpa [hc]) ?_|apply wB|apply Qab|refine wX ?_|refine wY ?_|refine wR ?_|refine wK ?_|refine wE ?_)
   simp [Qmn]
 obtain ⟨n,es,hS,e1⟩:=Qf8 code c h (by omega)
 have hlen:=hS.len
 have v1:=Qaa (Qbz n es false hS.fit (by omega))
 have ez:=Qaa (Qeh 0 0 [] [] Z Z (.inr ⟨rfl,rfl⟩) (.inr ⟨rfl,rfl⟩) (by simp) (by simp))
 cases hv:Qao n es with
 | false =>
   rw [hv] at v1
   have e2:=Qaa (Qgh n es false hS.fit (by omega) hv)
   have e3:=Qaa (Qd9 n es false (by omega) hv)
   refine cW Qtc rfl ?_
   repeat (first|apply wA|apply wS|refine wr (by simp [hc,e1,e2,e3,v1,ez];with_reducible rfl) ?_|refine wq (by simp [hc,e1,e2,e3,v1,ez];with_reducible rfl) ?_|refine wt (by simpa [hc,e1,e2,e3,v1,ez]) ?_|refine wf (by simpa [hc,e1,e2,e3,v1,ez]) ?_|refine xt (by simpa [hc,e1,e2,e3,v1,ez]) ?_|refine xf (by simpa [hc,e1,e2,e3,v1,ez]) ?_|apply wB|apply Qab|refine wX ?_|refine wY ?_|refine wR ?_|refine wK ?_|refine wE ?_)
   simp [Qmn]
 | true =>
 have hn:=vG_n hv
 obtain ⟨n,rfl⟩:=Int.eq_ofNat_of_zero_le hn.1
 rw [hv] at v1
 have hn7:=(Qar.1 hv).2.2
 have e5:=Qaa (Qdz n es false hS.fit (by omega) hv)
 by_cases h0:n=0
 · have hes:es=[]:=by
    cases es with
    | nil=>rfl
    | cons e r=>have:=Qak.1 ((Qar.1 hv).2.1 e (by simp));omega
   subst h0 hes
   rw [show ((0:Nat):Int)=0 from rfl] at e1 v1 e5
   rw [show Qdu 0 []=[] from rfl] at e5
   have v2:=v1
   simp only [Gr,L2,Qmy] at v2
   have e2:=Qaa (Qh1 2 false v2)
   have e3:=Qaa (Qem false)
   have e4:=fun c=>Qaa (Qeh 0 0 [] [] Z (L2 [] c) (.inr ⟨rfl,rfl⟩) (.inl ⟨_,rfl⟩) (by simp) (by simp))
   have e6:=Qaa (Qej [] false (by simp))
   rw [show Qtp []=false from rfl] at e6
   have e7:=Qaa (Qiz [] false v1)
   simp only [Gr,OG,O2,L2,L,O,Qmy,Qzr] at e1 e2 e3 e4 e5 e6 e7 v1
   refine cW Qtc rfl ?_
   repeat (first|apply wA|apply wS|refine wr (by simp [hc,e1,e2,e3,e4,v1,ez,e5,e6,e7];with_reducible rfl) ?_|refine wq (by simp [hc,e1,e2,e3,e4,v1,ez,e5,e6,e7];with_reducible rfl) ?_|refine wt (by simpa [hc,e1,e2,e3,e4,v1,ez,e5,e6,e7]) ?_|refine wf (by simpa [hc,e1,e2,e3,e4,v1,ez,e5,e6,e7]) ?_|refine xt (by simpa [hc,e1,e2,e3,e4,v1,ez,e5,e6,e7]) ?_|refine xf (by simpa [hc,e1,e2,e3,e4,v1,ez,e5,e6,e7]) ?_|apply wB|apply Qab|refine wX ?_|refine wY ?_|refine wR ?_|refine wK ?_|refine wE ?_)
   simp [Qmn]
 have hn1:1≤n:=by omega
 have hdl:(Qdu n es).length=n:=Jcm n es
 have e2:=Qaa (Qi5 n hn1 es false hv)
 have e3:=Qaa (Qft n hn1 es false hv)
 have e6:=Qaa (Qej (Qdu n es) false (by omega))
 have e7:=Qaa (Qf3 n hn1 2 es false (.inl rfl) (by omega) hv v1)
 have hes:∀ e ∈ es,e.1.toNat < n∧e.2.toNat < n:=fun e he=>by have:=Qak.1 ((Qar.1 hv).2.1 e he);omega
 have hpos:=Qfi hn1 hes
 have hok:=Qxs hn1 (Qbj n es).length es (Nat.le_refl _) hv
 have hstay:(Qbj n es).length=1→jnF n (Qbj n es).length es=some es:=fun h=>by rw [h,jnF,if_pos h]
 cases hF:jnF n (Qbj n es).length es with
 | none =>
   simp only [hF] at e2 e3
   have hq:¬ (Qbj n es).length=1:=fun h=>by rw [hstay h] at hF;cases hF
   rw [hok.2 hF] at e6
   rw [decide_eq_false hq] at e7
   generalize Qdu n es=D at *
   refine cW Qtc rfl ?_
   repeat (first|apply wA|apply wS|refine wr (by simp [hc,e1,e2,e3,v1,ez,e5,e6,e7];with_reducible rfl) ?_|refine wq (by simp [hc,e1,e2,e3,v1,ez,e5,e6,e7];with_reducible rfl) ?_|refine wt (by simpa [hc,e1,e2,e3,v1,ez,e5,e6,e7]) ?_|refine wf (by simpa [hc,e1,e2,e3,v1,ez,e5,e6,e7]) ?_|refine xt (by simpa [hc,e1,e2,e3,v1,ez,e5,e6,e7]) ?_|refine xf (by simpa [hc,e1,e2,e3,v1,ez,e5,e6,e7]) ?_|apply wB|apply Qab|refine wX ?_|refine wY ?_|refine wR ?_|refine wK ?_|refine wE ?_)
   simp [Qmn]
 | some es' =>
   simp only [hF] at e2 e3
   obtain ⟨q1,q2,q3⟩:=hok.1 es' hF
   have hes':∀ e ∈ es',e.1.toNat < n∧e.2.toNat < n:=fun e he=>by have:=Qak.1 ((Qar.1 q1).2.1 e he);omega
   have hcn:Qtp (Qdu n es)=true:=by
    rw [← q3]
    exact Jb5 hn1 q1 ((Qgt hn1 hes').1 q2)
   have hf':Fit es':=fun e he=>by have:=Qak.1 ((Qar.1 q1).2.1 e he);omega
   have h21':=Quj hn7 q1
   have z1:=Qaa (Qbz n es' false hf' (by omega))
   rw [q1] at z1
   have e8:=Qaa (Qf3 n hn1 2 es' false (.inl rfl) (by omega) q1 z1)
   rw [decide_eq_true q2] at e8
   have e9:=Qaa (Qdz n es' false hf' (by omega) q1)
   rw [q3] at e9
   rw [hcn] at e6
   have e10:=Qaa (Qoq (Qdu n es) (Qdu n es) false false (by omega) (by omega))
   have e4:=fun c1 c2=>Qaa (Qeh n n es' es' (L2 es' c1) (L2 es' c2) (.inl ⟨_,rfl⟩) (.inl ⟨_,rfl⟩) (by omega) (by omega))
   by_cases hq:(Qbj n es).length=1
   · have hee:es'=es:=by rw [hstay hq] at hF;cases hF;rfl
     subst hee
     rw [decide_eq_true hq] at e7
     generalize Qdu n es'=D at *
     refine cW Qtc rfl ?_
     repeat (first|apply wA|apply wS|refine wr (by simp [hc,e1,e2,e3,e4,v1,e5,e6,e7,e8,e9,e10];with_reducible rfl) ?_|refine wq (by simp [hc,e1,e2,e3,e4,v1,e5,e6,e7,e8,e9,e10];with_reducible rfl) ?_|refine wt (by simpa [hc,e1,e2,e3,e4,v1,e5,e6,e7,e8,e9,e10]) ?_|refine wf (by simpa [hc,e1,e2,e3,e4,v1,e5,e6,e7,e8,e9,e10]) ?_|refine xt (by simpa [hc,e1,e2,e3,e4,v1,e5,e6,e7,e8,e9,e10]) ?_|refine xf (by simpa [hc,e1,e2,e3,e4,v1,e5,e6,e7,e8,e9,e10]) ?_|apply wB|apply Qab|refine wX ?_|refine wY ?_|refine wR ?_|refine wK ?_|refine wE ?_)
     simp [Qmn]
   · rw [decide_eq_false hq] at e7
     generalize Qdu n es=D at *
     refine cW Qtc rfl ?_
     repeat (first|apply wA|apply wS|refine wr (by simp [hc,e1,e2,e3,e4,v1,e5,e6,e7,e8,e9,e10];with_reducible rfl) ?_|refine wq (by simp [hc,e1,e2,e3,e4,v1,e5,e6,e7,e8,e9,e10];with_reducible rfl) ?_|refine wt (by simpa [hc,e1,e2,e3,e4,v1,e5,e6,e7,e8,e9,e10]) ?_|refine wf (by simpa [hc,e1,e2,e3,e4,v1,e5,e6,e7,e8,e9,e10]) ?_|refine xt (by simpa [hc,e1,e2,e3,e4,v1,e5,e6,e7,e8,e9,e10]) ?_|refine xf (by simpa [hc,e1,e2,e3,e4,v1,e5,e6,e7,e8,e9,e10]) ?_|apply wB|apply Qab|refine wX ?_|refine wY ?_|refine wR ?_|refine wK ?_|refine wE ?_)
     simp [Qmn]
end Go.Idl
