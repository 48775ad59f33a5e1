/- Part 7 of a proof by an ideal interpreter of the code: its definitions and lemmas. Conditions: none. -/
import Derived.KernelRfl
import Derived.Test.YtfheodjhbaaalaaA6
set_option linter.all false
set_option linter.unusedVariables false
set_option linter.unusedSimpArgs false
namespace Go.Idl
open Go
def Qkg (e:Int×Int):List (Int×Int)→List (Int×Int)
 | []=>[e]
 | x::r=>if Qam x e then x::Qkg e r else e::x::r
theorem Jeo (e:Int×Int) (es:List (Int×Int)) (k:Nat) (hk:k≤es.length) (h:∀ x ∈ es.take k,Qam x e=true) (hs:∀ h:k < es.length,Qam es[k] e=false) :
 Qkg e es=es.take k++[e]++es.drop k:=by
 induction es generalizing k with
 | nil=>simp at hk;subst hk;rfl
 | cons x r ih =>
   cases k with
   | zero =>
     have:=hs (by simp)
     simp only [List.getElem_cons_zero] at this
     simp [Qkg,this]
   | succ k =>
     have h1:=h x (by simp)
     rw [Qkg,if_pos h1,ih k (by simpa using hk) (fun y hy=>h y (by simp [hy])) (fun hh=>hs (by simpa using hh))]
     simp
theorem Jap (e:Int×Int) (es:List (Int×Int)):(Qkg e es).length=es.length+1:=by
 induction es with
 | nil=>rfl
 | cons x r ih=>rw [Qkg];split <;> simp [ih]
theorem Qiz (e x:Int×Int) (es:List (Int×Int)):x ∈ Qkg e es ↔ x=e ∨ x ∈ es:=by
 induction es with
 | nil=>simp [Qkg]
 | cons y r ih =>
   rw [Qkg];split
   · rw [List.mem_cons,ih,List.mem_cons]
     constructor
     · rintro (h | h | h) <;> simp [h]
     · rintro (h | h | h) <;> simp [h]
   · simp
theorem Qkp (n:Int) (es:List (Int×Int)) (c:Bool) (a b:Int) (hl:es.length≤2000000) :
 Ev tb Qru [] [Gr n es c,I a,I b] [] ⟨OG n (Qkg (min a b,max a b) es),[],[],[]⟩:=by
 obtain ⟨e,he⟩:∃ e:Int×Int,e=(min a b,max a b):=⟨_,rfl⟩
 have he1:(if b < a then b else a)=e.1:=by rw [he];simp only;split <;> omega
 have he2:(if a < b then b else a)=e.2:=by rw [he];simp only;split <;> omega
 rw [← he]
 have loop:∀ (m k:Nat),k+m=es.length→(∀ x ∈ es.take k,Qam x e=true)→wp tb (.loop Jdf) { T:=[(3,.bptr 0 0 0),(6,.bptr 0 1 0),(7,.bptr 0 2 0),(8,I k)],loc:=[[I n,L2 es c],[I 0,Z],[I e.1,I e.2]],M:=[] }
  (fun ex st=>ex=.exit 0∧∃ k:Nat,(k≤es.length∧(∀ x ∈ es.take k,Qam x e=true)∧(∀ h:k < es.length,Qam es[k] e=false)) ∧
    st={ T:=[(3,.bptr 0 0 0),(6,.bptr 0 1 0),(7,.bptr 0 2 0),(8,I k),(30,Bo false)],loc:=[[I n,L2 es c],[I 0,Z],[I e.1,I e.2]],M:=[] }):=by
  intro m
  induction m with
  | zero =>
    intro k hk hb
    have h3:k=es.length:=hk
    subst h3
    refine wW ?_
    repeat (first|apply wA|apply wS|refine wr (by simp;with_reducible rfl) ?_|refine wq (by simp;with_reducible rfl) ?_|refine wt (by simpa) ?_|refine wf (by simpa) ?_|refine xt (by simpa) ?_|refine xf (by simpa) ?_|apply wB|apply Qaa|refine wX ?_|refine wY ?_|refine wR ?_|refine wK ?_|refine wE ?_)
    exact ⟨rfl,es.length,⟨Nat.le_refl _,hb,fun h=>absurd h (by omega)⟩,rfl⟩
  | succ m ih =>
    intro k hk hb
    have hi2:k < es.length:=by omega
    have w2:IntKind.i64.wrap ((k:Int)+1)=((k+1:Nat):Int):=Qbp (by omega)
    have e1:=Qab (Qib es[k] e)
    cases hq:Qam es[k] e with
    | true =>
      refine wW ?_
      repeat (first|apply wA|apply wS|refine wr (by simp [hi2,e1,hq,w2];with_reducible rfl) ?_|refine wq (by simp [hi2,e1,hq,w2];with_reducible rfl) ?_|refine wt (by simpa [hi2,e1,hq,w2]) ?_|refine wf (by simpa [hi2,e1,hq,w2]) ?_|refine xt (by simpa [hi2,e1,hq,w2]) ?_|refine xf (by simpa [hi2,e1,hq,w2]) ?_|apply wB|apply Qaa|refine wX ?_|refine wY ?_|refine wR ?_|refine wK ?_|refine wE ?_)
      refine ih (k+1) (by omega) fun x hx=>?_
      rw [List.take_succ_eq_append_getElem hi2] at hx
      rcases List.mem_append.1 hx with hx | hx
      · exact hb x hx
      · simp at hx;subst hx;exact hq
    | false =>
      refine wW ?_
      repeat (first|apply wA|apply wS|refine wr (by simp [hi2,e1,hq];with_reducible rfl) ?_|refine wq (by simp [hi2,e1,hq];with_reducible rfl) ?_|refine wt (by simpa [hi2,e1,hq]) ?_|refine wf (by simpa [hi2,e1,hq]) ?_|refine xt (by simpa [hi2,e1,hq]) ?_|refine xf (by simpa [hi2,e1,hq]) ?_|apply wB|apply Qaa|refine wX ?_|refine wY ?_|refine wR ?_|refine wK ?_|refine wE ?_)
      exact ⟨rfl,k,⟨by omega,hb,fun _=>hq⟩,rfl⟩
 refine cW Jyw rfl ?_
 repeat (first|apply wA|apply wS|refine wr (by simp [he1,he2];with_reducible rfl) ?_|refine wq (by simp [he1,he2];with_reducible rfl) ?_|refine wt (by simpa [he1,he2]) ?_|refine wf (by simpa [he1,he2]) ?_|refine xt (by simpa [he1,he2]) ?_|refine xf (by simpa [he1,he2]) ?_|apply wB|apply Qaa|refine wX ?_|refine wY ?_|refine wR ?_|refine wK ?_|refine wE ?_)
 refine Qap (loop es.length 0 (by simp) (by simp)) ?_
 rintro ex st ⟨rfl,k,⟨hk,hb,hs⟩,rfl⟩
 rw [Jeo e es k hk hb hs]
 try simp only [if_true]
 have hT:es.take es.length=es:=List.take_of_length_le (Nat.le_refl _)
 have hT2:(es.drop k).take (es.length - k)=es.drop k:=List.take_of_length_le (by simp)
 have hT3:(es.take k).take k=es.take k:=by rw [List.take_take,Nat.min_self]
 have hl1:k≤274877906943:=by omega
 have hl2:k≤274877906944:=by omega
 have hl3:k+1≤274877906944:=by omega
 have hl4:k+1+(es.length - k)≤274877906944:=by omega
 have hT4:(es.take k++[(e.1,e.2)]).take (k+1)=es.take k++[(e.1,e.2)]:=List.take_of_length_le (by simp;omega)
 have hmin:min k es.length=k:=by omega
 repeat (first|apply wA|apply wS|refine wr (by simp [hk,hT,hT2,hT3,hl1,hl2,hl3,hl4,hT4,hmin];with_reducible rfl) ?_|refine wq (by simp [hk,hT,hT2,hT3,hl1,hl2,hl3,hl4,hT4,hmin];with_reducible rfl) ?_|refine wt (by simpa [hk,hT,hT2,hT3,hl1,hl2,hl3,hl4,hT4,hmin]) ?_|refine wf (by simpa [hk,hT,hT2,hT3,hl1,hl2,hl3,hl4,hT4,hmin]) ?_|refine xt (by simpa [hk,hT,hT2,hT3,hl1,hl2,hl3,hl4,hT4,hmin]) ?_|refine xf (by simpa [hk,hT,hT2,hT3,hl1,hl2,hl3,hl4,hT4,hmin]) ?_|apply wB|apply Qaa|refine wX ?_|refine wY ?_|refine wR ?_|refine wK ?_|refine wE ?_)
 refine Qea (by simp [hk,hT,hT2,hT3,hl1,hl2,hl3,hl4,hT4,hmin];with_reducible rfl) (by simp;with_reducible rfl) ?_ ?_
 · intro p hp
   simp only [List.mem_cons,List.not_mem_nil,or_false] at hp
   rcases hp with rfl | rfl | rfl | rfl | rfl | rfl | rfl | rfl | rfl | rfl | rfl
   · exact ⟨_,by simp [hk,hT,hT2,hT3,hl1,hl2,hl3,hl4,hT4,hmin];with_reducible rfl,by simp⟩
   · exact ⟨_,by simp [hk,hT,hT2,hT3,hl1,hl2,hl3,hl4,hT4,hmin];with_reducible rfl,by simp⟩
   · exact ⟨_,by simp [hk,hT,hT2,hT3,hl1,hl2,hl3,hl4,hT4,hmin];with_reducible rfl,by simp⟩
   · exact ⟨_,by simp [hk,hT,hT2,hT3,hl1,hl2,hl3,hl4,hT4,hmin];with_reducible rfl,by simp⟩
   · exact ⟨_,by simp [hk,hT,hT2,hT3,hl1,hl2,hl3,hl4,hT4,hmin];with_reducible rfl,by simp⟩
   · exact ⟨_,by simp [hk,hT,hT2,hT3,hl1,hl2,hl3,hl4,hT4,hmin];with_reducible rfl,by simp⟩
   · exact ⟨_,by simp [hk,hT,hT2,hT3,hl1,hl2,hl3,hl4,hT4,hmin];with_reducible rfl,by simp⟩
   · exact ⟨_,by simp [hk,hT,hT2,hT3,hl1,hl2,hl3,hl4,hT4,hmin];with_reducible rfl,by simp⟩
   · exact ⟨_,by simp [hk,hT,hT2,hT3,hl1,hl2,hl3,hl4,hT4,hmin];with_reducible rfl,by simp⟩
   · exact ⟨_,by simp [hk,hT,hT2,hT3,hl1,hl2,hl3,hl4,hT4,hmin];with_reducible rfl,by simp⟩
   · exact ⟨_,by simp [hk,hT,hT2,hT3,hl1,hl2,hl3,hl4,hT4,hmin];with_reducible rfl,by simp⟩
 repeat (first|apply wA|apply wS|refine wr (by simp;with_reducible rfl) ?_|refine wq (by simp;with_reducible rfl) ?_|refine wt (by simpa) ?_|refine wf (by simpa) ?_|refine xt (by simpa) ?_|refine xf (by simpa) ?_|apply wB|apply Qaa|refine wX ?_|refine wY ?_|refine wR ?_|refine wK ?_|refine wE ?_)
 simp [Qzr]
end Go.Idl
namespace Go.Idl
open Go
def Qr5 (p q:Int) (x:Int×Int):Bool:=!(decide (x.1=p) && decide (x.2=q))
def Qcs (a b:Int) (es:List (Int×Int)):List (Int×Int):=es.filter (Qr5 (min a b) (max a b))
theorem Qjz (n:Int) (es:List (Int×Int)) (c:Bool) (a b:Int) (hl:es.length≤100000) :
 Ev tb Qry [] [Gr n es c,I a,I b] [] ⟨OG n (Qcs a b es),[],[],[]⟩:=by
 obtain ⟨p,hp⟩:∃ p,p=min a b:=⟨_,rfl⟩
 obtain ⟨q,hq⟩:∃ q,q=max a b:=⟨_,rfl⟩
 have he1:(if b < a then b else a)=p:=by rw [hp];split <;> omega
 have he2:(if a < b then b else a)=q:=by rw [hq];split <;> omega
 rw [Qcs,← hp,← hq]
 have loop:∀ (m i:Nat) (acc:List (Int×Int)) (B:Qal),i+m=es.length→acc.length≤i→wp tb (.loop Jc3) { T:=[(1,I a),(2,I b),(3,.bptr 0 0 0),(6,.bptr 0 1 0),(7,.bptr 0 2 0),(8,I i)],loc:=[I n,L2 es c]::[I 0,Z]::[I n,O2 acc]::B,M:=[] }
  (fun ex st=>ex=.exit 0∧∃ B',st={ T:=[(1,I a),(2,I b),(3,.bptr 0 0 0),(6,.bptr 0 1 0),(7,.bptr 0 2 0),(8,I es.length),(18,Bo false)],loc:=[I n,L2 es c]::[I 0,Z]::[I n,O2 (acc++(es.drop i).filter (Qr5 p q))]::B',M:=[] }):=by
  intro m
  induction m with
  | zero =>
    intro i acc B hi ha
    have h3:i=es.length:=hi
    subst h3
    refine wW ?_
    repeat (first|apply wA|apply wS|refine wr (by simp;with_reducible rfl) ?_|refine wq (by simp;with_reducible rfl) ?_|refine wt (by simpa) ?_|refine wf (by simpa) ?_|refine xt (by simpa) ?_|refine xf (by simpa) ?_|apply wB|apply Qaa|refine wX ?_|refine wY ?_|refine wR ?_|refine wK ?_|refine wE ?_)
    refine ⟨rfl,_,by simp;rfl⟩
  | succ m ih =>
    intro i acc B hi ha
    have hi2:i < es.length:=by omega
    have w1:IntKind.i64.wrap ((i:Int)+1)=((i+1:Nat):Int):=Qbp (by omega)
    have hd:es.drop i=es[i]::es.drop (i+1):=List.drop_eq_getElem_cons hi2
    have hl1:acc.length+1≤274877906944:=by omega
    have hl2:acc.length≤274877906943:=by omega
    have hT:∀ x,List.take (acc.length+1) (acc++[x])=acc++[x]:=fun x=>List.take_of_length_le (by simp)
    have hT2:List.take acc.length acc=acc:=List.take_of_length_le (Nat.le_refl _)
    rw [hd]
    obtain ⟨⟨x1,x2⟩,hx⟩:∃ x,x=es[i]:=⟨_,rfl⟩
    rw [← hx]
    have hx2:=hx.symm
    by_cases h1:x1=p
    · subst h1
      by_cases h2:x2=q
      · subst h2
        refine wW ?_
        repeat (first|apply wA|apply wS|refine wr (by simp [hi2,w1,hx2,he1,he2];with_reducible rfl) ?_|refine wq (by simp [hi2,w1,hx2,he1,he2];with_reducible rfl) ?_|refine wt (by simpa [hi2,w1,hx2,he1,he2]) ?_|refine wf (by simpa [hi2,w1,hx2,he1,he2]) ?_|refine xt (by simpa [hi2,w1,hx2,he1,he2]) ?_|refine xf (by simpa [hi2,w1,hx2,he1,he2]) ?_|apply wB|apply Qaa|refine wX ?_|refine wY ?_|refine wR ?_|refine wK ?_|refine wE ?_)
        have hn:=ih (i+1) acc (B++[[I x1,I x2]]) (by omega) (by omega)
        rw [List.filter_cons_of_neg (by simp [Qr5])]
        exact hn
      · refine wW ?_
        repeat (first|apply wA|apply wS|refine wr (by simp [hi2,w1,hx2,he1,he2,h2,hl1,hl2,hT,hT2];with_reducible rfl) ?_|refine wq (by simp [hi2,w1,hx2,he1,he2,h2,hl1,hl2,hT,hT2];with_reducible rfl) ?_|refine wt (by simpa [hi2,w1,hx2,he1,he2,h2,hl1,hl2,hT,hT2]) ?_|refine wf (by simpa [hi2,w1,hx2,he1,he2,h2,hl1,hl2,hT,hT2]) ?_|refine xt (by simpa [hi2,w1,hx2,he1,he2,h2,hl1,hl2,hT,hT2]) ?_|refine xf (by simpa [hi2,w1,hx2,he1,he2,h2,hl1,hl2,hT,hT2]) ?_|apply wB|apply Qaa|refine wX ?_|refine wY ?_|refine wR ?_|refine wK ?_|refine wE ?_)
        have hn:=ih (i+1) (acc++[(x1,x2)]) (B++[[I x1,I x2]]) (by omega) (by simp;omega)
        rw [List.filter_cons_of_pos (by simp [Qr5,h2])]
        simp only [List.append_assoc,List.cons_append,List.nil_append] at hn
        exact hn
    · refine wW ?_
      repeat (first|apply wA|apply wS|refine wr (by simp [hi2,w1,hx2,he1,he2,h1,hl1,hl2,hT,hT2];with_reducible rfl) ?_|refine wq (by simp [hi2,w1,hx2,he1,he2,h1,hl1,hl2,hT,hT2];with_reducible rfl) ?_|refine wt (by simpa [hi2,w1,hx2,he1,he2,h1,hl1,hl2,hT,hT2]) ?_|refine wf (by simpa [hi2,w1,hx2,he1,he2,h1,hl1,hl2,hT,hT2]) ?_|refine xt (by simpa [hi2,w1,hx2,he1,he2,h1,hl1,hl2,hT,hT2]) ?_|refine xf (by simpa [hi2,w1,hx2,he1,he2,h1,hl1,hl2,hT,hT2]) ?_|apply wB|apply Qaa|refine wX ?_|refine wY ?_|refine wR ?_|refine wK ?_|refine wE ?_)
      have hn:=ih (i+1) (acc++[(x1,x2)]) (B++[[I x1,I x2]]) (by omega) (by simp;omega)
      rw [List.filter_cons_of_pos (by simp [Qr5,h1])]
      simp only [List.append_assoc,List.cons_append,List.nil_append] at hn
      exact hn
 refine cW Jxx rfl ?_
 repeat (first|apply wA|apply wS|refine wr (by simp;with_reducible rfl) ?_|refine wq (by simp;with_reducible rfl) ?_|refine wt (by simpa) ?_|refine wf (by simpa) ?_|refine xt (by simpa) ?_|refine xf (by simpa) ?_|apply wB|apply Qaa|refine wX ?_|refine wY ?_|refine wR ?_|refine wK ?_|refine wE ?_)
 refine Qap (loop es.length 0 [] [] (by simp) (by simp)) ?_
 rintro ex st ⟨rfl,B',rfl⟩
 simp only [if_true]
 repeat (first|apply wA|apply wS|refine wr (by simp;with_reducible rfl) ?_|refine wq (by simp;with_reducible rfl) ?_|refine wt (by simpa) ?_|refine wf (by simpa) ?_|refine xt (by simpa) ?_|refine xf (by simpa) ?_|apply wB|apply Qaa|refine wX ?_|refine wY ?_|refine wR ?_|refine wK ?_|refine wE ?_)
 simp [Qzg]
def Qpb (es:List (Int×Int)) (a b c d:Int):Bool:=decide (a ≠ c) && decide (b ≠ d) && decide (a ≠ d) && decide (b ≠ c) && has es a b && has es c d && !has es a c && !has es b d
theorem Qmv (n:Int) (es:List (Int×Int)) (cc:Bool) (a b c d:Int) (hl:es.length≤100000) :
 Ev tb Qr9 [] [Gr n es cc,Sw a b c d] [] ⟨Bo (Qpb es a b c d),[],[],[]⟩:=by
 have eh:=fun cc a b=>Qab (Qhz n es cc a b hl)
 by_cases h1:a=c
 · subst h1
   refine cW Qnu rfl ?_
   repeat (first|apply wA|apply wS|refine wr (by simp;with_reducible rfl) ?_|refine wq (by simp;with_reducible rfl) ?_|refine wt (by simpa) ?_|refine wf (by simpa) ?_|refine xt (by simpa) ?_|refine xf (by simpa) ?_|apply wB|apply Qaa|refine wX ?_|refine wY ?_|refine wR ?_|refine wK ?_|refine wE ?_)
   simp [Qj1,Qpb]
 by_cases h2:b=d
 · subst h2
   refine cW Qnu rfl ?_
   repeat (first|apply wA|apply wS|refine wr (by simp [h1];with_reducible rfl) ?_|refine wq (by simp [h1];with_reducible rfl) ?_|refine wt (by simpa [h1]) ?_|refine wf (by simpa [h1]) ?_|refine xt (by simpa [h1]) ?_|refine xf (by simpa [h1]) ?_|apply wB|apply Qaa|refine wX ?_|refine wY ?_|refine wR ?_|refine wK ?_|refine wE ?_)
   simp [Qj1,Qpb]
 by_cases h3:a=d
 · subst h3
   refine cW Qnu rfl ?_
   repeat (first|apply wA|apply wS|refine wr (by simp [h1,h2];with_reducible rfl) ?_|refine wq (by simp [h1,h2];with_reducible rfl) ?_|refine wt (by simpa [h1,h2]) ?_|refine wf (by simpa [h1,h2]) ?_|refine xt (by simpa [h1,h2]) ?_|refine xf (by simpa [h1,h2]) ?_|apply wB|apply Qaa|refine wX ?_|refine wY ?_|refine wR ?_|refine wK ?_|refine wE ?_)
   simp [Qj1,Qpb]
 by_cases h4:b=c
 · subst h4
   refine cW Qnu rfl ?_
   repeat (first|apply wA|apply wS|refine wr (by simp [h1,h2,h3];with_reducible rfl) ?_|refine wq (by simp [h1,h2,h3];with_reducible rfl) ?_|refine wt (by simpa [h1,h2,h3]) ?_|refine wf (by simpa [h1,h2,h3]) ?_|refine xt (by simpa [h1,h2,h3]) ?_|refine xf (by simpa [h1,h2,h3]) ?_|apply wB|apply Qaa|refine wX ?_|refine wY ?_|refine wR ?_|refine wK ?_|refine wE ?_)
   simp [Qj1,Qpb]
 have hd:Qpb es a b c d=(has es a b && has es c d && !has es a c && !has es b d):=by simp [Qpb,h1,h2,h3,h4]
 rw [hd]
 cases k1:has es a b with
 | false =>
   refine cW Qnu rfl ?_
   repeat (first|apply wA|apply wS|refine wr (by simp [h1,h2,h3,h4,eh,k1];with_reducible rfl) ?_|refine wq (by simp [h1,h2,h3,h4,eh,k1];with_reducible rfl) ?_|refine wt (by simpa [h1,h2,h3,h4,eh,k1]) ?_|refine wf (by simpa [h1,h2,h3,h4,eh,k1]) ?_|refine xt (by simpa [h1,h2,h3,h4,eh,k1]) ?_|refine xf (by simpa [h1,h2,h3,h4,eh,k1]) ?_|apply wB|apply Qaa|refine wX ?_|refine wY ?_|refine wR ?_|refine wK ?_|refine wE ?_)
   simp [Qj1]
 | true =>
 cases k2:has es c d with
 | false =>
   refine cW Qnu rfl ?_
   repeat (first|apply wA|apply wS|refine wr (by simp [h1,h2,h3,h4,eh,k1,k2];with_reducible rfl) ?_|refine wq (by simp [h1,h2,h3,h4,eh,k1,k2];with_reducible rfl) ?_|refine wt (by simpa [h1,h2,h3,h4,eh,k1,k2]) ?_|refine wf (by simpa [h1,h2,h3,h4,eh,k1,k2]) ?_|refine xt (by simpa [h1,h2,h3,h4,eh,k1,k2]) ?_|refine xf (by simpa [h1,h2,h3,h4,eh,k1,k2]) ?_|apply wB|apply Qaa|refine wX ?_|refine wY ?_|refine wR ?_|refine wK ?_|refine wE ?_)
   simp [Qj1]
 | true =>
 cases k3:has es a c with
 | true =>
   refine cW Qnu rfl ?_
   repeat (first|apply wA|apply wS|refine wr (by simp [h1,h2,h3,h4,eh,k1,k2,k3];with_reducible rfl) ?_|refine wq (by simp [h1,h2,h3,h4,eh,k1,k2,k3];with_reducible rfl) ?_|refine wt (by simpa [h1,h2,h3,h4,eh,k1,k2,k3]) ?_|refine wf (by simpa [h1,h2,h3,h4,eh,k1,k2,k3]) ?_|refine xt (by simpa [h1,h2,h3,h4,eh,k1,k2,k3]) ?_|refine xf (by simpa [h1,h2,h3,h4,eh,k1,k2,k3]) ?_|apply wB|apply Qaa|refine wX ?_|refine wY ?_|refine wR ?_|refine wK ?_|refine wE ?_)
   simp [Qj1]
 | false =>
 refine cW Qnu rfl ?_
 repeat (first|apply wA|apply wS|refine wr (by simp [h1,h2,h3,h4,eh,k1,k2,k3];with_reducible rfl) ?_|refine wq (by simp [h1,h2,h3,h4,eh,k1,k2,k3];with_reducible rfl) ?_|refine wt (by simpa [h1,h2,h3,h4,eh,k1,k2,k3]) ?_|refine wf (by simpa [h1,h2,h3,h4,eh,k1,k2,k3]) ?_|refine xt (by simpa [h1,h2,h3,h4,eh,k1,k2,k3]) ?_|refine xf (by simpa [h1,h2,h3,h4,eh,k1,k2,k3]) ?_|apply wB|apply Qaa|refine wX ?_|refine wY ?_|refine wR ?_|refine wK ?_|refine wE ?_)
 simp [Qj1]
theorem Qn6 (a b:Int) (es:List (Int×Int)):(Qcs a b es).length≤es.length:=List.length_filter_le _ _
def swS (es:List (Int×Int)) (a b c d:Int):List (Int×Int):=Qkg (min b d,max b d) (Qkg (min a c,max a c) (Qcs c d (Qcs a b es)))
theorem Qov (n:Int) (es:List (Int×Int)) (cc:Bool) (a b c d:Int) (hl:es.length≤100000) :
 Ev tb Qum [] [Gr n es cc,Sw a b c d] [] ⟨OG n (swS es a b c d),[],[],[]⟩:=by
 have g1:=Qn6 a b es
 have g2:=Qn6 c d (Qcs a b es)
 have g3:=Jap (min a c,max a c) (Qcs c d (Qcs a b es))
 have e1:=fun cc=>Qab (Qjz n es cc a b hl)
 have e2:=fun cc=>Qab (Qjz n (Qcs a b es) cc c d (by omega))
 have e3:=fun cc=>Qab (Qkp n (Qcs c d (Qcs a b es)) cc a c (by omega))
 have e4:=fun cc=>Qab (Qkp n (Qkg (min a c,max a c) (Qcs c d (Qcs a b es))) cc b d (by omega))
 rw [swS]
 generalize Qkg (min b d,max b d) (Qkg (min a c,max a c) (Qcs c d (Qcs a b es)))=x4 at *
 generalize Qkg (min a c,max a c) (Qcs c d (Qcs a b es))=x3 at *
 generalize Qcs c d (Qcs a b es)=x2 at *
 generalize Qcs a b es=x1 at *
 refine cW zt383 rfl ?_
 repeat (first|apply wA|apply wS|refine wr (by simp;with_reducible rfl) ?_|refine wq (by simp;with_reducible rfl) ?_|refine wt (by simpa) ?_|refine wf (by simpa) ?_|refine xt (by simpa) ?_|refine xf (by simpa) ?_|apply wB|apply Qaa|refine wX ?_|refine wY ?_|refine wR ?_|refine wK ?_|refine wE ?_)
 refine Jd4 rfl (by simp [e1,e2,e3,e4];with_reducible rfl) (by simp;with_reducible rfl) ?_
 repeat (first|apply wA|apply wS|refine wr (by simp;with_reducible rfl) ?_|refine wq (by simp;with_reducible rfl) ?_|refine wt (by simpa) ?_|refine wf (by simpa) ?_|refine xt (by simpa) ?_|refine xf (by simpa) ?_|apply wB|apply Qaa|refine wX ?_|refine wY ?_|refine wR ?_|refine wK ?_|refine wE ?_)
 simp [Jav]
end Go.Idl
namespace Go.Idl
open Go
structure Jdc (n:Int) (es:List (Int×Int)):Prop where
 n1:-1≤n
 n2:n≤8
 len:es.length≤60
 el:∀ e ∈ es,-1≤e.1∧e.1≤8∧-1≤e.2∧e.2≤8
theorem Jdc.fit {n es} (h:Jdc n es):Fit es:=fun e he=>by have:=h.el e he;omega
end Go.Idl
namespace Go.Idl
open Go
abbrev Q4:=Int×Int×Int×Int
def sws (xs:List Q4):List (List IV):=xs.map fun s=>[I s.1,I s.2.1,I s.2.2.1,I s.2.2.2]
abbrev O4 (xs:List Q4):IV:=.own 4 (sws xs)
@[simp] theorem Jz0 (xs:List Q4):(sws xs).length=xs.length:=by simp [sws]
@[simp] theorem Jd2:sws []=[]:=rfl
@[simp] theorem Jun (xs:List Q4) (n:Nat):(sws xs).take n=sws (xs.take n):=by simp [sws,List.map_take]
@[simp] theorem Jvf (xs:List Q4) (n:Nat):(sws xs).drop n=sws (xs.drop n):=by simp [sws,List.map_drop]
@[simp] theorem sws_one (xs:List Q4) (a b c d:Int):sws xs++[[IV.sc (.int .i64 a),IV.sc (.int .i64 b),IV.sc (.int .i64 c),IV.sc (.int .i64 d)]]=sws (xs++[(a,b,c,d)]):=by simp [sws]
@[simp] theorem sws_get (xs:List Q4) (i:Nat) (h:i < (sws xs).length):(sws xs)[i]=[IV.sc (.int .i64 (xs[i]'(by simpa [sws] using h)).1),IV.sc (.int .i64 (xs[i]'(by simpa [sws] using h)).2.1),IV.sc (.int .i64 (xs[i]'(by simpa [sws] using h)).2.2.1),IV.sc (.int .i64 (xs[i]'(by simpa [sws] using h)).2.2.2)]:=by simp [sws]
@[simp] theorem sws_get? (xs:List Q4) (i:Nat):(sws xs)[i]? = xs[i]?.map fun s=>[IV.sc (.int .i64 s.1),IV.sc (.int .i64 s.2.1),IV.sc (.int .i64 s.2.2.1),IV.sc (.int .i64 s.2.2.2)]:=by simp [sws]
@[simp] theorem Jvn (xs:List Q4):((sws xs).all fun x=>x.all IV.plain1)=true:=by
  induction xs with
  | nil=>rfl
  | cons x xs ih=>simp only [sws,List.map_cons,List.all_cons] at *;rw [ih];rfl
@[simp] theorem Jvg (xs:List Q4):((sws xs).all fun x=>x.all IV.isData)=true:=by
  induction xs with
  | nil=>rfl
  | cons x xs ih=>simp only [sws,List.map_cons,List.all_cons] at *;rw [ih];rfl
@[simp] theorem Jsi (xs:List Q4):Qb1 (sws xs)=true:=by
  induction xs with
  | nil=>rfl
  | cons x xs ih=>simp only [sws,List.map_cons,Qb1,Qa7,Qbq] at *;rw [ih];rfl
@[simp] theorem Jfl (xs:List Q4):Qcc (sws xs)=sws xs:=by
  induction xs with
  | nil=>rfl
  | cons x xs ih=>simp only [sws,List.map_cons,Qcc,Qcx,Qge] at *;rw [ih]
def Qmq (es:List (Int×Int)) (e f:Int×Int):List Q4 :=
 (if Qpb es e.1 e.2 f.1 f.2=true then [(e.1,e.2,f.1,f.2)] else [])++(if Qpb es e.1 e.2 f.2 f.1=true then [(e.1,e.2,f.2,f.1)] else [])
theorem Qz5 (es:List (Int×Int)) (e f:Int×Int):(Qmq es e f).length≤2:=by
 simp only [Qmq,List.length_append];split <;> split <;> simp
theorem Qgr (es:List (Int×Int)) (e:Int×Int):∀ r:List (Int×Int),(r.flatMap (Qmq es e)).length≤2 * r.length
 | []=>by simp
 | f::r=>by
   have h1:=Qz5 es e f
   have h2:=Qgr es e r
   simp only [List.flatMap_cons,List.length_append,List.length_cons];omega
def swl (es:List (Int×Int)):List (Int×Int)→List Q4
 | []=>[]
 | e::r=>r.flatMap (Qmq es e)++swl es r
theorem Qp1 (es:List (Int×Int)):∀ r:List (Int×Int),r.length≤100→(swl es r).length≤200 * r.length
 | [],_=>by simp [swl]
 | e::r,h=>by
   have h1:=Qgr es e r
   simp only [List.length_cons] at h
   have h2:=Qp1 es r (by omega)
   rw [swl,List.length_append,List.length_cons];omega
set_option maxHeartbeats 4000000 in
theorem Jwm (n:Int) (es:List (Int×Int)) (c:Bool) (hl:es.length≤1000) (i:Nat) (hi:i < es.length):∀ (m k:Nat) (acc:List Q4) (B:Qal),k+m=es.length→acc.length+2 * m≤4000000 →
 wp tb (.loop Qvu) { T:=[(1,.bptr 0 0 0),(3,O4 acc),(4,I i),(5,I k)],loc:=[I n,L2 es c]::B,M:=[] }
  (fun ex st=>ex=.exit 2∧∃ B',st={ T:=[(1,.bptr 0 0 0),(3,O4 (acc++(es.drop k).flatMap (Qmq es es[i]))),(4,I i),(5,I es.length),(24,Bo false)],loc:=[I n,L2 es c]::B',M:=[] }):=by
 intro m
 induction m with
 | zero =>
   intro k acc B hk ha
   have h3:k=es.length:=hk
   subst h3
   refine wW ?_
   repeat (first|apply wA|apply wS|refine wr (by simp;with_reducible rfl) ?_|refine wq (by simp;with_reducible rfl) ?_|refine wt (by simpa) ?_|refine wf (by simpa) ?_|refine xt (by simpa) ?_|refine xf (by simpa) ?_|apply wB|apply Qaa|refine wX ?_|refine wY ?_|refine wR ?_|refine wK ?_|refine wE ?_)
   refine ⟨rfl,_,by simp;rfl⟩
 | succ m ih =>
   intro k acc B hk ha
   have hk2:k < es.length:=by omega
   have w1:IntKind.i64.wrap ((k:Int)+1)=((k+1:Nat):Int):=Qbp (by omega)
   have em:=fun cc a b c d=>Qab (Qmv n es cc a b c d (by omega))
   have hd:es.drop k=es[k]::es.drop (k+1):=List.drop_eq_getElem_cons hk2
   rw [hd,List.flatMap_cons]
   have hn:=fun acc B h=>ih (k+1) acc B (by omega) h
   obtain ⟨⟨x1,x2⟩,hx⟩:∃ x,x=es[i]:=⟨_,rfl⟩
   obtain ⟨⟨y1,y2⟩,hy⟩:∃ x,x=es[k]:=⟨_,rfl⟩
   rw [← hx] at hn ⊢
   rw [← hy]
   have hx2:=hx.symm
   have hy2:=hy.symm
   have hl1:acc.length+1≤274877906944:=by omega
   have hl2:acc.length≤274877906943:=by omega
   have hl3:acc.length+1+1≤274877906944:=by omega
   have hl4:acc.length+1≤274877906943:=by omega
   have hT:∀ x:Q4,List.take (acc.length+1) (acc++[x])=acc++[x]:=fun x=>List.take_of_length_le (by simp)
   have hT2:List.take acc.length acc=acc:=List.take_of_length_le (Nat.le_refl _)
   have hT3:∀ x y:Q4,List.take (acc.length+1+1) (acc++[x,y])=acc++[x,y]:=fun x y=>List.take_of_length_le (by simp)
   have hB:=B.length
   cases k1:Qpb es x1 x2 y1 y2 with
   | false =>
     cases k2:Qpb es x1 x2 y2 y1 with
     | false =>
       refine wW ?_
       repeat (first|apply wA|apply wS|refine wr (by simp [hi,hk2,w1,hx2,hy2,em,k1,k2,hl1,hl2,hT,hT2];with_reducible rfl) ?_|refine wq (by simp [hi,hk2,w1,hx2,hy2,em,k1,k2,hl1,hl2,hT,hT2];with_reducible rfl) ?_|refine wt (by simpa [hi,hk2,w1,hx2,hy2,em,k1,k2,hl1,hl2,hT,hT2]) ?_|refine wf (by simpa [hi,hk2,w1,hx2,hy2,em,k1,k2,hl1,hl2,hT,hT2]) ?_|refine xt (by simpa [hi,hk2,w1,hx2,hy2,em,k1,k2,hl1,hl2,hT,hT2]) ?_|refine xf (by simpa [hi,hk2,w1,hx2,hy2,em,k1,k2,hl1,hl2,hT,hT2]) ?_|apply wB|apply Qaa|refine wX ?_|refine wY ?_|refine wR ?_|refine wK ?_|refine wE ?_)
       have hh:=hn acc (B++[[I x1,I x2],[I y1,I y2],[I x1,I x2,I y1,I y2],[I x1,I x2,I y2,I y1]]) (by omega)
       simp only [Qmq,k1,k2]
       simpa using hh
     | true =>
       refine wW ?_
       repeat (first|apply wA|apply wS|refine wr (by simp [hi,hk2,w1,hx2,hy2,em,k1,k2,hl1,hl2,hT,hT2];with_reducible rfl) ?_|refine wq (by simp [hi,hk2,w1,hx2,hy2,em,k1,k2,hl1,hl2,hT,hT2];with_reducible rfl) ?_|refine wt (by simpa [hi,hk2,w1,hx2,hy2,em,k1,k2,hl1,hl2,hT,hT2]) ?_|refine wf (by simpa [hi,hk2,w1,hx2,hy2,em,k1,k2,hl1,hl2,hT,hT2]) ?_|refine xt (by simpa [hi,hk2,w1,hx2,hy2,em,k1,k2,hl1,hl2,hT,hT2]) ?_|refine xf (by simpa [hi,hk2,w1,hx2,hy2,em,k1,k2,hl1,hl2,hT,hT2]) ?_|apply wB|apply Qaa|refine wX ?_|refine wY ?_|refine wR ?_|refine wK ?_|refine wE ?_)
       have hh:=hn (acc++[(x1,x2,y2,y1)]) (B++[[I x1,I x2],[I y1,I y2],[I x1,I x2,I y1,I y2],[I x1,I x2,I y2,I y1]]) (by simp;omega)
       simp only [Qmq,k1,k2]
       simpa using hh
   | true =>
     cases k2:Qpb es x1 x2 y2 y1 with
     | false =>
       refine wW ?_
       repeat (first|apply wA|apply wS|refine wr (by simp [hi,hk2,w1,hx2,hy2,em,k1,k2,hl1,hl2,hT,hT2];with_reducible rfl) ?_|refine wq (by simp [hi,hk2,w1,hx2,hy2,em,k1,k2,hl1,hl2,hT,hT2];with_reducible rfl) ?_|refine wt (by simpa [hi,hk2,w1,hx2,hy2,em,k1,k2,hl1,hl2,hT,hT2]) ?_|refine wf (by simpa [hi,hk2,w1,hx2,hy2,em,k1,k2,hl1,hl2,hT,hT2]) ?_|refine xt (by simpa [hi,hk2,w1,hx2,hy2,em,k1,k2,hl1,hl2,hT,hT2]) ?_|refine xf (by simpa [hi,hk2,w1,hx2,hy2,em,k1,k2,hl1,hl2,hT,hT2]) ?_|apply wB|apply Qaa|refine wX ?_|refine wY ?_|refine wR ?_|refine wK ?_|refine wE ?_)
       have hh:=hn (acc++[(x1,x2,y1,y2)]) (B++[[I x1,I x2],[I y1,I y2],[I x1,I x2,I y1,I y2],[I x1,I x2,I y2,I y1]]) (by simp;omega)
       simp only [Qmq,k1,k2]
       simpa using hh
     | true =>
       refine wW ?_
       repeat (first|apply wA|apply wS|refine wr (by simp [hi,hk2,w1,hx2,hy2,em,k1,k2,hl1,hl2,hl3,hl4,hT,hT2,hT3];with_reducible rfl) ?_|refine wq (by simp [hi,hk2,w1,hx2,hy2,em,k1,k2,hl1,hl2,hl3,hl4,hT,hT2,hT3];with_reducible rfl) ?_|refine wt (by simpa [hi,hk2,w1,hx2,hy2,em,k1,k2,hl1,hl2,hl3,hl4,hT,hT2,hT3]) ?_|refine wf (by simpa [hi,hk2,w1,hx2,hy2,em,k1,k2,hl1,hl2,hl3,hl4,hT,hT2,hT3]) ?_|refine xt (by simpa [hi,hk2,w1,hx2,hy2,em,k1,k2,hl1,hl2,hl3,hl4,hT,hT2,hT3]) ?_|refine xf (by simpa [hi,hk2,w1,hx2,hy2,em,k1,k2,hl1,hl2,hl3,hl4,hT,hT2,hT3]) ?_|apply wB|apply Qaa|refine wX ?_|refine wY ?_|refine wR ?_|refine wK ?_|refine wE ?_)
       have hh:=hn (acc++[(x1,x2,y1,y2),(x1,x2,y2,y1)]) (B++[[I x1,I x2],[I y1,I y2],[I x1,I x2,I y1,I y2],[I x1,I x2,I y2,I y1]]) (by simp;omega)
       simp only [Qmq,k1,k2]
       simpa using hh
theorem Qio (n:Int) (es:List (Int×Int)) (c:Bool) (hl:es.length≤1000) :
 Ev tb Qv3 [] [Gr n es c] [] ⟨O4 (swl es es),[],[],[]⟩:=by
 have loop:∀ (m i:Nat) (acc:List Q4) (B:Qal),i+m=es.length→acc.length+2000 * m≤3000000 →
  wp tb (.loop Qwq) { T:=[(1,.bptr 0 0 0),(3,O4 acc),(4,I i)],loc:=[I n,L2 es c]::B,M:=[] }
  (fun ex st=>ex=.exit 0∧∃ B',st={ T:=[(1,.bptr 0 0 0),(3,O4 (acc++swl es (es.drop i))),(4,I es.length),(15,Bo false)],loc:=[I n,L2 es c]::B',M:=[] }):=by
  intro m
  induction m with
  | zero =>
    intro i acc B hi ha
    have h3:i=es.length:=hi
    subst h3
    refine wW ?_
    repeat (first|apply wA|apply wS|refine wr (by simp;with_reducible rfl) ?_|refine wq (by simp;with_reducible rfl) ?_|refine wt (by simpa) ?_|refine wf (by simpa) ?_|refine xt (by simpa) ?_|refine xf (by simpa) ?_|apply wB|apply Qaa|refine wX ?_|refine wY ?_|refine wR ?_|refine wK ?_|refine wE ?_)
    refine ⟨rfl,_,by simp [swl];rfl⟩
  | succ m ih =>
    intro i acc B hi ha
    have hi2:i < es.length:=by omega
    have w1:IntKind.i64.wrap ((i:Int)+1)=((i+1:Nat):Int):=Qbp (by omega)
    have hd:es.drop i=es[i]::es.drop (i+1):=List.drop_eq_getElem_cons hi2
    refine wW ?_
    repeat (first|apply wA|apply wS|refine wr (by simp [hi2,w1];with_reducible rfl) ?_|refine wq (by simp [hi2,w1];with_reducible rfl) ?_|refine wt (by simpa [hi2,w1]) ?_|refine wf (by simpa [hi2,w1]) ?_|refine xt (by simpa [hi2,w1]) ?_|refine xf (by simpa [hi2,w1]) ?_|apply wB|apply Qaa|refine wX ?_|refine wY ?_|refine wR ?_|refine wK ?_|refine wE ?_)
    refine Qap (Jwm n es c hl i hi2 m (i+1) acc B (by omega) (by omega)) ?_
    rintro ex st ⟨rfl,B',rfl⟩
    simp only [if_true]
    repeat (first|apply wA|apply wS|refine wr (by simp [w1];with_reducible rfl) ?_|refine wq (by simp [w1];with_reducible rfl) ?_|refine wt (by simpa [w1]) ?_|refine wf (by simpa [w1]) ?_|refine xt (by simpa [w1]) ?_|refine xf (by simpa [w1]) ?_|apply wB|apply Qaa|refine wX ?_|refine wY ?_|refine wR ?_|refine wK ?_|refine wE ?_)
    have hrl:=Qgr es es[i] (es.drop (i+1))
    simp only [List.length_drop] at hrl
    have hn:=ih (i+1) (acc++(es.drop (i+1)).flatMap (Qmq es es[i])) B' (by omega) (by simp only [List.length_append];omega)
    rw [hd,swl]
    simp only [List.append_assoc] at hn
    exact hn
 refine cW Jv3 rfl ?_
 repeat (first|apply wA|apply wS|refine wr (by simp;with_reducible rfl) ?_|refine wq (by simp;with_reducible rfl) ?_|refine wt (by simpa) ?_|refine wf (by simpa) ?_|refine xt (by simpa) ?_|refine xf (by simpa) ?_|apply wB|apply Qaa|refine wX ?_|refine wY ?_|refine wR ?_|refine wK ?_|refine wE ?_)
 refine Qap (loop es.length 0 [] [] (by simp) (by simp;omega)) ?_
 rintro ex st ⟨rfl,B',rfl⟩
 simp only [if_true]
 repeat (first|apply wA|apply wS|refine wr (by simp;with_reducible rfl) ?_|refine wq (by simp;with_reducible rfl) ?_|refine wt (by simpa) ?_|refine wf (by simpa) ?_|refine xt (by simpa) ?_|refine xf (by simpa) ?_|apply wB|apply Qaa|refine wX ?_|refine wY ?_|refine wR ?_|refine wK ?_|refine wE ?_)
 simp [Jab]
end Go.Idl
namespace Go.Idl
open Go
def tab (t:List (List Int)):List (List IV):=t.map fun r=>[.lst 1 (Qdj r) false]
def oab (t:List (List Int)):List (List IV):=t.map fun r=>[.own 1 (Qdj r)]
@[simp] theorem Jxy (t:List (List Int)):(tab t).length=t.length:=by simp [tab]
@[simp] theorem Jx8 (t:List (List Int)):(oab t).length=t.length:=by simp [oab]
@[simp] theorem Jx0:oab []=[]:=rfl
@[simp] theorem tab_get? (t:List (List Int)) (i:Nat):(tab t)[i]? = t[i]?.map fun r=>[IV.lst 1 (Qdj r) false]:=by simp [tab]
@[simp] theorem Jxj (t:List (List Int)) (i:Nat) (h:i < (tab t).length):(tab t)[i]=[IV.lst 1 (Qdj (t[i]'(by simpa [tab] using h))) false]:=by simp [tab]
@[simp] theorem oab_get? (t:List (List Int)) (i:Nat):(oab t)[i]? = t[i]?.map fun r=>[IV.own 1 (Qdj r)]:=by simp [oab]
@[simp] theorem Jzv (t:List (List Int)) (i:Nat) (h:i < (oab t).length):(oab t)[i]=[IV.own 1 (Qdj (t[i]'(by simpa [oab] using h)))]:=by simp [oab]
@[simp] theorem Jzt (t:List (List Int)) (r:List Int):oab t++[[IV.own 1 (Qdj r)]]=oab (t++[r]):=by simp [oab]
@[simp] theorem Jw4 (t:List (List Int)) (i:Nat) (r:List Int):(oab t).set i [IV.own 1 (Qdj r)]=oab (t.set i r):=by simp [oab,List.map_set]
@[simp] theorem Jvq (t:List (List Int)) (n:Nat):(oab t).take n=oab (t.take n):=by simp [oab,List.map_take]
@[simp] theorem Jzl (t:List (List Int)):Qcc (oab t)=tab t:=by
  induction t with
  | nil=>rfl
  | cons x xs ih =>
    simp only [oab,tab,List.map_cons,Qcc,Qcx,Qge] at *
    rw [ih]
    have:Qcc (Qdj x)=Qdj x:=by
     clear ih
     induction x with
     | nil=>rfl
     | cons y ys ih=>simp only [Qdj,List.map_cons,Qcc,Qcx,Qge] at *;rw [ih]
    rw [this]
@[simp] theorem Juz (t:List (List Int)):((tab t).all fun x=>x.all IV.plain1)=true:=by
  induction t with
  | nil=>rfl
  | cons x xs ih=>simp only [tab,List.map_cons,List.all_cons] at *;rw [ih];rfl
@[simp] theorem Jqt (t:List (List Int)):Qb1 (oab t)=true:=by
  induction t with
  | nil=>rfl
  | cons x xs ih =>
    simp only [oab,List.map_cons,Qb1,Qa7,Qbq] at *
    rw [ih,Qs5];rfl
def g2 (t:List (List Int)) (a b:Nat):Int:=(t.getD a []).getD b 0
end Go.Idl
namespace Go.Idl
open Go
def asc0 (s:List Int):List Int:=(fall s).reverse
def overT (s:List Int) (i:Nat):Int:=((asc0 s).take (i+1)).sum - ((i:Int)+1) * i / 2
def over (s:List Int):List Int:=mapR s.length (overT s)
end Go.Idl
namespace Go.Idl
open Go
theorem Jyi (r:List Int) (h:∀ x ∈ r,0≤x∧x≤1):0≤r.sum∧r.sum≤r.length:=by
 induction r with
 | nil=>simp
 | cons x xs ih =>
   have h1:=h x (by simp)
   have h2:=ih fun y hy=>h y (by simp [hy])
   simp only [List.sum_cons,List.length_cons];omega
end Go.Idl
namespace Go.Idl
open Go
abbrev L4 (xs:List Q4) (c:Bool):IV:=.lst 4 (sws xs) c
def Qfz:List (Int×Int)→List Q4→Option (List (Int×Int))
 | es,[]=>some es
 | es,s::r=>if Qdm es s.1 s.2.1 s.2.2.1 s.2.2.2 then Qfz (sw es s.1 s.2.1 s.2.2.1 s.2.2.2) r else none
end Go.Idl
namespace Go.Idl
open Go Go.ChangeShapes Go.WideShapes Go.Deep
theorem Jcc (len:Nat) (f:Nat→Int):Qy3 2 len f=eds ((List.range len).map fun i=>(f (i * 2),f (i * 2+1))):=by
 rw [Qy3,eds,List.map_map]
 exact List.map_congr_left fun i _=>by simp [List.range_succ]
section
variable {H:Type} {enc:TypeId×Value→H} {P:Program} {w:World} {base:Nat} {spare:Nat→Bool} {held:Bool}
theorem graph_in {t0 t e:TypeId} {fs:Array Field} {n1 n2:Nat} {u0 u1:Value} {y0 y1:DataW H×List MemPlace} (hi:P.underlying t0=some (.int .i64)) (g0:DataW.trod enc P w base spare held n1 t0 [u0]=some y0)
 (ht:P.underlying t=some (.slice e)) (he:P.underlying e=some (.struct fs)) (hone:(oneCellFields P fs && (P.cellsOf e == 2))=true) (hsz:fs.size=2) (hk:Jvv P fs=true)
 (g1:DataW.trod enc P w base spare held n2 t [u1]=some y1):∃ (n:Int) (es:List (Int×Int)),Fit es∧es.length < 9223372036854775808∧ArgR w (Gr n es false) (.agg #[u0,u1]):=by
 simp only [Qba,beq_iff_eq] at hone
 obtain ⟨z,hz,-,-⟩:=DataW.trod_int hi g0
 obtain ⟨a,len,cap,f,hcs,hl,hr,hd⟩:=Quc ht he hone.1 (by rw [hone.2,hsz]) (by omega) hk g1
 simp only [List.cons.injEq,and_true] at hz hcs
 subst hz hcs
 rw [hsz,Jcc] at hd
 refine ⟨z,_,fun x hx=>?_,by simpa using hl,Qy6 rfl hd⟩
 obtain ⟨i,-,rfl⟩:=List.mem_map.1 hx
 exact ⟨(hr _).1,(hr _).2,(hr _).1,(hr _).2⟩
end
end Go.Idl
namespace Go.Idl
open Go
abbrev Str (s:ByteArray):IV:=.sc (.string s)
def Jcp (l:List ByteArray):List (List IV):=l.map fun s=>[Str s]
@[simp] theorem Jvk (l:List ByteArray):(Jcp l).length=l.length:=by simp [Jcp]
@[simp] theorem Juq (l:List ByteArray) (i:Nat) (h:i < (Jcp l).length):(Jcp l)[i]=[IV.sc (.string (l[i]'(by simpa [Jcp] using h)))]:=by simp [Jcp]
@[simp] theorem strs_get? (l:List ByteArray) (i:Nat):(Jcp l)[i]? = l[i]?.map fun s=>[IV.sc (.string s)]:=by simp [Jcp]
end Go.Idl
namespace Go.Idl
open Go
theorem Qlf:∀ (r:List (Int×Int)) (left:List Int) (ch:List (Int×Int)),(subs r left ch).length≤2 ^ r.length
 | [],left,ch=>by rw [subs];split <;> simp
 | e::r,left,ch=>by
   have h1:=Qlf r (Qim (Qim left e.1.toNat) e.2.toNat) (ch++[e])
   have h2:=Qlf r left ch
   rw [subs,List.length_append,List.length_cons,Nat.pow_succ]
   split
   · omega
   · simp;omega
end Go.Idl
namespace Go.Idl
open Go
def gls (n:Int) (gl:List (List (Int×Int))):List (List IV):=gl.map fun es=>[I n,O2 es]
@[simp] theorem Jw6 (n:Int) (gl):(gls n gl).length=gl.length:=by simp [gls]
@[simp] theorem Jzz (n:Int) (gl) (es:List (Int×Int)):gls n gl++[[IV.sc (.int .i64 n),.own 2 (eds es)]]=gls n (gl++[es]):=by simp [gls]
@[simp] theorem Jza (n:Int) (gl):(gls n gl).isEmpty=gl.isEmpty:=by cases gl <;> rfl
@[simp] theorem Jvr (n:Int) (gl) (k:Nat):(gls n gl).take k=gls n (gl.take k):=by simp [gls,List.map_take]
@[simp] theorem Jxc (n:Int) (gl):((gls n gl).all fun x=>x.all IV.isData)=true:=by
  induction gl with
  | nil=>rfl
  | cons x xs ih=>simp only [gls,List.map_cons,List.all_cons] at *;rw [ih];rfl
@[simp] theorem Jna (n:Int) (gl):Qb1 (gls n gl)=true:=by
  induction gl with
  | nil=>rfl
  | cons x xs ih=>simp only [gls,List.map_cons,Qb1,Qa7,Qbq,Qvb] at *;rw [ih];rfl
def Jbt (d:List Int):List (List (Int×Int)):=subs (prs d.length) d []
end Go.Idl
namespace Go.Idl
open Go
abbrev GF:=List (List (Int×Int)×Bool)
def glf (n:Int) (R:GF):List (List IV):=R.map fun x=>[I n,L2 x.1 x.2]
@[simp] theorem glf_len (n:Int) (R:GF):(glf n R).length=R.length:=by simp [glf]
@[simp] theorem glf_nil (n:Int):glf n []=[]:=rfl
@[simp] theorem Jwd (n:Int) (R S:GF):glf n R++glf n S=glf n (R++S):=by simp [glf]
@[simp] theorem Jul (n:Int) (R:GF) (k:Nat):(glf n R).take k=glf n (R.take k):=by simp [glf,List.map_take]
@[simp] theorem Jzg (n:Int) (R:GF):((glf n R).all fun x=>x.all IV.isData)=true:=by
  induction R with
  | nil=>rfl
  | cons x xs ih=>simp only [glf,List.map_cons,List.all_cons] at *;rw [ih];rfl
end Go.Idl
namespace Go.Idl
open Go
@[simp] theorem un_neg (n:Int):Op.unary .neg (.int .i64 n)=.pure (.int .i64 (IntKind.i64.wrap (-n))):=by
  rw [← Int.zero_sub];rfl
def gs (r c:List Int) (i:Nat):Int:=-((fall r).take (i+1)).sum+(c.map fun x:Int=>min x ((i:Int)+1)).sum
end Go.Idl
namespace Go.Idl
open Go
def TT (n:Nat) (t:List (List Int)):Prop:=t.length=n∧∀ r ∈ t,r.length=n∧∀ x ∈ r,0≤x∧x≤1
theorem TT.set {n:Nat} {t:List (List Int)} (h:TT n t) {a b:Nat} {v:Int} (ha:a < t.length) (hv:0≤v∧v≤1):TT n (t.set a (t[a].set b v)):=by
 refine ⟨by simpa using h.1,fun r hr=>?_⟩
 have h1:=h.2 _ (List.getElem_mem ha)
 rcases List.mem_or_eq_of_mem_set hr with hr | rfl
 · exact h.2 r hr
 · refine ⟨by simpa using h1.1,fun x hx=>?_⟩
   rcases List.mem_or_eq_of_mem_set hx with hx | rfl
   · exact h1.2 x hx
   · exact hv
end Go.Idl
namespace Go.Idl
open Go
def MM (h w:Nat) (t:List (List Int)):Prop:=t.length=h∧∀ r ∈ t,r.length=w∧∀ x ∈ r,0≤x∧x≤1
end Go.Idl
namespace Go.Idl
open Go
theorem MM.few {h w:Nat} {t:List (List Int)} (ht:MM h w t) (hw:w≤5):∀ r ∈ t,Few r:=fun r hr=>⟨by have:=(ht.2 r hr).1;omega,fun x hx=>by have:=(ht.2 r hr).2 x hx;omega⟩
theorem MM.sums {h w:Nat} {t:List (List Int)} (ht:MM h w t) (hw:w≤5):∀ x ∈ t.map List.sum,0≤x∧x≤5:=by
 intro x hx
 obtain ⟨r,hr,rfl⟩:=List.mem_map.1 hx
 have h1:=ht.2 r hr
 have:=Jyi r h1.2
 omega
end Go.Idl
namespace Go.Idl
def insP (x:Nat×Nat):List (Nat×Nat)→List (Nat×Nat)
 | []=>[x]
 | y::r=>if Nat.ble y.1 x.1 then x::y::r else y::insP x r
def hh:Nat→List (Nat×Nat)→List (Nat×Nat)
 | 0,_=>[]
 | _+1,[]=>[]
 | m+1,x::r=>(r.take x.1).map (fun y:Nat×Nat=>(x.2,y.2))++hh m ((((r.take x.1).map (fun y:Nat×Nat=>(y.1 - 1,y.2))++r.drop x.1:List (Nat×Nat))).foldr insP [])
theorem Qgm {left:List Int} {N:Nat} (hl:left.length=N):left.all (fun x=>decide (x=0))=true ↔ ∀ v,v < N→(0:Int)=left.getD v 0:=by
 rw [List.all_eq_true]
 constructor
 · intro h v hv
   rw [List.getD_eq_getElem?_getD,List.getElem?_eq_getElem (by omega)]
   have:=of_decide_eq_true (h _ (List.getElem_mem (show v < left.length by omega)))
   simp [this]
 · intro h x hx
   obtain ⟨v,hv,rfl⟩:=List.getElem_of_mem hx
   have:=h v (by omega)
   rw [List.getD_eq_getElem?_getD,List.getElem?_eq_getElem hv] at this
   simpa using this.symm
theorem Qm3 {o:List Int} {i v:Nat} (hv:v < o.length):(Qim o i).getD v 0=o.getD v 0 - (if i=v then 1 else 0):=by
 rw [Qim,List.getD_eq_getElem?_getD,List.getElem?_set]
 by_cases h:i=v
 · subst h;simp [hv,List.getD_eq_getElem?_getD]
 · simp [h,List.getD_eq_getElem?_getD]
theorem Qr6 (v:Nat) (e:Int×Int):0≤inc v e:=by simp only [inc];split <;> split <;> decide
theorem Qg2 {N:Nat}:∀ (r:List (Int×Int)) (left:List Int) (ch g:List (Int×Int)),(∀ e ∈ r,0≤e.1∧e.1 < e.2∧e.2 < N)→left.length=N →
 (g ∈ subs r left ch ↔ ∃ s:List (Int×Int),s.Sublist r∧g=ch++s∧∀ v,v < N→deg s v=left.getD v 0)
 | [],left,ch,g,_,hl=>by
   rw [subs]
   constructor
   · intro h
     split at h
     · rename_i hz
       simp at h
       subst h
       exact ⟨[],List.Sublist.refl _,by simp,fun v hv=>(Qgm hl).1 hz v hv⟩
     · simp at h
   · rintro ⟨s,hs,rfl,hd⟩
     have:s=[]:=by simpa using hs
     subst this
     rw [if_pos ((Qgm hl).2 fun v hv=>hd v hv)]
     simp
 | e::r,left,ch,g,hr,hl=>by
   have he:=hr e (by simp)
   have hr':∀ x ∈ r,0≤x.1∧x.1 < x.2∧x.2 < N:=fun x hx=>hr x (by simp [hx])
   have hdl:(Qim (Qim left e.1.toNat) e.2.toNat).length=N:=by simp [Qim,hl]
   have hget:∀ v,v < N→(Qim (Qim left e.1.toNat) e.2.toNat).getD v 0=left.getD v 0 - inc v e:=fun v hv=>by
    rw [Qm3 (by simp [Qim];omega),Qm3 (by omega),inc]
    have c1:(e.1.toNat=v)=(e.1=(v:Int)):=by rw [eq_iff_iff];omega
    have c2:(e.2.toNat=v)=(e.2=(v:Int)):=by rw [eq_iff_iff];omega
    simp only [c1,c2];omega
   rw [subs,List.mem_append]
   constructor
   · rintro (h | h)
     · split at h
       rotate_left
       · simp at h
       obtain ⟨s,hs,rfl,hd⟩:=(Qg2 r _ _ g hr' hdl).1 h
       refine ⟨e::s,hs.cons_cons e,by simp,fun v hv=>?_⟩
       have h1:=hd v hv
       rw [hget v hv] at h1
       rw [deg,Qih]
       have h2:S s (inc v)=left.getD v 0 - inc v e:=h1
       rw [h2];omega
     · obtain ⟨s,hs,rfl,hd⟩:=(Qg2 r _ _ g hr' hl).1 h
       exact ⟨s,hs.cons e,rfl,hd⟩
   · rintro ⟨s,hs,rfl,hd⟩
     rcases List.sublist_cons_iff.1 hs with hs2 | ⟨s',rfl,hs2⟩
     · exact .inr ((Qg2 r _ _ _ hr' hl).2 ⟨s,hs2,rfl,hd⟩)
     · refine .inl ?_
       have hd':∀ v,v < N→inc v e+deg s' v=left.getD v 0:=fun v hv=>by
        rw [← hd v hv,deg,deg,Qih]
       have pos:∀ x:Int,0≤x→x < N→(e.1=x ∨ e.2=x)→0 < left.getD x.toNat 0:=fun x h0 h1 h2=>by
        have h3:=hd' x.toNat (by omega)
        have h4:0≤deg s' x.toNat:=Jbx fun y _=>Qr6 _ y
        have h5:1≤inc x.toNat e:=by
         simp only [inc,show ((x.toNat:Nat):Int)=x by omega]
         rcases h2 with h2 | h2
         · rw [if_pos h2];split <;> decide
         · rw [if_pos h2];split <;> decide
        omega
       rw [if_pos ⟨pos e.1 (by omega) (by omega) (.inl rfl),pos e.2 (by omega) (by omega) (.inr rfl)⟩]
       refine (Qg2 r _ _ _ hr' hdl).2 ⟨s',hs2,by simp,fun v hv=>?_⟩
       rw [hget v hv,← hd' v hv];omega
def mk (u v:Nat):Int×Int:=(min (u:Int) v,max (u:Int) v)
theorem Qk2 {n u v:Nat} (hu:u < n) (hv:v < n) (h:u ≠ v):mk u v ∈ prs n:=Qa1.2 (by simp only [mk];omega)
end Go.Idl
namespace Go.Idl
theorem Qp4 {e:Int×Int}:∀ {es:List (Int×Int)},PW es→e ∉ es→PW (Qkg e es)
 | [],_,_=>by simp [Qkg,PW]
 | x::r,h,hn=>by
   have h':=List.pairwise_cons.1 h
   rw [Qkg]
   split
   · rename_i hx
     refine List.pairwise_cons.2 ⟨fun y hy=>?_,Qp4 h'.2 fun hm=>hn (by simp [hm])⟩
     rcases (Qiz _ _ _).1 hy with rfl | hy
     · exact hx
     · exact h'.1 y hy
   · rename_i hx
     have hxe:Qam e x=true:=by
      rcases Qb0 (a:=e) (b:=x) (fun h=>hn (by simp [h])) with q | q
      · exact q
      · exact absurd q hx
     refine List.pairwise_cons.2 ⟨fun y hy=>?_,h⟩
     rcases List.mem_cons.1 hy with rfl | hy
     · exact hxe
     · exact Qdu hxe (h'.1 y hy)
end Go.Idl
namespace Go.Idl
theorem Qe0 {es:List (Int×Int)} {a b c d:Int} {e:Int×Int}:e ∈ sw es a b c d ↔ (e ∈ es∧e ≠ (min a b,max a b)∧e ≠ (min c d,max c d)) ∨ e=(min a c,max a c) ∨ e=(min b d,max b d):=by
 rw [sw,(Qe3 _).mem_iff,swX,List.mem_append,List.mem_filter]
 simp only [Qti,Bool.not_eq_true',Bool.or_eq_false_iff,decide_eq_false_iff_not,List.mem_cons,List.not_mem_nil,or_false,ne_eq]
theorem Ja2 {n:Nat} {es:List (Int×Int)} (h:∀ e ∈ es,e ∈ prs n) (a b:Int):has es a b=Qrc es a b:=by
 rw [Bool.eq_iff_iff,Qi0,has,List.any_eq_true]
 constructor
 · rintro ⟨e,he,hi⟩
   have hp:=Qa1.1 (h e he)
   simp only [isE,Bool.or_eq_true,Qba,decide_eq_true_eq] at hi
   have h2:e=(min a b,max a b):=Prod.ext (by simp only;omega) (by simp only;omega)
   rw [← h2];exact he
 · intro hm
   refine ⟨_,hm,?_⟩
   simp only [isE,Bool.or_eq_true,Qba,decide_eq_true_eq]
   omega
theorem Qty {n:Nat} {es:List (Int×Int)} (h:Qad n es=true) (a b c d:Int):Qpb es a b c d=Qdm es a b c d:=by
 have hin:=(Qa2.1 h).2.1
 rw [Bool.eq_iff_iff,Qbz]
 simp only [Qpb,Ja2 hin,Qba,decide_eq_true_eq,Bool.not_eq_true',Qi0,Qu0,and_assoc]
 constructor
 · rintro ⟨h1,h2,h3,h4,m1,m2,m3,m4⟩
   have p1:=Qa1.1 (hin _ m1)
   have p2:=Qa1.1 (hin _ m2)
   simp only at p1 p2
   exact ⟨by omega,h1,h3,fun h=>h4 h,h2,by omega,m1,m2,m3,m4⟩
 · rintro ⟨h1,h2,h3,h4,h5,h6,m1,m2,m3,m4⟩
   exact ⟨h2,h5,h3,h4,m1,m2,m3,m4⟩
theorem Qpk {a b c d:Int} (h:a ≠ b∧a ≠ c∧a ≠ d∧b ≠ c∧b ≠ d∧c ≠ d) :
 ((min a b,max a b):Int×Int) ≠ (min c d,max c d)∧((min a b,max a b):Int×Int) ≠ (min a c,max a c)∧((min a b,max a b):Int×Int) ≠ (min b d,max b d) ∧
 ((min c d,max c d):Int×Int) ≠ (min a c,max a c)∧((min c d,max c d):Int×Int) ≠ (min b d,max b d)∧((min a c,max a c):Int×Int) ≠ (min b d,max b d):=by
 simp only [ne_eq,Qpi]
 omega
theorem Jzu {n:Nat} {es:List (Int×Int)} {a b c d:Int} (h:Qad n es=true) (hm:Qdm es a b c d=true):swS es a b c d=sw es a b c d:=by
 obtain ⟨h1,h2,h3⟩:=Qa2.1 h
 obtain ⟨hd,m1,m2,m3,m4⟩:=Qbz.1 hm
 have f4:=Qpk hd
 have hs1:PW (Qcs c d (Qcs a b es)):=(h1.filter _).filter _
 have hs2:∀ e,e ∈ Qcs c d (Qcs a b es) ↔ e ∈ es∧e ≠ (min a b,max a b)∧e ≠ (min c d,max c d):=fun e=>by
  simp only [Qcs,List.mem_filter,Qr5,Bool.not_eq_true',Bool.and_eq_false_imp,decide_eq_true_eq,decide_eq_false_iff_not,and_assoc,ne_eq,Prod.ext_iff,not_and]
 have n1:((min a c,max a c):Int×Int) ∉ Qcs c d (Qcs a b es):=fun hh=>m3 ((hs2 _).1 hh).1
 have n2:((min b d,max b d):Int×Int) ∉ Qkg (min a c,max a c) (Qcs c d (Qcs a b es)):=fun hh=>by
  rcases (Qiz _ _ _).1 hh with hh | hh
  · exact f4.2.2.2.2.2 hh.symm
  · exact m4 ((hs2 _).1 hh).1
 refine Qh9 (Qp4 (Qp4 hs1 n1) n2) (Qlm (Qdf h hm).1) fun e=>?_
 show e ∈ Qkg _ _ ↔ e ∈ sw es a b c d
 rw [Qiz,Qiz,hs2,Qe0]
 constructor
 · rintro (h | h | h)
   · exact .inr (.inr h)
   · exact .inr (.inl h)
   · exact .inl h
 · rintro (h | h | h)
   · exact .inr (.inr h)
   · exact .inr (.inl h)
   · exact .inl h
theorem Jp3 (v:Nat) (a c:Int):inc v (min a c,max a c)=(if a=v then 1 else 0)+(if c=v then 1 else 0):=by
 rcases Int.le_total a c with h | h
 · rw [inc,Int.min_eq_left h,Int.max_eq_right h]
 · rw [inc,Int.min_eq_right h,Int.max_eq_left h,Int.add_comm]
theorem Jru {n:Nat} {es:List (Int×Int)} {a b c d:Int} (h:Qad n es=true) (hm:Qdm es a b c d=true) (v:Nat):deg (sw es a b c d) v=deg es v:=by
 obtain ⟨h1,h2,h3⟩:=Qa2.1 h
 obtain ⟨hd,m1,m2,m3,m4⟩:=Qbz.1 hm
 have f4:=Qpk hd
 have hp:(es.filter (Qti a b c d)).Perm [(min a b,max a b),(min c d,max c d)]:=by
  refine (List.perm_ext_iff_of_nodup ((Qi1 h1).filter _) (by simpa using f4.1)).2 fun e=>?_
  simp only [List.mem_filter,Qti,Bool.or_eq_true,decide_eq_true_eq,List.mem_cons,List.not_mem_nil,or_false]
  constructor
  · exact fun h=>h.2
  · rintro (rfl | rfl)
    · exact ⟨m1,.inl rfl⟩
    · exact ⟨m2,.inr rfl⟩
 have e1:=Qz3 es (Qti a b c d) (inc v)
 have e2:=Jdj hp (inc v)
 have e3:=Jdj (Qe3 (swX es a b c d)) (inc v)
 rw [deg,deg,sw,e3,swX,Jwn,← e1,e2]
 simp only [S,List.map_cons,List.map_nil,List.sum_cons,List.sum_nil,Jp3]
 omega
theorem Qu9 {n:Nat} {es:List (Int×Int)} {a b c d:Int} (h:Qad n es=true) (hm:Qdm es a b c d=true):Qew n (sw es a b c d)=Qew n es:=by
 have i1:Qlo n es:=fun e he=>by have:=Qa1.1 ((Qa2.1 h).2.1 e he);omega
 have i2:Qlo n (sw es a b c d):=fun e he=>by have:=Qa1.1 ((Qa2.1 (Qdf h hm).2.2.1).2.1 e he);omega
 rw [Qhn i1,Qhn i2]
 exact List.map_congr_left fun v _=>Jru h hm v
theorem Jht {n:Nat} {es:List (Int×Int)} {a b c d:Int} (h:Qad n es=true) (hm:Qdm es a b c d=true) :
 Qdm (sw es a b c d) a c b d=true∧sw (sw es a b c d) a c b d=es:=by
 obtain ⟨h1,h2,h3⟩:=Qa2.1 h
 obtain ⟨hd,m1,m2,m3,m4⟩:=Qbz.1 hm
 have f4:=Qpk hd
 have hm':Qdm (sw es a b c d) a c b d=true:=by
  refine Qbz.2 ⟨by omega,Qe0.2 (.inr (.inl rfl)),Qe0.2 (.inr (.inr rfl)),fun hh=>?_,fun hh=>?_⟩
  · rcases Qe0.1 hh with hh | hh | hh
    · exact hh.2.1 rfl
    · exact f4.2.1 hh
    · exact f4.2.2.1 hh
  · rcases Qe0.1 hh with hh | hh | hh
    · exact hh.2.2 rfl
    · exact f4.2.2.2.1 hh
    · exact f4.2.2.2.2.1 hh
 refine ⟨hm',Qh9 (Qlm (Qdf (Qdf h hm).2.2.1 hm').1) h1 fun e=>?_⟩
 show e ∈ sw (sw es a b c d) a c b d ↔ _
 rw [Qe0,Qe0]
 constructor
 · rintro (⟨(h | h),k1,k2⟩ | h | h)
   · exact h.1
   · rcases h with h | h
     · exact absurd h k1
     · exact absurd h k2
   · rw [h];exact m1
   · rw [h];exact m2
 · intro he
   by_cases k1:e=(min a b,max a b)
   · exact .inr (.inl k1)
   by_cases k2:e=(min c d,max c d)
   · exact .inr (.inr k2)
   exact .inl ⟨.inl ⟨he,k1,k2⟩,fun h=>m3 (h ▸ he),fun h=>m4 (h ▸ he)⟩
end Go.Idl
namespace Go.Idl
open Go
def nl4:List Q4→IV
 | []=>Z
 | x::r=>O4 (x::r)
theorem Jf4 (acc:List Q4) (x:Q4):nl4 (acc++[x])=O4 (acc++[x]):=by cases acc <;> rfl
abbrev Qsx (es:List (Int×Int)) (s:Q4):Bool:=Qdm es s.1 s.2.1 s.2.2.1 s.2.2.2
set_option maxHeartbeats 4000000 in
theorem Jxp (n:Nat) (es:List (Int×Int)) (c:Bool) (hv:Qad n es=true) (kb N i k:Nat) (zs:List (Int×Int)) (c2:Bool) (qs:List Q4) (hq:qs.length≤100):∀ (m j:Nat) (acc:List Q4) (B:Qal),j+m=qs.length→acc.length+m≤4000000 →
 wp tb (.loop Qln) { T:=[(1,.bptr 0 0 0),(3,nl4 acc),(5,.bptr 0 kb 0),(13,L2 es c),(14,I N),(15,I i),(24,L2 zs c2),(25,I zs.length),(26,I k),(48,O4 qs),(49,I qs.length),(50,I j)],loc:=[I n,L2 es c]::B,M:=[] }
  (fun ex st=>ex=.exit 4∧∃ D,st={ T:=[(1,.bptr 0 0 0),(3,nl4 (acc++(qs.drop j).filter (Qsx es))),(5,.bptr 0 kb 0),(13,L2 es c),(14,I N),(15,I i),(24,L2 zs c2),(25,I zs.length),(26,I k),(48,O4 qs),(49,I qs.length),(50,I qs.length),(51,Bo false)],loc:=[I n,L2 es c]::(B++D),M:=[] }):=by
 intro m
 induction m with
 | zero =>
   intro j acc B hj ha
   have h3:j=qs.length:=hj
   subst h3
   rw [List.drop_length,List.filter_nil,List.append_nil]
   cases acc with
   | nil =>
     simp only [nl4]
     refine wW ?_
     repeat (first|apply wA|apply wS|refine wr (by simp;with_reducible rfl) ?_|refine wq (by simp;with_reducible rfl) ?_|refine wt (by simpa) ?_|refine wf (by simpa) ?_|refine xt (by simpa) ?_|refine xf (by simpa) ?_|apply wB|apply Qaa|refine wX ?_|refine wY ?_|refine wR ?_|refine wK ?_|refine wE ?_)
     exact ⟨rfl,[],by simp⟩
   | cons s r =>
     simp only [nl4]
     refine wW ?_
     repeat (first|apply wA|apply wS|refine wr (by simp;with_reducible rfl) ?_|refine wq (by simp;with_reducible rfl) ?_|refine wt (by simpa) ?_|refine wf (by simpa) ?_|refine xt (by simpa) ?_|refine xf (by simpa) ?_|apply wB|apply Qaa|refine wX ?_|refine wY ?_|refine wR ?_|refine wK ?_|refine wE ?_)
     exact ⟨rfl,[],by simp⟩
 | succ m ih =>
   intro j acc B hj ha
   have hj2:j < qs.length:=by omega
   have hd:qs.drop j=qs[j]::qs.drop (j+1):=List.drop_eq_getElem_cons hj2
   obtain ⟨⟨a,b,x,y⟩,hx⟩:∃ s,s=qs[j]:=⟨_,rfl⟩
   have hx2:=hx.symm
   have w1:IntKind.i64.wrap ((j:Int)+1)=((j+1:Nat):Int):=Qbp (by omega)
   have e1:=fun cc=>Qab (Qn8 n es cc a b x y hv)
   have hl1:acc.length+1≤274877906944:=by omega
   rw [hd,← hx,List.filter_cons]
   cases hm:Qdm es a b x y with
   | false =>
     simp only [OS,hm,Bool.false_eq_true,if_false] at e1
     simp only [Qsx,hm,Bool.false_eq_true,if_false]
     have hn:=fun q=>ih (j+1) acc (B++q) (by omega) (by omega)
     have fin:∀ q:Qal,wp tb (.loop Qln) { T:=[(1,.bptr 0 0 0),(3,nl4 acc),(5,.bptr 0 kb 0),(13,L2 es c),(14,I N),(15,I i),(24,L2 zs c2),(25,I zs.length),(26,I k),(48,O4 qs),(49,I qs.length),(50,I (j+1:Nat))],loc:=[I n,L2 es c]::(B++q),M:=[] }
      (fun ex st=>ex=.exit 4∧∃ D,st={ T:=[(1,.bptr 0 0 0),(3,nl4 (acc++(qs.drop (j+1)).filter (Qsx es))),(5,.bptr 0 kb 0),(13,L2 es c),(14,I N),(15,I i),(24,L2 zs c2),(25,I zs.length),(26,I k),(48,O4 qs),(49,I qs.length),(50,I qs.length),(51,Bo false)],loc:=[I n,L2 es c]::(B++D),M:=[] }):=fun q=>by
      refine Qap (hn q) ?_
      rintro ex st ⟨rfl,D,rfl⟩
      exact ⟨rfl,q++D,by simp⟩
     cases acc with
     | nil =>
       simp only [nl4] at fin ⊢
       refine wW ?_
       repeat (first|apply wA|apply wS|refine wr (by simp [hj2,hx2,w1,e1];with_reducible rfl) ?_|refine wq (by simp [hj2,hx2,w1,e1];with_reducible rfl) ?_|refine wt (by simpa [hj2,hx2,w1,e1]) ?_|refine wf (by simpa [hj2,hx2,w1,e1]) ?_|refine xt (by simpa [hj2,hx2,w1,e1]) ?_|refine xf (by simpa [hj2,hx2,w1,e1]) ?_|apply wB|apply Qaa|refine wX ?_|refine wY ?_|refine wR ?_|refine wK ?_|refine wE ?_)
       exact fin _
     | cons s r =>
       simp only [nl4] at fin ⊢
       refine wW ?_
       repeat (first|apply wA|apply wS|refine wr (by simp [hj2,hx2,w1,e1];with_reducible rfl) ?_|refine wq (by simp [hj2,hx2,w1,e1];with_reducible rfl) ?_|refine wt (by simpa [hj2,hx2,w1,e1]) ?_|refine wf (by simpa [hj2,hx2,w1,e1]) ?_|refine xt (by simpa [hj2,hx2,w1,e1]) ?_|refine xf (by simpa [hj2,hx2,w1,e1]) ?_|apply wB|apply Qaa|refine wX ?_|refine wY ?_|refine wR ?_|refine wK ?_|refine wE ?_)
       exact fin _
   | true =>
     simp only [OS,hm,if_true] at e1
     simp only [Qsx,hm,if_true]
     generalize sw es a b x y=R at *
     have hn:=fun q=>ih (j+1) (acc++[(a,b,x,y)]) (B++q) (by omega) (by simp;omega)
     have fin:∀ q:Qal,wp tb (.loop Qln) { T:=[(1,.bptr 0 0 0),(3,O4 (acc++[(a,b,x,y)])),(5,.bptr 0 kb 0),(13,L2 es c),(14,I N),(15,I i),(24,L2 zs c2),(25,I zs.length),(26,I k),(48,O4 qs),(49,I qs.length),(50,I (j+1:Nat))],loc:=[I n,L2 es c]::(B++q),M:=[] }
      (fun ex st=>ex=.exit 4∧∃ D,st={ T:=[(1,.bptr 0 0 0),(3,nl4 (acc++(a,b,x,y)::(qs.drop (j+1)).filter (Qsx es))),(5,.bptr 0 kb 0),(13,L2 es c),(14,I N),(15,I i),(24,L2 zs c2),(25,I zs.length),(26,I k),(48,O4 qs),(49,I qs.length),(50,I qs.length),(51,Bo false)],loc:=[I n,L2 es c]::(B++D),M:=[] }):=fun q=>by
      have hn:=hn q
      rw [Jf4] at hn
      refine Qap hn ?_
      rintro ex st ⟨rfl,D,rfl⟩
      exact ⟨rfl,q++D,by simp⟩
     cases acc with
     | nil =>
       simp only [nl4] at fin ⊢
       refine wW ?_
       repeat (first|apply wA|apply wS|refine wr (by simp [hj2,hx2,w1,e1];with_reducible rfl) ?_|refine wq (by simp [hj2,hx2,w1,e1];with_reducible rfl) ?_|refine wt (by simpa [hj2,hx2,w1,e1]) ?_|refine wf (by simpa [hj2,hx2,w1,e1]) ?_|refine xt (by simpa [hj2,hx2,w1,e1]) ?_|refine xf (by simpa [hj2,hx2,w1,e1]) ?_|apply wB|apply Qaa|refine wX ?_|refine wY ?_|refine wR ?_|refine wK ?_|refine wE ?_)
       exact fin _
     | cons s r =>
       have hT2:List.take (s::r).length (s::r)=s::r:=List.take_of_length_le (Nat.le_refl _)
       simp only [List.length_cons] at hl1 hT2
       generalize hacc:s::r=acc at *
       have hlen:r.length+1=acc.length:=by rw [← hacc];rfl
       rw [hlen] at hl1 hT2
       have hnl:nl4 acc=O4 acc:=by rw [← hacc];rfl
       rw [hnl] at *
       refine wW ?_
       repeat (first|apply wA|apply wS|refine wr (by simp [hj2,hx2,w1,e1,hl1,hT2];with_reducible rfl) ?_|refine wq (by simp [hj2,hx2,w1,e1,hl1,hT2];with_reducible rfl) ?_|refine wt (by simpa [hj2,hx2,w1,e1,hl1,hT2]) ?_|refine wf (by simpa [hj2,hx2,w1,e1,hl1,hT2]) ?_|refine xt (by simpa [hj2,hx2,w1,e1,hl1,hT2]) ?_|refine xf (by simpa [hj2,hx2,w1,e1,hl1,hT2]) ?_|apply wB|apply Qaa|refine wX ?_|refine wY ?_|refine wR ?_|refine wK ?_|refine wE ?_)
       exact fin _
set_option maxHeartbeats 4000000 in
theorem Jol (n:Nat) (es:List (Int×Int)) (c:Bool) (hv:Qad n es=true) (kb N i:Nat) (e:Int×Int) (zs:List (Int×Int)) (c2:Bool) (hz:zs.length≤100):∀ (m k:Nat) (acc:List Q4) (B:Qal),k+m=zs.length→acc.length+2 * m≤3000000→B[kb]? = some [I e.1,I e.2] →
 wp tb (.loop Qos) { T:=[(1,.bptr 0 0 0),(3,nl4 acc),(5,.bptr 0 (kb+1) 0),(13,L2 es c),(14,I N),(15,I i),(24,L2 zs c2),(25,I zs.length),(26,I k)],loc:=[I n,L2 es c]::B,M:=[] }
  (fun ex st=>ex=.exit 2∧∃ D,st={ T:=[(1,.bptr 0 0 0),(3,nl4 (acc++(zs.drop k).flatMap fun f=>[(e.1,e.2,f.1,f.2),(e.1,e.2,f.2,f.1)].filter (Qsx es))),(5,.bptr 0 (kb+1) 0),(13,L2 es c),(14,I N),(15,I i),(24,L2 zs c2),(25,I zs.length),(26,I zs.length),(27,Bo false)],loc:=[I n,L2 es c]::(B++D),M:=[] }):=by
 intro m
 induction m with
 | zero =>
   intro k acc B hk ha hB
   have h3:k=zs.length:=hk
   subst h3
   rw [List.drop_length,List.flatMap_nil,List.append_nil]
   cases acc with
   | nil =>
     simp only [nl4]
     refine wW ?_
     repeat (first|apply wA|apply wS|refine wr (by simp;with_reducible rfl) ?_|refine wq (by simp;with_reducible rfl) ?_|refine wt (by simpa) ?_|refine wf (by simpa) ?_|refine xt (by simpa) ?_|refine xf (by simpa) ?_|apply wB|apply Qaa|refine wX ?_|refine wY ?_|refine wR ?_|refine wK ?_|refine wE ?_)
     exact ⟨rfl,[],by simp⟩
   | cons s r =>
     simp only [nl4]
     refine wW ?_
     repeat (first|apply wA|apply wS|refine wr (by simp;with_reducible rfl) ?_|refine wq (by simp;with_reducible rfl) ?_|refine wt (by simpa) ?_|refine wf (by simpa) ?_|refine xt (by simpa) ?_|refine xf (by simpa) ?_|apply wB|apply Qaa|refine wX ?_|refine wY ?_|refine wR ?_|refine wK ?_|refine wE ?_)
     exact ⟨rfl,[],by simp⟩
 | succ m ih =>
   intro k acc B hk ha hB
   have hk2:k < zs.length:=by omega
   have hd:zs.drop k=zs[k]::zs.drop (k+1):=List.drop_eq_getElem_cons hk2
   obtain ⟨⟨x,y⟩,hx⟩:∃ s,s=zs[k]:=⟨_,rfl⟩
   have hx2:=hx.symm
   obtain ⟨a,b⟩:=e
   have w1:IntKind.i64.wrap ((k:Int)+1)=((k+1:Nat):Int):=Qbp (by omega)
   have hkB:kb < B.length:=(List.getElem?_eq_some_iff.1 hB).1
   have hB2:∀ q,(B++q)[kb]? = some [I a,I b]:=fun q=>by rw [List.getElem?_append_left hkB,hB]
   have hF:([(a,b,x,y),(a,b,y,x)].filter (Qsx es)).length≤2:=List.length_filter_le _ _
   have inner:=fun q=>Jxp n es c hv (kb+1) N i k zs c2 [(a,b,x,y),(a,b,y,x)] (by simp) 2 0 acc (B++q) rfl (by omega)
   rw [hd,← hx,List.flatMap_cons]
   simp only [List.drop_zero] at inner
   have hn:=fun D=>ih (k+1) (acc++[(a,b,x,y),(a,b,y,x)].filter (Qsx es)) (B++D) (by omega) (by rw [List.length_append];omega) (hB2 D)
   generalize [(a,b,x,y),(a,b,y,x)].filter (Qsx es)=F at *
   have fin:∀ D:Qal,wp tb (.loop Qos) { T:=[(1,.bptr 0 0 0),(3,nl4 (acc++F)),(5,.bptr 0 (kb+1) 0),(13,L2 es c),(14,I N),(15,I i),(24,L2 zs c2),(25,I zs.length),(26,I (k+1:Nat))],loc:=[I n,L2 es c]::(B++D),M:=[] }
    (fun ex st=>ex=.exit 2∧∃ D,st={ T:=[(1,.bptr 0 0 0),(3,nl4 (acc++(F++(zs.drop (k+1)).flatMap fun f=>[(a,b,f.1,f.2),(a,b,f.2,f.1)].filter (Qsx es)))),(5,.bptr 0 (kb+1) 0),(13,L2 es c),(14,I N),(15,I i),(24,L2 zs c2),(25,I zs.length),(26,I zs.length),(27,Bo false)],loc:=[I n,L2 es c]::(B++D),M:=[] }):=fun D=>by
    refine Qap (hn D) ?_
    rintro ex st ⟨rfl,D',rfl⟩
    exact ⟨rfl,D++D',by simp⟩
   simp only [O4,sws,List.map_cons,List.map_nil,List.length_cons,List.length_nil,Nat.zero_add,Nat.reduceAdd,show ((2:Nat):Int)=2 from rfl,show ((0:Nat):Int)=0 from rfl] at inner
   have back:∀ G:List Q4,nl4 G=Z∧G=[] ∨ nl4 G=O4 G:=fun G=>by cases G <;> simp [nl4]
   rcases back acc with ⟨hb,-⟩ | hb
   · rw [hb] at inner ⊢
     refine wW ?_
     repeat (first|apply wA|apply wS|refine wr (by simp [hk2,hx2,hB,hB2];with_reducible rfl) ?_|refine wq (by simp [hk2,hx2,hB,hB2];with_reducible rfl) ?_|refine wt (by simpa [hk2,hx2,hB,hB2]) ?_|refine wf (by simpa [hk2,hx2,hB,hB2]) ?_|refine xt (by simpa [hk2,hx2,hB,hB2]) ?_|refine xf (by simpa [hk2,hx2,hB,hB2]) ?_|apply wB|apply Qaa|refine wX ?_|refine wY ?_|refine wR ?_|refine wK ?_|refine wE ?_)
     refine Qap (inner _) ?_
     rintro ex st ⟨rfl,D,rfl⟩
     simp only [if_true]
     rw [List.append_assoc]
     rcases back (acc++F) with ⟨h,-⟩ | h
     · rw [h] at fin ⊢
       repeat (first|apply wA|apply wS|refine wr (by simp [w1];with_reducible rfl) ?_|refine wq (by simp [w1];with_reducible rfl) ?_|refine wt (by simpa [w1]) ?_|refine wf (by simpa [w1]) ?_|refine xt (by simpa [w1]) ?_|refine xf (by simpa [w1]) ?_|apply wB|apply Qaa|refine wX ?_|refine wY ?_|refine wR ?_|refine wK ?_|refine wE ?_)
       exact fin _
     · rw [h] at fin ⊢
       repeat (first|apply wA|apply wS|refine wr (by simp [w1];with_reducible rfl) ?_|refine wq (by simp [w1];with_reducible rfl) ?_|refine wt (by simpa [w1]) ?_|refine wf (by simpa [w1]) ?_|refine xt (by simpa [w1]) ?_|refine xf (by simpa [w1]) ?_|apply wB|apply Qaa|refine wX ?_|refine wY ?_|refine wR ?_|refine wK ?_|refine wE ?_)
       exact fin _
   · rw [hb] at inner ⊢
     refine wW ?_
     repeat (first|apply wA|apply wS|refine wr (by simp [hk2,hx2,hB,hB2];with_reducible rfl) ?_|refine wq (by simp [hk2,hx2,hB,hB2];with_reducible rfl) ?_|refine wt (by simpa [hk2,hx2,hB,hB2]) ?_|refine wf (by simpa [hk2,hx2,hB,hB2]) ?_|refine xt (by simpa [hk2,hx2,hB,hB2]) ?_|refine xf (by simpa [hk2,hx2,hB,hB2]) ?_|apply wB|apply Qaa|refine wX ?_|refine wY ?_|refine wR ?_|refine wK ?_|refine wE ?_)
     refine Qap (inner _) ?_
     rintro ex st ⟨rfl,D,rfl⟩
     simp only [if_true]
     rw [List.append_assoc]
     rcases back (acc++F) with ⟨h,-⟩ | h
     · rw [h] at fin ⊢
       repeat (first|apply wA|apply wS|refine wr (by simp [w1];with_reducible rfl) ?_|refine wq (by simp [w1];with_reducible rfl) ?_|refine wt (by simpa [w1]) ?_|refine wf (by simpa [w1]) ?_|refine xt (by simpa [w1]) ?_|refine xf (by simpa [w1]) ?_|apply wB|apply Qaa|refine wX ?_|refine wY ?_|refine wR ?_|refine wK ?_|refine wE ?_)
       exact fin _
     · rw [h] at fin ⊢
       repeat (first|apply wA|apply wS|refine wr (by simp [w1];with_reducible rfl) ?_|refine wq (by simp [w1];with_reducible rfl) ?_|refine wt (by simpa [w1]) ?_|refine wf (by simpa [w1]) ?_|refine xt (by simpa [w1]) ?_|refine xf (by simpa [w1]) ?_|apply wB|apply Qaa|refine wX ?_|refine wY ?_|refine wR ?_|refine wK ?_|refine wE ?_)
       exact fin _
theorem Qw8 {n:Nat} {es:List (Int×Int)} (hv:Qad n es=true) (e f:Int×Int):[(e.1,e.2,f.1,f.2),(e.1,e.2,f.2,f.1)].filter (Qsx es)=Qmq es e f:=by
 simp only [Qmq,Qty hv,List.filter_cons,List.filter_nil,Qsx]
 split <;> split <;> simp_all
theorem Qzm {n:Nat} {es:List (Int×Int)} (hv:Qad n es=true) (e:Int×Int) (zs:List (Int×Int)):(zs.flatMap fun f=>[(e.1,e.2,f.1,f.2),(e.1,e.2,f.2,f.1)].filter (Qsx es))=zs.flatMap (Qmq es e):=by
 congr 1
 funext f
 exact Qw8 hv e f
set_option maxHeartbeats 4000000 in
theorem Jui (n:Nat) (es:List (Int×Int)) (c:Bool) (hv:Qad n es=true):∀ (m i:Nat) (acc:List Q4) (B:Qal),i+m=es.length→acc.length+200 * m≤2000000 →
 wp tb (.loop Qxu) { T:=[(1,.bptr 0 0 0),(3,nl4 acc),(13,L2 es c),(14,I es.length),(15,I i)],loc:=[I n,L2 es c]::B,M:=[] }
  (fun ex st=>ex=.exit 0∧∃ D,st={ T:=[(1,.bptr 0 0 0),(3,nl4 (acc++swl es (es.drop i))),(13,L2 es c),(14,I es.length),(15,I es.length),(16,Bo false)],loc:=[I n,L2 es c]::D,M:=[] }):=by
 have hn7:=(Qa2.1 hv).2.2
 have h21:=Qmt hn7 hv
 have back:∀ G:List Q4,nl4 G=Z∧G=[] ∨ nl4 G=O4 G:=fun G=>by cases G <;> simp [nl4]
 intro m
 induction m with
 | zero =>
   intro i acc B hi ha
   have h3:i=es.length:=hi
   subst h3
   rw [List.drop_length,swl,List.append_nil]
   rcases back acc with ⟨h,-⟩ | h
   · rw [h]
     refine wW ?_
     repeat (first|apply wA|apply wS|refine wr (by simp;with_reducible rfl) ?_|refine wq (by simp;with_reducible rfl) ?_|refine wt (by simpa) ?_|refine wf (by simpa) ?_|refine xt (by simpa) ?_|refine xf (by simpa) ?_|apply wB|apply Qaa|refine wX ?_|refine wY ?_|refine wR ?_|refine wK ?_|refine wE ?_)
     exact ⟨rfl,_,rfl⟩
   · rw [h]
     refine wW ?_
     repeat (first|apply wA|apply wS|refine wr (by simp;with_reducible rfl) ?_|refine wq (by simp;with_reducible rfl) ?_|refine wt (by simpa) ?_|refine wf (by simpa) ?_|refine xt (by simpa) ?_|refine xf (by simpa) ?_|apply wB|apply Qaa|refine wX ?_|refine wY ?_|refine wR ?_|refine wK ?_|refine wE ?_)
     exact ⟨rfl,_,rfl⟩
 | succ m ih =>
   intro i acc B hi ha
   have hi2:i < es.length:=by omega
   have hd:es.drop i=es[i]::es.drop (i+1):=List.drop_eq_getElem_cons hi2
   obtain ⟨⟨a,b⟩,hx⟩:∃ s,s=es[i]:=⟨_,rfl⟩
   have hx2:=hx.symm
   have w1:IntKind.i64.wrap ((i:Int)+1)=((i+1:Nat):Int):=Qbp (by omega)
   have hzl:(es.drop (i+1)).length=es.length - (i+1):=List.length_drop
   have hrl:=Qgr es (a,b) (es.drop (i+1))
   have mid:=fun c2=>Jol n es c hv (B.length) es.length i (a,b) (es.drop (i+1)) c2 (by omega) (es.drop (i+1)).length 0 acc (B++[[I a,I b]]) (by omega) (by omega) (by simp)
   have fr:=Qzm hv (a,b) (es.drop (i+1))
   simp only at fr
   simp only [List.drop_zero,fr,show ((0:Nat):Int)=0 from rfl] at mid
   rw [hd,← hx,swl]
   have hn:=fun D=>ih (i+1) (acc++(es.drop (i+1)).flatMap (Qmq es (a,b))) D (by omega) (by rw [List.length_append];omega)
   generalize (es.drop (i+1)).flatMap (Qmq es (a,b))=F at *
   simp only [List.append_assoc] at hn
   rw [hzl] at mid
   have hi3:i+1≤es.length:=by omega
   have hcast:((es.length - (i+1):Nat):Int)=(es.length:Int) - ((i:Int)+1):=by omega
   have htk:(es.drop (i+1)).take (es.length - (i+1))=es.drop (i+1):=List.take_of_length_le (by omega)
   rcases back acc with ⟨hb,-⟩ | hb
   · rw [hb] at mid ⊢
     refine wW ?_
     repeat (first|apply wA|apply wS|refine wr (by simp [hi2,hx2,w1,hi3,htk];with_reducible rfl) ?_|refine wq (by simp [hi2,hx2,w1,hi3,htk];with_reducible rfl) ?_|refine wt (by simpa [hi2,hx2,w1,hi3,htk]) ?_|refine wf (by simpa [hi2,hx2,w1,hi3,htk]) ?_|refine xt (by simpa [hi2,hx2,w1,hi3,htk]) ?_|refine xf (by simpa [hi2,hx2,w1,hi3,htk]) ?_|apply wB|apply Qaa|refine wX ?_|refine wY ?_|refine wR ?_|refine wK ?_|refine wE ?_)
     refine Qap (mid _) ?_
     rintro ex st ⟨rfl,D,rfl⟩
     simp only [if_true]
     rcases back (acc++F) with ⟨h,-⟩ | h
     · rw [h] at hn ⊢
       repeat (first|apply wA|apply wS|refine wr (by simp [w1];with_reducible rfl) ?_|refine wq (by simp [w1];with_reducible rfl) ?_|refine wt (by simpa [w1]) ?_|refine wf (by simpa [w1]) ?_|refine xt (by simpa [w1]) ?_|refine xf (by simpa [w1]) ?_|apply wB|apply Qaa|refine wX ?_|refine wY ?_|refine wR ?_|refine wK ?_|refine wE ?_)
       exact hn _
     · rw [h] at hn ⊢
       repeat (first|apply wA|apply wS|refine wr (by simp [w1];with_reducible rfl) ?_|refine wq (by simp [w1];with_reducible rfl) ?_|refine wt (by simpa [w1]) ?_|refine wf (by simpa [w1]) ?_|refine xt (by simpa [w1]) ?_|refine xf (by simpa [w1]) ?_|apply wB|apply Qaa|refine wX ?_|refine wY ?_|refine wR ?_|refine wK ?_|refine wE ?_)
       exact hn _
   · rw [hb] at mid ⊢
     refine wW ?_
     repeat (first|apply wA|apply wS|refine wr (by simp [hi2,hx2,w1,hi3,htk];with_reducible rfl) ?_|refine wq (by simp [hi2,hx2,w1,hi3,htk];with_reducible rfl) ?_|refine wt (by simpa [hi2,hx2,w1,hi3,htk]) ?_|refine wf (by simpa [hi2,hx2,w1,hi3,htk]) ?_|refine xt (by simpa [hi2,hx2,w1,hi3,htk]) ?_|refine xf (by simpa [hi2,hx2,w1,hi3,htk]) ?_|apply wB|apply Qaa|refine wX ?_|refine wY ?_|refine wR ?_|refine wK ?_|refine wE ?_)
     refine Qap (mid _) ?_
     rintro ex st ⟨rfl,D,rfl⟩
     simp only [if_true]
     rcases back (acc++F) with ⟨h,-⟩ | h
     · rw [h] at hn ⊢
       repeat (first|apply wA|apply wS|refine wr (by simp [w1];with_reducible rfl) ?_|refine wq (by simp [w1];with_reducible rfl) ?_|refine wt (by simpa [w1]) ?_|refine wf (by simpa [w1]) ?_|refine xt (by simpa [w1]) ?_|refine xf (by simpa [w1]) ?_|apply wB|apply Qaa|refine wX ?_|refine wY ?_|refine wR ?_|refine wK ?_|refine wE ?_)
       exact hn _
     · rw [h] at hn ⊢
       repeat (first|apply wA|apply wS|refine wr (by simp [w1];with_reducible rfl) ?_|refine wq (by simp [w1];with_reducible rfl) ?_|refine wt (by simpa [w1]) ?_|refine wf (by simpa [w1]) ?_|refine xt (by simpa [w1]) ?_|refine xf (by simpa [w1]) ?_|apply wB|apply Qaa|refine wX ?_|refine wY ?_|refine wR ?_|refine wK ?_|refine wE ?_)
       exact hn _
theorem Jcl (xs:List Q4):Ev tb Qph [] [nl4 xs] [] ⟨nl4 xs,[],[],[]⟩:=by
 cases xs with
 | nil =>
   simp only [nl4]
   refine cW Ji8 rfl ?_
   repeat (first|apply wA|apply wS|refine wr (by simp;with_reducible rfl) ?_|refine wq (by simp;with_reducible rfl) ?_|refine wt (by simpa) ?_|refine wf (by simpa) ?_|refine xt (by simpa) ?_|refine xf (by simpa) ?_|apply wB|apply Qaa|refine wX ?_|refine wY ?_|refine wR ?_|refine wK ?_|refine wE ?_)
   simp [Qs3]
 | cons s r =>
   simp only [nl4]
   refine cW Ji8 rfl ?_
   repeat (first|apply wA|apply wS|refine wr (by simp;with_reducible rfl) ?_|refine wq (by simp;with_reducible rfl) ?_|refine wt (by simpa) ?_|refine wf (by simpa) ?_|refine xt (by simpa) ?_|refine xf (by simpa) ?_|apply wB|apply Qaa|refine wX ?_|refine wY ?_|refine wR ?_|refine wK ?_|refine wE ?_)
   simp [Qs3]
theorem Qht (n:Nat) (es:List (Int×Int)) (c:Bool) (hv:Qad n es=true) :
 Ev tb Qvz [] [Gr n es c] [] ⟨nl4 (swl es es),[],[],[]⟩:=by
 have hn7:=(Qa2.1 hv).2.2
 have h21:=Qmt hn7 hv
 have loop:=Jui n es c hv es.length 0 [] [] (by omega) (by simp;omega)
 rw [show ((0:Nat):Int)=0 from rfl,List.drop_zero,List.nil_append,show nl4 []=Z from rfl] at loop
 have e1:=Qab (Jcl (swl es es))
 generalize swl es es=G at *
 cases G with
 | nil =>
   simp only [nl4] at loop e1 ⊢
   refine cW Jrr rfl ?_
   repeat (first|apply wA|apply wS|refine wr (by simp;with_reducible rfl) ?_|refine wq (by simp;with_reducible rfl) ?_|refine wt (by simpa) ?_|refine wf (by simpa) ?_|refine xt (by simpa) ?_|refine xf (by simpa) ?_|apply wB|apply Qaa|refine wX ?_|refine wY ?_|refine wR ?_|refine wK ?_|refine wE ?_)
   refine Qap loop ?_
   rintro ex st ⟨rfl,D,rfl⟩
   simp only [if_true]
   repeat (first|apply wA|apply wS|refine wr (by simp [e1];with_reducible rfl) ?_|refine wq (by simp [e1];with_reducible rfl) ?_|refine wt (by simpa [e1]) ?_|refine wf (by simpa [e1]) ?_|refine xt (by simpa [e1]) ?_|refine xf (by simpa [e1]) ?_|apply wB|apply Qaa|refine wX ?_|refine wY ?_|refine wR ?_|refine wK ?_|refine wE ?_)
   simp [Qvn]
 | cons s r =>
   simp only [nl4] at loop e1 ⊢
   refine cW Jrr rfl ?_
   repeat (first|apply wA|apply wS|refine wr (by simp;with_reducible rfl) ?_|refine wq (by simp;with_reducible rfl) ?_|refine wt (by simpa) ?_|refine wf (by simpa) ?_|refine xt (by simpa) ?_|refine xf (by simpa) ?_|apply wB|apply Qaa|refine wX ?_|refine wY ?_|refine wR ?_|refine wK ?_|refine wE ?_)
   refine Qap loop ?_
   rintro ex st ⟨rfl,D,rfl⟩
   simp only [if_true]
   repeat (first|apply wA|apply wS|refine wr (by simp [e1];with_reducible rfl) ?_|refine wq (by simp [e1];with_reducible rfl) ?_|refine wt (by simpa [e1]) ?_|refine wf (by simpa [e1]) ?_|refine xt (by simpa [e1]) ?_|refine xf (by simpa [e1]) ?_|apply wB|apply Qaa|refine wX ?_|refine wY ?_|refine wR ?_|refine wK ?_|refine wE ?_)
   simp [Qvn]
end Go.Idl
namespace Go.Idl
open Go
@[simp] theorem Jzx (n:Int) (R:GF) (i:Nat) (h:i < (glf n R).length):(glf n R)[i]=[IV.sc (.int .i64 n),.lst 2 (eds (R[i]'(by simpa [glf] using h)).1) (R[i]'(by simpa [glf] using h)).2]:=by simp [glf]
@[simp] theorem glf_get? (n:Int) (R:GF) (i:Nat):(glf n R)[i]? = R[i]?.map fun x=>[IV.sc (.int .i64 n),.lst 2 (eds x.1) x.2]:=by simp [glf]
@[simp] theorem Jv6 (n:Int) (R:GF):Qcc (glf n R)=glf n R:=by
  induction R with
  | nil=>rfl
  | cons x xs ih=>simp only [glf,List.map_cons,Qcc,Qcx,Qge] at *;rw [ih]
@[simp] theorem Jze (n:Int) (gl:List (List (Int×Int))):Qcc (gls n gl)=glf n (gl.map fun es=>(es,false)):=by
  induction gl with
  | nil=>rfl
  | cons x xs ih=>simp only [gls,glf,List.map_cons,Qcc,Qcx,Qge,Qvj] at *;rw [ih]
end Go.Idl
namespace Go.Idl
theorem Qrb {n:Nat} {s:List (Int×Int)} (hs:s.Sublist (prs n)) {d:List Int} (hl:d.length=n):(∀ v,v < n→deg s v=d.getD v 0) ↔ Qew n s=d:=by
 rw [Qhn (Jpf hs)]
 constructor
 · intro h
   refine List.ext_getElem (by simp [hl]) fun v h1 h2=>?_
   rw [List.getElem_map,List.getElem_range,h v (by omega),List.getD_eq_getElem?_getD,List.getElem?_eq_getElem h2];rfl
 · intro h v hv
   rw [← h,List.getD_eq_getElem?_getD,List.getElem?_map,List.getElem?_range hv];rfl
theorem Qym {d:List Int} (h7:d.length≤7) (g:List (Int×Int)):g ∈ Jbt d ↔ Qad d.length g=true∧Qew d.length g=d:=by
 rw [Jbt,Qg2 (N:=d.length) _ _ _ _ (fun e he=>Qa1.1 he) rfl]
 constructor
 · rintro ⟨s,hs,rfl,hd⟩
   exact ⟨Qa2.2 ⟨(Jcv _).sublist hs,fun e he=>hs.mem he,h7⟩,(Qrb hs rfl).1 hd⟩
 · rintro ⟨h1,h2⟩
   exact ⟨g,Qqr h1,rfl,(Qrb (Qqr h1) rfl).2 h2⟩
end Go.Idl
namespace Go.Idl
def hv:Nat→List Int→Bool
 | 0,_=>true
 | _+1,[]=>true
 | m+1,x::r=>decide (x≤r.length) && (r.take x.toNat).all (fun y=>!decide (y=0)) && hv m (fall ((r.take x.toNat).map (fun y=>y - 1)++r.drop x.toNat))
end Go.Idl
namespace Go.Idl
theorem Qt6 {α:Type} [DecidableEq α]:∀ {l k:List α},l.Nodup→(∀ x ∈ l,x ∈ k)→l.length≤k.length
 | [],_,_,_=>by simp
 | a::l,k,hn,hs=>by
   have hn':=List.nodup_cons.1 hn
   have h1:=Qt6 (l:=l) (k:=k.erase a) hn'.2 (fun x hx=>(List.mem_erase_of_ne (fun h=>hn'.1 (by rw [← h];exact hx))).2 (hs x (by simp [hx])))
   have h2:=List.length_erase_of_mem (hs a (by simp))
   have h3:0 < k.length:=List.length_pos_of_mem (hs a (by simp))
   simp only [List.length_cons];omega
end Go.Idl
namespace Go.Idl
theorem Qrf {es:List (Int×Int)} {e f:Int×Int} {s:Q4}:s ∈ Qmq es e f ↔ Qpb es s.1 s.2.1 s.2.2.1 s.2.2.2=true∧(s=(e.1,e.2,f.1,f.2) ∨ s=(e.1,e.2,f.2,f.1)):=by
 rw [Qmq,List.mem_append]
 constructor
 · rintro (h | h)
   · split at h
     · rename_i hq
       rw [List.mem_singleton] at h
       subst h
       exact ⟨hq,.inl rfl⟩
     · cases h
   · split at h
     · rename_i hq
       rw [List.mem_singleton] at h
       subst h
       exact ⟨hq,.inr rfl⟩
     · cases h
 · rintro ⟨h,rfl | rfl⟩
   · left;rw [if_pos h];simp
   · right;rw [if_pos h];simp
theorem Qo4 {es:List (Int×Int)} {s:Q4}:∀ {r:List (Int×Int)},s ∈ swl es r ↔ ∃ e f,[e,f].Sublist r∧s ∈ Qmq es e f
 | []=>by
   rw [swl]
   constructor
   · intro h;cases h
   · rintro ⟨e,f,h,-⟩;cases h
 | x::r=>by
   rw [swl,List.mem_append,List.mem_flatMap,Qo4]
   constructor
   · rintro (⟨f,hf,h⟩ | ⟨e,f,h1,h2⟩)
     · exact ⟨x,f,(List.singleton_sublist.2 hf).cons₂ x,h⟩
     · exact ⟨e,f,h1.cons x,h2⟩
   · rintro ⟨e,f,h1,h2⟩
     rcases List.sublist_cons_iff.1 h1 with h | ⟨t,ht,h⟩
     · exact .inr ⟨e,f,h,h2⟩
     · cases ht
       exact .inl ⟨f,List.singleton_sublist.1 h,h2⟩
structure SwIn (n:Nat) (es:List (Int×Int)) (s:Q4):Prop where
 may:Qdm es s.1 s.2.1 s.2.2.1 s.2.2.2=true
 lt:s.1 < s.2.1
 bel:Qam (s.1,s.2.1) (min s.2.2.1 s.2.2.2,max s.2.2.1 s.2.2.2)=true
theorem Qqk {n:Nat} {es:List (Int×Int)} (h:Qad n es=true) {s:Q4} (hs:s ∈ swl es es):SwIn n es s:=by
 obtain ⟨e,f,h1,h2⟩:=Qo4.1 hs
 obtain ⟨h3,h4⟩:=Qrf.1 h2
 have hv:=Qa2.1 h
 have hp:PW [e,f]:=hv.1.sublist h1
 have he:=Qa1.1 (hv.2.1 e (h1.subset (by simp)))
 have hf:=Qa1.1 (hv.2.1 f (h1.subset (by simp)))
 have hb:Qam e f=true:=(List.pairwise_cons.1 hp).1 f (by simp)
 rw [Qty h] at h3
 rcases h4 with rfl | rfl
 · refine ⟨h3,by simp only;omega,?_⟩
   simp only
   rw [show min f.1 f.2=f.1 by omega,show max f.1 f.2=f.2 by omega]
   exact hb
 · refine ⟨h3,by simp only;omega,?_⟩
   simp only
   rw [show min f.2 f.1=f.1 by omega,show max f.2 f.1=f.2 by omega]
   exact hb
theorem Qqw {es:List (Int×Int)} {a b c d:Int} (h:Qdm es a b c d=true):Qdm es b a d c=true:=by
 obtain ⟨⟨n1,n2,n3,n4,n5,n6⟩,i1,i2,i3,i4⟩:=Qbz.1 h
 exact Qbz.2 ⟨by omega,by rw [Int.min_comm,Int.max_comm];exact i1,by rw [Int.min_comm,Int.max_comm];exact i2,i4,i3⟩
theorem Qrm {es:List (Int×Int)} {a b c d:Int} (h:Qdm es a b c d=true):Qdm es c d a b=true:=by
 obtain ⟨⟨n1,n2,n3,n4,n5,n6⟩,i1,i2,i3,i4⟩:=Qbz.1 h
 exact Qbz.2 ⟨by omega,i2,i1,by rw [Int.min_comm,Int.max_comm];exact i3,by rw [Int.min_comm,Int.max_comm];exact i4⟩
theorem Qqu {e f:Int×Int}:∀ {r:List (Int×Int)},PW r→e ∈ r→f ∈ r→Qam e f=true→[e,f].Sublist r
 | x::r,hp,he,hf,h=>by
   have hp':=List.pairwise_cons.1 hp
   rcases List.mem_cons.1 he with he1 | he1
   · rcases List.mem_cons.1 hf with hf1 | hf1
     · exact absurd (he1.trans hf1.symm) (Qgw h)
     · rw [he1];exact (List.singleton_sublist.2 hf1).cons₂ _
   · rcases List.mem_cons.1 hf with hf1 | hf1
     · have:=Qeo (hp'.1 e he1);rw [← hf1,h] at this;cases this
     · exact (Qqu hp'.2 he1 hf1 h).cons x
end Go.Idl
namespace Go.Idl
open Go
@[simp] theorem Jjt (xs:List Q4) (c:Bool):Qge (IV.lst 4 (sws xs) c)=.lst 4 (sws xs) c:=rfl
end Go.Idl
namespace Go.Idl
open Go
@[simp] theorem Jx2 (p:IV→Bool) (x:IV) (xs:List IV):(x::xs).findIdx? p=if p x then some 0 else (xs.findIdx? p).map (·+1):=List.findIdx?_cons
@[simp] theorem Jxh (n:Nat):List.replicate n [IV.sc (.int .i64 0),IV.sc (.int .i64 0)]=eds (List.replicate n (0,0)):=by simp [eds]
theorem Qwx (a b:Int):Ev tb Jnh [] [.agg [I a,I b]] [] ⟨.agg [I a,I b],[],[],[]⟩:=by
 refine cW zt62 rfl ?_
 repeat (first|apply wA|apply wS|refine wr (by simp;with_reducible rfl) ?_|refine wq (by simp;with_reducible rfl) ?_|refine wt (by simpa) ?_|refine wf (by simpa) ?_|refine xt (by simpa) ?_|refine xf (by simpa) ?_|apply wB|apply Qaa|refine wX ?_|refine wY ?_|refine wR ?_|refine wK ?_|refine wE ?_)
 simp [Ju0]
theorem Ja1 (a:List (Int×Int)) (c:Bool) (hl:a.length≤2000000):∀ (m i:Nat) (A:List (Int×Int)),i+m=a.length→A.length=a.length→A.take i=a.take i →
 wp tb (.loop Jto) { T:=[(0,L2 a c),(3,O2 A),(4,I i)],loc:=[],M:=[] }
  (fun ex st=>ex=.exit 0∧st={ T:=[(0,L2 a c),(3,O2 a),(4,I a.length),(11,Bo false)],loc:=[],M:=[] }):=by
 intro m
 induction m with
 | zero =>
   intro i A hi hA ht
   have h3:i=a.length:=hi
   subst h3
   rw [List.take_of_length_le (by omega),List.take_of_length_le (by omega)] at ht
   rw [ht]
   refine wW ?_
   repeat (first|apply wA|apply wS|refine wr (by simp;with_reducible rfl) ?_|refine wq (by simp;with_reducible rfl) ?_|refine wt (by simpa) ?_|refine wf (by simpa) ?_|refine xt (by simpa) ?_|refine xf (by simpa) ?_|apply wB|apply Qaa|refine wX ?_|refine wY ?_|refine wR ?_|refine wK ?_|refine wE ?_)
   exact ⟨rfl,rfl⟩
 | succ m ih =>
   intro i A hi hA ht
   have hi2:i < a.length:=by omega
   have hi3:i < A.length:=by omega
   have w2:IntKind.i64.wrap ((i:Int)+1)=((i+1:Nat):Int):=Qbp (by omega)
   have hg:=ih (i+1) (A.set i a[i]) (by omega) (by simpa using hA) (by
    rw [List.take_succ_eq_append_getElem (by simpa using hi3),List.take_succ_eq_append_getElem hi2,List.take_set_of_le (Nat.le_refl _),ht];simp)
   obtain ⟨⟨p,q⟩,hx⟩:∃ x,x=a[i]:=⟨_,rfl⟩
   have hx:=hx.symm
   rw [hx] at hg
   have e1:=Qab (Qwx p q)
   refine wW ?_
   repeat (first|apply wA|apply wS|refine wr (by simp [hi2,hi3,w2,hx,e1];with_reducible rfl) ?_|refine wq (by simp [hi2,hi3,w2,hx,e1];with_reducible rfl) ?_|refine wt (by simpa [hi2,hi3,w2,hx,e1]) ?_|refine wf (by simpa [hi2,hi3,w2,hx,e1]) ?_|refine xt (by simpa [hi2,hi3,w2,hx,e1]) ?_|refine xf (by simpa [hi2,hi3,w2,hx,e1]) ?_|apply wB|apply Qaa|refine wX ?_|refine wY ?_|refine wR ?_|refine wK ?_|refine wE ?_)
   exact hg
theorem Qsj (a:List (Int×Int)) (c:Bool) (hl:a.length≤2000000):Ev tb Jlx [] [L2 a c] [] ⟨O2 a,[],[],[]⟩:=by
 have hlo:=Ja1 a c hl a.length 0 (List.replicate a.length (0,0)) (by omega) (by simp) (by simp)
 rw [show ((0:Nat):Int)=0 from rfl] at hlo
 have hl2:a.length≤274877906944:=by omega
 refine cW zt63 rfl ?_
 repeat (first|apply wA|apply wS|refine wr (by simp [hl2];with_reducible rfl) ?_|refine wq (by simp [hl2];with_reducible rfl) ?_|refine wt (by simpa [hl2]) ?_|refine wf (by simpa [hl2]) ?_|refine xt (by simpa [hl2]) ?_|refine xf (by simpa [hl2]) ?_|apply wB|apply Qaa|refine wX ?_|refine wY ?_|refine wR ?_|refine wK ?_|refine wE ?_)
 refine Qap hlo ?_
 rintro ex st ⟨rfl,rfl⟩
 try simp only [if_true]
 repeat (first|apply wA|apply wS|refine wr (by simp;with_reducible rfl) ?_|refine wq (by simp;with_reducible rfl) ?_|refine wt (by simpa) ?_|refine wf (by simpa) ?_|refine xt (by simpa) ?_|refine xf (by simpa) ?_|apply wB|apply Qaa|refine wX ?_|refine wY ?_|refine wR ?_|refine wK ?_|refine wE ?_)
 simp [Ju8]
theorem Qku (n:Int) (a:List (Int×Int)) (c:Bool) (hl:a.length≤2000000):Ev tb Qtj [] [Gr n a c] [] ⟨OG n a,[],[],[]⟩:=by
 have e1:=fun c=>Qab (Qsj a c hl)
 refine cW zt64 rfl ?_
 repeat (first|apply wA|apply wS|refine wr (by simp [e1];with_reducible rfl) ?_|refine wq (by simp [e1];with_reducible rfl) ?_|refine wt (by simpa [e1]) ?_|refine wf (by simpa [e1]) ?_|refine xt (by simpa [e1]) ?_|refine xf (by simpa [e1]) ?_|apply wB|apply Qaa|refine wX ?_|refine wY ?_|refine wR ?_|refine wK ?_|refine wE ?_)
 simp [Jvp]
theorem Qwy (a b:Int):Ev tb Jo7 [] [.agg [I a,I b],.agg [I a,I b]] [] ⟨Bo true,[],[],[]⟩:=by
 refine cW zt48 rfl ?_
 repeat (first|apply wA|apply wS|refine wr (by simp;with_reducible rfl) ?_|refine wq (by simp;with_reducible rfl) ?_|refine wt (by simpa) ?_|refine wf (by simpa) ?_|refine xt (by simpa) ?_|refine xf (by simpa) ?_|apply wB|apply Qaa|refine wX ?_|refine wY ?_|refine wR ?_|refine wK ?_|refine wE ?_)
 simp [Juu]
theorem Qze (a:List (Int×Int)) (c d:Bool) (hl:a.length≤2000000):∀ (m i:Nat),i+m=a.length →
 wp tb (.loop Jqz) { T:=[(0,L2 a c),(1,L2 a d),(5,I i)],loc:=[],M:=[] }
  (fun ex st=>ex=.exit 0∧st={ T:=[(0,L2 a c),(1,L2 a d),(5,I a.length),(14,Bo false)],loc:=[],M:=[] }):=by
 intro m
 induction m with
 | zero =>
   intro i hi
   have h3:i=a.length:=hi
   subst h3
   refine wW ?_
   repeat (first|apply wA|apply wS|refine wr (by simp;with_reducible rfl) ?_|refine wq (by simp;with_reducible rfl) ?_|refine wt (by simpa) ?_|refine wf (by simpa) ?_|refine xt (by simpa) ?_|refine xf (by simpa) ?_|apply wB|apply Qaa|refine wX ?_|refine wY ?_|refine wR ?_|refine wK ?_|refine wE ?_)
   exact ⟨rfl,rfl⟩
 | succ m ih =>
   intro i hi
   have hi2:i < a.length:=by omega
   have w2:IntKind.i64.wrap ((i:Int)+1)=((i+1:Nat):Int):=Qbp (by omega)
   have hg:=ih (i+1) (by omega)
   obtain ⟨⟨p,q⟩,hx⟩:∃ x,x=a[i]:=⟨_,rfl⟩
   have hx:=hx.symm
   have e1:=Qab (Qwy p q)
   refine wW ?_
   repeat (first|apply wA|apply wS|refine wr (by simp [hi2,w2,hx,e1];with_reducible rfl) ?_|refine wq (by simp [hi2,w2,hx,e1];with_reducible rfl) ?_|refine wt (by simpa [hi2,w2,hx,e1]) ?_|refine wf (by simpa [hi2,w2,hx,e1]) ?_|refine xt (by simpa [hi2,w2,hx,e1]) ?_|refine xf (by simpa [hi2,w2,hx,e1]) ?_|apply wB|apply Qaa|refine wX ?_|refine wY ?_|refine wR ?_|refine wK ?_|refine wE ?_)
   exact hg
theorem Qs7 (a:List (Int×Int)) (c d:Bool) (hl:a.length≤2000000):Ev tb Jq7 [] [L2 a c,L2 a d] [] ⟨Bo true,[],[],[]⟩:=by
 have hlo:=Qze a c d hl a.length 0 (by omega)
 rw [show ((0:Nat):Int)=0 from rfl] at hlo
 refine cW zt49 rfl ?_
 repeat (first|apply wA|apply wS|refine wr (by simp;with_reducible rfl) ?_|refine wq (by simp;with_reducible rfl) ?_|refine wt (by simpa) ?_|refine wf (by simpa) ?_|refine xt (by simpa) ?_|refine xf (by simpa) ?_|apply wB|apply Qaa|refine wX ?_|refine wY ?_|refine wR ?_|refine wK ?_|refine wE ?_)
 refine Qap hlo ?_
 rintro ex st ⟨rfl,rfl⟩
 try simp only [if_true]
 repeat (first|apply wA|apply wS|refine wr (by simp;with_reducible rfl) ?_|refine wq (by simp;with_reducible rfl) ?_|refine wt (by simpa) ?_|refine wf (by simpa) ?_|refine xt (by simpa) ?_|refine xf (by simpa) ?_|apply wB|apply Qaa|refine wX ?_|refine wY ?_|refine wR ?_|refine wK ?_|refine wE ?_)
 simp [Jvj]
theorem Qks (n:Int) (a:List (Int×Int)) (c d:Bool) (hl:a.length≤2000000):Ev tb Jj1 [] [Gr n a c,Gr n a d] [] ⟨Bo true,[],[],[]⟩:=by
 have e1:=fun c d=>Qab (Qs7 a c d hl)
 refine cW zt50 rfl ?_
 repeat (first|apply wA|apply wS|refine wr (by simp [e1];with_reducible rfl) ?_|refine wq (by simp [e1];with_reducible rfl) ?_|refine wt (by simpa [e1]) ?_|refine wf (by simpa [e1]) ?_|refine xt (by simpa [e1]) ?_|refine xf (by simpa [e1]) ?_|apply wB|apply Qaa|refine wX ?_|refine wY ?_|refine wR ?_|refine wK ?_|refine wE ?_)
 simp [Jvc]
def Qt2 (k:Int) (n:Nat):List (Int×Int):=(List.range n).map fun i:Nat=>(k+2 * (i:Int),k+2 * (i:Int)+1)
theorem Qd2 (k:Int) (n:Nat):(Qt2 k n).length=n:=by simp [Qt2]
theorem Ja7 (k:Int) (n i:Nat) (h:i < (Qt2 k n).length):(Qt2 k n)[i]=(k+2 * (i:Int),k+2 * (i:Int)+1):=by simp [Qt2]
theorem Jcm (k:Int) (n:Nat) (hn:n≤10000000) (hk:0≤k∧k≤100000000):∀ (m i:Nat) (A:List (Int×Int)),i+m=n→A.length=n→A.take i=(Qt2 k n).take i →
 wp tb (.loop Jkc) { T:=[(0,O2 A),(1,I (k+2 * i)),(5,I i)],loc:=[],M:=[] }
  (fun ex st=>ex=.exit 0∧st={ T:=[(0,O2 (Qt2 k n)),(1,I (k+2 * n)),(5,I n),(9,Bo false)],loc:=[],M:=[] }):=by
 intro m
 induction m with
 | zero =>
   intro i A hi hA ht
   have h3:i=n:=hi
   subst h3
   rw [List.take_of_length_le (by omega),List.take_of_length_le (by rw [Qd2];omega)] at ht
   subst ht
   refine wW ?_
   repeat (first|apply wA|apply wS|refine wr (by simp [Qd2];with_reducible rfl) ?_|refine wq (by simp [Qd2];with_reducible rfl) ?_|refine wt (by simpa [Qd2]) ?_|refine wf (by simpa [Qd2]) ?_|refine xt (by simpa [Qd2]) ?_|refine xf (by simpa [Qd2]) ?_|apply wB|apply Qaa|refine wX ?_|refine wY ?_|refine wR ?_|refine wK ?_|refine wE ?_)
   exact ⟨rfl,rfl⟩
 | succ m ih =>
   intro i A hi hA ht
   have hi2:i < A.length:=by omega
   have w2:IntKind.i64.wrap ((i:Int)+1)=((i+1:Nat):Int):=Qbp (by omega)
   have w3:IntKind.i64.wrap (k+2 * (i:Int)+1)=k+2 * (i:Int)+1:=by rw [Qan (by omega) (by omega)]
   have w4:IntKind.i64.wrap (k+2 * (i:Int)+1+1)=k+2 * ((i+1:Nat):Int):=by rw [Qan (by omega) (by omega)];omega
   have hg:=ih (i+1) (A.set i (k+2 * (i:Int),k+2 * (i:Int)+1)) (by omega) (by simpa using hA) (by
    rw [List.take_succ_eq_append_getElem (by simpa using hi2),List.take_succ_eq_append_getElem (by rw [Qd2];omega),List.take_set_of_le (Nat.le_refl _),ht,Ja7];simp)
   obtain ⟨⟨p,q⟩,hx⟩:∃ x,x=A[i]:=⟨_,rfl⟩
   have hx:=hx.symm
   refine wW ?_
   repeat (first|apply wA|apply wS|refine wr (by simp [hi2,w2,w3,w4,hx];with_reducible rfl) ?_|refine wq (by simp [hi2,w2,w3,w4,hx];with_reducible rfl) ?_|refine wt (by simpa [hi2,w2,w3,w4,hx]) ?_|refine wf (by simpa [hi2,w2,w3,w4,hx]) ?_|refine xt (by simpa [hi2,w2,w3,w4,hx]) ?_|refine xf (by simpa [hi2,w2,w3,w4,hx]) ?_|apply wB|apply Qaa|refine wX ?_|refine wY ?_|refine wR ?_|refine wK ?_|refine wE ?_)
   exact hg
theorem Qmy (a:List (Int×Int)) (k:Int) (hl:a.length≤10000000) (hk:0≤k∧k≤100000000):Ev tb Jkr [0] [O2 a,I k] [] ⟨I (k+2 * a.length),[O2 (Qt2 k a.length)],[],[]⟩:=by
 have hlo:=Jcm k a.length hl hk a.length 0 a (by omega) rfl (by simp)
 rw [show k+2 * ((0:Nat):Int)=k by omega,show ((0:Nat):Int)=0 from rfl] at hlo
 refine cW zt56 rfl ?_
 repeat (first|apply wA|apply wS|refine wr (by simp;with_reducible rfl) ?_|refine wq (by simp;with_reducible rfl) ?_|refine wt (by simpa) ?_|refine wf (by simpa) ?_|refine xt (by simpa) ?_|refine xf (by simpa) ?_|apply wB|apply Qaa|refine wX ?_|refine wY ?_|refine wR ?_|refine wK ?_|refine wE ?_)
 refine Qap hlo ?_
 rintro ex st ⟨rfl,rfl⟩
 try simp only [if_true]
 repeat (first|apply wA|apply wS|refine wr (by simp;with_reducible rfl) ?_|refine wq (by simp;with_reducible rfl) ?_|refine wt (by simpa) ?_|refine wf (by simpa) ?_|refine xt (by simpa) ?_|refine xf (by simpa) ?_|apply wB|apply Qaa|refine wX ?_|refine wY ?_|refine wR ?_|refine wK ?_|refine wE ?_)
 simp [Jvm]
theorem Qii (n:Int) (a:List (Int×Int)) (k:Int) (hl:a.length≤10000000) (hk:0≤k∧k≤100000000):Ev tb Jj2 [0] [OG n a,I k] [] ⟨I (k+2 * a.length),[OG n (Qt2 k a.length)],[],[]⟩:=by
 have e1:=Qab (Qmy a k hl hk)
 have hs:(eds (Qt2 k a.length)).all (·.all IV.isSc)=true:=by
  rw [List.all_eq_true];intro x hx
  obtain ⟨e,_,rfl⟩:=List.mem_map.1 hx
  rfl
 refine cW zt57 rfl ?_
 refine ⟨_,by simp [Jsn,Jrm,e1,hs];with_reducible rfl,?_⟩
 repeat (first|apply wA|apply wS|refine wr (by simp;with_reducible rfl) ?_|refine wq (by simp;with_reducible rfl) ?_|refine wt (by simpa) ?_|refine wf (by simpa) ?_|refine xt (by simpa) ?_|refine xf (by simpa) ?_|apply wB|apply Qaa|refine wX ?_|refine wY ?_|refine wR ?_|refine wK ?_|refine wE ?_)
 simp [Ju7]
end Go.Idl
namespace Go.Idl
open Go
theorem Qgs (n:Int) (es:List (Int×Int)) (c:Bool) (l:Int) (h:(es.length:Int)≤l) (hl:l≤2000000):Ev tb Jed [] [Gr n es c,I l] [] ⟨I (l - es.length),[],[],[]⟩:=by
 have w1:IntKind.i64.wrap (l - (es.length:Int))=l - es.length:=Qan (by omega) (by omega)
 have h0:¬ (l - (es.length:Int) < 0):=by omega
 have e1:∀ c,Qcm tb Jjs [] [L2 es c,I l] []=some ⟨I (l - es.length),[],[],[]⟩:=fun c=>Qab (by
  refine cW zt60 rfl ?_
  repeat (first|apply wA|apply wS|refine wr (by simp [w1,h0];with_reducible rfl) ?_|refine wq (by simp [w1,h0];with_reducible rfl) ?_|refine wt (by simpa [w1,h0]) ?_|refine wf (by simpa [w1,h0]) ?_|refine xt (by simpa [w1,h0]) ?_|refine xf (by simpa [w1,h0]) ?_|apply wB|apply Qaa|refine wX ?_|refine wY ?_|refine wR ?_|refine wK ?_|refine wE ?_)
  simp [Joj])
 refine cW zt61 rfl ?_
 repeat (first|apply wA|apply wS|refine wr (by simp [e1,h0];with_reducible rfl) ?_|refine wq (by simp [e1,h0];with_reducible rfl) ?_|refine wt (by simpa [e1,h0]) ?_|refine wf (by simpa [e1,h0]) ?_|refine xt (by simpa [e1,h0]) ?_|refine xf (by simpa [e1,h0]) ?_|apply wB|apply Qaa|refine wX ?_|refine wY ?_|refine wR ?_|refine wK ?_|refine wE ?_)
 simp [Jqe]
theorem Qgz (n:Int) (es:List (Int×Int)) (c:Bool) (l:Int) (h:l < (es.length:Int)) (hl:0≤l) (hb:es.length < 9223372036854775808):Ev tb Jed [] [Gr n es c,I l] [] ⟨I (-1),[],[],[]⟩:=by
 have w1:IntKind.i64.wrap (l - (es.length:Int))=l - es.length:=Qan (by omega) (by omega)
 have h0:l - (es.length:Int) < 0:=by omega
 have e1:∀ c,Qcm tb Jjs [] [L2 es c,I l] []=some ⟨I (-1),[],[],[]⟩:=fun c=>Qab (by
  refine cW zt60 rfl ?_
  repeat (first|apply wA|apply wS|refine wr (by simp [w1,h0];with_reducible rfl) ?_|refine wq (by simp [w1,h0];with_reducible rfl) ?_|refine wt (by simpa [w1,h0]) ?_|refine wf (by simpa [w1,h0]) ?_|refine xt (by simpa [w1,h0]) ?_|refine xf (by simpa [w1,h0]) ?_|apply wB|apply Qaa|refine wX ?_|refine wY ?_|refine wR ?_|refine wK ?_|refine wE ?_)
  simp [Joj])
 refine cW zt61 rfl ?_
 repeat (first|apply wA|apply wS|refine wr (by simp [e1];with_reducible rfl) ?_|refine wq (by simp [e1];with_reducible rfl) ?_|refine wt (by simpa [e1]) ?_|refine wf (by simpa [e1]) ?_|refine xt (by simpa [e1]) ?_|refine xf (by simpa [e1]) ?_|apply wB|apply Qaa|refine wX ?_|refine wY ?_|refine wR ?_|refine wK ?_|refine wE ?_)
 simp [Jqe]
@[simp] theorem sws_rep (n:Nat):List.replicate n [IV.sc (.int .i64 0),IV.sc (.int .i64 0),IV.sc (.int .i64 0),IV.sc (.int .i64 0)]=sws (List.replicate n (0,0,0,0)):=by simp [sws]
@[simp] theorem Jxs (xs:List Q4) (i:Nat) (a b c d:Int):(sws xs).set i [IV.sc (.int .i64 a),IV.sc (.int .i64 b),IV.sc (.int .i64 c),IV.sc (.int .i64 d)]=sws (xs.set i (a,b,c,d)):=by
  simp [sws,List.map_set]
theorem Qox (a b p q:Int):Ev tb Qw9 [] [.agg [I a,I b,I p,I q],.agg [I a,I b,I p,I q]] [] ⟨Bo true,[],[],[]⟩:=by
 refine cW Jvz rfl ?_
 repeat (first|apply wA|apply wS|refine wr (by simp;with_reducible rfl) ?_|refine wq (by simp;with_reducible rfl) ?_|refine wt (by simpa) ?_|refine wf (by simpa) ?_|refine xt (by simpa) ?_|refine xf (by simpa) ?_|apply wB|apply Qaa|refine wX ?_|refine wY ?_|refine wR ?_|refine wK ?_|refine wE ?_)
 simp [Qz4]
theorem Jaq (a:List Q4) (c d:Bool) (hl:a.length≤2000000):∀ (m i:Nat),i+m=a.length →
 wp tb (.loop Jdl) { T:=[(0,L4 a c),(1,L4 a d),(5,I i)],loc:=[],M:=[] }
  (fun ex st=>ex=.exit 0∧st={ T:=[(0,L4 a c),(1,L4 a d),(5,I a.length),(14,Bo false)],loc:=[],M:=[] }):=by
 intro m
 induction m with
 | zero =>
   intro i hi
   have h3:i=a.length:=hi
   subst h3
   refine wW ?_
   repeat (first|apply wA|apply wS|refine wr (by simp;with_reducible rfl) ?_|refine wq (by simp;with_reducible rfl) ?_|refine wt (by simpa) ?_|refine wf (by simpa) ?_|refine xt (by simpa) ?_|refine xf (by simpa) ?_|apply wB|apply Qaa|refine wX ?_|refine wY ?_|refine wR ?_|refine wK ?_|refine wE ?_)
   exact ⟨rfl,rfl⟩
 | succ m ih =>
   intro i hi
   have hi2:i < a.length:=by omega
   have w2:IntKind.i64.wrap ((i:Int)+1)=((i+1:Nat):Int):=Qbp (by omega)
   have hg:=ih (i+1) (by omega)
   obtain ⟨⟨p,q,r,s⟩,hx⟩:∃ x,x=a[i]:=⟨_,rfl⟩
   have hx:=hx.symm
   have e1:=Qab (Qox p q r s)
   refine wW ?_
   repeat (first|apply wA|apply wS|refine wr (by simp [hi2,w2,hx,e1];with_reducible rfl) ?_|refine wq (by simp [hi2,w2,hx,e1];with_reducible rfl) ?_|refine wt (by simpa [hi2,w2,hx,e1]) ?_|refine wf (by simpa [hi2,w2,hx,e1]) ?_|refine xt (by simpa [hi2,w2,hx,e1]) ?_|refine xf (by simpa [hi2,w2,hx,e1]) ?_|apply wB|apply Qaa|refine wX ?_|refine wY ?_|refine wR ?_|refine wK ?_|refine wE ?_)
   exact hg
theorem Qm2 (a:List Q4) (c d:Bool) (hl:a.length≤2000000):Ev tb Qnf [] [L4 a c,L4 a d] [] ⟨Bo true,[],[],[]⟩:=by
 have hlo:=Jaq a c d hl a.length 0 (by omega)
 rw [show ((0:Nat):Int)=0 from rfl] at hlo
 refine cW Jqx rfl ?_
 repeat (first|apply wA|apply wS|refine wr (by simp;with_reducible rfl) ?_|refine wq (by simp;with_reducible rfl) ?_|refine wt (by simpa) ?_|refine wf (by simpa) ?_|refine xt (by simpa) ?_|refine xf (by simpa) ?_|apply wB|apply Qaa|refine wX ?_|refine wY ?_|refine wR ?_|refine wK ?_|refine wE ?_)
 refine Qap hlo ?_
 rintro ex st ⟨rfl,rfl⟩
 try simp only [if_true]
 repeat (first|apply wA|apply wS|refine wr (by simp;with_reducible rfl) ?_|refine wq (by simp;with_reducible rfl) ?_|refine wt (by simpa) ?_|refine wf (by simpa) ?_|refine xt (by simpa) ?_|refine xf (by simpa) ?_|apply wB|apply Qaa|refine wX ?_|refine wY ?_|refine wR ?_|refine wK ?_|refine wE ?_)
 simp [Qw4]
theorem Qj3 (x y:IV) (hx:x=Z ∨ ∃ c,x=L4 [] c) (hy:y=Z ∨ ∃ c,y=L4 [] c):Ev tb Qnf [] [x,y] [] ⟨Bo true,[],[],[]⟩:=by
 rcases hx with rfl | ⟨c,rfl⟩ <;> rcases hy with rfl | ⟨d,rfl⟩ <;>
 · refine cW Jqx rfl ?_
   repeat (first|apply wA|apply wS|refine wr (by simp;with_reducible rfl) ?_|refine wq (by simp;with_reducible rfl) ?_|refine wt (by simpa) ?_|refine wf (by simpa) ?_|refine xt (by simpa) ?_|refine xf (by simpa) ?_|apply wB|apply Qaa|refine wX ?_|refine wY ?_|refine wR ?_|refine wK ?_|refine wE ?_)
   refine wW ?_
   repeat (first|apply wA|apply wS|refine wr (by simp;with_reducible rfl) ?_|refine wq (by simp;with_reducible rfl) ?_|refine wt (by simpa) ?_|refine wf (by simpa) ?_|refine xt (by simpa) ?_|refine xf (by simpa) ?_|apply wB|apply Qaa|refine wX ?_|refine wY ?_|refine wR ?_|refine wK ?_|refine wE ?_)
   simp [Qw4]
def Qo7 (k:Int) (n:Nat):List Q4:=(List.range n).map fun i:Nat=>(k+4 * (i:Int),k+4 * (i:Int)+1,k+4 * (i:Int)+1+1,k+4 * (i:Int)+1+1+1)
theorem Qaq (k:Int) (n:Nat):(Qo7 k n).length=n:=by simp [Qo7]
theorem Qem (k:Int) (n i:Nat) (h:i < (Qo7 k n).length):(Qo7 k n)[i]=(k+4 * (i:Int),k+4 * (i:Int)+1,k+4 * (i:Int)+1+1,k+4 * (i:Int)+1+1+1):=by simp [Qo7]
theorem Qbr (k:Int) (n:Nat):(Qo7 k n).take n=Qo7 k n:=List.take_of_length_le (by rw [Qaq];exact Nat.le_refl n)
set_option maxHeartbeats 2000000 in
theorem Jbc (k:Int) (n:Nat) (hn:n≤10000000) (hk:0≤k∧k≤100000000):∀ (m i:Nat) (A:List Q4),i+m=n→A.length=n→A.take i=(Qo7 k n).take i →
 wp tb (.loop Qxn) { T:=[(0,O4 A),(1,I (k+4 * i)),(5,I i)],loc:=[],M:=[] }
  (fun ex st=>ex=.exit 0∧st={ T:=[(0,O4 (Qo7 k n)),(1,I (k+4 * n)),(5,I n),(9,Bo false)],loc:=[],M:=[] }):=by
 intro m
 induction m with
 | zero =>
   intro i A hi hA ht
   have h3:i=n:=hi
   subst h3
   rw [List.take_of_length_le (by omega),List.take_of_length_le (by rw [Qaq];omega)] at ht
   subst ht
   refine wW ?_
   repeat (first|apply wA|apply wS|refine wr (by simp [Qaq];with_reducible rfl) ?_|refine wq (by simp [Qaq];with_reducible rfl) ?_|refine wt (by simpa [Qaq]) ?_|refine wf (by simpa [Qaq]) ?_|refine xt (by simpa [Qaq]) ?_|refine xf (by simpa [Qaq]) ?_|apply wB|apply Qaa|refine wX ?_|refine wY ?_|refine wR ?_|refine wK ?_|refine wE ?_)
   exact ⟨rfl,rfl⟩
 | succ m ih =>
   intro i A hi hA ht
   have hi2:i < A.length:=by omega
   have w2:IntKind.i64.wrap ((i:Int)+1)=((i+1:Nat):Int):=Qbp (by omega)
   have w3:IntKind.i64.wrap (k+4 * (i:Int)+1)=k+4 * (i:Int)+1:=by rw [Qan (by omega) (by omega)]
   have w4:IntKind.i64.wrap (k+4 * (i:Int)+1+1)=k+4 * (i:Int)+1+1:=by rw [Qan (by omega) (by omega)]
   have w5:IntKind.i64.wrap (k+4 * (i:Int)+1+1+1)=k+4 * (i:Int)+1+1+1:=by rw [Qan (by omega) (by omega)]
   have w6:IntKind.i64.wrap (k+4 * (i:Int)+1+1+1+1)=k+4 * ((i+1:Nat):Int):=by rw [Qan (by omega) (by omega)];omega
   have hg:=ih (i+1) (A.set i (k+4 * (i:Int),k+4 * (i:Int)+1,k+4 * (i:Int)+1+1,k+4 * (i:Int)+1+1+1)) (by omega) (by simpa using hA) (by
    rw [List.take_succ_eq_append_getElem (by simpa using hi2),List.take_succ_eq_append_getElem (by rw [Qaq];omega),List.take_set_of_le (Nat.le_refl _),ht,Qem];simp)
   obtain ⟨⟨p,q,r,s⟩,hx⟩:∃ x,x=A[i]:=⟨_,rfl⟩
   have hx:=hx.symm
   refine wW ?_
   repeat (first|apply wA|apply wS|refine wr (by simp [hi2,w2,w3,w4,w5,w6,hx];with_reducible rfl) ?_|refine wq (by simp [hi2,w2,w3,w4,w5,w6,hx];with_reducible rfl) ?_|refine wt (by simpa [hi2,w2,w3,w4,w5,w6,hx]) ?_|refine wf (by simpa [hi2,w2,w3,w4,w5,w6,hx]) ?_|refine xt (by simpa [hi2,w2,w3,w4,w5,w6,hx]) ?_|refine xf (by simpa [hi2,w2,w3,w4,w5,w6,hx]) ?_|apply wB|apply Qaa|refine wX ?_|refine wY ?_|refine wR ?_|refine wK ?_|refine wE ?_)
   exact hg
theorem Qkd (a:List Q4) (k:Int) (hl:a.length≤10000000) (hk:0≤k∧k≤100000000):Ev tb Qs0 [0] [O4 a,I k] [] ⟨I (k+4 * a.length),[O4 (Qo7 k a.length)],[],[]⟩:=by
 have hlo:=Jbc k a.length hl hk a.length 0 a (by omega) rfl (by simp)
 rw [show k+4 * ((0:Nat):Int)=k by omega,show ((0:Nat):Int)=0 from rfl] at hlo
 refine cW Jxf rfl ?_
 repeat (first|apply wA|apply wS|refine wr (by simp;with_reducible rfl) ?_|refine wq (by simp;with_reducible rfl) ?_|refine wt (by simpa) ?_|refine wf (by simpa) ?_|refine xt (by simpa) ?_|refine xf (by simpa) ?_|apply wB|apply Qaa|refine wX ?_|refine wY ?_|refine wR ?_|refine wK ?_|refine wE ?_)
 refine Qap hlo ?_
 rintro ex st ⟨rfl,rfl⟩
 try simp only [if_true]
 repeat (first|apply wA|apply wS|refine wr (by simp;with_reducible rfl) ?_|refine wq (by simp;with_reducible rfl) ?_|refine wt (by simpa) ?_|refine wf (by simpa) ?_|refine xt (by simpa) ?_|refine xf (by simpa) ?_|apply wB|apply Qaa|refine wX ?_|refine wY ?_|refine wR ?_|refine wK ?_|refine wE ?_)
 simp [Jbv]
set_option maxHeartbeats 2000000 in
theorem Jb2 (k:Int) (n:Nat) (c:Bool) (hn:n≤10000000) (hk:0≤k∧k≤100000000):∀ (m i:Nat),i+m=n →
 wp tb (.loop Qxo) { T:=[(0,L4 (Qo7 k n) c),(1,I (k+4 * i)),(5,I i)],loc:=[],M:=[] }
  (fun ex st=>ex=.exit 0∧st={ T:=[(0,L4 (Qo7 k n) c),(1,I (k+4 * n)),(5,I n),(9,Bo false)],loc:=[],M:=[] }):=by
 intro m
 induction m with
 | zero =>
   intro i hi
   have h3:i=n:=hi
   subst h3
   refine wW ?_
   repeat (first|apply wA|apply wS|refine wr (by simp [Qaq];with_reducible rfl) ?_|refine wq (by simp [Qaq];with_reducible rfl) ?_|refine wt (by simpa [Qaq]) ?_|refine wf (by simpa [Qaq]) ?_|refine xt (by simpa [Qaq]) ?_|refine xf (by simpa [Qaq]) ?_|apply wB|apply Qaa|refine wX ?_|refine wY ?_|refine wR ?_|refine wK ?_|refine wE ?_)
   exact ⟨rfl,rfl⟩
 | succ m ih =>
   intro i hi
   have hi2:i < n:=by omega
   have w2:IntKind.i64.wrap ((i:Int)+1)=((i+1:Nat):Int):=Qbp (by omega)
   have w3:IntKind.i64.wrap (k+4 * (i:Int)+1)=k+4 * (i:Int)+1:=by rw [Qan (by omega) (by omega)]
   have w4:IntKind.i64.wrap (k+4 * (i:Int)+1+1)=k+4 * (i:Int)+1+1:=by rw [Qan (by omega) (by omega)]
   have w5:IntKind.i64.wrap (k+4 * (i:Int)+1+1+1)=k+4 * (i:Int)+1+1+1:=by rw [Qan (by omega) (by omega)]
   have w6:IntKind.i64.wrap (k+4 * (i:Int)+1+1+1+1)=k+4 * ((i+1:Nat):Int):=by rw [Qan (by omega) (by omega)];omega
   have hg:=ih (i+1) (by omega)
   refine wW ?_
   repeat (first|apply wA|apply wS|refine wr (by simp [Qaq,hi2,w2,w3,w4,w5,w6,Qem];with_reducible rfl) ?_|refine wq (by simp [Qaq,hi2,w2,w3,w4,w5,w6,Qem];with_reducible rfl) ?_|refine wt (by simpa [Qaq,hi2,w2,w3,w4,w5,w6,Qem]) ?_|refine wf (by simpa [Qaq,hi2,w2,w3,w4,w5,w6,Qem]) ?_|refine xt (by simpa [Qaq,hi2,w2,w3,w4,w5,w6,Qem]) ?_|refine xf (by simpa [Qaq,hi2,w2,w3,w4,w5,w6,Qem]) ?_|apply wB|apply Qaa|refine wX ?_|refine wY ?_|refine wR ?_|refine wK ?_|refine wE ?_)
   exact hg
theorem Qkh (k:Int) (n:Nat) (c:Bool) (hl:n≤10000000) (hk:0≤k∧k≤100000000):Ev tb Qo0 [] [L4 (Qo7 k n) c,I k] [] ⟨I (k+4 * n),[],[],[]⟩:=by
 have hlo:=Jb2 k n c hl hk n 0 (by omega)
 rw [show k+4 * ((0:Nat):Int)=k by omega,show ((0:Nat):Int)=0 from rfl] at hlo
 refine cW Jzy rfl ?_
 repeat (first|apply wA|apply wS|refine wr (by simp;with_reducible rfl) ?_|refine wq (by simp;with_reducible rfl) ?_|refine wt (by simpa) ?_|refine wf (by simpa) ?_|refine xt (by simpa) ?_|refine xf (by simpa) ?_|apply wB|apply Qaa|refine wX ?_|refine wY ?_|refine wR ?_|refine wK ?_|refine wE ?_)
 refine Qap hlo ?_
 rintro ex st ⟨rfl,rfl⟩
 try simp only [if_true]
 repeat (first|apply wA|apply wS|refine wr (by simp;with_reducible rfl) ?_|refine wq (by simp;with_reducible rfl) ?_|refine wt (by simpa) ?_|refine wf (by simpa) ?_|refine xt (by simpa) ?_|refine xf (by simpa) ?_|apply wB|apply Qaa|refine wX ?_|refine wY ?_|refine wR ?_|refine wK ?_|refine wE ?_)
 simp [Jas]
theorem Qx0 (k:Int) (n:Nat):(eds (Qt2 k n)).all (·.all IV.isSc)=true:=by
 rw [List.all_eq_true];intro x hx
 obtain ⟨e,_,rfl⟩:=List.mem_map.1 hx
 rfl
theorem Jew (k:Int) (n:Nat):(sws (Qo7 k n)).all (·.all IV.isSc)=true:=by
 rw [List.all_eq_true];intro x hx
 obtain ⟨e,_,rfl⟩:=List.mem_map.1 hx
 rfl
end Go.Idl
namespace Go.Idl
open Go
theorem Qv8 (e0 e1:Nat) (xs ys:List (Int×Int)) (c1 c2:Bool) (h0:e0=2 ∨ xs=[]) (h1:e1=2 ∨ ys=[]) (hl:xs.length≤2000000) (hl2:ys.length≤2000000) :
 Ev tb Qwz [] [.lst e0 (eds xs) c1,.lst e1 (eds ys) c2] [] ⟨Bo (decide (xs=ys)),[],[],[]⟩:=by
 by_cases hlen:xs.length=ys.length
 · have loop:∀ (m i:Nat),i+m=xs.length→wp tb (.loop Jcr) { T:=[(0,.lst e0 (eds xs) c1),(1,.lst e1 (eds ys) c2),(12,I xs.length),(13,I i)],loc:=[],M:=[] }
    (fun ex st=>(ex=.exit 0∧xs.drop i=ys.drop i∧st={ T:=[(0,.lst e0 (eds xs) c1),(1,.lst e1 (eds ys) c2),(12,I xs.length),(13,I xs.length),(14,Bo false)],loc:=[],M:=[] }) ∨
      ex=.ret∧¬ xs.drop i=ys.drop i∧st={ T:=[(4,Bo false)],loc:=[],M:=[] }):=by
    intro m
    induction m with
    | zero =>
      intro i hi
      have h3:i=xs.length:=hi
      subst h3
      refine wW ?_
      repeat (first|apply wA|apply wS|refine wr (by simp;with_reducible rfl) ?_|refine wq (by simp;with_reducible rfl) ?_|refine wt (by simpa) ?_|refine wf (by simpa) ?_|refine xt (by simpa) ?_|refine xf (by simpa) ?_|apply wB|apply Qaa|refine wX ?_|refine wY ?_|refine wR ?_|refine wK ?_|refine wE ?_)
      refine .inl ⟨rfl,?_,rfl⟩
      rw [List.drop_eq_nil_of_le (Nat.le_refl _),List.drop_eq_nil_of_le (by omega)]
    | succ m ih =>
      intro i hi
      have hi2:i < xs.length:=by omega
      have hi3:i < ys.length:=by omega
      have he0:e0=2:=h0.resolve_right fun h=>by rw [h] at hi2;simp at hi2
      have he1:e1=2:=h1.resolve_right fun h=>by rw [h] at hi3;simp at hi3
      subst he0 he1
      have d1:xs.drop i=xs[i]::xs.drop (i+1):=List.drop_eq_getElem_cons hi2
      have d2:ys.drop i=ys[i]::ys.drop (i+1):=List.drop_eq_getElem_cons hi3
      have w1:IntKind.i64.wrap ((i:Int)+1)=((i+1:Nat):Int):=Qbp (by omega)
      obtain ⟨⟨a,b⟩,hx⟩:∃ e,e=xs[i]:=⟨_,rfl⟩
      obtain ⟨⟨c,d⟩,hy⟩:∃ e,e=ys[i]:=⟨_,rfl⟩
      have hx2:=hx.symm
      have hy2:=hy.symm
      have hg:=ih (i+1) (by omega)
      rw [d1,d2,hx2,hy2]
      by_cases hq:((a,b):Int×Int)=(c,d)
      · simp only [Qpi] at hq
        obtain ⟨rfl,rfl⟩:=hq
        refine wW ?_
        repeat (first|apply wA|apply wS|refine wr (by simp [hi2,hi3,hx2,hy2,w1];with_reducible rfl) ?_|refine wq (by simp [hi2,hi3,hx2,hy2,w1];with_reducible rfl) ?_|refine wt (by simpa [hi2,hi3,hx2,hy2,w1]) ?_|refine wf (by simpa [hi2,hi3,hx2,hy2,w1]) ?_|refine xt (by simpa [hi2,hi3,hx2,hy2,w1]) ?_|refine xf (by simpa [hi2,hi3,hx2,hy2,w1]) ?_|apply wB|apply Qaa|refine wX ?_|refine wY ?_|refine wR ?_|refine wK ?_|refine wE ?_)
        simp only [List.cons.injEq,true_and]
        exact hg
      · have hq2:a=c→¬ b=d:=fun h1 h2=>hq (by rw [h1,h2])
        refine wW ?_
        by_cases hac:a=c
        · have hbd:=hq2 hac
          subst hac
          repeat (first|apply wA|apply wS|refine wr (by simp [hi2,hi3,hx2,hy2,w1,hbd];with_reducible rfl) ?_|refine wq (by simp [hi2,hi3,hx2,hy2,w1,hbd];with_reducible rfl) ?_|refine wt (by simpa [hi2,hi3,hx2,hy2,w1,hbd]) ?_|refine wf (by simpa [hi2,hi3,hx2,hy2,w1,hbd]) ?_|refine xt (by simpa [hi2,hi3,hx2,hy2,w1,hbd]) ?_|refine xf (by simpa [hi2,hi3,hx2,hy2,w1,hbd]) ?_|apply wB|apply Qaa|refine wX ?_|refine wY ?_|refine wR ?_|refine wK ?_|refine wE ?_)
          refine .inr ⟨rfl,fun h=>?_,rfl⟩
          simp only [List.cons.injEq,Qpi] at h
          exact hbd h.1.2
        · repeat (first | apply wA | apply wS | refine wr (by simp [hi2,hi3,hx2,hy2,w1,hac];with_reducible rfl) ?_ | refine wq (by simp [hi2,hi3,hx2,hy2,w1,hac];with_reducible rfl) ?_ | refine wt (by simpa [hi2,hi3,hx2,hy2,w1,hac]) ?_ | refine wf (by simpa [hi2,hi3,hx2,hy2,w1,hac]) ?_ | refine xt (by simpa [hi2,hi3,hx2,hy2,w1,hac]) ?_ | refine xf (by simpa [hi2,hi3,hx2,hy2,w1,hac]) ?_ | apply wB | apply Qaa | refine wX ?_ | refine wY ?_ | refine wR ?_ | refine wK ?_ | refine wE ?_)
          refine .inr ⟨rfl,fun h=>?_,rfl⟩
          simp only [List.cons.injEq,Qpi] at h
          exact hac h.1.1
   have l0:=loop xs.length 0 (by omega)
   rw [List.drop_zero,List.drop_zero,show ((0:Nat):Int)=0 from rfl] at l0
   refine cW Jri rfl ?_
   repeat (first|apply wA|apply wS|refine wr (by simp [hlen];with_reducible rfl) ?_|refine wq (by simp [hlen];with_reducible rfl) ?_|refine wt (by simpa [hlen]) ?_|refine wf (by simpa [hlen]) ?_|refine xt (by simpa [hlen]) ?_|refine xf (by simpa [hlen]) ?_|apply wB|apply Qaa|refine wX ?_|refine wY ?_|refine wR ?_|refine wK ?_|refine wE ?_)
   rw [← hlen]
   refine Qap l0 ?_
   rintro ex st (⟨rfl,h,rfl⟩ | ⟨rfl,h,rfl⟩)
   · simp only [if_true]
     repeat (first|apply wA|apply wS|refine wr (by simp;with_reducible rfl) ?_|refine wq (by simp;with_reducible rfl) ?_|refine wt (by simpa) ?_|refine wf (by simpa) ?_|refine xt (by simpa) ?_|refine xf (by simpa) ?_|apply wB|apply Qaa|refine wX ?_|refine wY ?_|refine wR ?_|refine wK ?_|refine wE ?_)
     simp [Qrz,h]
   · simp [Qrz,h]
 · have h:¬ xs=ys:=fun h=>hlen (by rw [h])
   have h2:¬ (xs.length:Int)=(ys.length:Int):=by omega
   refine cW Jri rfl ?_
   repeat (first|apply wA|apply wS|refine wr (by simp [hlen,h2];with_reducible rfl) ?_|refine wq (by simp [hlen,h2];with_reducible rfl) ?_|refine wt (by simpa [hlen,h2]) ?_|refine wf (by simpa [hlen,h2]) ?_|refine xt (by simpa [hlen,h2]) ?_|refine xf (by simpa [hlen,h2]) ?_|apply wB|apply Qaa|refine wX ?_|refine wY ?_|refine wR ?_|refine wK ?_|refine wE ?_)
   simp [Qrz,h]
theorem Qq0 (n m:Int) (xs ys:List (Int×Int)) (c1 c2:Bool) (hl:xs.length≤2000000) (hl2:ys.length≤2000000) :
 Ev tb Qs4 [] [Gr n xs c1,Gr m ys c2] [] ⟨Bo (decide (n=m) && decide (xs=ys)),[],[],[]⟩:=by
 have e1:=Qab (Qv8 2 2 xs ys c1 c2 (.inl rfl) (.inl rfl) hl hl2)
 generalize decide (xs=ys)=b at *
 by_cases h:n=m
 · refine cW Jpb rfl ?_
   repeat (first|apply wA|apply wS|refine wr (by simp [e1,h];with_reducible rfl) ?_|refine wq (by simp [e1,h];with_reducible rfl) ?_|refine wt (by simpa [e1,h]) ?_|refine wf (by simpa [e1,h]) ?_|refine xt (by simpa [e1,h]) ?_|refine xf (by simpa [e1,h]) ?_|apply wB|apply Qaa|refine wX ?_|refine wY ?_|refine wR ?_|refine wK ?_|refine wE ?_)
   simp [Qyc,h]
 · refine cW Jpb rfl ?_
   repeat (first|apply wA|apply wS|refine wr (by simp [h];with_reducible rfl) ?_|refine wq (by simp [h];with_reducible rfl) ?_|refine wt (by simpa [h]) ?_|refine wf (by simpa [h]) ?_|refine xt (by simpa [h]) ?_|refine xf (by simpa [h]) ?_|apply wB|apply Qaa|refine wX ?_|refine wY ?_|refine wR ?_|refine wK ?_|refine wE ?_)
   simp [Qyc,h]
abbrev Vs:=(List (Int×Int)×Bool)×Int×Q4
def vis (n:Int) (A:List Vs):List (List IV):=A.map fun t=>[I n,L2 t.1.1 t.1.2,I t.2.1,I t.2.2.1,I t.2.2.2.1,I t.2.2.2.2.1,I t.2.2.2.2.2]
@[simp] theorem Jxu (n:Int) (A:List Vs):(vis n A).length=A.length:=by simp [vis]
@[simp] theorem Jz5 (n:Int):vis n []=[]:=rfl
@[simp] theorem vis_get? (n:Int) (A:List Vs) (i:Nat):(vis n A)[i]? = A[i]?.map fun t=>[I n,L2 t.1.1 t.1.2,I t.2.1,I t.2.2.1,I t.2.2.2.1,I t.2.2.2.2.1,I t.2.2.2.2.2]:=by simp [vis]
@[simp] theorem Jx3 (n:Int) (A:List Vs) (i:Nat) (h:i < (vis n A).length):(vis n A)[i]=[I n,L2 (A[i]'(by simpa using h)).1.1 (A[i]'(by simpa using h)).1.2,I (A[i]'(by simpa using h)).2.1,I (A[i]'(by simpa using h)).2.2.1,I (A[i]'(by simpa using h)).2.2.2.1,I (A[i]'(by simpa using h)).2.2.2.2.1,I (A[i]'(by simpa using h)).2.2.2.2.2]:=by simp [vis]
@[simp] theorem Ju4 (n:Int) (A:List Vs) (k:Nat):(vis n A).take k=vis n (A.take k):=by simp [vis,List.map_take]
@[simp] theorem vis_app (n:Int) (A:List Vs) (es:List (Int×Int)) (c:Bool) (f a b x d:Int):vis n A++[[IV.sc (.int .i64 n),.lst 2 (eds es) c,IV.sc (.int .i64 f),IV.sc (.int .i64 a),IV.sc (.int .i64 b),IV.sc (.int .i64 x),IV.sc (.int .i64 d)]]=vis n (A++[((es,c),f,a,b,x,d)]):=by simp [vis]
@[simp] theorem Jy5 (n:Int) (A:List Vs):(vis n A).isEmpty=A.isEmpty:=by cases A <;> rfl
@[simp] theorem Jyf (n:Int) (A:List Vs):((vis n A).all fun x=>x.all IV.isData)=true:=by
  induction A with
  | nil=>rfl
  | cons x xs ih=>simp only [vis,List.map_cons,List.all_cons] at *;rw [ih];rfl
theorem Jaj (n:Int) (t:Vs) (ys:List (Int×Int)) (c2:Bool) (hl:t.1.1.length≤2000000) (hl2:ys.length≤2000000) (M:List Qal) (l k:Nat) (B:Qal) (hM:M[l]? = some B) (hB:B[k]? = some [I n,L2 ys c2]) (hlM:l < M.length) (hne:l ≠ M.length) :
 Ev tb Qtd [] [.agg [I n,L2 t.1.1 t.1.2,I t.2.1,I t.2.2.1,I t.2.2.2.1,I t.2.2.2.2.1,I t.2.2.2.2.2],.bptr l k 0] M ⟨Bo (decide (t.1.1=ys)),[],M,[]⟩:=by
 have e1:=fun c1 c2=>Qab (Qq0 n n t.1.1 ys c1 c2 hl hl2)
 simp only [decide_true,Bool.true_and] at e1
 generalize decide (t.1.1=ys)=b at *
 refine cW Jyd rfl ?_
 repeat (first|apply wA|apply wS|refine wr (by simp [hM,hB,hne,e1];with_reducible rfl) ?_|refine wq (by simp [hM,hB,hne,e1];with_reducible rfl) ?_|refine wt (by simpa [hM,hB,hne,e1]) ?_|refine wf (by simpa [hM,hB,hne,e1]) ?_|refine xt (by simpa [hM,hB,hne,e1]) ?_|refine xf (by simpa [hM,hB,hne,e1]) ?_|apply wB|apply Qaa|refine wX ?_|refine wY ?_|refine wR ?_|refine wK ?_|refine wE ?_)
 simp [Jaw]
theorem Qma (n:Int) (A:List Vs) (F:Lab) (caps:List IV) (M:List Qal) (p:Vs→Bool) (hl:A.length≤2000000)
 (hp:∀ t ∈ A,Ev tb F [] (.agg [I n,L2 t.1.1 t.1.2,I t.2.1,I t.2.2.1,I t.2.2.2.1,I t.2.2.2.2.1,I t.2.2.2.2.2]::caps) (M++[[]]) ⟨Bo (p t),[],M++[[]],[]⟩) :
 ∃ r:Int,decide (0≤r)=A.any p∧Ev tb Qsc [0] [.own 7 (vis n A),.fn F caps] M ⟨I r,[.own 7 (vis n A)],M,[]⟩:=by
 have loop:∀ (m i:Nat),i+m=A.length→wp tb (.loop Jdb) { T:=[(0,.own 7 (vis n A)),(1,.fn F caps),(7,I A.length),(8,I i)],loc:=[],M:=M }
  (fun ex st=>(ex=.exit 0∧(A.drop i).any p=false∧st={ T:=[(0,.own 7 (vis n A)),(1,.fn F caps),(7,I A.length),(8,I A.length),(9,Bo false)],loc:=[],M:=M }) ∨
    ex=.ret∧(A.drop i).any p=true∧∃ k:Nat,st={ T:=[(0,.own 7 (vis n A)),(4,I k)],loc:=[],M:=M }):=by
  intro m
  induction m with
  | zero =>
    intro i hi
    have h3:i=A.length:=hi
    subst h3
    refine wW ?_
    repeat (first|apply wA|apply wS|refine wr (by simp;with_reducible rfl) ?_|refine wq (by simp;with_reducible rfl) ?_|refine wt (by simpa) ?_|refine wf (by simpa) ?_|refine xt (by simpa) ?_|refine xf (by simpa) ?_|apply wB|apply Qaa|refine wX ?_|refine wY ?_|refine wR ?_|refine wK ?_|refine wE ?_)
    exact .inl ⟨rfl,by rw [List.drop_length];rfl,rfl⟩
  | succ m ih =>
    intro i hi
    have hi2:i < A.length:=by omega
    have h2:A.drop i=A[i]::A.drop (i+1):=List.drop_eq_getElem_cons hi2
    have e1:=Qab (hp _ (List.getElem_mem hi2))
    have w1:IntKind.i64.wrap ((i:Int)+1)=((i+1:Nat):Int):=Qbp (by omega)
    have hn:=ih (i+1) (by omega)
    obtain ⟨t,ht⟩:∃ t,t=A[i]:=⟨_,rfl⟩
    have ht2:=ht.symm
    rw [ht2] at e1
    rw [h2,ht2,List.any_cons]
    cases hpx:p t with
    | true =>
      rw [hpx] at e1
      refine wW ?_
      repeat (first|apply wA|apply wS|refine wr (by simp [e1,hi2,ht2,w1];with_reducible rfl) ?_|refine wq (by simp [e1,hi2,ht2,w1];with_reducible rfl) ?_|refine wt (by simpa [e1,hi2,ht2,w1]) ?_|refine wf (by simpa [e1,hi2,ht2,w1]) ?_|refine xt (by simpa [e1,hi2,ht2,w1]) ?_|refine xf (by simpa [e1,hi2,ht2,w1]) ?_|apply wB|apply Qaa|refine wX ?_|refine wY ?_|refine wR ?_|refine wK ?_|refine wE ?_)
      exact .inr ⟨rfl,rfl,i,rfl⟩
    | false =>
      rw [hpx] at e1
      simp only [Bool.false_or]
      refine wW ?_
      repeat (first|apply wA|apply wS|refine wr (by simp [e1,hi2,ht2,w1];with_reducible rfl) ?_|refine wq (by simp [e1,hi2,ht2,w1];with_reducible rfl) ?_|refine wt (by simpa [e1,hi2,ht2,w1]) ?_|refine wf (by simpa [e1,hi2,ht2,w1]) ?_|refine xt (by simpa [e1,hi2,ht2,w1]) ?_|refine xf (by simpa [e1,hi2,ht2,w1]) ?_|apply wB|apply Qaa|refine wX ?_|refine wY ?_|refine wR ?_|refine wK ?_|refine wE ?_)
      exact hn
 have l0:=loop A.length 0 (by omega)
 rw [List.drop_zero,show ((0:Nat):Int)=0 from rfl] at l0
 suffices hh:∃ r,(∃ q:Int,decide (0≤q)=A.any p∧r=⟨I q,[.own 7 (vis n A)],M,[]⟩)∧Ev tb Qsc [0] [.own 7 (vis n A),.fn F caps] M r by
  obtain ⟨r,⟨q,h1,rfl⟩,h⟩:=hh
  exact ⟨q,h1,h⟩
 refine Qho Jz8 rfl ?_
 repeat (first|apply wA|apply wS|refine wr (by simp;with_reducible rfl) ?_|refine wq (by simp;with_reducible rfl) ?_|refine wt (by simpa) ?_|refine wf (by simpa) ?_|refine xt (by simpa) ?_|refine xf (by simpa) ?_|apply wB|apply Qaa|refine wX ?_|refine wY ?_|refine wR ?_|refine wK ?_|refine wE ?_)
 refine Qap l0 ?_
 rintro ex st (⟨rfl,h,rfl⟩ | ⟨rfl,h,k,rfl⟩)
 · simp only [if_true]
   repeat (first|apply wA|apply wS|refine wr (by simp;with_reducible rfl) ?_|refine wq (by simp;with_reducible rfl) ?_|refine wt (by simpa) ?_|refine wf (by simpa) ?_|refine xt (by simpa) ?_|refine xf (by simpa) ?_|apply wB|apply Qaa|refine wX ?_|refine wY ?_|refine wR ?_|refine wK ?_|refine wE ?_)
   refine ⟨.inr rfl,_,⟨-1,by rw [h];rfl,rfl⟩,?_⟩
   simp [Qyt]
 · refine ⟨.inr rfl,_,⟨(k:Int),by rw [h];exact decide_eq_true (by omega),rfl⟩,?_⟩
   simp [Qyt]
theorem Qin (n:Int) (A:List Vs) (F:Lab) (caps:List IV) (M:List Qal) (p:Vs→Bool) (hl:A.length≤2000000)
 (hp:∀ t ∈ A,Ev tb F [] (.agg [I n,L2 t.1.1 t.1.2,I t.2.1,I t.2.2.1,I t.2.2.2.1,I t.2.2.2.2.1,I t.2.2.2.2.2]::caps) (M++[[]]++[[]]) ⟨Bo (p t),[],M++[[]]++[[]],[]⟩) :
 Ev tb Qxq [0] [.own 7 (vis n A),.fn F caps] M ⟨Bo (A.any p),[.own 7 (vis n A)],M,[]⟩:=by
 obtain ⟨r,h1,E⟩:=Qma n A F caps (M++[[]]) p hl hp
 have e1:=Qab E
 rw [← h1]
 by_cases h:0≤r
 · refine cW Jsy rfl ?_
   repeat (first|apply wA|apply wS|refine wr (by simp [e1,h];with_reducible rfl) ?_|refine wq (by simp [e1,h];with_reducible rfl) ?_|refine wt (by simpa [e1,h]) ?_|refine wf (by simpa [e1,h]) ?_|refine xt (by simpa [e1,h]) ?_|refine xf (by simpa [e1,h]) ?_|apply wB|apply Qaa|refine wX ?_|refine wY ?_|refine wR ?_|refine wK ?_|refine wE ?_)
   simp [Qtp,h]
 · refine cW Jsy rfl ?_
   repeat (first|apply wA|apply wS|refine wr (by simp [e1,h];with_reducible rfl) ?_|refine wq (by simp [e1,h];with_reducible rfl) ?_|refine wt (by simpa [e1,h]) ?_|refine wf (by simpa [e1,h]) ?_|refine xt (by simpa [e1,h]) ?_|refine xf (by simpa [e1,h]) ?_|apply wB|apply Qaa|refine wX ?_|refine wY ?_|refine wR ?_|refine wK ?_|refine wE ?_)
   simp [Qtp,h]
theorem Qi5 {A m B:List Q4} {x y:Q4}:(A++x::(m++y::B))[A.length+m.length+1]? = some y:=by
 rw [List.getElem?_append_right (by omega),show A.length+m.length+1 - A.length=m.length+1 by omega,List.getElem?_cons_succ,List.getElem?_append_right (by omega)];simp
theorem Qhs {A m B:List Q4} {x y:Q4} {h}:(A++x::(m++y::B))[A.length+m.length+1]'h=y:=by
 have:=@Qi5 A m B x y
 rw [List.getElem?_eq_getElem h] at this
 exact Option.some.inj this
theorem Qkx {A m B:List Q4} {v x y:Q4}:(A++v::(m++y::B)).set (A.length+m.length+1) x=A++v::(m++x::B):=by
 rw [List.set_append_right _ _ (by omega)]
 simp [show A.length+m.length+1 - A.length=m.length+1 by omega]
theorem Qfr {A B:List Q4} {x:Q4}:(A++x::B)[A.length]? = some x:=by simp
theorem rev4 (M:List Qal):∀ (k:Nat) (A m B:List Q4),m.length≤k→A.length+m.length+B.length≤2000000 →
 wp tb (.loop Jdm) { T:=[(0,O4 (A++(m++B))),(2,I A.length),(3,I ((A.length:Int)+m.length - 1))],loc:=[],M:=M }
  (fun ex st=>ex=.exit 0∧∃ a b:Int,st={ T:=[(0,O4 (A++(m.reverse++B))),(2,I a),(3,I b),(9,Bo false)],loc:=[],M:=M }):=by
 intro k
 induction k with
 | zero =>
   intro A m B hk hl
   have:m=[]:=List.length_eq_zero_iff.1 (by omega)
   subst this
   refine wW ?_
   have h:¬ ((A.length:Int) < A.length - 1):=by omega
   repeat (first|apply wA|apply wS|refine wr (by simp [h];with_reducible rfl) ?_|refine wq (by simp [h];with_reducible rfl) ?_|refine wt (by simpa [h]) ?_|refine wf (by simpa [h]) ?_|refine xt (by simpa [h]) ?_|refine xf (by simpa [h]) ?_|apply wB|apply Qaa|refine wX ?_|refine wY ?_|refine wR ?_|refine wK ?_|refine wE ?_)
   exact ⟨rfl,_,_,rfl⟩
 | succ k ih =>
   intro A m B hk hl
   match m,hk,hl with
   | [],hk,hl =>
     refine wW ?_
     have h:¬ ((A.length:Int) < A.length - 1):=by omega
     repeat (first|apply wA|apply wS|refine wr (by simp [h];with_reducible rfl) ?_|refine wq (by simp [h];with_reducible rfl) ?_|refine wt (by simpa [h]) ?_|refine wf (by simpa [h]) ?_|refine xt (by simpa [h]) ?_|refine xf (by simpa [h]) ?_|apply wB|apply Qaa|refine wX ?_|refine wY ?_|refine wR ?_|refine wK ?_|refine wE ?_)
     exact ⟨rfl,_,_,rfl⟩
   | [x],hk,hl =>
     refine wW ?_
     repeat (first|apply wA|apply wS|refine wr (by simp;with_reducible rfl) ?_|refine wq (by simp;with_reducible rfl) ?_|refine wt (by simpa) ?_|refine wf (by simpa) ?_|refine xt (by simpa) ?_|refine xf (by simpa) ?_|apply wB|apply Qaa|refine wX ?_|refine wY ?_|refine wR ?_|refine wK ?_|refine wE ?_)
     exact ⟨rfl,_,_,rfl⟩
   | x::z::m',hk,hl =>
     obtain ⟨m,y,hm⟩:∃ m y,z::m'=m++[y]:=⟨(z::m').dropLast,(z::m').getLast (by simp),(List.dropLast_concat_getLast _).symm⟩
     rw [hm] at hk hl ⊢
     simp only [List.length_cons,List.length_append,List.length_nil] at hk hl
     have hj:(A.length:Int)+(x::(m++[y])).length - 1=(A.length:Int)+m.length+1:=by simp;omega
     rw [hj]
     simp only [List.cons_append,List.append_assoc,List.nil_append]
     refine wW ?_
     have h:(A.length:Int) < A.length+m.length+1:=by omega
     have h2:A.length < A.length+(m.length+(B.length+1)+1):=by omega
     have h3:A.length+m.length+1 < A.length+(m.length+(B.length+1)+1):=by omega
     have w1:IntKind.i64.wrap ((A.length:Int)+1)=((A++[y]).length:Int):=by rw [Qan (by omega) (by omega)];simp
     have w2:IntKind.i64.wrap ((A.length:Int)+m.length)=((A++[y]).length:Int)+m.length - 1:=by rw [Qan (by omega) (by omega)];simp;omega
     repeat (first|apply wA|apply wS|refine wr (by simp [h,h2,h3,w1,w2,Qi5,Qhs,Qkx,Qdn,Qfr];with_reducible rfl) ?_|refine wq (by simp [h,h2,h3,w1,w2,Qi5,Qhs,Qkx,Qdn,Qfr];with_reducible rfl) ?_|refine wt (by simpa [h,h2,h3,w1,w2,Qi5,Qhs,Qkx,Qdn,Qfr]) ?_|refine wf (by simpa [h,h2,h3,w1,w2,Qi5,Qhs,Qkx,Qdn,Qfr]) ?_|refine xt (by simpa [h,h2,h3,w1,w2,Qi5,Qhs,Qkx,Qdn,Qfr]) ?_|refine xf (by simpa [h,h2,h3,w1,w2,Qi5,Qhs,Qkx,Qdn,Qfr]) ?_|apply wB|apply Qaa|refine wX ?_|refine wY ?_|refine wR ?_|refine wK ?_|refine wE ?_)
     have:=ih (A++[y]) m (x::B) (by omega) (by simp;omega)
     simp at this ⊢
     exact this
theorem Qpd (xs:List Q4) (hl:xs.length≤2000000) (M:List Qal) :
 Ev tb Qyw [0] [O4 xs] M ⟨.tup [],[O4 xs.reverse],M,[]⟩:=by
 have w1:IntKind.i64.wrap ((xs.length:Int) - 1)=(xs.length:Int) - 1:=Qan (by omega) (by omega)
 refine cW Jzh rfl ?_
 repeat (first|apply wA|apply wS|refine wr (by simp [w1];with_reducible rfl) ?_|refine wq (by simp [w1];with_reducible rfl) ?_|refine wt (by simpa [w1]) ?_|refine wf (by simpa [w1]) ?_|refine xt (by simpa [w1]) ?_|refine xf (by simpa [w1]) ?_|apply wB|apply Qaa|refine wX ?_|refine wY ?_|refine wR ?_|refine wK ?_|refine wE ?_)
 have:=rev4 M xs.length [] xs [] (by omega) (by simp;omega)
 simp at this
 refine Qap this ?_
 rintro ex st ⟨rfl,a,b,rfl⟩
 simp [Qz7]
theorem Qya (xs:List Q4):Ev tb Qph [] [O4 xs] [] ⟨O4 xs,[],[],[]⟩:=by
 have ht:xs.take xs.length=xs:=List.take_of_length_le (Nat.le_refl _)
 refine cW Ji8 rfl ?_
 repeat (first|apply wA|apply wS|refine wr (by simp [ht];with_reducible rfl) ?_|refine wq (by simp [ht];with_reducible rfl) ?_|refine wt (by simpa [ht]) ?_|refine wf (by simpa [ht]) ?_|refine xt (by simpa [ht]) ?_|refine xf (by simpa [ht]) ?_|apply wB|apply Qaa|refine wX ?_|refine wY ?_|refine wR ?_|refine wK ?_|refine wE ?_)
 simp [Qs3,ht]
end Go.Idl
namespace Go.Idl
open Go
abbrev swq (g:List (Int×Int)) (s:Q4):List (Int×Int):=sw g s.1 s.2.1 s.2.2.1 s.2.2.2
def bfA (g:List (Int×Int)) (i:Int):List Q4→List Vs→List Vs
 | [],A=>A
 | s::r,A=>bfA g i r (if (A.any fun t=>decide (t.1.1=swq g s))=true then A else A++[((swq g s,false),i,s)])
def bfs (h:List (Int×Int)):Nat→Nat→List Vs→Option (Nat×List Vs)
 | 0,_,_=>none
 | m+1,i,A=>match A[i]? with
   | none=>none
   | some t=>if t.1.1=h then some (i,A) else bfs h m (i+1) (bfA t.1.1 i (swl t.1.1 t.1.1) A)
def chn (A:List Vs):Nat→Int→List Q4
 | 0,_=>[]
 | m+1,k=>match A[k.toNat]? with
   | none=>[]
   | some t=>if 0≤t.2.1 then t.2.2::chn A m t.2.1 else []
structure Met (n:Nat) (d:List Int) (A:List Vs):Prop where
 v:∀ t ∈ A,Qad n t.1.1=true∧Qew n t.1.1=d
 nd:(A.map fun t=>t.1.1).Nodup
 fr:∀ (k:Nat) (t:Vs),A[k]? = some t→t.2.1 < (k:Int)
 lo:∀ t ∈ A,-1≤t.2.1
theorem Met.few {n:Nat} {d:List Int} {A:List Vs} (h:Met n d A) (hn:n≤5) (hd:d.length=n):A.length≤1024:=by
 have h1:(A.map fun t=>t.1.1).length≤(Jbt d).length:=Qt6 h.nd fun x hx=>by
  obtain ⟨t,ht,rfl⟩:=List.mem_map.1 hx
  have:=h.v t ht
  rw [← hd] at this
  exact (Qym (by omega) _).2 this
 have h2:=Qlf (prs d.length) d []
 have h3:(prs d.length).length≤10:=by
  have:∀ n,n≤5→(prs n).length≤10:=by decide +kernel
  exact this _ (by omega)
 have h4:2 ^ (prs d.length).length≤2 ^ 10:=Nat.pow_le_pow_right (by omega) h3
 have h5:(2:Nat) ^ 10=1024:=by decide
 have h6:(Jbt d).length=(subs (prs d.length) d []).length:=rfl
 rw [List.length_map] at h1
 omega
theorem Met.add {n:Nat} {d:List Int} {A:List Vs} (h:Met n d A) {g:List (Int×Int)} (hg:Qad n g=true) (hdg:Qew n g=d) (i:Nat) (hi:i < A.length) {s:Q4} (hs:Qdm g s.1 s.2.1 s.2.2.1 s.2.2.2=true)
 (hno:(A.any fun t=>decide (t.1.1=swq g s))=false):Met n d (A++[((swq g s,false),(i:Int),s)]):=by
 obtain ⟨-,-,k3,-⟩:=Qdf hg hs
 have k4:=Qu9 hg hs
 refine ⟨fun t ht=>?_,?_,fun k t hk=>?_,fun t ht=>?_⟩
 · rcases List.mem_append.1 ht with ht | ht
   · exact h.v t ht
   · rw [List.mem_singleton] at ht;subst ht;exact ⟨k3,by rw [← hdg];exact k4⟩
 · rw [List.map_append,List.nodup_append]
   refine ⟨h.nd,by simp,fun x hx y hy he=>?_⟩
   subst he
   simp only [List.map_cons,List.map_nil,List.mem_singleton] at hy
   obtain ⟨t,ht,hte⟩:=List.mem_map.1 hx
   have:=List.any_eq_false.1 hno t ht
   simp only [decide_eq_true_eq] at this
   exact this (by rw [hte,hy])
 · by_cases hkl:k < A.length
   · rw [List.getElem?_append_left hkl] at hk;exact h.fr k t hk
   · have hke:k=A.length:=by
      have:=(List.getElem?_eq_some_iff.1 hk).1
      simp at this;omega
     subst hke
     rw [List.getElem?_append_right (Nat.le_refl _),Nat.sub_self] at hk
     simp only [List.getElem?_cons_zero,Qoi] at hk
     subst hk
     simp only;omega
 · rcases List.mem_append.1 ht with ht | ht
   · exact h.lo t ht
   · rw [List.mem_singleton] at ht;subst ht;simp only;omega
theorem Qla {n:Nat} {d:List Int} {g:List (Int×Int)} (hg:Qad n g=true) (hdg:Qew n g=d) (i:Nat):∀ (r:List Q4) (A:List Vs),(∀ s ∈ r,Qdm g s.1 s.2.1 s.2.2.1 s.2.2.2=true)→Met n d A→i < A.length →
 Met n d (bfA g i r A)∧∃ B,bfA g i r A=A++B
 | [],A,_,h,_=>⟨h,[],by simp [bfA]⟩
 | s::r,A,hr,h,hi=>by
   rw [bfA]
   cases hq:A.any fun t=>decide (t.1.1=swq g s) with
   | true =>
     simp only [if_true]
     exact Qla hg hdg i r A (fun x hx=>hr x (by simp [hx])) h hi
   | false =>
     simp only [Bool.false_eq_true,if_false]
     have h2:=h.add hg hdg i hi (hr s (by simp)) hq
     obtain ⟨k1,B,k2⟩:=Qla hg hdg i r _ (fun x hx=>hr x (by simp [hx])) h2 (by simp;omega)
     exact ⟨k1,((swq g s,false),(i:Int),s)::B,by rw [k2];simp⟩
theorem Jya (n:Nat) (hn:n≤5) (d:List Int) (hd:d.length=n) (e0:Nat) (g:List (Int×Int)) (hg:Qad n g=true) (hdg:Qew n g=d) (i:Nat) (sl:List Q4) (hsl:sl.length≤2000000) (hs:∀ s ∈ sl,Qdm g s.1 s.2.1 s.2.2.1 s.2.2.2=true) (b0 b1:List IV) :
 ∀ (m j:Nat) (A:List Vs) (B:Qal),j+m=sl.length→Met n d A→(∃ c f q,A[i]? = some ((g,c),f,q)) →
 wp tb (.loop Qxw) { T:=[(3,.bptr 0 1 0),(6,.own 7 (vis n A)),(7,I i),(68,O4 sl),(69,I sl.length),(70,I j)],loc:=b0::b1::B,M:=[] }
  (fun ex st=>ex=.exit 4∧∃ B',st={ T:=[(3,.bptr 0 1 0),(6,.own 7 (vis n (bfA g i (sl.drop j) A))),(7,I i),(68,O4 sl),(69,I sl.length),(70,I sl.length),(71,Bo false)],loc:=b0::b1::B',M:=[] }):=by
 intro m
 induction m with
 | zero =>
   intro j A B hj hA hAi
   have h3:j=sl.length:=hj
   subst h3
   rw [List.drop_length,bfA]
   refine wW ?_
   repeat (first|apply wA|apply wS|refine wr (by simp;with_reducible rfl) ?_|refine wq (by simp;with_reducible rfl) ?_|refine wt (by simpa) ?_|refine wf (by simpa) ?_|refine xt (by simpa) ?_|refine xf (by simpa) ?_|apply wB|apply Qaa|refine wX ?_|refine wY ?_|refine wR ?_|refine wK ?_|refine wE ?_)
   exact ⟨rfl,B,rfl⟩
 | succ m ih =>
   intro j A B hj hA hAi
   have hj2:j < sl.length:=by omega
   have hdr:sl.drop j=sl[j]::sl.drop (j+1):=List.drop_eq_getElem_cons hj2
   obtain ⟨cg,f,q,hAi'⟩:=hAi
   have hi:i < A.length:=(List.getElem?_eq_some_iff.1 hAi').1
   have hAi2:A[i]=((g,cg),f,q):=(List.getElem?_eq_some_iff.1 hAi').2
   have w1:IntKind.i64.wrap ((j:Int)+1)=((j+1:Nat):Int):=Qbp (by omega)
   have hmay:=hs _ (List.getElem_mem hj2)
   obtain ⟨⟨a,b,x,y⟩,hx⟩:∃ s,s=sl[j]:=⟨_,rfl⟩
   have hx2:=hx.symm
   rw [hx2] at hmay hdr
   simp only at hmay
   have e1:=fun cc=>Qab (Qn8 n g cc a b x y hg)
   simp only [OS,hmay,if_true] at e1
   have hAl:=hA.few hn hd
   have h21:=Qmt (by omega) hg
   obtain ⟨-,-,k3,-⟩:=Qdf hg hmay
   have hR21:=Qmt (by omega) k3
   have e2:=Qab (Qin n A Qtd [.bptr 0 (B.length+1+1+1) 0] [b0::b1::(B++[[I a,I b,I x,I y],[I n,L2 (sw g a b x y) false]])] (fun t=>decide (t.1.1=sw g a b x y)) (by omega) (fun t ht=>by
    have hv:=(hA.v t ht).1
    have:=Qmt (by omega) hv
    exact Jaj n t (sw g a b x y) false (by omega) (by omega) _ 0 (B.length+1+1+1) (b0::b1::(B++[[I a,I b,I x,I y],[I n,L2 (sw g a b x y) false]])) rfl (by simp) (by simp) (by simp)))
   rw [hdr,bfA]
   simp only [swq]
   cases hq:A.any fun t=>decide (t.1.1=sw g a b x y) with
   | true =>
     rw [hq] at e2
     simp only [if_true]
     have hnx:=fun B=>ih (j+1) A B (by omega) hA ⟨cg,f,q,hAi'⟩
     generalize sw g a b x y=R at *
     refine wW ?_
     repeat (first|apply wA|apply wS|refine wr (by simp [hj2,hx2,w1];with_reducible rfl) ?_|refine wq (by simp [hj2,hx2,w1];with_reducible rfl) ?_|refine wt (by simpa [hj2,hx2,w1]) ?_|refine wf (by simpa [hj2,hx2,w1]) ?_|refine xt (by simpa [hj2,hx2,w1]) ?_|refine xf (by simpa [hj2,hx2,w1]) ?_|apply wB|apply Qaa|refine wX ?_|refine wY ?_|refine wR ?_|refine wK ?_|refine wE ?_)
     refine Qqo (by rfl) (by simp [hi,hAi2,hAi',e1];with_reducible rfl) (by simp;with_reducible rfl) ?_ ?_
     · intro p hp
       simp only [List.mem_cons,List.not_mem_nil,or_false] at hp
       rcases hp with rfl | rfl
       · exact ⟨_,by simp [hi,hAi2,hAi',e1];with_reducible rfl,by simp⟩
       · exact ⟨_,by simp [hi,hAi2,hAi',e1];with_reducible rfl,by simp⟩
     repeat (first|apply wA|apply wS|refine wr (by simp [e2,w1];with_reducible rfl) ?_|refine wq (by simp [e2,w1];with_reducible rfl) ?_|refine wt (by simpa [e2,w1]) ?_|refine wf (by simpa [e2,w1]) ?_|refine xt (by simpa [e2,w1]) ?_|refine xf (by simpa [e2,w1]) ?_|apply wB|apply Qaa|refine wX ?_|refine wY ?_|refine wR ?_|refine wK ?_|refine wE ?_)
     simpa using hnx (B++[[I a,I b,I x,I y],[I n,L2 R false]])
   | false =>
     rw [hq] at e2
     simp only [Bool.false_eq_true,if_false]
     have hA2:=hA.add hg hdg i hi (s:=(a,b,x,y)) hmay hq
     have hA2l:=hA2.few hn hd
     have hlm:A.length+1≤274877906944:=by omega
     have htt:A.take A.length=A:=List.take_of_length_le (Nat.le_refl _)
     have hnx:=fun B=>ih (j+1) (A++[((sw g a b x y,false),(i:Int),(a,b,x,y))]) B (by omega) hA2 ⟨cg,f,q,by rw [List.getElem?_append_left hi];exact hAi'⟩
     generalize sw g a b x y=R at *
     refine wW ?_
     repeat (first|apply wA|apply wS|refine wr (by simp [hj2,hx2,w1];with_reducible rfl) ?_|refine wq (by simp [hj2,hx2,w1];with_reducible rfl) ?_|refine wt (by simpa [hj2,hx2,w1]) ?_|refine wf (by simpa [hj2,hx2,w1]) ?_|refine xt (by simpa [hj2,hx2,w1]) ?_|refine xf (by simpa [hj2,hx2,w1]) ?_|apply wB|apply Qaa|refine wX ?_|refine wY ?_|refine wR ?_|refine wK ?_|refine wE ?_)
     refine Qqo (by rfl) (by simp [hi,hAi2,hAi',e1];with_reducible rfl) (by simp;with_reducible rfl) ?_ ?_
     · intro p hp
       simp only [List.mem_cons,List.not_mem_nil,or_false] at hp
       rcases hp with rfl | rfl
       · exact ⟨_,by simp [hi,hAi2,hAi',e1];with_reducible rfl,by simp⟩
       · exact ⟨_,by simp [hi,hAi2,hAi',e1];with_reducible rfl,by simp⟩
     repeat (first|apply wA|apply wS|refine wr (by simp [e2,w1,hlm,htt];with_reducible rfl) ?_|refine wq (by simp [e2,w1,hlm,htt];with_reducible rfl) ?_|refine wt (by simpa [e2,w1,hlm,htt]) ?_|refine wf (by simpa [e2,w1,hlm,htt]) ?_|refine xt (by simpa [e2,w1,hlm,htt]) ?_|refine xf (by simpa [e2,w1,hlm,htt]) ?_|apply wB|apply Qaa|refine wX ?_|refine wY ?_|refine wR ?_|refine wK ?_|refine wE ?_)
     simpa using hnx (B++[[I a,I b,I x,I y],[I n,L2 R false]])
end Go.Idl
namespace Go.Idl
open Go
theorem Jci (n:Nat) (d:List Int) (A:List Vs) (hA:Met n d A) (hl:A.length≤2000) (loc:Qal):∀ (m k:Nat) (acc:List Q4),k < m→k < A.length→acc.length+m≤100000 →
 wp tb (.loop Qwl) { T:=[(6,.own 7 (vis n A)),(8,O4 acc),(9,I k)],loc:=loc,M:=[] }
  (fun ex st=>ex=.exit 2∧∃ k':Nat,st={ T:=[(6,.own 7 (vis n A)),(8,O4 (acc++chn A m k)),(9,I k'),(45,Bo false)],loc:=loc,M:=[] }):=by
 intro m
 induction m with
 | zero=>intro k acc h;omega
 | succ m ih =>
   intro k acc hkm hkl hacc
   have hk:A[k]? = some A[k]:=List.getElem?_eq_getElem hkl
   have hfr:=hA.fr k _ hk
   have hlo:=hA.lo _ (List.getElem_mem hkl)
   obtain ⟨⟨⟨g,c⟩,f,a,b,x,y⟩,ht⟩:∃ t,t=A[k]:=⟨_,rfl⟩
   have ht2:=ht.symm
   rw [ht2] at hfr hlo hk
   simp only at hfr hlo
   have hc:chn A (m+1) k=if 0≤f then (a,b,x,y)::chn A m f else []:=by
    rw [chn,Int.toNat_natCast,hk]
   rw [hc]
   by_cases hf:0≤f
   · obtain ⟨p,rfl⟩:=Int.eq_ofNat_of_zero_le hf
     have hlm:acc.length+1≤274877906944:=by omega
     have htt:acc.take acc.length=acc:=List.take_of_length_le (Nat.le_refl _)
     have hn:=ih p (acc++[(a,b,x,y)]) (by omega) (by omega) (by simp;omega)
     rw [if_pos hf]
     refine wW ?_
     repeat (first|apply wA|apply wS|refine wr (by simp [hkl,ht2,hf,hlm,htt];with_reducible rfl) ?_|refine wq (by simp [hkl,ht2,hf,hlm,htt];with_reducible rfl) ?_|refine wt (by simpa [hkl,ht2,hf,hlm,htt]) ?_|refine wf (by simpa [hkl,ht2,hf,hlm,htt]) ?_|refine xt (by simpa [hkl,ht2,hf,hlm,htt]) ?_|refine xf (by simpa [hkl,ht2,hf,hlm,htt]) ?_|apply wB|apply Qaa|refine wX ?_|refine wY ?_|refine wR ?_|refine wK ?_|refine wE ?_)
     simpa using hn
   · rw [if_neg hf]
     refine wW ?_
     repeat (first|apply wA|apply wS|refine wr (by simp [hkl,ht2,hf];with_reducible rfl) ?_|refine wq (by simp [hkl,ht2,hf];with_reducible rfl) ?_|refine wt (by simpa [hkl,ht2,hf]) ?_|refine wf (by simpa [hkl,ht2,hf]) ?_|refine xt (by simpa [hkl,ht2,hf]) ?_|refine xf (by simpa [hkl,ht2,hf]) ?_|apply wB|apply Qaa|refine wX ?_|refine wY ?_|refine wR ?_|refine wK ?_|refine wE ?_)
     exact ⟨rfl,k,by simp⟩
theorem Qpq (g:List (Int×Int)) (i:Int):∀ (r:List Q4) (A:List Vs),A.length≤(bfA g i r A).length
 | [],A=>by rw [bfA];omega
 | s::r,A=>by
   have:=Qpq g i r (if (A.any fun t=>decide (t.1.1=swq g s))=true then A else A++[((swq g s,false),i,s)])
   rw [bfA]
   split at this
   · rw [if_pos ‹_›];omega
   · rw [if_neg ‹_›];simp at this;omega
set_option maxHeartbeats 4000000 in
theorem Jid (n:Nat) (hn:n≤5) (d:List Int) (hd:d.length=n) (h:List (Int×Int)) (ch:Bool) (hh:h.length≤21) (b0:List IV):∀ (m i:Nat) (A:List Vs) (B:Qal),i+m=1025→i≤A.length→Met n d A →
 wp tb (.loop Qxp) { T:=[(3,.bptr 0 1 0),(6,.own 7 (vis n A)),(7,I i)],loc:=b0::[I n,L2 h ch]::B,M:=[] }
  (fun ex st=>match bfs h m i A with
    | none=>ex=.exit 0∧∃ A' i' B',st={ T:=[(3,.bptr 0 1 0),(6,.own 7 (vis n A')),(7,I i'),(29,Bo false)],loc:=b0::[I n,L2 h ch]::B',M:=[] }
    | some (k,A')=>ex=.ret∧∃ B',st={ T:=[(4,O4 (chn A' (k+1) k).reverse),(5,Bo true)],loc:=b0::[I n,L2 h ch]::B',M:=[] }):=by
 intro m
 induction m with
 | zero =>
   intro i A B hi hiA hA
   have:=hA.few hn hd
   omega
 | succ m ih =>
   intro i A B hi hiA hA
   have hAl:=hA.few hn hd
   by_cases hie:i=A.length
   · subst hie
     have hb:bfs h (m+1) A.length A=none:=by
      rw [bfs,List.getElem?_eq_none (Nat.le_refl _)]
     rw [hb]
     refine wW ?_
     repeat (first|apply wA|apply wS|refine wr (by simp;with_reducible rfl) ?_|refine wq (by simp;with_reducible rfl) ?_|refine wt (by simpa) ?_|refine wf (by simpa) ?_|refine xt (by simpa) ?_|refine xf (by simpa) ?_|apply wB|apply Qaa|refine wX ?_|refine wY ?_|refine wR ?_|refine wK ?_|refine wE ?_)
     exact ⟨rfl,A,A.length,B,rfl⟩
   have hi2:i < A.length:=by omega
   have hk:A[i]? = some A[i]:=List.getElem?_eq_getElem hi2
   have hv:=hA.v _ (List.getElem_mem hi2)
   obtain ⟨⟨⟨g,c⟩,f,q⟩,ht⟩:∃ t,t=A[i]:=⟨_,rfl⟩
   have ht2:=ht.symm
   rw [ht2] at hv hk
   have hg:Qad n g=true:=hv.1
   have hdg:Qew n g=d:=hv.2
   have hg21:=Qmt (by omega) hg
   have w1:IntKind.i64.wrap ((i:Int)+1)=((i+1:Nat):Int):=Qbp (by omega)
   have e1:=fun c1 c2=>Qab (Qq0 n n g h c1 c2 (by omega) (by omega))
   simp only [decide_true,Bool.true_and] at e1
   have hb:bfs h (m+1) i A=if g=h then some (i,A) else bfs h m (i+1) (bfA g i (swl g g) A):=by
    rw [bfs,hk]
   rw [hb]
   by_cases hgh:g=h
   · rw [if_pos hgh]
     subst hgh
     simp only [decide_true] at e1
     have hcl:∀ (m:Nat) (k:Int),(chn A m k).length≤m:=by
      intro m
      induction m with
      | zero=>intro k;simp [chn]
      | succ m ih =>
        intro k
        rw [chn]
        split
        · simp
        · rename_i t _
          split
          · have:=ih t.2.1
            simp;omega
          · simp
     have hcl2:=hcl (i+1) i
     have lc:=Jci n d A hA (by omega) (b0::[I n,L2 g ch]::B) (i+1) i [] (by omega) hi2 (by simp;omega)
     rw [List.nil_append] at lc
     dsimp only
     generalize chn A (i+1) i=P at *
     have htr:P.reverse.take P.length=P.reverse:=List.take_of_length_le (by simp)
     have e2:=fun M=>Qab (Qpd P (by omega) M)
     have e3:=Qab (Qya P.reverse)
     refine wW ?_
     repeat (first|apply wA|apply wS|refine wr (by simp [hi2,ht2,e1];with_reducible rfl) ?_|refine wq (by simp [hi2,ht2,e1];with_reducible rfl) ?_|refine wt (by simpa [hi2,ht2,e1]) ?_|refine wf (by simpa [hi2,ht2,e1]) ?_|refine xt (by simpa [hi2,ht2,e1]) ?_|refine xf (by simpa [hi2,ht2,e1]) ?_|apply wB|apply Qaa|refine wX ?_|refine wY ?_|refine wR ?_|refine wK ?_|refine wE ?_)
     refine Qap lc ?_
     rintro ex st ⟨rfl,k',rfl⟩
     simp only [if_true]
     repeat (first|apply wA|apply wS|refine wr (by simp [e2,e3,htr];with_reducible rfl) ?_|refine wq (by simp [e2,e3,htr];with_reducible rfl) ?_|refine wt (by simpa [e2,e3,htr]) ?_|refine wf (by simpa [e2,e3,htr]) ?_|refine xt (by simpa [e2,e3,htr]) ?_|refine xf (by simpa [e2,e3,htr]) ?_|apply wB|apply Qaa|refine wX ?_|refine wY ?_|refine wR ?_|refine wK ?_|refine wE ?_)
     exact ⟨rfl,B,rfl⟩
   · rw [if_neg hgh]
     have hsl:(swl g g).length≤2000000:=by
      have:=Qp1 g g (by omega)
      omega
     have hsm:∀ s ∈ swl g g,Qdm g s.1 s.2.1 s.2.2.1 s.2.2.2=true:=fun s hs=>(Qqk hg hs).may
     have hmet:=Qla hg hdg i (swl g g) A hsm hA hi2
     have hln:=Qpq g i (swl g g) A
     have nx:=fun B=>ih (i+1) (bfA g i (swl g g) A) B (by omega) (by omega) hmet.1
     have lin:=Jya n hn d hd 0 g hg hdg i (swl g g) hsl hsm b0 [I n,L2 h ch] (swl g g).length 0 A B (by omega) hA ⟨c,f,q,hk⟩
     rw [List.drop_zero,show ((0:Nat):Int)=0 from rfl] at lin
     have e4:=fun c=>Qab (Qht n g c hg)
     simp only [decide_eq_false hgh] at e1
     cases hs:swl g g with
     | nil =>
       rw [hs] at e4 nx
       simp only [nl4] at e4
       simp only [bfA] at nx ⊢
       refine wW ?_
       repeat (first|apply wA|apply wS|refine wr (by simp [hi2,ht2,e1,e4];with_reducible rfl) ?_|refine wq (by simp [hi2,ht2,e1,e4];with_reducible rfl) ?_|refine wt (by simpa [hi2,ht2,e1,e4]) ?_|refine wf (by simpa [hi2,ht2,e1,e4]) ?_|refine xt (by simpa [hi2,ht2,e1,e4]) ?_|refine xf (by simpa [hi2,ht2,e1,e4]) ?_|apply wB|apply Qaa|refine wX ?_|refine wY ?_|refine wR ?_|refine wK ?_|refine wE ?_)
       refine wW ?_
       repeat (first|apply wA|apply wS|refine wr (by simp [w1];with_reducible rfl) ?_|refine wq (by simp [w1];with_reducible rfl) ?_|refine wt (by simpa [w1]) ?_|refine wf (by simpa [w1]) ?_|refine xt (by simpa [w1]) ?_|refine xf (by simpa [w1]) ?_|apply wB|apply Qaa|refine wX ?_|refine wY ?_|refine wR ?_|refine wK ?_|refine wE ?_)
       simpa using nx B
     | cons s r =>
       rw [hs] at e4 nx lin
       simp only [nl4] at e4
       generalize s::r=S at *
       refine wW ?_
       repeat (first|apply wA|apply wS|refine wr (by simp [hi2,ht2,e1,e4];with_reducible rfl) ?_|refine wq (by simp [hi2,ht2,e1,e4];with_reducible rfl) ?_|refine wt (by simpa [hi2,ht2,e1,e4]) ?_|refine wf (by simpa [hi2,ht2,e1,e4]) ?_|refine xt (by simpa [hi2,ht2,e1,e4]) ?_|refine xf (by simpa [hi2,ht2,e1,e4]) ?_|apply wB|apply Qaa|refine wX ?_|refine wY ?_|refine wR ?_|refine wK ?_|refine wE ?_)
       refine Qap lin ?_
       rintro ex st ⟨rfl,B',rfl⟩
       simp only [if_true]
       repeat (first|apply wA|apply wS|refine wr (by simp [w1];with_reducible rfl) ?_|refine wq (by simp [w1];with_reducible rfl) ?_|refine wt (by simpa [w1]) ?_|refine wf (by simpa [w1]) ?_|refine xt (by simpa [w1]) ?_|refine xf (by simpa [w1]) ?_|apply wB|apply Qaa|refine wX ?_|refine wY ?_|refine wR ?_|refine wK ?_|refine wE ?_)
       simpa using nx B'
def A0 (g:List (Int×Int)) (c:Bool):List Vs:=[((g,c),-1,(0,0,0,0))]
theorem Jw7 {n:Nat} {d:List Int} {g:List (Int×Int)} (hg:Qad n g=true) (hdg:Qew n g=d) (c:Bool):Met n d (A0 g c) where
 v:=fun t ht=>by
  simp only [A0,List.mem_singleton] at ht
  subst ht;exact ⟨hg,hdg⟩
 nd:=by simp [A0]
 fr:=fun k t hk=>by
  cases k with
  | zero=>simp only [A0,List.getElem?_cons_zero,Qoi] at hk;subst hk;simp
  | succ k=>simp [A0] at hk
 lo:=fun t ht=>by
  simp only [A0,List.mem_singleton] at ht
  subst ht;simp
def spI (g:List (Int×Int)) (c:Bool) (h:List (Int×Int)):Option (List Q4):=(bfs h 1025 0 (A0 g c)).map fun p=>(chn p.2 (p.1+1) p.1).reverse
def spV:Option (List Q4)→IV
 | none=>.tup [O4 [],Bo false]
 | some p=>.tup [O4 p,Bo true]
theorem Qi7 (n m:Int) (es fs:List (Int×Int)) (c1 c2:Bool) (f1:Fit es) (f2:Fit fs) (l1:es.length≤2000000) (l2:fs.length≤2000000) :
 Ev tb Qx8 [] [Gr n es c1,Gr m fs c2] [] ⟨Bo (Qad n es && (Qad m fs && decide (n=m))),[],[],[]⟩:=by
 have e1:=fun c=>Qab (Qej n es c f1 (by omega))
 have e2:=fun c=>Qab (Qej m fs c f2 (by omega))
 cases h1:Qad n es with
 | false =>
   rw [h1] at e1
   refine cW Qzy rfl ?_
   repeat (first|apply wA|apply wS|refine wr (by simp [e1];with_reducible rfl) ?_|refine wq (by simp [e1];with_reducible rfl) ?_|refine wt (by simpa [e1]) ?_|refine wf (by simpa [e1]) ?_|refine xt (by simpa [e1]) ?_|refine xf (by simpa [e1]) ?_|apply wB|apply Qaa|refine wX ?_|refine wY ?_|refine wR ?_|refine wK ?_|refine wE ?_)
   simp [Qpx]
 | true =>
   rw [h1] at e1
   cases h2:Qad m fs with
   | false =>
     rw [h2] at e2
     refine cW Qzy rfl ?_
     repeat (first|apply wA|apply wS|refine wr (by simp [e1,e2];with_reducible rfl) ?_|refine wq (by simp [e1,e2];with_reducible rfl) ?_|refine wt (by simpa [e1,e2]) ?_|refine wf (by simpa [e1,e2]) ?_|refine xt (by simpa [e1,e2]) ?_|refine xf (by simpa [e1,e2]) ?_|apply wB|apply Qaa|refine wX ?_|refine wY ?_|refine wR ?_|refine wK ?_|refine wE ?_)
     simp [Qpx]
   | true =>
     rw [h2] at e2
     by_cases hnm:n=m
     · subst hnm
       refine cW Qzy rfl ?_
       repeat (first|apply wA|apply wS|refine wr (by simp [e1,e2];with_reducible rfl) ?_|refine wq (by simp [e1,e2];with_reducible rfl) ?_|refine wt (by simpa [e1,e2]) ?_|refine wf (by simpa [e1,e2]) ?_|refine xt (by simpa [e1,e2]) ?_|refine xf (by simpa [e1,e2]) ?_|apply wB|apply Qaa|refine wX ?_|refine wY ?_|refine wR ?_|refine wK ?_|refine wE ?_)
       simp [Qpx]
     · refine cW Qzy rfl ?_
       repeat (first|apply wA|apply wS|refine wr (by simp [e1,e2,hnm];with_reducible rfl) ?_|refine wq (by simp [e1,e2,hnm];with_reducible rfl) ?_|refine wt (by simpa [e1,e2,hnm]) ?_|refine wf (by simpa [e1,e2,hnm]) ?_|refine xt (by simpa [e1,e2,hnm]) ?_|refine xf (by simpa [e1,e2,hnm]) ?_|apply wB|apply Qaa|refine wX ?_|refine wY ?_|refine wR ?_|refine wK ?_|refine wE ?_)
       simp [Qpx,hnm]
theorem Qiq (n m:Int) (g h:List (Int×Int)) (cg ch:Bool) (f1:Fit g) (f2:Fit h) (l1:g.length≤2000000) (l2:h.length≤2000000)
 (hno:(Qad n g && (Qad m h && (decide (n=m) && decide (n≤5))))=false) :
 Ev tb Qlj [] [Gr n g cg,Gr m h ch] [] ⟨spV none,[],[],[]⟩:=by
 have e1:=fun c1 c2=>Qab (Qi7 n m g h c1 c2 f1 f2 l1 l2)
 cases hb:Qad n g && (Qad m h && decide (n=m)) with
 | false =>
   rw [hb] at e1
   refine cW Ja4 rfl ?_
   repeat (first|apply wA|apply wS|refine wr (by simp [e1];with_reducible rfl) ?_|refine wq (by simp [e1];with_reducible rfl) ?_|refine wt (by simpa [e1]) ?_|refine wf (by simpa [e1]) ?_|refine xt (by simpa [e1]) ?_|refine xf (by simpa [e1]) ?_|apply wB|apply Qaa|refine wX ?_|refine wY ?_|refine wR ?_|refine wK ?_|refine wE ?_)
   simp [Qo5,spV]
 | true =>
   rw [hb] at e1
   have h5:(5:Int) < n:=by
    simp only [Qba] at hb
    rw [hb.1,hb.2.1,hb.2.2] at hno
    simp at hno;omega
   refine cW Ja4 rfl ?_
   repeat (first|apply wA|apply wS|refine wr (by simp [e1,h5];with_reducible rfl) ?_|refine wq (by simp [e1,h5];with_reducible rfl) ?_|refine wt (by simpa [e1,h5]) ?_|refine wf (by simpa [e1,h5]) ?_|refine xt (by simpa [e1,h5]) ?_|refine xf (by simpa [e1,h5]) ?_|apply wB|apply Qaa|refine wX ?_|refine wY ?_|refine wR ?_|refine wK ?_|refine wE ?_)
   simp [Qo5,spV]
set_option maxHeartbeats 4000000 in
theorem Qk9 (n:Nat) (g h:List (Int×Int)) (cg ch:Bool) (hn:n≤5) (hg:Qad n g=true) (hh:Qad n h=true) :
 Ev tb Qlj [] [Gr n g cg,Gr n h ch] [] ⟨spV (spI g cg h),[],[],[]⟩:=by
 have g21:=Qmt (by omega) hg
 have h21:=Qmt (by omega) hh
 have f1:Fit g:=fun e he=>by have:=Qa1.1 ((Qa2.1 hg).2.1 e he);omega
 have f2:Fit h:=fun e he=>by have:=Qa1.1 ((Qa2.1 hh).2.1 e he);omega
 have e1:=fun c1 c2=>Qab (Qi7 n n g h c1 c2 f1 f2 (by omega) (by omega))
 rw [hg,hh] at e1
 simp only [decide_true,Bool.and_self] at e1
 have h5:¬ (5:Int) < n:=by omega
 have h5':¬ 5 < n:=by omega
 have hdl:(Qew n g).length=n:=by rw [Qew,Qfb];simp
 have lo:=Jid n hn (Qew n g) hdl h ch h21 [I n,L2 g cg] 1025 0 (A0 g cg) [] (by omega) (by simp [A0]) (Jw7 hg rfl cg)
 rw [show ((0:Nat):Int)=0 from rfl] at lo
 unfold spI
 cases hb:bfs h 1025 0 (A0 g cg) with
 | none =>
   rw [hb] at lo
   refine cW Ja4 rfl ?_
   repeat (first|apply wA|apply wS|refine wr (by simp [e1,h5,h5'];with_reducible rfl) ?_|refine wq (by simp [e1,h5,h5'];with_reducible rfl) ?_|refine wt (by simpa [e1,h5,h5']) ?_|refine wf (by simpa [e1,h5,h5']) ?_|refine xt (by simpa [e1,h5,h5']) ?_|refine xf (by simpa [e1,h5,h5']) ?_|apply wB|apply Qaa|refine wX ?_|refine wY ?_|refine wR ?_|refine wK ?_|refine wE ?_)
   refine Qap lo ?_
   rintro ex st ⟨rfl,A',i',B',rfl⟩
   simp only [if_true]
   repeat (first|apply wA|apply wS|refine wr (by simp;with_reducible rfl) ?_|refine wq (by simp;with_reducible rfl) ?_|refine wt (by simpa) ?_|refine wf (by simpa) ?_|refine xt (by simpa) ?_|refine xf (by simpa) ?_|apply wB|apply Qaa|refine wX ?_|refine wY ?_|refine wR ?_|refine wK ?_|refine wE ?_)
   simp [Qo5,spV]
 | some p =>
   obtain ⟨k,A'⟩:=p
   rw [hb] at lo
   refine cW Ja4 rfl ?_
   repeat (first|apply wA|apply wS|refine wr (by simp [e1,h5,h5'];with_reducible rfl) ?_|refine wq (by simp [e1,h5,h5'];with_reducible rfl) ?_|refine wt (by simpa [e1,h5,h5']) ?_|refine wf (by simpa [e1,h5,h5']) ?_|refine xt (by simpa [e1,h5,h5']) ?_|refine xf (by simpa [e1,h5,h5']) ?_|apply wB|apply Qaa|refine wX ?_|refine wY ?_|refine wR ?_|refine wK ?_|refine wE ?_)
   refine Qap lo ?_
   rintro ex st ⟨rfl,B',rfl⟩
   simp [Qo5,spV]
end Go.Idl
namespace Go.Idl
open Go
def Qcp (g h:List (Int×Int)):Nat:=(g.filter fun e=>!has h e.1 e.2).length
theorem Qkl (e:Int×Int) (g h:List (Int×Int)):Qcp (e::g) h=(if has h e.1 e.2=true then 0 else 1)+Qcp g h:=by
 rw [Qcp,Qcp,List.filter_cons]
 cases has h e.1 e.2 <;> simp [Nat.add_comm]
theorem Qzi (g h:List (Int×Int)):Qcp g h≤g.length:=List.length_filter_le ..
theorem Qm1 (n m:Int) (g h:List (Int×Int)) (cg ch:Bool) (hg:g.length≤1000) (hh:h.length≤1000):Ev tb Qsh [] [Gr n g cg,Gr m h ch] [] ⟨I (Qcp g h+Qcp h g:Nat),[],[],[]⟩:=by
 have l1:∀ (k i c:Nat),i+k=g.length→c≤i→wp tb (.loop Jcu) { T:=[(2,.bptr 0 0 0),(3,.bptr 0 1 0),(5,I c),(6,I i)],loc:=[[I n,L2 g cg],[I m,L2 h ch]],M:=[] }
  (fun ex st=>ex=.exit 0∧st={ T:=[(2,.bptr 0 0 0),(3,.bptr 0 1 0),(5,I (c+Qcp (g.drop i) h:Nat)),(6,I g.length),(12,Bo false)],loc:=[[I n,L2 g cg],[I m,L2 h ch]],M:=[] }):=by
  intro k
  induction k with
  | zero =>
    intro i c hi hc
    have h3:i=g.length:=hi
    subst h3
    refine wW ?_
    repeat (first|apply wA|apply wS|refine wr (by simp;with_reducible rfl) ?_|refine wq (by simp;with_reducible rfl) ?_|refine wt (by simpa) ?_|refine wf (by simpa) ?_|refine xt (by simpa) ?_|refine xf (by simpa) ?_|apply wB|apply Qaa|refine wX ?_|refine wY ?_|refine wR ?_|refine wK ?_|refine wE ?_)
    exact ⟨rfl,by simp [Qcp]⟩
  | succ k ih =>
    intro i c hi hc
    have hi2:i < g.length:=by omega
    have w1:IntKind.i64.wrap ((i:Int)+1)=((i+1:Nat):Int):=Qbp (by omega)
    have w2:IntKind.i64.wrap ((c:Int)+1)=((c+1:Nat):Int):=Qbp (by omega)
    have hd:g.drop i=g[i]::g.drop (i+1):=List.drop_eq_getElem_cons hi2
    obtain ⟨⟨a,b⟩,he⟩:∃ e,e=g[i]:=⟨_,rfl⟩
    have he2:=he.symm
    have e1:=fun c=>Qab (Qhz m h c a b (by omega))
    rw [hd,he2,Qkl]
    cases hv:has h a b with
    | true =>
      rw [hv] at e1
      refine wW ?_
      repeat (first|apply wA|apply wS|refine wr (by simp [hi2,he2,e1,w1];with_reducible rfl) ?_|refine wq (by simp [hi2,he2,e1,w1];with_reducible rfl) ?_|refine wt (by simpa [hi2,he2,e1,w1]) ?_|refine wf (by simpa [hi2,he2,e1,w1]) ?_|refine xt (by simpa [hi2,he2,e1,w1]) ?_|refine xf (by simpa [hi2,he2,e1,w1]) ?_|apply wB|apply Qaa|refine wX ?_|refine wY ?_|refine wR ?_|refine wK ?_|refine wE ?_)
      simpa using ih (i+1) c (by omega) (by omega)
    | false =>
      rw [hv] at e1
      refine wW ?_
      repeat (first|apply wA|apply wS|refine wr (by simp [hi2,he2,e1,w1,w2];with_reducible rfl) ?_|refine wq (by simp [hi2,he2,e1,w1,w2];with_reducible rfl) ?_|refine wt (by simpa [hi2,he2,e1,w1,w2]) ?_|refine wf (by simpa [hi2,he2,e1,w1,w2]) ?_|refine xt (by simpa [hi2,he2,e1,w1,w2]) ?_|refine xf (by simpa [hi2,he2,e1,w1,w2]) ?_|apply wB|apply Qaa|refine wX ?_|refine wY ?_|refine wR ?_|refine wK ?_|refine wE ?_)
      have:=ih (i+1) (c+1) (by omega) (by omega)
      simpa [Nat.add_assoc,Int.add_assoc] using this
 have l2:∀ (k i c:Nat),i+k=h.length→c≤1000+i→wp tb (.loop Qyp) { T:=[(2,.bptr 0 0 0),(3,.bptr 0 1 0),(5,I c),(7,I i)],loc:=[[I n,L2 g cg],[I m,L2 h ch]],M:=[] }
  (fun ex st=>ex=.exit 2∧st={ T:=[(2,.bptr 0 0 0),(3,.bptr 0 1 0),(5,I (c+Qcp (h.drop i) g:Nat)),(7,I h.length),(36,Bo false)],loc:=[[I n,L2 g cg],[I m,L2 h ch]],M:=[] }):=by
  intro k
  induction k with
  | zero =>
    intro i c hi hc
    have h3:i=h.length:=hi
    subst h3
    refine wW ?_
    repeat (first|apply wA|apply wS|refine wr (by simp;with_reducible rfl) ?_|refine wq (by simp;with_reducible rfl) ?_|refine wt (by simpa) ?_|refine wf (by simpa) ?_|refine xt (by simpa) ?_|refine xf (by simpa) ?_|apply wB|apply Qaa|refine wX ?_|refine wY ?_|refine wR ?_|refine wK ?_|refine wE ?_)
    exact ⟨rfl,by simp [Qcp]⟩
  | succ k ih =>
    intro i c hi hc
    have hi2:i < h.length:=by omega
    have w1:IntKind.i64.wrap ((i:Int)+1)=((i+1:Nat):Int):=Qbp (by omega)
    have w2:IntKind.i64.wrap ((c:Int)+1)=((c+1:Nat):Int):=Qbp (by omega)
    have hd:h.drop i=h[i]::h.drop (i+1):=List.drop_eq_getElem_cons hi2
    obtain ⟨⟨a,b⟩,he⟩:∃ e,e=h[i]:=⟨_,rfl⟩
    have he2:=he.symm
    have e1:=fun c=>Qab (Qhz n g c a b (by omega))
    rw [hd,he2,Qkl]
    cases hv:has g a b with
    | true =>
      rw [hv] at e1
      refine wW ?_
      repeat (first|apply wA|apply wS|refine wr (by simp [hi2,he2,e1,w1];with_reducible rfl) ?_|refine wq (by simp [hi2,he2,e1,w1];with_reducible rfl) ?_|refine wt (by simpa [hi2,he2,e1,w1]) ?_|refine wf (by simpa [hi2,he2,e1,w1]) ?_|refine xt (by simpa [hi2,he2,e1,w1]) ?_|refine xf (by simpa [hi2,he2,e1,w1]) ?_|apply wB|apply Qaa|refine wX ?_|refine wY ?_|refine wR ?_|refine wK ?_|refine wE ?_)
      simpa using ih (i+1) c (by omega) (by omega)
    | false =>
      rw [hv] at e1
      refine wW ?_
      repeat (first|apply wA|apply wS|refine wr (by simp [hi2,he2,e1,w1,w2];with_reducible rfl) ?_|refine wq (by simp [hi2,he2,e1,w1,w2];with_reducible rfl) ?_|refine wt (by simpa [hi2,he2,e1,w1,w2]) ?_|refine wf (by simpa [hi2,he2,e1,w1,w2]) ?_|refine xt (by simpa [hi2,he2,e1,w1,w2]) ?_|refine xf (by simpa [hi2,he2,e1,w1,w2]) ?_|apply wB|apply Qaa|refine wX ?_|refine wY ?_|refine wR ?_|refine wK ?_|refine wE ?_)
      have:=ih (i+1) (c+1) (by omega) (by omega)
      simpa [Nat.add_assoc,Int.add_assoc] using this
 have q1:=l1 g.length 0 0 (by omega) (by omega)
 have hl:=Qzi g h
 have q2:=l2 h.length 0 (Qcp g h) (by omega) (by omega)
 rw [List.drop_zero,Nat.zero_add] at q1
 rw [List.drop_zero] at q2
 refine cW Jy8 rfl ?_
 repeat (first|apply wA|apply wS|refine wr (by simp;with_reducible rfl) ?_|refine wq (by simp;with_reducible rfl) ?_|refine wt (by simpa) ?_|refine wf (by simpa) ?_|refine xt (by simpa) ?_|refine xf (by simpa) ?_|apply wB|apply Qaa|refine wX ?_|refine wY ?_|refine wR ?_|refine wK ?_|refine wE ?_)
 refine Qap q1 ?_
 rintro ex st ⟨rfl,rfl⟩
 simp only [if_true]
 repeat (first|apply wA|apply wS|refine wr (by simp;with_reducible rfl) ?_|refine wq (by simp;with_reducible rfl) ?_|refine wt (by simpa) ?_|refine wf (by simpa) ?_|refine xt (by simpa) ?_|refine xf (by simpa) ?_|apply wB|apply Qaa|refine wX ?_|refine wY ?_|refine wR ?_|refine wK ?_|refine wE ?_)
 refine Qap q2 ?_
 rintro ex st ⟨rfl,rfl⟩
 simp only [if_true]
 repeat (first|apply wA|apply wS|refine wr (by simp;with_reducible rfl) ?_|refine wq (by simp;with_reducible rfl) ?_|refine wt (by simpa) ?_|refine wf (by simpa) ?_|refine xt (by simpa) ?_|refine xf (by simpa) ?_|apply wB|apply Qaa|refine wX ?_|refine wY ?_|refine wR ?_|refine wK ?_|refine wE ?_)
 simp [Jbr]
abbrev Ps:=(List (Int×Int)×Bool)×List Q4
def rcl (n:Int) (A:List Ps):List (List IV):=A.map fun t=>[I n,L2 t.1.1 t.1.2,L4 t.2 false]
@[simp] theorem rcl_len (n:Int) (A:List Ps):(rcl n A).length=A.length:=by simp [rcl]
@[simp] theorem rcl_get? (n:Int) (A:List Ps) (i:Nat):(rcl n A)[i]? = A[i]?.map fun t=>[I n,L2 t.1.1 t.1.2,L4 t.2 false]:=by simp [rcl]
@[simp] theorem Jxk (n:Int) (A:List Ps) (i:Nat) (h:i < (rcl n A).length):(rcl n A)[i]=[I n,L2 (A[i]'(by simpa using h)).1.1 (A[i]'(by simpa using h)).1.2,L4 (A[i]'(by simpa using h)).2 false]:=by simp [rcl]
theorem Qn0 (n:Int) (A:List Ps) (c:Bool) (g:List (Int×Int)) (cg:Bool) (hA:A.length≤2000000) (hl:∀ t ∈ A,t.1.1.length≤1000) (hg:g.length≤1000) :
 ∃ r:Int,decide (r < 0)=(A.all fun t=>!decide (Qcp t.1.1 g+Qcp g t.1.1=0))∧Ev tb Qse [] [.lst 3 (rcl n A) c,Gr n g cg] [] ⟨I r,[],[],[]⟩:=by
 have loop:∀ (m i:Nat),i+m=A.length→wp tb (.loop Jda) { T:=[(0,.lst 3 (rcl n A) c),(3,.bptr 0 0 0),(5,I i)],loc:=[[I n,L2 g cg]],M:=[] }
  (fun ex st=>(ex=.exit 0∧((A.drop i).all fun t=>!decide (Qcp t.1.1 g+Qcp g t.1.1=0))=true∧st={ T:=[(0,.lst 3 (rcl n A) c),(3,.bptr 0 0 0),(5,I A.length),(9,Bo false)],loc:=[[I n,L2 g cg]],M:=[] }) ∨
    ex=.ret∧((A.drop i).all fun t=>!decide (Qcp t.1.1 g+Qcp g t.1.1=0))=false∧∃ k:Nat,st={ T:=[(4,I k)],loc:=[[I n,L2 g cg]],M:=[] }):=by
  intro m
  induction m with
  | zero =>
    intro i hi
    have h3:i=A.length:=hi
    subst h3
    refine wW ?_
    repeat (first|apply wA|apply wS|refine wr (by simp;with_reducible rfl) ?_|refine wq (by simp;with_reducible rfl) ?_|refine wt (by simpa) ?_|refine wf (by simpa) ?_|refine xt (by simpa) ?_|refine xf (by simpa) ?_|apply wB|apply Qaa|refine wX ?_|refine wY ?_|refine wR ?_|refine wK ?_|refine wE ?_)
    exact .inl ⟨rfl,by simp,rfl⟩
  | succ m ih =>
    intro i hi
    have hi2:i < A.length:=by omega
    have h2:A.drop i=A[i]::A.drop (i+1):=List.drop_eq_getElem_cons hi2
    have hll:=hl _ (List.getElem_mem hi2)
    have w1:IntKind.i64.wrap ((i:Int)+1)=((i+1:Nat):Int):=Qbp (by omega)
    have hn:=ih (i+1) (by omega)
    obtain ⟨⟨⟨h,ch⟩,p⟩,ht⟩:∃ t,t=A[i]:=⟨_,rfl⟩
    have ht2:=ht.symm
    rw [ht2] at hll
    have e1:=fun c1 c2=>Qab (Qm1 n n h g c1 c2 hll hg)
    rw [h2,ht2,List.all_cons]
    simp only
    generalize Qcp h g+Qcp g h=k at *
    by_cases hk:k=0
    · subst hk
      refine wW ?_
      repeat (first|apply wA|apply wS|refine wr (by simp [e1,hi2,ht2,w1];with_reducible rfl) ?_|refine wq (by simp [e1,hi2,ht2,w1];with_reducible rfl) ?_|refine wt (by simpa [e1,hi2,ht2,w1]) ?_|refine wf (by simpa [e1,hi2,ht2,w1]) ?_|refine xt (by simpa [e1,hi2,ht2,w1]) ?_|refine xf (by simpa [e1,hi2,ht2,w1]) ?_|apply wB|apply Qaa|refine wX ?_|refine wY ?_|refine wR ?_|refine wK ?_|refine wE ?_)
      exact .inr ⟨rfl,rfl,i,rfl⟩
    · have hk2:¬ (k:Int)=0:=by omega
      refine wW ?_
      repeat (first|apply wA|apply wS|refine wr (by simp [e1,hi2,ht2,w1,hk,hk2];with_reducible rfl) ?_|refine wq (by simp [e1,hi2,ht2,w1,hk,hk2];with_reducible rfl) ?_|refine wt (by simpa [e1,hi2,ht2,w1,hk,hk2]) ?_|refine wf (by simpa [e1,hi2,ht2,w1,hk,hk2]) ?_|refine xt (by simpa [e1,hi2,ht2,w1,hk,hk2]) ?_|refine xf (by simpa [e1,hi2,ht2,w1,hk,hk2]) ?_|apply wB|apply Qaa|refine wX ?_|refine wY ?_|refine wR ?_|refine wK ?_|refine wE ?_)
      simpa [hk] using hn
 have l0:=loop A.length 0 (by omega)
 rw [List.drop_zero,show ((0:Nat):Int)=0 from rfl] at l0
 suffices hh:∃ r,(∃ q:Int,decide (q < 0)=(A.all fun t=>!decide (Qcp t.1.1 g+Qcp g t.1.1=0))∧r=(⟨I q,[],[],[]⟩:Ret))∧Ev tb Qse [] [.lst 3 (rcl n A) c,Gr n g cg] [] r by
  obtain ⟨r,⟨q,h1,rfl⟩,h⟩:=hh
  exact ⟨q,h1,h⟩
 refine Qho Jwg rfl ?_
 repeat (first|apply wA|apply wS|refine wr (by simp;with_reducible rfl) ?_|refine wq (by simp;with_reducible rfl) ?_|refine wt (by simpa) ?_|refine wf (by simpa) ?_|refine xt (by simpa) ?_|refine xf (by simpa) ?_|apply wB|apply Qaa|refine wX ?_|refine wY ?_|refine wR ?_|refine wK ?_|refine wE ?_)
 refine Qap l0 ?_
 rintro ex st (⟨rfl,h,rfl⟩ | ⟨rfl,h,k,rfl⟩)
 · simp only [if_true]
   repeat (first|apply wA|apply wS|refine wr (by simp;with_reducible rfl) ?_|refine wq (by simp;with_reducible rfl) ?_|refine wt (by simpa) ?_|refine wf (by simpa) ?_|refine xt (by simpa) ?_|refine xf (by simpa) ?_|apply wB|apply Qaa|refine wX ?_|refine wY ?_|refine wR ?_|refine wK ?_|refine wE ?_)
   refine ⟨.inr rfl,_,⟨-1,by rw [h];rfl,rfl⟩,?_⟩
   simp [Qv5]
 · refine ⟨.inr rfl,_,⟨(k:Int),by rw [h];exact decide_eq_false (by omega),rfl⟩,?_⟩
   simp [Qv5]
end Go.Idl
namespace Go.Idl
open Go
theorem Qou {n:Nat} {d:List Int} {A:List Vs} (hA:Met n d A) (X:List Vs):∀ (m k:Nat),k < A.length→chn (A++X) m k=chn A m k:=by
 intro m
 induction m with
 | zero=>intro k _;rfl
 | succ m ih =>
   intro k hk
   have hk2:A[k]? = some A[k]:=List.getElem?_eq_getElem hk
   have hfr:=hA.fr k _ hk2
   rw [chn,chn,Int.toNat_natCast,List.getElem?_append_left hk,hk2]
   simp only
   by_cases hf:0≤A[k].2.1
   · rw [if_pos hf,if_pos hf]
     obtain ⟨p,hp⟩:=Int.eq_ofNat_of_zero_le hf
     rw [hp] at hfr ⊢
     rw [ih p (by omega)]
   · rw [if_neg hf,if_neg hf]
theorem Qra {n:Nat} {d:List Int} {A:List Vs} (hA:Met n d A):∀ (m m' k:Nat),k < A.length→k < m→m≤m'→chn A m' k=chn A m k:=by
 intro m
 induction m with
 | zero=>intro m' k _ h;omega
 | succ m ih =>
   intro m' k hk hm hmm
   obtain ⟨m',rfl⟩:∃ x,m'=x+1:=⟨m' - 1,by omega⟩
   have hk2:A[k]? = some A[k]:=List.getElem?_eq_getElem hk
   have hfr:=hA.fr k _ hk2
   rw [chn,chn,Int.toNat_natCast,hk2]
   simp only
   by_cases hf:0≤A[k].2.1
   · rw [if_pos hf,if_pos hf]
     obtain ⟨p,hp⟩:=Int.eq_ofNat_of_zero_le hf
     rw [hp] at hfr ⊢
     rw [ih m' p (by omega) (by omega) (by omega)]
   · rw [if_neg hf,if_neg hf]
theorem Qve (A:List Vs):∀ (m:Nat) (k:Int),(chn A m k).length≤m:=by
 intro m
 induction m with
 | zero=>intro k;simp [chn]
 | succ m ih =>
   intro k
   rw [chn]
   split
   · simp
   · rename_i t _
     split
     · have:=ih t.2.1
       simp;omega
     · simp
def pth (A:List Vs):List Ps:=A.zipIdx.map fun p=>(p.1.1,(chn A (p.2+1) p.2).reverse)
theorem Qd5 (A:List Vs):(pth A).length=A.length:=by simp [pth]
theorem pth_get? (A:List Vs) (k:Nat):(pth A)[k]? = A[k]?.map fun t=>(t.1,(chn A (k+1) k).reverse):=by
 simp [pth,List.getElem?_zipIdx,Function.comp_def]
theorem Jfs {n:Nat} {d:List Int} {A:List Vs} (hA:Met n d A) (x:List (Int×Int)×Bool) (i:Nat) (s:Q4) (hi:i < A.length) (hA2:Met n d (A++[(x,(i:Int),s)])) :
 pth (A++[(x,(i:Int),s)])=pth A++[(x,(chn A (i+1) i).reverse++[s])]:=by
 refine List.ext_getElem? fun k=>?_
 rw [pth_get?]
 by_cases hk:k < A.length
 · rw [List.getElem?_append_left hk,List.getElem?_append_left (by rw [Qd5];exact hk),pth_get?,Qou hA _ _ _ hk]
 · by_cases hk2:k=A.length
   · subst hk2
     rw [List.getElem?_append_right (Nat.le_refl _),List.getElem?_append_right (by rw [Qd5];omega)]
     simp only [Nat.sub_self,List.getElem?_cons_zero,Option.map_some,Qd5]
     have h1:chn (A++[(x,(i:Int),s)]) (A.length+1) A.length=s::chn A (i+1) i:=by
      rw [chn,Int.toNat_natCast,List.getElem?_append_right (Nat.le_refl _),Nat.sub_self]
      simp only [List.getElem?_cons_zero]
      rw [if_pos (by omega),Qou hA _ _ _ hi,Qra hA (i+1) A.length i hi (by omega) (by omega)]
     rw [h1,List.reverse_cons]
   · rw [List.getElem?_eq_none (by simp;omega),List.getElem?_eq_none (by simp [Qd5];omega)];rfl
def rco (n:Int) (A:List Ps):List (List IV):=A.map fun t=>[I n,L2 t.1.1 t.1.2,O4 t.2]
@[simp] theorem Jx4 (n:Int) (A:List Ps):(rco n A).length=A.length:=by simp [rco]
@[simp] theorem rco_get? (n:Int) (A:List Ps) (i:Nat):(rco n A)[i]? = A[i]?.map fun t=>[I n,L2 t.1.1 t.1.2,O4 t.2]:=by simp [rco]
@[simp] theorem Jwa (n:Int) (A:List Ps) (i:Nat) (h:i < (rco n A).length):(rco n A)[i]=[I n,L2 (A[i]'(by simpa using h)).1.1 (A[i]'(by simpa using h)).1.2,O4 (A[i]'(by simpa using h)).2]:=by simp [rco]
@[simp] theorem Ju5 (n:Int) (A:List Ps) (k:Nat):(rco n A).take k=rco n (A.take k):=by simp [rco,List.map_take]
@[simp] theorem Jz6 (n:Int) (A:List Ps) (es:List (Int×Int)) (c:Bool) (p:List Q4):rco n A++[[IV.sc (.int .i64 n),.lst 2 (eds es) c,.own 4 (sws p)]]=rco n (A++[((es,c),p)]):=by simp [rco]
@[simp] theorem Jzc (n:Int) (A:List Ps):(rco n A).isEmpty=A.isEmpty:=by cases A <;> rfl
@[simp] theorem Jxt (n:Int) (A:List Ps):((rco n A).all fun x=>x.all IV.isData)=true:=by
  induction A with
  | nil=>rfl
  | cons x xs ih=>simp only [rco,List.map_cons,List.all_cons] at *;rw [ih];rfl
@[simp] theorem Jw8 (n:Int) (A:List Ps):Qcc (rco n A)=rcl n A:=by
  induction A with
  | nil=>rfl
  | cons x xs ih=>simp only [rco,rcl,List.map_cons,Qcc,Qcx,Qge,Jfl] at *;rw [ih]
theorem Qhv {n:Nat} {g h:List (Int×Int)} (hg:Qad n g=true) (hh:Qad n h=true):(Qcp g h+Qcp h g=0) ↔ g=h:=by
 have one:∀ {g h:List (Int×Int)},Qad n g=true→Qad n h=true→Qcp g h=0→∀ e ∈ g,e ∈ h:=fun {g h} hg hh h0 e he=>by
  have h1:=List.length_eq_zero_iff.1 h0
  have h2:=List.filter_eq_nil_iff.1 h1 e he
  have hp:=Qa1.1 ((Qa2.1 hg).2.1 e he)
  simp only [Bool.not_eq_true,Bool.not_eq_false'] at h2
  rw [has,List.any_eq_true] at h2
  obtain ⟨f,hf,hq⟩:=h2
  have hpf:=Qa1.1 ((Qa2.1 hh).2.1 f hf)
  simp only [isE,Bool.or_eq_true,Qba,decide_eq_true_eq] at hq
  have:e=f:=Prod.ext (by omega) (by omega)
  rwa [this]
 constructor
 · intro h0
   exact Qh9 (Qa2.1 hg).1 (Qa2.1 hh).1 fun e=>⟨one hg hh (by omega) e,one hh hg (by omega) e⟩
 · rintro rfl
   have:Qcp g g=0:=by
    rw [Qcp,List.length_eq_zero_iff,List.filter_eq_nil_iff]
    intro e he
    simp only [Bool.not_eq_true,Bool.not_eq_false',has,List.any_eq_true]
    exact ⟨e,he,by simp [isE]⟩
   omega
set_option maxHeartbeats 4000000 in
theorem Jvx (n:Nat) (hn:n≤5) (d:List Int) (hd:d.length=n) (g:List (Int×Int)) (hg:Qad n g=true) (hdg:Qew n g=d) (i:Nat) (sl:List Q4) (hsl:sl.length≤2000000) (hs:∀ s ∈ sl,Qdm g s.1 s.2.1 s.2.2.1 s.2.2.2=true) (b0 b1:List IV) :
 ∀ (m j:Nat) (A:List Vs) (B:Qal),j+m=sl.length→Met n d A→(∃ c f q,A[i]? = some ((g,c),f,q)) →
 wp tb (.loop Qu8) { T:=[(3,.bptr 0 1 0),(6,.own 3 (rco n (pth A))),(7,I i),(8,O4 sl),(9,I j)],loc:=b0::b1::B,M:=[] }
  (fun ex st=>ex=.exit 2∧∃ B',st={ T:=[(3,.bptr 0 1 0),(6,.own 3 (rco n (pth (bfA g i (sl.drop j) A)))),(7,I i),(8,O4 sl),(9,I sl.length),(63,Bo false)],loc:=b0::b1::B',M:=[] }):=by
 intro m
 induction m with
 | zero =>
   intro j A B hj hA hAi
   have h3:j=sl.length:=hj
   subst h3
   rw [List.drop_length,bfA]
   refine wW ?_
   repeat (first|apply wA|apply wS|refine wr (by simp;with_reducible rfl) ?_|refine wq (by simp;with_reducible rfl) ?_|refine wt (by simpa) ?_|refine wf (by simpa) ?_|refine xt (by simpa) ?_|refine xf (by simpa) ?_|apply wB|apply Qaa|refine wX ?_|refine wY ?_|refine wR ?_|refine wK ?_|refine wE ?_)
   exact ⟨rfl,B,rfl⟩
 | succ m ih =>
   intro j A B hj hA hAi
   have hj2:j < sl.length:=by omega
   have hdr:sl.drop j=sl[j]::sl.drop (j+1):=List.drop_eq_getElem_cons hj2
   obtain ⟨cg,f,q,hAi'⟩:=hAi
   have hi:i < A.length:=(List.getElem?_eq_some_iff.1 hAi').1
   obtain ⟨P,hP⟩:∃ P,P=(chn A (i+1) i).reverse:=⟨_,rfl⟩
   have hPl:P.length≤i+1:=by rw [hP,List.length_reverse];exact Qve A (i+1) i
   have hpi:(pth A)[i]? = some ((g,cg),P):=by rw [pth_get?,hAi',hP];rfl
   have hip:i < (pth A).length:=by rw [Qd5];exact hi
   have hpi2:(pth A)[i]=((g,cg),P):=(List.getElem?_eq_some_iff.1 hpi).2
   have w1:IntKind.i64.wrap ((j:Int)+1)=((j+1:Nat):Int):=Qbp (by omega)
   have hmay:=hs _ (List.getElem_mem hj2)
   obtain ⟨⟨a,b,x,y⟩,hx⟩:∃ s,s=sl[j]:=⟨_,rfl⟩
   have hx2:=hx.symm
   rw [hx2] at hmay hdr
   simp only at hmay
   have h21:=Qmt (by omega) hg
   have e1:=fun cc=>Qab (Qov n g cc a b x y (by omega))
   rw [Jzu hg hmay] at e1
   have hAl:=hA.few hn hd
   obtain ⟨-,-,k3,-⟩:=Qdf hg hmay
   have hR21:=Qmt (by omega) k3
   have hvp:∀ t ∈ pth A,Qad n t.1.1=true:=fun t ht=>by
    obtain ⟨k,hk⟩:=List.mem_iff_getElem?.1 ht
    rw [pth_get?] at hk
    cases hq:A[k]? with
    | none=>rw [hq] at hk;cases hk
    | some u =>
      rw [hq] at hk
      simp only [Option.map_some,Qoi] at hk
      subst hk
      exact (hA.v u (List.mem_of_getElem? hq)).1
   obtain ⟨r,hr,E⟩:=Qn0 n (pth A) false (sw g a b x y) false (by rw [Qd5];omega) (fun t ht=>by have:=Qmt (by omega) (hvp t ht);omega) (by omega)
   have e2:=Qab E
   have hr2:decide (r < 0)=!(A.any fun t=>decide (t.1.1=swq g (a,b,x,y))):=by
    rw [hr,List.not_any_eq_all_not,Bool.eq_iff_iff,List.all_eq_true,List.all_eq_true]
    constructor
    · intro h t ht
      obtain ⟨k,hk⟩:=List.mem_iff_getElem?.1 ht
      have hm:(t.1,(chn A (k+1) k).reverse) ∈ pth A:=List.mem_of_getElem? (i:=k) (by rw [pth_get?,hk];rfl)
      have:=h _ hm
      simp only [Bool.not_eq_true',decide_eq_false_iff_not] at this ⊢
      intro he
      exact this ((Qhv (hvp _ hm) k3).2 he)
    · intro h t ht
      obtain ⟨k,hk⟩:=List.mem_iff_getElem?.1 ht
      rw [pth_get?] at hk
      cases hq:A[k]? with
      | none=>rw [hq] at hk;cases hk
      | some u =>
        rw [hq] at hk
        simp only [Option.map_some,Qoi] at hk
        have:=h u (List.mem_of_getElem? hq)
        simp only [Bool.not_eq_true',decide_eq_false_iff_not] at this ⊢
        intro he
        have hv:=hvp t ht
        subst hk
        exact this ((Qhv hv k3).1 he)
   rw [hdr,bfA]
   simp only [swq] at hr2 ⊢
   cases hq:A.any fun t=>decide (t.1.1=sw g a b x y) with
   | true =>
     rw [hq] at hr2
     have hr3:¬ r < 0:=by simpa using hr2
     simp only [if_true]
     have hnx:=fun B=>ih (j+1) A B (by omega) hA ⟨cg,f,q,hAi'⟩
     generalize sw g a b x y=R at *
     refine wW ?_
     repeat (first|apply wA|apply wS|refine wr (by simp [hj2,hx2,w1];with_reducible rfl) ?_|refine wq (by simp [hj2,hx2,w1];with_reducible rfl) ?_|refine wt (by simpa [hj2,hx2,w1]) ?_|refine wf (by simpa [hj2,hx2,w1]) ?_|refine xt (by simpa [hj2,hx2,w1]) ?_|refine xf (by simpa [hj2,hx2,w1]) ?_|apply wB|apply Qaa|refine wX ?_|refine wY ?_|refine wR ?_|refine wK ?_|refine wE ?_)
     refine Qea (by simp [hip,hpi2,hpi,hj2,hx2,e1];with_reducible rfl) (by simp;with_reducible rfl) ?_ ?_
     · intro p hp
       simp only [List.mem_cons,List.not_mem_nil,or_false] at hp
       rcases hp with rfl | rfl | rfl | rfl
       · exact ⟨_,by simp [hip,hpi2,hpi,hj2,hx2,e1];with_reducible rfl,by simp⟩
       · exact ⟨_,by simp [hip,hpi2,hpi,hj2,hx2,e1];with_reducible rfl,by simp⟩
       · exact ⟨_,by simp [hip,hpi2,hpi,hj2,hx2,e1];with_reducible rfl,by simp⟩
       · exact ⟨_,by simp [hip,hpi2,hpi,hj2,hx2,e1];with_reducible rfl,by simp⟩
     repeat (first|apply wA|apply wS|refine wr (by simp [e2,hr3,w1];with_reducible rfl) ?_|refine wq (by simp [e2,hr3,w1];with_reducible rfl) ?_|refine wt (by simpa [e2,hr3,w1]) ?_|refine wf (by simpa [e2,hr3,w1]) ?_|refine xt (by simpa [e2,hr3,w1]) ?_|refine xf (by simpa [e2,hr3,w1]) ?_|apply wB|apply Qaa|refine wX ?_|refine wY ?_|refine wR ?_|refine wK ?_|refine wE ?_)
     simpa using hnx (B++[[I n,L2 R false]])
   | false =>
     rw [hq] at hr2
     have hr3:r < 0:=by simpa using hr2
     simp only [Bool.false_eq_true,if_false]
     have hA2:=hA.add hg hdg i hi (s:=(a,b,x,y)) hmay hq
     simp only [swq] at hA2
     have hadd:=Jfs hA (sw g a b x y,false) i (a,b,x,y) hi hA2
     rw [← hP] at hadd
     have hlmP:P.length≤274877906944:=by omega
     have hlmP1:P.length+1≤274877906944:=by omega
     have htP:P.take P.length=P:=List.take_of_length_le (Nat.le_refl _)
     have hlm:(pth A).length+1≤274877906944:=by rw [Qd5];omega
     have htt:(pth A).take (pth A).length=pth A:=List.take_of_length_le (Nat.le_refl _)
     have hnx:=fun B=>ih (j+1) (A++[((sw g a b x y,false),(i:Int),(a,b,x,y))]) B (by omega) hA2 ⟨cg,f,q,by rw [List.getElem?_append_left hi];exact hAi'⟩
     rw [hadd] at hnx
     generalize sw g a b x y=R at *
     generalize pth A=Q at *
     refine wW ?_
     repeat (first|apply wA|apply wS|refine wr (by simp [hj2,hx2,w1];with_reducible rfl) ?_|refine wq (by simp [hj2,hx2,w1];with_reducible rfl) ?_|refine wt (by simpa [hj2,hx2,w1]) ?_|refine wf (by simpa [hj2,hx2,w1]) ?_|refine xt (by simpa [hj2,hx2,w1]) ?_|refine xf (by simpa [hj2,hx2,w1]) ?_|apply wB|apply Qaa|refine wX ?_|refine wY ?_|refine wR ?_|refine wK ?_|refine wE ?_)
     refine Qea (by simp [hip,hpi2,hpi,hj2,hx2,e1];with_reducible rfl) (by simp;with_reducible rfl) ?_ ?_
     · intro p hp
       simp only [List.mem_cons,List.not_mem_nil,or_false] at hp
       rcases hp with rfl | rfl | rfl | rfl
       · exact ⟨_,by simp [hip,hpi2,hpi,hj2,hx2,e1];with_reducible rfl,by simp⟩
       · exact ⟨_,by simp [hip,hpi2,hpi,hj2,hx2,e1];with_reducible rfl,by simp⟩
       · exact ⟨_,by simp [hip,hpi2,hpi,hj2,hx2,e1];with_reducible rfl,by simp⟩
       · exact ⟨_,by simp [hip,hpi2,hpi,hj2,hx2,e1];with_reducible rfl,by simp⟩
     repeat (first|apply wA|apply wS|refine wr (by simp [e2,hr3,w1];with_reducible rfl) ?_|refine wq (by simp [e2,hr3,w1];with_reducible rfl) ?_|refine wt (by simpa [e2,hr3,w1]) ?_|refine wf (by simpa [e2,hr3,w1]) ?_|refine xt (by simpa [e2,hr3,w1]) ?_|refine xf (by simpa [e2,hr3,w1]) ?_|apply wB|apply Qaa|refine wX ?_|refine wY ?_|refine wR ?_|refine wK ?_|refine wE ?_)
     refine Jf9 (by simp) (by simp [hip,hpi2,hpi,hj2,hx2,hlmP,hlmP1,htP,hlm,htt];with_reducible rfl) (by simp;with_reducible rfl) (fun _ h=>nomatch h) ?_
     repeat (first|apply wA|apply wS|refine wr (by simp [w1];with_reducible rfl) ?_|refine wq (by simp [w1];with_reducible rfl) ?_|refine wt (by simpa [w1]) ?_|refine wf (by simpa [w1]) ?_|refine xt (by simpa [w1]) ?_|refine xf (by simpa [w1]) ?_|apply wB|apply Qaa|refine wX ?_|refine wY ?_|refine wR ?_|refine wK ?_|refine wE ?_)
     simpa using hnx (B++[[I n,L2 R false]])
end Go.Idl
namespace Go.Idl
open Go
theorem Qzq {n:Nat} {d:List Int} {g:List (Int×Int)} (hg:Qad n g=true) (hdg:Qew n g=d) (i:Nat) (A:List Vs) (hA:Met n d A) (hi:i < A.length):Met n d (bfA g i (swl g g) A) :=
 (Qla hg hdg i (swl g g) A (fun s hs=>(Qqk hg hs).may) hA hi).1
abbrev pArr (A:List Vs) (k:Nat):IV:=.arr (.S 6) 0 [(k,2)] 4 0 (chn A (k+1) k).length false
set_option maxHeartbeats 4000000 in
theorem Jr1 (n:Nat) (hn:n≤5) (d:List Int) (hd:d.length=n) (h:List (Int×Int)) (ch:Bool) (hh:Qad n h=true) (b0:List IV):∀ (m i:Nat) (A:List Vs) (B:Qal),i+m=1025→i≤A.length→Met n d A →
 wp tb (.loop Qxh) { T:=[(3,.bptr 0 1 0),(6,.own 3 (rco n (pth A))),(7,I i)],loc:=b0::[I n,L2 h ch]::B,M:=[] }
  (fun ex st=>match bfs h m i A with
    | none=>ex=.exit 0∧∃ A' i' B',st={ T:=[(3,.bptr 0 1 0),(6,.own 3 (rco n (pth A'))),(7,I i'),(38,Bo false)],loc:=b0::[I n,L2 h ch]::B',M:=[] }
    | some (k,A')=>ex=.ret∧k < A'.length∧∃ B',st={ T:=[(4,pArr A' k),(5,Bo true),(6,.own 3 (rco n (pth A')))],loc:=b0::[I n,L2 h ch]::B',M:=[] }):=by
 intro m
 induction m with
 | zero =>
   intro i A B hi hiA hA
   have:=hA.few hn hd
   omega
 | succ m ih =>
   intro i A B hi hiA hA
   have hAl:=hA.few hn hd
   by_cases hie:i=A.length
   · subst hie
     have hb:bfs h (m+1) A.length A=none:=by
      rw [bfs,List.getElem?_eq_none (Nat.le_refl _)]
     rw [hb]
     have hpl:=Qd5 A
     refine wW ?_
     repeat (first|apply wA|apply wS|refine wr (by simp [hpl];with_reducible rfl) ?_|refine wq (by simp [hpl];with_reducible rfl) ?_|refine wt (by simpa [hpl]) ?_|refine wf (by simpa [hpl]) ?_|refine xt (by simpa [hpl]) ?_|refine xf (by simpa [hpl]) ?_|apply wB|apply Qaa|refine wX ?_|refine wY ?_|refine wR ?_|refine wK ?_|refine wE ?_)
     exact ⟨rfl,A,A.length,B,rfl⟩
   have hi2:i < A.length:=by omega
   have hk:A[i]? = some A[i]:=List.getElem?_eq_getElem hi2
   have hv:=hA.v _ (List.getElem_mem hi2)
   obtain ⟨⟨⟨g,c⟩,f,q⟩,ht⟩:∃ t,t=A[i]:=⟨_,rfl⟩
   have ht2:=ht.symm
   rw [ht2] at hv hk
   have hg:Qad n g=true:=hv.1
   have hdg:Qew n g=d:=hv.2
   have hg21:=Qmt (by omega) hg
   have hh21:=Qmt (by omega) hh
   have w1:IntKind.i64.wrap ((i:Int)+1)=((i+1:Nat):Int):=Qbp (by omega)
   obtain ⟨P,hP⟩:∃ P,P=(chn A (i+1) i).reverse:=⟨_,rfl⟩
   have hPl:P.length=(chn A (i+1) i).length:=by rw [hP,List.length_reverse]
   have hpi:(pth A)[i]? = some ((g,c),P):=by rw [pth_get?,hk,hP];rfl
   have hip:i < (pth A).length:=by rw [Qd5];exact hi2
   have hpi2:(pth A)[i]=((g,c),P):=(List.getElem?_eq_some_iff.1 hpi).2
   have e1:=fun c1 c2=>Qab (Qm1 n n g h c1 c2 (by omega) (by omega))
   have hb:bfs h (m+1) i A=if g=h then some (i,A) else bfs h m (i+1) (bfA g i (swl g g) A):=by
    rw [bfs,hk]
   rw [hb]
   have hz:=@Qhv n g h hg hh
   generalize Qcp g h+Qcp h g=z at *
   by_cases hgh:g=h
   · rw [if_pos hgh]
     have hz0:=hz.2 hgh
     subst hz0
     dsimp only
     rw [pArr,← hPl]
     generalize pth A=Q at *
     refine wW ?_
     repeat (first|apply wA|apply wS|refine wr (by simp [hip,hpi2,hpi,e1];with_reducible rfl) ?_|refine wq (by simp [hip,hpi2,hpi,e1];with_reducible rfl) ?_|refine wt (by simpa [hip,hpi2,hpi,e1]) ?_|refine wf (by simpa [hip,hpi2,hpi,e1]) ?_|refine xt (by simpa [hip,hpi2,hpi,e1]) ?_|refine xf (by simpa [hip,hpi2,hpi,e1]) ?_|apply wB|apply Qaa|refine wX ?_|refine wY ?_|refine wR ?_|refine wK ?_|refine wE ?_)
     exact ⟨rfl,hi2,B,rfl⟩
   · rw [if_neg hgh]
     have hz0:¬ z=0:=fun h0=>hgh (hz.1 h0)
     have hz1:¬ (z:Int)=0:=by omega
     have hsl:(swl g g).length≤2000000:=by
      have:=Qp1 g g (by omega)
      omega
     have hsm:∀ s ∈ swl g g,Qdm g s.1 s.2.1 s.2.2.1 s.2.2.2=true:=fun s hs=>(Qqk hg hs).may
     have hmet:=Qzq hg hdg i A hA hi2
     have hln:=Qpq g i (swl g g) A
     have nx:=fun B=>ih (i+1) (bfA g i (swl g g) A) B (by omega) (by omega) hmet
     have lin:=Jvx n hn d hd g hg hdg i (swl g g) hsl hsm b0 [I n,L2 h ch] (swl g g).length 0 A B (by omega) hA ⟨c,f,q,hk⟩
     rw [List.drop_zero,show ((0:Nat):Int)=0 from rfl] at lin
     have e4:=fun c=>Qab (Qio n g c (by omega))
     generalize swl g g=S at *
     generalize bfA g i S A=A2 at *
     generalize pth A=Q at *
     refine wW ?_
     repeat (first|apply wA|apply wS|refine wr (by simp [hip,hpi2,hpi,e1,hz0,hz1,e4];with_reducible rfl) ?_|refine wq (by simp [hip,hpi2,hpi,e1,hz0,hz1,e4];with_reducible rfl) ?_|refine wt (by simpa [hip,hpi2,hpi,e1,hz0,hz1,e4]) ?_|refine wf (by simpa [hip,hpi2,hpi,e1,hz0,hz1,e4]) ?_|refine xt (by simpa [hip,hpi2,hpi,e1,hz0,hz1,e4]) ?_|refine xf (by simpa [hip,hpi2,hpi,e1,hz0,hz1,e4]) ?_|apply wB|apply Qaa|refine wX ?_|refine wY ?_|refine wR ?_|refine wK ?_|refine wE ?_)
     refine Qap lin ?_
     rintro ex st ⟨rfl,B',rfl⟩
     simp only [if_true]
     repeat (first|apply wA|apply wS|refine wr (by simp [w1];with_reducible rfl) ?_|refine wq (by simp [w1];with_reducible rfl) ?_|refine wt (by simpa [w1]) ?_|refine wf (by simpa [w1]) ?_|refine xt (by simpa [w1]) ?_|refine xf (by simpa [w1]) ?_|apply wB|apply Qaa|refine wX ?_|refine wY ?_|refine wR ?_|refine wK ?_|refine wE ?_)
     simpa using nx B'
def spW:Option (List Q4)→IV
 | none=>.tup [Z,Bo false]
 | some p=>.tup [O4 p,Bo true]
theorem Qe4 (n m:Int) (g h:List (Int×Int)) (cg ch:Bool) (l1:g.length≤2000000) (l2:h.length≤2000000)
 (hno:(Qad n g && (Qad m h && (decide (n=m) && decide (n≤5))))=false) :
 Ev tb Qon [] [Gr n g cg,Gr m h ch] [] ⟨spW none,[],[],[]⟩:=by
 have e1:=fun c=>Qab (Qdi n g c (by omega))
 have e2:=fun c=>Qab (Qdi m h c (by omega))
 cases h1:Qad n g with
 | false =>
   rw [h1] at e1
   refine cW Qsm rfl ?_
   repeat (first|apply wA|apply wS|refine wr (by simp [e1];with_reducible rfl) ?_|refine wq (by simp [e1];with_reducible rfl) ?_|refine wt (by simpa [e1]) ?_|refine wf (by simpa [e1]) ?_|refine xt (by simpa [e1]) ?_|refine xf (by simpa [e1]) ?_|apply wB|apply Qaa|refine wX ?_|refine wY ?_|refine wR ?_|refine wK ?_|refine wE ?_)
   simp [Qmi,spW]
 | true =>
   rw [h1] at e1
   cases h2:Qad m h with
   | false =>
     rw [h2] at e2
     refine cW Qsm rfl ?_
     repeat (first|apply wA|apply wS|refine wr (by simp [e1,e2];with_reducible rfl) ?_|refine wq (by simp [e1,e2];with_reducible rfl) ?_|refine wt (by simpa [e1,e2]) ?_|refine wf (by simpa [e1,e2]) ?_|refine xt (by simpa [e1,e2]) ?_|refine xf (by simpa [e1,e2]) ?_|apply wB|apply Qaa|refine wX ?_|refine wY ?_|refine wR ?_|refine wK ?_|refine wE ?_)
     simp [Qmi,spW]
   | true =>
     rw [h2] at e2
     by_cases hnm:n=m
     · subst hnm
       have h5:(5:Int) < n:=by
        rw [h1,h2] at hno
        simp at hno;omega
       refine cW Qsm rfl ?_
       repeat (first|apply wA|apply wS|refine wr (by simp [e1,e2,h5];with_reducible rfl) ?_|refine wq (by simp [e1,e2,h5];with_reducible rfl) ?_|refine wt (by simpa [e1,e2,h5]) ?_|refine wf (by simpa [e1,e2,h5]) ?_|refine xt (by simpa [e1,e2,h5]) ?_|refine xf (by simpa [e1,e2,h5]) ?_|apply wB|apply Qaa|refine wX ?_|refine wY ?_|refine wR ?_|refine wK ?_|refine wE ?_)
       simp [Qmi,spW]
     · refine cW Qsm rfl ?_
       repeat (first|apply wA|apply wS|refine wr (by simp [e1,e2,hnm];with_reducible rfl) ?_|refine wq (by simp [e1,e2,hnm];with_reducible rfl) ?_|refine wt (by simpa [e1,e2,hnm]) ?_|refine wf (by simpa [e1,e2,hnm]) ?_|refine xt (by simpa [e1,e2,hnm]) ?_|refine xf (by simpa [e1,e2,hnm]) ?_|apply wB|apply Qaa|refine wX ?_|refine wY ?_|refine wR ?_|refine wK ?_|refine wE ?_)
       simp [Qmi,spW]
set_option maxHeartbeats 4000000 in
theorem Qg6 (n:Nat) (g h:List (Int×Int)) (cg ch:Bool) (hn:n≤5) (hg:Qad n g=true) (hh:Qad n h=true) :
 Ev tb Qon [] [Gr n g cg,Gr n h ch] [] ⟨spW (spI g cg h),[],[],[]⟩:=by
 have g21:=Qmt (by omega) hg
 have h21:=Qmt (by omega) hh
 have e1:=fun c=>Qab (Qdi n g c (by omega))
 have e2:=fun c=>Qab (Qdi n h c (by omega))
 rw [hg] at e1
 rw [hh] at e2
 have h5:¬ (5:Int) < n:=by omega
 have h5':¬ 5 < n:=by omega
 have hdl:(Qew n g).length=n:=by rw [Qew,Qfb];simp
 have lo:=Jr1 n hn (Qew n g) hdl h ch hh [I n,L2 g cg] 1025 0 (A0 g cg) [] (by omega) (by simp [A0]) (Jw7 hg rfl cg)
 rw [show ((0:Nat):Int)=0 from rfl] at lo
 unfold spI
 cases hb:bfs h 1025 0 (A0 g cg) with
 | none =>
   rw [hb] at lo
   refine cW Qsm rfl ?_
   repeat (first|apply wA|apply wS|refine wr (by simp [e1,e2,h5,h5'];with_reducible rfl) ?_|refine wq (by simp [e1,e2,h5,h5'];with_reducible rfl) ?_|refine wt (by simpa [e1,e2,h5,h5']) ?_|refine wf (by simpa [e1,e2,h5,h5']) ?_|refine xt (by simpa [e1,e2,h5,h5']) ?_|refine xf (by simpa [e1,e2,h5,h5']) ?_|apply wB|apply Qaa|refine wX ?_|refine wY ?_|refine wR ?_|refine wK ?_|refine wE ?_)
   refine Qap lo ?_
   rintro ex st ⟨rfl,A',i',B',rfl⟩
   simp only [if_true]
   repeat (first|apply wA|apply wS|refine wr (by simp;with_reducible rfl) ?_|refine wq (by simp;with_reducible rfl) ?_|refine wt (by simpa) ?_|refine wf (by simpa) ?_|refine xt (by simpa) ?_|refine xf (by simpa) ?_|apply wB|apply Qaa|refine wX ?_|refine wY ?_|refine wR ?_|refine wK ?_|refine wE ?_)
   simp [Qmi,spW]
 | some p =>
   obtain ⟨k,A'⟩:=p
   rw [hb] at lo
   refine cW Qsm rfl ?_
   repeat (first|apply wA|apply wS|refine wr (by simp [e1,e2,h5,h5'];with_reducible rfl) ?_|refine wq (by simp [e1,e2,h5,h5'];with_reducible rfl) ?_|refine wt (by simpa [e1,e2,h5,h5']) ?_|refine wf (by simpa [e1,e2,h5,h5']) ?_|refine xt (by simpa [e1,e2,h5,h5']) ?_|refine xf (by simpa [e1,e2,h5,h5']) ?_|apply wB|apply Qaa|refine wX ?_|refine wY ?_|refine wR ?_|refine wK ?_|refine wE ?_)
   refine Qap lo ?_
   rintro ex st ⟨rfl,hkl,B',rfl⟩
   have hip:k < (pth A').length:=by rw [Qd5];exact hkl
   have hpi:(pth A')[k]? = some (A'[k].1,(chn A' (k+1) k).reverse):=by rw [pth_get?,List.getElem?_eq_getElem hkl];rfl
   have hpi2:=(List.getElem?_eq_some_iff.1 hpi).2
   have hln:(chn A' (k+1) k).length=(chn A' (k+1) k).reverse.length:=by simp
   have htt:(chn A' (k+1) k).reverse.take (chn A' (k+1) k).length=(chn A' (k+1) k).reverse:=List.take_of_length_le (by simp)
   simp [Qmi,spW,hip,hpi,hpi2,htt]
end Go.Idl
namespace Go.Idl
def scQ:List (Nat×Nat):=[(524290,2052),(1048578,4100),(524290,1032),(268435458,4104),(1048578,1040),(268435458,2064),(2052,524290),(4100,1048578),(2052,1032),(268435460,1048584),(4100,1040),(268435460,524304),(1032,524290),(4104,268435458),(1032,2052),(1048584,268435460),(4104,2064),(1048584,524304),(1040,1048578),(2064,268435458),(1040,4100),(524304,268435460),(2064,4104),(524304,1048584),(268436480,1050624),(268436480,528384),(1050624,268436480),(1050624,528384),(528384,268436480),(528384,1050624)]
def scE:List (Nat×Nat):=[(2,9),(4,65),(8,513),(16,4097),(1024,72),(2048,520),(4096,4104),(524288,576),(1048576,4160),(268435456,4608)]
def scL:List (Nat×Nat):=[(0,0),(9,2),(65,4),(72,1024),(74,6),(81,1026),(137,1028),(146,1030),(513,8),(520,2048),(522,10),(529,2050),(576,524288),(578,12),(585,524290),(587,14),(592,3072),(594,2054),(601,3074),(641,524292),(648,525312),(650,524294),(657,525314),(659,1038),(666,3078),(713,525316),(722,525318),(1033,2056),(1042,2058),(1089,524296),(1096,526336),(1098,524298),(1105,526338),(1107,2062),(1114,3082),(1154,524300),(1161,526340),(1163,524302),(1168,527360),(1170,526342),(1177,527362),(1179,3086),(1226,525324),(1233,527364),(1235,525326),(1242,527366),(1609,526344),(1618,526346),(1674,526348),(1681,527368),(1683,526350),(1690,527370),(1746,527372),(1755,527374),(4097,16),(4104,4096),(4106,18),(4113,4098),(4160,1048576),(4162,20),(4169,1048578),(4171,22),(4176,5120),(4178,4102),(4185,5122),(4225,1048580),(4232,1049600),(4234,1048582),(4241,1049602),(4243,1046),(4250,5126),(4297,1049604),(4306,1049606),(4608,268435456),(4610,24),(4617,268435458),(4619,26),(4624,6144),(4626,4106),(4633,6146),(4673,268435460),(4675,28),(4680,268436480),(4682,268435462),(4684,30),(4689,268436482),(4691,4110),(4696,7168),(4698,6150),(4705,7170),(4736,1572864),(4738,1048588),(4745,268436484),(4747,1048590),(4752,1051648),(4754,268436486),(4756,1054),(4761,1051650),(4763,5134),(4770,7174),(4801,1572868),(4808,1573888),(4810,1572870),(4817,1573890),(4819,1049614),(4826,1051654),(4873,1573892),(4882,1573894),(5121,268435464),(5128,268437504),(5130,268435466),(5137,268437506),(5139,2074),(5146,6154),(5184,268959744),(5186,268435468),(5193,268959746),(5195,268435470),(5200,268438528),(5202,268437510),(5204,2078),(5209,268438530),(5211,6158),(5218,7178),(5249,268959748),(5251,524316),(5256,268960768),(5258,268959750),(5260,524318),(5265,268960770),(5267,268436494),(5272,531456),(5274,268438534),(5276,3102),(5281,531458),(5283,7182),(5314,1572876),(5321,268960772),(5323,1572878),(5328,1575936),(5330,268960774),(5332,525342),(5337,1575938),(5339,1051662),(5346,531462),(5386,1573900),(5393,1575940),(5395,1573902),(5402,1575942),(5641,268437512),(5650,268437514),(5697,268959752),(5704,268961792),(5706,268959754),(5713,268961794),(5715,268437518),(5722,268438538),(5762,268959756),(5769,268961796),(5771,268959758),(5776,268962816),(5778,268961798),(5780,526366),(5785,268962818),(5787,268438542),(5794,531466),(5834,268960780),(5841,268962820),(5843,268960782),(5850,268962822),(5852,527390),(5859,531470),(5906,1575948),(5915,1575950),(6217,268961800),(6226,268961802),(6282,268961804),(6289,268962824),(6291,268961806),(6298,268962826),(6354,268962828),(6363,268962830),(8201,4112),(8210,4114),(8257,1048592),(8264,1052672),(8266,1048594),(8273,1052674),(8275,4118),(8282,5138),(8322,1048596),(8329,1052676),(8331,1048598),(8336,1053696),(8338,1052678),(8345,1053698),(8347,5142),(8394,1049620),(8401,1053700),(8403,1049622),(8410,1053702),(8705,268435472),(8712,268439552),(8714,268435474),(8721,268439554),(8723,4122),(8730,6162),(8768,269484032),(8770,268435476),(8777,269484034),(8779,268435478),(8784,268440576),(8786,268439558),(8788,4126),(8793,268440578),(8795,6166),(8802,7186),(8833,269484036),(8835,1048604),(8840,269485056),(8842,269484038),(8844,1048606),(8849,269485058),(8851,268436502),(8856,1055744),(8858,268440582),(8860,5150),(8865,1055746),(8867,7190),(8898,1572884),(8905,269485060),(8907,1572886),(8912,1577984),(8914,269485062),(8916,1049630),(8921,1577986),(8923,1053710),(8930,1055750),(8970,1573908),(8977,1577988),(8979,1573910),(8986,1577990),(9218,268435480),(9225,268439560),(9227,268435482),(9232,268441600),(9234,268439562),(9241,268441602),(9243,6170),(9281,269484040),(9283,268435484),(9288,269486080),(9290,269484042),(9292,268435486),(9297,269486082),(9299,268439566),(9304,268442624),(9306,268441606),(9308,6174),(9313,268442626),(9315,7194),(9344,270008320),(9346,269484044),(9353,270008322),(9355,269484046),(9360,269487104),(9362,269486086),(9364,268436510),(9369,269487106),(9371,268440590),(9378,268442630),(9380,7198),(9409,270008324),(9411,1572892),(9416,270009344),(9418,270008326),(9420,1572894),(9425,270009346),(9427,269485070),(9432,1580032),(9434,269487110),(9436,1051678),(9441,1580034),(9443,1055758),(9481,270009348),(9483,1573916),(9490,270009350),(9492,1573918),(9497,1580036),(9499,1577998),(9506,1580038),(9738,268437528),(9745,268441608),(9747,268437530),(9754,268441610),(9794,268959768),(9801,269486088),(9803,268959770),(9808,268965888),(9810,269486090),(9812,268437534),(9817,268965890),(9819,268441614),(9826,268442634),(9857,270008328),(9859,268959772),(9864,270010368),(9866,270008330),(9868,268959774),(9873,270010370),(9875,269486094),(9880,268966912),(9882,269487114),(9884,268438558),(9889,268966914),(9891,268442638),(9922,270008332),(9929,270010372),(9931,270008334),(9936,270011392),(9938,270010374),(9940,268960798),(9945,270011394),(9947,269487118),(9954,268966918),(9956,531486),(9994,270009356),(10001,270011396),(10003,270009358),(10010,270011398),(10012,1575966),(10019,1580046),(10314,268961816),(10321,268965896),(10323,268961818),(10330,268965898),(10377,270010376),(10379,268961820),(10386,270010378),(10388,268961822),(10393,268966920),(10395,268965902),(10402,268966922),(10442,270010380),(10449,270011400),(10451,270010382),(10458,270011402),(10460,268962846),(10467,268966926),(10514,270011404),(10523,270011406),(12361,1052688),(12370,1052690),(12426,1052692),(12433,1053712),(12435,1052694),(12442,1053714),(12498,1053716),(12507,1053718),(12809,268439568),(12818,268439570),(12865,269484048),(12872,269488128),(12874,269484050),(12881,269488130),(12883,268439574),(12890,268440594),(12930,269484052),(12937,269488132),(12939,269484054),(12944,269489152),(12946,269488134),(12948,1052702),(12953,269489154),(12955,268440598),(12962,1055762),(13002,269485076),(13009,269489156),(13011,269485078),(13018,269489158),(13020,1053726),(13027,1055766),(13074,1578004),(13083,1578006),(13322,268439576),(13329,268441616),(13331,268439578),(13338,268441618),(13378,269484056),(13385,269488136),(13387,269484058),(13392,269490176),(13394,269488138),(13396,268439582),(13401,269490178),(13403,268441622),(13410,268442642),(13441,270008336),(13443,269484060),(13448,270012416),(13450,270008338),(13452,269484062),(13457,270012418),(13459,269488142),(13464,269491200),(13466,269490182),(13468,268440606),(13473,269491202),(13475,268442646),(13506,270008340),(13513,270012420),(13515,270008342),(13520,270013440),(13522,270012422),(13524,269485086),(13529,270013442),(13531,269489166),(13538,269491206),(13540,1055774),(13578,270009364),(13585,270013444),(13587,270009366),(13594,270013446),(13596,1578014),(13603,1580054),(13842,268441624),(13851,268441626),(13898,269486104),(13905,269490184),(13907,269486106),(13914,269490186),(13916,268441630),(13923,268442650),(13954,270008344),(13961,270012424),(13963,270008346),(13968,270014464),(13970,270012426),(13972,269486110),(13977,270014466),(13979,269490190),(13986,269491210),(13988,268442654),(14019,270008348),(14026,270012428),(14028,270008350),(14033,270014468),(14035,270012430),(14040,270015488),(14042,270014470),(14044,269487134),(14049,270015490),(14051,269491214),(14091,270009372),(14098,270013452),(14100,270009374),(14105,270015492),(14107,270013454),(14114,270015494),(14116,1580062),(14418,268965912),(14427,268965914),(14474,270010392),(14481,270014472),(14483,270010394),(14490,270014474),(14492,268965918),(14499,268966938),(14539,270010396),(14546,270014476),(14548,270010398),(14553,270015496),(14555,270014478),(14562,270015498),(14564,268966942),(14611,270011420),(14618,270015500),(14620,270011422),(14627,270015502),(16969,269488144),(16978,269488146),(17034,269488148),(17041,269489168),(17043,269488150),(17050,269489170),(17106,269489172),(17115,269489174),(17482,269488152),(17489,269490192),(17491,269488154),(17498,269490194),(17545,270012432),(17547,269488156),(17554,270012434),(17556,269488158),(17561,269491216),(17563,269490198),(17570,269491218),(17610,270012436),(17617,270013456),(17619,270012438),(17626,270013458),(17628,269489182),(17635,269491222),(17682,270013460),(17691,270013462),(18002,269490200),(18011,269490202),(18058,270012440),(18065,270014480),(18067,270012442),(18074,270014482),(18076,269490206),(18083,269491226),(18123,270012444),(18130,270014484),(18132,270012446),(18137,270015504),(18139,270014486),(18146,270015506),(18148,269491230),(18195,270013468),(18202,270015508),(18204,270013470),(18211,270015510),(18578,270014488),(18587,270014490),(18643,270014492),(18650,270015512),(18652,270014494),(18659,270015514),(18715,270015516),(18724,270015518)]
noncomputable def scX (m:Nat) (f:Nat→Bool) (l:List (Nat×Nat)):Bool :=
 List.rec false (fun q _ ih=>Bool.rec ih (Bool.rec ih (Bool.rec ih true (f (Nat.xor m (Nat.lor q.1 q.2)))) (Nat.beq (Nat.land m q.2) 0)) (Nat.beq (Nat.land m q.1) q.1)) l
noncomputable def scM (c m:Nat) (l:List (Nat×Nat)):Bool :=
 List.rec false (fun q _ ih=>Bool.rec ih (Nat.beq q.2 m) (Nat.beq q.1 c)) l
noncomputable def Jhe (m:Nat):Bool:=scX m (fun x=>Nat.ble (Nat.succ m) x) scQ
noncomputable def Jjd (m:Nat):Bool:=scX m (fun x=>scX x (fun y=>Nat.ble (Nat.succ m) y) scQ) scQ
noncomputable def scP (m c:Nat):Bool:=Bool.rec (Bool.rec (scM c m scL) true (Jjd m)) true (Jhe m)
noncomputable def scA (l:List (Nat×Nat)):Nat→Nat→Bool :=
 List.rec (motive:=fun _=>Nat→Nat→Bool) (fun m c=>scP m c) (fun e _ ih m c=>Bool.rec false (ih (Nat.lor m e.1) (Nat.add c e.2)) (ih m c)) l
noncomputable def scS (l:List (Nat×Nat)):Nat→Bool :=
 List.rec (motive:=fun _=>Nat→Bool) (fun _=>true) (fun q _ ih b=>Bool.rec false (ih (Nat.succ q.1)) (Nat.ble b q.1)) l
theorem Jdn:scA scE 0 0=true:=by kernel_rfl
theorem Jh9:scS scL 0=true:=by kernel_rfl
end Go.Idl
namespace Go.Idl
open Go
theorem Qor {n:Nat}:∀ (l:List Q4) {es x:List (Int×Int)},Qad n es=true→Qfz es l=some x→Qad n x=true∧Qew n x=Qew n es:=by
 intro l
 induction l with
 | nil =>
   intro es x hv h
   rw [Qfz] at h
   cases h
   exact ⟨hv,rfl⟩
 | cons s l ih =>
   intro es x hv h
   rw [Qfz] at h
   split at h
   · rename_i hm
     obtain ⟨-,-,q3,-⟩:=Qdf hv hm
     obtain ⟨h1,h2⟩:=ih q3 h
     exact ⟨h1,by rw [h2,Qu9 hv hm]⟩
   · cases h
end Go.Idl
