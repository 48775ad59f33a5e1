/- Part 7 of a proof by an ideal interpreter of the code: its definitions and lemmas. Conditions: none. -/
import Derived.KernelRfl
import Derived.Test.YtfheodjhbaaalaaA6
set_option linter.all false
set_option linter.unusedVariables false
set_option linter.unusedSimpArgs false
namespace Go.Idl
open Go
def insE (e:Int×Int):List (Int×Int)→List (Int×Int)
  | []=>[e]
  | x::r=>if below x e then x::insE e r else e::x::r
theorem insE_at (e:Int×Int) (es:List (Int×Int)) (k:Nat) (hk:k≤es.length) (h:∀ x ∈ es.take k,below x e=true) (hs:∀ h:k < es.length,below es[k] e=false) :
    insE e es=es.take k++[e]++es.drop k:=by
  induction es generalizing k with
  | nil=>simp at hk;subst hk;rfl
  | cons x r ih =>
    cases k with
    | zero =>
      have:=hs (by simp)
      simp only [List.getElem_cons_zero] at this
      simp [insE,this]
    | succ k =>
      have h1:=h x (by simp)
      rw [insE,if_pos h1,ih k (by simpa using hk) (fun y hy=>h y (by simp [hy])) (fun hh=>hs (by simpa using hh))]
      simp
theorem insE_len (e:Int×Int) (es:List (Int×Int)):(insE e es).length=es.length+1:=by
  induction es with
  | nil=>rfl
  | cons x r ih=>rw [insE];split <;> simp [ih]
theorem insE_mem (e x:Int×Int) (es:List (Int×Int)):x ∈ insE e es ↔ x=e ∨ x ∈ es:=by
  induction es with
  | nil=>simp [insE]
  | cons y r ih =>
    rw [insE];split
    · rw [List.mem_cons,ih,List.mem_cons]
      constructor
      · rintro (h | h | h) <;> simp [h]
      · rintro (h | h | h) <;> simp [h]
    · simp
theorem ev_addEdge (n:Int) (es:List (Int×Int)) (c:Bool) (a b:Int) (hl:es.length≤2000000) :
    Ev tb zl335 [] [Gr n es c,I a,I b] [] ⟨OG n (insE (min a b,max a b) es),[],[],[]⟩:=by
  obtain ⟨e,he⟩:∃ e:Int×Int,e=(min a b,max a b):=⟨_,rfl⟩
  have he1:(if b < a then b else a)=e.1:=by rw [he];simp only;split <;> omega
  have he2:(if a < b then b else a)=e.2:=by rw [he];simp only;split <;> omega
  rw [← he]
  have loop:∀ (m k:Nat),k+m=es.length→(∀ x ∈ es.take k,below x e=true)→wp tb (.loop z335l5) { T:=[(3,.bptr 0 0 0),(6,.bptr 0 1 0),(7,.bptr 0 2 0),(8,I k)],loc:=[[I n,L2 es c],[I 0,Z],[I e.1,I e.2]],M:=[] }
      (fun ex st=>ex=.exit 0∧∃ k:Nat,(k≤es.length∧(∀ x ∈ es.take k,below x e=true)∧(∀ h:k < es.length,below es[k] e=false)) ∧
        st={ T:=[(3,.bptr 0 0 0),(6,.bptr 0 1 0),(7,.bptr 0 2 0),(8,I k),(30,Bo false)],loc:=[[I n,L2 es c],[I 0,Z],[I e.1,I e.2]],M:=[] }):=by
    intro m
    induction m with
    | zero =>
      intro k hk hb
      have h3:k=es.length:=hk
      subst h3
      refine wp_loop ?_
      repeat (first|apply wp_as|apply wp_ss|refine wr (by simp;with_reducible rfl) ?_|refine wq (by simp;with_reducible rfl) ?_|refine wt (by simpa) ?_|refine wf (by simpa) ?_|refine xt (by simpa) ?_|refine xf (by simpa) ?_|apply wp_bs|apply wp_b|refine wp_sr ?_|refine wp_sx ?_|refine wp_ret' ?_|refine wp_skip' ?_|refine wp_exit' ?_)
      exact ⟨rfl,es.length,⟨Nat.le_refl _,hb,fun h=>absurd h (by omega)⟩,rfl⟩
    | succ m ih =>
      intro k hk hb
      have hi2:k < es.length:=by omega
      have w2:IntKind.i64.wrap ((k:Int)+1)=((k+1:Nat):Int):=wrapS (by omega)
      have e1:=ev_lim (ev_edgeBelow es[k] e)
      cases hq:below es[k] e with
      | true =>
        refine wp_loop ?_
        repeat (first|apply wp_as|apply wp_ss|refine wr (by simp [hi2,e1,hq,w2];with_reducible rfl) ?_|refine wq (by simp [hi2,e1,hq,w2];with_reducible rfl) ?_|refine wt (by simpa [hi2,e1,hq,w2]) ?_|refine wf (by simpa [hi2,e1,hq,w2]) ?_|refine xt (by simpa [hi2,e1,hq,w2]) ?_|refine xf (by simpa [hi2,e1,hq,w2]) ?_|apply wp_bs|apply wp_b|refine wp_sr ?_|refine wp_sx ?_|refine wp_ret' ?_|refine wp_skip' ?_|refine wp_exit' ?_)
        refine ih (k+1) (by omega) fun x hx=>?_
        rw [List.take_succ_eq_append_getElem hi2] at hx
        rcases List.mem_append.1 hx with hx | hx
        · exact hb x hx
        · simp at hx;subst hx;exact hq
      | false =>
        refine wp_loop ?_
        repeat (first|apply wp_as|apply wp_ss|refine wr (by simp [hi2,e1,hq];with_reducible rfl) ?_|refine wq (by simp [hi2,e1,hq];with_reducible rfl) ?_|refine wt (by simpa [hi2,e1,hq]) ?_|refine wf (by simpa [hi2,e1,hq]) ?_|refine xt (by simpa [hi2,e1,hq]) ?_|refine xf (by simpa [hi2,e1,hq]) ?_|apply wp_bs|apply wp_b|refine wp_sr ?_|refine wp_sx ?_|refine wp_ret' ?_|refine wp_skip' ?_|refine wp_exit' ?_)
        exact ⟨rfl,k,⟨by omega,hb,fun _=>hq⟩,rfl⟩
  refine call_of_wp zt335 rfl ?_
  repeat (first|apply wp_as|apply wp_ss|refine wr (by simp [he1,he2];with_reducible rfl) ?_|refine wq (by simp [he1,he2];with_reducible rfl) ?_|refine wt (by simpa [he1,he2]) ?_|refine wf (by simpa [he1,he2]) ?_|refine xt (by simpa [he1,he2]) ?_|refine xf (by simpa [he1,he2]) ?_|apply wp_bs|apply wp_b|refine wp_sr ?_|refine wp_sx ?_|refine wp_ret' ?_|refine wp_skip' ?_|refine wp_exit' ?_)
  refine wp_imp (loop es.length 0 (by simp) (by simp)) ?_
  rintro ex st ⟨rfl,k,⟨hk,hb,hs⟩,rfl⟩
  rw [insE_at e es k hk hb hs]
  try simp only [if_true]
  have hT:es.take es.length=es:=List.take_of_length_le (Nat.le_refl _)
  have hT2:(es.drop k).take (es.length - k)=es.drop k:=List.take_of_length_le (by simp)
  have hT3:(es.take k).take k=es.take k:=by rw [List.take_take,Nat.min_self]
  have hl1:k≤274877906943:=by omega
  have hl2:k≤274877906944:=by omega
  have hl3:k+1≤274877906944:=by omega
  have hl4:k+1+(es.length - k)≤274877906944:=by omega
  have hT4:(es.take k++[(e.1,e.2)]).take (k+1)=es.take k++[(e.1,e.2)]:=List.take_of_length_le (by simp;omega)
  have hmin:min k es.length=k:=by omega
  repeat (first|apply wp_as|apply wp_ss|refine wr (by simp [hk,hT,hT2,hT3,hl1,hl2,hl3,hl4,hT4,hmin];with_reducible rfl) ?_|refine wq (by simp [hk,hT,hT2,hT3,hl1,hl2,hl3,hl4,hT4,hmin];with_reducible rfl) ?_|refine wt (by simpa [hk,hT,hT2,hT3,hl1,hl2,hl3,hl4,hT4,hmin]) ?_|refine wf (by simpa [hk,hT,hT2,hT3,hl1,hl2,hl3,hl4,hT4,hmin]) ?_|refine xt (by simpa [hk,hT,hT2,hT3,hl1,hl2,hl3,hl4,hT4,hmin]) ?_|refine xf (by simpa [hk,hT,hT2,hT3,hl1,hl2,hl3,hl4,hT4,hmin]) ?_|apply wp_bs|apply wp_b|refine wp_sr ?_|refine wp_sx ?_|refine wp_ret' ?_|refine wp_skip' ?_|refine wp_exit' ?_)
  refine wp_ra (by simp [hk,hT,hT2,hT3,hl1,hl2,hl3,hl4,hT4,hmin];with_reducible rfl) (by simp;with_reducible rfl) ?_ ?_
  · intro p hp
    simp only [List.mem_cons,List.not_mem_nil,or_false] at hp
    rcases hp with rfl | rfl | rfl | rfl | rfl | rfl | rfl | rfl | rfl | rfl | rfl
    · exact ⟨_,by simp [hk,hT,hT2,hT3,hl1,hl2,hl3,hl4,hT4,hmin];with_reducible rfl,by simp⟩
    · exact ⟨_,by simp [hk,hT,hT2,hT3,hl1,hl2,hl3,hl4,hT4,hmin];with_reducible rfl,by simp⟩
    · exact ⟨_,by simp [hk,hT,hT2,hT3,hl1,hl2,hl3,hl4,hT4,hmin];with_reducible rfl,by simp⟩
    · exact ⟨_,by simp [hk,hT,hT2,hT3,hl1,hl2,hl3,hl4,hT4,hmin];with_reducible rfl,by simp⟩
    · exact ⟨_,by simp [hk,hT,hT2,hT3,hl1,hl2,hl3,hl4,hT4,hmin];with_reducible rfl,by simp⟩
    · exact ⟨_,by simp [hk,hT,hT2,hT3,hl1,hl2,hl3,hl4,hT4,hmin];with_reducible rfl,by simp⟩
    · exact ⟨_,by simp [hk,hT,hT2,hT3,hl1,hl2,hl3,hl4,hT4,hmin];with_reducible rfl,by simp⟩
    · exact ⟨_,by simp [hk,hT,hT2,hT3,hl1,hl2,hl3,hl4,hT4,hmin];with_reducible rfl,by simp⟩
    · exact ⟨_,by simp [hk,hT,hT2,hT3,hl1,hl2,hl3,hl4,hT4,hmin];with_reducible rfl,by simp⟩
    · exact ⟨_,by simp [hk,hT,hT2,hT3,hl1,hl2,hl3,hl4,hT4,hmin];with_reducible rfl,by simp⟩
    · exact ⟨_,by simp [hk,hT,hT2,hT3,hl1,hl2,hl3,hl4,hT4,hmin];with_reducible rfl,by simp⟩
  repeat (first|apply wp_as|apply wp_ss|refine wr (by simp;with_reducible rfl) ?_|refine wq (by simp;with_reducible rfl) ?_|refine wt (by simpa) ?_|refine wf (by simpa) ?_|refine xt (by simpa) ?_|refine xf (by simpa) ?_|apply wp_bs|apply wp_b|refine wp_sr ?_|refine wp_sx ?_|refine wp_ret' ?_|refine wp_skip' ?_|refine wp_exit' ?_)
  simp [zi335]
end Go.Idl
namespace Go.Idl
open Go
def dropP (p q:Int) (x:Int×Int):Bool:=!(decide (x.1=p) && decide (x.2=q))
def dropE (a b:Int) (es:List (Int×Int)):List (Int×Int):=es.filter (dropP (min a b) (max a b))
theorem ev_dropEdge (n:Int) (es:List (Int×Int)) (c:Bool) (a b:Int) (hl:es.length≤100000) :
    Ev tb zl348 [] [Gr n es c,I a,I b] [] ⟨OG n (dropE a b es),[],[],[]⟩:=by
  obtain ⟨p,hp⟩:∃ p,p=min a b:=⟨_,rfl⟩
  obtain ⟨q,hq⟩:∃ q,q=max a b:=⟨_,rfl⟩
  have he1:(if b < a then b else a)=p:=by rw [hp];split <;> omega
  have he2:(if a < b then b else a)=q:=by rw [hq];split <;> omega
  rw [dropE,← hp,← hq]
  have loop:∀ (m i:Nat) (acc:List (Int×Int)) (B:Boxes),i+m=es.length→acc.length≤i→wp tb (.loop z348l8) { T:=[(1,I a),(2,I b),(3,.bptr 0 0 0),(6,.bptr 0 1 0),(7,.bptr 0 2 0),(8,I i)],loc:=[I n,L2 es c]::[I 0,Z]::[I n,O2 acc]::B,M:=[] }
      (fun ex st=>ex=.exit 0∧∃ B',st={ T:=[(1,I a),(2,I b),(3,.bptr 0 0 0),(6,.bptr 0 1 0),(7,.bptr 0 2 0),(8,I es.length),(18,Bo false)],loc:=[I n,L2 es c]::[I 0,Z]::[I n,O2 (acc++(es.drop i).filter (dropP p q))]::B',M:=[] }):=by
    intro m
    induction m with
    | zero =>
      intro i acc B hi ha
      have h3:i=es.length:=hi
      subst h3
      refine wp_loop ?_
      repeat (first|apply wp_as|apply wp_ss|refine wr (by simp;with_reducible rfl) ?_|refine wq (by simp;with_reducible rfl) ?_|refine wt (by simpa) ?_|refine wf (by simpa) ?_|refine xt (by simpa) ?_|refine xf (by simpa) ?_|apply wp_bs|apply wp_b|refine wp_sr ?_|refine wp_sx ?_|refine wp_ret' ?_|refine wp_skip' ?_|refine wp_exit' ?_)
      refine ⟨rfl,_,by simp;rfl⟩
    | succ m ih =>
      intro i acc B hi ha
      have hi2:i < es.length:=by omega
      have w1:IntKind.i64.wrap ((i:Int)+1)=((i+1:Nat):Int):=wrapS (by omega)
      have hd:es.drop i=es[i]::es.drop (i+1):=List.drop_eq_getElem_cons hi2
      have hl1:acc.length+1≤274877906944:=by omega
      have hl2:acc.length≤274877906943:=by omega
      have hT:∀ x,List.take (acc.length+1) (acc++[x])=acc++[x]:=fun x=>List.take_of_length_le (by simp)
      have hT2:List.take acc.length acc=acc:=List.take_of_length_le (Nat.le_refl _)
      rw [hd]
      obtain ⟨⟨x1,x2⟩,hx⟩:∃ x,x=es[i]:=⟨_,rfl⟩
      rw [← hx]
      have hx2:=hx.symm
      by_cases h1:x1=p
      · subst h1
        by_cases h2:x2=q
        · subst h2
          refine wp_loop ?_
          repeat (first|apply wp_as|apply wp_ss|refine wr (by simp [hi2,w1,hx2,he1,he2];with_reducible rfl) ?_|refine wq (by simp [hi2,w1,hx2,he1,he2];with_reducible rfl) ?_|refine wt (by simpa [hi2,w1,hx2,he1,he2]) ?_|refine wf (by simpa [hi2,w1,hx2,he1,he2]) ?_|refine xt (by simpa [hi2,w1,hx2,he1,he2]) ?_|refine xf (by simpa [hi2,w1,hx2,he1,he2]) ?_|apply wp_bs|apply wp_b|refine wp_sr ?_|refine wp_sx ?_|refine wp_ret' ?_|refine wp_skip' ?_|refine wp_exit' ?_)
          have hn:=ih (i+1) acc (B++[[I x1,I x2]]) (by omega) (by omega)
          rw [List.filter_cons_of_neg (by simp [dropP])]
          exact hn
        · refine wp_loop ?_
          repeat (first|apply wp_as|apply wp_ss|refine wr (by simp [hi2,w1,hx2,he1,he2,h2,hl1,hl2,hT,hT2];with_reducible rfl) ?_|refine wq (by simp [hi2,w1,hx2,he1,he2,h2,hl1,hl2,hT,hT2];with_reducible rfl) ?_|refine wt (by simpa [hi2,w1,hx2,he1,he2,h2,hl1,hl2,hT,hT2]) ?_|refine wf (by simpa [hi2,w1,hx2,he1,he2,h2,hl1,hl2,hT,hT2]) ?_|refine xt (by simpa [hi2,w1,hx2,he1,he2,h2,hl1,hl2,hT,hT2]) ?_|refine xf (by simpa [hi2,w1,hx2,he1,he2,h2,hl1,hl2,hT,hT2]) ?_|apply wp_bs|apply wp_b|refine wp_sr ?_|refine wp_sx ?_|refine wp_ret' ?_|refine wp_skip' ?_|refine wp_exit' ?_)
          have hn:=ih (i+1) (acc++[(x1,x2)]) (B++[[I x1,I x2]]) (by omega) (by simp;omega)
          rw [List.filter_cons_of_pos (by simp [dropP,h2])]
          simp only [List.append_assoc,List.cons_append,List.nil_append] at hn
          exact hn
      · refine wp_loop ?_
        repeat (first|apply wp_as|apply wp_ss|refine wr (by simp [hi2,w1,hx2,he1,he2,h1,hl1,hl2,hT,hT2];with_reducible rfl) ?_|refine wq (by simp [hi2,w1,hx2,he1,he2,h1,hl1,hl2,hT,hT2];with_reducible rfl) ?_|refine wt (by simpa [hi2,w1,hx2,he1,he2,h1,hl1,hl2,hT,hT2]) ?_|refine wf (by simpa [hi2,w1,hx2,he1,he2,h1,hl1,hl2,hT,hT2]) ?_|refine xt (by simpa [hi2,w1,hx2,he1,he2,h1,hl1,hl2,hT,hT2]) ?_|refine xf (by simpa [hi2,w1,hx2,he1,he2,h1,hl1,hl2,hT,hT2]) ?_|apply wp_bs|apply wp_b|refine wp_sr ?_|refine wp_sx ?_|refine wp_ret' ?_|refine wp_skip' ?_|refine wp_exit' ?_)
        have hn:=ih (i+1) (acc++[(x1,x2)]) (B++[[I x1,I x2]]) (by omega) (by simp;omega)
        rw [List.filter_cons_of_pos (by simp [dropP,h1])]
        simp only [List.append_assoc,List.cons_append,List.nil_append] at hn
        exact hn
  refine call_of_wp zt348 rfl ?_
  repeat (first|apply wp_as|apply wp_ss|refine wr (by simp;with_reducible rfl) ?_|refine wq (by simp;with_reducible rfl) ?_|refine wt (by simpa) ?_|refine wf (by simpa) ?_|refine xt (by simpa) ?_|refine xf (by simpa) ?_|apply wp_bs|apply wp_b|refine wp_sr ?_|refine wp_sx ?_|refine wp_ret' ?_|refine wp_skip' ?_|refine wp_exit' ?_)
  refine wp_imp (loop es.length 0 [] [] (by simp) (by simp)) ?_
  rintro ex st ⟨rfl,B',rfl⟩
  simp only [if_true]
  repeat (first|apply wp_as|apply wp_ss|refine wr (by simp;with_reducible rfl) ?_|refine wq (by simp;with_reducible rfl) ?_|refine wt (by simpa) ?_|refine wf (by simpa) ?_|refine xt (by simpa) ?_|refine xf (by simpa) ?_|apply wp_bs|apply wp_b|refine wp_sr ?_|refine wp_sx ?_|refine wp_ret' ?_|refine wp_skip' ?_|refine wp_exit' ?_)
  simp [zi348]
theorem dropE_len (a b:Int) (es:List (Int×Int)):(dropE a b es).length≤es.length:=List.length_filter_le _ _
def swS (es:List (Int×Int)) (a b c d:Int):List (Int×Int):=insE (min b d,max b d) (insE (min a c,max a c) (dropE c d (dropE a b es)))
theorem ev_switched (n:Int) (es:List (Int×Int)) (cc:Bool) (a b c d:Int) (hl:es.length≤100000) :
    Ev tb zl383 [] [Gr n es cc,Sw a b c d] [] ⟨OG n (swS es a b c d),[],[],[]⟩:=by
  have g1:=dropE_len a b es
  have g2:=dropE_len c d (dropE a b es)
  have g3:=insE_len (min a c,max a c) (dropE c d (dropE a b es))
  have e1:=fun cc=>ev_lim (ev_dropEdge n es cc a b hl)
  have e2:=fun cc=>ev_lim (ev_dropEdge n (dropE a b es) cc c d (by omega))
  have e3:=fun cc=>ev_lim (ev_addEdge n (dropE c d (dropE a b es)) cc a c (by omega))
  have e4:=fun cc=>ev_lim (ev_addEdge n (insE (min a c,max a c) (dropE c d (dropE a b es))) cc b d (by omega))
  rw [swS]
  generalize insE (min b d,max b d) (insE (min a c,max a c) (dropE c d (dropE a b es)))=x4 at *
  generalize insE (min a c,max a c) (dropE c d (dropE a b es))=x3 at *
  generalize dropE c d (dropE a b es)=x2 at *
  generalize dropE a b es=x1 at *
  refine call_of_wp zt383 rfl ?_
  repeat (first|apply wp_as|apply wp_ss|refine wr (by simp;with_reducible rfl) ?_|refine wq (by simp;with_reducible rfl) ?_|refine wt (by simpa) ?_|refine wf (by simpa) ?_|refine xt (by simpa) ?_|refine xf (by simpa) ?_|apply wp_bs|apply wp_b|refine wp_sr ?_|refine wp_sx ?_|refine wp_ret' ?_|refine wp_skip' ?_|refine wp_exit' ?_)
  refine wp_rds0 rfl (by simp [e1,e2,e3,e4];with_reducible rfl) (by simp;with_reducible rfl) ?_
  repeat (first|apply wp_as|apply wp_ss|refine wr (by simp;with_reducible rfl) ?_|refine wq (by simp;with_reducible rfl) ?_|refine wt (by simpa) ?_|refine wf (by simpa) ?_|refine xt (by simpa) ?_|refine xf (by simpa) ?_|apply wp_bs|apply wp_b|refine wp_sr ?_|refine wp_sx ?_|refine wp_ret' ?_|refine wp_skip' ?_|refine wp_exit' ?_)
  simp [zi383]
end Go.Idl
namespace Go.Idl
open Go
structure SmallG (n:Int) (es:List (Int×Int)):Prop where
  n1:-1≤n
  n2:n≤8
  len:es.length≤60
  el:∀ e ∈ es,-1≤e.1∧e.1≤8∧-1≤e.2∧e.2≤8
theorem SmallG.fit {n es} (h:SmallG n es):Fit es:=fun e he=>by have:=h.el e he;omega
end Go.Idl
namespace Go.Idl
open Go
abbrev Q4:=Int×Int×Int×Int
def sws (xs:List Q4):List (List IV):=xs.map fun s=>[I s.1,I s.2.1,I s.2.2.1,I s.2.2.2]
@[simp] theorem sws_len (xs:List Q4):(sws xs).length=xs.length:=by simp [sws]
@[simp] theorem sws_nil:sws []=[]:=rfl
@[simp] theorem sws_take (xs:List Q4) (n:Nat):(sws xs).take n=sws (xs.take n):=by simp [sws,List.map_take]
@[simp] theorem sws_drop (xs:List Q4) (n:Nat):(sws xs).drop n=sws (xs.drop n):=by simp [sws,List.map_drop]
@[simp] theorem sws_one (xs:List Q4) (a b c d:Int):sws xs++[[IV.sc (.int .i64 a),IV.sc (.int .i64 b),IV.sc (.int .i64 c),IV.sc (.int .i64 d)]]=sws (xs++[(a,b,c,d)]):=by simp [sws]
@[simp] theorem sws_get (xs:List Q4) (i:Nat) (h:i < (sws xs).length):(sws xs)[i]=[IV.sc (.int .i64 (xs[i]'(by simpa [sws] using h)).1),IV.sc (.int .i64 (xs[i]'(by simpa [sws] using h)).2.1),IV.sc (.int .i64 (xs[i]'(by simpa [sws] using h)).2.2.1),IV.sc (.int .i64 (xs[i]'(by simpa [sws] using h)).2.2.2)]:=by simp [sws]
@[simp] theorem sws_get? (xs:List Q4) (i:Nat):(sws xs)[i]? = xs[i]?.map fun s=>[IV.sc (.int .i64 s.1),IV.sc (.int .i64 s.2.1),IV.sc (.int .i64 s.2.2.1),IV.sc (.int .i64 s.2.2.2)]:=by simp [sws]
@[simp] theorem sws_all1 (xs:List Q4):((sws xs).all fun x=>x.all IV.plain1)=true:=by
  induction xs with
  | nil=>rfl
  | cons x xs ih=>simp only [sws,List.map_cons,List.all_cons] at *;rw [ih];rfl
@[simp] theorem sws_all2 (xs:List Q4):((sws xs).all fun x=>x.all IV.isData)=true:=by
  induction xs with
  | nil=>rfl
  | cons x xs ih=>simp only [sws,List.map_cons,List.all_cons] at *;rw [ih];rfl
@[simp] theorem sws_noLst (xs:List Q4):noLstLL (sws xs)=true:=by
  induction xs with
  | nil=>rfl
  | cons x xs ih=>simp only [sws,List.map_cons,noLstLL,noLstL,noLstV] at *;rw [ih];rfl
@[simp] theorem frz_sws (xs:List Q4):frzLL (sws xs)=sws xs:=by
  induction xs with
  | nil=>rfl
  | cons x xs ih=>simp only [sws,List.map_cons,frzLL,frzL,frzV] at *;rw [ih]
end Go.Idl
namespace Go.Idl
open Go
def tab (t:List (List Int)):List (List IV):=t.map fun r=>[.lst 1 (ints r) false]
def oab (t:List (List Int)):List (List IV):=t.map fun r=>[.own 1 (ints r)]
abbrev OT (t:List (List Int)):IV:=.own 1 (oab t)
@[simp] theorem tab_len (t:List (List Int)):(tab t).length=t.length:=by simp [tab]
@[simp] theorem oab_len (t:List (List Int)):(oab t).length=t.length:=by simp [oab]
@[simp] theorem oab_nil:oab []=[]:=rfl
@[simp] theorem tab_get? (t:List (List Int)) (i:Nat):(tab t)[i]? = t[i]?.map fun r=>[IV.lst 1 (ints r) false]:=by simp [tab]
@[simp] theorem tab_get (t:List (List Int)) (i:Nat) (h:i < (tab t).length):(tab t)[i]=[IV.lst 1 (ints (t[i]'(by simpa [tab] using h))) false]:=by simp [tab]
@[simp] theorem oab_get? (t:List (List Int)) (i:Nat):(oab t)[i]? = t[i]?.map fun r=>[IV.own 1 (ints r)]:=by simp [oab]
@[simp] theorem oab_get (t:List (List Int)) (i:Nat) (h:i < (oab t).length):(oab t)[i]=[IV.own 1 (ints (t[i]'(by simpa [oab] using h)))]:=by simp [oab]
@[simp] theorem oab_one (t:List (List Int)) (r:List Int):oab t++[[IV.own 1 (ints r)]]=oab (t++[r]):=by simp [oab]
@[simp] theorem oab_set (t:List (List Int)) (i:Nat) (r:List Int):(oab t).set i [IV.own 1 (ints r)]=oab (t.set i r):=by simp [oab,List.map_set]
@[simp] theorem oab_take (t:List (List Int)) (n:Nat):(oab t).take n=oab (t.take n):=by simp [oab,List.map_take]
@[simp] theorem frz_oab (t:List (List Int)):frzLL (oab t)=tab t:=by
  induction t with
  | nil=>rfl
  | cons x xs ih =>
    simp only [oab,tab,List.map_cons,frzLL,frzL,frzV] at *
    rw [ih]
    have:frzLL (ints x)=ints x:=by
      clear ih
      induction x with
      | nil=>rfl
      | cons y ys ih=>simp only [ints,List.map_cons,frzLL,frzL,frzV] at *;rw [ih]
    rw [this]
@[simp] theorem tab_all1 (t:List (List Int)):((tab t).all fun x=>x.all IV.plain1)=true:=by
  induction t with
  | nil=>rfl
  | cons x xs ih=>simp only [tab,List.map_cons,List.all_cons] at *;rw [ih];rfl
@[simp] theorem oab_noLst (t:List (List Int)):noLstLL (oab t)=true:=by
  induction t with
  | nil=>rfl
  | cons x xs ih =>
    simp only [oab,List.map_cons,noLstLL,noLstL,noLstV] at *
    rw [ih,ints_noLst];rfl
def g2 (t:List (List Int)) (a b:Nat):Int:=(t.getD a []).getD b 0
end Go.Idl
namespace Go.Idl
open Go
def asc0 (s:List Int):List Int:=(fall s).reverse
def overT (s:List Int) (i:Nat):Int:=((asc0 s).take (i+1)).sum - ((i:Int)+1) * i / 2
def over (s:List Int):List Int:=mapR s.length (overT s)
end Go.Idl
namespace Go.Idl
open Go
theorem sum01 (r:List Int) (h:∀ x ∈ r,0≤x∧x≤1):0≤r.sum∧r.sum≤r.length:=by
  induction r with
  | nil=>simp
  | cons x xs ih =>
    have h1:=h x (by simp)
    have h2:=ih fun y hy=>h y (by simp [hy])
    simp only [List.sum_cons,List.length_cons];omega
end Go.Idl
namespace Go.Idl
open Go
theorem ev_hasInt (xs:List Int) (c:Bool) (y:Int) (hl:xs.length≤2000000) :
    Ev tb zl131 [] [L xs c,I y] [] ⟨Bo (decide (y ∈ xs)),[],[],[]⟩:=by
  have loop:∀ (m i:Nat),i+m=xs.length→wp tb (.loop z131l6) { T:=[(0,L xs c),(1,I y),(5,I i)],loc:=[],M:=[] }
      (fun ex st=>(ex=.exit 0∧y ∉ xs.drop i∧st={ T:=[(0,L xs c),(1,I y),(5,I xs.length),(9,Bo false)],loc:=[],M:=[] }) ∨
        ex=.ret∧y ∈ xs.drop i∧st={ T:=[(4,Bo true)],loc:=[],M:=[] }):=by
    intro m
    induction m with
    | zero =>
      intro i hi
      obtain ⟨h1,h2⟩:=drop_end hi
      have h3:i=xs.length:=hi
      subst h3
      refine wp_loop ?_
      repeat (first|apply wp_as|apply wp_ss|refine wr (by simp;with_reducible rfl) ?_|refine wq (by simp;with_reducible rfl) ?_|refine wt (by simpa) ?_|refine wf (by simpa) ?_|refine xt (by simpa) ?_|refine xf (by simpa) ?_|apply wp_bs|apply wp_b|refine wp_sr ?_|refine wp_sx ?_|refine wp_ret' ?_|refine wp_skip' ?_|refine wp_exit' ?_)
      exact .inl ⟨rfl,by rw [h2];simp,rfl⟩
    | succ m ih =>
      intro i hi
      obtain ⟨hi2,h2,h3⟩:=drop_get hi
      have w2:IntKind.i64.wrap ((i:Int)+1)=((i+1:Nat):Int):=wrapS (by omega)
      rw [h2]
      by_cases he:xs[i]=y
      · refine wp_loop ?_
        repeat (first|apply wp_as|apply wp_ss|refine wr (by simp [hi2,he];with_reducible rfl) ?_|refine wq (by simp [hi2,he];with_reducible rfl) ?_|refine wt (by simpa [hi2,he]) ?_|refine wf (by simpa [hi2,he]) ?_|refine xt (by simpa [hi2,he]) ?_|refine xf (by simpa [hi2,he]) ?_|apply wp_bs|apply wp_b|refine wp_sr ?_|refine wp_sx ?_|refine wp_ret' ?_|refine wp_skip' ?_|refine wp_exit' ?_)
        exact .inr ⟨rfl,by simp [he],rfl⟩
      · refine wp_loop ?_
        repeat (first|apply wp_as|apply wp_ss|refine wr (by simp [hi2,he,w2];with_reducible rfl) ?_|refine wq (by simp [hi2,he,w2];with_reducible rfl) ?_|refine wt (by simpa [hi2,he,w2]) ?_|refine wf (by simpa [hi2,he,w2]) ?_|refine xt (by simpa [hi2,he,w2]) ?_|refine xf (by simpa [hi2,he,w2]) ?_|apply wp_bs|apply wp_b|refine wp_sr ?_|refine wp_sx ?_|refine wp_ret' ?_|refine wp_skip' ?_|refine wp_exit' ?_)
        refine wp_imp (ih (i+1) (by omega)) ?_
        rintro ex st (⟨rfl,h,rfl⟩ | ⟨rfl,h,rfl⟩)
        · exact .inl ⟨rfl,by rw [List.mem_cons];rintro (h' | h');exact he h'.symm;exact h h',rfl⟩
        · exact .inr ⟨rfl,List.mem_cons_of_mem _ h,rfl⟩
  refine call_of_wp zt131 rfl ?_
  repeat (first|apply wp_as|apply wp_ss|refine wr (by simp;with_reducible rfl) ?_|refine wq (by simp;with_reducible rfl) ?_|refine wt (by simpa) ?_|refine wf (by simpa) ?_|refine xt (by simpa) ?_|refine xf (by simpa) ?_|apply wp_bs|apply wp_b|refine wp_sr ?_|refine wp_sx ?_|refine wp_ret' ?_|refine wp_skip' ?_|refine wp_exit' ?_)
  refine wp_imp (loop xs.length 0 (by omega)) ?_
  rintro ex st (⟨rfl,h,rfl⟩ | ⟨rfl,h,rfl⟩)
  · simp only [if_true]
    simp only [List.drop_zero] at h
    repeat (first|apply wp_as|apply wp_ss|refine wr (by simp;with_reducible rfl) ?_|refine wq (by simp;with_reducible rfl) ?_|refine wt (by simpa) ?_|refine wf (by simpa) ?_|refine xt (by simpa) ?_|refine xf (by simpa) ?_|apply wp_bs|apply wp_b|refine wp_sr ?_|refine wp_sx ?_|refine wp_ret' ?_|refine wp_skip' ?_|refine wp_exit' ?_)
    simp [zi131,h]
  · simp only [List.drop_zero] at h
    simp [zi131,h]
end Go.Idl
namespace Go.Idl
open Go Go.ChangeShapes Go.WideShapes Go.Deep
theorem tabS_eds (len:Nat) (f:Nat→Int):tabS 2 len f=eds ((List.range len).map fun i=>(f (i * 2),f (i * 2+1))):=by
  rw [tabS,eds,List.map_map]
  exact List.map_congr_left fun i _=>by simp [List.range_succ]
section
variable {H:Type} {enc:TypeId×Value→H} {P:Program} {w:World} {base:Nat} {spare:Nat→Bool} {held:Bool}
theorem graph_in {t0 t e:TypeId} {fs:Array Field} {n1 n2:Nat} {u0 u1:Value} {y0 y1:DataW H×List MemPlace} (hi:P.underlying t0=some (.int .i64)) (g0:DataW.trod enc P w base spare held n1 t0 [u0]=some y0)
    (ht:P.underlying t=some (.slice e)) (he:P.underlying e=some (.struct fs)) (hone:(oneCellFields P fs && (P.cellsOf e == 2))=true) (hsz:fs.size=2) (hk:intF P fs=true)
    (g1:DataW.trod enc P w base spare held n2 t [u1]=some y1):∃ (n:Int) (es:List (Int×Int)),Fit es∧es.length < 9223372036854775808∧ArgR w (Gr n es false) (.agg #[u0,u1]):=by
  simp only [Bool.and_eq_true,beq_iff_eq] at hone
  obtain ⟨z,hz,-,-⟩:=DataW.trod_int hi g0
  obtain ⟨a,len,cap,f,hcs,hl,hr,hd⟩:=open_rows ht he hone.1 (by rw [hone.2,hsz]) (by omega) hk g1
  simp only [List.cons.injEq,and_true] at hz hcs
  subst hz hcs
  rw [hsz,tabS_eds] at hd
  refine ⟨z,_,fun x hx=>?_,by simpa using hl,arg_pair rfl hd⟩
  obtain ⟨i,-,rfl⟩:=List.mem_map.1 hx
  exact ⟨(hr _).1,(hr _).2,(hr _).1,(hr _).2⟩
end
end Go.Idl
namespace Go.Idl
open Go
@[simp] theorem fi_cons (p:IV→Bool) (x:IV) (xs:List IV):(x::xs).findIdx? p=if p x then some 0 else (xs.findIdx? p).map (·+1):=List.findIdx?_cons
@[simp] theorem eds_rep (n:Nat):List.replicate n [IV.sc (.int .i64 0),IV.sc (.int .i64 0)]=eds (List.replicate n (0,0)):=by simp [eds]
theorem ev_toEdge (a b:Int):Ev tb zl62 [] [.agg [I a,I b]] [] ⟨.agg [I a,I b],[],[],[]⟩:=by
  refine call_of_wp zt62 rfl ?_
  repeat (first|apply wp_as|apply wp_ss|refine wr (by simp;with_reducible rfl) ?_|refine wq (by simp;with_reducible rfl) ?_|refine wt (by simpa) ?_|refine wf (by simpa) ?_|refine xt (by simpa) ?_|refine xf (by simpa) ?_|apply wp_bs|apply wp_b|refine wp_sr ?_|refine wp_sx ?_|refine wp_ret' ?_|refine wp_skip' ?_|refine wp_exit' ?_)
  simp [zi62]
theorem toE_loop (a:List (Int×Int)) (c:Bool) (hl:a.length≤2000000):∀ (m i:Nat) (A:List (Int×Int)),i+m=a.length→A.length=a.length→A.take i=a.take i →
    wp tb (.loop z63l6) { T:=[(0,L2 a c),(3,O2 A),(4,I i)],loc:=[],M:=[] }
      (fun ex st=>ex=.exit 0∧st={ T:=[(0,L2 a c),(3,O2 a),(4,I a.length),(11,Bo false)],loc:=[],M:=[] }):=by
  intro m
  induction m with
  | zero =>
    intro i A hi hA ht
    have h3:i=a.length:=hi
    subst h3
    rw [List.take_of_length_le (by omega),List.take_of_length_le (by omega)] at ht
    rw [ht]
    refine wp_loop ?_
    repeat (first|apply wp_as|apply wp_ss|refine wr (by simp;with_reducible rfl) ?_|refine wq (by simp;with_reducible rfl) ?_|refine wt (by simpa) ?_|refine wf (by simpa) ?_|refine xt (by simpa) ?_|refine xf (by simpa) ?_|apply wp_bs|apply wp_b|refine wp_sr ?_|refine wp_sx ?_|refine wp_ret' ?_|refine wp_skip' ?_|refine wp_exit' ?_)
    exact ⟨rfl,rfl⟩
  | succ m ih =>
    intro i A hi hA ht
    have hi2:i < a.length:=by omega
    have hi3:i < A.length:=by omega
    have w2:IntKind.i64.wrap ((i:Int)+1)=((i+1:Nat):Int):=wrapS (by omega)
    have hg:=ih (i+1) (A.set i a[i]) (by omega) (by simpa using hA) (by
      rw [List.take_succ_eq_append_getElem (by simpa using hi3),List.take_succ_eq_append_getElem hi2,List.take_set_of_le (Nat.le_refl _),ht];simp)
    obtain ⟨⟨p,q⟩,hx⟩:∃ x,x=a[i]:=⟨_,rfl⟩
    have hx:=hx.symm
    rw [hx] at hg
    have e1:=ev_lim (ev_toEdge p q)
    refine wp_loop ?_
    repeat (first|apply wp_as|apply wp_ss|refine wr (by simp [hi2,hi3,w2,hx,e1];with_reducible rfl) ?_|refine wq (by simp [hi2,hi3,w2,hx,e1];with_reducible rfl) ?_|refine wt (by simpa [hi2,hi3,w2,hx,e1]) ?_|refine wf (by simpa [hi2,hi3,w2,hx,e1]) ?_|refine xt (by simpa [hi2,hi3,w2,hx,e1]) ?_|refine xf (by simpa [hi2,hi3,w2,hx,e1]) ?_|apply wp_bs|apply wp_b|refine wp_sr ?_|refine wp_sx ?_|refine wp_ret' ?_|refine wp_skip' ?_|refine wp_exit' ?_)
    exact hg
theorem ev_toEdgeS (a:List (Int×Int)) (c:Bool) (hl:a.length≤2000000):Ev tb zl63 [] [L2 a c] [] ⟨O2 a,[],[],[]⟩:=by
  have hlo:=toE_loop a c hl a.length 0 (List.replicate a.length (0,0)) (by omega) (by simp) (by simp)
  rw [show ((0:Nat):Int)=0 from rfl] at hlo
  have hl2:a.length≤274877906944:=by omega
  refine call_of_wp zt63 rfl ?_
  repeat (first|apply wp_as|apply wp_ss|refine wr (by simp [hl2];with_reducible rfl) ?_|refine wq (by simp [hl2];with_reducible rfl) ?_|refine wt (by simpa [hl2]) ?_|refine wf (by simpa [hl2]) ?_|refine xt (by simpa [hl2]) ?_|refine xf (by simpa [hl2]) ?_|apply wp_bs|apply wp_b|refine wp_sr ?_|refine wp_sx ?_|refine wp_ret' ?_|refine wp_skip' ?_|refine wp_exit' ?_)
  refine wp_imp hlo ?_
  rintro ex st ⟨rfl,rfl⟩
  try simp only [if_true]
  repeat (first|apply wp_as|apply wp_ss|refine wr (by simp;with_reducible rfl) ?_|refine wq (by simp;with_reducible rfl) ?_|refine wt (by simpa) ?_|refine wf (by simpa) ?_|refine xt (by simpa) ?_|refine xf (by simpa) ?_|apply wp_bs|apply wp_b|refine wp_sr ?_|refine wp_sx ?_|refine wp_ret' ?_|refine wp_skip' ?_|refine wp_exit' ?_)
  simp [zi63]
theorem ev_toGraph (n:Int) (a:List (Int×Int)) (c:Bool) (hl:a.length≤2000000):Ev tb zl64 [] [Gr n a c] [] ⟨OG n a,[],[],[]⟩:=by
  have e1:=fun c=>ev_lim (ev_toEdgeS a c hl)
  refine call_of_wp zt64 rfl ?_
  repeat (first|apply wp_as|apply wp_ss|refine wr (by simp [e1];with_reducible rfl) ?_|refine wq (by simp [e1];with_reducible rfl) ?_|refine wt (by simpa [e1]) ?_|refine wf (by simpa [e1]) ?_|refine xt (by simpa [e1]) ?_|refine xf (by simpa [e1]) ?_|apply wp_bs|apply wp_b|refine wp_sr ?_|refine wp_sx ?_|refine wp_ret' ?_|refine wp_skip' ?_|refine wp_exit' ?_)
  simp [zi64]
theorem ev_eqEdge (a b:Int):Ev tb zl48 [] [.agg [I a,I b],.agg [I a,I b]] [] ⟨Bo true,[],[],[]⟩:=by
  refine call_of_wp zt48 rfl ?_
  repeat (first|apply wp_as|apply wp_ss|refine wr (by simp;with_reducible rfl) ?_|refine wq (by simp;with_reducible rfl) ?_|refine wt (by simpa) ?_|refine wf (by simpa) ?_|refine xt (by simpa) ?_|refine xf (by simpa) ?_|apply wp_bs|apply wp_b|refine wp_sr ?_|refine wp_sx ?_|refine wp_ret' ?_|refine wp_skip' ?_|refine wp_exit' ?_)
  simp [zi48]
theorem eqE_loop (a:List (Int×Int)) (c d:Bool) (hl:a.length≤2000000):∀ (m i:Nat),i+m=a.length →
    wp tb (.loop z49l8) { T:=[(0,L2 a c),(1,L2 a d),(5,I i)],loc:=[],M:=[] }
      (fun ex st=>ex=.exit 0∧st={ T:=[(0,L2 a c),(1,L2 a d),(5,I a.length),(14,Bo false)],loc:=[],M:=[] }):=by
  intro m
  induction m with
  | zero =>
    intro i hi
    have h3:i=a.length:=hi
    subst h3
    refine wp_loop ?_
    repeat (first|apply wp_as|apply wp_ss|refine wr (by simp;with_reducible rfl) ?_|refine wq (by simp;with_reducible rfl) ?_|refine wt (by simpa) ?_|refine wf (by simpa) ?_|refine xt (by simpa) ?_|refine xf (by simpa) ?_|apply wp_bs|apply wp_b|refine wp_sr ?_|refine wp_sx ?_|refine wp_ret' ?_|refine wp_skip' ?_|refine wp_exit' ?_)
    exact ⟨rfl,rfl⟩
  | succ m ih =>
    intro i hi
    have hi2:i < a.length:=by omega
    have w2:IntKind.i64.wrap ((i:Int)+1)=((i+1:Nat):Int):=wrapS (by omega)
    have hg:=ih (i+1) (by omega)
    obtain ⟨⟨p,q⟩,hx⟩:∃ x,x=a[i]:=⟨_,rfl⟩
    have hx:=hx.symm
    have e1:=ev_lim (ev_eqEdge p q)
    refine wp_loop ?_
    repeat (first|apply wp_as|apply wp_ss|refine wr (by simp [hi2,w2,hx,e1];with_reducible rfl) ?_|refine wq (by simp [hi2,w2,hx,e1];with_reducible rfl) ?_|refine wt (by simpa [hi2,w2,hx,e1]) ?_|refine wf (by simpa [hi2,w2,hx,e1]) ?_|refine xt (by simpa [hi2,w2,hx,e1]) ?_|refine xf (by simpa [hi2,w2,hx,e1]) ?_|apply wp_bs|apply wp_b|refine wp_sr ?_|refine wp_sx ?_|refine wp_ret' ?_|refine wp_skip' ?_|refine wp_exit' ?_)
    exact hg
theorem ev_eqEdgeS (a:List (Int×Int)) (c d:Bool) (hl:a.length≤2000000):Ev tb zl49 [] [L2 a c,L2 a d] [] ⟨Bo true,[],[],[]⟩:=by
  have hlo:=eqE_loop a c d hl a.length 0 (by omega)
  rw [show ((0:Nat):Int)=0 from rfl] at hlo
  refine call_of_wp zt49 rfl ?_
  repeat (first|apply wp_as|apply wp_ss|refine wr (by simp;with_reducible rfl) ?_|refine wq (by simp;with_reducible rfl) ?_|refine wt (by simpa) ?_|refine wf (by simpa) ?_|refine xt (by simpa) ?_|refine xf (by simpa) ?_|apply wp_bs|apply wp_b|refine wp_sr ?_|refine wp_sx ?_|refine wp_ret' ?_|refine wp_skip' ?_|refine wp_exit' ?_)
  refine wp_imp hlo ?_
  rintro ex st ⟨rfl,rfl⟩
  try simp only [if_true]
  repeat (first|apply wp_as|apply wp_ss|refine wr (by simp;with_reducible rfl) ?_|refine wq (by simp;with_reducible rfl) ?_|refine wt (by simpa) ?_|refine wf (by simpa) ?_|refine xt (by simpa) ?_|refine xf (by simpa) ?_|apply wp_bs|apply wp_b|refine wp_sr ?_|refine wp_sx ?_|refine wp_ret' ?_|refine wp_skip' ?_|refine wp_exit' ?_)
  simp [zi49]
theorem ev_eqEdgeS_Z (x y:IV) (hx:x=Z ∨ ∃ c,x=L2 [] c) (hy:y=Z ∨ ∃ c,y=L2 [] c):Ev tb zl49 [] [x,y] [] ⟨Bo true,[],[],[]⟩:=by
  rcases hx with rfl | ⟨c,rfl⟩ <;> rcases hy with rfl | ⟨d,rfl⟩ <;>
  · refine call_of_wp zt49 rfl ?_
    repeat (first|apply wp_as|apply wp_ss|refine wr (by simp;with_reducible rfl) ?_|refine wq (by simp;with_reducible rfl) ?_|refine wt (by simpa) ?_|refine wf (by simpa) ?_|refine xt (by simpa) ?_|refine xf (by simpa) ?_|apply wp_bs|apply wp_b|refine wp_sr ?_|refine wp_sx ?_|refine wp_ret' ?_|refine wp_skip' ?_|refine wp_exit' ?_)
    refine wp_loop ?_
    repeat (first|apply wp_as|apply wp_ss|refine wr (by simp;with_reducible rfl) ?_|refine wq (by simp;with_reducible rfl) ?_|refine wt (by simpa) ?_|refine wf (by simpa) ?_|refine xt (by simpa) ?_|refine xf (by simpa) ?_|apply wp_bs|apply wp_b|refine wp_sr ?_|refine wp_sx ?_|refine wp_ret' ?_|refine wp_skip' ?_|refine wp_exit' ?_)
    simp [zi49]
theorem ev_eqGraph (n:Int) (a:List (Int×Int)) (c d:Bool) (hl:a.length≤2000000):Ev tb zl50 [] [Gr n a c,Gr n a d] [] ⟨Bo true,[],[],[]⟩:=by
  have e1:=fun c d=>ev_lim (ev_eqEdgeS a c d hl)
  refine call_of_wp zt50 rfl ?_
  repeat (first|apply wp_as|apply wp_ss|refine wr (by simp [e1];with_reducible rfl) ?_|refine wq (by simp [e1];with_reducible rfl) ?_|refine wt (by simpa [e1]) ?_|refine wf (by simpa [e1]) ?_|refine xt (by simpa [e1]) ?_|refine xf (by simpa [e1]) ?_|apply wp_bs|apply wp_b|refine wp_sr ?_|refine wp_sx ?_|refine wp_ret' ?_|refine wp_skip' ?_|refine wp_exit' ?_)
  simp [zi50]
theorem ev_eqGraph_Z (n:Int) (x y:IV) (hx:x=Z ∨ ∃ c,x=L2 [] c) (hy:y=Z ∨ ∃ c,y=L2 [] c):Ev tb zl50 [] [.agg [I n,x],.agg [I n,y]] [] ⟨Bo true,[],[],[]⟩:=by
  have e1:=ev_lim (ev_eqEdgeS_Z x y hx hy)
  rcases hx with rfl | ⟨c,rfl⟩ <;> rcases hy with rfl | ⟨d,rfl⟩ <;>
  · try simp only [L2,eds_nil] at e1 ⊢
    refine call_of_wp zt50 rfl ?_
    repeat (first|apply wp_as|apply wp_ss|refine wr (by simp [e1];with_reducible rfl) ?_|refine wq (by simp [e1];with_reducible rfl) ?_|refine wt (by simpa [e1]) ?_|refine wf (by simpa [e1]) ?_|refine xt (by simpa [e1]) ?_|refine xf (by simpa [e1]) ?_|apply wp_bs|apply wp_b|refine wp_sr ?_|refine wp_sx ?_|refine wp_ret' ?_|refine wp_skip' ?_|refine wp_exit' ?_)
    simp [zi50]
def mrk2 (k:Int) (n:Nat):List (Int×Int):=(List.range n).map fun i:Nat=>(k+2 * (i:Int),k+2 * (i:Int)+1)
theorem mrk2_len (k:Int) (n:Nat):(mrk2 k n).length=n:=by simp [mrk2]
theorem mrk2_get (k:Int) (n i:Nat) (h:i < (mrk2 k n).length):(mrk2 k n)[i]=(k+2 * (i:Int),k+2 * (i:Int)+1):=by simp [mrk2]
theorem mrk2_take (k:Int) (n:Nat):(mrk2 k n).take n=mrk2 k n:=List.take_of_length_le (by rw [mrk2_len];exact Nat.le_refl n)
theorem mkE_loop (k:Int) (n:Nat) (hn:n≤10000000) (hk:0≤k∧k≤100000000):∀ (m i:Nat) (A:List (Int×Int)),i+m=n→A.length=n→A.take i=(mrk2 k n).take i →
    wp tb (.loop z56l8) { T:=[(0,O2 A),(1,I (k+2 * i)),(5,I i)],loc:=[],M:=[] }
      (fun ex st=>ex=.exit 0∧st={ T:=[(0,O2 (mrk2 k n)),(1,I (k+2 * n)),(5,I n),(9,Bo false)],loc:=[],M:=[] }):=by
  intro m
  induction m with
  | zero =>
    intro i A hi hA ht
    have h3:i=n:=hi
    subst h3
    rw [List.take_of_length_le (by omega),List.take_of_length_le (by rw [mrk2_len];omega)] at ht
    subst ht
    refine wp_loop ?_
    repeat (first|apply wp_as|apply wp_ss|refine wr (by simp [mrk2_len];with_reducible rfl) ?_|refine wq (by simp [mrk2_len];with_reducible rfl) ?_|refine wt (by simpa [mrk2_len]) ?_|refine wf (by simpa [mrk2_len]) ?_|refine xt (by simpa [mrk2_len]) ?_|refine xf (by simpa [mrk2_len]) ?_|apply wp_bs|apply wp_b|refine wp_sr ?_|refine wp_sx ?_|refine wp_ret' ?_|refine wp_skip' ?_|refine wp_exit' ?_)
    exact ⟨rfl,rfl⟩
  | succ m ih =>
    intro i A hi hA ht
    have hi2:i < A.length:=by omega
    have w2:IntKind.i64.wrap ((i:Int)+1)=((i+1:Nat):Int):=wrapS (by omega)
    have w3:IntKind.i64.wrap (k+2 * (i:Int)+1)=k+2 * (i:Int)+1:=by rw [wrap64 (by omega) (by omega)]
    have w4:IntKind.i64.wrap (k+2 * (i:Int)+1+1)=k+2 * ((i+1:Nat):Int):=by rw [wrap64 (by omega) (by omega)];omega
    have hg:=ih (i+1) (A.set i (k+2 * (i:Int),k+2 * (i:Int)+1)) (by omega) (by simpa using hA) (by
      rw [List.take_succ_eq_append_getElem (by simpa using hi2),List.take_succ_eq_append_getElem (by rw [mrk2_len];omega),List.take_set_of_le (Nat.le_refl _),ht,mrk2_get];simp)
    obtain ⟨⟨p,q⟩,hx⟩:∃ x,x=A[i]:=⟨_,rfl⟩
    have hx:=hx.symm
    refine wp_loop ?_
    repeat (first|apply wp_as|apply wp_ss|refine wr (by simp [hi2,w2,w3,w4,hx];with_reducible rfl) ?_|refine wq (by simp [hi2,w2,w3,w4,hx];with_reducible rfl) ?_|refine wt (by simpa [hi2,w2,w3,w4,hx]) ?_|refine wf (by simpa [hi2,w2,w3,w4,hx]) ?_|refine xt (by simpa [hi2,w2,w3,w4,hx]) ?_|refine xf (by simpa [hi2,w2,w3,w4,hx]) ?_|apply wp_bs|apply wp_b|refine wp_sr ?_|refine wp_sx ?_|refine wp_ret' ?_|refine wp_skip' ?_|refine wp_exit' ?_)
    exact hg
theorem ev_markEdgeS (a:List (Int×Int)) (k:Int) (hl:a.length≤10000000) (hk:0≤k∧k≤100000000):Ev tb zl56 [0] [O2 a,I k] [] ⟨I (k+2 * a.length),[O2 (mrk2 k a.length)],[],[]⟩:=by
  have hlo:=mkE_loop k a.length hl hk a.length 0 a (by omega) rfl (by simp)
  rw [show k+2 * ((0:Nat):Int)=k by omega,show ((0:Nat):Int)=0 from rfl] at hlo
  refine call_of_wp zt56 rfl ?_
  repeat (first|apply wp_as|apply wp_ss|refine wr (by simp;with_reducible rfl) ?_|refine wq (by simp;with_reducible rfl) ?_|refine wt (by simpa) ?_|refine wf (by simpa) ?_|refine xt (by simpa) ?_|refine xf (by simpa) ?_|apply wp_bs|apply wp_b|refine wp_sr ?_|refine wp_sx ?_|refine wp_ret' ?_|refine wp_skip' ?_|refine wp_exit' ?_)
  refine wp_imp hlo ?_
  rintro ex st ⟨rfl,rfl⟩
  try simp only [if_true]
  repeat (first|apply wp_as|apply wp_ss|refine wr (by simp;with_reducible rfl) ?_|refine wq (by simp;with_reducible rfl) ?_|refine wt (by simpa) ?_|refine wf (by simpa) ?_|refine xt (by simpa) ?_|refine xf (by simpa) ?_|apply wp_bs|apply wp_b|refine wp_sr ?_|refine wp_sx ?_|refine wp_ret' ?_|refine wp_skip' ?_|refine wp_exit' ?_)
  simp [zi56]
theorem ev_markEdgeS_Z (k:Int):Ev tb zl56 [] [Z,I k] [] ⟨I k,[],[],[]⟩:=by
  refine call_of_wp zt56 rfl ?_
  repeat (first|apply wp_as|apply wp_ss|refine wr (by simp;with_reducible rfl) ?_|refine wq (by simp;with_reducible rfl) ?_|refine wt (by simpa) ?_|refine wf (by simpa) ?_|refine xt (by simpa) ?_|refine xf (by simpa) ?_|apply wp_bs|apply wp_b|refine wp_sr ?_|refine wp_sx ?_|refine wp_ret' ?_|refine wp_skip' ?_|refine wp_exit' ?_)
  refine wp_loop ?_
  repeat (first|apply wp_as|apply wp_ss|refine wr (by simp;with_reducible rfl) ?_|refine wq (by simp;with_reducible rfl) ?_|refine wt (by simpa) ?_|refine wf (by simpa) ?_|refine xt (by simpa) ?_|refine xf (by simpa) ?_|apply wp_bs|apply wp_b|refine wp_sr ?_|refine wp_sx ?_|refine wp_ret' ?_|refine wp_skip' ?_|refine wp_exit' ?_)
  simp [zi56]
theorem hdE_loop (k:Int) (n:Nat) (c:Bool) (hn:n≤10000000) (hk:0≤k∧k≤100000000):∀ (m i:Nat),i+m=n →
    wp tb (.loop z239l10) { T:=[(0,L2 (mrk2 k n) c),(1,I (k+2 * i)),(5,I i)],loc:=[],M:=[] }
      (fun ex st=>ex=.exit 0∧st={ T:=[(0,L2 (mrk2 k n) c),(1,I (k+2 * n)),(5,I n),(9,Bo false)],loc:=[],M:=[] }):=by
  intro m
  induction m with
  | zero =>
    intro i hi
    have h3:i=n:=hi
    subst h3
    refine wp_loop ?_
    repeat (first|apply wp_as|apply wp_ss|refine wr (by simp [mrk2_len];with_reducible rfl) ?_|refine wq (by simp [mrk2_len];with_reducible rfl) ?_|refine wt (by simpa [mrk2_len]) ?_|refine wf (by simpa [mrk2_len]) ?_|refine xt (by simpa [mrk2_len]) ?_|refine xf (by simpa [mrk2_len]) ?_|apply wp_bs|apply wp_b|refine wp_sr ?_|refine wp_sx ?_|refine wp_ret' ?_|refine wp_skip' ?_|refine wp_exit' ?_)
    exact ⟨rfl,rfl⟩
  | succ m ih =>
    intro i hi
    have hi2:i < n:=by omega
    have w2:IntKind.i64.wrap ((i:Int)+1)=((i+1:Nat):Int):=wrapS (by omega)
    have w3:IntKind.i64.wrap (k+2 * (i:Int)+1)=k+2 * (i:Int)+1:=by rw [wrap64 (by omega) (by omega)]
    have w4:IntKind.i64.wrap (k+2 * (i:Int)+1+1)=k+2 * ((i+1:Nat):Int):=by rw [wrap64 (by omega) (by omega)];omega
    have hg:=ih (i+1) (by omega)
    refine wp_loop ?_
    repeat (first|apply wp_as|apply wp_ss|refine wr (by simp [mrk2_len,hi2,w2,w3,w4,mrk2_get];with_reducible rfl) ?_|refine wq (by simp [mrk2_len,hi2,w2,w3,w4,mrk2_get];with_reducible rfl) ?_|refine wt (by simpa [mrk2_len,hi2,w2,w3,w4,mrk2_get]) ?_|refine wf (by simpa [mrk2_len,hi2,w2,w3,w4,mrk2_get]) ?_|refine xt (by simpa [mrk2_len,hi2,w2,w3,w4,mrk2_get]) ?_|refine xf (by simpa [mrk2_len,hi2,w2,w3,w4,mrk2_get]) ?_|apply wp_bs|apply wp_b|refine wp_sr ?_|refine wp_sx ?_|refine wp_ret' ?_|refine wp_skip' ?_|refine wp_exit' ?_)
    exact hg
theorem ev_heldEdgeS (k:Int) (n:Nat) (c:Bool) (hl:n≤10000000) (hk:0≤k∧k≤100000000):Ev tb zl239 [] [L2 (mrk2 k n) c,I k] [] ⟨I (k+2 * n),[],[],[]⟩:=by
  have hlo:=hdE_loop k n c hl hk n 0 (by omega)
  rw [show k+2 * ((0:Nat):Int)=k by omega,show ((0:Nat):Int)=0 from rfl] at hlo
  refine call_of_wp zt239 rfl ?_
  repeat (first|apply wp_as|apply wp_ss|refine wr (by simp;with_reducible rfl) ?_|refine wq (by simp;with_reducible rfl) ?_|refine wt (by simpa) ?_|refine wf (by simpa) ?_|refine xt (by simpa) ?_|refine xf (by simpa) ?_|apply wp_bs|apply wp_b|refine wp_sr ?_|refine wp_sx ?_|refine wp_ret' ?_|refine wp_skip' ?_|refine wp_exit' ?_)
  refine wp_imp hlo ?_
  rintro ex st ⟨rfl,rfl⟩
  try simp only [if_true]
  repeat (first|apply wp_as|apply wp_ss|refine wr (by simp;with_reducible rfl) ?_|refine wq (by simp;with_reducible rfl) ?_|refine wt (by simpa) ?_|refine wf (by simpa) ?_|refine xt (by simpa) ?_|refine xf (by simpa) ?_|apply wp_bs|apply wp_b|refine wp_sr ?_|refine wp_sx ?_|refine wp_ret' ?_|refine wp_skip' ?_|refine wp_exit' ?_)
  simp [zi239]
theorem ev_heldEdgeS_Z (k:Int):Ev tb zl239 [] [Z,I k] [] ⟨I k,[],[],[]⟩:=by
  refine call_of_wp zt239 rfl ?_
  repeat (first|apply wp_as|apply wp_ss|refine wr (by simp;with_reducible rfl) ?_|refine wq (by simp;with_reducible rfl) ?_|refine wt (by simpa) ?_|refine wf (by simpa) ?_|refine xt (by simpa) ?_|refine xf (by simpa) ?_|apply wp_bs|apply wp_b|refine wp_sr ?_|refine wp_sx ?_|refine wp_ret' ?_|refine wp_skip' ?_|refine wp_exit' ?_)
  refine wp_loop ?_
  repeat (first|apply wp_as|apply wp_ss|refine wr (by simp;with_reducible rfl) ?_|refine wq (by simp;with_reducible rfl) ?_|refine wt (by simpa) ?_|refine wf (by simpa) ?_|refine xt (by simpa) ?_|refine xf (by simpa) ?_|apply wp_bs|apply wp_b|refine wp_sr ?_|refine wp_sx ?_|refine wp_ret' ?_|refine wp_skip' ?_|refine wp_exit' ?_)
  simp [zi239]
theorem ev_markGraph (n:Int) (a:List (Int×Int)) (k:Int) (hl:a.length≤10000000) (hk:0≤k∧k≤100000000):Ev tb zl57 [0] [OG n a,I k] [] ⟨I (k+2 * a.length),[OG n (mrk2 k a.length)],[],[]⟩:=by
  have e1:=ev_lim (ev_markEdgeS a k hl hk)
  have hs:(eds (mrk2 k a.length)).all (·.all IV.isSc)=true:=by
    rw [List.all_eq_true];intro x hx
    obtain ⟨e,_,rfl⟩:=List.mem_map.1 hx
    rfl
  refine call_of_wp zt57 rfl ?_
  refine ⟨_,by simp [z57r0,z57r1,e1,hs];with_reducible rfl,?_⟩
  repeat (first|apply wp_as|apply wp_ss|refine wr (by simp;with_reducible rfl) ?_|refine wq (by simp;with_reducible rfl) ?_|refine wt (by simpa) ?_|refine wf (by simpa) ?_|refine xt (by simpa) ?_|refine xf (by simpa) ?_|apply wp_bs|apply wp_b|refine wp_sr ?_|refine wp_sx ?_|refine wp_ret' ?_|refine wp_skip' ?_|refine wp_exit' ?_)
  simp [zi57]
theorem ev_markGraph_Z (n:Int) (k:Int):Ev tb zl57 [] [.agg [I n,Z],I k] [] ⟨I k,[],[],[]⟩:=by
  have e1:=ev_lim (ev_markEdgeS_Z k)
  refine call_of_wp zt57 rfl ?_
  refine ⟨_,by simp [z57r0,z57r1,e1];with_reducible rfl,?_⟩
  repeat (first|apply wp_as|apply wp_ss|refine wr (by simp;with_reducible rfl) ?_|refine wq (by simp;with_reducible rfl) ?_|refine wt (by simpa) ?_|refine wf (by simpa) ?_|refine xt (by simpa) ?_|refine xf (by simpa) ?_|apply wp_bs|apply wp_b|refine wp_sr ?_|refine wp_sx ?_|refine wp_ret' ?_|refine wp_skip' ?_|refine wp_exit' ?_)
  simp [zi57]
theorem ev_heldGraph (n:Int) (k:Int) (m:Nat) (c:Bool) (hl:m≤10000000) (hk:0≤k∧k≤100000000):Ev tb zl240 [] [Gr n (mrk2 k m) c,I k] [] ⟨I (k+2 * m),[],[],[]⟩:=by
  have e1:=fun c=>ev_lim (ev_heldEdgeS k m c hl hk)
  have h0:¬ (k+2 * (m:Int) < 0):=by omega
  refine call_of_wp zt240 rfl ?_
  repeat (first|apply wp_as|apply wp_ss|refine wr (by simp [e1,h0];with_reducible rfl) ?_|refine wq (by simp [e1,h0];with_reducible rfl) ?_|refine wt (by simpa [e1,h0]) ?_|refine wf (by simpa [e1,h0]) ?_|refine xt (by simpa [e1,h0]) ?_|refine xf (by simpa [e1,h0]) ?_|apply wp_bs|apply wp_b|refine wp_sr ?_|refine wp_sx ?_|refine wp_ret' ?_|refine wp_skip' ?_|refine wp_exit' ?_)
  simp [zi240]
theorem ev_heldGraph_Z (n:Int) (k:Int) (hk:0≤k):Ev tb zl240 [] [.agg [I n,Z],I k] [] ⟨I k,[],[],[]⟩:=by
  have e1:=ev_lim (ev_heldEdgeS_Z k)
  have h0:¬ (k < 0):=by omega
  refine call_of_wp zt240 rfl ?_
  repeat (first|apply wp_as|apply wp_ss|refine wr (by simp [e1,h0];with_reducible rfl) ?_|refine wq (by simp [e1,h0];with_reducible rfl) ?_|refine wt (by simpa [e1,h0]) ?_|refine wf (by simpa [e1,h0]) ?_|refine xt (by simpa [e1,h0]) ?_|refine xf (by simpa [e1,h0]) ?_|apply wp_bs|apply wp_b|refine wp_sr ?_|refine wp_sx ?_|refine wp_ret' ?_|refine wp_skip' ?_|refine wp_exit' ?_)
  simp [zi240]
end Go.Idl
namespace Go.Idl
open Go
abbrev Str (s:ByteArray):IV:=.sc (.string s)
def strs (l:List ByteArray):List (List IV):=l.map fun s=>[Str s]
@[simp] theorem strs_len (l:List ByteArray):(strs l).length=l.length:=by simp [strs]
@[simp] theorem strs_get (l:List ByteArray) (i:Nat) (h:i < (strs l).length):(strs l)[i]=[IV.sc (.string (l[i]'(by simpa [strs] using h)))]:=by simp [strs]
@[simp] theorem strs_get? (l:List ByteArray) (i:Nat):(strs l)[i]? = l[i]?.map fun s=>[IV.sc (.string s)]:=by simp [strs]
end Go.Idl
namespace Go.Idl
open Go
def gls (n:Int) (gl:List (List (Int×Int))):List (List IV):=gl.map fun es=>[I n,O2 es]
@[simp] theorem gls_len (n:Int) (gl):(gls n gl).length=gl.length:=by simp [gls]
@[simp] theorem gls_one (n:Int) (gl) (es:List (Int×Int)):gls n gl++[[IV.sc (.int .i64 n),.own 2 (eds es)]]=gls n (gl++[es]):=by simp [gls]
@[simp] theorem gls_emp (n:Int) (gl):(gls n gl).isEmpty=gl.isEmpty:=by cases gl <;> rfl
@[simp] theorem gls_take (n:Int) (gl) (k:Nat):(gls n gl).take k=gls n (gl.take k):=by simp [gls,List.map_take]
@[simp] theorem gls_all (n:Int) (gl):((gls n gl).all fun x=>x.all IV.isData)=true:=by
  induction gl with
  | nil=>rfl
  | cons x xs ih=>simp only [gls,List.map_cons,List.all_cons] at *;rw [ih];rfl
@[simp] theorem gls_noLst (n:Int) (gl):noLstLL (gls n gl)=true:=by
  induction gl with
  | nil=>rfl
  | cons x xs ih=>simp only [gls,List.map_cons,noLstLL,noLstL,noLstV,eds_noLst] at *;rw [ih];rfl
end Go.Idl
namespace Go.Idl
open Go
abbrev GF:=List (List (Int×Int)×Bool)
def glf (n:Int) (R:GF):List (List IV):=R.map fun x=>[I n,L2 x.1 x.2]
@[simp] theorem glf_len (n:Int) (R:GF):(glf n R).length=R.length:=by simp [glf]
@[simp] theorem glf_nil (n:Int):glf n []=[]:=rfl
@[simp] theorem glf_app (n:Int) (R S:GF):glf n R++glf n S=glf n (R++S):=by simp [glf]
@[simp] theorem glf_take (n:Int) (R:GF) (k:Nat):(glf n R).take k=glf n (R.take k):=by simp [glf,List.map_take]
@[simp] theorem glf_all (n:Int) (R:GF):((glf n R).all fun x=>x.all IV.isData)=true:=by
  induction R with
  | nil=>rfl
  | cons x xs ih=>simp only [glf,List.map_cons,List.all_cons] at *;rw [ih];rfl
end Go.Idl
namespace Go.Idl
open Go
@[simp] theorem un_neg (n:Int):Op.unary .neg (.int .i64 n)=.pure (.int .i64 (IntKind.i64.wrap (-n))):=by
  rw [← Int.zero_sub];rfl
def gs (r c:List Int) (i:Nat):Int:=-((fall r).take (i+1)).sum+(c.map fun x:Int=>min x ((i:Int)+1)).sum
end Go.Idl
namespace Go.Idl
open Go
def TT (n:Nat) (t:List (List Int)):Prop:=t.length=n∧∀ r ∈ t,r.length=n∧∀ x ∈ r,0≤x∧x≤1
theorem TT.set {n:Nat} {t:List (List Int)} (h:TT n t) {a b:Nat} {v:Int} (ha:a < t.length) (hv:0≤v∧v≤1):TT n (t.set a (t[a].set b v)):=by
  refine ⟨by simpa using h.1,fun r hr=>?_⟩
  have h1:=h.2 _ (List.getElem_mem ha)
  rcases List.mem_or_eq_of_mem_set hr with hr | rfl
  · exact h.2 r hr
  · refine ⟨by simpa using h1.1,fun x hx=>?_⟩
    rcases List.mem_or_eq_of_mem_set hx with hx | rfl
    · exact h1.2 x hx
    · exact hv
end Go.Idl
namespace Go.Idl
open Go
def MM (h w:Nat) (t:List (List Int)):Prop:=t.length=h∧∀ r ∈ t,r.length=w∧∀ x ∈ r,0≤x∧x≤1
end Go.Idl
namespace Go.Idl
open Go
theorem MM.sums {h w:Nat} {t:List (List Int)} (ht:MM h w t) (hw:w≤5):∀ x ∈ t.map List.sum,0≤x∧x≤5:=by
  intro x hx
  obtain ⟨r,hr,rfl⟩:=List.mem_map.1 hx
  have h1:=ht.2 r hr
  have:=sum01 r h1.2
  omega
end Go.Idl
namespace Go.Idl
def insP (x:Nat×Nat):List (Nat×Nat)→List (Nat×Nat)
  | []=>[x]
  | y::r=>if Nat.ble y.1 x.1 then x::y::r else y::insP x r
def hh:Nat→List (Nat×Nat)→List (Nat×Nat)
  | 0,_=>[]
  | _+1,[]=>[]
  | m+1,x::r=>(r.take x.1).map (fun y:Nat×Nat=>(x.2,y.2))++hh m ((((r.take x.1).map (fun y:Nat×Nat=>(y.1 - 1,y.2))++r.drop x.1:List (Nat×Nat))).foldr insP [])
theorem inc_nonneg (v:Nat) (e:Int×Int):0≤inc v e:=by simp only [inc];split <;> split <;> decide
def mk (u v:Nat):Int×Int:=(min (u:Int) v,max (u:Int) v)
end Go.Idl
namespace Go.Idl
theorem insE_pw {e:Int×Int}:∀ {es:List (Int×Int)},PW es→e ∉ es→PW (insE e es)
  | [],_,_=>by simp [insE,PW]
  | x::r,h,hn=>by
    have h':=List.pairwise_cons.1 h
    rw [insE]
    split
    · rename_i hx
      refine List.pairwise_cons.2 ⟨fun y hy=>?_,insE_pw h'.2 fun hm=>hn (by simp [hm])⟩
      rcases (insE_mem _ _ _).1 hy with rfl | hy
      · exact hx
      · exact h'.1 y hy
    · rename_i hx
      have hxe:below e x=true:=by
        rcases below_total (a:=e) (b:=x) (fun h=>hn (by simp [h])) with q | q
        · exact q
        · exact absurd q hx
      refine List.pairwise_cons.2 ⟨fun y hy=>?_,h⟩
      rcases List.mem_cons.1 hy with rfl | hy
      · exact hxe
      · exact below_trans hxe (h'.1 y hy)
end Go.Idl
namespace Go.Idl
theorem idxB_pw (n:Nat):(idxB n (-1)).Pairwise (fun a b:Int=>a < b):=by
  rw [idxB_all,List.pairwise_map]
  exact (List.pairwise_lt_range).imp fun h=>by omega
end Go.Idl
namespace Go.Idl
theorem mem_sw {es:List (Int×Int)} {a b c d:Int} {e:Int×Int}:e ∈ sw es a b c d ↔ (e ∈ es∧e ≠ (min a b,max a b)∧e ≠ (min c d,max c d)) ∨ e=(min a c,max a c) ∨ e=(min b d,max b d):=by
  rw [sw,(srtE_perm _).mem_iff,swX,List.mem_append,List.mem_filter]
  simp only [gone,Bool.not_eq_true',Bool.or_eq_false_iff,decide_eq_false_iff_not,List.mem_cons,List.not_mem_nil,or_false,ne_eq]
theorem four_ne {a b c d:Int} (h:a ≠ b∧a ≠ c∧a ≠ d∧b ≠ c∧b ≠ d∧c ≠ d) :
    ((min a b,max a b):Int×Int) ≠ (min c d,max c d)∧((min a b,max a b):Int×Int) ≠ (min a c,max a c)∧((min a b,max a b):Int×Int) ≠ (min b d,max b d) ∧
    ((min c d,max c d):Int×Int) ≠ (min a c,max a c)∧((min c d,max c d):Int×Int) ≠ (min b d,max b d)∧((min a c,max a c):Int×Int) ≠ (min b d,max b d):=by
  simp only [ne_eq,Prod.mk.injEq]
  omega
theorem sw_eq {n:Nat} {es:List (Int×Int)} {a b c d:Int} (h:vGraph n es=true) (hm:mayI es a b c d=true):swS es a b c d=sw es a b c d:=by
  obtain ⟨h1,h2,h3⟩:=vG_iff.1 h
  obtain ⟨hd,m1,m2,m3,m4⟩:=mayI_iff.1 hm
  have f4:=four_ne hd
  have hs1:PW (dropE c d (dropE a b es)):=(h1.filter _).filter _
  have hs2:∀ e,e ∈ dropE c d (dropE a b es) ↔ e ∈ es∧e ≠ (min a b,max a b)∧e ≠ (min c d,max c d):=fun e=>by
    simp only [dropE,List.mem_filter,dropP,Bool.not_eq_true',Bool.and_eq_false_imp,decide_eq_true_eq,decide_eq_false_iff_not,and_assoc,ne_eq,Prod.ext_iff,not_and]
  have n1:((min a c,max a c):Int×Int) ∉ dropE c d (dropE a b es):=fun hh=>m3 ((hs2 _).1 hh).1
  have n2:((min b d,max b d):Int×Int) ∉ insE (min a c,max a c) (dropE c d (dropE a b es)):=fun hh=>by
    rcases (insE_mem _ _ _).1 hh with hh | hh
    · exact f4.2.2.2.2.2 hh.symm
    · exact m4 ((hs2 _).1 hh).1
  refine pw_ext (insE_pw (insE_pw hs1 n1) n2) (srtE_pw (swX_ok h hm).1) fun e=>?_
  show e ∈ insE _ _ ↔ e ∈ sw es a b c d
  rw [insE_mem,insE_mem,hs2,mem_sw]
  constructor
  · rintro (h | h | h)
    · exact .inr (.inr h)
    · exact .inr (.inl h)
    · exact .inl h
  · rintro (h | h | h)
    · exact .inr (.inr h)
    · exact .inr (.inl h)
    · exact .inl h
theorem inc_mm (v:Nat) (a c:Int):inc v (min a c,max a c)=(if a=v then 1 else 0)+(if c=v then 1 else 0):=by
  rcases Int.le_total a c with h | h
  · rw [inc,Int.min_eq_left h,Int.max_eq_right h]
  · rw [inc,Int.min_eq_right h,Int.max_eq_left h,Int.add_comm]
theorem sw_deg {n:Nat} {es:List (Int×Int)} {a b c d:Int} (h:vGraph n es=true) (hm:mayI es a b c d=true) (v:Nat):deg (sw es a b c d) v=deg es v:=by
  obtain ⟨h1,h2,h3⟩:=vG_iff.1 h
  obtain ⟨hd,m1,m2,m3,m4⟩:=mayI_iff.1 hm
  have f4:=four_ne hd
  have hp:(es.filter (gone a b c d)).Perm [(min a b,max a b),(min c d,max c d)]:=by
    refine (List.perm_ext_iff_of_nodup ((pw_nodup h1).filter _) (by simpa using f4.1)).2 fun e=>?_
    simp only [List.mem_filter,gone,Bool.or_eq_true,decide_eq_true_eq,List.mem_cons,List.not_mem_nil,or_false]
    constructor
    · exact fun h=>h.2
    · rintro (rfl | rfl)
      · exact ⟨m1,.inl rfl⟩
      · exact ⟨m2,.inr rfl⟩
  have e1:=S_filter es (gone a b c d) (inc v)
  have e2:=S_perm hp (inc v)
  have e3:=S_perm (srtE_perm (swX es a b c d)) (inc v)
  rw [deg,deg,sw,e3,swX,S_app,← e1,e2]
  simp only [S,List.map_cons,List.map_nil,List.sum_cons,List.sum_nil,inc_mm]
  omega
theorem sw_degs {n:Nat} {es:List (Int×Int)} {a b c d:Int} (h:vGraph n es=true) (hm:mayI es a b c d=true):degs n (sw es a b c d)=degs n es:=by
  have i1:EdgesIn n es:=fun e he=>by have:=mem_prs.1 ((vG_iff.1 h).2.1 e he);omega
  have i2:EdgesIn n (sw es a b c d):=fun e he=>by have:=mem_prs.1 ((vG_iff.1 (swX_ok h hm).2.2.1).2.1 e he);omega
  rw [degs_eq i1,degs_eq i2]
  exact List.map_congr_left fun v _=>sw_deg h hm v
end Go.Idl
namespace Go.Idl
open Go
theorem ev_szGraph_ok (n:Int) (es:List (Int×Int)) (c:Bool) (l:Int) (h:(es.length:Int)≤l) (hl:l≤2000000):Ev tb zl61 [] [Gr n es c,I l] [] ⟨I (l - es.length),[],[],[]⟩:=by
  have w1:IntKind.i64.wrap (l - (es.length:Int))=l - es.length:=wrap64 (by omega) (by omega)
  have h0:¬ (l - (es.length:Int) < 0):=by omega
  have e1:∀ c,limF tb zl60 [] [L2 es c,I l] []=some ⟨I (l - es.length),[],[],[]⟩:=fun c=>ev_lim (by
    refine call_of_wp zt60 rfl ?_
    repeat (first|apply wp_as|apply wp_ss|refine wr (by simp [w1,h0];with_reducible rfl) ?_|refine wq (by simp [w1,h0];with_reducible rfl) ?_|refine wt (by simpa [w1,h0]) ?_|refine wf (by simpa [w1,h0]) ?_|refine xt (by simpa [w1,h0]) ?_|refine xf (by simpa [w1,h0]) ?_|apply wp_bs|apply wp_b|refine wp_sr ?_|refine wp_sx ?_|refine wp_ret' ?_|refine wp_skip' ?_|refine wp_exit' ?_)
    simp [zi60])
  refine call_of_wp zt61 rfl ?_
  repeat (first|apply wp_as|apply wp_ss|refine wr (by simp [e1,h0];with_reducible rfl) ?_|refine wq (by simp [e1,h0];with_reducible rfl) ?_|refine wt (by simpa [e1,h0]) ?_|refine wf (by simpa [e1,h0]) ?_|refine xt (by simpa [e1,h0]) ?_|refine xf (by simpa [e1,h0]) ?_|apply wp_bs|apply wp_b|refine wp_sr ?_|refine wp_sx ?_|refine wp_ret' ?_|refine wp_skip' ?_|refine wp_exit' ?_)
  simp [zi61]
theorem ev_szGraph_no (n:Int) (es:List (Int×Int)) (c:Bool) (l:Int) (h:l < (es.length:Int)) (hl:0≤l) (hb:es.length < 9223372036854775808):Ev tb zl61 [] [Gr n es c,I l] [] ⟨I (-1),[],[],[]⟩:=by
  have w1:IntKind.i64.wrap (l - (es.length:Int))=l - es.length:=wrap64 (by omega) (by omega)
  have h0:l - (es.length:Int) < 0:=by omega
  have e1:∀ c,limF tb zl60 [] [L2 es c,I l] []=some ⟨I (-1),[],[],[]⟩:=fun c=>ev_lim (by
    refine call_of_wp zt60 rfl ?_
    repeat (first|apply wp_as|apply wp_ss|refine wr (by simp [w1,h0];with_reducible rfl) ?_|refine wq (by simp [w1,h0];with_reducible rfl) ?_|refine wt (by simpa [w1,h0]) ?_|refine wf (by simpa [w1,h0]) ?_|refine xt (by simpa [w1,h0]) ?_|refine xf (by simpa [w1,h0]) ?_|apply wp_bs|apply wp_b|refine wp_sr ?_|refine wp_sx ?_|refine wp_ret' ?_|refine wp_skip' ?_|refine wp_exit' ?_)
    simp [zi60])
  refine call_of_wp zt61 rfl ?_
  repeat (first|apply wp_as|apply wp_ss|refine wr (by simp [e1];with_reducible rfl) ?_|refine wq (by simp [e1];with_reducible rfl) ?_|refine wt (by simpa [e1]) ?_|refine wf (by simpa [e1]) ?_|refine xt (by simpa [e1]) ?_|refine xf (by simpa [e1]) ?_|apply wp_bs|apply wp_b|refine wp_sr ?_|refine wp_sx ?_|refine wp_ret' ?_|refine wp_skip' ?_|refine wp_exit' ?_)
  simp [zi61]
@[simp] theorem sws_rep (n:Nat):List.replicate n [IV.sc (.int .i64 0),IV.sc (.int .i64 0),IV.sc (.int .i64 0),IV.sc (.int .i64 0)]=sws (List.replicate n (0,0,0,0)):=by simp [sws]
@[simp] theorem sws_set (xs:List Q4) (i:Nat) (a b c d:Int):(sws xs).set i [IV.sc (.int .i64 a),IV.sc (.int .i64 b),IV.sc (.int .i64 c),IV.sc (.int .i64 d)]=sws (xs.set i (a,b,c,d)):=by
  simp [sws,List.map_set]
theorem mrk2_sc (k:Int) (n:Nat):(eds (mrk2 k n)).all (·.all IV.isSc)=true:=by
  rw [List.all_eq_true];intro x hx
  obtain ⟨e,_,rfl⟩:=List.mem_map.1 hx
  rfl
end Go.Idl
namespace Go.Idl
open Go
def relax (o:List Int) (e:Int×Int):List Int:=(o.set e.1.toNat (min (o.getD e.1.toNat 0) (o.getD e.2.toNat 0))).set e.2.toNat (min (o.getD e.1.toNat 0) (o.getD e.2.toNat 0))
def rnds (es:List (Int×Int)):Nat→List Int→List Int
  | 0,o=>o
  | m+1,o=>rnds es m (es.foldl relax o)
theorem relax_len (o:List Int) (e:Int×Int):(relax o e).length=o.length:=by simp [relax]
theorem foldr_len (es:List (Int×Int)):∀ o:List Int,(es.foldl relax o).length=o.length:=by
  induction es with
  | nil=>intro o;rfl
  | cons e es ih=>intro o;rw [List.foldl_cons,ih,relax_len]
theorem rnds_len (es:List (Int×Int)):∀ (m:Nat) (o:List Int),(rnds es m o).length=o.length
  | 0,_=>rfl
  | m+1,o=>by rw [rnds,rnds_len es m,foldr_len]
theorem ro_in (n:Nat) (e0:Nat) (es:List (Int×Int)) (c:Bool) (he0:e0=2 ∨ es=[]) (hes:∀ e ∈ es,0≤e.1∧e.1 < n∧0≤e.2∧e.2 < n) (hel:es.length≤1000) (k:Nat):∀ (m j:Nat) (out:List Int) (B:Boxes),j+m=es.length→out.length=n →
    wp tb (.loop z172l10) { T:=[(1,.bptr 0 0 0),(3,O out),(11,I n),(12,I k),(15,.lst e0 (eds es) c),(16,I es.length),(17,I j)],loc:=[I n,.lst e0 (eds es) c]::B,M:=[] }
      (fun ex st=>ex=.exit 2∧∃ B',st={ T:=[(1,.bptr 0 0 0),(3,O ((es.drop j).foldl relax out)),(11,I n),(12,I k),(15,.lst e0 (eds es) c),(16,I es.length),(17,I es.length),(18,Bo false)],loc:=[I n,.lst e0 (eds es) c]::B',M:=[] }):=by
  intro m
  induction m with
  | zero =>
    intro j out B hj hl
    have h3:j=es.length:=hj
    subst h3
    refine wp_loop ?_
    repeat (first|apply wp_as|apply wp_ss|refine wr (by simp;with_reducible rfl) ?_|refine wq (by simp;with_reducible rfl) ?_|refine wt (by simpa) ?_|refine wf (by simpa) ?_|refine xt (by simpa) ?_|refine xf (by simpa) ?_|apply wp_bs|apply wp_b|refine wp_sr ?_|refine wp_sx ?_|refine wp_ret' ?_|refine wp_skip' ?_|refine wp_exit' ?_)
    exact ⟨rfl,_,by simp;rfl⟩
  | succ m ih =>
    intro j out B hj hl
    have hj2:j < es.length:=by omega
    have he2:e0=2:=by
      rcases he0 with h | h
      · exact h
      · rw [h] at hj2;cases hj2
    subst he2
    have hd:es.drop j=es[j]::es.drop (j+1):=List.drop_eq_getElem_cons hj2
    have hb:=hes _ (List.getElem_mem hj2)
    obtain ⟨⟨x,y⟩,hx⟩:∃ e,e=es[j]:=⟨_,rfl⟩
    rw [← hx] at hb
    simp only at hb
    obtain ⟨a,rfl⟩:=Int.eq_ofNat_of_zero_le hb.1
    obtain ⟨b,rfl⟩:=Int.eq_ofNat_of_zero_le hb.2.2.1
    have hx2:=hx.symm
    have han:a < n:=by omega
    have hbn:b < n:=by omega
    have ha:a < out.length:=by omega
    have hbl:b < out.length:=by omega
    have w1:IntKind.i64.wrap ((j:Int)+1)=((j+1:Nat):Int):=wrapS (by omega)
    have hmn:(if out[b] < out[a] then out[b] else out[a])=min out[a] out[b]:=by split <;> omega
    have hn:=ih (j+1) (relax out ((a:Int),(b:Int))) (B++[[I a,I b]]) (by omega) (by rw [relax_len,hl])
    have ga:out.getD a 0=out[a]:=by rw [List.getD_eq_getElem?_getD,List.getElem?_eq_getElem ha];rfl
    have gb:out.getD b 0=out[b]:=by rw [List.getD_eq_getElem?_getD,List.getElem?_eq_getElem hbl];rfl
    have hr:relax out ((a:Int),(b:Int))=(out.set a (min out[a] out[b])).set b (min out[a] out[b]):=by
      simp only [relax,Int.toNat_natCast,ga,gb]
    rw [hd,← hx,List.foldl_cons]
    rw [hr] at hn ⊢
    refine wp_loop ?_
    repeat (first|apply wp_as|apply wp_ss|refine wr (by simp [hj2,hx2,ha,hbl,hl,hmn,han,hbn];with_reducible rfl) ?_|refine wq (by simp [hj2,hx2,ha,hbl,hl,hmn,han,hbn];with_reducible rfl) ?_|refine wt (by simpa [hj2,hx2,ha,hbl,hl,hmn,han,hbn]) ?_|refine wf (by simpa [hj2,hx2,ha,hbl,hl,hmn,han,hbn]) ?_|refine xt (by simpa [hj2,hx2,ha,hbl,hl,hmn,han,hbn]) ?_|refine xf (by simpa [hj2,hx2,ha,hbl,hl,hmn,han,hbn]) ?_|apply wp_bs|apply wp_b|refine wp_sr ?_|refine wp_sx ?_|refine wp_ret' ?_|refine wp_skip' ?_|refine wp_exit' ?_)
    refine wp_ra (by simp [ha,hbl,hl,han,hbn];with_reducible rfl) (by simp;with_reducible rfl) ?_ ?_
    · intro p hp
      simp only [List.mem_cons,List.not_mem_nil,or_false] at hp
      subst hp
      exact ⟨_,by simp [ha,hbl,hl,han,hbn];with_reducible rfl,by simp⟩
    repeat (first|apply wp_as|apply wp_ss|refine wr (by simp [w1];with_reducible rfl) ?_|refine wq (by simp [w1];with_reducible rfl) ?_|refine wt (by simpa [w1]) ?_|refine wf (by simpa [w1]) ?_|refine xt (by simpa [w1]) ?_|refine xf (by simpa [w1]) ?_|apply wp_bs|apply wp_b|refine wp_sr ?_|refine wp_sx ?_|refine wp_ret' ?_|refine wp_skip' ?_|refine wp_exit' ?_)
    exact hn
theorem ro_out (n:Nat) (e0:Nat) (es:List (Int×Int)) (c:Bool) (he0:e0=2 ∨ es=[]) (hes:∀ e ∈ es,0≤e.1∧e.1 < n∧0≤e.2∧e.2 < n) (hel:es.length≤1000) (hn7:n≤7):∀ (m k:Nat) (out:List Int) (B:Boxes),k+m=n→out.length=n →
    wp tb (.loop z172l12) { T:=[(1,.bptr 0 0 0),(3,O out),(11,I n),(12,I k)],loc:=[I n,.lst e0 (eds es) c]::B,M:=[] }
      (fun ex st=>ex=.exit 0∧∃ B',st={ T:=[(1,.bptr 0 0 0),(3,O (rnds es m out)),(11,I n),(12,I n),(13,Bo false)],loc:=[I n,.lst e0 (eds es) c]::B',M:=[] }):=by
  intro m
  induction m with
  | zero =>
    intro k out B hk hl
    have h3:k=n:=hk
    subst h3
    refine wp_loop ?_
    repeat (first|apply wp_as|apply wp_ss|refine wr (by simp;with_reducible rfl) ?_|refine wq (by simp;with_reducible rfl) ?_|refine wt (by simpa) ?_|refine wf (by simpa) ?_|refine xt (by simpa) ?_|refine xf (by simpa) ?_|apply wp_bs|apply wp_b|refine wp_sr ?_|refine wp_sx ?_|refine wp_ret' ?_|refine wp_skip' ?_|refine wp_exit' ?_)
    exact ⟨rfl,_,rfl⟩
  | succ m ih =>
    intro k out B hk hl
    have hk2:k < n:=by omega
    have w1:IntKind.i64.wrap ((k:Int)+1)=((k+1:Nat):Int):=wrapS (by omega)
    refine wp_loop ?_
    repeat (first|apply wp_as|apply wp_ss|refine wr (by simp [hk2];with_reducible rfl) ?_|refine wq (by simp [hk2];with_reducible rfl) ?_|refine wt (by simpa [hk2]) ?_|refine wf (by simpa [hk2]) ?_|refine xt (by simpa [hk2]) ?_|refine xf (by simpa [hk2]) ?_|apply wp_bs|apply wp_b|refine wp_sr ?_|refine wp_sx ?_|refine wp_ret' ?_|refine wp_skip' ?_|refine wp_exit' ?_)
    refine wp_imp (ro_in n e0 es c he0 hes hel k es.length 0 out B (by omega) hl) ?_
    rintro ex st ⟨rfl,B',rfl⟩
    simp only [if_true,List.drop_zero]
    repeat (first|apply wp_as|apply wp_ss|refine wr (by simp [w1];with_reducible rfl) ?_|refine wq (by simp [w1];with_reducible rfl) ?_|refine wt (by simpa [w1]) ?_|refine wf (by simpa [w1]) ?_|refine xt (by simpa [w1]) ?_|refine xf (by simpa [w1]) ?_|apply wp_bs|apply wp_b|refine wp_sr ?_|refine wp_sx ?_|refine wp_ret' ?_|refine wp_skip' ?_|refine wp_exit' ?_)
    exact ih (k+1) (es.foldl relax out) B' (by omega) (by rw [foldr_len,hl])
theorem ev_roots (n:Nat) (hn1:1≤n) (hn7:n≤7) (e0:Nat) (es:List (Int×Int)) (c:Bool) (he0:e0=2 ∨ es=[]) (hes:∀ e ∈ es,0≤e.1∧e.1 < n∧0≤e.2∧e.2 < n) (hel:es.length≤1000) :
    Ev tb zl172 [] [.agg [I n,.lst e0 (eds es) c]] [] ⟨O (rnds es n (idxB n (-1))),[],[],[]⟩:=by
  have e1:=ev_lim (ev_indices n (-1) (by omega))
  have hil:(idxB n (-1)).length=n:=by rw [idxB_all];simp
  have loop:=ro_out n e0 es c he0 hes hel hn7 n 0 (idxB n (-1)) [] (by omega) hil
  rw [show ((0:Nat):Int)=0 from rfl] at loop
  generalize idxB n (-1)=L at *
  cases L with
  | nil=>simp at hil;omega
  | cons x L =>
    simp only [nlI] at e1
    refine call_of_wp zt172 rfl ?_
    repeat (first|apply wp_as|apply wp_ss|refine wr (by simp [e1];with_reducible rfl) ?_|refine wq (by simp [e1];with_reducible rfl) ?_|refine wt (by simpa [e1]) ?_|refine wf (by simpa [e1]) ?_|refine xt (by simpa [e1]) ?_|refine xf (by simpa [e1]) ?_|apply wp_bs|apply wp_b|refine wp_sr ?_|refine wp_sx ?_|refine wp_ret' ?_|refine wp_skip' ?_|refine wp_exit' ?_)
    refine wp_imp loop ?_
    rintro ex st ⟨rfl,B',rfl⟩
    simp only [if_true]
    repeat (first|apply wp_as|apply wp_ss|refine wr (by simp;with_reducible rfl) ?_|refine wq (by simp;with_reducible rfl) ?_|refine wt (by simpa) ?_|refine wf (by simpa) ?_|refine xt (by simpa) ?_|refine xf (by simpa) ?_|apply wp_bs|apply wp_b|refine wp_sr ?_|refine wp_sx ?_|refine wp_ret' ?_|refine wp_skip' ?_|refine wp_exit' ?_)
    simp [zi172]
end Go.Idl
namespace Go.Idl
open Go
theorem ev_IndexFuncE (e0:Nat) (xs:List (Int×Int)) (c:Bool) (he0:e0=2 ∨ xs=[]) (F:Lab) (caps:List IV) (M:List Boxes) (p:Int×Int→Bool) (hl:xs.length≤2000000)
    (hp:∀ x ∈ xs,Ev tb F [] (.agg [I x.1,I x.2]::caps) (M++[[]]) ⟨Bo (p x),[],M++[[]],[]⟩) :
    Ev tb zl268 [] [.lst e0 (eds xs) c,.fn F caps] M ⟨I (idxE p 0 xs),[],M,[]⟩:=by
  have loop:∀ (m i:Nat),i+m=xs.length→wp tb (.loop z268l7) { T:=[(0,.lst e0 (eds xs) c),(1,.fn F caps),(7,I xs.length),(8,I i)],loc:=[],M:=M }
      (fun ex st=>(ex=.exit 0∧idxE p i (xs.drop i)=-1∧st={ T:=[(0,.lst e0 (eds xs) c),(1,.fn F caps),(7,I xs.length),(8,I xs.length),(9,Bo false)],loc:=[],M:=M }) ∨
        ex=.ret∧st={ T:=[(4,I (idxE p i (xs.drop i)))],loc:=[],M:=M }):=by
    intro m
    induction m with
    | zero =>
      intro i hi
      have h2:xs.drop i=[]:=List.drop_of_length_le (by omega)
      have h3:i=xs.length:=hi
      subst h3
      refine wp_loop ?_
      repeat (first|apply wp_as|apply wp_ss|refine wr (by simp;with_reducible rfl) ?_|refine wq (by simp;with_reducible rfl) ?_|refine wt (by simpa) ?_|refine wf (by simpa) ?_|refine xt (by simpa) ?_|refine xf (by simpa) ?_|apply wp_bs|apply wp_b|refine wp_sr ?_|refine wp_sx ?_|refine wp_ret' ?_|refine wp_skip' ?_|refine wp_exit' ?_)
      refine .inl ⟨rfl,by rw [h2];rfl,rfl⟩
    | succ m ih =>
      intro i hi
      have hi2:i < xs.length:=by omega
      have he2:e0=2:=by
        rcases he0 with h | h
        · exact h
        · rw [h] at hi2;cases hi2
      subst he2
      have h2:xs.drop i=xs[i]::xs.drop (i+1):=List.drop_eq_getElem_cons hi2
      have e1:=ev_lim (hp _ (List.getElem_mem hi2))
      have w1:IntKind.i64.wrap ((i:Int)+1)=((i+1:Nat):Int):=wrapS (by omega)
      have gx:(eds xs)[i]'(by simpa using hi2)=[I xs[i].1,I xs[i].2]:=by simp [eds]
      rw [h2]
      cases hpx:p xs[i] with
      | true =>
        refine wp_loop ?_
        repeat (first|apply wp_as|apply wp_ss|refine wr (by simp [e1,hi2,w1,hpx,gx];with_reducible rfl) ?_|refine wq (by simp [e1,hi2,w1,hpx,gx];with_reducible rfl) ?_|refine wt (by simpa [e1,hi2,w1,hpx,gx]) ?_|refine wf (by simpa [e1,hi2,w1,hpx,gx]) ?_|refine xt (by simpa [e1,hi2,w1,hpx,gx]) ?_|refine xf (by simpa [e1,hi2,w1,hpx,gx]) ?_|apply wp_bs|apply wp_b|refine wp_sr ?_|refine wp_sx ?_|refine wp_ret' ?_|refine wp_skip' ?_|refine wp_exit' ?_)
        refine .inr ⟨rfl,by simp [idxE,hpx]⟩
      | false =>
        refine wp_loop ?_
        repeat (first|apply wp_as|apply wp_ss|refine wr (by simp [e1,hi2,w1,hpx,gx];with_reducible rfl) ?_|refine wq (by simp [e1,hi2,w1,hpx,gx];with_reducible rfl) ?_|refine wt (by simpa [e1,hi2,w1,hpx,gx]) ?_|refine wf (by simpa [e1,hi2,w1,hpx,gx]) ?_|refine xt (by simpa [e1,hi2,w1,hpx,gx]) ?_|refine xf (by simpa [e1,hi2,w1,hpx,gx]) ?_|apply wp_bs|apply wp_b|refine wp_sr ?_|refine wp_sx ?_|refine wp_ret' ?_|refine wp_skip' ?_|refine wp_exit' ?_)
        have:=ih (i+1) (by omega)
        simp only [idxE,hpx] at this ⊢
        exact this
  refine call_of_wp zt268 rfl ?_
  repeat (first|apply wp_as|apply wp_ss|refine wr (by simp;with_reducible rfl) ?_|refine wq (by simp;with_reducible rfl) ?_|refine wt (by simpa) ?_|refine wf (by simpa) ?_|refine xt (by simpa) ?_|refine xf (by simpa) ?_|apply wp_bs|apply wp_b|refine wp_sr ?_|refine wp_sx ?_|refine wp_ret' ?_|refine wp_skip' ?_|refine wp_exit' ?_)
  refine wp_imp (loop xs.length 0 (by simp)) ?_
  rintro ex st (⟨rfl,h,rfl⟩ | ⟨rfl,rfl⟩)
  · simp only [if_true]
    repeat (first|apply wp_as|apply wp_ss|refine wr (by simp;with_reducible rfl) ?_|refine wq (by simp;with_reducible rfl) ?_|refine wt (by simpa) ?_|refine wf (by simpa) ?_|refine xt (by simpa) ?_|refine xf (by simpa) ?_|apply wp_bs|apply wp_b|refine wp_sr ?_|refine wp_sx ?_|refine wp_ret' ?_|refine wp_skip' ?_|refine wp_exit' ?_)
    simp at h
    simp [zi268,h]
  · simp [zi268]
end Go.Idl
namespace Go.Idl
open Go
def rgF (n i:Nat):List Int:=((List.range n).drop i).map fun v:Nat=>(v:Int)
theorem rgF_cons {n i:Nat} (h:i < n):rgF n i=(i:Int)::rgF n (i+1):=by
  rw [rgF,rgF,List.drop_eq_getElem_cons (by simpa using h)];simp
theorem rgF_end (n:Nat):rgF n n=[]:=by simp [rgF]
theorem rgF_all (n:Nat):rgF n 0=idxB n (-1):=by rw [rgF,idxB_all,List.drop_zero]
end Go.Idl
namespace Go.Idl
open Go
def nlT:List (List Int)→IV
  | []=>Z
  | x::r=>OT (x::r)
theorem ev_ClipT (t:List (List Int)):Ev tb zl257 [] [nlT t] [] ⟨nlT t,[],[],[]⟩:=by
  cases t with
  | nil =>
    simp only [nlT]
    refine call_of_wp zt257 rfl ?_
    repeat (first|apply wp_as|apply wp_ss|refine wr (by simp;with_reducible rfl) ?_|refine wq (by simp;with_reducible rfl) ?_|refine wt (by simpa) ?_|refine wf (by simpa) ?_|refine xt (by simpa) ?_|refine xf (by simpa) ?_|apply wp_bs|apply wp_b|refine wp_sr ?_|refine wp_sx ?_|refine wp_ret' ?_|refine wp_skip' ?_|refine wp_exit' ?_)
    simp [zi257]
  | cons x t =>
    simp only [nlT]
    have h2:(oab (x::t)).take (t.length+1)=oab (x::t):=List.take_of_length_le (by simp)
    refine call_of_wp zt257 rfl ?_
    repeat (first|apply wp_as|apply wp_ss|refine wr (by simp [h2];with_reducible rfl) ?_|refine wq (by simp [h2];with_reducible rfl) ?_|refine wt (by simpa [h2]) ?_|refine wf (by simpa [h2]) ?_|refine xt (by simpa [h2]) ?_|refine xf (by simpa [h2]) ?_|apply wp_bs|apply wp_b|refine wp_sr ?_|refine wp_sx ?_|refine wp_ret' ?_|refine wp_skip' ?_|refine wp_exit' ?_)
    simp [zi257,h2]
def inP (rt:List Int) (r:Int) (v:Int):Bool:=decide (rt.getD v.toNat 0=r)
def isR (rt:List Int) (v:Int):Bool:=inP rt v v
def partsF (n:Nat) (rt:List Int) (i:Nat):List (List Int):=((rgF n i).filter (isR rt)).map fun r=>(rgF n 0).filter (inP rt r)
theorem co_in (n:Nat) (hn:n≤7) (rt:List Int) (hl:rt.length=n) (acc:List (List Int)) (r:Nat) (B:Boxes):∀ (m i:Nat) (part:List Int),i+m=n→part.length≤i →
    wp tb (.loop z170l14) { T:=[(3,nlT acc),(4,O rt),(5,I r),(6,nlI part),(12,I n),(13,I r),(22,.arr (.S 4) 0 [] 1 0 n false),(23,I n),(24,I i)],loc:=B,M:=[] }
      (fun ex st=>ex=.exit 2∧st={ T:=[(3,nlT acc),(4,O rt),(5,I r),(6,nlI (part++(rgF n i).filter (inP rt r))),(12,I n),(13,I r),(22,.arr (.S 4) 0 [] 1 0 n false),(23,I n),(24,I n),(25,Bo false)],loc:=B,M:=[] }):=by
  intro m
  induction m with
  | zero =>
    intro i part hi hp
    have h3:i=n:=hi
    subst h3
    rw [rgF_end,List.filter_nil,List.append_nil]
    cases acc <;> cases part <;> simp only [nlT,nlI]
    · refine wp_loop ?_
      repeat (first|apply wp_as|apply wp_ss|refine wr (by simp;with_reducible rfl) ?_|refine wq (by simp;with_reducible rfl) ?_|refine wt (by simpa) ?_|refine wf (by simpa) ?_|refine xt (by simpa) ?_|refine xf (by simpa) ?_|apply wp_bs|apply wp_b|refine wp_sr ?_|refine wp_sx ?_|refine wp_ret' ?_|refine wp_skip' ?_|refine wp_exit' ?_)
      exact ⟨rfl,rfl⟩
    · refine wp_loop ?_
      repeat (first|apply wp_as|apply wp_ss|refine wr (by simp;with_reducible rfl) ?_|refine wq (by simp;with_reducible rfl) ?_|refine wt (by simpa) ?_|refine wf (by simpa) ?_|refine xt (by simpa) ?_|refine xf (by simpa) ?_|apply wp_bs|apply wp_b|refine wp_sr ?_|refine wp_sx ?_|refine wp_ret' ?_|refine wp_skip' ?_|refine wp_exit' ?_)
      exact ⟨rfl,rfl⟩
    · refine wp_loop ?_
      repeat (first|apply wp_as|apply wp_ss|refine wr (by simp;with_reducible rfl) ?_|refine wq (by simp;with_reducible rfl) ?_|refine wt (by simpa) ?_|refine wf (by simpa) ?_|refine xt (by simpa) ?_|refine xf (by simpa) ?_|apply wp_bs|apply wp_b|refine wp_sr ?_|refine wp_sx ?_|refine wp_ret' ?_|refine wp_skip' ?_|refine wp_exit' ?_)
      exact ⟨rfl,rfl⟩
    · refine wp_loop ?_
      repeat (first|apply wp_as|apply wp_ss|refine wr (by simp;with_reducible rfl) ?_|refine wq (by simp;with_reducible rfl) ?_|refine wt (by simpa) ?_|refine wf (by simpa) ?_|refine xt (by simpa) ?_|refine xf (by simpa) ?_|apply wp_bs|apply wp_b|refine wp_sr ?_|refine wp_sx ?_|refine wp_ret' ?_|refine wp_skip' ?_|refine wp_exit' ?_)
      exact ⟨rfl,rfl⟩
  | succ m ih =>
    intro i part hi hp
    have hi2:i < n:=by omega
    have hil:i < rt.length:=by omega
    have w1:IntKind.i64.wrap ((i:Int)+1)=((i+1:Nat):Int):=wrapS (by omega)
    have gi:rt.getD i 0=rt[i]:=by rw [List.getD_eq_getElem?_getD,List.getElem?_eq_getElem hil];rfl
    rw [rgF_cons hi2]
    by_cases hq:rt[i]=(r:Int)
    · have hpr:inP rt r (i:Int)=true:=by rw [inP,Int.toNat_natCast,gi];exact decide_eq_true hq
      rw [List.filter_cons_of_pos hpr]
      have hn2:=ih (i+1) (part++[(i:Int)]) (by omega) (by simp;omega)
      rw [List.append_assoc,List.cons_append,List.nil_append] at hn2
      have hl1:part.length+1≤274877906944:=by omega
      have hT:∀ x:Int,List.take (part.length+1) (part++[x])=part++[x]:=fun x=>List.take_of_length_le (by simp)
      have hT2:List.take part.length part=part:=List.take_of_length_le (Nat.le_refl _)
      cases part with
      | nil =>
        rw [List.nil_append] at hn2 ⊢
        have hn2:wp tb (.loop z170l14) { T:=[(3,nlT acc),(4,O rt),(5,I r),(6,O [(i:Int)]),(12,I n),(13,I r),(22,.arr (.S 4) 0 [] 1 0 n false),(23,I n),(24,I ((i+1:Nat):Int))],loc:=B,M:=[] } _:=hn2
        cases acc <;> simp only [nlT,nlI] at hn2 ⊢
        · refine wp_loop ?_
          repeat (first|apply wp_as|apply wp_ss|refine wr (by simp [hi2,hil,hl,hq,w1];with_reducible rfl) ?_|refine wq (by simp [hi2,hil,hl,hq,w1];with_reducible rfl) ?_|refine wt (by simpa [hi2,hil,hl,hq,w1]) ?_|refine wf (by simpa [hi2,hil,hl,hq,w1]) ?_|refine xt (by simpa [hi2,hil,hl,hq,w1]) ?_|refine xf (by simpa [hi2,hil,hl,hq,w1]) ?_|apply wp_bs|apply wp_b|refine wp_sr ?_|refine wp_sx ?_|refine wp_ret' ?_|refine wp_skip' ?_|refine wp_exit' ?_)
          exact hn2
        · refine wp_loop ?_
          repeat (first|apply wp_as|apply wp_ss|refine wr (by simp [hi2,hil,hl,hq,w1];with_reducible rfl) ?_|refine wq (by simp [hi2,hil,hl,hq,w1];with_reducible rfl) ?_|refine wt (by simpa [hi2,hil,hl,hq,w1]) ?_|refine wf (by simpa [hi2,hil,hl,hq,w1]) ?_|refine xt (by simpa [hi2,hil,hl,hq,w1]) ?_|refine xf (by simpa [hi2,hil,hl,hq,w1]) ?_|apply wp_bs|apply wp_b|refine wp_sr ?_|refine wp_sx ?_|refine wp_ret' ?_|refine wp_skip' ?_|refine wp_exit' ?_)
          exact hn2
      | cons y ys =>
        rw [List.cons_append] at hn2
        simp only [List.length_cons,List.cons_append] at hl1 hT hT2
        have hn2:wp tb (.loop z170l14) { T:=[(3,nlT acc),(4,O rt),(5,I r),(6,O (y::(ys++[(i:Int)]))),(12,I n),(13,I r),(22,.arr (.S 4) 0 [] 1 0 n false),(23,I n),(24,I ((i+1:Nat):Int))],loc:=B,M:=[] } _:=hn2
        cases acc <;> simp only [nlT,nlI] at hn2 ⊢
        · refine wp_loop ?_
          repeat (first|apply wp_as|apply wp_ss|refine wr (by simp [hi2,hil,hl,hq,w1,hl1,hT,hT2];with_reducible rfl) ?_|refine wq (by simp [hi2,hil,hl,hq,w1,hl1,hT,hT2];with_reducible rfl) ?_|refine wt (by simpa [hi2,hil,hl,hq,w1,hl1,hT,hT2]) ?_|refine wf (by simpa [hi2,hil,hl,hq,w1,hl1,hT,hT2]) ?_|refine xt (by simpa [hi2,hil,hl,hq,w1,hl1,hT,hT2]) ?_|refine xf (by simpa [hi2,hil,hl,hq,w1,hl1,hT,hT2]) ?_|apply wp_bs|apply wp_b|refine wp_sr ?_|refine wp_sx ?_|refine wp_ret' ?_|refine wp_skip' ?_|refine wp_exit' ?_)
          exact hn2
        · refine wp_loop ?_
          repeat (first|apply wp_as|apply wp_ss|refine wr (by simp [hi2,hil,hl,hq,w1,hl1,hT,hT2];with_reducible rfl) ?_|refine wq (by simp [hi2,hil,hl,hq,w1,hl1,hT,hT2];with_reducible rfl) ?_|refine wt (by simpa [hi2,hil,hl,hq,w1,hl1,hT,hT2]) ?_|refine wf (by simpa [hi2,hil,hl,hq,w1,hl1,hT,hT2]) ?_|refine xt (by simpa [hi2,hil,hl,hq,w1,hl1,hT,hT2]) ?_|refine xf (by simpa [hi2,hil,hl,hq,w1,hl1,hT,hT2]) ?_|apply wp_bs|apply wp_b|refine wp_sr ?_|refine wp_sx ?_|refine wp_ret' ?_|refine wp_skip' ?_|refine wp_exit' ?_)
          exact hn2
    · have hpr:¬ inP rt r (i:Int)=true:=by rw [inP,Int.toNat_natCast,gi,decide_eq_true_eq];exact hq
      rw [List.filter_cons_of_neg hpr]
      have hn2:=ih (i+1) part (by omega) (by omega)
      cases acc <;> cases part <;> simp only [nlT,nlI] at hn2 ⊢
      · refine wp_loop ?_
        repeat (first|apply wp_as|apply wp_ss|refine wr (by simp [hi2,hil,hl,hq,w1];with_reducible rfl) ?_|refine wq (by simp [hi2,hil,hl,hq,w1];with_reducible rfl) ?_|refine wt (by simpa [hi2,hil,hl,hq,w1]) ?_|refine wf (by simpa [hi2,hil,hl,hq,w1]) ?_|refine xt (by simpa [hi2,hil,hl,hq,w1]) ?_|refine xf (by simpa [hi2,hil,hl,hq,w1]) ?_|apply wp_bs|apply wp_b|refine wp_sr ?_|refine wp_sx ?_|refine wp_ret' ?_|refine wp_skip' ?_|refine wp_exit' ?_)
        exact hn2
      · refine wp_loop ?_
        repeat (first|apply wp_as|apply wp_ss|refine wr (by simp [hi2,hil,hl,hq,w1];with_reducible rfl) ?_|refine wq (by simp [hi2,hil,hl,hq,w1];with_reducible rfl) ?_|refine wt (by simpa [hi2,hil,hl,hq,w1]) ?_|refine wf (by simpa [hi2,hil,hl,hq,w1]) ?_|refine xt (by simpa [hi2,hil,hl,hq,w1]) ?_|refine xf (by simpa [hi2,hil,hl,hq,w1]) ?_|apply wp_bs|apply wp_b|refine wp_sr ?_|refine wp_sx ?_|refine wp_ret' ?_|refine wp_skip' ?_|refine wp_exit' ?_)
        exact hn2
      · refine wp_loop ?_
        repeat (first|apply wp_as|apply wp_ss|refine wr (by simp [hi2,hil,hl,hq,w1];with_reducible rfl) ?_|refine wq (by simp [hi2,hil,hl,hq,w1];with_reducible rfl) ?_|refine wt (by simpa [hi2,hil,hl,hq,w1]) ?_|refine wf (by simpa [hi2,hil,hl,hq,w1]) ?_|refine xt (by simpa [hi2,hil,hl,hq,w1]) ?_|refine xf (by simpa [hi2,hil,hl,hq,w1]) ?_|apply wp_bs|apply wp_b|refine wp_sr ?_|refine wp_sx ?_|refine wp_ret' ?_|refine wp_skip' ?_|refine wp_exit' ?_)
        exact hn2
      · refine wp_loop ?_
        repeat (first|apply wp_as|apply wp_ss|refine wr (by simp [hi2,hil,hl,hq,w1];with_reducible rfl) ?_|refine wq (by simp [hi2,hil,hl,hq,w1];with_reducible rfl) ?_|refine wt (by simpa [hi2,hil,hl,hq,w1]) ?_|refine wf (by simpa [hi2,hil,hl,hq,w1]) ?_|refine xt (by simpa [hi2,hil,hl,hq,w1]) ?_|refine xf (by simpa [hi2,hil,hl,hq,w1]) ?_|apply wp_bs|apply wp_b|refine wp_sr ?_|refine wp_sx ?_|refine wp_ret' ?_|refine wp_skip' ?_|refine wp_exit' ?_)
        exact hn2
theorem nlI_filter {xs:List Int} {p:Int→Bool} {r:Int} (h:r ∈ xs) (hp:p r=true):∃ y ys,xs.filter p=y::ys:=by
  cases hq:xs.filter p with
  | nil=>have:r ∈ xs.filter p:=List.mem_filter.2 ⟨h,hp⟩;rw [hq] at this;cases this
  | cons y ys=>exact ⟨y,ys,rfl⟩
theorem mem_rgF {n i:Nat} {x:Int}:x ∈ rgF n i ↔ (i:Int)≤x∧x < n:=by
  rw [rgF,List.mem_map]
  constructor
  · rintro ⟨a,ha,rfl⟩
    obtain ⟨j,hj,rfl⟩:=List.mem_iff_getElem.1 ha
    simp only [List.length_drop,List.length_range] at hj
    simp only [List.getElem_drop,List.getElem_range];omega
  · rintro ⟨h1,h2⟩
    obtain ⟨k,rfl⟩:=Int.eq_ofNat_of_zero_le (show 0≤x by omega)
    refine ⟨k,List.mem_iff_getElem.2 ⟨k - i,by simp;omega,?_⟩,rfl⟩
    simp only [List.getElem_drop,List.getElem_range];omega
theorem co_out (n:Nat) (hn:n≤7) (rt:List Int) (hl:rt.length=n) (B:Boxes):∀ (m r:Nat) (acc:List (List Int)),r+m=n→acc.length≤r →
    wp tb (.loop z170l17) { T:=[(3,nlT acc),(4,O rt),(12,I n),(13,I r)],loc:=B,M:=[] }
      (fun ex st=>ex=.exit 0∧st={ T:=[(3,nlT (acc++partsF n rt r)),(4,O rt),(12,I n),(13,I n),(14,Bo false)],loc:=B,M:=[] }):=by
  intro m
  induction m with
  | zero =>
    intro r acc hr ha
    have h3:r=n:=hr
    subst h3
    rw [partsF,rgF_end,List.filter_nil,List.map_nil,List.append_nil]
    cases acc <;> simp only [nlT]
    · refine wp_loop ?_
      repeat (first|apply wp_as|apply wp_ss|refine wr (by simp;with_reducible rfl) ?_|refine wq (by simp;with_reducible rfl) ?_|refine wt (by simpa) ?_|refine wf (by simpa) ?_|refine xt (by simpa) ?_|refine xf (by simpa) ?_|apply wp_bs|apply wp_b|refine wp_sr ?_|refine wp_sx ?_|refine wp_ret' ?_|refine wp_skip' ?_|refine wp_exit' ?_)
      exact ⟨rfl,rfl⟩
    · refine wp_loop ?_
      repeat (first|apply wp_as|apply wp_ss|refine wr (by simp;with_reducible rfl) ?_|refine wq (by simp;with_reducible rfl) ?_|refine wt (by simpa) ?_|refine wf (by simpa) ?_|refine xt (by simpa) ?_|refine xf (by simpa) ?_|apply wp_bs|apply wp_b|refine wp_sr ?_|refine wp_sx ?_|refine wp_ret' ?_|refine wp_skip' ?_|refine wp_exit' ?_)
      exact ⟨rfl,rfl⟩
  | succ m ih =>
    intro r acc hr ha
    have hr2:r < n:=by omega
    have hrl:r < rt.length:=by omega
    have w1:IntKind.i64.wrap ((r:Int)+1)=((r+1:Nat):Int):=wrapS (by omega)
    have gi:rt.getD r 0=rt[r]:=by rw [List.getD_eq_getElem?_getD,List.getElem?_eq_getElem hrl];rfl
    rw [partsF,rgF_cons hr2]
    by_cases hq:rt[r]=(r:Int)
    · have hpr:isR rt (r:Int)=true:=by rw [isR,inP,Int.toNat_natCast,gi];exact decide_eq_true hq
      rw [List.filter_cons_of_pos hpr,List.map_cons]
      obtain ⟨y,ys,hy⟩:=nlI_filter (xs:=rgF n 0) (p:=inP rt r) (mem_rgF.2 ⟨by omega,by omega⟩) hpr
      have hn2:=ih (r+1) (acc++[(rgF n 0).filter (inP rt r)]) (by omega) (by simp;omega)
      rw [List.append_assoc,List.cons_append,List.nil_append,partsF] at hn2
      have inner:=co_in n hn rt hl acc r B n 0 [] (by omega) (by simp)
      rw [List.nil_append,hy] at inner
      rw [hy] at hn2 ⊢
      have e1:=ev_lim (ev_Clip (y::ys))
      have hl1:acc.length+1≤274877906944:=by omega
      have hT:∀ x:List Int,List.take (acc.length+1) (acc++[x])=acc++[x]:=fun x=>List.take_of_length_le (by simp)
      have hT2:List.take acc.length acc=acc:=List.take_of_length_le (Nat.le_refl _)
      cases acc with
      | nil =>
        simp only [List.nil_append,nlT,nlI] at hn2 inner ⊢
        rw [show ((0:Nat):Int)=0 from rfl] at inner
        refine wp_loop ?_
        repeat (first|apply wp_as|apply wp_ss|refine wr (by simp [hr2,hrl,hl,hq];with_reducible rfl) ?_|refine wq (by simp [hr2,hrl,hl,hq];with_reducible rfl) ?_|refine wt (by simpa [hr2,hrl,hl,hq]) ?_|refine wf (by simpa [hr2,hrl,hl,hq]) ?_|refine xt (by simpa [hr2,hrl,hl,hq]) ?_|refine xf (by simpa [hr2,hrl,hl,hq]) ?_|apply wp_bs|apply wp_b|refine wp_sr ?_|refine wp_sx ?_|refine wp_ret' ?_|refine wp_skip' ?_|refine wp_exit' ?_)
        refine wp_imp inner ?_
        rintro ex st ⟨rfl,rfl⟩
        simp only [if_true]
        repeat (first|apply wp_as|apply wp_ss|refine wr (by simp [e1,w1];with_reducible rfl) ?_|refine wq (by simp [e1,w1];with_reducible rfl) ?_|refine wt (by simpa [e1,w1]) ?_|refine wf (by simpa [e1,w1]) ?_|refine xt (by simpa [e1,w1]) ?_|refine xf (by simpa [e1,w1]) ?_|apply wp_bs|apply wp_b|refine wp_sr ?_|refine wp_sx ?_|refine wp_ret' ?_|refine wp_skip' ?_|refine wp_exit' ?_)
        exact hn2
      | cons a as =>
        simp only [List.cons_append,nlT,nlI] at hn2 inner ⊢
        simp only [List.length_cons,List.cons_append] at hl1 hT hT2
        rw [show ((0:Nat):Int)=0 from rfl] at inner
        refine wp_loop ?_
        repeat (first|apply wp_as|apply wp_ss|refine wr (by simp [hr2,hrl,hl,hq];with_reducible rfl) ?_|refine wq (by simp [hr2,hrl,hl,hq];with_reducible rfl) ?_|refine wt (by simpa [hr2,hrl,hl,hq]) ?_|refine wf (by simpa [hr2,hrl,hl,hq]) ?_|refine xt (by simpa [hr2,hrl,hl,hq]) ?_|refine xf (by simpa [hr2,hrl,hl,hq]) ?_|apply wp_bs|apply wp_b|refine wp_sr ?_|refine wp_sx ?_|refine wp_ret' ?_|refine wp_skip' ?_|refine wp_exit' ?_)
        refine wp_imp inner ?_
        rintro ex st ⟨rfl,rfl⟩
        simp only [if_true]
        repeat (first|apply wp_as|apply wp_ss|refine wr (by simp [e1,w1,hl1,hT,hT2];with_reducible rfl) ?_|refine wq (by simp [e1,w1,hl1,hT,hT2];with_reducible rfl) ?_|refine wt (by simpa [e1,w1,hl1,hT,hT2]) ?_|refine wf (by simpa [e1,w1,hl1,hT,hT2]) ?_|refine xt (by simpa [e1,w1,hl1,hT,hT2]) ?_|refine xf (by simpa [e1,w1,hl1,hT,hT2]) ?_|apply wp_bs|apply wp_b|refine wp_sr ?_|refine wp_sx ?_|refine wp_ret' ?_|refine wp_skip' ?_|refine wp_exit' ?_)
        exact hn2
    · have hpr:¬ isR rt (r:Int)=true:=by rw [isR,inP,Int.toNat_natCast,gi,decide_eq_true_eq];exact hq
      rw [List.filter_cons_of_neg hpr]
      have hn2:=ih (r+1) acc (by omega) (by omega)
      cases acc <;> simp only [nlT] at hn2 ⊢
      · refine wp_loop ?_
        repeat (first|apply wp_as|apply wp_ss|refine wr (by simp [hr2,hrl,hl,hq,w1];with_reducible rfl) ?_|refine wq (by simp [hr2,hrl,hl,hq,w1];with_reducible rfl) ?_|refine wt (by simpa [hr2,hrl,hl,hq,w1]) ?_|refine wf (by simpa [hr2,hrl,hl,hq,w1]) ?_|refine xt (by simpa [hr2,hrl,hl,hq,w1]) ?_|refine xf (by simpa [hr2,hrl,hl,hq,w1]) ?_|apply wp_bs|apply wp_b|refine wp_sr ?_|refine wp_sx ?_|refine wp_ret' ?_|refine wp_skip' ?_|refine wp_exit' ?_)
        exact hn2
      · refine wp_loop ?_
        repeat (first|apply wp_as|apply wp_ss|refine wr (by simp [hr2,hrl,hl,hq,w1];with_reducible rfl) ?_|refine wq (by simp [hr2,hrl,hl,hq,w1];with_reducible rfl) ?_|refine wt (by simpa [hr2,hrl,hl,hq,w1]) ?_|refine wf (by simpa [hr2,hrl,hl,hq,w1]) ?_|refine xt (by simpa [hr2,hrl,hl,hq,w1]) ?_|refine xf (by simpa [hr2,hrl,hl,hq,w1]) ?_|apply wp_bs|apply wp_b|refine wp_sr ?_|refine wp_sx ?_|refine wp_ret' ?_|refine wp_skip' ?_|refine wp_exit' ?_)
        exact hn2
def compI (n:Nat) (es:List (Int×Int)):List (List Int):=partsF n (rnds es n (idxB n (-1))) 0
theorem ev_components (n:Nat) (hn1:1≤n) (hn7:n≤7) (e0:Nat) (es:List (Int×Int)) (c:Bool) (he0:e0=2 ∨ es=[]) (hes:∀ e ∈ es,0≤e.1∧e.1 < n∧0≤e.2∧e.2 < n) (hel:es.length≤1000) :
    Ev tb zl170 [] [.agg [I n,.lst e0 (eds es) c]] [] ⟨nlT (compI n es),[],[],[]⟩:=by
  have e1:=ev_lim (ev_roots n hn1 hn7 e0 es c he0 hes hel)
  have hrl:(rnds es n (idxB n (-1))).length=n:=by rw [rnds_len,idxB_all];simp
  rw [compI]
  generalize rnds es n (idxB n (-1))=rt at *
  have loop:=co_out n hn7 rt hrl [[I n,.lst e0 (eds es) c]] n 0 [] (by omega) (by simp)
  rw [List.nil_append,show ((0:Nat):Int)=0 from rfl] at loop
  simp only [nlT] at loop
  have e2:=ev_lim (ev_ClipT (partsF n rt 0))
  generalize partsF n rt 0=P at *
  refine call_of_wp zt170 rfl ?_
  repeat (first|apply wp_as|apply wp_ss|refine wr (by simp [e1];with_reducible rfl) ?_|refine wq (by simp [e1];with_reducible rfl) ?_|refine wt (by simpa [e1]) ?_|refine wf (by simpa [e1]) ?_|refine xt (by simpa [e1]) ?_|refine xf (by simpa [e1]) ?_|apply wp_bs|apply wp_b|refine wp_sr ?_|refine wp_sx ?_|refine wp_ret' ?_|refine wp_skip' ?_|refine wp_exit' ?_)
  refine wp_imp loop ?_
  rintro ex st ⟨rfl,rfl⟩
  simp only [if_true]
  cases P with
  | nil =>
    simp only [nlT] at e2 ⊢
    repeat (first|apply wp_as|apply wp_ss|refine wr (by simp [e2];with_reducible rfl) ?_|refine wq (by simp [e2];with_reducible rfl) ?_|refine wt (by simpa [e2]) ?_|refine wf (by simpa [e2]) ?_|refine xt (by simpa [e2]) ?_|refine xf (by simpa [e2]) ?_|apply wp_bs|apply wp_b|refine wp_sr ?_|refine wp_sx ?_|refine wp_ret' ?_|refine wp_skip' ?_|refine wp_exit' ?_)
    simp [zi170]
  | cons p P =>
    simp only [nlT] at e2 ⊢
    repeat (first|apply wp_as|apply wp_ss|refine wr (by simp [e2];with_reducible rfl) ?_|refine wq (by simp [e2];with_reducible rfl) ?_|refine wt (by simpa [e2]) ?_|refine wf (by simpa [e2]) ?_|refine xt (by simpa [e2]) ?_|refine xf (by simpa [e2]) ?_|apply wp_bs|apply wp_b|refine wp_sr ?_|refine wp_sx ?_|refine wp_ret' ?_|refine wp_skip' ?_|refine wp_exit' ?_)
    simp [zi170]
end Go.Idl
namespace Go.Idl
open Go
def bls (l:List Bool):List (List IV):=l.map fun b=>[Bo b]
abbrev OB (l:List Bool):IV:=.own 1 (bls l)
@[simp] theorem bls_len (l:List Bool):(bls l).length=l.length:=by simp [bls]
@[simp] theorem bls_rep (n:Nat):List.replicate n [IV.sc (Value.bool false)]=bls (List.replicate n false):=by simp [bls]
@[simp] theorem bls_get (l:List Bool) (i:Nat) (h:i < (bls l).length):(bls l)[i]=[IV.sc (.bool (l[i]'(by simpa [bls] using h)))]:=by simp [bls]
@[simp] theorem bls_get? (l:List Bool) (i:Nat):(bls l)[i]? = l[i]?.map fun b=>[IV.sc (.bool b)]:=by simp [bls]
@[simp] theorem bls_set (l:List Bool) (i:Nat) (b:Bool):(bls l).set i [IV.sc (.bool b)]=bls (l.set i b):=by simp [bls,List.map_set]
def mark (l:List Bool) (e:Int×Int):List Bool:=if (l.getD e.1.toNat false || l.getD e.2.toNat false)=true then (l.set e.1.toNat true).set e.2.toNat true else l
def mrks (es:List (Int×Int)):Nat→List Bool→List Bool
  | 0,l=>l
  | m+1,l=>mrks es m (es.foldl mark l)
theorem mark_len (l:List Bool) (e:Int×Int):(mark l e).length=l.length:=by rw [mark];split <;> simp
theorem foldm_len (es:List (Int×Int)):∀ l:List Bool,(es.foldl mark l).length=l.length:=by
  induction es with
  | nil=>intro l;rfl
  | cons e es ih=>intro l;rw [List.foldl_cons,ih,mark_len]
theorem mrks_len (es:List (Int×Int)):∀ (m:Nat) (l:List Bool),(mrks es m l).length=l.length
  | 0,_=>rfl
  | m+1,l=>by rw [mrks,mrks_len es m,foldm_len]
def cmpS (n:Nat) (es:List (Int×Int)) (v:Nat):List Int:=(rgF n 0).filter fun u=>(mrks es n ((List.replicate n false).set v true)).getD u.toNat false
theorem cs_in (n:Nat) (es:List (Int×Int)) (c:Bool) (hes:∀ e ∈ es,0≤e.1∧e.1 < n∧0≤e.2∧e.2 < n) (hel:es.length≤1000) (k:Nat):∀ (m j:Nat) (l:List Bool) (B:Boxes),j+m=es.length→l.length=n →
    wp tb (.loop z342l12) { T:=[(2,.bptr 0 0 0),(5,OB l),(6,I k),(7,I j)],loc:=[I n,L2 es c]::B,M:=[] }
      (fun ex st=>ex=.exit 2∧∃ B',st={ T:=[(2,.bptr 0 0 0),(5,OB ((es.drop j).foldl mark l)),(6,I k),(7,I es.length),(27,Bo false)],loc:=[I n,L2 es c]::B',M:=[] }):=by
  intro m
  induction m with
  | zero =>
    intro j l B hj hl
    have h3:j=es.length:=hj
    subst h3
    refine wp_loop ?_
    repeat (first|apply wp_as|apply wp_ss|refine wr (by simp;with_reducible rfl) ?_|refine wq (by simp;with_reducible rfl) ?_|refine wt (by simpa) ?_|refine wf (by simpa) ?_|refine xt (by simpa) ?_|refine xf (by simpa) ?_|apply wp_bs|apply wp_b|refine wp_sr ?_|refine wp_sx ?_|refine wp_ret' ?_|refine wp_skip' ?_|refine wp_exit' ?_)
    exact ⟨rfl,_,by simp;rfl⟩
  | succ m ih =>
    intro j l B hj hl
    have hj2:j < es.length:=by omega
    have hd:es.drop j=es[j]::es.drop (j+1):=List.drop_eq_getElem_cons hj2
    have hb:=hes _ (List.getElem_mem hj2)
    obtain ⟨⟨x,y⟩,hx⟩:∃ e,e=es[j]:=⟨_,rfl⟩
    rw [← hx] at hb
    simp only at hb
    obtain ⟨a,rfl⟩:=Int.eq_ofNat_of_zero_le hb.1
    obtain ⟨b,rfl⟩:=Int.eq_ofNat_of_zero_le hb.2.2.1
    have hx2:=hx.symm
    have han:a < n:=by omega
    have hbn:b < n:=by omega
    have ha:a < l.length:=by omega
    have hbl:b < l.length:=by omega
    have w1:IntKind.i64.wrap ((j:Int)+1)=((j+1:Nat):Int):=wrapS (by omega)
    have ga:l.getD a false=l[a]:=by rw [List.getD_eq_getElem?_getD,List.getElem?_eq_getElem ha];rfl
    have gb:l.getD b false=l[b]:=by rw [List.getD_eq_getElem?_getD,List.getElem?_eq_getElem hbl];rfl
    have hn:=ih (j+1) (mark l ((a:Int),(b:Int))) (B++[[I a,I b]]) (by omega) (by rw [mark_len,hl])
    have hr:mark l ((a:Int),(b:Int))=if (l[a] || l[b])=true then (l.set a true).set b true else l:=by
      simp only [mark,Int.toNat_natCast,ga,gb]
    rw [hd,← hx,List.foldl_cons]
    rw [hr] at hn ⊢
    cases k1:l[a] with
    | true =>
      simp only [k1,Bool.true_or,if_true] at hn ⊢
      refine wp_loop ?_
      repeat (first|apply wp_as|apply wp_ss|refine wr (by simp [hj2,hx2,ha,hbl,hl,han,hbn,k1,w1];with_reducible rfl) ?_|refine wq (by simp [hj2,hx2,ha,hbl,hl,han,hbn,k1,w1];with_reducible rfl) ?_|refine wt (by simpa [hj2,hx2,ha,hbl,hl,han,hbn,k1,w1]) ?_|refine wf (by simpa [hj2,hx2,ha,hbl,hl,han,hbn,k1,w1]) ?_|refine xt (by simpa [hj2,hx2,ha,hbl,hl,han,hbn,k1,w1]) ?_|refine xf (by simpa [hj2,hx2,ha,hbl,hl,han,hbn,k1,w1]) ?_|apply wp_bs|apply wp_b|refine wp_sr ?_|refine wp_sx ?_|refine wp_ret' ?_|refine wp_skip' ?_|refine wp_exit' ?_)
      exact hn
    | false =>
      cases k2:l[b] with
      | true =>
        simp only [k1,k2,Bool.or_true,if_true] at hn ⊢
        refine wp_loop ?_
        repeat (first|apply wp_as|apply wp_ss|refine wr (by simp [hj2,hx2,ha,hbl,hl,han,hbn,k1,k2,w1];with_reducible rfl) ?_|refine wq (by simp [hj2,hx2,ha,hbl,hl,han,hbn,k1,k2,w1];with_reducible rfl) ?_|refine wt (by simpa [hj2,hx2,ha,hbl,hl,han,hbn,k1,k2,w1]) ?_|refine wf (by simpa [hj2,hx2,ha,hbl,hl,han,hbn,k1,k2,w1]) ?_|refine xt (by simpa [hj2,hx2,ha,hbl,hl,han,hbn,k1,k2,w1]) ?_|refine xf (by simpa [hj2,hx2,ha,hbl,hl,han,hbn,k1,k2,w1]) ?_|apply wp_bs|apply wp_b|refine wp_sr ?_|refine wp_sx ?_|refine wp_ret' ?_|refine wp_skip' ?_|refine wp_exit' ?_)
        exact hn
      | false =>
        simp only [k1,k2,Bool.or_false,Bool.false_eq_true,if_false] at hn ⊢
        refine wp_loop ?_
        repeat (first|apply wp_as|apply wp_ss|refine wr (by simp [hj2,hx2,ha,hbl,hl,han,hbn,k1,k2,w1];with_reducible rfl) ?_|refine wq (by simp [hj2,hx2,ha,hbl,hl,han,hbn,k1,k2,w1];with_reducible rfl) ?_|refine wt (by simpa [hj2,hx2,ha,hbl,hl,han,hbn,k1,k2,w1]) ?_|refine wf (by simpa [hj2,hx2,ha,hbl,hl,han,hbn,k1,k2,w1]) ?_|refine xt (by simpa [hj2,hx2,ha,hbl,hl,han,hbn,k1,k2,w1]) ?_|refine xf (by simpa [hj2,hx2,ha,hbl,hl,han,hbn,k1,k2,w1]) ?_|apply wp_bs|apply wp_b|refine wp_sr ?_|refine wp_sx ?_|refine wp_ret' ?_|refine wp_skip' ?_|refine wp_exit' ?_)
        exact hn
theorem cs_out (n:Nat) (es:List (Int×Int)) (c:Bool) (hes:∀ e ∈ es,0≤e.1∧e.1 < n∧0≤e.2∧e.2 < n) (hel:es.length≤1000) (hn7:n≤7):∀ (m k:Nat) (l:List Bool) (B:Boxes),k+m=n→l.length=n →
    wp tb (.loop z342l14) { T:=[(2,.bptr 0 0 0),(5,OB l),(6,I k)],loc:=[I n,L2 es c]::B,M:=[] }
      (fun ex st=>ex=.exit 0∧∃ B',st={ T:=[(2,.bptr 0 0 0),(5,OB (mrks es m l)),(6,I n),(20,Bo false)],loc:=[I n,L2 es c]::B',M:=[] }):=by
  intro m
  induction m with
  | zero =>
    intro k l B hk hl
    have h3:k=n:=hk
    subst h3
    refine wp_loop ?_
    repeat (first|apply wp_as|apply wp_ss|refine wr (by simp;with_reducible rfl) ?_|refine wq (by simp;with_reducible rfl) ?_|refine wt (by simpa) ?_|refine wf (by simpa) ?_|refine xt (by simpa) ?_|refine xf (by simpa) ?_|apply wp_bs|apply wp_b|refine wp_sr ?_|refine wp_sx ?_|refine wp_ret' ?_|refine wp_skip' ?_|refine wp_exit' ?_)
    exact ⟨rfl,_,rfl⟩
  | succ m ih =>
    intro k l B hk hl
    have hk2:k < n:=by omega
    have w1:IntKind.i64.wrap ((k:Int)+1)=((k+1:Nat):Int):=wrapS (by omega)
    have inner:=cs_in n es c hes hel k es.length 0 l B (by omega) hl
    rw [show ((0:Nat):Int)=0 from rfl] at inner
    refine wp_loop ?_
    repeat (first|apply wp_as|apply wp_ss|refine wr (by simp [hk2];with_reducible rfl) ?_|refine wq (by simp [hk2];with_reducible rfl) ?_|refine wt (by simpa [hk2]) ?_|refine wf (by simpa [hk2]) ?_|refine xt (by simpa [hk2]) ?_|refine xf (by simpa [hk2]) ?_|apply wp_bs|apply wp_b|refine wp_sr ?_|refine wp_sx ?_|refine wp_ret' ?_|refine wp_skip' ?_|refine wp_exit' ?_)
    refine wp_imp inner ?_
    rintro ex st ⟨rfl,B',rfl⟩
    simp only [if_true,List.drop_zero]
    repeat (first|apply wp_as|apply wp_ss|refine wr (by simp [w1];with_reducible rfl) ?_|refine wq (by simp [w1];with_reducible rfl) ?_|refine wt (by simpa [w1]) ?_|refine wf (by simpa [w1]) ?_|refine xt (by simpa [w1]) ?_|refine xf (by simpa [w1]) ?_|apply wp_bs|apply wp_b|refine wp_sr ?_|refine wp_sx ?_|refine wp_ret' ?_|refine wp_skip' ?_|refine wp_exit' ?_)
    exact ih (k+1) (es.foldl mark l) B' (by omega) (by rw [foldm_len,hl])
theorem cs_last (n:Nat) (hn7:n≤7) (es:List (Int×Int)) (c:Bool) (l:List Bool) (hl:l.length=n) (B:Boxes):∀ (m i:Nat) (acc:List Int),i+m=n→acc.length≤i →
    wp tb (.loop z342l21) { T:=[(2,.bptr 0 0 0),(5,OB l),(9,O acc),(10,I i)],loc:=[I n,L2 es c]::B,M:=[] }
      (fun ex st=>ex=.exit 4∧st={ T:=[(2,.bptr 0 0 0),(5,OB l),(9,O (acc++(rgF n i).filter fun u=>l.getD u.toNat false)),(10,I n),(59,Bo false)],loc:=[I n,L2 es c]::B,M:=[] }):=by
  intro m
  induction m with
  | zero =>
    intro i acc hi ha
    have h3:i=n:=hi
    subst h3
    rw [rgF_end,List.filter_nil,List.append_nil]
    refine wp_loop ?_
    repeat (first|apply wp_as|apply wp_ss|refine wr (by simp;with_reducible rfl) ?_|refine wq (by simp;with_reducible rfl) ?_|refine wt (by simpa) ?_|refine wf (by simpa) ?_|refine xt (by simpa) ?_|refine xf (by simpa) ?_|apply wp_bs|apply wp_b|refine wp_sr ?_|refine wp_sx ?_|refine wp_ret' ?_|refine wp_skip' ?_|refine wp_exit' ?_)
    exact ⟨rfl,rfl⟩
  | succ m ih =>
    intro i acc hi ha
    have hi2:i < n:=by omega
    have hil:i < l.length:=by omega
    have w1:IntKind.i64.wrap ((i:Int)+1)=((i+1:Nat):Int):=wrapS (by omega)
    have gi:l.getD i false=l[i]:=by rw [List.getD_eq_getElem?_getD,List.getElem?_eq_getElem hil];rfl
    rw [rgF_cons hi2]
    cases hq:l[i] with
    | true =>
      rw [List.filter_cons_of_pos (by rw [Int.toNat_natCast,gi,hq])]
      have hn2:=ih (i+1) (acc++[(i:Int)]) (by omega) (by simp;omega)
      rw [List.append_assoc,List.cons_append,List.nil_append] at hn2
      have hl1:acc.length+1≤274877906944:=by omega
      have hT:∀ x:Int,List.take (acc.length+1) (acc++[x])=acc++[x]:=fun x=>List.take_of_length_le (by simp)
      have hT2:List.take acc.length acc=acc:=List.take_of_length_le (Nat.le_refl _)
      refine wp_loop ?_
      repeat (first|apply wp_as|apply wp_ss|refine wr (by simp [hi2,hil,hl,hq,w1,hl1,hT,hT2];with_reducible rfl) ?_|refine wq (by simp [hi2,hil,hl,hq,w1,hl1,hT,hT2];with_reducible rfl) ?_|refine wt (by simpa [hi2,hil,hl,hq,w1,hl1,hT,hT2]) ?_|refine wf (by simpa [hi2,hil,hl,hq,w1,hl1,hT,hT2]) ?_|refine xt (by simpa [hi2,hil,hl,hq,w1,hl1,hT,hT2]) ?_|refine xf (by simpa [hi2,hil,hl,hq,w1,hl1,hT,hT2]) ?_|apply wp_bs|apply wp_b|refine wp_sr ?_|refine wp_sx ?_|refine wp_ret' ?_|refine wp_skip' ?_|refine wp_exit' ?_)
      exact hn2
    | false =>
      rw [List.filter_cons_of_neg (by rw [Int.toNat_natCast,gi,hq];simp)]
      have hn2:=ih (i+1) acc (by omega) (by omega)
      refine wp_loop ?_
      repeat (first|apply wp_as|apply wp_ss|refine wr (by simp [hi2,hil,hl,hq,w1];with_reducible rfl) ?_|refine wq (by simp [hi2,hil,hl,hq,w1];with_reducible rfl) ?_|refine wt (by simpa [hi2,hil,hl,hq,w1]) ?_|refine wf (by simpa [hi2,hil,hl,hq,w1]) ?_|refine xt (by simpa [hi2,hil,hl,hq,w1]) ?_|refine xf (by simpa [hi2,hil,hl,hq,w1]) ?_|apply wp_bs|apply wp_b|refine wp_sr ?_|refine wp_sx ?_|refine wp_ret' ?_|refine wp_skip' ?_|refine wp_exit' ?_)
      exact hn2
theorem ev_component (n:Nat) (hn7:n≤7) (es:List (Int×Int)) (c:Bool) (hes:∀ e ∈ es,0≤e.1∧e.1 < n∧0≤e.2∧e.2 < n) (hel:es.length≤1000) (v:Nat) (hv:v < n) :
    Ev tb zl342 [] [Gr n es c,I v] [] ⟨O (cmpS n es v),[],[],[]⟩:=by
  have hl1:n≤274877906944:=by omega
  have h1:=fun B=>cs_out n es c hes hel hn7 n 0 ((List.replicate n false).set v true) B (by omega) (by simp)
  have hml:(mrks es n ((List.replicate n false).set v true)).length=n:=by rw [mrks_len];simp
  have h2:=fun B=>cs_last n hn7 es c (mrks es n ((List.replicate n false).set v true)) hml B n 0 [] (by omega) (by simp)
  rw [cmpS]
  generalize mrks es n ((List.replicate n false).set v true)=R at *
  simp only [List.nil_append,show ((0:Nat):Int)=0 from rfl] at h1 h2
  refine call_of_wp zt342 rfl ?_
  repeat (first|apply wp_as|apply wp_ss|refine wr (by simp [hl1,hv];with_reducible rfl) ?_|refine wq (by simp [hl1,hv];with_reducible rfl) ?_|refine wt (by simpa [hl1,hv]) ?_|refine wf (by simpa [hl1,hv]) ?_|refine xt (by simpa [hl1,hv]) ?_|refine xf (by simpa [hl1,hv]) ?_|apply wp_bs|apply wp_b|refine wp_sr ?_|refine wp_sx ?_|refine wp_ret' ?_|refine wp_skip' ?_|refine wp_exit' ?_)
  refine wp_imp (h1 []) ?_
  rintro ex st ⟨rfl,B',rfl⟩
  simp only [if_true]
  repeat (first|apply wp_as|apply wp_ss|refine wr (by simp;with_reducible rfl) ?_|refine wq (by simp;with_reducible rfl) ?_|refine wt (by simpa) ?_|refine wf (by simpa) ?_|refine xt (by simpa) ?_|refine xf (by simpa) ?_|apply wp_bs|apply wp_b|refine wp_sr ?_|refine wp_sx ?_|refine wp_ret' ?_|refine wp_skip' ?_|refine wp_exit' ?_)
  refine wp_imp (h2 B') ?_
  rintro ex st ⟨rfl,rfl⟩
  simp only [if_true]
  repeat (first|apply wp_as|apply wp_ss|refine wr (by simp;with_reducible rfl) ?_|refine wq (by simp;with_reducible rfl) ?_|refine wt (by simpa) ?_|refine wf (by simpa) ?_|refine xt (by simpa) ?_|refine xf (by simpa) ?_|apply wp_bs|apply wp_b|refine wp_sr ?_|refine wp_sx ?_|refine wp_ret' ?_|refine wp_skip' ?_|refine wp_exit' ?_)
  simp [zi342]
end Go.Idl
namespace Go.Idl
open Go
def posAll (d:List Int):Bool:=d.all fun x=>decide (0 < x)
def conn (d:List Int):Bool:=graphic d && (decide (0 < d.length) && ((decide (d.length=1) || posAll d) && decide (2 * (d.length:Int) - 2≤d.sum)))
end Go.Idl
namespace Go.Idl
open Go
def hdV (n:Nat) (es:List (Int×Int)) (v:Int):Bool:=decide ((cmpS n es v.toNat).getD 0 0=v)
def cmpsS (n:Nat) (es:List (Int×Int)) (i:Nat):List (List Int):=((rgF n i).filter (hdV n es)).map fun v=>cmpS n es v.toNat
theorem mark_keep {l:List Bool} {e:Int×Int} {v:Nat} (h:l.getD v false=true):(mark l e).getD v false=true:=by
  have hv:v < l.length:=by
    rw [List.getD_eq_getElem?_getD] at h
    by_cases hv:v < l.length
    · exact hv
    · rw [List.getElem?_eq_none (by omega)] at h;cases h
  rw [mark]
  split
  · rw [List.getD_eq_getElem?_getD] at h ⊢
    rw [List.getElem?_set,List.getElem?_set]
    split
    · split
      · rfl
      · rename_i h1 h2;simp at h2;omega
    · split
      · split
        · rfl
        · omega
      · exact h
  · exact h
theorem fold_keep {v:Nat}:∀ (es:List (Int×Int)) {l:List Bool},l.getD v false=true→(es.foldl mark l).getD v false=true
  | [],_,h=>h
  | e::es,_,h=>fold_keep es (mark_keep h)
theorem mrks_keep {es:List (Int×Int)} {v:Nat}:∀ (m:Nat) {l:List Bool},l.getD v false=true→(mrks es m l).getD v false=true
  | 0,_,h=>h
  | m+1,_,h=>mrks_keep m (fold_keep es h)
theorem mem_cmpS {n:Nat} {es:List (Int×Int)} {v:Nat} (hv:v < n):(v:Int) ∈ cmpS n es v:=by
  refine List.mem_filter.2 ⟨mem_rgF.2 ⟨by omega,by omega⟩,?_⟩
  refine mrks_keep n ?_
  rw [Int.toNat_natCast,List.getD_eq_getElem?_getD,List.getElem?_set_self (by simpa using hv)];rfl
theorem cp_loop (n:Nat) (hn7:n≤7) (es:List (Int×Int)) (c:Bool) (hes:∀ e ∈ es,0≤e.1∧e.1 < n∧0≤e.2∧e.2 < n) (hel:es.length≤1000):∀ (m i:Nat) (acc:List (List Int)),i+m=n→acc.length≤i →
    wp tb (.loop z343l8) { T:=[(1,.bptr 0 0 0),(3,OT acc),(4,I i)],loc:=[[I n,L2 es c]],M:=[] }
      (fun ex st=>ex=.exit 0∧st={ T:=[(1,.bptr 0 0 0),(3,OT (acc++cmpsS n es i)),(4,I n),(10,Bo false)],loc:=[[I n,L2 es c]],M:=[] }):=by
  intro m
  induction m with
  | zero =>
    intro i acc hi ha
    have h3:i=n:=hi
    subst h3
    rw [cmpsS,rgF_end,List.filter_nil,List.map_nil,List.append_nil]
    refine wp_loop ?_
    repeat (first|apply wp_as|apply wp_ss|refine wr (by simp;with_reducible rfl) ?_|refine wq (by simp;with_reducible rfl) ?_|refine wt (by simpa) ?_|refine wf (by simpa) ?_|refine xt (by simpa) ?_|refine xf (by simpa) ?_|apply wp_bs|apply wp_b|refine wp_sr ?_|refine wp_sx ?_|refine wp_ret' ?_|refine wp_skip' ?_|refine wp_exit' ?_)
    exact ⟨rfl,rfl⟩
  | succ m ih =>
    intro i acc hi ha
    have hi2:i < n:=by omega
    have w1:IntKind.i64.wrap ((i:Int)+1)=((i+1:Nat):Int):=wrapS (by omega)
    have e1:=fun c=>ev_lim (ev_component n hn7 es c hes hel i hi2)
    have hm:=mem_cmpS (es:=es) hi2
    have hh:hdV n es (i:Int)=decide ((cmpS n es i).getD 0 0=(i:Int)):=by rw [hdV,Int.toNat_natCast]
    rw [cmpsS,rgF_cons hi2]
    have hn0:=ih (i+1) acc (by omega) (by omega)
    have hn1:=ih (i+1) (acc++[cmpS n es i]) (by omega) (by simp;omega)
    rw [List.append_assoc,List.cons_append,List.nil_append] at hn1
    have hl1:acc.length+1≤274877906944:=by omega
    have hT:∀ x:List Int,List.take (acc.length+1) (acc++[x])=acc++[x]:=fun x=>List.take_of_length_le (by simp)
    have hT2:List.take acc.length acc=acc:=List.take_of_length_le (Nat.le_refl _)
    by_cases hq:(cmpS n es i).getD 0 0=(i:Int)
    · rw [List.filter_cons_of_pos (by rw [hh];exact decide_eq_true hq),List.map_cons,Int.toNat_natCast]
      rw [cmpsS] at hn1
      generalize cmpS n es i=C at *
      cases C with
      | nil=>cases hm
      | cons y ys =>
        have hq:y=(i:Int):=hq
        subst hq
        refine wp_loop ?_
        repeat (first|apply wp_as|apply wp_ss|refine wr (by simp [hi2,e1,w1,hl1,hT,hT2];with_reducible rfl) ?_|refine wq (by simp [hi2,e1,w1,hl1,hT,hT2];with_reducible rfl) ?_|refine wt (by simpa [hi2,e1,w1,hl1,hT,hT2]) ?_|refine wf (by simpa [hi2,e1,w1,hl1,hT,hT2]) ?_|refine xt (by simpa [hi2,e1,w1,hl1,hT,hT2]) ?_|refine xf (by simpa [hi2,e1,w1,hl1,hT,hT2]) ?_|apply wp_bs|apply wp_b|refine wp_sr ?_|refine wp_sx ?_|refine wp_ret' ?_|refine wp_skip' ?_|refine wp_exit' ?_)
        exact hn1
    · rw [List.filter_cons_of_neg (by rw [hh,decide_eq_true_eq];exact hq)]
      rw [cmpsS] at hn0
      generalize cmpS n es i=C at *
      cases C with
      | nil=>cases hm
      | cons y ys =>
        have hq:¬ y=(i:Int):=hq
        refine wp_loop ?_
        repeat (first|apply wp_as|apply wp_ss|refine wr (by simp [hi2,e1,w1,hq];with_reducible rfl) ?_|refine wq (by simp [hi2,e1,w1,hq];with_reducible rfl) ?_|refine wt (by simpa [hi2,e1,w1,hq]) ?_|refine wf (by simpa [hi2,e1,w1,hq]) ?_|refine xt (by simpa [hi2,e1,w1,hq]) ?_|refine xf (by simpa [hi2,e1,w1,hq]) ?_|apply wp_bs|apply wp_b|refine wp_sr ?_|refine wp_sx ?_|refine wp_ret' ?_|refine wp_skip' ?_|refine wp_exit' ?_)
        exact hn0
theorem ev_spec_components (n:Nat) (hn7:n≤7) (es:List (Int×Int)) (c:Bool) (hes:∀ e ∈ es,0≤e.1∧e.1 < n∧0≤e.2∧e.2 < n) (hel:es.length≤1000) :
    Ev tb zl343 [] [Gr n es c] [] ⟨OT (cmpsS n es 0),[],[],[]⟩:=by
  have loop:=cp_loop n hn7 es c hes hel n 0 [] (by omega) (by simp)
  rw [List.nil_append,show ((0:Nat):Int)=0 from rfl] at loop
  simp only [OT,oab_nil] at loop
  refine call_of_wp zt343 rfl ?_
  repeat (first|apply wp_as|apply wp_ss|refine wr (by simp;with_reducible rfl) ?_|refine wq (by simp;with_reducible rfl) ?_|refine wt (by simpa) ?_|refine wf (by simpa) ?_|refine xt (by simpa) ?_|refine xf (by simpa) ?_|apply wp_bs|apply wp_b|refine wp_sr ?_|refine wp_sx ?_|refine wp_ret' ?_|refine wp_skip' ?_|refine wp_exit' ?_)
  refine wp_imp loop ?_
  rintro ex st ⟨rfl,rfl⟩
  simp only [if_true]
  repeat (first|apply wp_as|apply wp_ss|refine wr (by simp;with_reducible rfl) ?_|refine wq (by simp;with_reducible rfl) ?_|refine wt (by simpa) ?_|refine wf (by simpa) ?_|refine xt (by simpa) ?_|refine xf (by simpa) ?_|apply wp_bs|apply wp_b|refine wp_sr ?_|refine wp_sx ?_|refine wp_ret' ?_|refine wp_skip' ?_|refine wp_exit' ?_)
  simp [zi343]
end Go.Idl
namespace Go.Idl
def hv:Nat→List Int→Bool
  | 0,_=>true
  | _+1,[]=>true
  | m+1,x::r=>decide (x≤r.length) && (r.take x.toNat).all (fun y=>!decide (y=0)) && hv m (fall ((r.take x.toNat).map (fun y=>y - 1)++r.drop x.toNat))
end Go.Idl
namespace Go.Idl
theorem len_sub {α:Type} [DecidableEq α]:∀ {l k:List α},l.Nodup→(∀ x ∈ l,x ∈ k)→l.length≤k.length
  | [],_,_,_=>by simp
  | a::l,k,hn,hs=>by
    have hn':=List.nodup_cons.1 hn
    have h1:=len_sub (l:=l) (k:=k.erase a) hn'.2 (fun x hx=>(List.mem_erase_of_ne (fun h=>hn'.1 (by rw [← h];exact hx))).2 (hs x (by simp [hx])))
    have h2:=List.length_erase_of_mem (hs a (by simp))
    have h3:0 < k.length:=List.length_pos_of_mem (hs a (by simp))
    simp only [List.length_cons];omega
end Go.Idl
namespace Go.Idl
theorem S_zero_iff {α:Type}:∀ {l:List α} {f:α→Int},(∀ a ∈ l,0≤f a)→(S l f=0 ↔ ∀ a ∈ l,f a=0)
  | [],f,_=>by simp [S]
  | a::l,f,h=>by
    have h1:=h a (by simp)
    have h2:0≤S l f:=S_nonneg fun b hb=>h b (by simp [hb])
    have h3:=S_zero_iff (l:=l) (f:=f) fun b hb=>h b (by simp [hb])
    rw [S_cons,List.forall_mem_cons,← h3]
    omega
end Go.Idl
namespace Go.Idl
def Cl (es:List (Int×Int)) (p:Nat→Bool):Prop:=∀ e ∈ es,p e.1.toNat=p e.2.toNat
def Con (n:Nat) (es:List (Int×Int)):Prop:=∀ p,Cl es p→∀ u v,u < n→v < n→p u=p v
theorem countP_lt {α:Type} {p q:α→Bool}:∀ {l:List α},(∀ a ∈ l,p a=true→q a=true)→(∃ a ∈ l,p a=false∧q a=true)→l.countP p < l.countP q
  | [],_,⟨a,h,_⟩=>by cases h
  | b::l,hi,⟨a,ha,h1,h2⟩=>by
    rw [List.countP_cons,List.countP_cons]
    have hle:l.countP p≤l.countP q:=List.countP_mono_left fun x hx=>hi x (by simp [hx])
    by_cases hab:a=b
    · subst hab
      rw [h1,h2];simp;omega
    · have ha2:a ∈ l:=by
        rcases List.mem_cons.1 ha with h | h
        · exact absurd h hab
        · exact h
      have:=countP_lt (l:=l) (fun x hx=>hi x (by simp [hx])) ⟨a,ha2,h1,h2⟩
      have hb:=hi b (by simp)
      cases hp:p b with
      | false=>cases q b <;> simp <;> omega
      | true=>rw [hb hp];simp;omega
theorem grow {n:Nat} {es:List (Int×Int)} (hC:Con n es) (hes:∀ e ∈ es,e.1.toNat < n∧e.2.toNat < n) (Z:Nat→Nat→Bool) (h0:∃ v,v < n∧Z 0 v=true) (hm:∀ k v,Z k v=true→Z (k+1) v=true)
    (he:∀ k,∀ e ∈ es,(Z k e.1.toNat=true ∨ Z k e.2.toNat=true)→Z (k+1) e.1.toNat=true∧Z (k+1) e.2.toNat=true):∀ k,min (k+1) n≤(List.range n).countP (Z k)∧∃ v,v < n∧Z k v=true
  | 0=>by
    obtain ⟨v,hv,hz⟩:=h0
    have:0 < (List.range n).countP (Z 0):=List.countP_pos_iff.2 ⟨v,List.mem_range.2 hv,hz⟩
    exact ⟨by omega,v,hv,hz⟩
  | k+1=>by
    obtain ⟨ih,v,hv,hz⟩:=grow hC hes Z h0 hm he k
    refine ⟨?_,v,hv,hm k v hz⟩
    have hle:(List.range n).countP (Z k)≤(List.range n).countP (Z (k+1)):=List.countP_mono_left fun x _=>hm k x
    by_cases hall:∀ u,u < n→Z k u=true
    · have:(List.range n).countP (Z k)=(List.range n).length:=List.countP_eq_length.2 fun a ha=>hall a (List.mem_range.1 ha)
      simp at this
      omega
    · simp only [Classical.not_forall] at hall
      obtain ⟨u,hu,hzu⟩:=hall
      have hncl:¬ Cl es (Z k):=fun hc=>hzu (by rw [hC _ hc u v hu hv];exact hz)
      simp only [Cl,Classical.not_forall] at hncl
      obtain ⟨e,hee,hne⟩:=hncl
      have hlt:(List.range n).countP (Z k) < (List.range n).countP (Z (k+1)):=by
        have hb:=hes e hee
        refine countP_lt (fun x _=>hm k x) ?_
        cases h1:Z k e.1.toNat with
        | true =>
          have h2:Z k e.2.toNat=false:=by
            cases h2:Z k e.2.toNat with
            | false=>rfl
            | true=>rw [h1,h2] at hne;exact absurd rfl hne
          exact ⟨_,List.mem_range.2 hb.2,h2,(he k e hee (.inl h1)).2⟩
        | false =>
          have h2:Z k e.2.toNat=true:=by
            cases h2:Z k e.2.toNat with
            | true=>rfl
            | false=>rw [h1,h2] at hne;exact absurd rfl hne
          exact ⟨_,List.mem_range.2 hb.1,h1,(he k e hee (.inr h2)).1⟩
      omega
theorem grow_all {n:Nat} {es:List (Int×Int)} (hC:Con n es) (hes:∀ e ∈ es,e.1.toNat < n∧e.2.toNat < n) (Z:Nat→Nat→Bool) (h0:∃ v,v < n∧Z 0 v=true) (hm:∀ k v,Z k v=true→Z (k+1) v=true)
    (he:∀ k,∀ e ∈ es,(Z k e.1.toNat=true ∨ Z k e.2.toNat=true)→Z (k+1) e.1.toNat=true∧Z (k+1) e.2.toNat=true):∀ v,v < n→Z n v=true:=fun v hv=>by
  have h1:=(grow hC hes Z h0 hm he n).1
  have h2:(List.range n).countP (Z n)≤(List.range n).length:=List.countP_le_length
  simp at h2
  have h3:(List.range n).countP (Z n)=(List.range n).length:=by simp;omega
  exact List.countP_eq_length.1 h3 v (List.mem_range.2 hv)
theorem rnds_succ (es:List (Int×Int)):∀ (k:Nat) (o:List Int),rnds es (k+1) o=es.foldl relax (rnds es k o)
  | 0,_=>rfl
  | k+1,o=>by rw [rnds,rnds_succ es k,rnds]
theorem relax_get {o:List Int} {e:Int×Int} (h1:e.1.toNat < o.length) (h2:e.2.toNat < o.length) (v:Nat) :
    (relax o e).getD v 0=if v=e.1.toNat ∨ v=e.2.toNat then min (o.getD e.1.toNat 0) (o.getD e.2.toNat 0) else o.getD v 0:=by
  rw [relax,List.getD_eq_getElem?_getD,List.getElem?_set,List.getElem?_set]
  by_cases k2:v=e.2.toNat
  · subst k2
    simp [h2]
  · by_cases k1:v=e.1.toNat
    · subst k1
      simp [h1,Ne.symm k2]
    · simp [k1,k2,Ne.symm k1,Ne.symm k2]
def RInv (n:Nat) (p:Nat→Bool) (o:List Int):Prop:=o.length=n∧∀ v,v < n→0≤o.getD v 0∧o.getD v 0≤v∧p (o.getD v 0).toNat=p v
theorem relax_inv {n:Nat} {p:Nat→Bool} {o:List Int} {e:Int×Int} (h1:e.1.toNat < n) (h2:e.2.toNat < n) (hp:p e.1.toNat=p e.2.toNat) (h:RInv n p o):RInv n p (relax o e):=by
  refine ⟨by rw [relax_len];exact h.1,fun v hv=>?_⟩
  rw [relax_get (by rw [h.1];exact h1) (by rw [h.1];exact h2)]
  have a:=h.2 _ h1
  have b:=h.2 _ h2
  split
  · rename_i hq
    have hpm:p (min (o.getD e.1.toNat 0) (o.getD e.2.toNat 0)).toNat=p v:=by
      have hpv:p v=p e.1.toNat:=by
        rcases hq with rfl | rfl
        · rfl
        · exact hp.symm
      rcases Int.le_total (o.getD e.1.toNat 0) (o.getD e.2.toNat 0) with hl | hl
      · rw [Int.min_eq_left hl,a.2.2,hpv]
      · rw [Int.min_eq_right hl,b.2.2,hpv,hp]
    refine ⟨by omega,?_,hpm⟩
    rcases hq with rfl | rfl <;> omega
  · exact h.2 v hv
theorem fold_inv {n:Nat} {p:Nat→Bool}:∀ (es:List (Int×Int)) {o:List Int},(∀ e ∈ es,e.1.toNat < n∧e.2.toNat < n)→Cl es p→RInv n p o→RInv n p (es.foldl relax o)
  | [],_,_,_,h=>h
  | e::es,_,he,hc,h=>fold_inv es (fun x hx=>he x (by simp [hx])) (fun x hx=>hc x (by simp [hx])) (relax_inv (he e (by simp)).1 (he e (by simp)).2 (hc e (by simp)) h)
theorem rnds_inv {n:Nat} {p:Nat→Bool} {es:List (Int×Int)} (he:∀ e ∈ es,e.1.toNat < n∧e.2.toNat < n) (hc:Cl es p):∀ (k:Nat) {o:List Int},RInv n p o→RInv n p (rnds es k o)
  | 0,_,h=>h
  | k+1,_,h=>rnds_inv he hc k (fold_inv es he hc h)
theorem base_inv (n:Nat) (p:Nat→Bool):RInv n p (idxB n (-1)):=by
  have hg:∀ v,v < n→(idxB n (-1)).getD v 0=(v:Int):=fun v hv=>by
    rw [idxB_all,List.getD_eq_getElem?_getD,List.getElem?_map,List.getElem?_range hv];rfl
  refine ⟨by rw [idxB_all];simp,fun v hv=>?_⟩
  rw [hg v hv]
  exact ⟨by omega,by omega,by rw [Int.toNat_natCast]⟩
theorem fold_zero {n:Nat}:∀ (es:List (Int×Int)) {o:List Int} {v:Nat},(∀ e ∈ es,e.1.toNat < n∧e.2.toNat < n)→RInv n (fun _=>true) o→v < n→o.getD v 0=0→(es.foldl relax o).getD v 0=0
  | [],_,_,_,_,_,h=>h
  | e::es,o,v,he,hi,hv,h=>by
    have hb:=he e (by simp)
    have hi2:=relax_inv hb.1 hb.2 rfl hi
    refine fold_zero es (fun x hx=>he x (by simp [hx])) hi2 hv ?_
    rw [relax_get (by rw [hi.1];exact hb.1) (by rw [hi.1];exact hb.2)]
    have a:=hi.2 _ hb.1
    have b:=hi.2 _ hb.2
    split
    · rename_i hq
      rcases hq with rfl | rfl <;> omega
    · exact h
theorem fold_edge {n:Nat}:∀ (es:List (Int×Int)) {o:List Int},(∀ e ∈ es,e.1.toNat < n∧e.2.toNat < n)→RInv n (fun _=>true) o→∀ e ∈ es,(o.getD e.1.toNat 0=0 ∨ o.getD e.2.toNat 0=0) →
    (es.foldl relax o).getD e.1.toNat 0=0∧(es.foldl relax o).getD e.2.toNat 0=0
  | [],_,_,_,_,h,_=>by cases h
  | f::es,o,he,hi,e,hm,h=>by
    have hb:=he f (by simp)
    have hbe:=he e hm
    have he':∀ e ∈ es,e.1.toNat < n∧e.2.toNat < n:=fun x hx=>he x (by simp [hx])
    have hi2:=relax_inv hb.1 hb.2 rfl hi
    have a:=hi.2 _ hb.1
    have b:=hi.2 _ hb.2
    have rg:=fun v=>relax_get (o:=o) (e:=f) (by rw [hi.1];exact hb.1) (by rw [hi.1];exact hb.2) v
    rcases List.mem_cons.1 hm with rfl | hm2
    · refine ⟨fold_zero es he' hi2 hb.1 ?_,fold_zero es he' hi2 hb.2 ?_⟩
      · rw [rg,if_pos (.inl rfl)];omega
      · rw [rg,if_pos (.inr rfl)];omega
    · refine fold_edge es he' hi2 e hm2 ?_
      rcases h with h | h
      · left
        rw [rg]
        split
        · rename_i hq
          rcases hq with hq | hq <;> rw [hq] at h <;> omega
        · exact h
      · right
        rw [rg]
        split
        · rename_i hq
          rcases hq with hq | hq <;> rw [hq] at h <;> omega
        · exact h
theorem con_zero {n:Nat} (hn1:1≤n) {es:List (Int×Int)} (hes:∀ e ∈ es,e.1.toNat < n∧e.2.toNat < n) (hC:Con n es):∀ v,v < n→(rnds es n (idxB n (-1))).getD v 0=0:=by
  have hi:∀ k,RInv n (fun _=>true) (rnds es k (idxB n (-1))):=fun k=>rnds_inv hes (fun _ _=>rfl) k (base_inv n _)
  have hb:=base_inv n (fun _=>true)
  have hA:∀ v,v < n→(fun (k v:Nat)=>decide (v < n) && decide ((rnds es k (idxB n (-1))).getD v 0=0)) n v=true:=by
    refine grow_all hC hes (fun k v=>decide (v < n) && decide ((rnds es k (idxB n (-1))).getD v 0=0)) ⟨0,by omega,?_⟩ (fun k v h=>?_) (fun k e he h=>?_)
    · have hz:=hb.2 0 (by omega)
      have hz2:(idxB n (-1)).getD 0 0=0:=by
        have h1:=hz.1
        have h2:=hz.2.1
        omega
      show (decide (0 < n) && decide ((idxB n (-1)).getD 0 0=0))=true
      rw [decide_eq_true (show 0 < n by omega),decide_eq_true hz2];rfl
    · simp only [Bool.and_eq_true,decide_eq_true_eq] at h ⊢
      rw [rnds_succ]
      exact ⟨h.1,fold_zero es hes (hi k) h.1 h.2⟩
    · have hbe:=hes e he
      simp only [Bool.and_eq_true,decide_eq_true_eq] at h ⊢
      rw [rnds_succ]
      have:=fold_edge es hes (hi k) e he (h.elim (fun h=>.inl h.2) (fun h=>.inr h.2))
      exact ⟨⟨hbe.1,this.1⟩,⟨hbe.2,this.2⟩⟩
  intro v hv
  have:=hA v hv
  simp only [Bool.and_eq_true,decide_eq_true_eq] at this
  exact this.2
theorem compI_len (n:Nat) (es:List (Int×Int)):(compI n es).length=((rgF n 0).filter (isR (rnds es n (idxB n (-1))))).length:=by rw [compI,partsF,List.length_map]
theorem cmpsS_len (n:Nat) (es:List (Int×Int)):(cmpsS n es 0).length=((rgF n 0).filter (hdV n es)).length:=by rw [cmpsS,List.length_map]
theorem one_zero {n:Nat} (hn1:1≤n) (p:Int→Bool) (h0:p 0=true) (h:∀ v:Nat,v < n→1≤v→p v=false):((rgF n 0).filter p).length=1:=by
  rw [rgF_cons (show 0 < n by omega),show ((0:Nat):Int)=0 from rfl,List.filter_cons_of_pos h0,List.filter_eq_nil_iff.2 fun x hx=>?_]
  · rfl
  · have hb:=mem_rgF.1 hx
    obtain ⟨k,rfl⟩:=Int.eq_ofNat_of_zero_le (show 0≤x by omega)
    rw [h k (by omega) (by omega)];simp
theorem two_more {n:Nat} (p:Int→Bool) {a b:Nat} (ha:a < n) (hb:b < n) (hab:a ≠ b) (pa:p a=true) (pb:p b=true):2≤((rgF n 0).filter p).length:=by
  have:[(a:Int),(b:Int)].length≤((rgF n 0).filter p).length:=len_sub (by simp;omega) fun x hx=>by
    simp only [List.mem_cons,List.not_mem_nil,or_false] at hx
    rcases hx with rfl | rfl
    · exact List.mem_filter.2 ⟨mem_rgF.2 (by omega),pa⟩
    · exact List.mem_filter.2 ⟨mem_rgF.2 (by omega),pb⟩
  simpa using this
theorem least_of {n:Nat} {p:Nat→Bool} {b:Bool} {v:Nat} (hv:v < n) (h:p v=b):∃ r,r < n∧p r=b∧∀ u,u < r→p u ≠ b:=by
  induction v using Nat.strongRecOn with
  | _ v ih =>
    by_cases hq:∃ u,u < v∧p u=b
    · obtain ⟨u,hu,hpu⟩:=hq
      exact ih u hu (by omega) hpu
    · exact ⟨v,hv,h,fun u hu hpu=>hq ⟨u,hu,hpu⟩⟩
theorem not_con {n:Nat} {es:List (Int×Int)} (h:¬ Con n es):∃ p a b,Cl es p∧a < n∧b < n∧p a=true∧p b=false∧(∀ u,u < a→p u ≠ true)∧∀ u,u < b→p u ≠ false:=by
  simp only [Con,Classical.not_forall] at h
  obtain ⟨p,hc,u,v,hu,hv,hne⟩:=h
  have ht:∃ x,x < n∧p x=true:=by
    cases h1:p u with
    | true=>exact ⟨u,hu,h1⟩
    | false =>
      cases h2:p v with
      | true=>exact ⟨v,hv,h2⟩
      | false=>rw [h1,h2] at hne;exact absurd rfl hne
  have hf:∃ x,x < n∧p x=false:=by
    cases h1:p u with
    | false=>exact ⟨u,hu,h1⟩
    | true =>
      cases h2:p v with
      | false=>exact ⟨v,hv,h2⟩
      | true=>rw [h1,h2] at hne;exact absurd rfl hne
  obtain ⟨x,hx,hpx⟩:=ht
  obtain ⟨y,hy,hpy⟩:=hf
  obtain ⟨a,a1,a2,a3⟩:=least_of hx hpx
  obtain ⟨b,b1,b2,b3⟩:=least_of hy hpy
  exact ⟨p,a,b,hc,a1,b1,a2,b2,a3,b3⟩
theorem compI_one {n:Nat} (hn1:1≤n) {es:List (Int×Int)} (hes:∀ e ∈ es,e.1.toNat < n∧e.2.toNat < n):(compI n es).length=1 ↔ Con n es:=by
  rw [compI_len]
  constructor
  · intro h1
    refine Classical.byContradiction fun hC=>?_
    obtain ⟨p,a,b,hc,ha,hb,pa,pb,la,lb⟩:=not_con hC
    have hi:=rnds_inv hes hc n (base_inv n p)
    have key:∀ (r:Nat) (x:Bool),r < n→p r=x→(∀ u,u < r→p u ≠ x)→isR (rnds es n (idxB n (-1))) r=true:=fun r x hr hpr hl=>by
      rw [isR,inP,Int.toNat_natCast,decide_eq_true_eq]
      have:=hi.2 r hr
      by_cases hq:(rnds es n (idxB n (-1))).getD r 0=r
      · exact hq
      · exact absurd (this.2.2.trans hpr) (hl _ (by omega))
    have:=two_more (isR (rnds es n (idxB n (-1)))) ha hb (fun h=>by rw [h,pb] at pa;cases pa) (key a true ha pa la) (key b false hb pb lb)
    omega
  · intro hC
    have hz:=con_zero hn1 hes hC
    refine one_zero hn1 _ ?_ fun v hv h1=>?_
    · rw [isR,inP,decide_eq_true_eq];exact hz 0 (by omega)
    · rw [isR,inP,Int.toNat_natCast,hz v hv,decide_eq_false_iff_not];omega
theorem mrks_succ (es:List (Int×Int)):∀ (k:Nat) (o:List Bool),mrks es (k+1) o=es.foldl mark (mrks es k o)
  | 0,_=>rfl
  | k+1,o=>by rw [mrks,mrks_succ es k,mrks]
theorem mark_get {l:List Bool} {e:Int×Int} (h1:e.1.toNat < l.length) (h2:e.2.toNat < l.length) (v:Nat) :
    (mark l e).getD v false=if (l.getD e.1.toNat false || l.getD e.2.toNat false)=true∧(v=e.1.toNat ∨ v=e.2.toNat) then true else l.getD v false:=by
  rw [mark]
  by_cases hq:(l.getD e.1.toNat false || l.getD e.2.toNat false)=true
  · by_cases k2:v=e.2.toNat
    · have hR:(if (l.getD e.1.toNat false || l.getD e.2.toNat false)=true∧(v=e.1.toNat ∨ v=e.2.toNat) then true else l.getD v false)=true:=if_pos ⟨hq,.inr k2⟩
      rw [hR,if_pos hq,List.getD_eq_getElem?_getD,k2,List.getElem?_set_self (by simpa using h2)];rfl
    · by_cases k1:v=e.1.toNat
      · have hR:(if (l.getD e.1.toNat false || l.getD e.2.toNat false)=true∧(v=e.1.toNat ∨ v=e.2.toNat) then true else l.getD v false)=true:=if_pos ⟨hq,.inl k1⟩
        rw [hR,if_pos hq,List.getD_eq_getElem?_getD,List.getElem?_set_ne (Ne.symm k2),k1,List.getElem?_set_self h1];rfl
      · have hR:(if (l.getD e.1.toNat false || l.getD e.2.toNat false)=true∧(v=e.1.toNat ∨ v=e.2.toNat) then true else l.getD v false)=l.getD v false:=if_neg fun h=>h.2.elim k1 k2
        rw [hR,if_pos hq,List.getD_eq_getElem?_getD,List.getElem?_set_ne (Ne.symm k2),List.getElem?_set_ne (Ne.symm k1),List.getD_eq_getElem?_getD]
  · rw [if_neg hq,if_neg fun h=>hq h.1]
theorem foldm_edge {n:Nat}:∀ (es:List (Int×Int)) {l:List Bool},l.length=n→(∀ e ∈ es,e.1.toNat < n∧e.2.toNat < n)→∀ e ∈ es,(l.getD e.1.toNat false=true ∨ l.getD e.2.toNat false=true) →
    (es.foldl mark l).getD e.1.toNat false=true∧(es.foldl mark l).getD e.2.toNat false=true
  | [],_,_,_,_,h,_=>by cases h
  | f::es,l,hl,he,e,hm,h=>by
    have he':∀ e ∈ es,e.1.toNat < n∧e.2.toNat < n:=fun x hx=>he x (by simp [hx])
    have hb:=he f (by simp)
    rcases List.mem_cons.1 hm with rfl | hm2
    · have hq:(l.getD e.1.toNat false || l.getD e.2.toNat false)=true:=by
        rcases h with h | h <;> rw [h] <;> simp
      refine ⟨fold_keep es ?_,fold_keep es ?_⟩
      · rw [mark_get (by omega) (by omega),if_pos ⟨hq,.inl rfl⟩]
      · rw [mark_get (by omega) (by omega),if_pos ⟨hq,.inr rfl⟩]
    · exact foldm_edge es (by rw [mark_len,hl]) he' e hm2 (h.elim (fun h=>.inl (mark_keep h)) (fun h=>.inr (mark_keep h)))
theorem foldm_cls {p:Nat→Bool} {v n:Nat}:∀ (es:List (Int×Int)) {l:List Bool},l.length=n→(∀ e ∈ es,e.1.toNat < n∧e.2.toNat < n)→Cl es p→(∀ u,l.getD u false=true→p u=p v)→∀ u,(es.foldl mark l).getD u false=true→p u=p v
  | [],_,_,_,_,h=>h
  | e::es,l,hl,he,hc,h=>by
    have hb:=he e (by simp)
    refine foldm_cls es (by rw [mark_len,hl]) (fun x hx=>he x (by simp [hx])) (fun x hx=>hc x (by simp [hx])) fun u hu=>?_
    rw [mark_get (by omega) (by omega)] at hu
    split at hu
    · rename_i hq
      have hce:=hc e (by simp)
      have h1:p e.1.toNat=p v:=by
        have hq1:=hq.1
        rw [Bool.or_eq_true] at hq1
        rcases hq1 with hq1 | hq1
        · exact h _ hq1
        · rw [hce];exact h _ hq1
      rcases hq.2 with rfl | rfl
      · exact h1
      · rw [← hce];exact h1
    · exact h u hu
theorem mrks_cls {p:Nat→Bool} {v n:Nat} {es:List (Int×Int)} (he:∀ e ∈ es,e.1.toNat < n∧e.2.toNat < n) (hc:Cl es p):∀ (k:Nat) {l:List Bool},l.length=n→(∀ u,l.getD u false=true→p u=p v)→∀ u,(mrks es k l).getD u false=true→p u=p v
  | 0,_,_,h=>h
  | k+1,l,hl,h=>mrks_cls he hc k (by rw [foldm_len,hl]) (foldm_cls es hl he hc h)
theorem start_get {n v:Nat} (hv:v < n) (u:Nat):((List.replicate n false).set v true).getD u false=decide (u=v):=by
  rw [List.getD_eq_getElem?_getD,List.getElem?_set]
  by_cases h:v=u
  · subst h;simp [hv]
  · have:¬ u=v:=fun hh=>h hh.symm
    rw [if_neg h,decide_eq_false this,List.getElem?_replicate];split <;> rfl
theorem cmpS_pw (n:Nat) (es:List (Int×Int)) (v:Nat):(cmpS n es v).Pairwise (fun a b:Int=>a < b):=by
  refine List.Pairwise.filter _ ?_
  rw [rgF_all]
  exact idxB_pw n
theorem cmpsS_one {n:Nat} (hn1:1≤n) {es:List (Int×Int)} (hes:∀ e ∈ es,e.1.toNat < n∧e.2.toNat < n):(cmpsS n es 0).length=1 ↔ Con n es:=by
  rw [cmpsS_len]
  constructor
  · intro h1
    refine Classical.byContradiction fun hC=>?_
    obtain ⟨p,a,b,hc,ha,hb,pa,pb,la,lb⟩:=not_con hC
    have key:∀ (r:Nat) (x:Bool),r < n→p r=x→(∀ u,u < r→p u ≠ x)→hdV n es r=true:=fun r x hr hpr hl=>by
      rw [hdV,Int.toNat_natCast,decide_eq_true_eq]
      have hm:=mem_cmpS (es:=es) hr
      have hpw:=cmpS_pw n es r
      have hall:∀ u ∈ cmpS n es r,(r:Int)≤u:=fun u hu=>by
        have h2:=List.mem_filter.1 hu
        have hb:=mem_rgF.1 h2.1
        have h3:=mrks_cls (v:=r) hes hc n (l:=(List.replicate n false).set r true) (by simp) (fun w hw=>by rw [start_get hr,decide_eq_true_eq] at hw;rw [hw]) u.toNat h2.2
        by_cases hq:(r:Int)≤u
        · exact hq
        · exact absurd (h3.trans hpr) (hl _ (by omega))
      cases hC:cmpS n es r with
      | nil=>rw [hC] at hm;cases hm
      | cons y ys =>
        rw [hC] at hm hpw hall
        have hy:=hall y (by simp)
        rcases List.mem_cons.1 hm with h | h
        · exact h.symm
        · have:=(List.pairwise_cons.1 hpw).1 _ h
          show y=r
          omega
    have:=two_more (hdV n es) ha hb (fun h=>by rw [h,pb] at pa;cases pa) (key a true ha pa la) (key b false hb pb lb)
    omega
  · intro hC
    have hall:∀ v,v < n→∀ u,u < n→(mrks es n ((List.replicate n false).set v true)).getD u false=true:=fun v hv=>by
      have hlen:∀ k,(mrks es k ((List.replicate n false).set v true)).length=n:=fun k=>by rw [mrks_len];simp
      refine grow_all hC hes (fun k u=>(mrks es k ((List.replicate n false).set v true)).getD u false) ⟨v,hv,?_⟩ (fun k u h=>?_) (fun k e he h=>?_)
      · show ((List.replicate n false).set v true).getD v false=true
        rw [start_get hv];simp
      · rw [mrks_succ];exact fold_keep es h
      · rw [mrks_succ];exact foldm_edge es (hlen k) hes e he h
    have hcm:∀ v,v < n→cmpS n es v=rgF n 0:=fun v hv=>List.filter_eq_self.2 fun u hu=>by
      have hb:=mem_rgF.1 hu
      exact hall v hv _ (by omega)
    have hhd:∀ v:Nat,v < n→hdV n es v=decide ((0:Int)=v):=fun v hv=>by
      rw [hdV,Int.toNat_natCast,hcm v hv,rgF_cons (show 0 < n by omega)];rfl
    refine one_zero hn1 _ ?_ fun v hv h1=>?_
    · have:=hhd 0 (by omega)
      rw [show ((0:Nat):Int)=0 from rfl] at this
      rw [this];rfl
    · rw [hhd v hv,decide_eq_false_iff_not];omega
end Go.Idl
namespace Go.Idl
def Same (es:List (Int×Int)) (u v:Nat):Prop:=∀ p,Cl es p→p u=p v
theorem Same.symm {es:List (Int×Int)} {u v:Nat} (h:Same es u v):Same es v u:=fun p hp=>(h p hp).symm
theorem Same.trans {es:List (Int×Int)} {u v w:Nat} (h:Same es u v) (k:Same es v w):Same es u w:=fun p hp=>(h p hp).trans (k p hp)
theorem Same.mono {es fs:List (Int×Int)} (h:∀ e ∈ es,e ∈ fs) {u v:Nat} (k:Same es u v):Same fs u v:=fun p hp=>k p fun e he=>hp e (h e he)
theorem same_edge {es:List (Int×Int)} {e:Int×Int} (h:e ∈ es):Same es e.1.toNat e.2.toNat:=fun _ hp=>hp e h
theorem grow2 {n:Nat} {es:List (Int×Int)} (S:Nat→Bool) (hSn:∀ u,S u=true→u < n) (hCl:Cl es S) (hC:∀ p,Cl es p→∀ u v,S u=true→S v=true→p u=p v) (Z:Nat→Nat→Bool) (h0:∃ v,S v=true∧Z 0 v=true) (hm:∀ k v,Z k v=true→Z (k+1) v=true)
    (he:∀ k,∀ e ∈ es,(Z k e.1.toNat=true ∨ Z k e.2.toNat=true)→Z (k+1) e.1.toNat=true∧Z (k+1) e.2.toNat=true):∀ k,min (k+1) ((List.range n).countP S)≤(List.range n).countP (fun v=>S v && Z k v)∧∃ v,S v=true∧Z k v=true
  | 0=>by
    obtain ⟨v,hv,hz⟩:=h0
    have:0 < (List.range n).countP (fun v=>S v && Z 0 v):=List.countP_pos_iff.2 ⟨v,List.mem_range.2 (hSn v hv),by rw [hv,hz];rfl⟩
    exact ⟨by omega,v,hv,hz⟩
  | k+1=>by
    obtain ⟨ih,v,hv,hz⟩:=grow2 S hSn hCl hC Z h0 hm he k
    refine ⟨?_,v,hv,hm k v hz⟩
    have hmono:∀ x ∈ List.range n,(S x && Z k x)=true→(S x && Z (k+1) x)=true:=fun x _ h=>by
      rw [Bool.and_eq_true] at h ⊢
      exact ⟨h.1,hm k x h.2⟩
    have hle:=List.countP_mono_left hmono
    by_cases hall:∀ u,S u=true→Z k u=true
    · have:(List.range n).countP (fun v=>S v && Z k v)=(List.range n).countP S:=List.countP_congr fun x _=>by
        rw [Bool.and_eq_true]
        exact ⟨fun h=>h.1,fun h=>⟨h,hall x h⟩⟩
      omega
    · simp only [Classical.not_forall] at hall
      obtain ⟨u,hu,hzu⟩:=hall
      have hncl:¬ Cl es (fun x=>S x && Z k x):=fun hc=>by
        have:=hC _ hc u v hu hv
        simp only [hu,hv,hz,Bool.true_and] at this
        exact hzu this
      simp only [Cl,Classical.not_forall] at hncl
      obtain ⟨e,hee,hne⟩:=hncl
      have hS:=hCl e hee
      have hlt:(List.range n).countP (fun v=>S v && Z k v) < (List.range n).countP (fun v=>S v && Z (k+1) v):=by
        refine countP_lt hmono ?_
        cases h1:S e.1.toNat with
        | false=>rw [← hS,h1] at hne;exact absurd rfl hne
        | true =>
          rw [← hS,h1,Bool.true_and,Bool.true_and] at hne
          have h1':=hS.symm.trans h1
          cases h3:Z k e.1.toNat with
          | true =>
            have h2:Z k e.2.toNat=false:=by
              cases h2:Z k e.2.toNat with
              | false=>rfl
              | true=>rw [h3,h2] at hne;exact absurd rfl hne
            exact ⟨_,List.mem_range.2 (hSn _ h1'),by rw [h2,Bool.and_false],by rw [h1',(he k e hee (.inl h3)).2];rfl⟩
          | false =>
            have h2:Z k e.2.toNat=true:=by
              cases h2:Z k e.2.toNat with
              | true=>rfl
              | false=>rw [h3,h2] at hne;exact absurd rfl hne
            exact ⟨_,List.mem_range.2 (hSn _ h1),by rw [h3,Bool.and_false],by rw [h1,(he k e hee (.inr h2)).1];rfl⟩
      omega
theorem fold_le {n:Nat}:∀ (es:List (Int×Int)) {o:List Int},o.length=n→(∀ e ∈ es,e.1.toNat < n∧e.2.toNat < n)→∀ v,(es.foldl relax o).getD v 0≤o.getD v 0
  | [],_,_,_,_=>Int.le_refl _
  | e::es,o,hl,he,v=>by
    have hb:=he e (by simp)
    refine Int.le_trans (fold_le es (by rw [relax_len];exact hl) (fun x hx=>he x (by simp [hx])) v) ?_
    rw [relax_get (by omega) (by omega)]
    split
    · rename_i hq
      rcases hq with rfl | rfl <;> omega
    · exact Int.le_refl _
theorem fold_edge_le {n:Nat}:∀ (es:List (Int×Int)) {o:List Int},o.length=n→(∀ e ∈ es,e.1.toNat < n∧e.2.toNat < n)→∀ e ∈ es,
    (es.foldl relax o).getD e.1.toNat 0≤min (o.getD e.1.toNat 0) (o.getD e.2.toNat 0)∧(es.foldl relax o).getD e.2.toNat 0≤min (o.getD e.1.toNat 0) (o.getD e.2.toNat 0)
  | [],_,_,_,_,h=>by cases h
  | f::es,o,hl,he,e,hm=>by
    have hb:=he f (by simp)
    have he':∀ e ∈ es,e.1.toNat < n∧e.2.toNat < n:=fun x hx=>he x (by simp [hx])
    have hl2:(relax o f).length=n:=by rw [relax_len];exact hl
    have rg:=fun v=>relax_get (o:=o) (e:=f) (by omega) (by omega) v
    rw [List.foldl_cons]
    rcases List.mem_cons.1 hm with rfl | hm2
    · have a:=fold_le es hl2 he' e.1.toNat
      have b:=fold_le es hl2 he' e.2.toNat
      rw [rg,if_pos (.inl rfl)] at a
      rw [rg,if_pos (.inr rfl)] at b
      exact ⟨a,b⟩
    · have ih:=fold_edge_le es hl2 he' e hm2
      have le1:∀ v,(relax o f).getD v 0≤o.getD v 0:=fun v=>by
        rw [rg]
        split
        · rename_i hq
          rcases hq with rfl | rfl <;> omega
        · exact Int.le_refl _
      have a:=le1 e.1.toNat
      have b:=le1 e.2.toNat
      omega
abbrev rtF (n:Nat) (es:List (Int×Int)):List Int:=rnds es n (idxB n (-1))
open Classical in
theorem rt_least {n:Nat} {es:List (Int×Int)} (hes:∀ e ∈ es,e.1.toNat < n∧e.2.toNat < n) {v:Nat} (hv:v < n) :
    ∃ m:Nat,m < n∧Same es v m∧(∀ u,u < n→Same es v u→m≤u)∧∀ u,u < n→Same es v u→(rtF n es).getD u 0=m:=by
  obtain ⟨S,hS⟩:∃ S:Nat→Bool,S=fun u=>decide (u < n∧Same es v u):=⟨_,rfl⟩
  have hSi:∀ u,S u=true ↔ u < n∧Same es v u:=fun u=>by rw [hS];exact decide_eq_true_iff
  have hSv:S v=true:=(hSi v).2 ⟨hv,fun _ _=>rfl⟩
  obtain ⟨m,hm1,hm2,hm3⟩:=least_of hv hSv
  have hSm:=(hSi m).1 hm2
  have hmin:∀ u,S u=true→m≤u:=fun u hu=>Nat.le_of_not_lt fun h=>hm3 u h hu
  have hCl:Cl es S:=fun e he=>by
    have hb:=hes e he
    have hse:=same_edge he
    rw [Bool.eq_iff_iff,hSi,hSi]
    exact ⟨fun h=>⟨hb.2,h.2.trans hse⟩,fun h=>⟨hb.1,h.2.trans hse.symm⟩⟩
  have hC:∀ p,Cl es p→∀ u w,S u=true→S w=true→p u=p w:=fun p hp u w hu hw =>
    (((hSi u).1 hu).2 p hp).symm.trans (((hSi w).1 hw).2 p hp)
  have hinv:∀ k,RInv n S (rnds es k (idxB n (-1))):=fun k=>rnds_inv hes hCl k (base_inv n S)
  have hlow:∀ k u,S u=true→(m:Int)≤(rnds es k (idxB n (-1))).getD u 0:=fun k u hu=>by
    have h1:=(hinv k).2 u ((hSi u).1 hu).1
    have:=hmin _ (h1.2.2.trans hu)
    omega
  have g:=grow2 S (fun u hu=>((hSi u).1 hu).1) hCl hC (fun k u=>S u && decide ((rnds es k (idxB n (-1))).getD u 0=m)) ⟨m,hm2,by
      show (S m && decide ((idxB n (-1)).getD m 0=m))=true
      rw [hm2,Bool.true_and]
      refine decide_eq_true ?_
      rw [idxB_all,List.getD_eq_getElem?_getD,List.getElem?_map,List.getElem?_range hm1];rfl⟩ (fun k u h=>by
      simp only [Bool.and_eq_true,decide_eq_true_eq] at h ⊢
      have h1:=fold_le es (hinv k).1 hes u
      have h2:=hlow (k+1) u h.1
      rw [rnds_succ] at h2 ⊢
      exact ⟨h.1,by omega⟩) (fun k e he h=>by
      simp only [Bool.and_eq_true,decide_eq_true_eq] at h ⊢
      have hse:=hCl e he
      have hs1:S e.1.toNat=true:=h.elim (fun h=>h.1) (fun h=>hse.trans h.1)
      have hs2:=hse.symm.trans hs1
      have h1:=fold_edge_le es (hinv k).1 hes e he
      have h2:=hlow (k+1) _ hs1
      have h3:=hlow (k+1) _ hs2
      have h4:=hlow k _ hs1
      have h5:=hlow k _ hs2
      rw [rnds_succ] at h2 h3 ⊢
      refine ⟨⟨hs1,?_⟩,hs2,?_⟩ <;> rcases h with h | h <;> omega) n
  have hcS:(List.range n).countP S≤n:=by have:=List.countP_le_length (p:=S) (l:=List.range n);simpa using this
  have hall:∀ u,S u=true→(rtF n es).getD u 0=m:=fun u hu=>by
    refine Classical.byContradiction fun hno=>?_
    have hlt:(List.range n).countP (fun v=>S v && (S v && decide ((rnds es n (idxB n (-1))).getD v 0=m))) < (List.range n).countP S :=
      countP_lt (fun x _ h=>by rw [Bool.and_eq_true] at h;exact h.1) ⟨u,List.mem_range.2 ((hSi u).1 hu).1,by
        rw [decide_eq_false hno];simp,hu⟩
    have:=g.1
    omega
  exact ⟨m,hm1,hSm.2,fun u hu hs=>hmin u ((hSi u).2 ⟨hu,hs⟩),fun u hu hs=>hall u ((hSi u).2 ⟨hu,hs⟩)⟩
theorem rt_same {n:Nat} {es:List (Int×Int)} (hes:∀ e ∈ es,e.1.toNat < n∧e.2.toNat < n) {u v:Nat} (hu:u < n) (hv:v < n):(rtF n es).getD u 0=(rtF n es).getD v 0 ↔ Same es u v:=by
  constructor
  · intro h p hp
    have hi:=rnds_inv hes hp n (base_inv n p)
    rw [← (hi.2 u hu).2.2,← (hi.2 v hv).2.2,h]
  · intro h
    obtain ⟨m,-,-,-,h2⟩:=rt_least hes hu
    rw [h2 u hu (fun _ _=>rfl),h2 v hv h]
def Lb (n:Nat) (es:List (Int×Int)) (r:Nat):Bool:=decide ((rtF n es).getD r 0=r)
theorem compI_cnt (n:Nat) (es:List (Int×Int)):(compI n es).length=(List.range n).countP (Lb n es):=by
  rw [compI_len,rgF,List.drop_zero,← List.countP_eq_length_filter,List.countP_map]
  rfl
theorem Lb_iff {n:Nat} {es:List (Int×Int)} (hes:∀ e ∈ es,e.1.toNat < n∧e.2.toNat < n) {r:Nat} (hr:r < n):Lb n es r=true ↔ ∀ u,u < n→Same es r u→r≤u:=by
  obtain ⟨m,h1,h2,h3,h4⟩:=rt_least hes hr
  have h5:=h4 r hr (fun _ _=>rfl)
  rw [Lb,h5,decide_eq_true_eq]
  constructor
  · intro h u hu hs
    have:=h3 u hu hs
    omega
  · intro h
    have a:=h m h1 h2
    have b:=h3 r hr (fun _ _=>rfl)
    omega
theorem joins {n:Nat} {es fs:List (Int×Int)} (hes:∀ e ∈ es,e.1.toNat < n∧e.2.toNat < n) (hfs:∀ e ∈ fs,e.1.toNat < n∧e.2.toNat < n) (h:∀ u v,Same es u v→Same fs u v) {x y:Nat} (hx:x < n) (hy:y < n) (h1:Same fs x y) (h2:¬ Same es x y) :
    (compI n fs).length < (compI n es).length:=by
  rw [compI_cnt,compI_cnt]
  refine countP_lt (fun r hr hl=>(Lb_iff hes (List.mem_range.1 hr)).2 fun u hu hs=>(Lb_iff hfs (List.mem_range.1 hr)).1 hl u hu (h _ _ hs)) ?_
  obtain ⟨a,a1,a2,a3,a4⟩:=rt_least hes hx
  obtain ⟨b,b1,b2,b3,b4⟩:=rt_least hes hy
  have hab:a ≠ b:=fun hh=>h2 (a2.trans (hh ▸ b2.symm))
  have hs:Same fs a b:=(h _ _ a2.symm).trans (h1.trans (h _ _ b2))
  have key:∀ c d,c < n→d < n→c < d→Same fs d c→(∀ u,u < n→Same es d u→d≤u)→∃ r ∈ List.range n,Lb n fs r=false∧Lb n es r=true:=fun c d hc hd hcd hsd hl =>
    ⟨d,List.mem_range.2 hd,by
      cases hq:Lb n fs d with
      | false=>rfl
      | true=>have:=(Lb_iff hfs hd).1 hq c hc hsd;omega,(Lb_iff hes hd).2 hl⟩
  rcases Nat.lt_or_gt_of_ne hab with hlt | hlt
  · exact key a b a1 b1 hlt hs.symm fun u hu hs2=>b3 u hu (b2.trans hs2)
  · exact key b a b1 a1 hlt hs fun u hu hs2=>a3 u hu (a2.trans hs2)
theorem forest {n:Nat} {es:List (Int×Int)} (hn:es.Nodup) (hes:∀ e ∈ es,e.1.toNat < n∧e.2.toNat < n) (hb:∀ e ∈ es,¬ Same (es.filter fun x=>!decide (x=e)) e.1.toNat e.2.toNat):∀ k,k≤es.length→k+(compI n (es.take k)).length≤n
  | 0,_=>by
    rw [compI_cnt]
    have:=List.countP_le_length (p:=Lb n (es.take 0)) (l:=List.range n)
    simp at this ⊢
    exact this
  | k+1,hk=>by
    have ih:=forest hn hes hb k (by omega)
    have hk2:k < es.length:=by omega
    have hmem:=List.getElem_mem hk2
    have ht:es.take (k+1)=es.take k++[es[k]]:=List.take_succ_eq_append_getElem hk2
    have hno:es[k] ∉ es.take k:=fun h=>by
      obtain ⟨j,hj,hjk⟩:=List.mem_iff_getElem.1 h
      simp only [List.length_take] at hj
      rw [List.getElem_take] at hjk
      have a1:=hn.idxOf_getElem j (by omega)
      have a2:=hn.idxOf_getElem k hk2
      rw [hjk] at a1
      omega
    have hr:∀ e ∈ es.take k,e.1.toNat < n∧e.2.toNat < n:=fun e he=>hes e (List.mem_of_mem_take he)
    have hr2:∀ e ∈ es.take (k+1),e.1.toNat < n∧e.2.toNat < n:=fun e he=>hes e (List.mem_of_mem_take he)
    have hlt:=joins hr hr2 (fun u v h=>h.mono fun e he=>by rw [ht];exact List.mem_append_left _ he) (hes _ hmem).1 (hes _ hmem).2 (same_edge (by rw [ht];exact List.mem_append_right _ (List.mem_singleton.2 rfl))) (fun h=>hb _ hmem (h.mono fun e he=>List.mem_filter.2 ⟨List.mem_of_mem_take he,by
      have:e ≠ es[k]:=fun hh=>hno (hh ▸ he)
      simpa using this⟩))
    omega
theorem con_all {n:Nat} {es:List (Int×Int)} {a:Nat} (h:∀ w,w < n→Same es w a):Con n es:=fun p hp u v hu hv=>(h u hu p hp).trans (h v hv p hp).symm
theorem comp_pos {n:Nat} (hn1:1≤n) {es:List (Int×Int)} (hes:∀ e ∈ es,e.1.toNat < n∧e.2.toNat < n):1≤(compI n es).length:=by
  rw [compI_cnt]
  exact List.countP_pos_iff.2 ⟨0,List.mem_range.2 (by omega),(Lb_iff hes (by omega)).2 fun u _ _=>by omega⟩
theorem find_cycle {n:Nat} (hn1:1≤n) {es:List (Int×Int)} (h:vGraph n es=true) (hC:(compI n es).length ≠ 1) (hc:conn (degs n es)=true):∃ e ∈ es,Same (es.filter fun x=>!decide (x=e)) e.1.toNat e.2.toNat:=by
  have hin:=(vG_iff.1 h).2.1
  have hes:∀ e ∈ es,e.1.toNat < n∧e.2.toNat < n:=fun e he=>by have:=mem_prs.1 (hin e he);omega
  refine Classical.byContradiction fun hno=>?_
  have hf:=forest (pw_nodup (vG_iff.1 h).1) hes (fun e he hs=>hno ⟨e,he,hs⟩) es.length (Nat.le_refl _)
  rw [List.take_length] at hf
  have hp:=comp_pos hn1 hes
  have hdl:(degs n es).length=n:=by rw [degs,dfold_len];simp
  simp only [conn,Bool.and_eq_true,decide_eq_true_eq,degs_sum hin,hdl] at hc
  omega
theorem find_other {n:Nat} {es:List (Int×Int)} (h:vGraph n es=true) (hC:¬ Con n es) (hc:conn (degs n es)=true) {a:Nat} (ha:a < n):∃ f ∈ es,¬ Same es f.1.toNat a:=by
  have hin:=(vG_iff.1 h).2.1
  have hdl:(degs n es).length=n:=by rw [degs,dfold_len];simp
  have hE:EdgesIn n es:=fun e he=>by have:=mem_prs.1 (hin e he);omega
  have hw:∃ w,w < n∧¬ Same es w a:=by
    refine Classical.byContradiction fun hno=>hC (con_all (a:=a) fun w hw=>?_)
    exact Classical.byContradiction fun hs=>hno ⟨w,hw,hs⟩
  obtain ⟨w,hw,hs⟩:=hw
  simp only [conn,Bool.and_eq_true,decide_eq_true_eq,Bool.or_eq_true,hdl] at hc
  have hn1:n ≠ 1:=fun h1=>hs (by
    have e1:w=0:=by omega
    have e2:a=0:=by omega
    rw [e1,e2];exact fun _ _=>rfl)
  have hpos:=hc.2.2.1.resolve_left hn1
  rw [posAll,degs_eq hE,List.all_eq_true] at hpos
  have hd:=hpos _ (List.mem_map.2 ⟨w,List.mem_range.2 hw,rfl⟩)
  simp only [decide_eq_true_eq] at hd
  have hnn:∀ e ∈ es,0≤inc w e:=fun e _=>inc_nonneg w e
  have hex:∃ f ∈ es,inc w f ≠ 0:=by
    refine Classical.byContradiction fun hno=>?_
    have:deg es w=0:=(S_zero_iff hnn).2 fun e he=>Classical.byContradiction fun hx=>hno ⟨e,he,hx⟩
    omega
  obtain ⟨f,hf,hfi⟩:=hex
  refine ⟨f,hf,fun hsf=>hs ?_⟩
  have hb:=mem_prs.1 (hin f hf)
  simp only [inc] at hfi
  by_cases k1:f.1=w
  · rw [show w=f.1.toNat by omega];exact hsf
  · by_cases k2:f.2=w
    · rw [show w=f.2.toNat by omega];exact (same_edge hf).symm.trans hsf
    · rw [if_neg k1,if_neg k2] at hfi;exact absurd rfl hfi
open Classical in
theorem switch_joins {n:Nat} {es:List (Int×Int)} (h:vGraph n es=true) {e f:Int×Int} (he:e ∈ es) (hf:f ∈ es) (hcy:Same (es.filter fun x=>!decide (x=e)) e.1.toNat e.2.toNat) (hoth:¬ Same es f.1.toNat e.1.toNat) :
    mayI es e.1 e.2 f.1 f.2=true∧(compI n (sw es e.1 e.2 f.1 f.2)).length < (compI n es).length:=by
  have hin:=(vG_iff.1 h).2.1
  have hes:∀ e ∈ es,e.1.toNat < n∧e.2.toNat < n:=fun e he=>by have:=mem_prs.1 (hin e he);omega
  have be:=mem_prs.1 (hin e he)
  have bf:=mem_prs.1 (hin f hf)
  have se:=same_edge he
  have sf:=same_edge hf
  have n1:¬ Same es e.1.toNat f.1.toNat:=fun hh=>hoth hh.symm
  have n2:¬ Same es e.1.toNat f.2.toNat:=fun hh=>n1 (hh.trans sf.symm)
  have n3:¬ Same es e.2.toNat f.1.toNat:=fun hh=>n1 (se.trans hh)
  have n4:¬ Same es e.2.toNat f.2.toNat:=fun hh=>n2 (se.trans hh)
  have ne:∀ {x y:Int},¬ Same es x.toNat y.toNat→x ≠ y:=fun hh hxy=>hh (hxy ▸ fun _ _=>rfl)
  have noE:∀ {x y:Int},0≤x→0≤y→¬ Same es x.toNat y.toNat→((min x y,max x y):Int×Int) ∉ es:=fun {x y} hx hy hh hm=>by
    have:=same_edge hm
    rcases Int.le_total x y with hl | hl
    · rw [Int.min_eq_left hl,Int.max_eq_right hl] at this;exact hh this
    · rw [Int.min_eq_right hl,Int.max_eq_left hl] at this;exact hh this.symm
  have me:((min e.1 e.2,max e.1 e.2):Int×Int)=e:=Prod.ext (by simp only;omega) (by simp only;omega)
  have mf:((min f.1 f.2,max f.1 f.2):Int×Int)=f:=Prod.ext (by simp only;omega) (by simp only;omega)
  have hm:mayI es e.1 e.2 f.1 f.2=true:=mayI_iff.2 ⟨⟨by omega,ne n1,ne n2,ne n3,ne n4,by omega⟩,by rw [me];exact he,by rw [mf];exact hf,noE (by omega) (by omega) n1,noE (by omega) (by omega) n4⟩
  refine ⟨hm,?_⟩
  have hv2:=(swX_ok h hm).2.2.1
  have hes2:∀ x ∈ sw es e.1 e.2 f.1 f.2,x.1.toNat < n∧x.2.toNat < n:=fun x hx=>by have:=mem_prs.1 ((vG_iff.1 hv2).2.1 x hx);omega
  have edS:∀ {x y:Int},0≤x→0≤y→∀ {gs:List (Int×Int)},((min x y,max x y):Int×Int) ∈ gs→Same gs x.toNat y.toNat:=fun {x y} hx hy {gs} hm=>by
    have:=same_edge hm
    rcases Int.le_total x y with hl | hl
    · rw [Int.min_eq_left hl,Int.max_eq_right hl] at this;exact this
    · rw [Int.min_eq_right hl,Int.max_eq_left hl] at this;exact this.symm
  have s13:Same (sw es e.1 e.2 f.1 f.2) e.1.toNat f.1.toNat:=edS (by omega) (by omega) (mem_sw.2 (.inr (.inl rfl)))
  have s24:Same (sw es e.1 e.2 f.1 f.2) e.2.toNat f.2.toNat:=edS (by omega) (by omega) (mem_sw.2 (.inr (.inr rfl)))
  refine joins hes hes2 (fun u v hs p hp=>?_) (hes e he).1 (hes f hf).1 s13 n1
  have keep:∀ x ∈ es,x ≠ e→x ≠ f→p x.1.toNat=p x.2.toNat:=fun x hx h1 h2=>hp x (mem_sw.2 (.inl ⟨hx,by rw [me];exact h1,by rw [mf];exact h2⟩))
  have pe:p e.1.toNat=p e.2.toNat:=by
    have hq:Cl (es.filter fun x=>!decide (x=e)) (fun v=>if Same es e.1.toNat v then p v else true):=fun x hx=>by
      have hx2:=List.mem_filter.1 hx
      have hxe:x ≠ e:=by simpa using hx2.2
      have sx:=same_edge hx2.1
      by_cases k:Same es e.1.toNat x.1.toNat
      · have k2:=k.trans sx
        simp only [if_pos k,if_pos k2]
        exact keep x hx2.1 hxe fun hh=>n1 (hh ▸ k)
      · have k2:¬ Same es e.1.toNat x.2.toNat:=fun hh=>k (hh.trans sx.symm)
        simp only [if_neg k,if_neg k2]
    have:=hcy _ hq
    simp only [if_pos (show Same es e.1.toNat e.1.toNat from fun _ _=>rfl),if_pos se] at this
    exact this
  refine hs p fun x hx=>?_
  by_cases h1:x=e
  · rw [h1];exact pe
  · by_cases h2:x=f
    · rw [h2]
      exact (s13 p hp).symm.trans (pe.trans (s24 p hp))
    · exact keep x hx h1 h2
end Go.Idl
namespace Go.Idl
open Go
theorem ev_without_F1 (x:Int×Int) (a b:Int) (B:Boxes) (hB:B[1]? = some [I a,I b]) (Ms:List Boxes):Ev tb zl175 [] [.agg [I x.1,I x.2],.bptr 0 1 0] (B::Ms) ⟨Bo (decide (x=(a,b))),[],B::Ms,[]⟩:=by
  obtain ⟨x1,x2⟩:=x
  have hd:decide (((x1,x2):Int×Int)=(a,b))=(decide (x1=a) && decide (x2=b)):=by simp
  rw [hd]
  by_cases h1:x1=a
  · by_cases h2:x2=b
    · refine call_of_wp zt175 rfl ?_
      repeat (first|apply wp_as|apply wp_ss|refine wr (by simp [hB,h1,h2];with_reducible rfl) ?_|refine wq (by simp [hB,h1,h2];with_reducible rfl) ?_|refine wt (by simpa [hB,h1,h2]) ?_|refine wf (by simpa [hB,h1,h2]) ?_|refine xt (by simpa [hB,h1,h2]) ?_|refine xf (by simpa [hB,h1,h2]) ?_|apply wp_bs|apply wp_b|refine wp_sr ?_|refine wp_sx ?_|refine wp_ret' ?_|refine wp_skip' ?_|refine wp_exit' ?_)
      simp [zi175,h1,h2]
    · refine call_of_wp zt175 rfl ?_
      repeat (first|apply wp_as|apply wp_ss|refine wr (by simp [hB,h1,h2];with_reducible rfl) ?_|refine wq (by simp [hB,h1,h2];with_reducible rfl) ?_|refine wt (by simpa [hB,h1,h2]) ?_|refine wf (by simpa [hB,h1,h2]) ?_|refine xt (by simpa [hB,h1,h2]) ?_|refine xf (by simpa [hB,h1,h2]) ?_|apply wp_bs|apply wp_b|refine wp_sr ?_|refine wp_sx ?_|refine wp_ret' ?_|refine wp_skip' ?_|refine wp_exit' ?_)
      simp [zi175,h1,h2]
  · refine call_of_wp zt175 rfl ?_
    repeat (first|apply wp_as|apply wp_ss|refine wr (by simp [hB,h1];with_reducible rfl) ?_|refine wq (by simp [hB,h1];with_reducible rfl) ?_|refine wt (by simpa [hB,h1]) ?_|refine wf (by simpa [hB,h1]) ?_|refine xt (by simpa [hB,h1]) ?_|refine xf (by simpa [hB,h1]) ?_|apply wp_bs|apply wp_b|refine wp_sr ?_|refine wp_sx ?_|refine wp_ret' ?_|refine wp_skip' ?_|refine wp_exit' ?_)
    simp [zi175,h1]
theorem ev_without (n:Int) (es:List (Int×Int)) (c:Bool) (hl:es.length≤1000) (e:Int×Int):Ev tb zl174 [] [Gr n es c,.agg [I e.1,I e.2]] [] ⟨OG n (es.filter fun x=>!decide (x=e)),[],[],[]⟩:=by
  have e1:=fun c'=>ev_lim (ev_Clone2 2 es c' (.inl rfl) (by omega))
  have e2:=ev_lim (ev_DeleteFuncE es zl175 [.bptr 0 1 0] [[[I n,L2 es c],[I e.1,I e.2],[I 0,Z]]] (fun x=>decide (x=e)) (by omega) (fun bs M' x _=>ev_without_F1 x e.1 e.2 _ rfl _))
  generalize (es.filter fun x=>!decide (x=e))=Q at *
  refine call_of_wp zt174 rfl ?_
  repeat (first|apply wp_as|apply wp_ss|refine wr (by simp;with_reducible rfl) ?_|refine wq (by simp;with_reducible rfl) ?_|refine wt (by simpa) ?_|refine wf (by simpa) ?_|refine xt (by simpa) ?_|refine xf (by simpa) ?_|apply wp_bs|apply wp_b|refine wp_sr ?_|refine wp_sx ?_|refine wp_ret' ?_|refine wp_skip' ?_|refine wp_exit' ?_)
  refine wp_ra (by simp [e1,e2];with_reducible rfl) (by simp;with_reducible rfl) ?_ ?_
  · intro p hp
    simp only [List.mem_cons,List.not_mem_nil,or_false] at hp
    rcases hp with rfl | rfl
    · exact ⟨_,by simp [e1,e2];with_reducible rfl,by simp⟩
    · exact ⟨_,by simp [e1,e2];with_reducible rfl,by simp⟩
  repeat (first|apply wp_as|apply wp_ss|refine wr (by simp;with_reducible rfl) ?_|refine wq (by simp;with_reducible rfl) ?_|refine wt (by simpa) ?_|refine wf (by simpa) ?_|refine xt (by simpa) ?_|refine xf (by simpa) ?_|apply wp_bs|apply wp_b|refine wp_sr ?_|refine wp_sx ?_|refine wp_ret' ?_|refine wp_skip' ?_|refine wp_exit' ?_)
  simp [zi174]
def cyP (n:Nat) (es:List (Int×Int)) (e:Int×Int):Bool:=decide ((rtF n (es.filter fun x=>!decide (x=e))).getD e.1.toNat 0=(rtF n (es.filter fun x=>!decide (x=e))).getD e.2.toNat 0)
theorem ev_cg_F1 (n:Nat) (hn1:1≤n) (es:List (Int×Int)) (hv:vGraph n es=true) (hl:es.length≤1000) (B:Boxes) (hB:B[2]? = some [I n,L2 es false]) (Ms:List Boxes) (e:Int×Int) (he:e ∈ es) :
    Ev tb zl408 [] [.agg [I e.1,I e.2],.bptr 0 2 0] (B::Ms) ⟨Bo (cyP n es e),[],B::Ms,[]⟩:=by
  have hin:=(vG_iff.1 hv).2.1
  have hn7:=(vG_iff.1 hv).2.2
  have hes:∀ x ∈ es.filter (fun x=>!decide (x=e)),0≤x.1∧x.1 < n∧0≤x.2∧x.2 < n:=fun x hx=>by have:=mem_prs.1 (hin x (List.mem_filter.1 hx).1);omega
  have hfl:(es.filter fun x=>!decide (x=e)).length≤1000:=Nat.le_trans (List.length_filter_le _ _) hl
  have e1:=fun c=>ev_lim (ev_without n es c hl e)
  have e2:=fun c=>ev_lim (ev_roots n hn1 hn7 2 (es.filter fun x=>!decide (x=e)) c (.inl rfl) hes hfl)
  have hrl:(rtF n (es.filter fun x=>!decide (x=e))).length=n:=by rw [rtF,rnds_len,idxB_all];simp
  have hb:=mem_prs.1 (hin e he)
  obtain ⟨a,ha⟩:=Int.eq_ofNat_of_zero_le (show 0≤e.1 by omega)
  obtain ⟨b,hb2⟩:=Int.eq_ofNat_of_zero_le (show 0≤e.2 by omega)
  rw [cyP]
  rw [show rnds (es.filter fun x=>!decide (x=e)) n (idxB n (-1))=rtF n (es.filter fun x=>!decide (x=e)) from rfl] at e2
  generalize rtF n (es.filter fun x=>!decide (x=e))=rt at *
  generalize (es.filter fun x=>!decide (x=e))=Q at *
  have hal:a < rt.length:=by omega
  have hbl:b < rt.length:=by omega
  have han:a < n:=by omega
  have hbn:b < n:=by omega
  have ga:rt.getD a 0=rt[a]:=by rw [List.getD_eq_getElem?_getD,List.getElem?_eq_getElem hal];rfl
  have gb:rt.getD b 0=rt[b]:=by rw [List.getD_eq_getElem?_getD,List.getElem?_eq_getElem hbl];rfl
  rw [ha,hb2] at e1 ⊢
  rw [Int.toNat_natCast,Int.toNat_natCast,ga,gb]
  by_cases hq:rt[a]=rt[b]
  · refine call_of_wp zt408 rfl ?_
    repeat (first|apply wp_as|apply wp_ss|refine wr (by simp [hB,e1,e2,hal,hbl,hrl,han,hbn,hq];with_reducible rfl) ?_|refine wq (by simp [hB,e1,e2,hal,hbl,hrl,han,hbn,hq];with_reducible rfl) ?_|refine wt (by simpa [hB,e1,e2,hal,hbl,hrl,han,hbn,hq]) ?_|refine wf (by simpa [hB,e1,e2,hal,hbl,hrl,han,hbn,hq]) ?_|refine xt (by simpa [hB,e1,e2,hal,hbl,hrl,han,hbn,hq]) ?_|refine xf (by simpa [hB,e1,e2,hal,hbl,hrl,han,hbn,hq]) ?_|apply wp_bs|apply wp_b|refine wp_sr ?_|refine wp_sx ?_|refine wp_ret' ?_|refine wp_skip' ?_|refine wp_exit' ?_)
    simp [zi408,hq]
  · refine call_of_wp zt408 rfl ?_
    repeat (first|apply wp_as|apply wp_ss|refine wr (by simp [hB,e1,e2,hal,hbl,hrl,han,hbn,hq];with_reducible rfl) ?_|refine wq (by simp [hB,e1,e2,hal,hbl,hrl,han,hbn,hq];with_reducible rfl) ?_|refine wt (by simpa [hB,e1,e2,hal,hbl,hrl,han,hbn,hq]) ?_|refine wf (by simpa [hB,e1,e2,hal,hbl,hrl,han,hbn,hq]) ?_|refine xt (by simpa [hB,e1,e2,hal,hbl,hrl,han,hbn,hq]) ?_|refine xf (by simpa [hB,e1,e2,hal,hbl,hrl,han,hbn,hq]) ?_|apply wp_bs|apply wp_b|refine wp_sr ?_|refine wp_sx ?_|refine wp_ret' ?_|refine wp_skip' ?_|refine wp_exit' ?_)
    simp [zi408,hq]
def otP (rt:List Int) (a:Int) (f:Int×Int):Bool:=decide (rt.getD f.1.toNat 0 ≠ rt.getD a.toNat 0)
theorem ev_cg_F2 (n:Nat) (rt:List Int) (hrl:rt.length=n) (a b:Int) (ha:0≤a∧a < n) (B:Boxes) (k5 k7:Nat) (c5:Bool) (hB5:B[k5]? = some [L rt c5]) (hB7:B[k7]? = some [I a,I b]) (Ms:List Boxes) (f:Int×Int) (hf:0≤f.1∧f.1 < n) :
    Ev tb zl409 [] [.agg [I f.1,I f.2],.bptr 0 k5 0,.bptr 0 k7 0] (B::Ms) ⟨Bo (otP rt a f),[],B::Ms,[]⟩:=by
  obtain ⟨x,y⟩:=f
  obtain ⟨i,rfl⟩:=Int.eq_ofNat_of_zero_le ha.1
  simp only at hf
  obtain ⟨j,rfl⟩:=Int.eq_ofNat_of_zero_le hf.1
  have hil:i < rt.length:=by omega
  have hjl:j < rt.length:=by omega
  have hin:i < n:=by omega
  have hjn:j < n:=by omega
  have gi:rt.getD i 0=rt[i]:=by rw [List.getD_eq_getElem?_getD,List.getElem?_eq_getElem hil];rfl
  have gj:rt.getD j 0=rt[j]:=by rw [List.getD_eq_getElem?_getD,List.getElem?_eq_getElem hjl];rfl
  rw [otP]
  simp only [Int.toNat_natCast,gi,gj]
  by_cases hq:rt[j]=rt[i]
  · refine call_of_wp zt409 rfl ?_
    repeat (first|apply wp_as|apply wp_ss|refine wr (by simp [hB5,hB7,hil,hjl,hin,hjn,hrl,hq];with_reducible rfl) ?_|refine wq (by simp [hB5,hB7,hil,hjl,hin,hjn,hrl,hq];with_reducible rfl) ?_|refine wt (by simpa [hB5,hB7,hil,hjl,hin,hjn,hrl,hq]) ?_|refine wf (by simpa [hB5,hB7,hil,hjl,hin,hjn,hrl,hq]) ?_|refine xt (by simpa [hB5,hB7,hil,hjl,hin,hjn,hrl,hq]) ?_|refine xf (by simpa [hB5,hB7,hil,hjl,hin,hjn,hrl,hq]) ?_|apply wp_bs|apply wp_b|refine wp_sr ?_|refine wp_sx ?_|refine wp_ret' ?_|refine wp_skip' ?_|refine wp_exit' ?_)
    simp [zi409,hq]
  · refine call_of_wp zt409 rfl ?_
    repeat (first|apply wp_as|apply wp_ss|refine wr (by simp [hB5,hB7,hil,hjl,hin,hjn,hrl,hq];with_reducible rfl) ?_|refine wq (by simp [hB5,hB7,hil,hjl,hin,hjn,hrl,hq];with_reducible rfl) ?_|refine wt (by simpa [hB5,hB7,hil,hjl,hin,hjn,hrl,hq]) ?_|refine wf (by simpa [hB5,hB7,hil,hjl,hin,hjn,hrl,hq]) ?_|refine xt (by simpa [hB5,hB7,hil,hjl,hin,hjn,hrl,hq]) ?_|refine xf (by simpa [hB5,hB7,hil,hjl,hin,hjn,hrl,hq]) ?_|apply wp_bs|apply wp_b|refine wp_sr ?_|refine wp_sx ?_|refine wp_ret' ?_|refine wp_skip' ?_|refine wp_exit' ?_)
    simp [zi409,hq]
end Go.Idl
namespace Go.Idl
open Go
theorem ev_components_0 (es:List (Int×Int)) (c:Bool):Ev tb zl170 [] [Gr 0 es c] [] ⟨Z,[],[],[]⟩:=by
  have e1:limF tb zl212 [] [I 0,I (-1)] []=some ⟨Z,[],[],[]⟩:=ev_lim (ev_indices 0 (-1) (by omega))
  have e2:limF tb zl172 [] [Gr 0 es c] []=some ⟨Z,[],[],[]⟩:=by
    refine ev_lim ?_
    refine call_of_wp zt172 rfl ?_
    repeat (first|apply wp_as|apply wp_ss|refine wr (by simp [e1];with_reducible rfl) ?_|refine wq (by simp [e1];with_reducible rfl) ?_|refine wt (by simpa [e1]) ?_|refine wf (by simpa [e1]) ?_|refine xt (by simpa [e1]) ?_|refine xf (by simpa [e1]) ?_|apply wp_bs|apply wp_b|refine wp_sr ?_|refine wp_sx ?_|refine wp_ret' ?_|refine wp_skip' ?_|refine wp_exit' ?_)
    refine wp_loop ?_
    repeat (first|apply wp_as|apply wp_ss|refine wr (by simp;with_reducible rfl) ?_|refine wq (by simp;with_reducible rfl) ?_|refine wt (by simpa) ?_|refine wf (by simpa) ?_|refine xt (by simpa) ?_|refine xf (by simpa) ?_|apply wp_bs|apply wp_b|refine wp_sr ?_|refine wp_sx ?_|refine wp_ret' ?_|refine wp_skip' ?_|refine wp_exit' ?_)
    simp [zi172]
  have e3:=ev_lim (ev_ClipT [])
  simp only [nlT] at e3
  refine call_of_wp zt170 rfl ?_
  repeat (first|apply wp_as|apply wp_ss|refine wr (by simp [e2];with_reducible rfl) ?_|refine wq (by simp [e2];with_reducible rfl) ?_|refine wt (by simpa [e2]) ?_|refine wf (by simpa [e2]) ?_|refine xt (by simpa [e2]) ?_|refine xf (by simpa [e2]) ?_|apply wp_bs|apply wp_b|refine wp_sr ?_|refine wp_sx ?_|refine wp_ret' ?_|refine wp_skip' ?_|refine wp_exit' ?_)
  refine wp_loop ?_
  repeat (first|apply wp_as|apply wp_ss|refine wr (by simp [e3];with_reducible rfl) ?_|refine wq (by simp [e3];with_reducible rfl) ?_|refine wt (by simpa [e3]) ?_|refine wf (by simpa [e3]) ?_|refine xt (by simpa [e3]) ?_|refine xf (by simpa [e3]) ?_|apply wp_bs|apply wp_b|refine wp_sr ?_|refine wp_sx ?_|refine wp_ret' ?_|refine wp_skip' ?_|refine wp_exit' ?_)
  simp [zi170]
theorem ev_roots_0 (es:List (Int×Int)) (c:Bool):Ev tb zl172 [] [Gr 0 es c] [] ⟨Z,[],[],[]⟩:=by
  have e1:limF tb zl212 [] [I 0,I (-1)] []=some ⟨Z,[],[],[]⟩:=ev_lim (ev_indices 0 (-1) (by omega))
  refine call_of_wp zt172 rfl ?_
  repeat (first|apply wp_as|apply wp_ss|refine wr (by simp [e1];with_reducible rfl) ?_|refine wq (by simp [e1];with_reducible rfl) ?_|refine wt (by simpa [e1]) ?_|refine wf (by simpa [e1]) ?_|refine xt (by simpa [e1]) ?_|refine xf (by simpa [e1]) ?_|apply wp_bs|apply wp_b|refine wp_sr ?_|refine wp_sx ?_|refine wp_ret' ?_|refine wp_skip' ?_|refine wp_exit' ?_)
  refine wp_loop ?_
  repeat (first|apply wp_as|apply wp_ss|refine wr (by simp;with_reducible rfl) ?_|refine wq (by simp;with_reducible rfl) ?_|refine wt (by simpa) ?_|refine wf (by simpa) ?_|refine xt (by simpa) ?_|refine xf (by simpa) ?_|apply wp_bs|apply wp_b|refine wp_sr ?_|refine wp_sx ?_|refine wp_ret' ?_|refine wp_skip' ?_|refine wp_exit' ?_)
  simp [zi172]
theorem ev_ConnectGraph_0 (e0:Nat) (c:Bool) (v1:limF tb zl26 [] [.agg [I 0,.lst e0 [] c]] []=some ⟨Bo true,[],[],[]⟩):Ev tb zl153 [] [.agg [I 0,.lst e0 [] c]] [] ⟨.tup [.agg [I 0,Z],Bo false],[],[],[]⟩:=by
  have e1:=ev_lim (ev_clone2 e0 [] c (.inr rfl) (by simp))
  have e2:=fun c=>ev_lim (ev_components_0 [] c)
  have e3:=fun c=>ev_lim (ev_roots_0 [] c)
  have e4:=fun cc=>ev_lim (ev_IndexFuncE 2 [] cc (.inl rfl) zl408 [.bptr 0 2 0] [[[I 0,.lst e0 [] c],[I 0,Z],[I 0,.lst 2 [] false],[Z]]] (fun _=>false) (by simp) (fun x hx=>by cases hx))
  rw [show idxE (fun _=>false) 0 []=-1 from rfl] at e4
  simp only [O2,Gr,L2,eds_nil] at e1 e2 e3 e4
  refine call_of_wp zt153 rfl ?_
  repeat (first|apply wp_as|apply wp_ss|refine wr (by simp [v1];with_reducible rfl) ?_|refine wq (by simp [v1];with_reducible rfl) ?_|refine wt (by simpa [v1]) ?_|refine wf (by simpa [v1]) ?_|refine xt (by simpa [v1]) ?_|refine xf (by simpa [v1]) ?_|apply wp_bs|apply wp_b|refine wp_sr ?_|refine wp_sx ?_|refine wp_ret' ?_|refine wp_skip' ?_|refine wp_exit' ?_)
  refine wp_rds0 rfl (by simp [e1];with_reducible rfl) (by simp;with_reducible rfl) ?_
  repeat (first|apply wp_as|apply wp_ss|refine wr (by simp;with_reducible rfl) ?_|refine wq (by simp;with_reducible rfl) ?_|refine wt (by simpa) ?_|refine wf (by simpa) ?_|refine xt (by simpa) ?_|refine xf (by simpa) ?_|apply wp_bs|apply wp_b|refine wp_sr ?_|refine wp_sx ?_|refine wp_ret' ?_|refine wp_skip' ?_|refine wp_exit' ?_)
  refine wp_loop ?_
  repeat (first|apply wp_as|apply wp_ss|refine wr (by simp [e2,e3,e4];with_reducible rfl) ?_|refine wq (by simp [e2,e3,e4];with_reducible rfl) ?_|refine wt (by simpa [e2,e3,e4]) ?_|refine wf (by simpa [e2,e3,e4]) ?_|refine xt (by simpa [e2,e3,e4]) ?_|refine xf (by simpa [e2,e3,e4]) ?_|apply wp_bs|apply wp_b|refine wp_sr ?_|refine wp_sx ?_|refine wp_ret' ?_|refine wp_skip' ?_|refine wp_exit' ?_)
  simp [zi153]
end Go.Idl
namespace Go.Idl
open Classical in
theorem cmpS_same {n:Nat} {es:List (Int×Int)} (hes:∀ e ∈ es,e.1.toNat < n∧e.2.toNat < n) {v u:Nat} (hv:v < n) (hu:u < n):(u:Int) ∈ cmpS n es v ↔ Same es v u:=by
  have hlen:∀ k,(mrks es k ((List.replicate n false).set v true)).length=n:=fun k=>by rw [mrks_len];simp
  rw [cmpS,List.mem_filter]
  constructor
  · rintro ⟨-,h2⟩ p hp
    have h3:=mrks_cls (v:=v) hes hp n (l:=(List.replicate n false).set v true) (by simp) (fun w hw=>by rw [start_get hv,decide_eq_true_eq] at hw;rw [hw]) u (by simpa using h2)
    exact h3.symm
  · intro h
    refine ⟨mem_rgF.2 ⟨by omega,by omega⟩,?_⟩
    obtain ⟨S,hS⟩:∃ S:Nat→Bool,S=fun u=>decide (u < n∧Same es v u):=⟨_,rfl⟩
    have hSi:∀ u,S u=true ↔ u < n∧Same es v u:=fun u=>by rw [hS];exact decide_eq_true_iff
    have hSv:S v=true:=(hSi v).2 ⟨hv,fun _ _=>rfl⟩
    have hCl:Cl es S:=fun e he=>by
      have hb:=hes e he
      have hse:=same_edge he
      rw [Bool.eq_iff_iff,hSi,hSi]
      exact ⟨fun h=>⟨hb.2,h.2.trans hse⟩,fun h=>⟨hb.1,h.2.trans hse.symm⟩⟩
    have hC:∀ p,Cl es p→∀ u w,S u=true→S w=true→p u=p w:=fun p hp u w hu hw =>
      (((hSi u).1 hu).2 p hp).symm.trans (((hSi w).1 hw).2 p hp)
    have g:=grow2 S (fun u hu=>((hSi u).1 hu).1) hCl hC (fun k u=>(mrks es k ((List.replicate n false).set v true)).getD u false) ⟨v,hSv,by
        show ((List.replicate n false).set v true).getD v false=true
        rw [start_get hv];simp⟩ (fun k u h=>by
        show (mrks es (k+1) ((List.replicate n false).set v true)).getD u false=true
        rw [mrks_succ];exact fold_keep es h) (fun k e he h=>by
        show (mrks es (k+1) ((List.replicate n false).set v true)).getD e.1.toNat false=true∧(mrks es (k+1) ((List.replicate n false).set v true)).getD e.2.toNat false=true
        rw [mrks_succ];exact foldm_edge es (hlen k) hes e he h) n
    have hcS:(List.range n).countP S≤n:=by have:=List.countP_le_length (p:=S) (l:=List.range n);simpa using this
    refine Classical.byContradiction fun hno=>?_
    have hlt:(List.range n).countP (fun u=>S u && (mrks es n ((List.replicate n false).set v true)).getD u false) < (List.range n).countP S :=
      countP_lt (fun x _ h=>by rw [Bool.and_eq_true] at h;exact h.1) ⟨u,List.mem_range.2 hu,by
        have:(mrks es n ((List.replicate n false).set v true)).getD u false=false:=by simpa using hno
        rw [this];simp,(hSi u).2 ⟨hu,h⟩⟩
    have:=g.1
    omega
theorem cmpsS_pos {n:Nat} (hn1:1≤n) {es:List (Int×Int)} (hes:∀ e ∈ es,e.1.toNat < n∧e.2.toNat < n):1≤(cmpsS n es 0).length:=by
  rw [cmpsS_len]
  refine List.length_pos_of_mem (a:=0) (List.mem_filter.2 ⟨mem_rgF.2 ⟨by omega,by omega⟩,?_⟩)
  have hm:=mem_cmpS (n:=n) (es:=es) (v:=0) (by omega)
  have hpw:=cmpS_pw n es 0
  rw [hdV,show (0:Int).toNat=0 from rfl,decide_eq_true_eq]
  cases hC:cmpS n es 0 with
  | nil=>rw [hC] at hm;cases hm
  | cons y ys =>
    rw [hC] at hm hpw
    have hy:y ∈ cmpS n es 0:=by rw [hC];simp
    have hb:=mem_rgF.1 (List.mem_filter.1 (by rw [cmpS] at hy;exact hy)).1
    show y=0
    rcases List.mem_cons.1 hm with h | h
    · exact h.symm
    · have:=(List.pairwise_cons.1 hpw).1 _ h
      omega
end Go.Idl
namespace Go.Idl
open Go
def jnE (n:Nat) (es:List (Int×Int)):Option ((Int×Int)×(Int×Int)):=match es.find? (cyP n es) with
  | none=>none
  | some e=>(es.find? (otP (rtF n es) e.1)).map fun f=>(e,f)
def jnF (n:Nat):Nat→List (Int×Int)→Option (List (Int×Int))
  | 0,_=>none
  | m+1,es=>if (compI n es).length=1 then some es else match jnE n es with
    | none=>none
    | some (e,f)=>jnF n m (sw es e.1 e.2 f.1 f.2)
theorem find_at {α:Type} {p:α→Bool}:∀ {xs:List α} {k:Nat} (hk:k < xs.length),p xs[k]=true→(∀ x ∈ xs.take k,p x=false)→xs.find? p=some xs[k]
  | x::xs,0,_,h,_=>by rw [List.find?_cons];simp only [List.getElem_cons_zero] at h;rw [h];rfl
  | x::xs,k+1,hk,h,hn=>by
    rw [List.find?_cons,hn x (by simp)]
    exact find_at (by simpa using hk) (by simpa using h) (fun y hy=>hn y (by simp [hy]))
theorem find_none' {α:Type} {p:α→Bool} {xs:List α} (h:∀ x ∈ xs,p x=false):xs.find? p=none:=List.find?_eq_none.2 fun x hx=>by simp [h x hx]
theorem jnE_ok {n:Nat} {es:List (Int×Int)} (hv:vGraph n es=true) {e f:Int×Int} (h:jnE n es=some (e,f)) :
    e ∈ es∧f ∈ es∧mayI es e.1 e.2 f.1 f.2=true∧vGraph n (sw es e.1 e.2 f.1 f.2)=true∧degs n (sw es e.1 e.2 f.1 f.2)=degs n es∧(compI n (sw es e.1 e.2 f.1 f.2)).length < (compI n es).length:=by
  have hes:∀ e ∈ es,e.1.toNat < n∧e.2.toNat < n:=fun e he=>by have:=mem_prs.1 ((vG_iff.1 hv).2.1 e he);omega
  rw [jnE] at h
  cases h1:es.find? (cyP n es) with
  | none=>rw [h1] at h;cases h
  | some e' =>
    rw [h1] at h
    simp only [Option.map_eq_some_iff] at h
    obtain ⟨f',h2,h3⟩:=h
    cases h3
    have m1:=List.mem_of_find?_eq_some h1
    have m2:=List.mem_of_find?_eq_some h2
    have p1:=List.find?_some h1
    have p2:=List.find?_some h2
    have hsm:Same (es.filter fun x=>!decide (x=e)) e.1.toNat e.2.toNat:=by
      rw [cyP,decide_eq_true_eq] at p1
      exact (rt_same (fun x hx=>hes x (List.mem_filter.1 hx).1) (hes _ m1).1 (hes _ m1).2).1 p1
    have hns:¬ Same es f.1.toNat e.1.toNat:=fun h=>by
      rw [otP,decide_eq_true_eq] at p2
      exact p2 ((rt_same hes (hes _ m2).1 (hes _ m1).1).2 h)
    obtain ⟨hmay,hlt⟩:=switch_joins hv m1 m2 hsm hns
    exact ⟨m1,m2,hmay,(swX_ok hv hmay).2.2.1,sw_degs hv hmay,hlt⟩
theorem jnE_none {n:Nat} (hn1:1≤n) {es:List (Int×Int)} (hv:vGraph n es=true) (hc:(compI n es).length ≠ 1) (h:jnE n es=none):conn (degs n es)=false:=by
  have hes:∀ e ∈ es,e.1.toNat < n∧e.2.toNat < n:=fun e he=>by have:=mem_prs.1 ((vG_iff.1 hv).2.1 e he);omega
  have hnc:¬ Con n es:=fun h=>hc ((compI_one hn1 hes).2 h)
  cases hcn:conn (degs n es) with
  | false=>rfl
  | true =>
    rw [jnE] at h
    cases h1:es.find? (cyP n es) with
    | none =>
      obtain ⟨e,he,hs⟩:=find_cycle hn1 hv hc hcn
      have:=List.find?_eq_none.1 h1 e he
      rw [cyP,decide_eq_true_eq] at this
      have hb:=hes e he
      exact absurd ((rt_same (fun x hx=>hes x (List.mem_filter.1 hx).1) hb.1 hb.2).2 hs) this
    | some e =>
      rw [h1] at h
      simp only [Option.map_eq_none_iff] at h
      have m1:=List.mem_of_find?_eq_some h1
      obtain ⟨f,hf,hs⟩:=find_other hv hnc hcn (hes _ m1).1
      have:=List.find?_eq_none.1 h f hf
      rw [otP,decide_eq_true_eq,Classical.not_not] at this
      exact absurd ((rt_same hes (hes f hf).1 (hes _ m1).1).1 this) hs
theorem jnF_ok {n:Nat} (hn1:1≤n):∀ (m:Nat) (es:List (Int×Int)),(compI n es).length≤m→vGraph n es=true →
    (∀ es',jnF n m es=some es'→vGraph n es'=true∧(compI n es').length=1∧degs n es'=degs n es)∧(jnF n m es=none→conn (degs n es)=false)
  | 0,es,hm,hv=>by
    have hes:∀ e ∈ es,e.1.toNat < n∧e.2.toNat < n:=fun e he=>by have:=mem_prs.1 ((vG_iff.1 hv).2.1 e he);omega
    have:=comp_pos hn1 hes
    omega
  | m+1,es,hm,hv=>by
    rw [jnF]
    by_cases hc:(compI n es).length=1
    · rw [if_pos hc]
      exact ⟨fun es' h=>(by cases h;exact ⟨hv,hc,rfl⟩),fun h=>(by cases h)⟩
    · rw [if_neg hc]
      cases hE:jnE n es with
      | none=>exact ⟨fun es' h=>(by cases h),fun _=>jnE_none hn1 hv hc hE⟩
      | some q =>
        obtain ⟨e,f⟩:=q
        obtain ⟨-,-,-,k1,k2,k3⟩:=jnE_ok hv hE
        have ih:=jnF_ok hn1 m _ (by omega) k1
        rw [k2] at ih
        exact ih
set_option maxHeartbeats 4000000 in
theorem cnX_loop (n:Nat) (hn1:1≤n) (G0:List IV):∀ (m:Nat) (es:List (Int×Int)) (B:Boxes),(compI n es).length≤m→vGraph n es=true →
    wp tb (.loop z153l15) { T:=[(2,.bptr 0 1 0),(4,.bptr 0 2 0)],loc:=G0::[I 0,Z]::[I n,O2 es]::B,M:=[] }
      (fun ex st=>match jnF n m es with
        | some es'=>ex=.exit 0∧∃ B',st={ T:=[(2,.bptr 0 1 0),(4,.bptr 0 2 0),(23,Bo false)],loc:=G0::[I 0,Z]::[I n,O2 es']::B',M:=[] }
        | none=>ex=.ret∧∃ B',st={ T:=[(2,.bptr 0 1 0),(3,Bo false)],loc:=G0::[I 0,Z]::B',M:=[] }):=by
  intro m
  induction m with
  | zero =>
    intro es B hm hv
    have hes:∀ e ∈ es,e.1.toNat < n∧e.2.toNat < n:=fun e he=>by have:=mem_prs.1 ((vG_iff.1 hv).2.1 e he);omega
    have:=comp_pos hn1 hes
    omega
  | succ m ih =>
    intro es B hm hv
    have hin:=(vG_iff.1 hv).2.1
    have hn7:=(vG_iff.1 hv).2.2
    have h21:=vG21 hn7 hv
    have hes:∀ e ∈ es,e.1.toNat < n∧e.2.toNat < n:=fun e he=>by have:=mem_prs.1 (hin e he);omega
    have hes4:∀ e ∈ es,0≤e.1∧e.1 < n∧0≤e.2∧e.2 < n:=fun e he=>by have:=mem_prs.1 (hin e he);omega
    have hpos:=comp_pos hn1 hes
    have e1:=fun c=>ev_lim (ev_components n hn1 hn7 2 es c (.inl rfl) hes4 (by omega))
    obtain ⟨p,P,hP⟩:∃ p P,compI n es=p::P:=by
      cases hq:compI n es with
      | nil=>rw [hq] at hpos;simp at hpos
      | cons p P=>exact ⟨p,P,rfl⟩
    rw [hP] at e1
    simp only [nlT] at e1
    by_cases hc:(compI n es).length=1
    · have hP0:P=[]:=by rw [hP] at hc;simpa using hc
      rw [jnF,if_pos hc]
      subst hP0
      refine wp_loop ?_
      repeat (first|apply wp_as|apply wp_ss|refine wr (by simp [e1];with_reducible rfl) ?_|refine wq (by simp [e1];with_reducible rfl) ?_|refine wt (by simpa [e1]) ?_|refine wf (by simpa [e1]) ?_|refine xt (by simpa [e1]) ?_|refine xf (by simpa [e1]) ?_|apply wp_bs|apply wp_b|refine wp_sr ?_|refine wp_sx ?_|refine wp_ret' ?_|refine wp_skip' ?_|refine wp_exit' ?_)
      exact ⟨rfl,B,rfl⟩
    · have hPl:¬ P.length=0:=fun h=>hc (by rw [hP];simp [h])
      have hPl2:¬ (P.length:Int)+1=1:=by omega
      have hPl3:¬ P=[]:=fun h=>hPl (by rw [h];rfl)
      have e2:=fun c=>ev_lim (ev_roots n hn1 hn7 2 es c (.inl rfl) hes4 (by omega))
      rw [show rnds es n (idxB n (-1))=rtF n es from rfl] at e2
      have hrl:(rtF n es).length=n:=by rw [rtF,rnds_len,idxB_all];simp
      have e3:=fun c cc B1=>ev_lim (ev_IndexFuncE 2 es c (.inl rfl) zl408 [.bptr 0 2 0] [G0::[I 0,Z]::[I n,L2 es false]::(B++[[L (rtF n es) cc]]++B1)] (cyP n es) (by omega) (fun x hx=>ev_cg_F1 n hn1 es hv (by omega) _ rfl [[]] x hx))
      rw [jnF,if_neg hc]
      rcases idxE_spec (cyP n es) es 0 with ⟨k1,k2⟩ | ⟨k,hk,k1,k2,k3⟩
      · rw [show ((0:Nat):Int)=0 from rfl] at k1
        have e3:=fun c cc=>e3 c cc []
        simp only [k1,List.append_nil] at e3
        have hE:jnE n es=none:=by rw [jnE,find_none' k2]
        rw [hE]
        refine wp_loop ?_
        repeat (first|apply wp_as|apply wp_ss|refine wr (by simp [e1,hPl,hPl2,hPl3,e2,e3];with_reducible rfl) ?_|refine wq (by simp [e1,hPl,hPl2,hPl3,e2,e3];with_reducible rfl) ?_|refine wt (by simpa [e1,hPl,hPl2,hPl3,e2,e3]) ?_|refine wf (by simpa [e1,hPl,hPl2,hPl3,e2,e3]) ?_|refine xt (by simpa [e1,hPl,hPl2,hPl3,e2,e3]) ?_|refine xf (by simpa [e1,hPl,hPl2,hPl3,e2,e3]) ?_|apply wp_bs|apply wp_b|refine wp_sr ?_|refine wp_sx ?_|refine wp_ret' ?_|refine wp_skip' ?_|refine wp_exit' ?_)
        exact ⟨rfl,_,rfl⟩
      · rw [show ((0:Nat):Int)=0 from rfl,Nat.zero_add] at k1
        have e3:=fun c cc=>e3 c cc []
        simp only [k1,List.append_nil] at e3
        have hkn:¬ (k:Int) < 0:=by omega
        have hF:=find_at hk k2 k3
        obtain ⟨⟨a,b⟩,hab⟩:∃ e,e=es[k]:=⟨_,rfl⟩
        have hab2:=hab.symm
        have heM:((a,b):Int×Int) ∈ es:=by rw [hab];exact List.getElem_mem hk
        have hbe:=hes4 _ heM
        simp only at hbe
        rw [← hab] at hF
        have e4:=fun c cc=>ev_lim (ev_IndexFuncE 2 es c (.inl rfl) zl409 [.bptr 0 (B.length+1+1+1) 0,.bptr 0 (B.length+1+1+1+1) 0] [G0::[I 0,Z]::[I n,L2 es false]::(B++[[L (rtF n es) cc],[I a,I b]])] (otP (rtF n es) a) (by omega) (fun x hx=>ev_cg_F2 n (rtF n es) hrl a b ⟨hbe.1,hbe.2.1⟩ _ _ _ cc (by simp) (by simp) [[]] x (by have:=hes4 x hx;omega)))
        rcases idxE_spec (otP (rtF n es) a) es 0 with ⟨j1,j2⟩ | ⟨j,hj,j1,j2,j3⟩
        · rw [show ((0:Nat):Int)=0 from rfl] at j1
          simp only [j1] at e4
          have hE:jnE n es=none:=by rw [jnE,hF];simp only [find_none' j2];rfl
          rw [hE]
          refine wp_loop ?_
          repeat (first|apply wp_as|apply wp_ss|refine wr (by simp [e1,hPl,hPl2,hPl3,e2,e3,hkn,hk,hab2,e4];with_reducible rfl) ?_|refine wq (by simp [e1,hPl,hPl2,hPl3,e2,e3,hkn,hk,hab2,e4];with_reducible rfl) ?_|refine wt (by simpa [e1,hPl,hPl2,hPl3,e2,e3,hkn,hk,hab2,e4]) ?_|refine wf (by simpa [e1,hPl,hPl2,hPl3,e2,e3,hkn,hk,hab2,e4]) ?_|refine xt (by simpa [e1,hPl,hPl2,hPl3,e2,e3,hkn,hk,hab2,e4]) ?_|refine xf (by simpa [e1,hPl,hPl2,hPl3,e2,e3,hkn,hk,hab2,e4]) ?_|apply wp_bs|apply wp_b|refine wp_sr ?_|refine wp_sx ?_|refine wp_ret' ?_|refine wp_skip' ?_|refine wp_exit' ?_)
          exact ⟨rfl,_,rfl⟩
        · rw [show ((0:Nat):Int)=0 from rfl,Nat.zero_add] at j1
          simp only [j1] at e4
          have hjn:¬ (j:Int) < 0:=by omega
          have hG:=find_at hj j2 j3
          obtain ⟨⟨c,d⟩,hcd⟩:∃ e,e=es[j]:=⟨_,rfl⟩
          have hcd2:=hcd.symm
          rw [← hcd] at hG
          have hE:jnE n es=some ((a,b),(c,d)):=by rw [jnE,hF];simp only [hG];rfl
          obtain ⟨-,-,hmay,hv2,-,hlt⟩:=jnE_ok hv hE
          rw [hE]
          simp only at hmay hlt hv2 ⊢
          have e5:=fun cc=>ev_lim (ev_change n es cc a b c d hv)
          simp only [OS,hmay,if_true] at e5
          have hn:=fun B=>ih (sw es a b c d) B (by omega) hv2
          generalize sw es a b c d=R at *
          refine wp_loop ?_
          repeat (first|apply wp_as|apply wp_ss|refine wr (by simp [e1,hPl,hPl2,hPl3,e2,e3,hkn,hk,hab2,e4,hjn,hj,hcd2,e5];with_reducible rfl) ?_|refine wq (by simp [e1,hPl,hPl2,hPl3,e2,e3,hkn,hk,hab2,e4,hjn,hj,hcd2,e5];with_reducible rfl) ?_|refine wt (by simpa [e1,hPl,hPl2,hPl3,e2,e3,hkn,hk,hab2,e4,hjn,hj,hcd2,e5]) ?_|refine wf (by simpa [e1,hPl,hPl2,hPl3,e2,e3,hkn,hk,hab2,e4,hjn,hj,hcd2,e5]) ?_|refine xt (by simpa [e1,hPl,hPl2,hPl3,e2,e3,hkn,hk,hab2,e4,hjn,hj,hcd2,e5]) ?_|refine xf (by simpa [e1,hPl,hPl2,hPl3,e2,e3,hkn,hk,hab2,e4,hjn,hj,hcd2,e5]) ?_|apply wp_bs|apply wp_b|refine wp_sr ?_|refine wp_sx ?_|refine wp_ret' ?_|refine wp_skip' ?_|refine wp_exit' ?_)
          exact hn _
theorem ev_ConnectGraphX (n:Nat) (hn1:1≤n) (es:List (Int×Int)) (c:Bool) (hv:vGraph n es=true) :
    Ev tb zl153 [] [Gr n es c] [] ⟨match jnF n (compI n es).length es with | some es'=>.tup [OG n es',Bo true] | none=>.tup [.agg [I 0,Z],Bo false],[],[],[]⟩:=by
  have hn7:=(vG_iff.1 hv).2.2
  have h21:=vG21 hn7 hv
  have hf:Fit es:=fun e he=>by have:=mem_prs.1 ((vG_iff.1 hv).2.1 e he);omega
  have v1:=fun c=>ev_lim (ev_ValidGraph n es c hf (by omega))
  rw [hv] at v1
  have e1:=fun c=>ev_lim (ev_clone2 2 es c (.inl rfl) (by omega))
  have loop:=cnX_loop n hn1 [I n,L2 es c] (compI n es).length es [] (Nat.le_refl _) hv
  cases hF:jnF n (compI n es).length es with
  | none =>
    simp only [hF] at loop
    refine call_of_wp zt153 rfl ?_
    repeat (first|apply wp_as|apply wp_ss|refine wr (by simp [v1];with_reducible rfl) ?_|refine wq (by simp [v1];with_reducible rfl) ?_|refine wt (by simpa [v1]) ?_|refine wf (by simpa [v1]) ?_|refine xt (by simpa [v1]) ?_|refine xf (by simpa [v1]) ?_|apply wp_bs|apply wp_b|refine wp_sr ?_|refine wp_sx ?_|refine wp_ret' ?_|refine wp_skip' ?_|refine wp_exit' ?_)
    refine wp_rds0 rfl (by simp [e1];with_reducible rfl) (by simp;with_reducible rfl) ?_
    repeat (first|apply wp_as|apply wp_ss|refine wr (by simp;with_reducible rfl) ?_|refine wq (by simp;with_reducible rfl) ?_|refine wt (by simpa) ?_|refine wf (by simpa) ?_|refine xt (by simpa) ?_|refine xf (by simpa) ?_|apply wp_bs|apply wp_b|refine wp_sr ?_|refine wp_sx ?_|refine wp_ret' ?_|refine wp_skip' ?_|refine wp_exit' ?_)
    refine wp_imp loop ?_
    rintro ex st ⟨rfl,B',rfl⟩
    simp [zi153]
  | some es' =>
    simp only [hF] at loop
    refine call_of_wp zt153 rfl ?_
    repeat (first|apply wp_as|apply wp_ss|refine wr (by simp [v1];with_reducible rfl) ?_|refine wq (by simp [v1];with_reducible rfl) ?_|refine wt (by simpa [v1]) ?_|refine wf (by simpa [v1]) ?_|refine xt (by simpa [v1]) ?_|refine xf (by simpa [v1]) ?_|apply wp_bs|apply wp_b|refine wp_sr ?_|refine wp_sx ?_|refine wp_ret' ?_|refine wp_skip' ?_|refine wp_exit' ?_)
    refine wp_rds0 rfl (by simp [e1];with_reducible rfl) (by simp;with_reducible rfl) ?_
    repeat (first|apply wp_as|apply wp_ss|refine wr (by simp;with_reducible rfl) ?_|refine wq (by simp;with_reducible rfl) ?_|refine wt (by simpa) ?_|refine wf (by simpa) ?_|refine xt (by simpa) ?_|refine xf (by simpa) ?_|apply wp_bs|apply wp_b|refine wp_sr ?_|refine wp_sx ?_|refine wp_ret' ?_|refine wp_skip' ?_|refine wp_exit' ?_)
    refine wp_imp loop ?_
    rintro ex st ⟨rfl,B',rfl⟩
    simp only [if_true]
    repeat (first|apply wp_as|apply wp_ss|refine wr (by simp;with_reducible rfl) ?_|refine wq (by simp;with_reducible rfl) ?_|refine wt (by simpa) ?_|refine wf (by simpa) ?_|refine xt (by simpa) ?_|refine xf (by simpa) ?_|apply wp_bs|apply wp_b|refine wp_sr ?_|refine wp_sx ?_|refine wp_ret' ?_|refine wp_skip' ?_|refine wp_exit' ?_)
    simp [zi153]
theorem dropE_filter {n:Nat} {es:List (Int×Int)} (hv:vGraph n es=true) {a b:Int} (he:(a,b) ∈ es):dropE a b es=es.filter fun x=>!decide (x=(a,b)):=by
  have hb:=mem_prs.1 ((vG_iff.1 hv).2.1 _ he)
  simp only at hb
  rw [dropE,show min a b=a by omega,show max a b=b by omega]
  refine List.filter_congr fun x _=>?_
  rw [dropP,← Bool.decide_and]
  congr 1
  rw [decide_eq_decide,Prod.ext_iff]
theorem has_cmp {n:Nat} {es:List (Int×Int)} (hes:∀ e ∈ es,0≤e.1∧e.1 < n∧0≤e.2∧e.2 < n) {v u:Int} (hv:0≤v∧v < n) (hu:0≤u∧u < n):decide (u ∈ cmpS n es v.toNat)=decide ((rtF n es).getD u.toNat 0=(rtF n es).getD v.toNat 0):=by
  have hes':∀ e ∈ es,e.1.toNat < n∧e.2.toNat < n:=fun e he=>by have:=hes e he;omega
  have h1:=cmpS_same hes' (v:=v.toNat) (u:=u.toNat) (by omega) (by omega)
  have h2:=rt_same hes' (u:=u.toNat) (v:=v.toNat) (by omega) (by omega)
  rw [show ((u.toNat:Nat):Int)=u by omega] at h1
  rw [decide_eq_decide,h1,h2]
  exact ⟨fun h=>h.symm,fun h=>h.symm⟩
theorem ev_isBridge (n:Nat) (es:List (Int×Int)) (c:Bool) (hv:vGraph n es=true) (a b:Int) (he:(a,b) ∈ es) :
    Ev tb zl354 [] [Gr n es c,.agg [I a,I b]] [] ⟨Bo (!cyP n es (a,b)),[],[],[]⟩:=by
  have hn7:=(vG_iff.1 hv).2.2
  have h21:=vG21 hn7 hv
  have hes4:∀ e ∈ es,0≤e.1∧e.1 < n∧0≤e.2∧e.2 < n:=fun e he=>by have:=mem_prs.1 ((vG_iff.1 hv).2.1 e he);omega
  have hb:=hes4 _ he
  simp only at hb
  have hd:=dropE_filter hv he
  have hdl:(dropE a b es).length≤es.length:=dropE_len a b es
  have hde:∀ e ∈ dropE a b es,0≤e.1∧e.1 < n∧0≤e.2∧e.2 < n:=fun e he=>hes4 e (by rw [hd] at he;exact (List.mem_filter.1 he).1)
  have hcy:cyP n es (a,b)=decide (b ∈ cmpS n (dropE a b es) a.toNat):=by
    rw [has_cmp hde ⟨hb.1,hb.2.1⟩ ⟨hb.2.2.1,hb.2.2.2⟩,cyP,hd,decide_eq_decide]
    exact ⟨fun h=>h.symm,fun h=>h.symm⟩
  rw [hcy]
  obtain ⟨p,rfl⟩:=Int.eq_ofNat_of_zero_le hb.1
  have e1:=fun c=>ev_lim (ev_dropEdge n es c (p:Int) b (by omega))
  have e2:=fun c=>ev_lim (ev_component n hn7 (dropE p b es) c hde (by omega) p (by omega))
  have hcl:(cmpS n (dropE p b es) p).length≤1000:=by
    have h1:(cmpS n (dropE p b es) p).length≤(rgF n 0).length:=List.length_filter_le _ _
    have h2:(rgF n 0).length=n:=by simp [rgF]
    omega
  rw [Int.toNat_natCast]
  have e3:=fun c=>ev_lim (ev_hasInt (cmpS n (dropE p b es) p) c b (by omega))
  generalize cmpS n (dropE p b es) p=C at *
  generalize dropE p b es=D at *
  refine call_of_wp zt354 rfl ?_
  repeat (first|apply wp_as|apply wp_ss|refine wr (by simp;with_reducible rfl) ?_|refine wq (by simp;with_reducible rfl) ?_|refine wt (by simpa) ?_|refine wf (by simpa) ?_|refine xt (by simpa) ?_|refine xf (by simpa) ?_|apply wp_bs|apply wp_b|refine wp_sr ?_|refine wp_sx ?_|refine wp_ret' ?_|refine wp_skip' ?_|refine wp_exit' ?_)
  refine wp_ra (by simp [e1,e2,e3];with_reducible rfl) (by simp;with_reducible rfl) ?_ ?_
  · intro p hp
    simp only [List.mem_cons,List.not_mem_nil,or_false] at hp
    rcases hp with rfl | rfl | rfl | rfl | rfl
    · exact ⟨_,by simp [e1,e2,e3];with_reducible rfl,by simp⟩
    · exact ⟨_,by simp [e1,e2,e3];with_reducible rfl,by simp⟩
    · exact ⟨_,by simp [e1,e2,e3];with_reducible rfl,by simp⟩
    · exact ⟨_,by simp [e1,e2,e3];with_reducible rfl,by simp⟩
    · exact ⟨_,by simp [e1,e2,e3];with_reducible rfl,by simp⟩
  repeat (first|apply wp_as|apply wp_ss|refine wr (by simp;with_reducible rfl) ?_|refine wq (by simp;with_reducible rfl) ?_|refine wt (by simpa) ?_|refine wf (by simpa) ?_|refine xt (by simpa) ?_|refine xf (by simpa) ?_|apply wp_bs|apply wp_b|refine wp_sr ?_|refine wp_sx ?_|refine wp_ret' ?_|refine wp_skip' ?_|refine wp_exit' ?_)
  simp [zi354]
def jsF (n:Nat) (es:List (Int×Int)):List (Int×Int)→Option ((Int×Int)×(Int×Int))
  | []=>none
  | e::r=>if cyP n es e=true then (match es.find? (otP (rtF n es) e.1) with | some f=>some (e,f) | none=>jsF n es r) else jsF n es r
theorem jsF_none {n:Nat} {es:List (Int×Int)} {a:Int} (ha:∀ x ∈ es,otP (rtF n es) a x=false):∀ l:List (Int×Int),(∀ x ∈ l,x ∈ es)→jsF n es l=none
  | [],_=>rfl
  | e::r,h=>by
    have ih:=jsF_none ha r (fun x hx=>h x (by simp [hx]))
    have he:=ha e (h e (by simp))
    rw [otP,decide_eq_false_iff_not,Classical.not_not] at he
    have hf:es.find? (otP (rtF n es) e.1)=none:=find_none' fun x hx=>by
      have:=ha x hx
      rw [otP,decide_eq_false_iff_not,Classical.not_not] at this ⊢
      rw [this,he]
    rw [jsF,hf]
    simp only [ih]
    split <;> rfl
theorem jsF_eq {n:Nat} {es:List (Int×Int)}:∀ l:List (Int×Int),(∀ x ∈ l,x ∈ es)→jsF n es l=(match l.find? (cyP n es) with
  | none=>none
  | some e=>(es.find? (otP (rtF n es) e.1)).map fun f=>(e,f))
  | [],_=>rfl
  | e::r,h=>by
    rw [jsF,List.find?_cons]
    cases hq:cyP n es e with
    | false =>
      simp only [Bool.false_eq_true,if_false]
      exact jsF_eq r (fun x hx=>h x (by simp [hx]))
    | true =>
      simp only [if_true]
      cases hf:es.find? (otP (rtF n es) e.1) with
      | some f=>rfl
      | none =>
        simp only [Option.map_none]
        exact jsF_none (a:=e.1) (fun x hx=>by have:=List.find?_eq_none.1 hf x hx;simpa using this) r (fun x hx=>h x (by simp [hx]))
theorem js_in (n:Nat) (es:List (Int×Int)) (c:Bool) (hv:vGraph n es=true) (a b:Int) (he:(a,b) ∈ es) (i k:Nat):∀ (m j:Nat) (Bx:Boxes),j+m=es.length→Bx[k]? = some [I a,I b] →
    wp tb (.loop z445l11) { T:=[(1,.bptr 0 0 0),(2,.bptr 0 1 0),(4,I i),(5,.bptr 0 (k+1+1) 0),(6,I j)],loc:=[I n,L2 es c]::[I 0,I 0,I 0,I 0]::Bx,M:=[] }
      (fun ex st=>match (es.drop j).find? (otP (rtF n es) a) with
        | some f=>ex=.ret∧∃ Bx',st={ T:=[(2,.bptr 0 1 0),(3,Bo true)],loc:=[I n,L2 es c]::[I a,I b,I f.1,I f.2]::Bx',M:=[] }
        | none=>ex=.exit 2∧∃ Bx',st={ T:=[(1,.bptr 0 0 0),(2,.bptr 0 1 0),(4,I i),(5,.bptr 0 (k+1+1) 0),(6,I es.length),(27,Bo false)],loc:=[I n,L2 es c]::[I 0,I 0,I 0,I 0]::Bx',M:=[] }):=by
  have hn7:=(vG_iff.1 hv).2.2
  have h21:=vG21 hn7 hv
  have hes4:∀ e ∈ es,0≤e.1∧e.1 < n∧0≤e.2∧e.2 < n:=fun e he=>by have:=mem_prs.1 ((vG_iff.1 hv).2.1 e he);omega
  have hb:=hes4 _ he
  simp only at hb
  intro m
  induction m with
  | zero =>
    intro j Bx hj hB
    have h3:j=es.length:=hj
    subst h3
    rw [List.drop_length]
    refine wp_loop ?_
    repeat (first|apply wp_as|apply wp_ss|refine wr (by simp;with_reducible rfl) ?_|refine wq (by simp;with_reducible rfl) ?_|refine wt (by simpa) ?_|refine wf (by simpa) ?_|refine xt (by simpa) ?_|refine xf (by simpa) ?_|apply wp_bs|apply wp_b|refine wp_sr ?_|refine wp_sx ?_|refine wp_ret' ?_|refine wp_skip' ?_|refine wp_exit' ?_)
    exact ⟨rfl,_,rfl⟩
  | succ m ih =>
    intro j Bx hj hB
    have hj2:j < es.length:=by omega
    have hd:es.drop j=es[j]::es.drop (j+1):=List.drop_eq_getElem_cons hj2
    obtain ⟨⟨x,y⟩,hx⟩:∃ e,e=es[j]:=⟨_,rfl⟩
    have hx2:=hx.symm
    have hxb:=hes4 _ (List.getElem_mem hj2)
    rw [hx2] at hxb
    simp only at hxb
    have hkB:k < Bx.length:=by
      have:=(List.getElem?_eq_some_iff.1 hB).1;exact this
    have hB2:∀ q,(Bx++[q])[k]? = some [I a,I b]:=fun q=>by rw [List.getElem?_append_left hkB,hB]
    have hn:=fun q=>ih (j+1) (Bx++[q]) (by omega) (hB2 q)
    have w1:IntKind.i64.wrap ((j:Int)+1)=((j+1:Nat):Int):=wrapS (by omega)
    rw [hd,← hx,List.find?_cons]
    have hot:otP (rtF n es) a (x,y)=!decide (x ∈ cmpS n es a.toNat):=by
      rw [has_cmp hes4 ⟨hb.1,hb.2.1⟩ ⟨hxb.1,hxb.2.1⟩,otP,decide_not]
    obtain ⟨p,rfl⟩:=Int.eq_ofNat_of_zero_le hb.1
    rw [Int.toNat_natCast] at hot
    have e2:=fun c=>ev_lim (ev_component n hn7 es c hes4 (by omega) p (by omega))
    have hcl:(cmpS n es p).length≤1000:=by
      have h1:(cmpS n es p).length≤(rgF n 0).length:=List.length_filter_le _ _
      have h2:(rgF n 0).length=n:=by simp [rgF]
      omega
    have e3:=fun c=>ev_lim (ev_hasInt (cmpS n es p) c x (by omega))
    generalize cmpS n es p=C at *
    rw [hot]
    cases hq:decide (x ∈ C) with
    | true =>
      rw [hq] at e3
      simp only [Bool.not_true,Bool.false_eq_true,if_false]
      refine wp_loop ?_
      repeat (first|apply wp_as|apply wp_ss|refine wr (by simp [hj2,hx2,w1];with_reducible rfl) ?_|refine wq (by simp [hj2,hx2,w1];with_reducible rfl) ?_|refine wt (by simpa [hj2,hx2,w1]) ?_|refine wf (by simpa [hj2,hx2,w1]) ?_|refine xt (by simpa [hj2,hx2,w1]) ?_|refine xf (by simpa [hj2,hx2,w1]) ?_|apply wp_bs|apply wp_b|refine wp_sr ?_|refine wp_sx ?_|refine wp_ret' ?_|refine wp_skip' ?_|refine wp_exit' ?_)
      refine wp_ra (by simp [e2,e3,hB2,hB];with_reducible rfl) (by simp;with_reducible rfl) ?_ ?_
      · intro p hp
        simp only [List.mem_cons,List.not_mem_nil,or_false] at hp
        subst hp
        exact ⟨_,by simp [e2,e3,hB2,hB];with_reducible rfl,by simp⟩
      repeat (first|apply wp_as|apply wp_ss|refine wr (by simp [w1];with_reducible rfl) ?_|refine wq (by simp [w1];with_reducible rfl) ?_|refine wt (by simpa [w1]) ?_|refine wf (by simpa [w1]) ?_|refine xt (by simpa [w1]) ?_|refine xf (by simpa [w1]) ?_|apply wp_bs|apply wp_b|refine wp_sr ?_|refine wp_sx ?_|refine wp_ret' ?_|refine wp_skip' ?_|refine wp_exit' ?_)
      exact hn _
    | false =>
      rw [hq] at e3
      simp only [Bool.not_false,if_true]
      refine wp_loop ?_
      repeat (first|apply wp_as|apply wp_ss|refine wr (by simp [hj2,hx2,w1];with_reducible rfl) ?_|refine wq (by simp [hj2,hx2,w1];with_reducible rfl) ?_|refine wt (by simpa [hj2,hx2,w1]) ?_|refine wf (by simpa [hj2,hx2,w1]) ?_|refine xt (by simpa [hj2,hx2,w1]) ?_|refine xf (by simpa [hj2,hx2,w1]) ?_|apply wp_bs|apply wp_b|refine wp_sr ?_|refine wp_sx ?_|refine wp_ret' ?_|refine wp_skip' ?_|refine wp_exit' ?_)
      refine wp_ra (by simp [e2,e3,hB2,hB];with_reducible rfl) (by simp;with_reducible rfl) ?_ ?_
      · intro p hp
        simp only [List.mem_cons,List.not_mem_nil,or_false] at hp
        subst hp
        exact ⟨_,by simp [e2,e3,hB2,hB];with_reducible rfl,by simp⟩
      repeat (first|apply wp_as|apply wp_ss|refine wr (by simp [hB2,hB];with_reducible rfl) ?_|refine wq (by simp [hB2,hB];with_reducible rfl) ?_|refine wt (by simpa [hB2,hB]) ?_|refine wf (by simpa [hB2,hB]) ?_|refine xt (by simpa [hB2,hB]) ?_|refine xf (by simpa [hB2,hB]) ?_|apply wp_bs|apply wp_b|refine wp_sr ?_|refine wp_sx ?_|refine wp_ret' ?_|refine wp_skip' ?_|refine wp_exit' ?_)
      exact ⟨rfl,_,rfl⟩
theorem js_out (n:Nat) (es:List (Int×Int)) (c:Bool) (hv:vGraph n es=true):∀ (m i:Nat) (Bx:Boxes),i+m=es.length →
    wp tb (.loop z445l13) { T:=[(1,.bptr 0 0 0),(2,.bptr 0 1 0),(4,I i)],loc:=[I n,L2 es c]::[I 0,I 0,I 0,I 0]::Bx,M:=[] }
      (fun ex st=>match jsF n es (es.drop i) with
        | some q=>ex=.ret∧∃ Bx',st={ T:=[(2,.bptr 0 1 0),(3,Bo true)],loc:=[I n,L2 es c]::[I q.1.1,I q.1.2,I q.2.1,I q.2.2]::Bx',M:=[] }
        | none=>ex=.exit 0∧∃ Bx',st={ T:=[(1,.bptr 0 0 0),(2,.bptr 0 1 0),(4,I es.length),(12,Bo false)],loc:=[I n,L2 es c]::[I 0,I 0,I 0,I 0]::Bx',M:=[] }):=by
  have hn7:=(vG_iff.1 hv).2.2
  have h21:=vG21 hn7 hv
  intro m
  induction m with
  | zero =>
    intro i Bx hi
    have h3:i=es.length:=hi
    subst h3
    rw [List.drop_length]
    refine wp_loop ?_
    repeat (first|apply wp_as|apply wp_ss|refine wr (by simp;with_reducible rfl) ?_|refine wq (by simp;with_reducible rfl) ?_|refine wt (by simpa) ?_|refine wf (by simpa) ?_|refine xt (by simpa) ?_|refine xf (by simpa) ?_|apply wp_bs|apply wp_b|refine wp_sr ?_|refine wp_sx ?_|refine wp_ret' ?_|refine wp_skip' ?_|refine wp_exit' ?_)
    exact ⟨rfl,_,rfl⟩
  | succ m ih =>
    intro i Bx hi
    have hi2:i < es.length:=by omega
    have hd:es.drop i=es[i]::es.drop (i+1):=List.drop_eq_getElem_cons hi2
    obtain ⟨⟨a,b⟩,hx⟩:∃ e,e=es[i]:=⟨_,rfl⟩
    have hx2:=hx.symm
    have heM:((a,b):Int×Int) ∈ es:=by rw [hx];exact List.getElem_mem hi2
    have w1:IntKind.i64.wrap ((i:Int)+1)=((i+1:Nat):Int):=wrapS (by omega)
    have e1:=fun c=>ev_lim (ev_isBridge n es c hv a b heM)
    have hn:=fun B=>ih (i+1) B (by omega)
    have inner:=js_in n es c hv a b heM i Bx.length es.length 0 (Bx++[[I a,I b]]) (by omega) (by simp)
    rw [show ((0:Nat):Int)=0 from rfl,List.drop_zero] at inner
    rw [hd,← hx,jsF]
    cases hq:cyP n es (a,b) with
    | false =>
      rw [hq] at e1
      simp only [Bool.false_eq_true,if_false]
      refine wp_loop ?_
      repeat (first|apply wp_as|apply wp_ss|refine wr (by simp [hi2,hx2,e1,w1];with_reducible rfl) ?_|refine wq (by simp [hi2,hx2,e1,w1];with_reducible rfl) ?_|refine wt (by simpa [hi2,hx2,e1,w1]) ?_|refine wf (by simpa [hi2,hx2,e1,w1]) ?_|refine xt (by simpa [hi2,hx2,e1,w1]) ?_|refine xf (by simpa [hi2,hx2,e1,w1]) ?_|apply wp_bs|apply wp_b|refine wp_sr ?_|refine wp_sx ?_|refine wp_ret' ?_|refine wp_skip' ?_|refine wp_exit' ?_)
      exact hn _
    | true =>
      rw [hq] at e1
      simp only [if_true]
      cases hf:es.find? (otP (rtF n es) a) with
      | none =>
        simp only [hf] at inner
        refine wp_loop ?_
        repeat (first|apply wp_as|apply wp_ss|refine wr (by simp [hi2,hx2,e1,w1];with_reducible rfl) ?_|refine wq (by simp [hi2,hx2,e1,w1];with_reducible rfl) ?_|refine wt (by simpa [hi2,hx2,e1,w1]) ?_|refine wf (by simpa [hi2,hx2,e1,w1]) ?_|refine xt (by simpa [hi2,hx2,e1,w1]) ?_|refine xf (by simpa [hi2,hx2,e1,w1]) ?_|apply wp_bs|apply wp_b|refine wp_sr ?_|refine wp_sx ?_|refine wp_ret' ?_|refine wp_skip' ?_|refine wp_exit' ?_)
        refine wp_imp inner ?_
        rintro ex st ⟨rfl,B',rfl⟩
        simp only [if_true]
        repeat (first|apply wp_as|apply wp_ss|refine wr (by simp [w1];with_reducible rfl) ?_|refine wq (by simp [w1];with_reducible rfl) ?_|refine wt (by simpa [w1]) ?_|refine wf (by simpa [w1]) ?_|refine xt (by simpa [w1]) ?_|refine xf (by simpa [w1]) ?_|apply wp_bs|apply wp_b|refine wp_sr ?_|refine wp_sx ?_|refine wp_ret' ?_|refine wp_skip' ?_|refine wp_exit' ?_)
        exact hn _
      | some f =>
        simp only [hf] at inner
        refine wp_loop ?_
        repeat (first|apply wp_as|apply wp_ss|refine wr (by simp [hi2,hx2,e1,w1];with_reducible rfl) ?_|refine wq (by simp [hi2,hx2,e1,w1];with_reducible rfl) ?_|refine wt (by simpa [hi2,hx2,e1,w1]) ?_|refine wf (by simpa [hi2,hx2,e1,w1]) ?_|refine xt (by simpa [hi2,hx2,e1,w1]) ?_|refine xf (by simpa [hi2,hx2,e1,w1]) ?_|apply wp_bs|apply wp_b|refine wp_sr ?_|refine wp_sx ?_|refine wp_ret' ?_|refine wp_skip' ?_|refine wp_exit' ?_)
        refine wp_imp inner ?_
        rintro ex st ⟨rfl,B',rfl⟩
        exact ⟨rfl,_,rfl⟩
theorem ev_joinStep (n:Nat) (es:List (Int×Int)) (c:Bool) (hv:vGraph n es=true) :
    Ev tb zl445 [] [Gr n es c] [] ⟨match jnE n es with | some q=>.tup [Sw q.1.1 q.1.2 q.2.1 q.2.2,Bo true] | none=>.tup [Sw 0 0 0 0,Bo false],[],[],[]⟩:=by
  have loop:=js_out n es c hv es.length 0 [] (by omega)
  rw [show ((0:Nat):Int)=0 from rfl,List.drop_zero,jsF_eq es (fun _ h=>h),show (match es.find? (cyP n es) with | none=>none | some e=>(es.find? (otP (rtF n es) e.1)).map fun f=>(e,f))=jnE n es from rfl] at loop
  cases hE:jnE n es with
  | none =>
    simp only [hE] at loop
    refine call_of_wp zt445 rfl ?_
    repeat (first|apply wp_as|apply wp_ss|refine wr (by simp;with_reducible rfl) ?_|refine wq (by simp;with_reducible rfl) ?_|refine wt (by simpa) ?_|refine wf (by simpa) ?_|refine xt (by simpa) ?_|refine xf (by simpa) ?_|apply wp_bs|apply wp_b|refine wp_sr ?_|refine wp_sx ?_|refine wp_ret' ?_|refine wp_skip' ?_|refine wp_exit' ?_)
    refine wp_imp loop ?_
    rintro ex st ⟨rfl,B',rfl⟩
    simp only [if_true]
    repeat (first|apply wp_as|apply wp_ss|refine wr (by simp;with_reducible rfl) ?_|refine wq (by simp;with_reducible rfl) ?_|refine wt (by simpa) ?_|refine wf (by simpa) ?_|refine xt (by simpa) ?_|refine xf (by simpa) ?_|apply wp_bs|apply wp_b|refine wp_sr ?_|refine wp_sx ?_|refine wp_ret' ?_|refine wp_skip' ?_|refine wp_exit' ?_)
    simp [zi445]
  | some q =>
    simp only [hE] at loop
    refine call_of_wp zt445 rfl ?_
    repeat (first|apply wp_as|apply wp_ss|refine wr (by simp;with_reducible rfl) ?_|refine wq (by simp;with_reducible rfl) ?_|refine wt (by simpa) ?_|refine wf (by simpa) ?_|refine xt (by simpa) ?_|refine xf (by simpa) ?_|apply wp_bs|apply wp_b|refine wp_sr ?_|refine wp_sx ?_|refine wp_ret' ?_|refine wp_skip' ?_|refine wp_exit' ?_)
    refine wp_imp loop ?_
    rintro ex st ⟨rfl,B',rfl⟩
    simp [zi445]
set_option maxHeartbeats 4000000 in
theorem scg_loop (n:Nat) (hn1:1≤n) (G0:List IV):∀ (m:Nat) (es:List (Int×Int)) (B:Boxes),(compI n es).length≤m→vGraph n es=true →
    wp tb (.loop z293l9) { T:=[(2,.bptr 0 1 0),(4,.bptr 0 2 0)],loc:=G0::[I 0,Z]::[I n,O2 es]::B,M:=[] }
      (fun ex st=>match jnF n m es with
        | some es'=>ex=.exit 0∧∃ B',st={ T:=[(2,.bptr 0 1 0),(4,.bptr 0 2 0),(21,Bo false)],loc:=G0::[I 0,Z]::[I n,O2 es']::B',M:=[] }
        | none=>ex=.ret∧∃ B',st={ T:=[(2,.bptr 0 1 0),(3,Bo false)],loc:=G0::[I 0,Z]::B',M:=[] }):=by
  intro m
  induction m with
  | zero =>
    intro es B hm hv
    have hes:∀ e ∈ es,e.1.toNat < n∧e.2.toNat < n:=fun e he=>by have:=mem_prs.1 ((vG_iff.1 hv).2.1 e he);omega
    have:=comp_pos hn1 hes
    omega
  | succ m ih =>
    intro es B hm hv
    have hin:=(vG_iff.1 hv).2.1
    have hn7:=(vG_iff.1 hv).2.2
    have h21:=vG21 hn7 hv
    have hes:∀ e ∈ es,e.1.toNat < n∧e.2.toNat < n:=fun e he=>by have:=mem_prs.1 (hin e he);omega
    have hes4:∀ e ∈ es,0≤e.1∧e.1 < n∧0≤e.2∧e.2 < n:=fun e he=>by have:=mem_prs.1 (hin e he);omega
    have e1:=fun c=>ev_lim (ev_spec_components n hn7 es c hes4 (by omega))
    have hl1:=cmpsS_pos hn1 hes
    have hl2:=(cmpsS_one hn1 hes).trans (compI_one hn1 hes).symm
    rw [jnF]
    generalize cmpsS n es 0=P at *
    by_cases hc:(compI n es).length=1
    · have hP:=hl2.2 hc
      have hP2:¬ (1:Int) < (P.length:Int):=by omega
      rw [if_pos hc]
      refine wp_loop ?_
      repeat (first|apply wp_as|apply wp_ss|refine wr (by simp [e1,hP,hP2];with_reducible rfl) ?_|refine wq (by simp [e1,hP,hP2];with_reducible rfl) ?_|refine wt (by simpa [e1,hP,hP2]) ?_|refine wf (by simpa [e1,hP,hP2]) ?_|refine xt (by simpa [e1,hP,hP2]) ?_|refine xf (by simpa [e1,hP,hP2]) ?_|apply wp_bs|apply wp_b|refine wp_sr ?_|refine wp_sx ?_|refine wp_ret' ?_|refine wp_skip' ?_|refine wp_exit' ?_)
      exact ⟨rfl,B,rfl⟩
    · have hP0:P.length ≠ 1:=fun h=>hc (hl2.1 h)
      have hP2:(1:Int) < (P.length:Int):=by omega
      have hP3:1 < P.length:=by omega
      have e2:=fun c=>ev_lim (ev_joinStep n es c hv)
      rw [if_neg hc]
      cases hE:jnE n es with
      | none =>
        simp only [hE] at e2
        refine wp_loop ?_
        repeat (first|apply wp_as|apply wp_ss|refine wr (by simp [e1,e2,hP2,hP3];with_reducible rfl) ?_|refine wq (by simp [e1,e2,hP2,hP3];with_reducible rfl) ?_|refine wt (by simpa [e1,e2,hP2,hP3]) ?_|refine wf (by simpa [e1,e2,hP2,hP3]) ?_|refine xt (by simpa [e1,e2,hP2,hP3]) ?_|refine xf (by simpa [e1,e2,hP2,hP3]) ?_|apply wp_bs|apply wp_b|refine wp_sr ?_|refine wp_sx ?_|refine wp_ret' ?_|refine wp_skip' ?_|refine wp_exit' ?_)
        exact ⟨rfl,_,rfl⟩
      | some q =>
        obtain ⟨⟨a,b⟩,⟨c,d⟩⟩:=q
        simp only [hE] at e2
        obtain ⟨-,-,hmay,hv2,-,hlt⟩:=jnE_ok hv hE
        simp only at hmay hlt hv2 ⊢
        have e3:=fun cc=>ev_lim (ev_switched n es cc a b c d (by omega))
        simp only [sw_eq hv hmay] at e3
        have hn:=fun B=>ih (sw es a b c d) B (by omega) hv2
        generalize sw es a b c d=R at *
        refine wp_loop ?_
        repeat (first|apply wp_as|apply wp_ss|refine wr (by simp [e1,e2,e3,hP2,hP3];with_reducible rfl) ?_|refine wq (by simp [e1,e2,e3,hP2,hP3];with_reducible rfl) ?_|refine wt (by simpa [e1,e2,e3,hP2,hP3]) ?_|refine wf (by simpa [e1,e2,e3,hP2,hP3]) ?_|refine xt (by simpa [e1,e2,e3,hP2,hP3]) ?_|refine xf (by simpa [e1,e2,e3,hP2,hP3]) ?_|apply wp_bs|apply wp_b|refine wp_sr ?_|refine wp_sx ?_|refine wp_ret' ?_|refine wp_skip' ?_|refine wp_exit' ?_)
        exact hn _
set_option maxHeartbeats 8000000 in
theorem ev_spec_ConnectGraph (n:Nat) (hn1:1≤n) (es:List (Int×Int)) (c:Bool) (hv:vGraph n es=true) :
    Ev tb zl293 [] [Gr n es c] [] ⟨match jnF n (compI n es).length es with | some es'=>.tup [OG n es',Bo true] | none=>.tup [.agg [I 0,Z],Bo false],[],[],[]⟩:=by
  have hn7:=(vG_iff.1 hv).2.2
  have h21:=vG21 hn7 hv
  have v1:=fun c=>ev_lim (ev_validGraph n es c (by omega))
  rw [hv] at v1
  have loop:=scg_loop n hn1 [I n,L2 es c] (compI n es).length es [] (Nat.le_refl _) hv
  have hok:=jnF_ok hn1 (compI n es).length es (Nat.le_refl _) hv
  have ht:es.length≤274877906944:=by omega
  have ht2:List.take es.length es=es:=List.take_of_length_le (Nat.le_refl _)
  cases hF:jnF n (compI n es).length es with
  | none =>
    simp only [hF] at loop
    refine call_of_wp zt293 rfl ?_
    repeat (first|apply wp_as|apply wp_ss|refine wr (by simp [v1];with_reducible rfl) ?_|refine wq (by simp [v1];with_reducible rfl) ?_|refine wt (by simpa [v1]) ?_|refine wf (by simpa [v1]) ?_|refine xt (by simpa [v1]) ?_|refine xf (by simpa [v1]) ?_|apply wp_bs|apply wp_b|refine wp_sr ?_|refine wp_sx ?_|refine wp_ret' ?_|refine wp_skip' ?_|refine wp_exit' ?_)
    refine wp_rds rfl (by simp [ht,ht2];with_reducible rfl) (by simp;with_reducible rfl) ?_ ?_
    · intro p hp
      simp only [List.mem_cons,List.not_mem_nil,or_false] at hp
      rcases hp with rfl | rfl | rfl | rfl | rfl | rfl | rfl | rfl | rfl | rfl | rfl | rfl | rfl | rfl | rfl | rfl | rfl
      · exact ⟨_,by simp [ht,ht2];with_reducible rfl,by simp⟩
      · exact ⟨_,by simp [ht,ht2];with_reducible rfl,by simp⟩
      · exact ⟨_,by simp [ht,ht2];with_reducible rfl,by simp⟩
      · exact ⟨_,by simp [ht,ht2];with_reducible rfl,by simp⟩
      · exact ⟨_,by simp [ht,ht2];with_reducible rfl,by simp⟩
      · exact ⟨_,by simp [ht,ht2];with_reducible rfl,by simp⟩
      · exact ⟨_,by simp [ht,ht2];with_reducible rfl,by simp⟩
      · exact ⟨_,by simp [ht,ht2];with_reducible rfl,by simp⟩
      · exact ⟨_,by simp [ht,ht2];with_reducible rfl,by simp⟩
      · exact ⟨_,by simp [ht,ht2];with_reducible rfl,by simp⟩
      · exact ⟨_,by simp [ht,ht2];with_reducible rfl,by simp⟩
      · exact ⟨_,by simp [ht,ht2];with_reducible rfl,by simp⟩
      · exact ⟨_,by simp [ht,ht2];with_reducible rfl,by simp⟩
      · exact ⟨_,by simp [ht,ht2];with_reducible rfl,by simp⟩
      · exact ⟨_,by simp [ht,ht2];with_reducible rfl,by simp⟩
      · exact ⟨_,by simp [ht,ht2];with_reducible rfl,by simp⟩
      · exact ⟨_,by simp [ht,ht2];with_reducible rfl,by simp⟩
    repeat (first|apply wp_as|apply wp_ss|refine wr (by simp;with_reducible rfl) ?_|refine wq (by simp;with_reducible rfl) ?_|refine wt (by simpa) ?_|refine wf (by simpa) ?_|refine xt (by simpa) ?_|refine xf (by simpa) ?_|apply wp_bs|apply wp_b|refine wp_sr ?_|refine wp_sx ?_|refine wp_ret' ?_|refine wp_skip' ?_|refine wp_exit' ?_)
    refine wp_imp loop ?_
    rintro ex st ⟨rfl,B',rfl⟩
    simp [zi293]
  | some es' =>
    simp only [hF] at loop
    obtain ⟨q1,q2,q3⟩:=hok.1 es' hF
    have hes':∀ e ∈ es',e.1.toNat < n∧e.2.toNat < n:=fun e he=>by have:=mem_prs.1 ((vG_iff.1 q1).2.1 e he);omega
    have hes4:∀ e ∈ es',0≤e.1∧e.1 < n∧0≤e.2∧e.2 < n:=fun e he=>by have:=mem_prs.1 ((vG_iff.1 q1).2.1 e he);omega
    have h21':=vG21 hn7 q1
    have e1:=fun c=>ev_lim (ev_spec_components n hn7 es' c hes4 (by omega))
    have hl2:=(cmpsS_one hn1 hes').2 ((compI_one hn1 hes').1 q2)
    generalize cmpsS n es' 0=P at *
    refine call_of_wp zt293 rfl ?_
    repeat (first|apply wp_as|apply wp_ss|refine wr (by simp [v1];with_reducible rfl) ?_|refine wq (by simp [v1];with_reducible rfl) ?_|refine wt (by simpa [v1]) ?_|refine wf (by simpa [v1]) ?_|refine xt (by simpa [v1]) ?_|refine xf (by simpa [v1]) ?_|apply wp_bs|apply wp_b|refine wp_sr ?_|refine wp_sx ?_|refine wp_ret' ?_|refine wp_skip' ?_|refine wp_exit' ?_)
    refine wp_rds rfl (by simp [ht,ht2];with_reducible rfl) (by simp;with_reducible rfl) ?_ ?_
    · intro p hp
      simp only [List.mem_cons,List.not_mem_nil,or_false] at hp
      rcases hp with rfl | rfl | rfl | rfl | rfl | rfl | rfl | rfl | rfl | rfl | rfl | rfl | rfl | rfl | rfl | rfl | rfl
      · exact ⟨_,by simp [ht,ht2];with_reducible rfl,by simp⟩
      · exact ⟨_,by simp [ht,ht2];with_reducible rfl,by simp⟩
      · exact ⟨_,by simp [ht,ht2];with_reducible rfl,by simp⟩
      · exact ⟨_,by simp [ht,ht2];with_reducible rfl,by simp⟩
      · exact ⟨_,by simp [ht,ht2];with_reducible rfl,by simp⟩
      · exact ⟨_,by simp [ht,ht2];with_reducible rfl,by simp⟩
      · exact ⟨_,by simp [ht,ht2];with_reducible rfl,by simp⟩
      · exact ⟨_,by simp [ht,ht2];with_reducible rfl,by simp⟩
      · exact ⟨_,by simp [ht,ht2];with_reducible rfl,by simp⟩
      · exact ⟨_,by simp [ht,ht2];with_reducible rfl,by simp⟩
      · exact ⟨_,by simp [ht,ht2];with_reducible rfl,by simp⟩
      · exact ⟨_,by simp [ht,ht2];with_reducible rfl,by simp⟩
      · exact ⟨_,by simp [ht,ht2];with_reducible rfl,by simp⟩
      · exact ⟨_,by simp [ht,ht2];with_reducible rfl,by simp⟩
      · exact ⟨_,by simp [ht,ht2];with_reducible rfl,by simp⟩
      · exact ⟨_,by simp [ht,ht2];with_reducible rfl,by simp⟩
      · exact ⟨_,by simp [ht,ht2];with_reducible rfl,by simp⟩
    repeat (first|apply wp_as|apply wp_ss|refine wr (by simp;with_reducible rfl) ?_|refine wq (by simp;with_reducible rfl) ?_|refine wt (by simpa) ?_|refine wf (by simpa) ?_|refine xt (by simpa) ?_|refine xf (by simpa) ?_|apply wp_bs|apply wp_b|refine wp_sr ?_|refine wp_sx ?_|refine wp_ret' ?_|refine wp_skip' ?_|refine wp_exit' ?_)
    refine wp_imp loop ?_
    rintro ex st ⟨rfl,B',rfl⟩
    simp only [if_true]
    repeat (first|apply wp_as|apply wp_ss|refine wr (by simp;with_reducible rfl) ?_|refine wq (by simp;with_reducible rfl) ?_|refine wt (by simpa) ?_|refine wf (by simpa) ?_|refine xt (by simpa) ?_|refine xf (by simpa) ?_|apply wp_bs|apply wp_b|refine wp_sr ?_|refine wp_sx ?_|refine wp_ret' ?_|refine wp_skip' ?_|refine wp_exit' ?_)
    refine wp_ra (by simp [e1,hl2];with_reducible rfl) (by simp;with_reducible rfl) ?_ ?_
    · intro p hp
      simp only [List.mem_cons,List.not_mem_nil,or_false] at hp
      subst hp
      exact ⟨_,by simp [e1,hl2];with_reducible rfl,by simp⟩
    repeat (first|apply wp_as|apply wp_ss|refine wr (by simp;with_reducible rfl) ?_|refine wq (by simp;with_reducible rfl) ?_|refine wt (by simpa) ?_|refine wf (by simpa) ?_|refine xt (by simpa) ?_|refine xf (by simpa) ?_|apply wp_bs|apply wp_b|refine wp_sr ?_|refine wp_sx ?_|refine wp_ret' ?_|refine wp_skip' ?_|refine wp_exit' ?_)
    simp [zi293]
end Go.Idl
namespace Go.Idl
open Go
theorem ev_ConnectGraph_no (n:Int) (es:List (Int×Int)) (c:Bool) (hf:Fit es) (hl:es.length≤2000000) (hv:vGraph n es=false):Ev tb zl153 [] [Gr n es c] [] ⟨.tup [.agg [I 0,Z],Bo false],[],[],[]⟩:=by
  have v1:=fun c=>ev_lim (ev_ValidGraph n es c hf (by omega))
  rw [hv] at v1
  refine call_of_wp zt153 rfl ?_
  repeat (first|apply wp_as|apply wp_ss|refine wr (by simp [v1];with_reducible rfl) ?_|refine wq (by simp [v1];with_reducible rfl) ?_|refine wt (by simpa [v1]) ?_|refine wf (by simpa [v1]) ?_|refine xt (by simpa [v1]) ?_|refine xf (by simpa [v1]) ?_|apply wp_bs|apply wp_b|refine wp_sr ?_|refine wp_sx ?_|refine wp_ret' ?_|refine wp_skip' ?_|refine wp_exit' ?_)
  simp [zi153]
theorem ev_spec_ConnectGraph_no (n:Int) (es:List (Int×Int)) (c:Bool) (hl:es.length≤2000000) (hv:vGraph n es=false):Ev tb zl293 [] [Gr n es c] [] ⟨.tup [.agg [I 0,Z],Bo false],[],[],[]⟩:=by
  have v1:=fun c=>ev_lim (ev_validGraph n es c (by omega))
  rw [hv] at v1
  refine call_of_wp zt293 rfl ?_
  repeat (first|apply wp_as|apply wp_ss|refine wr (by simp [v1];with_reducible rfl) ?_|refine wq (by simp [v1];with_reducible rfl) ?_|refine wt (by simpa [v1]) ?_|refine wf (by simpa [v1]) ?_|refine xt (by simpa [v1]) ?_|refine xf (by simpa [v1]) ?_|apply wp_bs|apply wp_b|refine wp_sr ?_|refine wp_sx ?_|refine wp_ret' ?_|refine wp_skip' ?_|refine wp_exit' ?_)
  simp [zi293]
set_option maxHeartbeats 4000000 in
theorem ev_spec_ConnectGraph_0 (c:Bool):Ev tb zl293 [] [Gr 0 [] c] [] ⟨.tup [OG 0 [],Bo false],[],[],[]⟩:=by
  have v1:=fun c=>ev_lim (ev_validGraph 0 [] c (by simp))
  rw [show vGraph 0 []=true from rfl] at v1
  have e1:=fun c=>ev_lim (ev_spec_components 0 (by omega) [] c (fun e he=>by cases he) (by simp))
  rw [show cmpsS 0 [] 0=[] from rfl,show ((0:Nat):Int)=0 from rfl] at e1
  simp only [Gr,L2,eds_nil] at e1
  refine call_of_wp zt293 rfl ?_
  repeat (first|apply wp_as|apply wp_ss|refine wr (by simp [v1];with_reducible rfl) ?_|refine wq (by simp [v1];with_reducible rfl) ?_|refine wt (by simpa [v1]) ?_|refine wf (by simpa [v1]) ?_|refine xt (by simpa [v1]) ?_|refine xf (by simpa [v1]) ?_|apply wp_bs|apply wp_b|refine wp_sr ?_|refine wp_sx ?_|refine wp_ret' ?_|refine wp_skip' ?_|refine wp_exit' ?_)
  refine wp_rds rfl (by simp;with_reducible rfl) (by simp;with_reducible rfl) ?_ ?_
  · intro p hp
    simp only [List.mem_cons,List.not_mem_nil,or_false] at hp
    rcases hp with rfl | rfl | rfl | rfl | rfl | rfl | rfl | rfl | rfl | rfl | rfl | rfl | rfl | rfl | rfl | rfl | rfl
    · exact ⟨_,by simp ;with_reducible rfl,by simp⟩
    · exact ⟨_,by simp ;with_reducible rfl,by simp⟩
    · exact ⟨_,by simp ;with_reducible rfl,by simp⟩
    · exact ⟨_,by simp ;with_reducible rfl,by simp⟩
    · exact ⟨_,by simp ;with_reducible rfl,by simp⟩
    · exact ⟨_,by simp ;with_reducible rfl,by simp⟩
    · exact ⟨_,by simp ;with_reducible rfl,by simp⟩
    · exact ⟨_,by simp ;with_reducible rfl,by simp⟩
    · exact ⟨_,by simp ;with_reducible rfl,by simp⟩
    · exact ⟨_,by simp ;with_reducible rfl,by simp⟩
    · exact ⟨_,by simp ;with_reducible rfl,by simp⟩
    · exact ⟨_,by simp ;with_reducible rfl,by simp⟩
    · exact ⟨_,by simp ;with_reducible rfl,by simp⟩
    · exact ⟨_,by simp ;with_reducible rfl,by simp⟩
    · exact ⟨_,by simp ;with_reducible rfl,by simp⟩
    · exact ⟨_,by simp ;with_reducible rfl,by simp⟩
    · exact ⟨_,by simp ;with_reducible rfl,by simp⟩
  repeat (first|apply wp_as|apply wp_ss|refine wr (by simp;with_reducible rfl) ?_|refine wq (by simp;with_reducible rfl) ?_|refine wt (by simpa) ?_|refine wf (by simpa) ?_|refine xt (by simpa) ?_|refine xf (by simpa) ?_|apply wp_bs|apply wp_b|refine wp_sr ?_|refine wp_sx ?_|refine wp_ret' ?_|refine wp_skip' ?_|refine wp_exit' ?_)
  refine wp_loop ?_
  repeat (first|apply wp_as|apply wp_ss|refine wr (by simp [e1];with_reducible rfl) ?_|refine wq (by simp [e1];with_reducible rfl) ?_|refine wt (by simpa [e1]) ?_|refine wf (by simpa [e1]) ?_|refine xt (by simpa [e1]) ?_|refine xf (by simpa [e1]) ?_|apply wp_bs|apply wp_b|refine wp_sr ?_|refine wp_sx ?_|refine wp_ret' ?_|refine wp_skip' ?_|refine wp_exit' ?_)
  refine wp_ra (by simp [e1];with_reducible rfl) (by simp;with_reducible rfl) ?_ ?_
  · intro p hp
    simp only [List.mem_cons,List.not_mem_nil,or_false] at hp
    subst hp
    exact ⟨_,by simp [e1];with_reducible rfl,by simp⟩
  repeat (first|apply wp_as|apply wp_ss|refine wr (by simp;with_reducible rfl) ?_|refine wq (by simp;with_reducible rfl) ?_|refine wt (by simpa) ?_|refine wf (by simpa) ?_|refine xt (by simpa) ?_|refine xf (by simpa) ?_|apply wp_bs|apply wp_b|refine wp_sr ?_|refine wp_sx ?_|refine wp_ret' ?_|refine wp_skip' ?_|refine wp_exit' ?_)
  simp [zi293]
end Go.Idl
