/- Part 6 of a proof by an ideal interpreter of the code: its definitions and lemmas. Conditions: none. -/
import Derived.KernelRfl
import Derived.Test.YtmhcaeaomjegmaaA5
set_option linter.all false
set_option linter.unusedVariables false
set_option linter.unusedSimpArgs false
namespace Go.Idl
open Go
def insE (e:Int×Int):List (Int×Int)→List (Int×Int)
  | []=>[e]
  | x::r=>if below x e then x::insE e r else e::x::r
theorem insE_at (e:Int×Int) (es:List (Int×Int)) (k:Nat) (hk:k≤es.length) (h:∀ x ∈ es.take k,below x e=true) (hs:∀ h:k < es.length,below es[k] e=false) :
    insE e es=es.take k++[e]++es.drop k:=by
  induction es generalizing k with
  | nil=>simp at hk;subst hk;rfl
  | cons x r ih =>
    cases k with
    | zero =>
      have:=hs (by simp)
      simp only [List.getElem_cons_zero] at this
      simp [insE,this]
    | succ k =>
      have h1:=h x (by simp)
      rw [insE,if_pos h1,ih k (by simpa using hk) (fun y hy=>h y (by simp [hy])) (fun hh=>hs (by simpa using hh))]
      simp
theorem insE_len (e:Int×Int) (es:List (Int×Int)):(insE e es).length=es.length+1:=by
  induction es with
  | nil=>rfl
  | cons x r ih=>rw [insE];split <;> simp [ih]
theorem insE_mem (e x:Int×Int) (es:List (Int×Int)):x ∈ insE e es ↔ x=e ∨ x ∈ es:=by
  induction es with
  | nil=>simp [insE]
  | cons y r ih =>
    rw [insE];split
    · rw [List.mem_cons,ih,List.mem_cons]
      constructor
      · rintro (h | h | h) <;> simp [h]
      · rintro (h | h | h) <;> simp [h]
    · simp
theorem ev_addEdge (n:Int) (es:List (Int×Int)) (c:Bool) (a b:Int) (hl:es.length≤2000000) :
    Ev tb zl335 [] [Gr n es c,I a,I b] [] ⟨OG n (insE (min a b,max a b) es),[],[],[]⟩:=by
  obtain ⟨e,he⟩:∃ e:Int×Int,e=(min a b,max a b):=⟨_,rfl⟩
  have he1:(if b < a then b else a)=e.1:=by rw [he];simp only;split <;> omega
  have he2:(if a < b then b else a)=e.2:=by rw [he];simp only;split <;> omega
  rw [← he]
  have loop:∀ (m k:Nat),k+m=es.length→(∀ x ∈ es.take k,below x e=true)→wp tb (.loop z335l5) { T:=[(3,.bptr 0 0 0),(6,.bptr 0 1 0),(7,.bptr 0 2 0),(8,I k)],loc:=[[I n,L2 es c],[I 0,Z],[I e.1,I e.2]],M:=[] }
      (fun ex st=>ex=.exit 0∧∃ k:Nat,(k≤es.length∧(∀ x ∈ es.take k,below x e=true)∧(∀ h:k < es.length,below es[k] e=false)) ∧
        st={ T:=[(3,.bptr 0 0 0),(6,.bptr 0 1 0),(7,.bptr 0 2 0),(8,I k),(30,Bo false)],loc:=[[I n,L2 es c],[I 0,Z],[I e.1,I e.2]],M:=[] }):=by
    intro m
    induction m with
    | zero =>
      intro k hk hb
      have h3:k=es.length:=hk
      subst h3
      refine wp_loop ?_
      repeat (first|apply wp_as|apply wp_ss|refine wr (by simp;with_reducible rfl) ?_|refine wq (by simp;with_reducible rfl) ?_|refine wt (by simpa) ?_|refine wf (by simpa) ?_|refine xt (by simpa) ?_|refine xf (by simpa) ?_|apply wp_bs|apply wp_b|refine wp_sr ?_|refine wp_sx ?_|refine wp_ret' ?_|refine wp_skip' ?_|refine wp_exit' ?_)
      exact ⟨rfl,es.length,⟨Nat.le_refl _,hb,fun h=>absurd h (by omega)⟩,rfl⟩
    | succ m ih =>
      intro k hk hb
      have hi2:k < es.length:=by omega
      have w2:IntKind.i64.wrap ((k:Int)+1)=((k+1:Nat):Int):=wrapS (by omega)
      have e1:=ev_lim (ev_edgeBelow es[k] e)
      cases hq:below es[k] e with
      | true =>
        refine wp_loop ?_
        repeat (first|apply wp_as|apply wp_ss|refine wr (by simp [hi2,e1,hq,w2];with_reducible rfl) ?_|refine wq (by simp [hi2,e1,hq,w2];with_reducible rfl) ?_|refine wt (by simpa [hi2,e1,hq,w2]) ?_|refine wf (by simpa [hi2,e1,hq,w2]) ?_|refine xt (by simpa [hi2,e1,hq,w2]) ?_|refine xf (by simpa [hi2,e1,hq,w2]) ?_|apply wp_bs|apply wp_b|refine wp_sr ?_|refine wp_sx ?_|refine wp_ret' ?_|refine wp_skip' ?_|refine wp_exit' ?_)
        refine ih (k+1) (by omega) fun x hx=>?_
        rw [List.take_succ_eq_append_getElem hi2] at hx
        rcases List.mem_append.1 hx with hx | hx
        · exact hb x hx
        · simp at hx;subst hx;exact hq
      | false =>
        refine wp_loop ?_
        repeat (first|apply wp_as|apply wp_ss|refine wr (by simp [hi2,e1,hq];with_reducible rfl) ?_|refine wq (by simp [hi2,e1,hq];with_reducible rfl) ?_|refine wt (by simpa [hi2,e1,hq]) ?_|refine wf (by simpa [hi2,e1,hq]) ?_|refine xt (by simpa [hi2,e1,hq]) ?_|refine xf (by simpa [hi2,e1,hq]) ?_|apply wp_bs|apply wp_b|refine wp_sr ?_|refine wp_sx ?_|refine wp_ret' ?_|refine wp_skip' ?_|refine wp_exit' ?_)
        exact ⟨rfl,k,⟨by omega,hb,fun _=>hq⟩,rfl⟩
  refine call_of_wp zt335 rfl ?_
  repeat (first|apply wp_as|apply wp_ss|refine wr (by simp [he1,he2];with_reducible rfl) ?_|refine wq (by simp [he1,he2];with_reducible rfl) ?_|refine wt (by simpa [he1,he2]) ?_|refine wf (by simpa [he1,he2]) ?_|refine xt (by simpa [he1,he2]) ?_|refine xf (by simpa [he1,he2]) ?_|apply wp_bs|apply wp_b|refine wp_sr ?_|refine wp_sx ?_|refine wp_ret' ?_|refine wp_skip' ?_|refine wp_exit' ?_)
  refine wp_imp (loop es.length 0 (by simp) (by simp)) ?_
  rintro ex st ⟨rfl,k,⟨hk,hb,hs⟩,rfl⟩
  rw [insE_at e es k hk hb hs]
  try simp only [if_true]
  have hT:es.take es.length=es:=List.take_of_length_le (Nat.le_refl _)
  have hT2:(es.drop k).take (es.length - k)=es.drop k:=List.take_of_length_le (by simp)
  have hT3:(es.take k).take k=es.take k:=by rw [List.take_take,Nat.min_self]
  have hl1:k≤274877906943:=by omega
  have hl2:k≤274877906944:=by omega
  have hl3:k+1≤274877906944:=by omega
  have hl4:k+1+(es.length - k)≤274877906944:=by omega
  have hT4:(es.take k++[(e.1,e.2)]).take (k+1)=es.take k++[(e.1,e.2)]:=List.take_of_length_le (by simp;omega)
  have hmin:min k es.length=k:=by omega
  repeat (first|apply wp_as|apply wp_ss|refine wr (by simp [hk,hT,hT2,hT3,hl1,hl2,hl3,hl4,hT4,hmin];with_reducible rfl) ?_|refine wq (by simp [hk,hT,hT2,hT3,hl1,hl2,hl3,hl4,hT4,hmin];with_reducible rfl) ?_|refine wt (by simpa [hk,hT,hT2,hT3,hl1,hl2,hl3,hl4,hT4,hmin]) ?_|refine wf (by simpa [hk,hT,hT2,hT3,hl1,hl2,hl3,hl4,hT4,hmin]) ?_|refine xt (by simpa [hk,hT,hT2,hT3,hl1,hl2,hl3,hl4,hT4,hmin]) ?_|refine xf (by simpa [hk,hT,hT2,hT3,hl1,hl2,hl3,hl4,hT4,hmin]) ?_|apply wp_bs|apply wp_b|refine wp_sr ?_|refine wp_sx ?_|refine wp_ret' ?_|refine wp_skip' ?_|refine wp_exit' ?_)
  refine wp_ra (by simp [hk,hT,hT2,hT3,hl1,hl2,hl3,hl4,hT4,hmin];with_reducible rfl) (by simp;with_reducible rfl) ?_ ?_
  · intro p hp
    simp only [List.mem_cons,List.not_mem_nil,or_false] at hp
    rcases hp with rfl | rfl | rfl | rfl | rfl | rfl | rfl | rfl | rfl | rfl | rfl
    · exact ⟨_,by simp [hk,hT,hT2,hT3,hl1,hl2,hl3,hl4,hT4,hmin];with_reducible rfl,by simp⟩
    · exact ⟨_,by simp [hk,hT,hT2,hT3,hl1,hl2,hl3,hl4,hT4,hmin];with_reducible rfl,by simp⟩
    · exact ⟨_,by simp [hk,hT,hT2,hT3,hl1,hl2,hl3,hl4,hT4,hmin];with_reducible rfl,by simp⟩
    · exact ⟨_,by simp [hk,hT,hT2,hT3,hl1,hl2,hl3,hl4,hT4,hmin];with_reducible rfl,by simp⟩
    · exact ⟨_,by simp [hk,hT,hT2,hT3,hl1,hl2,hl3,hl4,hT4,hmin];with_reducible rfl,by simp⟩
    · exact ⟨_,by simp [hk,hT,hT2,hT3,hl1,hl2,hl3,hl4,hT4,hmin];with_reducible rfl,by simp⟩
    · exact ⟨_,by simp [hk,hT,hT2,hT3,hl1,hl2,hl3,hl4,hT4,hmin];with_reducible rfl,by simp⟩
    · exact ⟨_,by simp [hk,hT,hT2,hT3,hl1,hl2,hl3,hl4,hT4,hmin];with_reducible rfl,by simp⟩
    · exact ⟨_,by simp [hk,hT,hT2,hT3,hl1,hl2,hl3,hl4,hT4,hmin];with_reducible rfl,by simp⟩
    · exact ⟨_,by simp [hk,hT,hT2,hT3,hl1,hl2,hl3,hl4,hT4,hmin];with_reducible rfl,by simp⟩
    · exact ⟨_,by simp [hk,hT,hT2,hT3,hl1,hl2,hl3,hl4,hT4,hmin];with_reducible rfl,by simp⟩
  repeat (first|apply wp_as|apply wp_ss|refine wr (by simp;with_reducible rfl) ?_|refine wq (by simp;with_reducible rfl) ?_|refine wt (by simpa) ?_|refine wf (by simpa) ?_|refine xt (by simpa) ?_|refine xf (by simpa) ?_|apply wp_bs|apply wp_b|refine wp_sr ?_|refine wp_sx ?_|refine wp_ret' ?_|refine wp_skip' ?_|refine wp_exit' ?_)
  simp [zi335]
end Go.Idl
namespace Go.Idl
open Go
def dropP (p q:Int) (x:Int×Int):Bool:=!(decide (x.1=p) && decide (x.2=q))
def dropE (a b:Int) (es:List (Int×Int)):List (Int×Int):=es.filter (dropP (min a b) (max a b))
theorem ev_dropEdge (n:Int) (es:List (Int×Int)) (c:Bool) (a b:Int) (hl:es.length≤100000) :
    Ev tb zl348 [] [Gr n es c,I a,I b] [] ⟨OG n (dropE a b es),[],[],[]⟩:=by
  obtain ⟨p,hp⟩:∃ p,p=min a b:=⟨_,rfl⟩
  obtain ⟨q,hq⟩:∃ q,q=max a b:=⟨_,rfl⟩
  have he1:(if b < a then b else a)=p:=by rw [hp];split <;> omega
  have he2:(if a < b then b else a)=q:=by rw [hq];split <;> omega
  rw [dropE,← hp,← hq]
  have loop:∀ (m i:Nat) (acc:List (Int×Int)) (B:Boxes),i+m=es.length→acc.length≤i→wp tb (.loop z348l8) { T:=[(1,I a),(2,I b),(3,.bptr 0 0 0),(6,.bptr 0 1 0),(7,.bptr 0 2 0),(8,I i)],loc:=[I n,L2 es c]::[I 0,Z]::[I n,O2 acc]::B,M:=[] }
      (fun ex st=>ex=.exit 0∧∃ B',st={ T:=[(1,I a),(2,I b),(3,.bptr 0 0 0),(6,.bptr 0 1 0),(7,.bptr 0 2 0),(8,I es.length),(18,Bo false)],loc:=[I n,L2 es c]::[I 0,Z]::[I n,O2 (acc++(es.drop i).filter (dropP p q))]::B',M:=[] }):=by
    intro m
    induction m with
    | zero =>
      intro i acc B hi ha
      have h3:i=es.length:=hi
      subst h3
      refine wp_loop ?_
      repeat (first|apply wp_as|apply wp_ss|refine wr (by simp;with_reducible rfl) ?_|refine wq (by simp;with_reducible rfl) ?_|refine wt (by simpa) ?_|refine wf (by simpa) ?_|refine xt (by simpa) ?_|refine xf (by simpa) ?_|apply wp_bs|apply wp_b|refine wp_sr ?_|refine wp_sx ?_|refine wp_ret' ?_|refine wp_skip' ?_|refine wp_exit' ?_)
      refine ⟨rfl,_,by simp;rfl⟩
    | succ m ih =>
      intro i acc B hi ha
      have hi2:i < es.length:=by omega
      have w1:IntKind.i64.wrap ((i:Int)+1)=((i+1:Nat):Int):=wrapS (by omega)
      have hd:es.drop i=es[i]::es.drop (i+1):=List.drop_eq_getElem_cons hi2
      have hl1:acc.length+1≤274877906944:=by omega
      have hl2:acc.length≤274877906943:=by omega
      have hT:∀ x,List.take (acc.length+1) (acc++[x])=acc++[x]:=fun x=>List.take_of_length_le (by simp)
      have hT2:List.take acc.length acc=acc:=List.take_of_length_le (Nat.le_refl _)
      rw [hd]
      obtain ⟨⟨x1,x2⟩,hx⟩:∃ x,x=es[i]:=⟨_,rfl⟩
      rw [← hx]
      have hx2:=hx.symm
      by_cases h1:x1=p
      · subst h1
        by_cases h2:x2=q
        · subst h2
          refine wp_loop ?_
          repeat (first|apply wp_as|apply wp_ss|refine wr (by simp [hi2,w1,hx2,he1,he2];with_reducible rfl) ?_|refine wq (by simp [hi2,w1,hx2,he1,he2];with_reducible rfl) ?_|refine wt (by simpa [hi2,w1,hx2,he1,he2]) ?_|refine wf (by simpa [hi2,w1,hx2,he1,he2]) ?_|refine xt (by simpa [hi2,w1,hx2,he1,he2]) ?_|refine xf (by simpa [hi2,w1,hx2,he1,he2]) ?_|apply wp_bs|apply wp_b|refine wp_sr ?_|refine wp_sx ?_|refine wp_ret' ?_|refine wp_skip' ?_|refine wp_exit' ?_)
          have hn:=ih (i+1) acc (B++[[I x1,I x2]]) (by omega) (by omega)
          rw [List.filter_cons_of_neg (by simp [dropP])]
          exact hn
        · refine wp_loop ?_
          repeat (first|apply wp_as|apply wp_ss|refine wr (by simp [hi2,w1,hx2,he1,he2,h2,hl1,hl2,hT,hT2];with_reducible rfl) ?_|refine wq (by simp [hi2,w1,hx2,he1,he2,h2,hl1,hl2,hT,hT2];with_reducible rfl) ?_|refine wt (by simpa [hi2,w1,hx2,he1,he2,h2,hl1,hl2,hT,hT2]) ?_|refine wf (by simpa [hi2,w1,hx2,he1,he2,h2,hl1,hl2,hT,hT2]) ?_|refine xt (by simpa [hi2,w1,hx2,he1,he2,h2,hl1,hl2,hT,hT2]) ?_|refine xf (by simpa [hi2,w1,hx2,he1,he2,h2,hl1,hl2,hT,hT2]) ?_|apply wp_bs|apply wp_b|refine wp_sr ?_|refine wp_sx ?_|refine wp_ret' ?_|refine wp_skip' ?_|refine wp_exit' ?_)
          have hn:=ih (i+1) (acc++[(x1,x2)]) (B++[[I x1,I x2]]) (by omega) (by simp;omega)
          rw [List.filter_cons_of_pos (by simp [dropP,h2])]
          simp only [List.append_assoc,List.cons_append,List.nil_append] at hn
          exact hn
      · refine wp_loop ?_
        repeat (first|apply wp_as|apply wp_ss|refine wr (by simp [hi2,w1,hx2,he1,he2,h1,hl1,hl2,hT,hT2];with_reducible rfl) ?_|refine wq (by simp [hi2,w1,hx2,he1,he2,h1,hl1,hl2,hT,hT2];with_reducible rfl) ?_|refine wt (by simpa [hi2,w1,hx2,he1,he2,h1,hl1,hl2,hT,hT2]) ?_|refine wf (by simpa [hi2,w1,hx2,he1,he2,h1,hl1,hl2,hT,hT2]) ?_|refine xt (by simpa [hi2,w1,hx2,he1,he2,h1,hl1,hl2,hT,hT2]) ?_|refine xf (by simpa [hi2,w1,hx2,he1,he2,h1,hl1,hl2,hT,hT2]) ?_|apply wp_bs|apply wp_b|refine wp_sr ?_|refine wp_sx ?_|refine wp_ret' ?_|refine wp_skip' ?_|refine wp_exit' ?_)
        have hn:=ih (i+1) (acc++[(x1,x2)]) (B++[[I x1,I x2]]) (by omega) (by simp;omega)
        rw [List.filter_cons_of_pos (by simp [dropP,h1])]
        simp only [List.append_assoc,List.cons_append,List.nil_append] at hn
        exact hn
  refine call_of_wp zt348 rfl ?_
  repeat (first|apply wp_as|apply wp_ss|refine wr (by simp;with_reducible rfl) ?_|refine wq (by simp;with_reducible rfl) ?_|refine wt (by simpa) ?_|refine wf (by simpa) ?_|refine xt (by simpa) ?_|refine xf (by simpa) ?_|apply wp_bs|apply wp_b|refine wp_sr ?_|refine wp_sx ?_|refine wp_ret' ?_|refine wp_skip' ?_|refine wp_exit' ?_)
  refine wp_imp (loop es.length 0 [] [] (by simp) (by simp)) ?_
  rintro ex st ⟨rfl,B',rfl⟩
  simp only [if_true]
  repeat (first|apply wp_as|apply wp_ss|refine wr (by simp;with_reducible rfl) ?_|refine wq (by simp;with_reducible rfl) ?_|refine wt (by simpa) ?_|refine wf (by simpa) ?_|refine xt (by simpa) ?_|refine xf (by simpa) ?_|apply wp_bs|apply wp_b|refine wp_sr ?_|refine wp_sx ?_|refine wp_ret' ?_|refine wp_skip' ?_|refine wp_exit' ?_)
  simp [zi348]
def mayS (es:List (Int×Int)) (a b c d:Int):Bool:=decide (a ≠ c) && decide (b ≠ d) && decide (a ≠ d) && decide (b ≠ c) && has es a b && has es c d && !has es a c && !has es b d
theorem ev_maySwitch (n:Int) (es:List (Int×Int)) (cc:Bool) (a b c d:Int) (hl:es.length≤100000) :
    Ev tb zl362 [] [Gr n es cc,Sw a b c d] [] ⟨Bo (mayS es a b c d),[],[],[]⟩:=by
  have eh:=fun cc a b=>ev_lim (ev_hasEdge n es cc a b hl)
  by_cases h1:a=c
  · subst h1
    refine call_of_wp zt362 rfl ?_
    repeat (first|apply wp_as|apply wp_ss|refine wr (by simp;with_reducible rfl) ?_|refine wq (by simp;with_reducible rfl) ?_|refine wt (by simpa) ?_|refine wf (by simpa) ?_|refine xt (by simpa) ?_|refine xf (by simpa) ?_|apply wp_bs|apply wp_b|refine wp_sr ?_|refine wp_sx ?_|refine wp_ret' ?_|refine wp_skip' ?_|refine wp_exit' ?_)
    simp [zi362,mayS]
  by_cases h2:b=d
  · subst h2
    refine call_of_wp zt362 rfl ?_
    repeat (first|apply wp_as|apply wp_ss|refine wr (by simp [h1];with_reducible rfl) ?_|refine wq (by simp [h1];with_reducible rfl) ?_|refine wt (by simpa [h1]) ?_|refine wf (by simpa [h1]) ?_|refine xt (by simpa [h1]) ?_|refine xf (by simpa [h1]) ?_|apply wp_bs|apply wp_b|refine wp_sr ?_|refine wp_sx ?_|refine wp_ret' ?_|refine wp_skip' ?_|refine wp_exit' ?_)
    simp [zi362,mayS]
  by_cases h3:a=d
  · subst h3
    refine call_of_wp zt362 rfl ?_
    repeat (first|apply wp_as|apply wp_ss|refine wr (by simp [h1,h2];with_reducible rfl) ?_|refine wq (by simp [h1,h2];with_reducible rfl) ?_|refine wt (by simpa [h1,h2]) ?_|refine wf (by simpa [h1,h2]) ?_|refine xt (by simpa [h1,h2]) ?_|refine xf (by simpa [h1,h2]) ?_|apply wp_bs|apply wp_b|refine wp_sr ?_|refine wp_sx ?_|refine wp_ret' ?_|refine wp_skip' ?_|refine wp_exit' ?_)
    simp [zi362,mayS]
  by_cases h4:b=c
  · subst h4
    refine call_of_wp zt362 rfl ?_
    repeat (first|apply wp_as|apply wp_ss|refine wr (by simp [h1,h2,h3];with_reducible rfl) ?_|refine wq (by simp [h1,h2,h3];with_reducible rfl) ?_|refine wt (by simpa [h1,h2,h3]) ?_|refine wf (by simpa [h1,h2,h3]) ?_|refine xt (by simpa [h1,h2,h3]) ?_|refine xf (by simpa [h1,h2,h3]) ?_|apply wp_bs|apply wp_b|refine wp_sr ?_|refine wp_sx ?_|refine wp_ret' ?_|refine wp_skip' ?_|refine wp_exit' ?_)
    simp [zi362,mayS]
  have hd:mayS es a b c d=(has es a b && has es c d && !has es a c && !has es b d):=by simp [mayS,h1,h2,h3,h4]
  rw [hd]
  cases k1:has es a b with
  | false =>
    refine call_of_wp zt362 rfl ?_
    repeat (first|apply wp_as|apply wp_ss|refine wr (by simp [h1,h2,h3,h4,eh,k1];with_reducible rfl) ?_|refine wq (by simp [h1,h2,h3,h4,eh,k1];with_reducible rfl) ?_|refine wt (by simpa [h1,h2,h3,h4,eh,k1]) ?_|refine wf (by simpa [h1,h2,h3,h4,eh,k1]) ?_|refine xt (by simpa [h1,h2,h3,h4,eh,k1]) ?_|refine xf (by simpa [h1,h2,h3,h4,eh,k1]) ?_|apply wp_bs|apply wp_b|refine wp_sr ?_|refine wp_sx ?_|refine wp_ret' ?_|refine wp_skip' ?_|refine wp_exit' ?_)
    simp [zi362]
  | true =>
  cases k2:has es c d with
  | false =>
    refine call_of_wp zt362 rfl ?_
    repeat (first|apply wp_as|apply wp_ss|refine wr (by simp [h1,h2,h3,h4,eh,k1,k2];with_reducible rfl) ?_|refine wq (by simp [h1,h2,h3,h4,eh,k1,k2];with_reducible rfl) ?_|refine wt (by simpa [h1,h2,h3,h4,eh,k1,k2]) ?_|refine wf (by simpa [h1,h2,h3,h4,eh,k1,k2]) ?_|refine xt (by simpa [h1,h2,h3,h4,eh,k1,k2]) ?_|refine xf (by simpa [h1,h2,h3,h4,eh,k1,k2]) ?_|apply wp_bs|apply wp_b|refine wp_sr ?_|refine wp_sx ?_|refine wp_ret' ?_|refine wp_skip' ?_|refine wp_exit' ?_)
    simp [zi362]
  | true =>
  cases k3:has es a c with
  | true =>
    refine call_of_wp zt362 rfl ?_
    repeat (first|apply wp_as|apply wp_ss|refine wr (by simp [h1,h2,h3,h4,eh,k1,k2,k3];with_reducible rfl) ?_|refine wq (by simp [h1,h2,h3,h4,eh,k1,k2,k3];with_reducible rfl) ?_|refine wt (by simpa [h1,h2,h3,h4,eh,k1,k2,k3]) ?_|refine wf (by simpa [h1,h2,h3,h4,eh,k1,k2,k3]) ?_|refine xt (by simpa [h1,h2,h3,h4,eh,k1,k2,k3]) ?_|refine xf (by simpa [h1,h2,h3,h4,eh,k1,k2,k3]) ?_|apply wp_bs|apply wp_b|refine wp_sr ?_|refine wp_sx ?_|refine wp_ret' ?_|refine wp_skip' ?_|refine wp_exit' ?_)
    simp [zi362]
  | false =>
  refine call_of_wp zt362 rfl ?_
  repeat (first|apply wp_as|apply wp_ss|refine wr (by simp [h1,h2,h3,h4,eh,k1,k2,k3];with_reducible rfl) ?_|refine wq (by simp [h1,h2,h3,h4,eh,k1,k2,k3];with_reducible rfl) ?_|refine wt (by simpa [h1,h2,h3,h4,eh,k1,k2,k3]) ?_|refine wf (by simpa [h1,h2,h3,h4,eh,k1,k2,k3]) ?_|refine xt (by simpa [h1,h2,h3,h4,eh,k1,k2,k3]) ?_|refine xf (by simpa [h1,h2,h3,h4,eh,k1,k2,k3]) ?_|apply wp_bs|apply wp_b|refine wp_sr ?_|refine wp_sx ?_|refine wp_ret' ?_|refine wp_skip' ?_|refine wp_exit' ?_)
  simp [zi362]
theorem dropE_len (a b:Int) (es:List (Int×Int)):(dropE a b es).length≤es.length:=List.length_filter_le _ _
def swS (es:List (Int×Int)) (a b c d:Int):List (Int×Int):=insE (min b d,max b d) (insE (min a c,max a c) (dropE c d (dropE a b es)))
theorem ev_switched (n:Int) (es:List (Int×Int)) (cc:Bool) (a b c d:Int) (hl:es.length≤100000) :
    Ev tb zl383 [] [Gr n es cc,Sw a b c d] [] ⟨OG n (swS es a b c d),[],[],[]⟩:=by
  have g1:=dropE_len a b es
  have g2:=dropE_len c d (dropE a b es)
  have g3:=insE_len (min a c,max a c) (dropE c d (dropE a b es))
  have e1:=fun cc=>ev_lim (ev_dropEdge n es cc a b hl)
  have e2:=fun cc=>ev_lim (ev_dropEdge n (dropE a b es) cc c d (by omega))
  have e3:=fun cc=>ev_lim (ev_addEdge n (dropE c d (dropE a b es)) cc a c (by omega))
  have e4:=fun cc=>ev_lim (ev_addEdge n (insE (min a c,max a c) (dropE c d (dropE a b es))) cc b d (by omega))
  rw [swS]
  generalize insE (min b d,max b d) (insE (min a c,max a c) (dropE c d (dropE a b es)))=x4 at *
  generalize insE (min a c,max a c) (dropE c d (dropE a b es))=x3 at *
  generalize dropE c d (dropE a b es)=x2 at *
  generalize dropE a b es=x1 at *
  refine call_of_wp zt383 rfl ?_
  repeat (first|apply wp_as|apply wp_ss|refine wr (by simp;with_reducible rfl) ?_|refine wq (by simp;with_reducible rfl) ?_|refine wt (by simpa) ?_|refine wf (by simpa) ?_|refine xt (by simpa) ?_|refine xf (by simpa) ?_|apply wp_bs|apply wp_b|refine wp_sr ?_|refine wp_sx ?_|refine wp_ret' ?_|refine wp_skip' ?_|refine wp_exit' ?_)
  refine wp_rds0 rfl (by simp [e1,e2,e3,e4];with_reducible rfl) (by simp;with_reducible rfl) ?_
  repeat (first|apply wp_as|apply wp_ss|refine wr (by simp;with_reducible rfl) ?_|refine wq (by simp;with_reducible rfl) ?_|refine wt (by simpa) ?_|refine wf (by simpa) ?_|refine xt (by simpa) ?_|refine xf (by simpa) ?_|apply wp_bs|apply wp_b|refine wp_sr ?_|refine wp_sx ?_|refine wp_ret' ?_|refine wp_skip' ?_|refine wp_exit' ?_)
  simp [zi383]
end Go.Idl
namespace Go.Idl
open Go
structure SmallG (n:Int) (es:List (Int×Int)):Prop where
  n1:-1≤n
  n2:n≤8
  len:es.length≤60
  el:∀ e ∈ es,-1≤e.1∧e.1≤8∧-1≤e.2∧e.2≤8
theorem SmallG.fit {n es} (h:SmallG n es):Fit es:=fun e he=>by have:=h.el e he;omega
end Go.Idl
namespace Go.Idl
open Go
abbrev Q4:=Int×Int×Int×Int
def sws (xs:List Q4):List (List IV):=xs.map fun s=>[I s.1,I s.2.1,I s.2.2.1,I s.2.2.2]
abbrev O4 (xs:List Q4):IV:=.own 4 (sws xs)
@[simp] theorem sws_len (xs:List Q4):(sws xs).length=xs.length:=by simp [sws]
@[simp] theorem sws_nil:sws []=[]:=rfl
@[simp] theorem sws_take (xs:List Q4) (n:Nat):(sws xs).take n=sws (xs.take n):=by simp [sws,List.map_take]
@[simp] theorem sws_drop (xs:List Q4) (n:Nat):(sws xs).drop n=sws (xs.drop n):=by simp [sws,List.map_drop]
@[simp] theorem sws_one (xs:List Q4) (a b c d:Int):sws xs++[[IV.sc (.int .i64 a),IV.sc (.int .i64 b),IV.sc (.int .i64 c),IV.sc (.int .i64 d)]]=sws (xs++[(a,b,c,d)]):=by simp [sws]
@[simp] theorem sws_get (xs:List Q4) (i:Nat) (h:i < (sws xs).length):(sws xs)[i]=[IV.sc (.int .i64 (xs[i]'(by simpa [sws] using h)).1),IV.sc (.int .i64 (xs[i]'(by simpa [sws] using h)).2.1),IV.sc (.int .i64 (xs[i]'(by simpa [sws] using h)).2.2.1),IV.sc (.int .i64 (xs[i]'(by simpa [sws] using h)).2.2.2)]:=by simp [sws]
@[simp] theorem sws_get? (xs:List Q4) (i:Nat):(sws xs)[i]? = xs[i]?.map fun s=>[IV.sc (.int .i64 s.1),IV.sc (.int .i64 s.2.1),IV.sc (.int .i64 s.2.2.1),IV.sc (.int .i64 s.2.2.2)]:=by simp [sws]
@[simp] theorem sws_all1 (xs:List Q4):((sws xs).all fun x=>x.all IV.plain1)=true:=by
  induction xs with
  | nil=>rfl
  | cons x xs ih=>simp only [sws,List.map_cons,List.all_cons] at *;rw [ih];rfl
@[simp] theorem sws_all2 (xs:List Q4):((sws xs).all fun x=>x.all IV.isData)=true:=by
  induction xs with
  | nil=>rfl
  | cons x xs ih=>simp only [sws,List.map_cons,List.all_cons] at *;rw [ih];rfl
@[simp] theorem sws_noLst (xs:List Q4):noLstLL (sws xs)=true:=by
  induction xs with
  | nil=>rfl
  | cons x xs ih=>simp only [sws,List.map_cons,noLstLL,noLstL,noLstV] at *;rw [ih];rfl
@[simp] theorem frz_sws (xs:List Q4):frzLL (sws xs)=sws xs:=by
  induction xs with
  | nil=>rfl
  | cons x xs ih=>simp only [sws,List.map_cons,frzLL,frzL,frzV] at *;rw [ih]
end Go.Idl
namespace Go.Idl
open Go
def tab (t:List (List Int)):List (List IV):=t.map fun r=>[.lst 1 (ints r) false]
def oab (t:List (List Int)):List (List IV):=t.map fun r=>[.own 1 (ints r)]
@[simp] theorem tab_len (t:List (List Int)):(tab t).length=t.length:=by simp [tab]
@[simp] theorem oab_len (t:List (List Int)):(oab t).length=t.length:=by simp [oab]
@[simp] theorem oab_nil:oab []=[]:=rfl
@[simp] theorem tab_get? (t:List (List Int)) (i:Nat):(tab t)[i]? = t[i]?.map fun r=>[IV.lst 1 (ints r) false]:=by simp [tab]
@[simp] theorem tab_get (t:List (List Int)) (i:Nat) (h:i < (tab t).length):(tab t)[i]=[IV.lst 1 (ints (t[i]'(by simpa [tab] using h))) false]:=by simp [tab]
@[simp] theorem oab_get? (t:List (List Int)) (i:Nat):(oab t)[i]? = t[i]?.map fun r=>[IV.own 1 (ints r)]:=by simp [oab]
@[simp] theorem oab_get (t:List (List Int)) (i:Nat) (h:i < (oab t).length):(oab t)[i]=[IV.own 1 (ints (t[i]'(by simpa [oab] using h)))]:=by simp [oab]
@[simp] theorem oab_one (t:List (List Int)) (r:List Int):oab t++[[IV.own 1 (ints r)]]=oab (t++[r]):=by simp [oab]
@[simp] theorem oab_set (t:List (List Int)) (i:Nat) (r:List Int):(oab t).set i [IV.own 1 (ints r)]=oab (t.set i r):=by simp [oab,List.map_set]
@[simp] theorem oab_take (t:List (List Int)) (n:Nat):(oab t).take n=oab (t.take n):=by simp [oab,List.map_take]
@[simp] theorem frz_oab (t:List (List Int)):frzLL (oab t)=tab t:=by
  induction t with
  | nil=>rfl
  | cons x xs ih =>
    simp only [oab,tab,List.map_cons,frzLL,frzL,frzV] at *
    rw [ih]
    have:frzLL (ints x)=ints x:=by
      clear ih
      induction x with
      | nil=>rfl
      | cons y ys ih=>simp only [ints,List.map_cons,frzLL,frzL,frzV] at *;rw [ih]
    rw [this]
@[simp] theorem tab_all1 (t:List (List Int)):((tab t).all fun x=>x.all IV.plain1)=true:=by
  induction t with
  | nil=>rfl
  | cons x xs ih=>simp only [tab,List.map_cons,List.all_cons] at *;rw [ih];rfl
@[simp] theorem oab_noLst (t:List (List Int)):noLstLL (oab t)=true:=by
  induction t with
  | nil=>rfl
  | cons x xs ih =>
    simp only [oab,List.map_cons,noLstLL,noLstL,noLstV] at *
    rw [ih,ints_noLst];rfl
def g2 (t:List (List Int)) (a b:Nat):Int:=(t.getD a []).getD b 0
end Go.Idl
namespace Go.Idl
open Go
def asc0 (s:List Int):List Int:=(fall s).reverse
def overT (s:List Int) (i:Nat):Int:=((asc0 s).take (i+1)).sum - ((i:Int)+1) * i / 2
def over (s:List Int):List Int:=mapR s.length (overT s)
end Go.Idl
namespace Go.Idl
open Go
theorem sum01 (r:List Int) (h:∀ x ∈ r,0≤x∧x≤1):0≤r.sum∧r.sum≤r.length:=by
  induction r with
  | nil=>simp
  | cons x xs ih =>
    have h1:=h x (by simp)
    have h2:=ih fun y hy=>h y (by simp [hy])
    simp only [List.sum_cons,List.length_cons];omega
end Go.Idl
namespace Go.Idl
open Go
abbrev L4 (xs:List Q4) (c:Bool):IV:=.lst 4 (sws xs) c
def runI:List (Int×Int)→List Q4→Option (List (Int×Int))
  | es,[]=>some es
  | es,s::r=>if mayI es s.1 s.2.1 s.2.2.1 s.2.2.2 then runI (sw es s.1 s.2.1 s.2.2.1 s.2.2.2) r else none
def runS:List (Int×Int)→List Q4→Option (List (Int×Int))
  | es,[]=>some es
  | es,s::r=>if mayS es s.1 s.2.1 s.2.2.1 s.2.2.2 then runS (swS es s.1 s.2.1 s.2.2.1 s.2.2.2) r else none
abbrev OR (n:Int) (o:Option (List (Int×Int))):IV:=match o with
  | some x=>.tup [OG n x,Bo true]
  | none=>.tup [.agg [I 0,Z],Bo false]
set_option maxHeartbeats 4000000 in
theorem runI_loop (n:Nat) (es:List (Int×Int)) (cc c:Bool) (l:List Q4) (hl:l.length≤2000000) :
    ∀ (m j:Nat) (es':List (Int×Int)) (B:Boxes),j+m=l.length→vGraph n es'=true →
    wp tb (.loop z196l12) { T:=[(1,L4 l c),(4,.bptr 0 1 0),(6,.bptr 0 2 0),(21,L4 l c),(22,I l.length),(23,I j)],loc:=[I n,L2 es cc]::[I 0,Z]::[I n,O2 es']::B,M:=[] }
      (fun ex st=>match runI es' (l.drop j) with
        | some x=>ex=.exit 0∧∃ B',st={ T:=[(1,L4 l c),(4,.bptr 0 1 0),(6,.bptr 0 2 0),(21,L4 l c),(22,I l.length),(23,I l.length),(24,Bo false)],loc:=[I n,L2 es cc]::[I 0,Z]::[I n,O2 x]::B',M:=[] }
        | none=>ex=.ret∧∃ B',st={ T:=[(4,.bptr 0 1 0),(5,Bo false)],loc:=[I n,L2 es cc]::[I 0,Z]::B',M:=[] }):=by
  intro m
  induction m with
  | zero =>
    intro j es' B hj hv
    have h3:j=l.length:=hj
    subst h3
    have h2:l.drop l.length=[]:=List.drop_length
    rw [h2]
    refine wp_loop ?_
    repeat (first|apply wp_as|apply wp_ss|refine wr (by simp;with_reducible rfl) ?_|refine wq (by simp;with_reducible rfl) ?_|refine wt (by simpa) ?_|refine wf (by simpa) ?_|refine xt (by simpa) ?_|refine xf (by simpa) ?_|apply wp_bs|apply wp_b|refine wp_sr ?_|refine wp_sx ?_|refine wp_ret' ?_|refine wp_skip' ?_|refine wp_exit' ?_)
    exact ⟨rfl,_,rfl⟩
  | succ m ih =>
    intro j es' B hj hv
    have hjl:j < l.length:=by omega
    have h2:l.drop j=l[j]::l.drop (j+1):=List.drop_eq_getElem_cons hjl
    obtain ⟨⟨a,b,x,d⟩,hx⟩:∃ x,x=l[j]:=⟨_,rfl⟩
    have hx2:=hx.symm
    have w2:IntKind.i64.wrap ((j:Int)+1)=((j+1:Nat):Int):=wrapS (by omega)
    have e1:=fun cc=>ev_lim (ev_change n es' cc a b x d hv)
    rw [h2,hx2,runI]
    cases hm:mayI es' a b x d with
    | false =>
      simp only [OS,hm,Bool.false_eq_true,if_false] at e1
      refine wp_loop ?_
      repeat (first|apply wp_as|apply wp_ss|refine wr (by simp [hjl,hx2,e1,w2];with_reducible rfl) ?_|refine wq (by simp [hjl,hx2,e1,w2];with_reducible rfl) ?_|refine wt (by simpa [hjl,hx2,e1,w2]) ?_|refine wf (by simpa [hjl,hx2,e1,w2]) ?_|refine xt (by simpa [hjl,hx2,e1,w2]) ?_|refine xf (by simpa [hjl,hx2,e1,w2]) ?_|apply wp_bs|apply wp_b|refine wp_sr ?_|refine wp_sx ?_|refine wp_ret' ?_|refine wp_skip' ?_|refine wp_exit' ?_)
      exact ⟨rfl,_,rfl⟩
    | true =>
      simp only [OS,hm,if_true] at e1
      obtain ⟨-,-,q3,-⟩:=swX_ok hv hm
      have hn:=fun B=>ih (j+1) (sw es' a b x d) B (by omega) q3
      refine wp_loop ?_
      repeat (first|apply wp_as|apply wp_ss|refine wr (by simp [hjl,hx2,e1,w2];with_reducible rfl) ?_|refine wq (by simp [hjl,hx2,e1,w2];with_reducible rfl) ?_|refine wt (by simpa [hjl,hx2,e1,w2]) ?_|refine wf (by simpa [hjl,hx2,e1,w2]) ?_|refine xt (by simpa [hjl,hx2,e1,w2]) ?_|refine xf (by simpa [hjl,hx2,e1,w2]) ?_|apply wp_bs|apply wp_b|refine wp_sr ?_|refine wp_sx ?_|refine wp_ret' ?_|refine wp_skip' ?_|refine wp_exit' ?_)
      exact hn _
set_option maxHeartbeats 4000000 in
theorem ev_RunSwitches (n:Nat) (es:List (Int×Int)) (cc:Bool) (l:List Q4) (c:Bool) (hv:vGraph n es=true) (f1:Fit es) (l1:es.length≤2000000) (hl:l.length≤2000000) :
    Ev tb zl196 [] [Gr n es cc,L4 l c] [] ⟨OR n (runI es l),[],[],[]⟩:=by
  have e1:=fun c=>ev_lim (ev_ValidGraph n es c f1 (by omega))
  rw [hv] at e1
  have e2:=fun c=>ev_lim (ev_clone2 2 es c (.inl rfl) (by omega))
  have loop:=runI_loop n es cc c l hl l.length 0 es [] (by omega) hv
  rw [List.drop_zero] at loop
  refine call_of_wp zt196 rfl ?_
  repeat (first|apply wp_as|apply wp_ss|refine wr (by simp [e1];with_reducible rfl) ?_|refine wq (by simp [e1];with_reducible rfl) ?_|refine wt (by simpa [e1]) ?_|refine wf (by simpa [e1]) ?_|refine xt (by simpa [e1]) ?_|refine xf (by simpa [e1]) ?_|apply wp_bs|apply wp_b|refine wp_sr ?_|refine wp_sx ?_|refine wp_ret' ?_|refine wp_skip' ?_|refine wp_exit' ?_)
  refine wp_rds0 rfl (by simp [e2];with_reducible rfl) (by simp;with_reducible rfl) ?_
  repeat (first|apply wp_as|apply wp_ss|refine wr (by simp;with_reducible rfl) ?_|refine wq (by simp;with_reducible rfl) ?_|refine wt (by simpa) ?_|refine wf (by simpa) ?_|refine xt (by simpa) ?_|refine xf (by simpa) ?_|apply wp_bs|apply wp_b|refine wp_sr ?_|refine wp_sx ?_|refine wp_ret' ?_|refine wp_skip' ?_|refine wp_exit' ?_)
  refine wp_imp loop ?_
  intro ex st hst
  cases hr:runI es l with
  | none =>
    rw [hr] at hst
    obtain ⟨rfl,B',rfl⟩:=hst
    simp [zi196]
  | some x =>
    rw [hr] at hst
    obtain ⟨rfl,B',rfl⟩:=hst
    repeat (first|apply wp_as|apply wp_ss|refine wr (by simp;with_reducible rfl) ?_|refine wq (by simp;with_reducible rfl) ?_|refine wt (by simpa) ?_|refine wf (by simpa) ?_|refine xt (by simpa) ?_|refine xf (by simpa) ?_|apply wp_bs|apply wp_b|refine wp_sr ?_|refine wp_sx ?_|refine wp_ret' ?_|refine wp_skip' ?_|refine wp_exit' ?_)
    simp [zi196]
theorem ev_RunSwitches_no (n:Int) (es:List (Int×Int)) (cc:Bool) (x:IV) (hx:x=Z ∨ ∃ l c,x=L4 l c) (hv:vGraph n es=false) (f1:Fit es) (l1:es.length≤2000000) :
    Ev tb zl196 [] [Gr n es cc,x] [] ⟨.tup [.agg [I 0,Z],Bo false],[],[],[]⟩:=by
  have e1:=fun c=>ev_lim (ev_ValidGraph n es c f1 (by omega))
  rw [hv] at e1
  rcases hx with rfl | ⟨l,c,rfl⟩ <;>
  · refine call_of_wp zt196 rfl ?_
    repeat (first|apply wp_as|apply wp_ss|refine wr (by simp [e1];with_reducible rfl) ?_|refine wq (by simp [e1];with_reducible rfl) ?_|refine wt (by simpa [e1]) ?_|refine wf (by simpa [e1]) ?_|refine xt (by simpa [e1]) ?_|refine xf (by simpa [e1]) ?_|apply wp_bs|apply wp_b|refine wp_sr ?_|refine wp_sx ?_|refine wp_ret' ?_|refine wp_skip' ?_|refine wp_exit' ?_)
    simp [zi196]
end Go.Idl
namespace Go.Idl
open Go Go.ChangeShapes Go.WideShapes Go.Deep
theorem tabS_eds (len:Nat) (f:Nat→Int):tabS 2 len f=eds ((List.range len).map fun i=>(f (i * 2),f (i * 2+1))):=by
  rw [tabS,eds,List.map_map]
  exact List.map_congr_left fun i _=>by simp [List.range_succ]
theorem tabS_sws (len:Nat) (f:Nat→Int):tabS 4 len f=sws ((List.range len).map fun i=>(f (i * 4),f (i * 4+1),f (i * 4+2),f (i * 4+3))):=by
  rw [tabS,sws,List.map_map]
  exact List.map_congr_left fun i _=>by simp [List.range_succ]
section
variable {H:Type} {enc:TypeId×Value→H} {P:Program} {w:World} {base:Nat} {spare:Nat→Bool} {held:Bool}
theorem graph_in {t0 t e:TypeId} {fs:Array Field} {n1 n2:Nat} {u0 u1:Value} {y0 y1:DataW H×List MemPlace} (hi:P.underlying t0=some (.int .i64)) (g0:DataW.trod enc P w base spare held n1 t0 [u0]=some y0)
    (ht:P.underlying t=some (.slice e)) (he:P.underlying e=some (.struct fs)) (hone:(oneCellFields P fs && (P.cellsOf e == 2))=true) (hsz:fs.size=2) (hk:intF P fs=true)
    (g1:DataW.trod enc P w base spare held n2 t [u1]=some y1):∃ (n:Int) (es:List (Int×Int)),Fit es∧es.length < 9223372036854775808∧ArgR w (Gr n es false) (.agg #[u0,u1]):=by
  simp only [Bool.and_eq_true,beq_iff_eq] at hone
  obtain ⟨z,hz,-,-⟩:=DataW.trod_int hi g0
  obtain ⟨a,len,cap,f,hcs,hl,hr,hd⟩:=open_rows ht he hone.1 (by rw [hone.2,hsz]) (by omega) hk g1
  simp only [List.cons.injEq,and_true] at hz hcs
  subst hz hcs
  rw [hsz,tabS_eds] at hd
  refine ⟨z,_,fun x hx=>?_,by simpa using hl,arg_pair rfl hd⟩
  obtain ⟨i,-,rfl⟩:=List.mem_map.1 hx
  exact ⟨(hr _).1,(hr _).2,(hr _).1,(hr _).2⟩
theorem switches_in {t e:TypeId} {fs:Array Field} {n2:Nat} {u1:Value} {y1:DataW H×List MemPlace}
    (ht:P.underlying t=some (.slice e)) (he:P.underlying e=some (.struct fs)) (hone:(oneCellFields P fs && (P.cellsOf e == 4))=true) (hsz:fs.size=4) (hk:intF P fs=true)
    (g1:DataW.trod enc P w base spare held n2 t u1.cells.toList=some y1) (hs:∃ a l c,u1=.slice a l c):∃ (l:List Q4),l.length < 9223372036854775808∧ArgR w (L4 l false) u1:=by
  simp only [Bool.and_eq_true,beq_iff_eq] at hone
  obtain ⟨a,l,c,rfl⟩:=hs
  obtain ⟨a,len,cap,f,hcs,hl,hr,hd⟩:=open_rows ht he hone.1 (by rw [hone.2,hsz]) (by omega) hk g1
  simp [Value.cells] at hcs
  obtain ⟨rfl,rfl,rfl⟩:=hcs
  rw [hsz,tabS_sws] at hd
  exact ⟨_,by simpa using hl,.one hd⟩
end
end Go.Idl
namespace Go.Idl
open Go
@[simp] theorem fi_cons (p:IV→Bool) (x:IV) (xs:List IV):(x::xs).findIdx? p=if p x then some 0 else (xs.findIdx? p).map (·+1):=List.findIdx?_cons
@[simp] theorem eds_rep (n:Nat):List.replicate n [IV.sc (.int .i64 0),IV.sc (.int .i64 0)]=eds (List.replicate n (0,0)):=by simp [eds]
theorem ev_toEdge (a b:Int):Ev tb zl62 [] [.agg [I a,I b]] [] ⟨.agg [I a,I b],[],[],[]⟩:=by
  refine call_of_wp zt62 rfl ?_
  repeat (first|apply wp_as|apply wp_ss|refine wr (by simp;with_reducible rfl) ?_|refine wq (by simp;with_reducible rfl) ?_|refine wt (by simpa) ?_|refine wf (by simpa) ?_|refine xt (by simpa) ?_|refine xf (by simpa) ?_|apply wp_bs|apply wp_b|refine wp_sr ?_|refine wp_sx ?_|refine wp_ret' ?_|refine wp_skip' ?_|refine wp_exit' ?_)
  simp [zi62]
theorem toE_loop (a:List (Int×Int)) (c:Bool) (hl:a.length≤2000000):∀ (m i:Nat) (A:List (Int×Int)),i+m=a.length→A.length=a.length→A.take i=a.take i →
    wp tb (.loop z63l6) { T:=[(0,L2 a c),(3,O2 A),(4,I i)],loc:=[],M:=[] }
      (fun ex st=>ex=.exit 0∧st={ T:=[(0,L2 a c),(3,O2 a),(4,I a.length),(11,Bo false)],loc:=[],M:=[] }):=by
  intro m
  induction m with
  | zero =>
    intro i A hi hA ht
    have h3:i=a.length:=hi
    subst h3
    rw [List.take_of_length_le (by omega),List.take_of_length_le (by omega)] at ht
    rw [ht]
    refine wp_loop ?_
    repeat (first|apply wp_as|apply wp_ss|refine wr (by simp;with_reducible rfl) ?_|refine wq (by simp;with_reducible rfl) ?_|refine wt (by simpa) ?_|refine wf (by simpa) ?_|refine xt (by simpa) ?_|refine xf (by simpa) ?_|apply wp_bs|apply wp_b|refine wp_sr ?_|refine wp_sx ?_|refine wp_ret' ?_|refine wp_skip' ?_|refine wp_exit' ?_)
    exact ⟨rfl,rfl⟩
  | succ m ih =>
    intro i A hi hA ht
    have hi2:i < a.length:=by omega
    have hi3:i < A.length:=by omega
    have w2:IntKind.i64.wrap ((i:Int)+1)=((i+1:Nat):Int):=wrapS (by omega)
    have hg:=ih (i+1) (A.set i a[i]) (by omega) (by simpa using hA) (by
      rw [List.take_succ_eq_append_getElem (by simpa using hi3),List.take_succ_eq_append_getElem hi2,List.take_set_of_le (Nat.le_refl _),ht];simp)
    obtain ⟨⟨p,q⟩,hx⟩:∃ x,x=a[i]:=⟨_,rfl⟩
    have hx:=hx.symm
    rw [hx] at hg
    have e1:=ev_lim (ev_toEdge p q)
    refine wp_loop ?_
    repeat (first|apply wp_as|apply wp_ss|refine wr (by simp [hi2,hi3,w2,hx,e1];with_reducible rfl) ?_|refine wq (by simp [hi2,hi3,w2,hx,e1];with_reducible rfl) ?_|refine wt (by simpa [hi2,hi3,w2,hx,e1]) ?_|refine wf (by simpa [hi2,hi3,w2,hx,e1]) ?_|refine xt (by simpa [hi2,hi3,w2,hx,e1]) ?_|refine xf (by simpa [hi2,hi3,w2,hx,e1]) ?_|apply wp_bs|apply wp_b|refine wp_sr ?_|refine wp_sx ?_|refine wp_ret' ?_|refine wp_skip' ?_|refine wp_exit' ?_)
    exact hg
theorem ev_toEdgeS (a:List (Int×Int)) (c:Bool) (hl:a.length≤2000000):Ev tb zl63 [] [L2 a c] [] ⟨O2 a,[],[],[]⟩:=by
  have hlo:=toE_loop a c hl a.length 0 (List.replicate a.length (0,0)) (by omega) (by simp) (by simp)
  rw [show ((0:Nat):Int)=0 from rfl] at hlo
  have hl2:a.length≤274877906944:=by omega
  refine call_of_wp zt63 rfl ?_
  repeat (first|apply wp_as|apply wp_ss|refine wr (by simp [hl2];with_reducible rfl) ?_|refine wq (by simp [hl2];with_reducible rfl) ?_|refine wt (by simpa [hl2]) ?_|refine wf (by simpa [hl2]) ?_|refine xt (by simpa [hl2]) ?_|refine xf (by simpa [hl2]) ?_|apply wp_bs|apply wp_b|refine wp_sr ?_|refine wp_sx ?_|refine wp_ret' ?_|refine wp_skip' ?_|refine wp_exit' ?_)
  refine wp_imp hlo ?_
  rintro ex st ⟨rfl,rfl⟩
  try simp only [if_true]
  repeat (first|apply wp_as|apply wp_ss|refine wr (by simp;with_reducible rfl) ?_|refine wq (by simp;with_reducible rfl) ?_|refine wt (by simpa) ?_|refine wf (by simpa) ?_|refine xt (by simpa) ?_|refine xf (by simpa) ?_|apply wp_bs|apply wp_b|refine wp_sr ?_|refine wp_sx ?_|refine wp_ret' ?_|refine wp_skip' ?_|refine wp_exit' ?_)
  simp [zi63]
theorem ev_toGraph (n:Int) (a:List (Int×Int)) (c:Bool) (hl:a.length≤2000000):Ev tb zl64 [] [Gr n a c] [] ⟨OG n a,[],[],[]⟩:=by
  have e1:=fun c=>ev_lim (ev_toEdgeS a c hl)
  refine call_of_wp zt64 rfl ?_
  repeat (first|apply wp_as|apply wp_ss|refine wr (by simp [e1];with_reducible rfl) ?_|refine wq (by simp [e1];with_reducible rfl) ?_|refine wt (by simpa [e1]) ?_|refine wf (by simpa [e1]) ?_|refine xt (by simpa [e1]) ?_|refine xf (by simpa [e1]) ?_|apply wp_bs|apply wp_b|refine wp_sr ?_|refine wp_sx ?_|refine wp_ret' ?_|refine wp_skip' ?_|refine wp_exit' ?_)
  simp [zi64]
theorem ev_eqEdge (a b:Int):Ev tb zl48 [] [.agg [I a,I b],.agg [I a,I b]] [] ⟨Bo true,[],[],[]⟩:=by
  refine call_of_wp zt48 rfl ?_
  repeat (first|apply wp_as|apply wp_ss|refine wr (by simp;with_reducible rfl) ?_|refine wq (by simp;with_reducible rfl) ?_|refine wt (by simpa) ?_|refine wf (by simpa) ?_|refine xt (by simpa) ?_|refine xf (by simpa) ?_|apply wp_bs|apply wp_b|refine wp_sr ?_|refine wp_sx ?_|refine wp_ret' ?_|refine wp_skip' ?_|refine wp_exit' ?_)
  simp [zi48]
theorem eqE_loop (a:List (Int×Int)) (c d:Bool) (hl:a.length≤2000000):∀ (m i:Nat),i+m=a.length →
    wp tb (.loop z49l8) { T:=[(0,L2 a c),(1,L2 a d),(5,I i)],loc:=[],M:=[] }
      (fun ex st=>ex=.exit 0∧st={ T:=[(0,L2 a c),(1,L2 a d),(5,I a.length),(14,Bo false)],loc:=[],M:=[] }):=by
  intro m
  induction m with
  | zero =>
    intro i hi
    have h3:i=a.length:=hi
    subst h3
    refine wp_loop ?_
    repeat (first|apply wp_as|apply wp_ss|refine wr (by simp;with_reducible rfl) ?_|refine wq (by simp;with_reducible rfl) ?_|refine wt (by simpa) ?_|refine wf (by simpa) ?_|refine xt (by simpa) ?_|refine xf (by simpa) ?_|apply wp_bs|apply wp_b|refine wp_sr ?_|refine wp_sx ?_|refine wp_ret' ?_|refine wp_skip' ?_|refine wp_exit' ?_)
    exact ⟨rfl,rfl⟩
  | succ m ih =>
    intro i hi
    have hi2:i < a.length:=by omega
    have w2:IntKind.i64.wrap ((i:Int)+1)=((i+1:Nat):Int):=wrapS (by omega)
    have hg:=ih (i+1) (by omega)
    obtain ⟨⟨p,q⟩,hx⟩:∃ x,x=a[i]:=⟨_,rfl⟩
    have hx:=hx.symm
    have e1:=ev_lim (ev_eqEdge p q)
    refine wp_loop ?_
    repeat (first|apply wp_as|apply wp_ss|refine wr (by simp [hi2,w2,hx,e1];with_reducible rfl) ?_|refine wq (by simp [hi2,w2,hx,e1];with_reducible rfl) ?_|refine wt (by simpa [hi2,w2,hx,e1]) ?_|refine wf (by simpa [hi2,w2,hx,e1]) ?_|refine xt (by simpa [hi2,w2,hx,e1]) ?_|refine xf (by simpa [hi2,w2,hx,e1]) ?_|apply wp_bs|apply wp_b|refine wp_sr ?_|refine wp_sx ?_|refine wp_ret' ?_|refine wp_skip' ?_|refine wp_exit' ?_)
    exact hg
theorem ev_eqEdgeS (a:List (Int×Int)) (c d:Bool) (hl:a.length≤2000000):Ev tb zl49 [] [L2 a c,L2 a d] [] ⟨Bo true,[],[],[]⟩:=by
  have hlo:=eqE_loop a c d hl a.length 0 (by omega)
  rw [show ((0:Nat):Int)=0 from rfl] at hlo
  refine call_of_wp zt49 rfl ?_
  repeat (first|apply wp_as|apply wp_ss|refine wr (by simp;with_reducible rfl) ?_|refine wq (by simp;with_reducible rfl) ?_|refine wt (by simpa) ?_|refine wf (by simpa) ?_|refine xt (by simpa) ?_|refine xf (by simpa) ?_|apply wp_bs|apply wp_b|refine wp_sr ?_|refine wp_sx ?_|refine wp_ret' ?_|refine wp_skip' ?_|refine wp_exit' ?_)
  refine wp_imp hlo ?_
  rintro ex st ⟨rfl,rfl⟩
  try simp only [if_true]
  repeat (first|apply wp_as|apply wp_ss|refine wr (by simp;with_reducible rfl) ?_|refine wq (by simp;with_reducible rfl) ?_|refine wt (by simpa) ?_|refine wf (by simpa) ?_|refine xt (by simpa) ?_|refine xf (by simpa) ?_|apply wp_bs|apply wp_b|refine wp_sr ?_|refine wp_sx ?_|refine wp_ret' ?_|refine wp_skip' ?_|refine wp_exit' ?_)
  simp [zi49]
theorem ev_eqEdgeS_Z (x y:IV) (hx:x=Z ∨ ∃ c,x=L2 [] c) (hy:y=Z ∨ ∃ c,y=L2 [] c):Ev tb zl49 [] [x,y] [] ⟨Bo true,[],[],[]⟩:=by
  rcases hx with rfl | ⟨c,rfl⟩ <;> rcases hy with rfl | ⟨d,rfl⟩ <;>
  · refine call_of_wp zt49 rfl ?_
    repeat (first|apply wp_as|apply wp_ss|refine wr (by simp;with_reducible rfl) ?_|refine wq (by simp;with_reducible rfl) ?_|refine wt (by simpa) ?_|refine wf (by simpa) ?_|refine xt (by simpa) ?_|refine xf (by simpa) ?_|apply wp_bs|apply wp_b|refine wp_sr ?_|refine wp_sx ?_|refine wp_ret' ?_|refine wp_skip' ?_|refine wp_exit' ?_)
    refine wp_loop ?_
    repeat (first|apply wp_as|apply wp_ss|refine wr (by simp;with_reducible rfl) ?_|refine wq (by simp;with_reducible rfl) ?_|refine wt (by simpa) ?_|refine wf (by simpa) ?_|refine xt (by simpa) ?_|refine xf (by simpa) ?_|apply wp_bs|apply wp_b|refine wp_sr ?_|refine wp_sx ?_|refine wp_ret' ?_|refine wp_skip' ?_|refine wp_exit' ?_)
    simp [zi49]
theorem ev_eqGraph (n:Int) (a:List (Int×Int)) (c d:Bool) (hl:a.length≤2000000):Ev tb zl50 [] [Gr n a c,Gr n a d] [] ⟨Bo true,[],[],[]⟩:=by
  have e1:=fun c d=>ev_lim (ev_eqEdgeS a c d hl)
  refine call_of_wp zt50 rfl ?_
  repeat (first|apply wp_as|apply wp_ss|refine wr (by simp [e1];with_reducible rfl) ?_|refine wq (by simp [e1];with_reducible rfl) ?_|refine wt (by simpa [e1]) ?_|refine wf (by simpa [e1]) ?_|refine xt (by simpa [e1]) ?_|refine xf (by simpa [e1]) ?_|apply wp_bs|apply wp_b|refine wp_sr ?_|refine wp_sx ?_|refine wp_ret' ?_|refine wp_skip' ?_|refine wp_exit' ?_)
  simp [zi50]
theorem ev_eqGraph_Z (n:Int) (x y:IV) (hx:x=Z ∨ ∃ c,x=L2 [] c) (hy:y=Z ∨ ∃ c,y=L2 [] c):Ev tb zl50 [] [.agg [I n,x],.agg [I n,y]] [] ⟨Bo true,[],[],[]⟩:=by
  have e1:=ev_lim (ev_eqEdgeS_Z x y hx hy)
  rcases hx with rfl | ⟨c,rfl⟩ <;> rcases hy with rfl | ⟨d,rfl⟩ <;>
  · try simp only [L2,eds_nil] at e1 ⊢
    refine call_of_wp zt50 rfl ?_
    repeat (first|apply wp_as|apply wp_ss|refine wr (by simp [e1];with_reducible rfl) ?_|refine wq (by simp [e1];with_reducible rfl) ?_|refine wt (by simpa [e1]) ?_|refine wf (by simpa [e1]) ?_|refine xt (by simpa [e1]) ?_|refine xf (by simpa [e1]) ?_|apply wp_bs|apply wp_b|refine wp_sr ?_|refine wp_sx ?_|refine wp_ret' ?_|refine wp_skip' ?_|refine wp_exit' ?_)
    simp [zi50]
def mrk2 (k:Int) (n:Nat):List (Int×Int):=(List.range n).map fun i:Nat=>(k+2 * (i:Int),k+2 * (i:Int)+1)
theorem mrk2_len (k:Int) (n:Nat):(mrk2 k n).length=n:=by simp [mrk2]
theorem mrk2_get (k:Int) (n i:Nat) (h:i < (mrk2 k n).length):(mrk2 k n)[i]=(k+2 * (i:Int),k+2 * (i:Int)+1):=by simp [mrk2]
theorem mrk2_take (k:Int) (n:Nat):(mrk2 k n).take n=mrk2 k n:=List.take_of_length_le (by rw [mrk2_len];exact Nat.le_refl n)
theorem mkE_loop (k:Int) (n:Nat) (hn:n≤10000000) (hk:0≤k∧k≤100000000):∀ (m i:Nat) (A:List (Int×Int)),i+m=n→A.length=n→A.take i=(mrk2 k n).take i →
    wp tb (.loop z56l8) { T:=[(0,O2 A),(1,I (k+2 * i)),(5,I i)],loc:=[],M:=[] }
      (fun ex st=>ex=.exit 0∧st={ T:=[(0,O2 (mrk2 k n)),(1,I (k+2 * n)),(5,I n),(9,Bo false)],loc:=[],M:=[] }):=by
  intro m
  induction m with
  | zero =>
    intro i A hi hA ht
    have h3:i=n:=hi
    subst h3
    rw [List.take_of_length_le (by omega),List.take_of_length_le (by rw [mrk2_len];omega)] at ht
    subst ht
    refine wp_loop ?_
    repeat (first|apply wp_as|apply wp_ss|refine wr (by simp [mrk2_len];with_reducible rfl) ?_|refine wq (by simp [mrk2_len];with_reducible rfl) ?_|refine wt (by simpa [mrk2_len]) ?_|refine wf (by simpa [mrk2_len]) ?_|refine xt (by simpa [mrk2_len]) ?_|refine xf (by simpa [mrk2_len]) ?_|apply wp_bs|apply wp_b|refine wp_sr ?_|refine wp_sx ?_|refine wp_ret' ?_|refine wp_skip' ?_|refine wp_exit' ?_)
    exact ⟨rfl,rfl⟩
  | succ m ih =>
    intro i A hi hA ht
    have hi2:i < A.length:=by omega
    have w2:IntKind.i64.wrap ((i:Int)+1)=((i+1:Nat):Int):=wrapS (by omega)
    have w3:IntKind.i64.wrap (k+2 * (i:Int)+1)=k+2 * (i:Int)+1:=by rw [wrap64 (by omega) (by omega)]
    have w4:IntKind.i64.wrap (k+2 * (i:Int)+1+1)=k+2 * ((i+1:Nat):Int):=by rw [wrap64 (by omega) (by omega)];omega
    have hg:=ih (i+1) (A.set i (k+2 * (i:Int),k+2 * (i:Int)+1)) (by omega) (by simpa using hA) (by
      rw [List.take_succ_eq_append_getElem (by simpa using hi2),List.take_succ_eq_append_getElem (by rw [mrk2_len];omega),List.take_set_of_le (Nat.le_refl _),ht,mrk2_get];simp)
    obtain ⟨⟨p,q⟩,hx⟩:∃ x,x=A[i]:=⟨_,rfl⟩
    have hx:=hx.symm
    refine wp_loop ?_
    repeat (first|apply wp_as|apply wp_ss|refine wr (by simp [hi2,w2,w3,w4,hx];with_reducible rfl) ?_|refine wq (by simp [hi2,w2,w3,w4,hx];with_reducible rfl) ?_|refine wt (by simpa [hi2,w2,w3,w4,hx]) ?_|refine wf (by simpa [hi2,w2,w3,w4,hx]) ?_|refine xt (by simpa [hi2,w2,w3,w4,hx]) ?_|refine xf (by simpa [hi2,w2,w3,w4,hx]) ?_|apply wp_bs|apply wp_b|refine wp_sr ?_|refine wp_sx ?_|refine wp_ret' ?_|refine wp_skip' ?_|refine wp_exit' ?_)
    exact hg
theorem ev_markEdgeS (a:List (Int×Int)) (k:Int) (hl:a.length≤10000000) (hk:0≤k∧k≤100000000):Ev tb zl56 [0] [O2 a,I k] [] ⟨I (k+2 * a.length),[O2 (mrk2 k a.length)],[],[]⟩:=by
  have hlo:=mkE_loop k a.length hl hk a.length 0 a (by omega) rfl (by simp)
  rw [show k+2 * ((0:Nat):Int)=k by omega,show ((0:Nat):Int)=0 from rfl] at hlo
  refine call_of_wp zt56 rfl ?_
  repeat (first|apply wp_as|apply wp_ss|refine wr (by simp;with_reducible rfl) ?_|refine wq (by simp;with_reducible rfl) ?_|refine wt (by simpa) ?_|refine wf (by simpa) ?_|refine xt (by simpa) ?_|refine xf (by simpa) ?_|apply wp_bs|apply wp_b|refine wp_sr ?_|refine wp_sx ?_|refine wp_ret' ?_|refine wp_skip' ?_|refine wp_exit' ?_)
  refine wp_imp hlo ?_
  rintro ex st ⟨rfl,rfl⟩
  try simp only [if_true]
  repeat (first|apply wp_as|apply wp_ss|refine wr (by simp;with_reducible rfl) ?_|refine wq (by simp;with_reducible rfl) ?_|refine wt (by simpa) ?_|refine wf (by simpa) ?_|refine xt (by simpa) ?_|refine xf (by simpa) ?_|apply wp_bs|apply wp_b|refine wp_sr ?_|refine wp_sx ?_|refine wp_ret' ?_|refine wp_skip' ?_|refine wp_exit' ?_)
  simp [zi56]
theorem ev_markEdgeS_Z (k:Int):Ev tb zl56 [] [Z,I k] [] ⟨I k,[],[],[]⟩:=by
  refine call_of_wp zt56 rfl ?_
  repeat (first|apply wp_as|apply wp_ss|refine wr (by simp;with_reducible rfl) ?_|refine wq (by simp;with_reducible rfl) ?_|refine wt (by simpa) ?_|refine wf (by simpa) ?_|refine xt (by simpa) ?_|refine xf (by simpa) ?_|apply wp_bs|apply wp_b|refine wp_sr ?_|refine wp_sx ?_|refine wp_ret' ?_|refine wp_skip' ?_|refine wp_exit' ?_)
  refine wp_loop ?_
  repeat (first|apply wp_as|apply wp_ss|refine wr (by simp;with_reducible rfl) ?_|refine wq (by simp;with_reducible rfl) ?_|refine wt (by simpa) ?_|refine wf (by simpa) ?_|refine xt (by simpa) ?_|refine xf (by simpa) ?_|apply wp_bs|apply wp_b|refine wp_sr ?_|refine wp_sx ?_|refine wp_ret' ?_|refine wp_skip' ?_|refine wp_exit' ?_)
  simp [zi56]
theorem hdE_loop (k:Int) (n:Nat) (c:Bool) (hn:n≤10000000) (hk:0≤k∧k≤100000000):∀ (m i:Nat),i+m=n →
    wp tb (.loop z239l10) { T:=[(0,L2 (mrk2 k n) c),(1,I (k+2 * i)),(5,I i)],loc:=[],M:=[] }
      (fun ex st=>ex=.exit 0∧st={ T:=[(0,L2 (mrk2 k n) c),(1,I (k+2 * n)),(5,I n),(9,Bo false)],loc:=[],M:=[] }):=by
  intro m
  induction m with
  | zero =>
    intro i hi
    have h3:i=n:=hi
    subst h3
    refine wp_loop ?_
    repeat (first|apply wp_as|apply wp_ss|refine wr (by simp [mrk2_len];with_reducible rfl) ?_|refine wq (by simp [mrk2_len];with_reducible rfl) ?_|refine wt (by simpa [mrk2_len]) ?_|refine wf (by simpa [mrk2_len]) ?_|refine xt (by simpa [mrk2_len]) ?_|refine xf (by simpa [mrk2_len]) ?_|apply wp_bs|apply wp_b|refine wp_sr ?_|refine wp_sx ?_|refine wp_ret' ?_|refine wp_skip' ?_|refine wp_exit' ?_)
    exact ⟨rfl,rfl⟩
  | succ m ih =>
    intro i hi
    have hi2:i < n:=by omega
    have w2:IntKind.i64.wrap ((i:Int)+1)=((i+1:Nat):Int):=wrapS (by omega)
    have w3:IntKind.i64.wrap (k+2 * (i:Int)+1)=k+2 * (i:Int)+1:=by rw [wrap64 (by omega) (by omega)]
    have w4:IntKind.i64.wrap (k+2 * (i:Int)+1+1)=k+2 * ((i+1:Nat):Int):=by rw [wrap64 (by omega) (by omega)];omega
    have hg:=ih (i+1) (by omega)
    refine wp_loop ?_
    repeat (first|apply wp_as|apply wp_ss|refine wr (by simp [mrk2_len,hi2,w2,w3,w4,mrk2_get];with_reducible rfl) ?_|refine wq (by simp [mrk2_len,hi2,w2,w3,w4,mrk2_get];with_reducible rfl) ?_|refine wt (by simpa [mrk2_len,hi2,w2,w3,w4,mrk2_get]) ?_|refine wf (by simpa [mrk2_len,hi2,w2,w3,w4,mrk2_get]) ?_|refine xt (by simpa [mrk2_len,hi2,w2,w3,w4,mrk2_get]) ?_|refine xf (by simpa [mrk2_len,hi2,w2,w3,w4,mrk2_get]) ?_|apply wp_bs|apply wp_b|refine wp_sr ?_|refine wp_sx ?_|refine wp_ret' ?_|refine wp_skip' ?_|refine wp_exit' ?_)
    exact hg
theorem ev_heldEdgeS (k:Int) (n:Nat) (c:Bool) (hl:n≤10000000) (hk:0≤k∧k≤100000000):Ev tb zl239 [] [L2 (mrk2 k n) c,I k] [] ⟨I (k+2 * n),[],[],[]⟩:=by
  have hlo:=hdE_loop k n c hl hk n 0 (by omega)
  rw [show k+2 * ((0:Nat):Int)=k by omega,show ((0:Nat):Int)=0 from rfl] at hlo
  refine call_of_wp zt239 rfl ?_
  repeat (first|apply wp_as|apply wp_ss|refine wr (by simp;with_reducible rfl) ?_|refine wq (by simp;with_reducible rfl) ?_|refine wt (by simpa) ?_|refine wf (by simpa) ?_|refine xt (by simpa) ?_|refine xf (by simpa) ?_|apply wp_bs|apply wp_b|refine wp_sr ?_|refine wp_sx ?_|refine wp_ret' ?_|refine wp_skip' ?_|refine wp_exit' ?_)
  refine wp_imp hlo ?_
  rintro ex st ⟨rfl,rfl⟩
  try simp only [if_true]
  repeat (first|apply wp_as|apply wp_ss|refine wr (by simp;with_reducible rfl) ?_|refine wq (by simp;with_reducible rfl) ?_|refine wt (by simpa) ?_|refine wf (by simpa) ?_|refine xt (by simpa) ?_|refine xf (by simpa) ?_|apply wp_bs|apply wp_b|refine wp_sr ?_|refine wp_sx ?_|refine wp_ret' ?_|refine wp_skip' ?_|refine wp_exit' ?_)
  simp [zi239]
theorem ev_heldEdgeS_Z (k:Int):Ev tb zl239 [] [Z,I k] [] ⟨I k,[],[],[]⟩:=by
  refine call_of_wp zt239 rfl ?_
  repeat (first|apply wp_as|apply wp_ss|refine wr (by simp;with_reducible rfl) ?_|refine wq (by simp;with_reducible rfl) ?_|refine wt (by simpa) ?_|refine wf (by simpa) ?_|refine xt (by simpa) ?_|refine xf (by simpa) ?_|apply wp_bs|apply wp_b|refine wp_sr ?_|refine wp_sx ?_|refine wp_ret' ?_|refine wp_skip' ?_|refine wp_exit' ?_)
  refine wp_loop ?_
  repeat (first|apply wp_as|apply wp_ss|refine wr (by simp;with_reducible rfl) ?_|refine wq (by simp;with_reducible rfl) ?_|refine wt (by simpa) ?_|refine wf (by simpa) ?_|refine xt (by simpa) ?_|refine xf (by simpa) ?_|apply wp_bs|apply wp_b|refine wp_sr ?_|refine wp_sx ?_|refine wp_ret' ?_|refine wp_skip' ?_|refine wp_exit' ?_)
  simp [zi239]
theorem ev_markGraph (n:Int) (a:List (Int×Int)) (k:Int) (hl:a.length≤10000000) (hk:0≤k∧k≤100000000):Ev tb zl57 [0] [OG n a,I k] [] ⟨I (k+2 * a.length),[OG n (mrk2 k a.length)],[],[]⟩:=by
  have e1:=ev_lim (ev_markEdgeS a k hl hk)
  have hs:(eds (mrk2 k a.length)).all (·.all IV.isSc)=true:=by
    rw [List.all_eq_true];intro x hx
    obtain ⟨e,_,rfl⟩:=List.mem_map.1 hx
    rfl
  refine call_of_wp zt57 rfl ?_
  refine ⟨_,by simp [z57r0,z57r1,e1,hs];with_reducible rfl,?_⟩
  repeat (first|apply wp_as|apply wp_ss|refine wr (by simp;with_reducible rfl) ?_|refine wq (by simp;with_reducible rfl) ?_|refine wt (by simpa) ?_|refine wf (by simpa) ?_|refine xt (by simpa) ?_|refine xf (by simpa) ?_|apply wp_bs|apply wp_b|refine wp_sr ?_|refine wp_sx ?_|refine wp_ret' ?_|refine wp_skip' ?_|refine wp_exit' ?_)
  simp [zi57]
theorem ev_markGraph_Z (n:Int) (k:Int):Ev tb zl57 [] [.agg [I n,Z],I k] [] ⟨I k,[],[],[]⟩:=by
  have e1:=ev_lim (ev_markEdgeS_Z k)
  refine call_of_wp zt57 rfl ?_
  refine ⟨_,by simp [z57r0,z57r1,e1];with_reducible rfl,?_⟩
  repeat (first|apply wp_as|apply wp_ss|refine wr (by simp;with_reducible rfl) ?_|refine wq (by simp;with_reducible rfl) ?_|refine wt (by simpa) ?_|refine wf (by simpa) ?_|refine xt (by simpa) ?_|refine xf (by simpa) ?_|apply wp_bs|apply wp_b|refine wp_sr ?_|refine wp_sx ?_|refine wp_ret' ?_|refine wp_skip' ?_|refine wp_exit' ?_)
  simp [zi57]
theorem ev_heldGraph (n:Int) (k:Int) (m:Nat) (c:Bool) (hl:m≤10000000) (hk:0≤k∧k≤100000000):Ev tb zl240 [] [Gr n (mrk2 k m) c,I k] [] ⟨I (k+2 * m),[],[],[]⟩:=by
  have e1:=fun c=>ev_lim (ev_heldEdgeS k m c hl hk)
  have h0:¬ (k+2 * (m:Int) < 0):=by omega
  refine call_of_wp zt240 rfl ?_
  repeat (first|apply wp_as|apply wp_ss|refine wr (by simp [e1,h0];with_reducible rfl) ?_|refine wq (by simp [e1,h0];with_reducible rfl) ?_|refine wt (by simpa [e1,h0]) ?_|refine wf (by simpa [e1,h0]) ?_|refine xt (by simpa [e1,h0]) ?_|refine xf (by simpa [e1,h0]) ?_|apply wp_bs|apply wp_b|refine wp_sr ?_|refine wp_sx ?_|refine wp_ret' ?_|refine wp_skip' ?_|refine wp_exit' ?_)
  simp [zi240]
theorem ev_heldGraph_Z (n:Int) (k:Int) (hk:0≤k):Ev tb zl240 [] [.agg [I n,Z],I k] [] ⟨I k,[],[],[]⟩:=by
  have e1:=ev_lim (ev_heldEdgeS_Z k)
  have h0:¬ (k < 0):=by omega
  refine call_of_wp zt240 rfl ?_
  repeat (first|apply wp_as|apply wp_ss|refine wr (by simp [e1,h0];with_reducible rfl) ?_|refine wq (by simp [e1,h0];with_reducible rfl) ?_|refine wt (by simpa [e1,h0]) ?_|refine wf (by simpa [e1,h0]) ?_|refine xt (by simpa [e1,h0]) ?_|refine xf (by simpa [e1,h0]) ?_|apply wp_bs|apply wp_b|refine wp_sr ?_|refine wp_sx ?_|refine wp_ret' ?_|refine wp_skip' ?_|refine wp_exit' ?_)
  simp [zi240]
end Go.Idl
namespace Go.Idl
open Go
abbrev Str (s:ByteArray):IV:=.sc (.string s)
def strs (l:List ByteArray):List (List IV):=l.map fun s=>[Str s]
@[simp] theorem strs_len (l:List ByteArray):(strs l).length=l.length:=by simp [strs]
@[simp] theorem strs_get (l:List ByteArray) (i:Nat) (h:i < (strs l).length):(strs l)[i]=[IV.sc (.string (l[i]'(by simpa [strs] using h)))]:=by simp [strs]
@[simp] theorem strs_get? (l:List ByteArray) (i:Nat):(strs l)[i]? = l[i]?.map fun s=>[IV.sc (.string s)]:=by simp [strs]
end Go.Idl
namespace Go.Idl
open Go
def gls (n:Int) (gl:List (List (Int×Int))):List (List IV):=gl.map fun es=>[I n,O2 es]
@[simp] theorem gls_len (n:Int) (gl):(gls n gl).length=gl.length:=by simp [gls]
@[simp] theorem gls_one (n:Int) (gl) (es:List (Int×Int)):gls n gl++[[IV.sc (.int .i64 n),.own 2 (eds es)]]=gls n (gl++[es]):=by simp [gls]
@[simp] theorem gls_emp (n:Int) (gl):(gls n gl).isEmpty=gl.isEmpty:=by cases gl <;> rfl
@[simp] theorem gls_take (n:Int) (gl) (k:Nat):(gls n gl).take k=gls n (gl.take k):=by simp [gls,List.map_take]
@[simp] theorem gls_all (n:Int) (gl):((gls n gl).all fun x=>x.all IV.isData)=true:=by
  induction gl with
  | nil=>rfl
  | cons x xs ih=>simp only [gls,List.map_cons,List.all_cons] at *;rw [ih];rfl
@[simp] theorem gls_noLst (n:Int) (gl):noLstLL (gls n gl)=true:=by
  induction gl with
  | nil=>rfl
  | cons x xs ih=>simp only [gls,List.map_cons,noLstLL,noLstL,noLstV,eds_noLst] at *;rw [ih];rfl
end Go.Idl
namespace Go.Idl
open Go
abbrev GF:=List (List (Int×Int)×Bool)
def glf (n:Int) (R:GF):List (List IV):=R.map fun x=>[I n,L2 x.1 x.2]
@[simp] theorem glf_len (n:Int) (R:GF):(glf n R).length=R.length:=by simp [glf]
@[simp] theorem glf_nil (n:Int):glf n []=[]:=rfl
@[simp] theorem glf_app (n:Int) (R S:GF):glf n R++glf n S=glf n (R++S):=by simp [glf]
@[simp] theorem glf_take (n:Int) (R:GF) (k:Nat):(glf n R).take k=glf n (R.take k):=by simp [glf,List.map_take]
@[simp] theorem glf_all (n:Int) (R:GF):((glf n R).all fun x=>x.all IV.isData)=true:=by
  induction R with
  | nil=>rfl
  | cons x xs ih=>simp only [glf,List.map_cons,List.all_cons] at *;rw [ih];rfl
end Go.Idl
namespace Go.Idl
open Go
@[simp] theorem un_neg (n:Int):Op.unary .neg (.int .i64 n)=.pure (.int .i64 (IntKind.i64.wrap (-n))):=by
  rw [← Int.zero_sub];rfl
def gs (r c:List Int) (i:Nat):Int:=-((fall r).take (i+1)).sum+(c.map fun x:Int=>min x ((i:Int)+1)).sum
end Go.Idl
namespace Go.Idl
open Go
def TT (n:Nat) (t:List (List Int)):Prop:=t.length=n∧∀ r ∈ t,r.length=n∧∀ x ∈ r,0≤x∧x≤1
theorem TT.set {n:Nat} {t:List (List Int)} (h:TT n t) {a b:Nat} {v:Int} (ha:a < t.length) (hv:0≤v∧v≤1):TT n (t.set a (t[a].set b v)):=by
  refine ⟨by simpa using h.1,fun r hr=>?_⟩
  have h1:=h.2 _ (List.getElem_mem ha)
  rcases List.mem_or_eq_of_mem_set hr with hr | rfl
  · exact h.2 r hr
  · refine ⟨by simpa using h1.1,fun x hx=>?_⟩
    rcases List.mem_or_eq_of_mem_set hx with hx | rfl
    · exact h1.2 x hx
    · exact hv
end Go.Idl
namespace Go.Idl
open Go
def MM (h w:Nat) (t:List (List Int)):Prop:=t.length=h∧∀ r ∈ t,r.length=w∧∀ x ∈ r,0≤x∧x≤1
end Go.Idl
namespace Go.Idl
open Go
theorem MM.sums {h w:Nat} {t:List (List Int)} (ht:MM h w t) (hw:w≤5):∀ x ∈ t.map List.sum,0≤x∧x≤5:=by
  intro x hx
  obtain ⟨r,hr,rfl⟩:=List.mem_map.1 hx
  have h1:=ht.2 r hr
  have:=sum01 r h1.2
  omega
end Go.Idl
namespace Go.Idl
def insP (x:Nat×Nat):List (Nat×Nat)→List (Nat×Nat)
  | []=>[x]
  | y::r=>if Nat.ble y.1 x.1 then x::y::r else y::insP x r
def hh:Nat→List (Nat×Nat)→List (Nat×Nat)
  | 0,_=>[]
  | _+1,[]=>[]
  | m+1,x::r=>(r.take x.1).map (fun y:Nat×Nat=>(x.2,y.2))++hh m ((((r.take x.1).map (fun y:Nat×Nat=>(y.1 - 1,y.2))++r.drop x.1:List (Nat×Nat))).foldr insP [])
def mk (u v:Nat):Int×Int:=(min (u:Int) v,max (u:Int) v)
end Go.Idl
namespace Go.Idl
theorem insE_pw {e:Int×Int}:∀ {es:List (Int×Int)},PW es→e ∉ es→PW (insE e es)
  | [],_,_=>by simp [insE,PW]
  | x::r,h,hn=>by
    have h':=List.pairwise_cons.1 h
    rw [insE]
    split
    · rename_i hx
      refine List.pairwise_cons.2 ⟨fun y hy=>?_,insE_pw h'.2 fun hm=>hn (by simp [hm])⟩
      rcases (insE_mem _ _ _).1 hy with rfl | hy
      · exact hx
      · exact h'.1 y hy
    · rename_i hx
      have hxe:below e x=true:=by
        rcases below_total (a:=e) (b:=x) (fun h=>hn (by simp [h])) with q | q
        · exact q
        · exact absurd q hx
      refine List.pairwise_cons.2 ⟨fun y hy=>?_,h⟩
      rcases List.mem_cons.1 hy with rfl | hy
      · exact hxe
      · exact below_trans hxe (h'.1 y hy)
end Go.Idl
namespace Go.Idl
theorem mem_sw {es:List (Int×Int)} {a b c d:Int} {e:Int×Int}:e ∈ sw es a b c d ↔ (e ∈ es∧e ≠ (min a b,max a b)∧e ≠ (min c d,max c d)) ∨ e=(min a c,max a c) ∨ e=(min b d,max b d):=by
  rw [sw,(srtE_perm _).mem_iff,swX,List.mem_append,List.mem_filter]
  simp only [gone,Bool.not_eq_true',Bool.or_eq_false_iff,decide_eq_false_iff_not,List.mem_cons,List.not_mem_nil,or_false,ne_eq]
theorem has_hasM {n:Nat} {es:List (Int×Int)} (h:∀ e ∈ es,e ∈ prs n) (a b:Int):has es a b=hasM es a b:=by
  rw [Bool.eq_iff_iff,hasM_iff,has,List.any_eq_true]
  constructor
  · rintro ⟨e,he,hi⟩
    have hp:=mem_prs.1 (h e he)
    simp only [isE,Bool.or_eq_true,Bool.and_eq_true,decide_eq_true_eq] at hi
    have h2:e=(min a b,max a b):=Prod.ext (by simp only;omega) (by simp only;omega)
    rw [← h2];exact he
  · intro hm
    refine ⟨_,hm,?_⟩
    simp only [isE,Bool.or_eq_true,Bool.and_eq_true,decide_eq_true_eq]
    omega
theorem may_eq {n:Nat} {es:List (Int×Int)} (h:vGraph n es=true) (a b c d:Int):mayS es a b c d=mayI es a b c d:=by
  have hin:=(vG_iff.1 h).2.1
  rw [Bool.eq_iff_iff,mayI_iff]
  simp only [mayS,has_hasM hin,Bool.and_eq_true,decide_eq_true_eq,Bool.not_eq_true',hasM_iff,hasM_no,and_assoc]
  constructor
  · rintro ⟨h1,h2,h3,h4,m1,m2,m3,m4⟩
    have p1:=mem_prs.1 (hin _ m1)
    have p2:=mem_prs.1 (hin _ m2)
    simp only at p1 p2
    exact ⟨by omega,h1,h3,fun h=>h4 h,h2,by omega,m1,m2,m3,m4⟩
  · rintro ⟨h1,h2,h3,h4,h5,h6,m1,m2,m3,m4⟩
    exact ⟨h2,h5,h3,h4,m1,m2,m3,m4⟩
theorem four_ne {a b c d:Int} (h:a ≠ b∧a ≠ c∧a ≠ d∧b ≠ c∧b ≠ d∧c ≠ d) :
    ((min a b,max a b):Int×Int) ≠ (min c d,max c d)∧((min a b,max a b):Int×Int) ≠ (min a c,max a c)∧((min a b,max a b):Int×Int) ≠ (min b d,max b d) ∧
    ((min c d,max c d):Int×Int) ≠ (min a c,max a c)∧((min c d,max c d):Int×Int) ≠ (min b d,max b d)∧((min a c,max a c):Int×Int) ≠ (min b d,max b d):=by
  simp only [ne_eq,Prod.mk.injEq]
  omega
theorem sw_eq {n:Nat} {es:List (Int×Int)} {a b c d:Int} (h:vGraph n es=true) (hm:mayI es a b c d=true):swS es a b c d=sw es a b c d:=by
  obtain ⟨h1,h2,h3⟩:=vG_iff.1 h
  obtain ⟨hd,m1,m2,m3,m4⟩:=mayI_iff.1 hm
  have f4:=four_ne hd
  have hs1:PW (dropE c d (dropE a b es)):=(h1.filter _).filter _
  have hs2:∀ e,e ∈ dropE c d (dropE a b es) ↔ e ∈ es∧e ≠ (min a b,max a b)∧e ≠ (min c d,max c d):=fun e=>by
    simp only [dropE,List.mem_filter,dropP,Bool.not_eq_true',Bool.and_eq_false_imp,decide_eq_true_eq,decide_eq_false_iff_not,and_assoc,ne_eq,Prod.ext_iff,not_and]
  have n1:((min a c,max a c):Int×Int) ∉ dropE c d (dropE a b es):=fun hh=>m3 ((hs2 _).1 hh).1
  have n2:((min b d,max b d):Int×Int) ∉ insE (min a c,max a c) (dropE c d (dropE a b es)):=fun hh=>by
    rcases (insE_mem _ _ _).1 hh with hh | hh
    · exact f4.2.2.2.2.2 hh.symm
    · exact m4 ((hs2 _).1 hh).1
  refine pw_ext (insE_pw (insE_pw hs1 n1) n2) (srtE_pw (swX_ok h hm).1) fun e=>?_
  show e ∈ insE _ _ ↔ e ∈ sw es a b c d
  rw [insE_mem,insE_mem,hs2,mem_sw]
  constructor
  · rintro (h | h | h)
    · exact .inr (.inr h)
    · exact .inr (.inl h)
    · exact .inl h
  · rintro (h | h | h)
    · exact .inr (.inr h)
    · exact .inr (.inl h)
    · exact .inl h
theorem inc_mm (v:Nat) (a c:Int):inc v (min a c,max a c)=(if a=v then 1 else 0)+(if c=v then 1 else 0):=by
  rcases Int.le_total a c with h | h
  · rw [inc,Int.min_eq_left h,Int.max_eq_right h]
  · rw [inc,Int.min_eq_right h,Int.max_eq_left h,Int.add_comm]
theorem sw_deg {n:Nat} {es:List (Int×Int)} {a b c d:Int} (h:vGraph n es=true) (hm:mayI es a b c d=true) (v:Nat):deg (sw es a b c d) v=deg es v:=by
  obtain ⟨h1,h2,h3⟩:=vG_iff.1 h
  obtain ⟨hd,m1,m2,m3,m4⟩:=mayI_iff.1 hm
  have f4:=four_ne hd
  have hp:(es.filter (gone a b c d)).Perm [(min a b,max a b),(min c d,max c d)]:=by
    refine (List.perm_ext_iff_of_nodup ((pw_nodup h1).filter _) (by simpa using f4.1)).2 fun e=>?_
    simp only [List.mem_filter,gone,Bool.or_eq_true,decide_eq_true_eq,List.mem_cons,List.not_mem_nil,or_false]
    constructor
    · exact fun h=>h.2
    · rintro (rfl | rfl)
      · exact ⟨m1,.inl rfl⟩
      · exact ⟨m2,.inr rfl⟩
  have e1:=S_filter es (gone a b c d) (inc v)
  have e2:=S_perm hp (inc v)
  have e3:=S_perm (srtE_perm (swX es a b c d)) (inc v)
  rw [deg,deg,sw,e3,swX,S_app,← e1,e2]
  simp only [S,List.map_cons,List.map_nil,List.sum_cons,List.sum_nil,inc_mm]
  omega
theorem sw_degs {n:Nat} {es:List (Int×Int)} {a b c d:Int} (h:vGraph n es=true) (hm:mayI es a b c d=true):degs n (sw es a b c d)=degs n es:=by
  have i1:EdgesIn n es:=fun e he=>by have:=mem_prs.1 ((vG_iff.1 h).2.1 e he);omega
  have i2:EdgesIn n (sw es a b c d):=fun e he=>by have:=mem_prs.1 ((vG_iff.1 (swX_ok h hm).2.2.1).2.1 e he);omega
  rw [degs_eq i1,degs_eq i2]
  exact List.map_congr_left fun v _=>sw_deg h hm v
end Go.Idl
namespace Go.Idl
open Go
theorem ev_szGraph_ok (n:Int) (es:List (Int×Int)) (c:Bool) (l:Int) (h:(es.length:Int)≤l) (hl:l≤2000000):Ev tb zl61 [] [Gr n es c,I l] [] ⟨I (l - es.length),[],[],[]⟩:=by
  have w1:IntKind.i64.wrap (l - (es.length:Int))=l - es.length:=wrap64 (by omega) (by omega)
  have h0:¬ (l - (es.length:Int) < 0):=by omega
  have e1:∀ c,limF tb zl60 [] [L2 es c,I l] []=some ⟨I (l - es.length),[],[],[]⟩:=fun c=>ev_lim (by
    refine call_of_wp zt60 rfl ?_
    repeat (first|apply wp_as|apply wp_ss|refine wr (by simp [w1,h0];with_reducible rfl) ?_|refine wq (by simp [w1,h0];with_reducible rfl) ?_|refine wt (by simpa [w1,h0]) ?_|refine wf (by simpa [w1,h0]) ?_|refine xt (by simpa [w1,h0]) ?_|refine xf (by simpa [w1,h0]) ?_|apply wp_bs|apply wp_b|refine wp_sr ?_|refine wp_sx ?_|refine wp_ret' ?_|refine wp_skip' ?_|refine wp_exit' ?_)
    simp [zi60])
  refine call_of_wp zt61 rfl ?_
  repeat (first|apply wp_as|apply wp_ss|refine wr (by simp [e1,h0];with_reducible rfl) ?_|refine wq (by simp [e1,h0];with_reducible rfl) ?_|refine wt (by simpa [e1,h0]) ?_|refine wf (by simpa [e1,h0]) ?_|refine xt (by simpa [e1,h0]) ?_|refine xf (by simpa [e1,h0]) ?_|apply wp_bs|apply wp_b|refine wp_sr ?_|refine wp_sx ?_|refine wp_ret' ?_|refine wp_skip' ?_|refine wp_exit' ?_)
  simp [zi61]
theorem ev_szGraph_no (n:Int) (es:List (Int×Int)) (c:Bool) (l:Int) (h:l < (es.length:Int)) (hl:0≤l) (hb:es.length < 9223372036854775808):Ev tb zl61 [] [Gr n es c,I l] [] ⟨I (-1),[],[],[]⟩:=by
  have w1:IntKind.i64.wrap (l - (es.length:Int))=l - es.length:=wrap64 (by omega) (by omega)
  have h0:l - (es.length:Int) < 0:=by omega
  have e1:∀ c,limF tb zl60 [] [L2 es c,I l] []=some ⟨I (-1),[],[],[]⟩:=fun c=>ev_lim (by
    refine call_of_wp zt60 rfl ?_
    repeat (first|apply wp_as|apply wp_ss|refine wr (by simp [w1,h0];with_reducible rfl) ?_|refine wq (by simp [w1,h0];with_reducible rfl) ?_|refine wt (by simpa [w1,h0]) ?_|refine wf (by simpa [w1,h0]) ?_|refine xt (by simpa [w1,h0]) ?_|refine xf (by simpa [w1,h0]) ?_|apply wp_bs|apply wp_b|refine wp_sr ?_|refine wp_sx ?_|refine wp_ret' ?_|refine wp_skip' ?_|refine wp_exit' ?_)
    simp [zi60])
  refine call_of_wp zt61 rfl ?_
  repeat (first|apply wp_as|apply wp_ss|refine wr (by simp [e1];with_reducible rfl) ?_|refine wq (by simp [e1];with_reducible rfl) ?_|refine wt (by simpa [e1]) ?_|refine wf (by simpa [e1]) ?_|refine xt (by simpa [e1]) ?_|refine xf (by simpa [e1]) ?_|apply wp_bs|apply wp_b|refine wp_sr ?_|refine wp_sx ?_|refine wp_ret' ?_|refine wp_skip' ?_|refine wp_exit' ?_)
  simp [zi61]
theorem ev_szSwitchS_ok (xs:List Q4) (c:Bool) (l:Int) (h:(xs.length:Int)≤l) (hl:l≤2000000):Ev tb zl247 [] [L4 xs c,I l] [] ⟨I (l - xs.length),[],[],[]⟩:=by
  have w1:IntKind.i64.wrap (l - (xs.length:Int))=l - xs.length:=wrap64 (by omega) (by omega)
  have h0:¬ (l - (xs.length:Int) < 0):=by omega
  refine call_of_wp zt247 rfl ?_
  repeat (first|apply wp_as|apply wp_ss|refine wr (by simp [w1,h0];with_reducible rfl) ?_|refine wq (by simp [w1,h0];with_reducible rfl) ?_|refine wt (by simpa [w1,h0]) ?_|refine wf (by simpa [w1,h0]) ?_|refine xt (by simpa [w1,h0]) ?_|refine xf (by simpa [w1,h0]) ?_|apply wp_bs|apply wp_b|refine wp_sr ?_|refine wp_sx ?_|refine wp_ret' ?_|refine wp_skip' ?_|refine wp_exit' ?_)
  simp [zi247]
theorem ev_szSwitchS_no (xs:List Q4) (c:Bool) (l:Int) (h:l < (xs.length:Int)) (hl:0≤l) (hb:xs.length < 9223372036854775808):Ev tb zl247 [] [L4 xs c,I l] [] ⟨I (-1),[],[],[]⟩:=by
  have w1:IntKind.i64.wrap (l - (xs.length:Int))=l - xs.length:=wrap64 (by omega) (by omega)
  have h0:l - (xs.length:Int) < 0:=by omega
  refine call_of_wp zt247 rfl ?_
  repeat (first|apply wp_as|apply wp_ss|refine wr (by simp [w1,h0];with_reducible rfl) ?_|refine wq (by simp [w1,h0];with_reducible rfl) ?_|refine wt (by simpa [w1,h0]) ?_|refine wf (by simpa [w1,h0]) ?_|refine xt (by simpa [w1,h0]) ?_|refine xf (by simpa [w1,h0]) ?_|apply wp_bs|apply wp_b|refine wp_sr ?_|refine wp_sx ?_|refine wp_ret' ?_|refine wp_skip' ?_|refine wp_exit' ?_)
  simp [zi247]
@[simp] theorem sws_rep (n:Nat):List.replicate n [IV.sc (.int .i64 0),IV.sc (.int .i64 0),IV.sc (.int .i64 0),IV.sc (.int .i64 0)]=sws (List.replicate n (0,0,0,0)):=by simp [sws]
@[simp] theorem sws_set (xs:List Q4) (i:Nat) (a b c d:Int):(sws xs).set i [IV.sc (.int .i64 a),IV.sc (.int .i64 b),IV.sc (.int .i64 c),IV.sc (.int .i64 d)]=sws (xs.set i (a,b,c,d)):=by
  simp [sws,List.map_set]
theorem ev_toSwitch (a b p q:Int):Ev tb zl250 [] [.agg [I a,I b,I p,I q]] [] ⟨.agg [I a,I b,I p,I q],[],[],[]⟩:=by
  refine call_of_wp zt250 rfl ?_
  repeat (first|apply wp_as|apply wp_ss|refine wr (by simp;with_reducible rfl) ?_|refine wq (by simp;with_reducible rfl) ?_|refine wt (by simpa) ?_|refine wf (by simpa) ?_|refine xt (by simpa) ?_|refine xf (by simpa) ?_|apply wp_bs|apply wp_b|refine wp_sr ?_|refine wp_sx ?_|refine wp_ret' ?_|refine wp_skip' ?_|refine wp_exit' ?_)
  simp [zi250]
theorem toS_loop (a:List Q4) (c:Bool) (hl:a.length≤2000000):∀ (m i:Nat) (A:List Q4),i+m=a.length→A.length=a.length→A.take i=a.take i →
    wp tb (.loop z251l6) { T:=[(0,L4 a c),(3,O4 A),(4,I i)],loc:=[],M:=[] }
      (fun ex st=>ex=.exit 0∧st={ T:=[(0,L4 a c),(3,O4 a),(4,I a.length),(11,Bo false)],loc:=[],M:=[] }):=by
  intro m
  induction m with
  | zero =>
    intro i A hi hA ht
    have h3:i=a.length:=hi
    subst h3
    rw [List.take_of_length_le (by omega),List.take_of_length_le (by omega)] at ht
    rw [ht]
    refine wp_loop ?_
    repeat (first|apply wp_as|apply wp_ss|refine wr (by simp;with_reducible rfl) ?_|refine wq (by simp;with_reducible rfl) ?_|refine wt (by simpa) ?_|refine wf (by simpa) ?_|refine xt (by simpa) ?_|refine xf (by simpa) ?_|apply wp_bs|apply wp_b|refine wp_sr ?_|refine wp_sx ?_|refine wp_ret' ?_|refine wp_skip' ?_|refine wp_exit' ?_)
    exact ⟨rfl,rfl⟩
  | succ m ih =>
    intro i A hi hA ht
    have hi2:i < a.length:=by omega
    have hi3:i < A.length:=by omega
    have w2:IntKind.i64.wrap ((i:Int)+1)=((i+1:Nat):Int):=wrapS (by omega)
    have hg:=ih (i+1) (A.set i a[i]) (by omega) (by simpa using hA) (by
      rw [List.take_succ_eq_append_getElem (by simpa using hi3),List.take_succ_eq_append_getElem hi2,List.take_set_of_le (Nat.le_refl _),ht];simp)
    obtain ⟨⟨p,q,r,s⟩,hx⟩:∃ x,x=a[i]:=⟨_,rfl⟩
    have hx:=hx.symm
    rw [hx] at hg
    have e1:=ev_lim (ev_toSwitch p q r s)
    refine wp_loop ?_
    repeat (first|apply wp_as|apply wp_ss|refine wr (by simp [hi2,hi3,w2,hx,e1];with_reducible rfl) ?_|refine wq (by simp [hi2,hi3,w2,hx,e1];with_reducible rfl) ?_|refine wt (by simpa [hi2,hi3,w2,hx,e1]) ?_|refine wf (by simpa [hi2,hi3,w2,hx,e1]) ?_|refine xt (by simpa [hi2,hi3,w2,hx,e1]) ?_|refine xf (by simpa [hi2,hi3,w2,hx,e1]) ?_|apply wp_bs|apply wp_b|refine wp_sr ?_|refine wp_sx ?_|refine wp_ret' ?_|refine wp_skip' ?_|refine wp_exit' ?_)
    exact hg
theorem ev_toSwitchS (a:List Q4) (c:Bool) (hl:a.length≤2000000):Ev tb zl251 [] [L4 a c] [] ⟨O4 a,[],[],[]⟩:=by
  have hlo:=toS_loop a c hl a.length 0 (List.replicate a.length (0,0,0,0)) (by omega) (by simp) (by simp)
  rw [show ((0:Nat):Int)=0 from rfl] at hlo
  have hl2:a.length≤274877906944:=by omega
  refine call_of_wp zt251 rfl ?_
  repeat (first|apply wp_as|apply wp_ss|refine wr (by simp [hl2];with_reducible rfl) ?_|refine wq (by simp [hl2];with_reducible rfl) ?_|refine wt (by simpa [hl2]) ?_|refine wf (by simpa [hl2]) ?_|refine xt (by simpa [hl2]) ?_|refine xf (by simpa [hl2]) ?_|apply wp_bs|apply wp_b|refine wp_sr ?_|refine wp_sx ?_|refine wp_ret' ?_|refine wp_skip' ?_|refine wp_exit' ?_)
  refine wp_imp hlo ?_
  rintro ex st ⟨rfl,rfl⟩
  try simp only [if_true]
  repeat (first|apply wp_as|apply wp_ss|refine wr (by simp;with_reducible rfl) ?_|refine wq (by simp;with_reducible rfl) ?_|refine wt (by simpa) ?_|refine wf (by simpa) ?_|refine xt (by simpa) ?_|refine xf (by simpa) ?_|apply wp_bs|apply wp_b|refine wp_sr ?_|refine wp_sx ?_|refine wp_ret' ?_|refine wp_skip' ?_|refine wp_exit' ?_)
  simp [zi251]
theorem ev_eqSwitch (a b p q:Int):Ev tb zl235 [] [.agg [I a,I b,I p,I q],.agg [I a,I b,I p,I q]] [] ⟨Bo true,[],[],[]⟩:=by
  refine call_of_wp zt235 rfl ?_
  repeat (first|apply wp_as|apply wp_ss|refine wr (by simp;with_reducible rfl) ?_|refine wq (by simp;with_reducible rfl) ?_|refine wt (by simpa) ?_|refine wf (by simpa) ?_|refine xt (by simpa) ?_|refine xf (by simpa) ?_|apply wp_bs|apply wp_b|refine wp_sr ?_|refine wp_sx ?_|refine wp_ret' ?_|refine wp_skip' ?_|refine wp_exit' ?_)
  simp [zi235]
theorem eqS_loop (a:List Q4) (c d:Bool) (hl:a.length≤2000000):∀ (m i:Nat),i+m=a.length →
    wp tb (.loop z236l8) { T:=[(0,L4 a c),(1,L4 a d),(5,I i)],loc:=[],M:=[] }
      (fun ex st=>ex=.exit 0∧st={ T:=[(0,L4 a c),(1,L4 a d),(5,I a.length),(14,Bo false)],loc:=[],M:=[] }):=by
  intro m
  induction m with
  | zero =>
    intro i hi
    have h3:i=a.length:=hi
    subst h3
    refine wp_loop ?_
    repeat (first|apply wp_as|apply wp_ss|refine wr (by simp;with_reducible rfl) ?_|refine wq (by simp;with_reducible rfl) ?_|refine wt (by simpa) ?_|refine wf (by simpa) ?_|refine xt (by simpa) ?_|refine xf (by simpa) ?_|apply wp_bs|apply wp_b|refine wp_sr ?_|refine wp_sx ?_|refine wp_ret' ?_|refine wp_skip' ?_|refine wp_exit' ?_)
    exact ⟨rfl,rfl⟩
  | succ m ih =>
    intro i hi
    have hi2:i < a.length:=by omega
    have w2:IntKind.i64.wrap ((i:Int)+1)=((i+1:Nat):Int):=wrapS (by omega)
    have hg:=ih (i+1) (by omega)
    obtain ⟨⟨p,q,r,s⟩,hx⟩:∃ x,x=a[i]:=⟨_,rfl⟩
    have hx:=hx.symm
    have e1:=ev_lim (ev_eqSwitch p q r s)
    refine wp_loop ?_
    repeat (first|apply wp_as|apply wp_ss|refine wr (by simp [hi2,w2,hx,e1];with_reducible rfl) ?_|refine wq (by simp [hi2,w2,hx,e1];with_reducible rfl) ?_|refine wt (by simpa [hi2,w2,hx,e1]) ?_|refine wf (by simpa [hi2,w2,hx,e1]) ?_|refine xt (by simpa [hi2,w2,hx,e1]) ?_|refine xf (by simpa [hi2,w2,hx,e1]) ?_|apply wp_bs|apply wp_b|refine wp_sr ?_|refine wp_sx ?_|refine wp_ret' ?_|refine wp_skip' ?_|refine wp_exit' ?_)
    exact hg
theorem ev_eqSwitchS (a:List Q4) (c d:Bool) (hl:a.length≤2000000):Ev tb zl236 [] [L4 a c,L4 a d] [] ⟨Bo true,[],[],[]⟩:=by
  have hlo:=eqS_loop a c d hl a.length 0 (by omega)
  rw [show ((0:Nat):Int)=0 from rfl] at hlo
  refine call_of_wp zt236 rfl ?_
  repeat (first|apply wp_as|apply wp_ss|refine wr (by simp;with_reducible rfl) ?_|refine wq (by simp;with_reducible rfl) ?_|refine wt (by simpa) ?_|refine wf (by simpa) ?_|refine xt (by simpa) ?_|refine xf (by simpa) ?_|apply wp_bs|apply wp_b|refine wp_sr ?_|refine wp_sx ?_|refine wp_ret' ?_|refine wp_skip' ?_|refine wp_exit' ?_)
  refine wp_imp hlo ?_
  rintro ex st ⟨rfl,rfl⟩
  try simp only [if_true]
  repeat (first|apply wp_as|apply wp_ss|refine wr (by simp;with_reducible rfl) ?_|refine wq (by simp;with_reducible rfl) ?_|refine wt (by simpa) ?_|refine wf (by simpa) ?_|refine xt (by simpa) ?_|refine xf (by simpa) ?_|apply wp_bs|apply wp_b|refine wp_sr ?_|refine wp_sx ?_|refine wp_ret' ?_|refine wp_skip' ?_|refine wp_exit' ?_)
  simp [zi236]
def mrk4 (k:Int) (n:Nat):List Q4:=(List.range n).map fun i:Nat=>(k+4 * (i:Int),k+4 * (i:Int)+1,k+4 * (i:Int)+1+1,k+4 * (i:Int)+1+1+1)
theorem mrk4_len (k:Int) (n:Nat):(mrk4 k n).length=n:=by simp [mrk4]
theorem mrk4_get (k:Int) (n i:Nat) (h:i < (mrk4 k n).length):(mrk4 k n)[i]=(k+4 * (i:Int),k+4 * (i:Int)+1,k+4 * (i:Int)+1+1,k+4 * (i:Int)+1+1+1):=by simp [mrk4]
set_option maxHeartbeats 2000000 in
theorem mkS_loop (k:Int) (n:Nat) (hn:n≤10000000) (hk:0≤k∧k≤100000000):∀ (m i:Nat) (A:List Q4),i+m=n→A.length=n→A.take i=(mrk4 k n).take i →
    wp tb (.loop z244l12) { T:=[(0,O4 A),(1,I (k+4 * i)),(5,I i)],loc:=[],M:=[] }
      (fun ex st=>ex=.exit 0∧st={ T:=[(0,O4 (mrk4 k n)),(1,I (k+4 * n)),(5,I n),(9,Bo false)],loc:=[],M:=[] }):=by
  intro m
  induction m with
  | zero =>
    intro i A hi hA ht
    have h3:i=n:=hi
    subst h3
    rw [List.take_of_length_le (by omega),List.take_of_length_le (by rw [mrk4_len];omega)] at ht
    subst ht
    refine wp_loop ?_
    repeat (first|apply wp_as|apply wp_ss|refine wr (by simp [mrk4_len];with_reducible rfl) ?_|refine wq (by simp [mrk4_len];with_reducible rfl) ?_|refine wt (by simpa [mrk4_len]) ?_|refine wf (by simpa [mrk4_len]) ?_|refine xt (by simpa [mrk4_len]) ?_|refine xf (by simpa [mrk4_len]) ?_|apply wp_bs|apply wp_b|refine wp_sr ?_|refine wp_sx ?_|refine wp_ret' ?_|refine wp_skip' ?_|refine wp_exit' ?_)
    exact ⟨rfl,rfl⟩
  | succ m ih =>
    intro i A hi hA ht
    have hi2:i < A.length:=by omega
    have w2:IntKind.i64.wrap ((i:Int)+1)=((i+1:Nat):Int):=wrapS (by omega)
    have w3:IntKind.i64.wrap (k+4 * (i:Int)+1)=k+4 * (i:Int)+1:=by rw [wrap64 (by omega) (by omega)]
    have w4:IntKind.i64.wrap (k+4 * (i:Int)+1+1)=k+4 * (i:Int)+1+1:=by rw [wrap64 (by omega) (by omega)]
    have w5:IntKind.i64.wrap (k+4 * (i:Int)+1+1+1)=k+4 * (i:Int)+1+1+1:=by rw [wrap64 (by omega) (by omega)]
    have w6:IntKind.i64.wrap (k+4 * (i:Int)+1+1+1+1)=k+4 * ((i+1:Nat):Int):=by rw [wrap64 (by omega) (by omega)];omega
    have hg:=ih (i+1) (A.set i (k+4 * (i:Int),k+4 * (i:Int)+1,k+4 * (i:Int)+1+1,k+4 * (i:Int)+1+1+1)) (by omega) (by simpa using hA) (by
      rw [List.take_succ_eq_append_getElem (by simpa using hi2),List.take_succ_eq_append_getElem (by rw [mrk4_len];omega),List.take_set_of_le (Nat.le_refl _),ht,mrk4_get];simp)
    obtain ⟨⟨p,q,r,s⟩,hx⟩:∃ x,x=A[i]:=⟨_,rfl⟩
    have hx:=hx.symm
    refine wp_loop ?_
    repeat (first|apply wp_as|apply wp_ss|refine wr (by simp [hi2,w2,w3,w4,w5,w6,hx];with_reducible rfl) ?_|refine wq (by simp [hi2,w2,w3,w4,w5,w6,hx];with_reducible rfl) ?_|refine wt (by simpa [hi2,w2,w3,w4,w5,w6,hx]) ?_|refine wf (by simpa [hi2,w2,w3,w4,w5,w6,hx]) ?_|refine xt (by simpa [hi2,w2,w3,w4,w5,w6,hx]) ?_|refine xf (by simpa [hi2,w2,w3,w4,w5,w6,hx]) ?_|apply wp_bs|apply wp_b|refine wp_sr ?_|refine wp_sx ?_|refine wp_ret' ?_|refine wp_skip' ?_|refine wp_exit' ?_)
    exact hg
theorem ev_markSwitchS (a:List Q4) (k:Int) (hl:a.length≤10000000) (hk:0≤k∧k≤100000000):Ev tb zl244 [0] [O4 a,I k] [] ⟨I (k+4 * a.length),[O4 (mrk4 k a.length)],[],[]⟩:=by
  have hlo:=mkS_loop k a.length hl hk a.length 0 a (by omega) rfl (by simp)
  rw [show k+4 * ((0:Nat):Int)=k by omega,show ((0:Nat):Int)=0 from rfl] at hlo
  refine call_of_wp zt244 rfl ?_
  repeat (first|apply wp_as|apply wp_ss|refine wr (by simp;with_reducible rfl) ?_|refine wq (by simp;with_reducible rfl) ?_|refine wt (by simpa) ?_|refine wf (by simpa) ?_|refine xt (by simpa) ?_|refine xf (by simpa) ?_|apply wp_bs|apply wp_b|refine wp_sr ?_|refine wp_sx ?_|refine wp_ret' ?_|refine wp_skip' ?_|refine wp_exit' ?_)
  refine wp_imp hlo ?_
  rintro ex st ⟨rfl,rfl⟩
  try simp only [if_true]
  repeat (first|apply wp_as|apply wp_ss|refine wr (by simp;with_reducible rfl) ?_|refine wq (by simp;with_reducible rfl) ?_|refine wt (by simpa) ?_|refine wf (by simpa) ?_|refine xt (by simpa) ?_|refine xf (by simpa) ?_|apply wp_bs|apply wp_b|refine wp_sr ?_|refine wp_sx ?_|refine wp_ret' ?_|refine wp_skip' ?_|refine wp_exit' ?_)
  simp [zi244]
theorem mrk2_sc (k:Int) (n:Nat):(eds (mrk2 k n)).all (·.all IV.isSc)=true:=by
  rw [List.all_eq_true];intro x hx
  obtain ⟨e,_,rfl⟩:=List.mem_map.1 hx
  rfl
theorem mrk4_sc (k:Int) (n:Nat):(sws (mrk4 k n)).all (·.all IV.isSc)=true:=by
  rw [List.all_eq_true];intro x hx
  obtain ⟨e,_,rfl⟩:=List.mem_map.1 hx
  rfl
end Go.Idl
namespace Go.Idl
open Go
theorem runI_ok {n:Nat}:∀ (l:List Q4) {es x:List (Int×Int)},vGraph n es=true→runI es l=some x→vGraph n x=true∧degs n x=degs n es:=by
  intro l
  induction l with
  | nil =>
    intro es x hv h
    rw [runI] at h
    cases h
    exact ⟨hv,rfl⟩
  | cons s l ih =>
    intro es x hv h
    rw [runI] at h
    split at h
    · rename_i hm
      obtain ⟨-,-,q3,-⟩:=swX_ok hv hm
      obtain ⟨h1,h2⟩:=ih q3 h
      exact ⟨h1,by rw [h2,sw_degs hv hm]⟩
    · cases h
theorem runS_eq {n:Nat}:∀ (l:List Q4) {es:List (Int×Int)},vGraph n es=true→runS es l=runI es l:=by
  intro l
  induction l with
  | nil=>intro es hv;rfl
  | cons s l ih =>
    intro es hv
    rw [runS,runI,may_eq hv]
    split
    · rename_i hm
      obtain ⟨-,-,q3,-⟩:=swX_ok hv hm
      rw [sw_eq hv hm]
      exact ih q3
    · rfl
end Go.Idl
namespace Go.Idl
open Go
set_option maxHeartbeats 4000000 in
theorem runV_loop (n:Nat) (es:List (Int×Int)) (cc c:Bool) (l:List Q4) (hl:l.length≤2000000) :
    ∀ (m j:Nat) (es':List (Int×Int)) (B:Boxes),j+m=l.length→vGraph n es'=true →
    wp tb (.loop z326l10) { T:=[(1,L4 l c),(4,.bptr 0 1 0),(6,.bptr 0 2 0),(7,I j)],loc:=[I n,L2 es cc]::[I 0,Z]::[I n,O2 es']::B,M:=[] }
      (fun ex st=>match runS es' (l.drop j) with
        | some x=>ex=.exit 0∧∃ B',st={ T:=[(1,L4 l c),(4,.bptr 0 1 0),(6,.bptr 0 2 0),(7,I l.length),(22,Bo false)],loc:=[I n,L2 es cc]::[I 0,Z]::[I n,O2 x]::B',M:=[] }
        | none=>ex=.ret∧∃ B',st={ T:=[(4,.bptr 0 1 0),(5,Bo false)],loc:=[I n,L2 es cc]::[I 0,Z]::B',M:=[] }):=by
  intro m
  induction m with
  | zero =>
    intro j es' B hj hb
    have h3:j=l.length:=hj
    subst h3
    have h2:l.drop l.length=[]:=List.drop_length
    rw [h2]
    refine wp_loop ?_
    repeat (first|apply wp_as|apply wp_ss|refine wr (by simp;with_reducible rfl) ?_|refine wq (by simp;with_reducible rfl) ?_|refine wt (by simpa) ?_|refine wf (by simpa) ?_|refine xt (by simpa) ?_|refine xf (by simpa) ?_|apply wp_bs|apply wp_b|refine wp_sr ?_|refine wp_sx ?_|refine wp_ret' ?_|refine wp_skip' ?_|refine wp_exit' ?_)
    exact ⟨rfl,_,rfl⟩
  | succ m ih =>
    intro j es' B hj hb
    have hjl:j < l.length:=by omega
    have h2:l.drop j=l[j]::l.drop (j+1):=List.drop_eq_getElem_cons hjl
    obtain ⟨⟨a,b,x,d⟩,hx⟩:∃ x,x=l[j]:=⟨_,rfl⟩
    have hx2:=hx.symm
    have w2:IntKind.i64.wrap ((j:Int)+1)=((j+1:Nat):Int):=wrapS (by omega)
    have h21:=vG21 (vG_iff.1 hb).2.2 hb
    have e1:=fun cc=>ev_lim (ev_maySwitch n es' cc a b x d (by omega))
    have e2:=fun cc=>ev_lim (ev_switched n es' cc a b x d (by omega))
    rw [h2,hx2,runS]
    cases hm:mayS es' a b x d with
    | false =>
      rw [hm] at e1
      refine wp_loop ?_
      repeat (first|apply wp_as|apply wp_ss|refine wr (by simp [hjl,hx2,e1,w2];with_reducible rfl) ?_|refine wq (by simp [hjl,hx2,e1,w2];with_reducible rfl) ?_|refine wt (by simpa [hjl,hx2,e1,w2]) ?_|refine wf (by simpa [hjl,hx2,e1,w2]) ?_|refine xt (by simpa [hjl,hx2,e1,w2]) ?_|refine xf (by simpa [hjl,hx2,e1,w2]) ?_|apply wp_bs|apply wp_b|refine wp_sr ?_|refine wp_sx ?_|refine wp_ret' ?_|refine wp_skip' ?_|refine wp_exit' ?_)
      exact ⟨rfl,_,rfl⟩
    | true =>
      rw [hm] at e1
      have hmI:mayI es' a b x d=true:=by rw [← may_eq hb];exact hm
      have hn:=fun B=>ih (j+1) (swS es' a b x d) B (by omega) (by rw [sw_eq hb hmI];exact (swX_ok hb hmI).2.2.1)
      refine wp_loop ?_
      repeat (first|apply wp_as|apply wp_ss|refine wr (by simp [hjl,hx2,e1,e2,w2];with_reducible rfl) ?_|refine wq (by simp [hjl,hx2,e1,e2,w2];with_reducible rfl) ?_|refine wt (by simpa [hjl,hx2,e1,e2,w2]) ?_|refine wf (by simpa [hjl,hx2,e1,e2,w2]) ?_|refine xt (by simpa [hjl,hx2,e1,e2,w2]) ?_|refine xf (by simpa [hjl,hx2,e1,e2,w2]) ?_|apply wp_bs|apply wp_b|refine wp_sr ?_|refine wp_sx ?_|refine wp_ret' ?_|refine wp_skip' ?_|refine wp_exit' ?_)
      exact hn _
set_option maxHeartbeats 4000000 in
theorem ev_spec_RunSwitchesV (n:Int) (es:List (Int×Int)) (cc:Bool) (l:List Q4) (c:Bool) (l1:es.length≤2000000) (hl:l.length≤2000000) :
    Ev tb zl326 [] [Gr n es cc,L4 l c] [] ⟨OR n (if vGraph n es then runS es l else none),[],[],[]⟩:=by
  have e1:=fun c=>ev_lim (ev_validGraph n es c (by omega))
  cases hv:vGraph n es with
  | false =>
    rw [hv] at e1
    refine call_of_wp zt326 rfl ?_
    repeat (first|apply wp_as|apply wp_ss|refine wr (by simp [e1];with_reducible rfl) ?_|refine wq (by simp [e1];with_reducible rfl) ?_|refine wt (by simpa [e1]) ?_|refine wf (by simpa [e1]) ?_|refine xt (by simpa [e1]) ?_|refine xf (by simpa [e1]) ?_|apply wp_bs|apply wp_b|refine wp_sr ?_|refine wp_sx ?_|refine wp_ret' ?_|refine wp_skip' ?_|refine wp_exit' ?_)
    simp [zi326]
  | true =>
  rw [hv] at e1
  have hn:=vG_n hv
  obtain ⟨n,rfl⟩:=Int.eq_ofNat_of_zero_le hn.1
  have loop:=runV_loop n es cc c l hl l.length 0 es [] (by omega) hv
  rw [List.drop_zero] at loop
  refine call_of_wp zt326 rfl ?_
  repeat (first|apply wp_as|apply wp_ss|refine wr (by simp [e1];with_reducible rfl) ?_|refine wq (by simp [e1];with_reducible rfl) ?_|refine wt (by simpa [e1]) ?_|refine wf (by simpa [e1]) ?_|refine xt (by simpa [e1]) ?_|refine xf (by simpa [e1]) ?_|apply wp_bs|apply wp_b|refine wp_sr ?_|refine wp_sx ?_|refine wp_ret' ?_|refine wp_skip' ?_|refine wp_exit' ?_)
  have hL:es.length≤274877906944:=by omega
  refine wp_rds rfl (by simp [hL];with_reducible rfl) (by simp;with_reducible rfl) ?_ ?_
  · intro p hp
    simp only [List.mem_cons,List.not_mem_nil,or_false] at hp
    rcases hp with rfl | rfl | rfl | rfl | rfl | rfl | rfl | rfl | rfl | rfl | rfl | rfl | rfl | rfl | rfl | rfl | rfl
    · exact ⟨_,by simp [hL];with_reducible rfl,by simp⟩
    · exact ⟨_,by simp [hL];with_reducible rfl,by simp⟩
    · exact ⟨_,by simp [hL];with_reducible rfl,by simp⟩
    · exact ⟨_,by simp [hL];with_reducible rfl,by simp⟩
    · exact ⟨_,by simp [hL];with_reducible rfl,by simp⟩
    · exact ⟨_,by simp [hL];with_reducible rfl,by simp⟩
    · exact ⟨_,by simp [hL];with_reducible rfl,by simp⟩
    · exact ⟨_,by simp [hL];with_reducible rfl,by simp⟩
    · exact ⟨_,by simp [hL];with_reducible rfl,by simp⟩
    · exact ⟨_,by simp [hL];with_reducible rfl,by simp⟩
    · exact ⟨_,by simp [hL];with_reducible rfl,by simp⟩
    · exact ⟨_,by simp [hL];with_reducible rfl,by simp⟩
    · exact ⟨_,by simp [hL];with_reducible rfl,by simp⟩
    · exact ⟨_,by simp [hL];with_reducible rfl,by simp⟩
    · exact ⟨_,by simp [hL];with_reducible rfl,by simp⟩
    · exact ⟨_,by simp [hL];with_reducible rfl,by simp⟩
    · exact ⟨_,by simp [hL];with_reducible rfl,by simp⟩
  repeat (first|apply wp_as|apply wp_ss|refine wr (by simp;with_reducible rfl) ?_|refine wq (by simp;with_reducible rfl) ?_|refine wt (by simpa) ?_|refine wf (by simpa) ?_|refine xt (by simpa) ?_|refine xf (by simpa) ?_|apply wp_bs|apply wp_b|refine wp_sr ?_|refine wp_sx ?_|refine wp_ret' ?_|refine wp_skip' ?_|refine wp_exit' ?_)
  refine wp_imp loop ?_
  intro ex st hst
  simp only [if_true]
  cases hr:runS es l with
  | none =>
    rw [hr] at hst
    obtain ⟨rfl,B',rfl⟩:=hst
    simp [zi326]
  | some x =>
    rw [hr] at hst
    obtain ⟨rfl,B',rfl⟩:=hst
    repeat (first|apply wp_as|apply wp_ss|refine wr (by simp;with_reducible rfl) ?_|refine wq (by simp;with_reducible rfl) ?_|refine wt (by simpa) ?_|refine wf (by simpa) ?_|refine xt (by simpa) ?_|refine xf (by simpa) ?_|apply wp_bs|apply wp_b|refine wp_sr ?_|refine wp_sx ?_|refine wp_ret' ?_|refine wp_skip' ?_|refine wp_exit' ?_)
    simp [zi326]
set_option maxHeartbeats 8000000 in
theorem ev_FnExactRunSwitches (n:Int) (es:List (Int×Int)) (c:Bool) (l:List Q4) (c2:Bool) (hf:Fit es) (hb:es.length < 9223372036854775808) (hb2:l.length < 9223372036854775808) :
    Ev tb zl428 [] [Gr n es c,L4 l c2] [] ⟨Bo true,[],[],[]⟩:=by
  by_cases hc:(1048576:Int) < es.length
  · have s1:=fun c=>ev_lim (ev_szGraph_no n es c 1048576 hc (by omega) hb)
    refine call_of_wp zt428 rfl ?_
    repeat (first|apply wp_as|apply wp_ss|refine wr (by simp [s1];with_reducible rfl) ?_|refine wq (by simp [s1];with_reducible rfl) ?_|refine wt (by simpa [s1]) ?_|refine wf (by simpa [s1]) ?_|refine xt (by simpa [s1]) ?_|refine xf (by simpa [s1]) ?_|apply wp_bs|apply wp_b|refine wp_sr ?_|refine wp_sx ?_|refine wp_ret' ?_|refine wp_skip' ?_|refine wp_exit' ?_)
    simp [zi428]
  have s1:=fun c=>ev_lim (ev_szGraph_ok n es c 1048576 (by omega) (by omega))
  have h8:¬ (1048576 - (es.length:Int) < 0):=by omega
  by_cases hc2:(1048576:Int) - es.length < l.length
  · have s2:=fun c=>ev_lim (ev_szSwitchS_no l c (1048576 - es.length) hc2 (by omega) hb2)
    refine call_of_wp zt428 rfl ?_
    repeat (first|apply wp_as|apply wp_ss|refine wr (by simp [s1,h8,s2];with_reducible rfl) ?_|refine wq (by simp [s1,h8,s2];with_reducible rfl) ?_|refine wt (by simpa [s1,h8,s2]) ?_|refine wf (by simpa [s1,h8,s2]) ?_|refine xt (by simpa [s1,h8,s2]) ?_|refine xf (by simpa [s1,h8,s2]) ?_|apply wp_bs|apply wp_b|refine wp_sr ?_|refine wp_sx ?_|refine wp_ret' ?_|refine wp_skip' ?_|refine wp_exit' ?_)
    simp [zi428]
  have s2:=fun c=>ev_lim (ev_szSwitchS_ok l c (1048576 - es.length) (by omega) (by omega))
  have h7:¬ (1048576 - (es.length:Int) - (l.length:Int) < 0):=by omega
  have t1:=fun c=>ev_lim (ev_toGraph n es c (by omega))
  have t2:=fun c=>ev_lim (ev_toSwitchS l c (by omega))
  have q1:=fun c d=>ev_lim (ev_eqGraph n es c d (by omega))
  have q2:=fun c d=>ev_lim (ev_eqSwitchS l c d (by omega))
  have m1:=ev_lim (ev_markGraph n es 1 (by omega) (by omega))
  have m0:=ev_lim (ev_markSwitchS l (1+2 * (es.length:Int)) (by omega) (by omega))
  have h0:¬ (1+2 * (es.length:Int)+4 * (l.length:Int) < 0):=by omega
  have hs1:=mrk2_sc 1 es.length
  have hs3:=mrk4_sc (1+2 * (es.length:Int)) l.length
  have no:(∀ c d,limF tb zl196 [] [Gr n es c,L4 l d] []=some ⟨.tup [.agg [I 0,Z],Bo false],[],[],[]⟩)→(∀ c d,limF tb zl326 [] [Gr n es c,L4 l d] []=some ⟨.tup [.agg [I 0,Z],Bo false],[],[],[]⟩) →
      Ev tb zl428 [] [Gr n es c,L4 l c2] [] ⟨Bo true,[],[],[]⟩:=by
    intro e2 e3
    have ez:=ev_lim (ev_eqGraph_Z 0 Z Z (.inl rfl) (.inl rfl))
    have m2:=ev_lim (ev_markGraph_Z 0 1)
    have m3:=ev_lim (ev_heldGraph_Z 0 1 (by omega))
    refine call_of_wp zt428 rfl ?_
    repeat (first|apply wp_as|apply wp_ss|refine wr (by simp [s1,h8,s2,h7,t1,t2,q1,q2,m1,m0,h0,hs1,hs3,e2,e3,ez,m2,m3];with_reducible rfl) ?_|refine wq (by simp [s1,h8,s2,h7,t1,t2,q1,q2,m1,m0,h0,hs1,hs3,e2,e3,ez,m2,m3];with_reducible rfl) ?_|refine wt (by simpa [s1,h8,s2,h7,t1,t2,q1,q2,m1,m0,h0,hs1,hs3,e2,e3,ez,m2,m3]) ?_|refine wf (by simpa [s1,h8,s2,h7,t1,t2,q1,q2,m1,m0,h0,hs1,hs3,e2,e3,ez,m2,m3]) ?_|refine xt (by simpa [s1,h8,s2,h7,t1,t2,q1,q2,m1,m0,h0,hs1,hs3,e2,e3,ez,m2,m3]) ?_|refine xf (by simpa [s1,h8,s2,h7,t1,t2,q1,q2,m1,m0,h0,hs1,hs3,e2,e3,ez,m2,m3]) ?_|apply wp_bs|apply wp_b|refine wp_sr ?_|refine wp_sx ?_|refine wp_ret' ?_|refine wp_skip' ?_|refine wp_exit' ?_)
    refine wp_ra (by simp [t1,q1];with_reducible rfl) (by simp;with_reducible rfl) ?_ ?_
    · intro p hp
      simp only [List.mem_cons,List.not_mem_nil,or_false] at hp
      subst hp
      exact ⟨_,by simp [t1,q1];with_reducible rfl,by simp⟩
    repeat (first|apply wp_as|apply wp_ss|refine wr (by simp [s1,h8,s2,h7,t1,t2,q1,q2,m1,m0,h0,hs1,hs3,e2,e3,ez,m2,m3];with_reducible rfl) ?_|refine wq (by simp [s1,h8,s2,h7,t1,t2,q1,q2,m1,m0,h0,hs1,hs3,e2,e3,ez,m2,m3];with_reducible rfl) ?_|refine wt (by simpa [s1,h8,s2,h7,t1,t2,q1,q2,m1,m0,h0,hs1,hs3,e2,e3,ez,m2,m3]) ?_|refine wf (by simpa [s1,h8,s2,h7,t1,t2,q1,q2,m1,m0,h0,hs1,hs3,e2,e3,ez,m2,m3]) ?_|refine xt (by simpa [s1,h8,s2,h7,t1,t2,q1,q2,m1,m0,h0,hs1,hs3,e2,e3,ez,m2,m3]) ?_|refine xf (by simpa [s1,h8,s2,h7,t1,t2,q1,q2,m1,m0,h0,hs1,hs3,e2,e3,ez,m2,m3]) ?_|apply wp_bs|apply wp_b|refine wp_sr ?_|refine wp_sx ?_|refine wp_ret' ?_|refine wp_skip' ?_|refine wp_exit' ?_)
    simp [zi428]
  have e3:=fun c d=>ev_lim (ev_spec_RunSwitchesV n es c l d (by omega) (by omega))
  cases hv:vGraph n es with
  | false =>
    simp only [hv,Bool.false_eq_true,if_false,OR] at e3
    exact no (fun c d=>ev_lim (ev_RunSwitches_no n es c (L4 l d) (.inr ⟨l,d,rfl⟩) hv hf (by omega))) e3
  | true =>
  have hn:=vG_n hv
  obtain ⟨n,rfl⟩:=Int.eq_ofNat_of_zero_le hn.1
  have hn7:=(vG_iff.1 hv).2.2
  have e2:=fun c d=>ev_lim (ev_RunSwitches n es c l d hv hf (by omega) (by omega))
  simp only [hv,if_true,runS_eq l hv] at e3
  cases hr:runI es l with
  | none =>
    simp only [hr,OR] at e2 e3
    exact no e2 e3
  | some xs =>
    obtain ⟨hvx,-⟩:=runI_ok l hv hr
    have h21:=vG21 hn7 hvx
    simp only [hr,OR] at e2 e3
    have ez:=fun c d=>ev_lim (ev_eqGraph n xs c d (by omega))
    have m2:=ev_lim (ev_markGraph n xs 1 (by omega) (by omega))
    have m3:=fun c=>ev_lim (ev_heldGraph n 1 xs.length c (by omega) (by omega))
    have h9:¬ (1+2 * (xs.length:Int) < 0):=by omega
    have hs2:=mrk2_sc 1 xs.length
    refine call_of_wp zt428 rfl ?_
    repeat (first|apply wp_as|apply wp_ss|refine wr (by simp [s1,h8,s2,h7,t1,t2,q1,q2,m1,m0,h0,hs1,hs3,e2,e3,ez,m2,m3,h9,hs2];with_reducible rfl) ?_|refine wq (by simp [s1,h8,s2,h7,t1,t2,q1,q2,m1,m0,h0,hs1,hs3,e2,e3,ez,m2,m3,h9,hs2];with_reducible rfl) ?_|refine wt (by simpa [s1,h8,s2,h7,t1,t2,q1,q2,m1,m0,h0,hs1,hs3,e2,e3,ez,m2,m3,h9,hs2]) ?_|refine wf (by simpa [s1,h8,s2,h7,t1,t2,q1,q2,m1,m0,h0,hs1,hs3,e2,e3,ez,m2,m3,h9,hs2]) ?_|refine xt (by simpa [s1,h8,s2,h7,t1,t2,q1,q2,m1,m0,h0,hs1,hs3,e2,e3,ez,m2,m3,h9,hs2]) ?_|refine xf (by simpa [s1,h8,s2,h7,t1,t2,q1,q2,m1,m0,h0,hs1,hs3,e2,e3,ez,m2,m3,h9,hs2]) ?_|apply wp_bs|apply wp_b|refine wp_sr ?_|refine wp_sx ?_|refine wp_ret' ?_|refine wp_skip' ?_|refine wp_exit' ?_)
    refine wp_ra (by simp [t1,q1];with_reducible rfl) (by simp;with_reducible rfl) ?_ ?_
    · intro p hp
      simp only [List.mem_cons,List.not_mem_nil,or_false] at hp
      subst hp
      exact ⟨_,by simp [t1,q1];with_reducible rfl,by simp⟩
    repeat (first|apply wp_as|apply wp_ss|refine wr (by simp [s1,h8,s2,h7,t1,t2,q1,q2,m1,m0,h0,hs1,hs3,e2,e3,ez,m2,m3,h9,hs2,mrk2_len,mrk2_take];with_reducible rfl) ?_|refine wq (by simp [s1,h8,s2,h7,t1,t2,q1,q2,m1,m0,h0,hs1,hs3,e2,e3,ez,m2,m3,h9,hs2,mrk2_len,mrk2_take];with_reducible rfl) ?_|refine wt (by simpa [s1,h8,s2,h7,t1,t2,q1,q2,m1,m0,h0,hs1,hs3,e2,e3,ez,m2,m3,h9,hs2,mrk2_len,mrk2_take]) ?_|refine wf (by simpa [s1,h8,s2,h7,t1,t2,q1,q2,m1,m0,h0,hs1,hs3,e2,e3,ez,m2,m3,h9,hs2,mrk2_len,mrk2_take]) ?_|refine xt (by simpa [s1,h8,s2,h7,t1,t2,q1,q2,m1,m0,h0,hs1,hs3,e2,e3,ez,m2,m3,h9,hs2,mrk2_len,mrk2_take]) ?_|refine xf (by simpa [s1,h8,s2,h7,t1,t2,q1,q2,m1,m0,h0,hs1,hs3,e2,e3,ez,m2,m3,h9,hs2,mrk2_len,mrk2_take]) ?_|apply wp_bs|apply wp_b|refine wp_sr ?_|refine wp_sx ?_|refine wp_ret' ?_|refine wp_skip' ?_|refine wp_exit' ?_)
    simp [zi428]
end Go.Idl
