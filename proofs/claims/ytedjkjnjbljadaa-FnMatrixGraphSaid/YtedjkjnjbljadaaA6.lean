/- Part 6 of a proof by an ideal interpreter of the code: its definitions and lemmas. Conditions: none. -/
import Derived.KernelRfl
import Derived.Test.YtedjkjnjbljadaaA5
set_option linter.all false
set_option linter.unusedVariables false
set_option linter.unusedSimpArgs false
namespace Go.Idl
open Go
def idx2 (e:Int×Int):Int→List (Int×Int)→Int
  | _,[]=>-1
  | i,x::r=>if x=e then i else idx2 e (i+1) r
theorem idx2_ge (e:Int×Int):∀ (xs:List (Int×Int)) (i:Int),0≤i→(decide (0≤idx2 e i xs)=xs.any fun x=>decide (x=e))
  | [],i,h=>by simp [idx2]
  | x::r,i,h=>by
    unfold idx2
    by_cases hp:x=e
    · simp [hp,h]
    · simp [hp];simpa using idx2_ge e r (i+1) (by omega)
theorem ev_Index2 (e0:Nat) (es:List (Int×Int)) (c:Bool) (e:Int×Int) (he0:e0=2 ∨ es=[]) (hl:es.length≤100000000) (M:List Boxes) :
    Ev tb zl269 [] [.lst e0 (eds es) c,.agg [I e.1,I e.2]] M ⟨I (idx2 e 0 es),[],M,[]⟩:=by
  have loop:∀ (m i:Nat),i+m=es.length→wp tb (.loop z269l7) { T:=[(0,.lst e0 (eds es) c),(3,.bptr M.length 0 0),(7,I es.length),(8,I i)],loc:=[[I e.1,I e.2]],M:=M }
      (fun ex st=>(ex=.exit 0∧idx2 e i (es.drop i)=-1∧st={ T:=[(0,.lst e0 (eds es) c),(3,.bptr M.length 0 0),(7,I es.length),(8,I es.length),(9,Bo false)],loc:=[[I e.1,I e.2]],M:=M }) ∨
        (ex=.ret∧st={ T:=[(4,I (idx2 e i (es.drop i)))],loc:=[[I e.1,I e.2]],M:=M })):=by
    intro m
    induction m with
    | zero =>
      intro i hi
      have h3:i=es.length:=hi
      subst h3
      refine wp_loop ?_
      repeat (first|apply wp_as|apply wp_ss|refine wr (by simp;with_reducible rfl) ?_|refine wq (by simp;with_reducible rfl) ?_|refine wt (by simpa) ?_|refine wf (by simpa) ?_|refine xt (by simpa) ?_|refine xf (by simpa) ?_|apply wp_bs|apply wp_b|refine wp_sr ?_|refine wp_sx ?_|refine wp_ret' ?_|refine wp_skip' ?_|refine wp_exit' ?_)
      exact .inl ⟨rfl,by simp [idx2],rfl⟩
    | succ m ih =>
      intro i hi
      have hi2:i < es.length:=by omega
      have he:e0=2:=by
        rcases he0 with h | h
        · exact h
        · rw [h] at hi2;simp at hi2
      subst he
      have hd:es.drop i=es[i]::es.drop (i+1):=List.drop_eq_getElem_cons hi2
      have w1:IntKind.i64.wrap ((i:Int)+1)=((i+1:Nat):Int):=wrapS (by omega)
      rw [hd]
      by_cases hq:es[i]=e
      · have h1:e.1=es[i].1:=by rw [hq]
        have h2:e.2=es[i].2:=by rw [hq]
        refine wp_loop ?_
        repeat (first|apply wp_as|apply wp_ss|refine wr (by simp [hi2,h1,h2,w1];with_reducible rfl) ?_|refine wq (by simp [hi2,h1,h2,w1];with_reducible rfl) ?_|refine wt (by simpa [hi2,h1,h2,w1]) ?_|refine wf (by simpa [hi2,h1,h2,w1]) ?_|refine xt (by simpa [hi2,h1,h2,w1]) ?_|refine xf (by simpa [hi2,h1,h2,w1]) ?_|apply wp_bs|apply wp_b|refine wp_sr ?_|refine wp_sx ?_|refine wp_ret' ?_|refine wp_skip' ?_|refine wp_exit' ?_)
        exact .inr ⟨rfl,by simp [idx2,hq]⟩
      · have h3:(e.1 == es[i].1 && e.2 == es[i].2)=false:=by
          rw [← Bool.not_eq_true,Bool.and_eq_true,beq_iff_eq,beq_iff_eq]
          rintro ⟨h1,h2⟩
          exact hq (by ext <;> simp [h1,h2])
        have hn:=ih (i+1) (by omega)
        simp only [idx2,hq,if_false]
        refine wp_loop ?_
        repeat (first|apply wp_as|apply wp_ss|refine wr (by simp [hi2,h3,w1];with_reducible rfl) ?_|refine wq (by simp [hi2,h3,w1];with_reducible rfl) ?_|refine wt (by simpa [hi2,h3,w1]) ?_|refine wf (by simpa [hi2,h3,w1]) ?_|refine xt (by simpa [hi2,h3,w1]) ?_|refine xf (by simpa [hi2,h3,w1]) ?_|apply wp_bs|apply wp_b|refine wp_sr ?_|refine wp_sx ?_|refine wp_ret' ?_|refine wp_skip' ?_|refine wp_exit' ?_)
        exact hn
  refine call_of_wp zt269 rfl ?_
  repeat (first|apply wp_as|apply wp_ss|refine wr (by simp;with_reducible rfl) ?_|refine wq (by simp;with_reducible rfl) ?_|refine wt (by simpa) ?_|refine wf (by simpa) ?_|refine xt (by simpa) ?_|refine xf (by simpa) ?_|apply wp_bs|apply wp_b|refine wp_sr ?_|refine wp_sx ?_|refine wp_ret' ?_|refine wp_skip' ?_|refine wp_exit' ?_)
  refine wp_imp (loop es.length 0 (by simp)) ?_
  rintro ex st (⟨rfl,h,rfl⟩ | ⟨rfl,rfl⟩)
  · try simp only [if_true]
    repeat (first|apply wp_as|apply wp_ss|refine wr (by simp;with_reducible rfl) ?_|refine wq (by simp;with_reducible rfl) ?_|refine wt (by simpa) ?_|refine wf (by simpa) ?_|refine xt (by simpa) ?_|refine xf (by simpa) ?_|apply wp_bs|apply wp_b|refine wp_sr ?_|refine wp_sx ?_|refine wp_ret' ?_|refine wp_skip' ?_|refine wp_exit' ?_)
    simp only [List.drop_zero] at h
    simp [zi269]
    exact h.symm
  · simp [zi269]
theorem ev_Contains2 (e0:Nat) (es:List (Int×Int)) (c:Bool) (e:Int×Int) (he0:e0=2 ∨ es=[]) (hl:es.length≤100000000) (M:List Boxes) :
    Ev tb zl263 [] [.lst e0 (eds es) c,.agg [I e.1,I e.2]] M ⟨Bo (es.any fun x=>decide (x=e)),[],M,[]⟩:=by
  have e1:=ev_lim (ev_Index2 e0 es c e he0 hl [])
  have h:=idx2_ge e es 0 (by omega)
  refine call_of_wp zt263 rfl ?_
  repeat (first|apply wp_as|apply wp_ss|refine wr (by simp [e1];with_reducible rfl) ?_|refine wq (by simp [e1];with_reducible rfl) ?_|refine wt (by simpa [e1]) ?_|refine wf (by simpa [e1]) ?_|refine xt (by simpa [e1]) ?_|refine xf (by simpa [e1]) ?_|apply wp_bs|apply wp_b|refine wp_sr ?_|refine wp_sx ?_|refine wp_ret' ?_|refine wp_skip' ?_|refine wp_exit' ?_)
  simp [zi263,h]
def hasM (es:List (Int×Int)) (a b:Int):Bool:=es.any fun x=>decide (x=(min a b,max a b))
theorem ev_has (n:Int) (e0:Nat) (es:List (Int×Int)) (c:Bool) (a b:Int) (he0:e0=2 ∨ es=[]) (hl:es.length≤100000000) (M:List Boxes) :
    Ev tb zl171 [] [.agg [I n,.lst e0 (eds es) c],I a,I b] M ⟨Bo (hasM es a b),[],M,[]⟩:=by
  have e1:=ev_lim (ev_edge a b [])
  have e2:=ev_lim (ev_Contains2 e0 es c (min a b,max a b) he0 hl [])
  refine call_of_wp zt171 rfl ?_
  repeat (first|apply wp_as|apply wp_ss|refine wr (by simp;with_reducible rfl) ?_|refine wq (by simp;with_reducible rfl) ?_|refine wt (by simpa) ?_|refine wf (by simpa) ?_|refine xt (by simpa) ?_|refine xf (by simpa) ?_|apply wp_bs|apply wp_b|refine wp_sr ?_|refine wp_sx ?_|refine wp_ret' ?_|refine wp_skip' ?_|refine wp_exit' ?_)
  refine wp_ra (by simp [e1,e2];with_reducible rfl) (by simp;with_reducible rfl) ?_ ?_
  · intro p hp
    simp only [List.mem_cons,List.not_mem_nil,or_false] at hp
    subst hp
    exact ⟨_,by simp [e1,e2];with_reducible rfl,by simp⟩
  repeat (first|apply wp_as|apply wp_ss|refine wr (by simp;with_reducible rfl) ?_|refine wq (by simp;with_reducible rfl) ?_|refine wt (by simpa) ?_|refine wf (by simpa) ?_|refine xt (by simpa) ?_|refine xf (by simpa) ?_|apply wp_bs|apply wp_b|refine wp_sr ?_|refine wp_sx ?_|refine wp_ret' ?_|refine wp_skip' ?_|refine wp_exit' ?_)
  simp [zi171,hasM]
theorem ev_Clip2 (xs:List (Int×Int)):Ev tb zl258 [] [O2 xs] [] ⟨O2 xs,[],[],[]⟩:=by
  refine call_of_wp zt258 rfl ?_
  repeat (first|apply wp_as|apply wp_ss|refine wr (by simp;with_reducible rfl) ?_|refine wq (by simp;with_reducible rfl) ?_|refine wt (by simpa) ?_|refine wf (by simpa) ?_|refine xt (by simpa) ?_|refine xf (by simpa) ?_|apply wp_bs|apply wp_b|refine wp_sr ?_|refine wp_sx ?_|refine wp_ret' ?_|refine wp_skip' ?_|refine wp_exit' ?_)
  simp [zi258]
theorem ev_Clip2_Z:Ev tb zl258 [] [Z] [] ⟨Z,[],[],[]⟩:=by
  refine call_of_wp zt258 rfl ?_
  repeat (first|apply wp_as|apply wp_ss|refine wr (by simp;with_reducible rfl) ?_|refine wq (by simp;with_reducible rfl) ?_|refine wt (by simpa) ?_|refine wf (by simpa) ?_|refine xt (by simpa) ?_|refine xf (by simpa) ?_|apply wp_bs|apply wp_b|refine wp_sr ?_|refine wp_sx ?_|refine wp_ret' ?_|refine wp_skip' ?_|refine wp_exit' ?_)
  simp [zi258]
theorem nl2_ne {es:List (Int×Int)} (h:es ≠ []):nl2 es=O2 es:=by
  cases es with
  | nil=>exact absurd rfl h
  | cons e es=>rfl
theorem ev_which (n:Nat) (hn:n≤100) (F:Lab) (caps:List IV) (M:List Boxes) (p:Int→Int→Bool)
    (hF:∀ e ∈ prs n,∀ bs,Ev tb F [] (I e.1::I e.2::caps) (M++[bs]) ⟨Bo (p e.1 e.2),[],M++[bs],[]⟩) :
    Ev tb zl220 [] [I n,.fn F caps] M ⟨.agg [I n,nl2 ((prs n).filter fun e=>p e.1 e.2)],[],M,[]⟩:=by
  have e1:=ev_lim (ev_impl_pairs n (by omega))
  have hpl:(prs n).length≤10000:=by
    have:=prsF_len n 0
    have h2:n * n≤100 * 100:=Nat.mul_le_mul hn hn
    simp only [prs];omega
  generalize prs n=P at *
  have loop:∀ (m i:Nat) (acc:List (Int×Int)) (bs:Boxes),i+m=P.length→acc.length≤i →
      wp tb (.loop z220l8) { T:=[(0,I n),(1,.fn F caps),(4,.bptr M.length 0 0),(5,nl2 acc),(9,nl2 P),(10,I P.length),(11,I i)],loc:=[I 0,Z]::bs,M:=M }
      (fun ex st=>ex=.exit 0∧∃ bs',st={ T:=[(0,I n),(1,.fn F caps),(4,.bptr M.length 0 0),(5,nl2 (acc++(P.drop i).filter fun e=>p e.1 e.2)),(9,nl2 P),(10,I P.length),(11,I P.length),(12,Bo false)],loc:=[I 0,Z]::bs',M:=M }):=by
    intro m
    induction m with
    | zero =>
      intro i acc bs hi ha
      have h3:i=P.length:=hi
      subst h3
      rw [List.drop_length,List.filter_nil,List.append_nil]
      refine wp_loop ?_
      cases acc <;> cases P <;>
      repeat (first|apply wp_as|apply wp_ss|refine wr (by simp;with_reducible rfl) ?_|refine wq (by simp;with_reducible rfl) ?_|refine wt (by simpa) ?_|refine wf (by simpa) ?_|refine xt (by simpa) ?_|refine xf (by simpa) ?_|apply wp_bs|apply wp_b|refine wp_sr ?_|refine wp_sx ?_|refine wp_ret' ?_|refine wp_skip' ?_|refine wp_exit' ?_)
      all_goals exact ⟨rfl,bs,rfl⟩
    | succ m ih =>
      intro i acc bs hi ha
      have hi2:i < P.length:=by omega
      have hne:P ≠ []:=by rintro rfl;simp at hi2
      have hPn:=nl2_ne hne
      have hd:P.drop i=P[i]::P.drop (i+1):=List.drop_eq_getElem_cons hi2
      have w1:IntKind.i64.wrap ((i:Int)+1)=((i+1:Nat):Int):=wrapS (by omega)
      have e2:=ev_lim (hF P[i] (List.getElem_mem hi2) ([I 0,Z]::(bs++[[I P[i].1,I P[i].2]])))
      have hlm:acc.length+1≤274877906944:=by omega
      have ht:acc.take acc.length=acc:=List.take_length
      cases hq:p P[i].1 P[i].2 with
      | true =>
        have hn:=ih (i+1) (acc++[P[i]]) (bs++[[I P[i].1,I P[i].2]]) (by omega) (by simp;omega)
        rw [nl2_app] at hn
        have hf:acc++(P.drop i).filter (fun e=>p e.1 e.2)=acc++[P[i]]++(P.drop (i+1)).filter (fun e=>p e.1 e.2):=by rw [hd,List.filter_cons,if_pos hq];simp
        rw [hf]
        rw [hPn] at hn ⊢
        refine wp_loop ?_
        cases acc with
        | nil =>
          repeat (first|apply wp_as|apply wp_ss|refine wr (by simp [hi2,e2,hq,w1];with_reducible rfl) ?_|refine wq (by simp [hi2,e2,hq,w1];with_reducible rfl) ?_|refine wt (by simpa [hi2,e2,hq,w1]) ?_|refine wf (by simpa [hi2,e2,hq,w1]) ?_|refine xt (by simpa [hi2,e2,hq,w1]) ?_|refine xf (by simpa [hi2,e2,hq,w1]) ?_|apply wp_bs|apply wp_b|refine wp_sr ?_|refine wp_sx ?_|refine wp_ret' ?_|refine wp_skip' ?_|refine wp_exit' ?_)
          exact hn
        | cons x acc =>
          have ht2:(x::acc).take (acc.length+1)=x::acc:=ht
          repeat (first|apply wp_as|apply wp_ss|refine wr (by simp [hi2,e2,hq,w1,ht2,show acc.length+1+1≤274877906944 from hlm];with_reducible rfl) ?_|refine wq (by simp [hi2,e2,hq,w1,ht2,show acc.length+1+1≤274877906944 from hlm];with_reducible rfl) ?_|refine wt (by simpa [hi2,e2,hq,w1,ht2,show acc.length+1+1≤274877906944 from hlm]) ?_|refine wf (by simpa [hi2,e2,hq,w1,ht2,show acc.length+1+1≤274877906944 from hlm]) ?_|refine xt (by simpa [hi2,e2,hq,w1,ht2,show acc.length+1+1≤274877906944 from hlm]) ?_|refine xf (by simpa [hi2,e2,hq,w1,ht2,show acc.length+1+1≤274877906944 from hlm]) ?_|apply wp_bs|apply wp_b|refine wp_sr ?_|refine wp_sx ?_|refine wp_ret' ?_|refine wp_skip' ?_|refine wp_exit' ?_)
          exact hn
      | false =>
        have hn:=ih (i+1) acc (bs++[[I P[i].1,I P[i].2]]) (by omega) (by omega)
        have hf:(P.drop i).filter (fun e=>p e.1 e.2)=(P.drop (i+1)).filter (fun e=>p e.1 e.2):=by rw [hd,List.filter_cons,if_neg (by simp [hq])]
        rw [hf]
        rw [hPn] at hn ⊢
        refine wp_loop ?_
        cases acc with
        | nil =>
          repeat (first|apply wp_as|apply wp_ss|refine wr (by simp [hi2,e2,hq,w1];with_reducible rfl) ?_|refine wq (by simp [hi2,e2,hq,w1];with_reducible rfl) ?_|refine wt (by simpa [hi2,e2,hq,w1]) ?_|refine wf (by simpa [hi2,e2,hq,w1]) ?_|refine xt (by simpa [hi2,e2,hq,w1]) ?_|refine xf (by simpa [hi2,e2,hq,w1]) ?_|apply wp_bs|apply wp_b|refine wp_sr ?_|refine wp_sx ?_|refine wp_ret' ?_|refine wp_skip' ?_|refine wp_exit' ?_)
          exact hn
        | cons x acc =>
          repeat (first|apply wp_as|apply wp_ss|refine wr (by simp [hi2,e2,hq,w1];with_reducible rfl) ?_|refine wq (by simp [hi2,e2,hq,w1];with_reducible rfl) ?_|refine wt (by simpa [hi2,e2,hq,w1]) ?_|refine wf (by simpa [hi2,e2,hq,w1]) ?_|refine xt (by simpa [hi2,e2,hq,w1]) ?_|refine xf (by simpa [hi2,e2,hq,w1]) ?_|apply wp_bs|apply wp_b|refine wp_sr ?_|refine wp_sx ?_|refine wp_ret' ?_|refine wp_skip' ?_|refine wp_exit' ?_)
          exact hn
  have c1:=ev_lim ev_Clip2_Z
  have hlo:=loop P.length 0 [] [] (by simp) (by simp)
  rw [List.nil_append,List.drop_zero] at hlo
  generalize P.filter (fun e=>p e.1 e.2)=Q at *
  have c2:=ev_lim (ev_Clip2 Q)
  refine call_of_wp zt220 rfl ?_
  cases P <;>
  repeat (first|apply wp_as|apply wp_ss|refine wr (by simp [e1];with_reducible rfl) ?_|refine wq (by simp [e1];with_reducible rfl) ?_|refine wt (by simpa [e1]) ?_|refine wf (by simpa [e1]) ?_|refine xt (by simpa [e1]) ?_|refine xf (by simpa [e1]) ?_|apply wp_bs|apply wp_b|refine wp_sr ?_|refine wp_sx ?_|refine wp_ret' ?_|refine wp_skip' ?_|refine wp_exit' ?_)
  all_goals
    refine wp_imp hlo ?_
    rintro ex st ⟨rfl,bs,rfl⟩
    try simp only [if_true]
    cases Q with
    | nil =>
      repeat (first|apply wp_as|apply wp_ss|refine wr (by simp [c1];with_reducible rfl) ?_|refine wq (by simp [c1];with_reducible rfl) ?_|refine wt (by simpa [c1]) ?_|refine wf (by simpa [c1]) ?_|refine xt (by simpa [c1]) ?_|refine xf (by simpa [c1]) ?_|apply wp_bs|apply wp_b|refine wp_sr ?_|refine wp_sx ?_|refine wp_ret' ?_|refine wp_skip' ?_|refine wp_exit' ?_)
      simp [zi220]
    | cons q Q =>
      have ht:(q::Q).take (Q.length+1)=q::Q:=by rw [List.take_of_length_le (by simp)]
      repeat (first|apply wp_as|apply wp_ss|refine wr (by simp [c2,ht];with_reducible rfl) ?_|refine wq (by simp [c2,ht];with_reducible rfl) ?_|refine wt (by simpa [c2,ht]) ?_|refine wf (by simpa [c2,ht]) ?_|refine xt (by simpa [c2,ht]) ?_|refine xf (by simpa [c2,ht]) ?_|apply wp_bs|apply wp_b|refine wp_sr ?_|refine wp_sx ?_|refine wp_ret' ?_|refine wp_skip' ?_|refine wp_exit' ?_)
      simp [zi220]
end Go.Idl
namespace Go.Idl
open Go
theorem ev_Graph_degrees (n:Nat) (es:List (Int×Int)) (c:Bool) (hn:n≤1000) (hl:es.length≤1000) (he:EdgesIn n es) :
    Ev tb zl9 [] [Gr n es c] [] ⟨O (degs n es),[],[],[]⟩:=by
  have loop:∀ (m i:Nat) (out:List Int) (bs:Boxes),i+m=es.length→out.length=n→(∀ x ∈ out,0≤x∧x≤2 * i) →
      wp tb (.loop z9l8) { T:=[(1,.bptr 0 0 0),(3,O out),(10,L2 es c),(11,I es.length),(12,I i)],loc:=[I n,L2 es c]::bs,M:=[] }
      (fun ex st=>ex=.exit 0∧∃ bs',st={ T:=[(1,.bptr 0 0 0),(3,O (dfold out (es.drop i))),(10,L2 es c),(11,I es.length),(12,I es.length),(13,Bo false)],loc:=[I n,L2 es c]::bs',M:=[] }):=by
    intro m
    induction m with
    | zero =>
      intro i out bs hi ho hb
      have h3:i=es.length:=hi
      subst h3
      refine wp_loop ?_
      repeat (first|apply wp_as|apply wp_ss|refine wr (by simp;with_reducible rfl) ?_|refine wq (by simp;with_reducible rfl) ?_|refine wt (by simpa) ?_|refine wf (by simpa) ?_|refine xt (by simpa) ?_|refine xf (by simpa) ?_|apply wp_bs|apply wp_b|refine wp_sr ?_|refine wp_sx ?_|refine wp_ret' ?_|refine wp_skip' ?_|refine wp_exit' ?_)
      exact ⟨rfl,bs,by simp [dfold]⟩
    | succ m ih =>
      intro i out bs hi ho hb
      have hi2:i < es.length:=by omega
      have w1:IntKind.i64.wrap ((i:Int)+1)=((i+1:Nat):Int):=wrapS (by omega)
      have hd:es.drop i=es[i]::es.drop (i+1):=List.drop_eq_getElem_cons hi2
      have hei:=he es[i] (List.getElem_mem hi2)
      obtain ⟨p,q,hpq,hp,hq⟩:∃ p q:Nat,es[i]=((p:Int),(q:Int))∧p < n∧q < n:=⟨es[i].1.toNat,es[i].2.toNat,by ext <;> simp <;> omega,by omega,by omega⟩
      rw [hd,hpq]
      have hpo:p < out.length:=by omega
      have hx:=hb out[p] (List.getElem_mem hpo)
      have w2:IntKind.i64.wrap (out[p]+1)=out[p]+1:=wrap64 (by omega) (by omega)
      have e1:=bump_eq hpo
      have b1:=bump_bound (i:=p) hb (by omega)
      have l1:=bump_len out p
      have hstep:dfold out (((p:Int),(q:Int))::es.drop (i+1))=dfold (bump (bump out p) q) (es.drop (i+1)):=rfl
      rw [hstep]
      refine wp_loop ?_
      repeat (first|apply wp_as|apply wp_ss|refine wr (by simp [hi2,hpq];with_reducible rfl) ?_|refine wq (by simp [hi2,hpq];with_reducible rfl) ?_|refine wt (by simpa [hi2,hpq]) ?_|refine wf (by simpa [hi2,hpq]) ?_|refine xt (by simpa [hi2,hpq]) ?_|refine xf (by simpa [hi2,hpq]) ?_|apply wp_bs|apply wp_b|refine wp_sr ?_|refine wp_sx ?_|refine wp_ret' ?_|refine wp_skip' ?_|refine wp_exit' ?_)
      refine wr (by simp [hi2,hpq,hpo,w2,← e1];with_reducible rfl) ?_
      generalize bump out p=out1 at *
      have hqo:q < out1.length:=by omega
      have hx2:=b1 out1[q] (List.getElem_mem hqo)
      have w3:IntKind.i64.wrap (out1[q]+1)=out1[q]+1:=wrap64 (by omega) (by omega)
      have e2:=bump_eq hqo
      have b2:=bump_bound (i:=q) b1 (by omega)
      have l2:=bump_len out1 q
      refine wq (by simp [hi2,hpq,hqo,w3,← e2];with_reducible rfl) ?_
      repeat (first|apply wp_as|apply wp_ss|refine wr (by simp [w1];with_reducible rfl) ?_|refine wq (by simp [w1];with_reducible rfl) ?_|refine wt (by simpa [w1]) ?_|refine wf (by simpa [w1]) ?_|refine xt (by simpa [w1]) ?_|refine xf (by simpa [w1]) ?_|apply wp_bs|apply wp_b|refine wp_sr ?_|refine wp_sx ?_|refine wp_ret' ?_|refine wp_skip' ?_|refine wp_exit' ?_)
      exact ih (i+1) (bump out1 q) _ (by omega) (by omega) (fun x hx=>by have:=b2 x hx;omega)
  refine call_of_wp zt9 rfl ?_
  repeat (first|apply wp_as|apply wp_ss|refine wr (by simp [show n≤274877906944 by omega];with_reducible rfl) ?_|refine wq (by simp [show n≤274877906944 by omega];with_reducible rfl) ?_|refine wt (by simpa [show n≤274877906944 by omega]) ?_|refine wf (by simpa [show n≤274877906944 by omega]) ?_|refine xt (by simpa [show n≤274877906944 by omega]) ?_|refine xf (by simpa [show n≤274877906944 by omega]) ?_|apply wp_bs|apply wp_b|refine wp_sr ?_|refine wp_sx ?_|refine wp_ret' ?_|refine wp_skip' ?_|refine wp_exit' ?_)
  have:=loop es.length 0 (List.replicate n 0) [] (by simp) (by simp) (by intro x hx;have:=List.eq_of_mem_replicate hx;subst this;simp)
  simp at this
  refine wp_imp this ?_
  rintro ex st ⟨rfl,bs,rfl⟩
  try simp only [if_true]
  repeat (first|apply wp_as|apply wp_ss|refine wr (by simp;with_reducible rfl) ?_|refine wq (by simp;with_reducible rfl) ?_|refine wt (by simpa) ?_|refine wf (by simpa) ?_|refine xt (by simpa) ?_|refine xf (by simpa) ?_|apply wp_bs|apply wp_b|refine wp_sr ?_|refine wp_sx ?_|refine wp_ret' ?_|refine wp_skip' ?_|refine wp_exit' ?_)
  simp [zi9,degs]
theorem vEs_in (n:Int):∀ (p:Option (Int×Int)) (es:List (Int×Int)),vEs n p es=true→∀ e ∈ es,okE n e=true
  | _,[],_=>by simp
  | none,e::r,h=>by
    simp only [vEs,Bool.and_eq_true] at h
    intro x hx
    rcases List.mem_cons.1 hx with rfl | hx
    · exact h.1
    · exact vEs_in n _ r h.2 x hx
  | some q,e::r,h=>by
    simp only [vEs,Bool.and_eq_true] at h
    intro x hx
    rcases List.mem_cons.1 hx with rfl | hx
    · exact h.1
    · exact vEs_in n _ r h.2.2 x hx
theorem vG_edges {n:Int} {es:List (Int×Int)} (h:vGraph n es=true):∀ e ∈ es,0≤e.1∧e.1 < e.2∧e.2 < n:=by
  simp only [vGraph,Bool.and_eq_true] at h
  intro e he
  have:=vEs_in n none es h.1 e he
  simpa [okE] using this
theorem vG_in {n:Nat} {es:List (Int×Int)} (h:vGraph n es=true):EdgesIn n es:=fun e he=>by
  have:=vG_edges h e he;omega
theorem vG_n {n:Int} {es:List (Int×Int)} (h:vGraph n es=true):0≤n∧n≤7:=by
  simp only [vGraph,Bool.and_eq_true,decide_eq_true_eq] at h;omega
theorem ev_impl_DegreesOf (n:Nat) (es:List (Int×Int)) (c:Bool) (hf:Fit es) (hl:es.length≤1000) (hv:vGraph n es=true):Ev tb zl161 [] [Gr n es c] [] ⟨O (degs n es),[],[],[]⟩:=by
  have hn:=(vG_n hv).2
  have e1:=ev_lim (ev_ValidGraph n es c hf (by omega))
  have e2:=ev_lim (ev_Graph_degrees n es c (by omega) hl (vG_in hv))
  refine call_of_wp zt161 rfl ?_
  repeat (first|apply wp_as|apply wp_ss|refine wr (by simp [e1,e2,hv];with_reducible rfl) ?_|refine wq (by simp [e1,e2,hv];with_reducible rfl) ?_|refine wt (by simpa [e1,e2,hv]) ?_|refine wf (by simpa [e1,e2,hv]) ?_|refine xt (by simpa [e1,e2,hv]) ?_|refine xf (by simpa [e1,e2,hv]) ?_|apply wp_bs|apply wp_b|refine wp_sr ?_|refine wp_sx ?_|refine wp_ret' ?_|refine wp_skip' ?_|refine wp_exit' ?_)
  simp [zi161]
theorem ev_ValidGraph_Z (n:Int):Ev tb zl26 [] [.agg [I n,Z]] [] ⟨Bo (vGraph n []),[],[],[]⟩:=by
  have e1:=ev_lim (ev_in n 0 7)
  refine call_of_wp zt26 rfl ?_
  repeat (first|apply wp_as|apply wp_ss|refine wr (by simp;with_reducible rfl) ?_|refine wq (by simp;with_reducible rfl) ?_|refine wt (by simpa) ?_|refine wf (by simpa) ?_|refine xt (by simpa) ?_|refine xf (by simpa) ?_|apply wp_bs|apply wp_b|refine wp_sr ?_|refine wp_sx ?_|refine wp_ret' ?_|refine wp_skip' ?_|refine wp_exit' ?_)
  refine wp_loop ?_
  repeat (first|apply wp_as|apply wp_ss|refine wr (by simp;with_reducible rfl) ?_|refine wq (by simp;with_reducible rfl) ?_|refine wt (by simpa) ?_|refine wf (by simpa) ?_|refine xt (by simpa) ?_|refine xf (by simpa) ?_|apply wp_bs|apply wp_b|refine wp_sr ?_|refine wp_sx ?_|refine wp_ret' ?_|refine wp_skip' ?_|refine wp_exit' ?_)
  try simp only [if_true]
  repeat (first|apply wp_as|apply wp_ss|refine wr (by simp [e1];with_reducible rfl) ?_|refine wq (by simp [e1];with_reducible rfl) ?_|refine wt (by simpa [e1]) ?_|refine wf (by simpa [e1]) ?_|refine xt (by simpa [e1]) ?_|refine xf (by simpa [e1]) ?_|apply wp_bs|apply wp_b|refine wp_sr ?_|refine wp_sx ?_|refine wp_ret' ?_|refine wp_skip' ?_|refine wp_exit' ?_)
  simp [zi26,vGraph,vEs]
theorem ev_Graph_degrees_Z (n:Nat) (hn:n≤1000):Ev tb zl9 [] [.agg [I n,Z]] [] ⟨O (degs n []),[],[],[]⟩:=by
  refine call_of_wp zt9 rfl ?_
  repeat (first|apply wp_as|apply wp_ss|refine wr (by simp [show n≤274877906944 by omega];with_reducible rfl) ?_|refine wq (by simp [show n≤274877906944 by omega];with_reducible rfl) ?_|refine wt (by simpa [show n≤274877906944 by omega]) ?_|refine wf (by simpa [show n≤274877906944 by omega]) ?_|refine xt (by simpa [show n≤274877906944 by omega]) ?_|refine xf (by simpa [show n≤274877906944 by omega]) ?_|apply wp_bs|apply wp_b|refine wp_sr ?_|refine wp_sx ?_|refine wp_ret' ?_|refine wp_skip' ?_|refine wp_exit' ?_)
  refine wp_loop ?_
  repeat (first|apply wp_as|apply wp_ss|refine wr (by simp;with_reducible rfl) ?_|refine wq (by simp;with_reducible rfl) ?_|refine wt (by simpa) ?_|refine wf (by simpa) ?_|refine xt (by simpa) ?_|refine xf (by simpa) ?_|apply wp_bs|apply wp_b|refine wp_sr ?_|refine wp_sx ?_|refine wp_ret' ?_|refine wp_skip' ?_|refine wp_exit' ?_)
  try simp only [if_true]
  repeat (first|apply wp_as|apply wp_ss|refine wr (by simp;with_reducible rfl) ?_|refine wq (by simp;with_reducible rfl) ?_|refine wt (by simpa) ?_|refine wf (by simpa) ?_|refine xt (by simpa) ?_|refine xf (by simpa) ?_|apply wp_bs|apply wp_b|refine wp_sr ?_|refine wp_sx ?_|refine wp_ret' ?_|refine wp_skip' ?_|refine wp_exit' ?_)
  simp [zi9,degs,dfold]
theorem ev_DegreesOf_Z (n:Nat) (hn:n≤7):Ev tb zl161 [] [.agg [I n,Z]] [] ⟨O (degs n []),[],[],[]⟩:=by
  have e1:=ev_lim (ev_ValidGraph_Z n)
  have e2:=ev_lim (ev_Graph_degrees_Z n (by omega))
  have hv:vGraph n []=true:=by simp [vGraph,vEs];omega
  refine call_of_wp zt161 rfl ?_
  repeat (first|apply wp_as|apply wp_ss|refine wr (by simp [e1,e2,hv];with_reducible rfl) ?_|refine wq (by simp [e1,e2,hv];with_reducible rfl) ?_|refine wt (by simpa [e1,e2,hv]) ?_|refine wf (by simpa [e1,e2,hv]) ?_|refine xt (by simpa [e1,e2,hv]) ?_|refine xf (by simpa [e1,e2,hv]) ?_|apply wp_bs|apply wp_b|refine wp_sr ?_|refine wp_sx ?_|refine wp_ret' ?_|refine wp_skip' ?_|refine wp_exit' ?_)
  simp [zi161]
end Go.Idl
namespace Go.Idl
def allD (p:List Int→Bool):Nat→Nat→List Int→Bool
  | 0,_,acc=>p acc.reverse
  | m+1,t,acc=>(List.range (t+1)).all fun x=>allD p m x ((x:Int)::acc)
theorem allD_ok (p:List Int→Bool):∀ (m t:Nat) (acc l:List Int),allD p m t acc=true→l.length=m→Desc l→(∀ x ∈ l,0≤x∧x≤t)→p (acc.reverse++l)=true
  | 0,t,acc,l,h,hl,hd,hb=>by
    have:l=[]:=List.length_eq_zero_iff.1 hl
    subst this
    simpa [allD] using h
  | m+1,t,acc,l,h,hl,hd,hb=>by
    cases l with
    | nil=>simp at hl
    | cons x r =>
      have hx:=hb x (by simp)
      have hd':=List.pairwise_cons.1 hd
      obtain ⟨k,rfl⟩:=Int.eq_ofNat_of_zero_le hx.1
      simp only [allD,List.all_eq_true,List.mem_range] at h
      have h1:=h k (by omega)
      have:=allD_ok p m k ((k:Int)::acc) r h1 (by simpa using hl) hd'.2 (fun y hy=>⟨(hb y (by simp [hy])).1,hd'.1 y hy⟩)
      simpa using this
def slS (s:List Int):List Int:=(List.range s.length).map fun i=>slk s (i+1)
theorem slacks_S (d:List Int):slacks d=slS (fall d):=by rw [slacks,slS,fall_len]
end Go.Idl
namespace Go.Idl
def S {α:Type} (l:List α) (f:α→Int):Int:=(l.map f).sum
@[simp] theorem S_nil {α:Type} (f:α→Int):S [] f=0:=rfl
@[simp] theorem S_cons {α:Type} (a:α) (l:List α) (f:α→Int):S (a::l) f=f a+S l f:=by simp [S]
theorem S_app {α:Type} (l k:List α) (f:α→Int):S (l++k) f=S l f+S k f:=by simp [S]
theorem S_perm {α:Type} {l k:List α} (h:l.Perm k) (f:α→Int):S l f=S k f:=perm_sum (h.map f)
theorem S_add {α:Type} (l:List α) (f g:α→Int):S l (fun a=>f a+g a)=S l f+S l g:=by
  induction l with
  | nil=>rfl
  | cons a l ih=>simp only [S_cons,ih];omega
theorem S_sub {α:Type} (l:List α) (f g:α→Int):S l (fun a=>f a - g a)=S l f - S l g:=by
  induction l with
  | nil=>rfl
  | cons a l ih=>simp only [S_cons,ih];omega
theorem S_zero {α:Type} (l:List α):S l (fun _=>0)=0:=by
  induction l with
  | nil=>rfl
  | cons a l ih=>simp [ih]
theorem S_const {α:Type} (l:List α) (c:Int):S l (fun _=>c)=l.length * c:=by
  induction l with
  | nil=>simp
  | cons a l ih=>rw [S_cons,ih,List.length_cons,Int.natCast_add,Int.add_mul];simp;omega
theorem S_congr {α:Type} {l:List α} {f g:α→Int} (h:∀ a ∈ l,f a=g a):S l f=S l g:=by
  induction l with
  | nil=>rfl
  | cons a l ih=>rw [S_cons,S_cons,h a (by simp),ih fun b hb=>h b (by simp [hb])]
theorem S_le {α:Type} {l:List α} {f g:α→Int} (h:∀ a ∈ l,f a≤g a):S l f≤S l g:=by
  induction l with
  | nil=>simp
  | cons a l ih =>
    have h1:=h a (by simp)
    have h2:=ih fun b hb=>h b (by simp [hb])
    simp only [S_cons];omega
theorem S_swap {α β:Type} (l:List α) (k:List β) (f:α→β→Int):S l (fun a=>S k (f a))=S k (fun b=>S l (fun a=>f a b)):=by
  induction l with
  | nil=>simp [S_zero]
  | cons a l ih=>simp only [S_cons,S_add,ih]
theorem S_sublist {α:Type} {l k:List α} (h:l.Sublist k) {f:α→Int} (h0:∀ a ∈ k,0≤f a):S l f≤S k f:=by
  induction h with
  | slnil=>simp
  | cons a _ ih =>
    have h1:=h0 a (by simp)
    have h2:=ih fun b hb=>h0 b (by simp [hb])
    rw [S_cons];omega
  | cons_cons a _ ih =>
    have h2:=ih fun b hb=>h0 b (by simp [hb])
    rw [S_cons,S_cons];omega
theorem S_map {α γ:Type} (l:List γ) (g:γ→α) (f:α→Int):S (l.map g) f=S l (fun c=>f (g c)):=by simp [S];rfl
theorem perm_map_inv {α β:Type} {f:α→β} {ys zs:List β} (h:ys.Perm zs):∀ {l:List α},zs=l.map f→∃ l':List α,l'.Perm l∧ys=l'.map f:=by
  induction h with
  | nil=>intro l hl;exact ⟨l,.refl _,hl⟩
  | cons x _ ih =>
    intro l hl
    cases l with
    | nil=>simp at hl
    | cons a l =>
      simp only [List.map_cons,List.cons.injEq] at hl
      obtain ⟨l',h1,h2⟩:=ih hl.2
      exact ⟨a::l',h1.cons a,by rw [List.map_cons,← h2,hl.1]⟩
  | swap x y r =>
    intro l hl
    cases l with
    | nil=>simp at hl
    | cons a l =>
      cases l with
      | nil=>simp at hl
      | cons b l =>
        simp only [List.map_cons,List.cons.injEq] at hl
        exact ⟨b::a::l,.swap a b l,by simp [hl.1,hl.2.1,hl.2.2]⟩
  | trans _ _ ih1 ih2 =>
    intro l hl
    obtain ⟨l2,h1,h2⟩:=ih2 hl
    obtain ⟨l3,h3,h4⟩:=ih1 h2
    exact ⟨l3,h3.trans h1,h4⟩
theorem S_one {α:Type} [DecidableEq α] {l:List α} (h:l.Nodup) (x:α):S l (fun a=>if x=a then 1 else 0)=if x ∈ l then 1 else 0:=by
  induction l with
  | nil=>simp
  | cons a l ih =>
    have h':=List.nodup_cons.1 h
    rw [S_cons,ih h'.2]
    by_cases hx:x=a
    · subst hx;simp [h'.1]
    · simp [hx]
theorem below_iff (a b:Int×Int):below a b=true ↔ a.1 < b.1 ∨ (a.1=b.1∧a.2 < b.2):=by simp [below]
theorem below_trans {a b c:Int×Int} (h:below a b=true) (k:below b c=true):below a c=true:=by
  rw [below_iff] at *;omega
theorem below_ne {a b:Int×Int} (h:below a b=true):a ≠ b:=by
  rintro rfl;rw [below_iff] at h;omega
abbrev PW (es:List (Int×Int)):Prop:=es.Pairwise fun a b=>below a b=true
theorem vEs_pw (n:Int):∀ (p:Option (Int×Int)) (es:List (Int×Int)),vEs n p es=true→PW es∧(∀ q,p=some q→∀ e ∈ es,below q e=true)
  | p,[],_=>⟨.nil,by simp⟩
  | none,e::r,h=>by
    simp only [vEs,Bool.and_eq_true] at h
    obtain ⟨h1,h2⟩:=vEs_pw n (some e) r h.2
    exact ⟨List.pairwise_cons.2 ⟨h2 e rfl,h1⟩,by simp⟩
  | some q,e::r,h=>by
    simp only [vEs,Bool.and_eq_true] at h
    obtain ⟨h1,h2⟩:=vEs_pw n (some e) r h.2.2
    refine ⟨List.pairwise_cons.2 ⟨h2 e rfl,h1⟩,fun q' hq' x hx=>?_⟩
    cases hq'
    rcases List.mem_cons.1 hx with rfl | hx
    · exact h.2.1
    · exact below_trans h.2.1 (h2 e rfl x hx)
theorem pw_vEs (n:Int):∀ (p:Option (Int×Int)) (es:List (Int×Int)),PW es→(∀ q,p=some q→∀ e ∈ es,below q e=true)→(∀ e ∈ es,okE n e=true)→vEs n p es=true
  | p,[],_,_,_=>by cases p <;> rfl
  | none,e::r,h,_,ho=>by
    have h':=List.pairwise_cons.1 h
    simp only [vEs,Bool.and_eq_true]
    exact ⟨ho e (by simp),pw_vEs n (some e) r h'.2 (fun q hq x hx=>by cases hq;exact h'.1 x hx) fun x hx=>ho x (by simp [hx])⟩
  | some q,e::r,h,hq,ho=>by
    have h':=List.pairwise_cons.1 h
    simp only [vEs,Bool.and_eq_true]
    exact ⟨ho e (by simp),hq q rfl e (by simp),pw_vEs n (some e) r h'.2 (fun q hq x hx=>by cases hq;exact h'.1 x hx) fun x hx=>ho x (by simp [hx])⟩
theorem row_mem_iff (a:Nat):∀ (m b:Nat) (e:Int×Int),e ∈ row a b m ↔ e.1=a∧(b:Int)≤e.2∧e.2 < b+m
  | 0,b,e=>by simp [row] <;> omega
  | m+1,b,e=>by
    rw [row,List.mem_cons,row_mem_iff a m (b+1) e]
    constructor
    · rintro (rfl | h)
      · simp;omega
      · omega
    · intro h
      by_cases h2:e.2=b
      · exact .inl (Prod.ext h.1 h2)
      · exact .inr (by omega)
theorem prsF_mem_iff:∀ (m a:Nat) (e:Int×Int),e ∈ prsF a m ↔ (a:Int)≤e.1∧e.1 < e.2∧e.2 < a+m
  | 0,a,e=>by simp [prsF];omega
  | m+1,a,e=>by
    rw [prsF,List.mem_append,row_mem_iff,prsF_mem_iff m (a+1) e]
    omega
theorem mem_prs {n:Nat} {e:Int×Int}:e ∈ prs n ↔ 0≤e.1∧e.1 < e.2∧e.2 < n:=by
  rw [prs,prsF_mem_iff];omega
theorem row_pw (a:Nat):∀ (m b:Nat),PW (row a b m)
  | 0,b=>.nil
  | m+1,b=>by
    rw [row]
    refine List.pairwise_cons.2 ⟨fun e he=>?_,row_pw a m (b+1)⟩
    rw [row_mem_iff] at he
    rw [below_iff];simp only;omega
theorem prsF_pw:∀ (m a:Nat),PW (prsF a m)
  | 0,a=>.nil
  | m+1,a=>by
    rw [prsF]
    refine List.pairwise_append.2 ⟨row_pw a m (a+1),prsF_pw m (a+1),fun x hx y hy=>?_⟩
    rw [row_mem_iff] at hx
    rw [prsF_mem_iff] at hy
    rw [below_iff];omega
theorem prs_pw (n:Nat):PW (prs n):=prsF_pw n 0
theorem pw_nodup {es:List (Int×Int)} (h:PW es):es.Nodup:=h.imp fun h=>below_ne h
theorem pw_ext {xs ys:List (Int×Int)} (hx:PW xs) (hy:PW ys) (h:∀ e,e ∈ xs ↔ e ∈ ys):xs=ys:=by
  refine List.Perm.eq_of_pairwise (le:=fun a b=>below a b=true) (fun a b _ _ h1 h2=>absurd (below_trans h1 h2) (fun h=>below_ne h rfl)) hx hy ?_
  exact (List.perm_ext_iff_of_nodup (pw_nodup hx) (pw_nodup hy)).2 h
theorem vG_iff {n:Nat} {es:List (Int×Int)}:vGraph n es=true ↔ PW es∧(∀ e ∈ es,e ∈ prs n)∧n≤7:=by
  constructor
  · intro h
    have h1:=vG_n h
    have h2:=vG_edges h
    simp only [vGraph,Bool.and_eq_true] at h
    exact ⟨(vEs_pw n none es h.1).1,fun e he=>mem_prs.2 (h2 e he),by omega⟩
  · rintro ⟨h1,h2,h3⟩
    simp only [vGraph,Bool.and_eq_true,decide_eq_true_eq]
    refine ⟨pw_vEs n none es h1 (by simp) fun e he=>?_,by omega,by omega⟩
    have:=mem_prs.1 (h2 e he)
    simp only [okE,Bool.and_eq_true,decide_eq_true_eq];omega
theorem filter_vG {n:Nat} (hn:n≤7) (p:Int×Int→Bool):vGraph n ((prs n).filter p)=true :=
  vG_iff.2 ⟨(prs_pw n).filter _,fun e he=>(List.mem_filter.1 he).1,hn⟩
theorem vG_filter {n:Nat} {es:List (Int×Int)} (h:vGraph n es=true):es=(prs n).filter fun e=>decide (e ∈ es):=by
  obtain ⟨h1,h2,h3⟩:=vG_iff.1 h
  refine pw_ext h1 ((prs_pw n).filter _) fun e=>?_
  rw [List.mem_filter,decide_eq_true_eq]
  exact ⟨fun he=>⟨h2 e he,he⟩,fun he=>he.2⟩
theorem vG_sub {n:Nat} {es:List (Int×Int)} (h:vGraph n es=true):es.Sublist (prs n):=by
  rw [vG_filter h];exact List.filter_sublist
def inc (v:Nat) (e:Int×Int):Int:=(if e.1=v then 1 else 0)+(if e.2=v then 1 else 0)
def deg (es:List (Int×Int)) (v:Nat):Int:=S es (inc v)
theorem bump_get {o:List Int} {i v:Nat} (hv:v < o.length):(bump o i).getD v 0=o.getD v 0+(if i=v then 1 else 0):=by
  rw [bump,List.getD_eq_getElem?_getD,List.getElem?_set]
  by_cases h:i=v
  · subst h;simp [hv,List.getD_eq_getElem?_getD]
  · simp [h,List.getD_eq_getElem?_getD]
theorem dfold_get {n:Nat}:∀ (es:List (Int×Int)) (o:List Int),(∀ e ∈ es,0≤e.1∧0≤e.2)→∀ v,v < o.length→(dfold o es).getD v 0=o.getD v 0+deg es v
  | [],o,_,v,_=>by simp [dfold,deg]
  | e::es,o,h,v,hv=>by
    have h1:=h e (by simp)
    have:=dfold_get (n:=n) es (bump (bump o e.1.toNat) e.2.toNat) (fun x hx=>h x (by simp [hx])) v (by simp [bump_len];exact hv)
    rw [show dfold o (e::es)=dfold (bump (bump o e.1.toNat) e.2.toNat) es from rfl,this,bump_get (by rw [bump_len];exact hv),bump_get hv,deg,deg,S_cons]
    have c1:(e.1.toNat=v)=(e.1=(v:Int)):=by rw [eq_iff_iff];omega
    have c2:(e.2.toNat=v)=(e.2=(v:Int)):=by rw [eq_iff_iff];omega
    simp only [inc,c1,c2]
    omega
theorem degs_eq {n:Nat} {es:List (Int×Int)} (h:EdgesIn n es):degs n es=(List.range n).map (deg es):=by
  have hl:(degs n es).length=n:=by rw [degs,dfold_len];simp
  refine List.ext_getElem (by simp [hl]) fun v h1 h2=>?_
  have:=dfold_get (n:=n) es (List.replicate n 0) (fun e he=>by have:=h e he;omega) v (by simp;omega)
  rw [← degs,List.getD_eq_getElem?_getD,List.getElem?_eq_getElem h1] at this
  simp only [Option.getD_some] at this
  rw [this]
  simp [List.getD_eq_getElem?_getD]
  rw [List.getElem?_eq_getElem (by simp;omega)];simp
end Go.Idl
namespace Go.Idl
open Go
def SrtOn (X:List (Int×Int)) (a b:Nat):Prop:=∀ k l e f,a≤k→k < l→l < b→X[k]? = some e→X[l]? = some f→below e f=true
def CutOn (X:List (Int×Int)) (a mid b:Nat):Prop:=∀ k l e f,a≤k→k < mid→mid≤l→l < b→X[k]? = some e→X[l]? = some f→below e f=true
theorem srt_join {X Y:List (Int×Int)} {a mid b:Nat} (hn:X.Nodup) (h1:SrtOn X a mid) (hc:CutOn X a mid b) (hs:Seg X Y mid b) (h2:SrtOn Y mid b):SrtOn Y a b:=by
  intro k l e f hk hkl hl he hf
  by_cases h:mid≤k
  · exact h2 k l e f h hkl hl he hf
  · have he':X[k]? = some e:=by rw [← hs.out k (by omega)];exact he
    by_cases h':mid≤l
    · obtain ⟨l',hl',hf'⟩:=hs.back hn ⟨h',hl⟩ hf
      exact hc k l' e f hk (by omega) (by omega) (by omega) he' hf'
    · have hf':X[l]? = some f:=by rw [← hs.out l (by omega)];exact hf
      exact h1 k l e f hk hkl (by omega) he' hf'
theorem srt_join' {X Y:List (Int×Int)} {a mid b:Nat} (hn:X.Nodup) (h1:SrtOn X mid b) (hc:CutOn X a mid b) (hs:Seg X Y a mid) (h2:SrtOn Y a mid):SrtOn Y a b:=by
  intro k l e f hk hkl hl he hf
  by_cases h:l < mid
  · exact h2 k l e f hk hkl h he hf
  · have hf':X[l]? = some f:=by rw [← hs.out l (by omega)];exact hf
    by_cases h':k < mid
    · obtain ⟨k',hk',he'⟩:=hs.back hn ⟨hk,h'⟩ he
      exact hc k' l e f (by omega) (by omega) (by omega) hl he' hf'
    · have he':X[k]? = some e:=by rw [← hs.out k (by omega)];exact he
      exact h1 k l e f (by omega) hkl hl he' hf'
theorem below_ht (a b c:Int×Int) (h1:below b a=false) (h2:below c b=false):below c a=false:=by
  rw [← Bool.not_eq_true] at *
  simp only [below,Bool.or_eq_true,Bool.and_eq_true,decide_eq_true_eq] at *
  omega
theorem ins_part (X:List (Int×Int)) (hX:∀ x ∈ X,DE x) (hn:X.Nodup) (hl:X.length≤700000) (a n:Nat) (hab:a+n≤X.length) (M:List Boxes) :
    ∃ X':List (Int×Int),Seg X X' a (a+n)∧SrtOn X' a (a+n)∧Ev tb zl277 [0] [O2 X,I a,I ((a:Int)+n),fcE] M ⟨.tup [],[O2 X'],M,[]⟩:=by
  have hc:CmpOK vE zl32 [] below DE M:=fun x y hx hy=>⟨cmpE x y,cmpE_below x y,ev_cmpE hx hy _⟩
  obtain ⟨P,hP⟩:∃ P,P=X.take a:=⟨_,rfl⟩
  obtain ⟨S,hS⟩:∃ S,S=(X.drop a).take n:=⟨_,rfl⟩
  obtain ⟨Q,hQ⟩:∃ Q,Q=X.drop (a+n):=⟨_,rfl⟩
  have hXe:X=P++(S++Q):=by
    rw [hP,hS,hQ,← List.drop_drop,List.take_append_drop,List.take_append_drop]
  have hPl:P.length=a:=by rw [hP,List.length_take];omega
  have hSl:S.length=n:=by rw [hS,List.length_take,List.length_drop];omega
  have hsrt:=srtC_ok (lt:=below) below_ht (fun a b h=>below_asymm h) S [] .nil
  have hsp:=hsrt.2
  rw [List.nil_append] at hsp
  have hTl:(srtC below [] S).length=n:=by rw [hsp.length_eq,hSl]
  have hp:(P++(srtC below [] S++Q)).Perm X:=by
    rw [hXe];exact List.Perm.append_left P (hsp.append_right Q)
  refine ⟨P++(srtC below [] S++Q),⟨hp,fun k hk=>?_⟩,?_,?_⟩
  · rw [hXe]
    rcases hk with hk | hk
    · rw [List.getElem?_append_left (by omega),List.getElem?_append_left (by omega)]
    · rw [List.getElem?_append_right (by omega),List.getElem?_append_right (by omega),List.getElem?_append_right (by omega),List.getElem?_append_right (by omega),hTl,hSl]
  · intro k l e f hk hkl hlb he hf
    have hny:(P++(srtC below [] S++Q)).Nodup:=hp.nodup_iff.2 hn
    have hne:e ≠ f:=by
      rintro rfl
      obtain ⟨h1,h2⟩:=List.getElem?_eq_some_iff.1 he
      obtain ⟨h3,h4⟩:=List.getElem?_eq_some_iff.1 hf
      have:=(List.getElem_inj hny).1 (h2.trans h4.symm)
      omega
    rw [List.getElem?_append_right (by omega),List.getElem?_append_left (by omega)] at he hf
    obtain ⟨h1,h2⟩:=List.getElem?_eq_some_iff.1 he
    obtain ⟨h3,h4⟩:=List.getElem?_eq_some_iff.1 hf
    have:=List.pairwise_iff_getElem.1 hsrt.1 _ _ h1 h3 (by omega)
    rw [h2,h4] at this
    rcases below_total hne with h | h
    · exact h
    · rw [this] at h;cases h
  · have e:=ev_insCe zl32 [] below DE M hc P Q S (by rw [hXe] at hl;simp at hl;omega) (fun x hx=>hX x (by rw [hXe];simp [hx]))
    rw [← hXe,hPl,hSl,show ((a+n:Nat):Int)=(a:Int)+n by omega] at e
    exact e
def PdqRec (n:Nat) (lim:Nat) (M:List Boxes):Prop:=∀ (n' a':Nat) (X:List (Int×Int)),n'+2≤n→(∀ x ∈ X,DE x)→X.Nodup→X.length≤700000→a'+n'≤X.length→(a'=0 ∨ ∀ k e f,a'≤k→k < a'+n'→X[a' - 1]? = some e→X[k]? = some f→below e f=true) →
  ∃ X':List (Int×Int),Seg X X' a' (a'+n')∧SrtOn X' a' (a'+n')∧limF tb zl285 [0] [O2 X,I a',I ((a':Int)+n'),I lim,fcE] M=some ⟨.tup [],[O2 X'],M,[]⟩
abbrev cD:IC:=(.seq z285r20 (.seq z285r21 (.seq z285r22 (.seq z285r23 (.seq z285r24 (.cond (.t 125) (.seq z285r25 (.seq z285r26 z285r27)) (.seq z285r28 (.seq z285r29 z285r30))))))))
set_option maxHeartbeats 2000000 in
theorem pdq_D (X:List (Int×Int)) (hX:∀ x ∈ X,DE x) (hn:X.Nodup) (hl:X.length≤700000) (a n m lim:Nat) (h13:13≤n) (h21:n≤21) (hab:a+n≤X.length) (hm:a≤m∧m < a+n) (M:List Boxes) (hrec:PdqRec n lim (M++[[]]))
    (h0:a=0 ∨ ∀ k e f,a≤k→k < a+n→X[a - 1]? = some e→X[k]? = some f→below e f=true)
    (p1:∃ p,(a≤p∧p < a+n)∧∀ h1 h2,below (X[p]'h1) (X[m]'h2)=true) (p2:∃ p,(a≤p∧p < a+n)∧∀ h1 h2,below (X[m]'h1) (X[p]'h2)=true)
    (bal part:Bool) (Q:Ex→St→Prop)
    (hL:∀ (X3:List (Int×Int)) (mid:Nat) (bal part:Bool),a < mid→mid+1 < a+n→Seg X X3 a (a+n)→SrtOn X3 a (mid+1)→CutOn X3 a (mid+1) (a+n) →
      Q .normal { T:=[(0,O2 X3),(1,I (mid+1:Nat)),(2,I ((a:Int)+n)),(3,I lim),(4,fcE),(10,Bo bal),(11,Bo part)],loc:=[],M:=M })
    (hR:∀ (X3:List (Int×Int)) (mid:Nat) (bal part:Bool),a < mid→mid+1 < a+n→Seg X X3 a (a+n)→SrtOn X3 mid (a+n)→CutOn X3 a mid (a+n) →
      Q .normal { T:=[(0,O2 X3),(1,I a),(2,I mid),(3,I lim),(4,fcE),(10,Bo bal),(11,Bo part)],loc:=[],M:=M }) :
    wp tb cD { T:=[(0,O2 X),(1,I a),(2,I ((a:Int)+n)),(3,I lim),(4,fcE),(10,Bo bal),(11,Bo part),(12,I n),(13,I m),(97,Bo false)],loc:=[],M:=M } Q:=by
  obtain ⟨X2,mid,t,hS,hmid,hpv,hcut,hE⟩:=ev_partition X hX (by omega) a n m (by omega) hab hm (M++[[]])
  have e1:=ev_lim hE
  have hml:m < X.length:=by omega
  rw [List.getElem?_eq_getElem hml] at hpv hcut
  obtain ⟨hlo,hhi⟩:=hcut _ rfl
  have hl2:=hS.len
  have hn2:=hS.nodup hn
  have hX2:∀ x ∈ X2,DE x:=fun x hx=>hX x (hS.perm.mem_iff.1 hx)
  obtain ⟨p,hp,hp1⟩:=p1
  obtain ⟨q,hq,hq1⟩:=p2
  have hpl:p < X.length:=by omega
  have hql:q < X.length:=by omega
  have hp1:=hp1 hpl hml
  have hq1:=hq1 hml hql
  have whereIs:∀ r,(a≤r∧r < a+n)→∀ hr:r < X.length,∃ r',(a≤r'∧r' < a+n)∧X2[r']? = some X[r]:=fun r hr hrl=>by
    have hm2:X[r] ∈ X2:=hS.perm.mem_iff.2 (List.getElem_mem hrl)
    obtain ⟨r',hr',he⟩:=List.getElem_of_mem hm2
    refine ⟨r',?_,by rw [List.getElem?_eq_getElem hr',he]⟩
    refine Classical.byContradiction fun hno=>?_
    have h1:=hS.out r' (by omega)
    rw [List.getElem?_eq_getElem hr',he] at h1
    obtain ⟨h2,h3⟩:=List.getElem?_eq_some_iff.1 h1.symm
    have:=(List.getElem_inj hn).1 h3
    omega
  obtain ⟨p',hp',hpe⟩:=whereIs p hp hpl
  obtain ⟨q',hq',hqe⟩:=whereIs q hq hql
  have hamid:a < mid:=by
    refine Classical.byContradiction fun hno=>?_
    have hma:mid=a:=by omega
    by_cases hpm:p'=mid
    · rw [hpm,hpv] at hpe
      exact below_ne hp1 (Option.some.inj hpe).symm
    · have:=hhi p' _ (by omega) hp'.2 hpe
      rw [hp1] at this;cases this
  have hmidb:mid+1 < a+n:=by
    refine Classical.byContradiction fun hno=>?_
    have hma:mid+1=a+n:=by omega
    by_cases hpm:q'=mid
    · rw [hpm,hpv] at hqe
      exact below_ne hq1 (Option.some.inj hqe)
    · have:=hlo q' _ hq'.1 (by omega) hqe
      rw [below_asymm hq1] at this;cases this
  have hhi':∀ k e,mid < k→k < a+n→X2[k]? = some e→below X[m] e=true:=fun k e k1 k2 he=>by
    have h1:=hhi k e (by omega) k2 he
    have hne:X[m] ≠ e:=by
      rintro rfl
      obtain ⟨h2,h3⟩:=List.getElem?_eq_some_iff.1 he
      obtain ⟨h4,h5⟩:=List.getElem?_eq_some_iff.1 hpv
      have:=(List.getElem_inj hn2).1 (h3.trans h5.symm)
      omega
    rcases below_total hne with h | h
    · exact h
    · rw [h1] at h;cases h
  have hcutm:CutOn X2 a mid (a+n):=fun k l e f k1 k2 k3 k4 he hf=>by
    have h1:=hlo k e k1 k2 he
    by_cases hlm:l=mid
    · rw [hlm,hpv] at hf;cases hf;exact h1
    · exact below_trans h1 (hhi' l f (by omega) k4 hf)
  have hcutm':CutOn X2 a (mid+1) (a+n):=fun k l e f k1 k2 k3 k4 he hf=>by
    by_cases hkm:k=mid
    · rw [hkm,hpv] at he;cases he;exact hhi' l f (by omega) k4 hf
    · exact hcutm k l e f k1 (by omega) (by omega) k4 he hf
  obtain ⟨n1,hn1⟩:∃ n1,mid=a+n1:=⟨mid - a,by omega⟩
  obtain ⟨n2,hn2'⟩:∃ n2,n=n1+1+n2:=⟨n - (n1+1),by omega⟩
  have w1:IntKind.i64.wrap ((mid:Int) - a)=(n1:Int):=by rw [wrap64 (by omega) (by omega)];omega
  have w2:IntKind.i64.wrap ((a:Int)+n - mid)=((n2+1:Nat):Int):=by rw [wrap64 (by omega) (by omega)];omega
  have t1:(n:Int).tdiv 8=((n / 8:Nat):Int):=by rw [Int.tdiv_eq_ediv_of_nonneg (by omega)];rfl
  obtain ⟨th,hth⟩:∃ th,th=n / 8:=⟨_,rfl⟩
  rw [← hth] at t1
  have w3:IntKind.i64.wrap (th:Int)=(th:Int):=wrap64 (by omega) (by omega)
  have w4:IntKind.i64.wrap ((mid:Int)+1)=(mid:Int)+1:=wrap64 (by omega) (by omega)
  by_cases hc:(n1:Int) < ((n2+1:Nat):Int)
  · obtain ⟨X3,hS3,hsr,e2⟩:=hrec n1 a X2 (by omega) hX2 hn2 (by omega) (by omega) (by
      rcases h0 with h0 | h0
      · exact .inl h0
      · by_cases ha:a=0
        · exact .inl ha
        · refine .inr fun k e f k1 k2 he hf=>?_
          rw [hS.out (a - 1) (by omega)] at he
          obtain ⟨k',hk',hf'⟩:=hS.back hn ⟨k1,by omega⟩ hf
          exact h0 k' e f hk'.1 hk'.2 he hf')
    rw [show (a:Int)+n1=(mid:Int) by omega] at e2
    have hfin:=hL X3 mid (decide (th≤n1)) t hamid hmidb (hS.trans (hS3.mono (Nat.le_refl _) (by omega))) (srt_join' hn2 (fun k l e f k1 k2 k3=>by omega) (fun k l e f k1 k2 k3 k4=>hcutm k l e f k1 (by omega) k3 (by omega)) (by rw [← hn1] at hS3;exact hS3) (by rw [← hn1] at hsr;exact hsr)) (fun k l e f k1 k2 k3 k4 he hf=>by
      have hf':X2[l]? = some f:=by rw [← hS3.out l (by omega)];exact hf
      by_cases hkm:k=mid
      · have he':X2[k]? = some e:=by rw [← hS3.out k (by omega)];exact he
        exact hcutm' k l e f k1 k2 k3 k4 he' hf'
      · obtain ⟨k',hk',he'⟩:=hS3.back hn2 ⟨k1,by omega⟩ he
        exact hcutm' k' l e f hk'.1 (by omega) k3 k4 he' hf')
    rw [show ((mid+1:Nat):Int)=(mid:Int)+1 by omega] at hfin
    rw [show ((n2+1:Nat):Int)=(n2:Int)+1 by omega] at hc w2
    repeat (first|apply wp_as|apply wp_ss|refine wr (by simp [e1,e2,w1,w2,w3,w4,t1,hc];with_reducible rfl) ?_|refine wq (by simp [e1,e2,w1,w2,w3,w4,t1,hc];with_reducible rfl) ?_|refine wt (by simpa [e1,e2,w1,w2,w3,w4,t1,hc]) ?_|refine wf (by simpa [e1,e2,w1,w2,w3,w4,t1,hc]) ?_|refine xt (by simpa [e1,e2,w1,w2,w3,w4,t1,hc]) ?_|refine xf (by simpa [e1,e2,w1,w2,w3,w4,t1,hc]) ?_|apply wp_bs|apply wp_b|refine wp_sr ?_|refine wp_sx ?_|refine wp_ret' ?_|refine wp_skip' ?_|refine wp_exit' ?_)
    exact hfin
  · obtain ⟨X3,hS3,hsr,e2⟩:=hrec n2 (mid+1) X2 (by omega) hX2 hn2 (by omega) (by omega) (.inr fun k e f k1 k2 he hf=>by
      rw [Nat.add_sub_cancel,hpv] at he
      cases he
      exact hhi' k f (by omega) (by omega) hf)
    rw [show ((mid+1:Nat):Int)+n2=(a:Int)+n by omega,show ((mid+1:Nat):Int)=(mid:Int)+1 by omega] at e2
    have hS3':Seg X2 X3 (mid+1) (a+n):=by rw [show mid+1+n2=a+n by omega] at hS3;exact hS3
    have hsr':SrtOn X3 (mid+1) (a+n):=by rw [show mid+1+n2=a+n by omega] at hsr;exact hsr
    have hfin:=hR X3 mid (decide ((th:Int)≤(n2:Int)+1)) t hamid hmidb (hS.trans (hS3'.mono (by omega) (Nat.le_refl _))) (srt_join hn2 (mid:=mid+1) (fun k l e f k1 k2 k3=>by omega) (fun k l e f k1 k2 k3 k4=>hcutm' k l e f (by omega) k2 k3 k4) hS3' hsr') (fun k l e f k1 k2 k3 k4 he hf=>by
      have he':X2[k]? = some e:=by rw [← hS3'.out k (by omega)];exact he
      by_cases hlm:l=mid
      · have hf':X2[l]? = some f:=by rw [← hS3'.out l (by omega)];exact hf
        exact hcutm k l e f k1 k2 k3 k4 he' hf'
      · obtain ⟨l',hl',hf'⟩:=hS3'.back hn2 ⟨by omega,k4⟩ hf
        exact hcutm k l' e f k1 k2 (by omega) hl'.2 he' hf')
    rw [show ((n2+1:Nat):Int)=(n2:Int)+1 by omega] at hc w2
    repeat (first|apply wp_as|apply wp_ss|refine wr (by simp [e1,e2,w1,w2,w3,w4,t1,hc];with_reducible rfl) ?_|refine wq (by simp [e1,e2,w1,w2,w3,w4,t1,hc];with_reducible rfl) ?_|refine wt (by simpa [e1,e2,w1,w2,w3,w4,t1,hc]) ?_|refine wf (by simpa [e1,e2,w1,w2,w3,w4,t1,hc]) ?_|refine xt (by simpa [e1,e2,w1,w2,w3,w4,t1,hc]) ?_|refine xf (by simpa [e1,e2,w1,w2,w3,w4,t1,hc]) ?_|apply wp_bs|apply wp_b|refine wp_sr ?_|refine wp_sx ?_|refine wp_ret' ?_|refine wp_skip' ?_|refine wp_exit' ?_)
    exact hfin
end Go.Idl
namespace Go.Idl
open Go
abbrev cB':IC:=(.seq (.seq z285r11 (.cond (.t 56) (.seq z285r12 (.seq z285r13 z285r14)) .skip)) (.seq (.seq z285r15 (.cond (.t 75) (.seq z285r16 (.cond (.t 80) .ret .skip)) .skip)) (.seq (.seq z285r17 (.cond (.t 97) (.seq z285r18 (.seq z285r19 (.exit 1))) .skip)) cD)))
abbrev cB:IC:=.seq z285r10 cB'
theorem srt_adj {X:List (Int×Int)} {a b:Nat} (hn:X.Nodup) (h:∀ k,a < k→k < b→∀ h1 h2,below (X[k]'h1) (X[k - 1]'h2)=false):SrtOn X a b:=by
  have key:∀ (d k:Nat) (e f:Int×Int),a≤k→k+d+1 < b→X[k]? = some e→X[k+d+1]? = some f→below e f=true:=by
    intro d
    induction d with
    | zero =>
      intro k e f hk hb he hf
      obtain ⟨h1,h2⟩:=List.getElem?_eq_some_iff.1 he
      obtain ⟨h3,h4⟩:=List.getElem?_eq_some_iff.1 hf
      have h5:=h (k+0+1) (by omega) hb h3 (by simpa using h1)
      simp only [Nat.add_zero,Nat.add_sub_cancel] at h5 h4
      rw [h4,h2] at h5
      have hne:e ≠ f:=by
        rintro rfl
        have:=(List.getElem_inj hn).1 (h2.trans h4.symm)
        omega
      rcases below_total hne with q | q
      · exact q
      · rw [h5] at q;cases q
    | succ d ih =>
      intro k e f hk hb he hf
      have h3:=(List.getElem?_eq_some_iff.1 hf).1
      have hg:k+d+1 < X.length:=by omega
      have q1:=ih k e X[k+d+1] hk (by omega) he (List.getElem?_eq_getElem hg)
      obtain ⟨h3,h4⟩:=List.getElem?_eq_some_iff.1 hf
      have h5:=h (k+(d+1)+1) (by omega) hb h3 (by omega)
      have hi:k+(d+1)+1 - 1=k+d+1:=by omega
      simp only [hi] at h5
      rw [h4] at h5
      have hne:X[k+d+1] ≠ f:=by
        intro he2
        have:=(List.getElem_inj hn).1 (he2.trans h4.symm)
        omega
      rcases below_total hne with q | q
      · exact below_trans q1 q
      · rw [h5] at q;cases q
  intro k l e f hk hkl hl he hf
  obtain ⟨d,rfl⟩:∃ d,l=k+d+1:=⟨l - k - 1,by omega⟩
  exact key d k e f hk hl he hf
set_option maxHeartbeats 8000000 in
theorem pdq_B' (X:List (Int×Int)) (hX:∀ x ∈ X,DE x) (hn:X.Nodup) (hl:X.length≤700000) (a n lim:Nat) (h13:13≤n) (h21:n≤21) (hab:a+n≤X.length) (M:List Boxes) (hrec:PdqRec n lim (M++[[]]))
    (h0:a=0 ∨ ∀ k e f,a≤k→k < a+n→X[a - 1]? = some e→X[k]? = some f→below e f=true)
    (bal part:Bool) (Q:Ex→St→Prop) (m:Nat) (hint:Int) (hm:a≤m∧m < a+n) (hh:hint=0 ∨ hint=1)
    (p1:∃ p,(a≤p∧p < a+n)∧∀ h1 h2,below (X[p]'h1) (X[m]'h2)=true) (p2:∃ p,(a≤p∧p < a+n)∧∀ h1 h2,below (X[m]'h1) (X[p]'h2)=true)
    (hS:∀ m:Nat,SrtOn X a (a+n)→Q .ret { T:=[(0,O2 X),(1,I a),(2,I ((a:Int)+n)),(3,I lim),(4,fcE),(10,Bo bal),(11,Bo part),(12,I n),(13,I m),(80,Bo true)],loc:=[],M:=M })
    (hL:∀ (X3:List (Int×Int)) (mid:Nat) (bal part:Bool),a < mid→mid+1 < a+n→Seg X X3 a (a+n)→SrtOn X3 a (mid+1)→CutOn X3 a (mid+1) (a+n) →
      Q .normal { T:=[(0,O2 X3),(1,I (mid+1:Nat)),(2,I ((a:Int)+n)),(3,I lim),(4,fcE),(10,Bo bal),(11,Bo part)],loc:=[],M:=M })
    (hR:∀ (X3:List (Int×Int)) (mid:Nat) (bal part:Bool),a < mid→mid+1 < a+n→Seg X X3 a (a+n)→SrtOn X3 mid (a+n)→CutOn X3 a mid (a+n) →
      Q .normal { T:=[(0,O2 X3),(1,I a),(2,I mid),(3,I lim),(4,fcE),(10,Bo bal),(11,Bo part)],loc:=[],M:=M }) :
    wp tb cB' { T:=[(0,O2 X),(1,I a),(2,I ((a:Int)+n)),(3,I lim),(4,fcE),(10,Bo bal),(11,Bo part),(12,I n),(13,I m),(14,I hint)],loc:=[],M:=M } Q:=by
  obtain ⟨t,ht,hE2⟩:=ev_partialIns X hX (by omega) a n (by omega) (by omega) hab (M++[[]])
  have e2:=ev_lim hE2
  have hml:m < X.length:=by omega
  have hD:=pdq_D X hX hn hl a n m lim h13 h21 hab hm M hrec h0 p1 p2 bal part Q hL hR
  have key:∀ (hq:a=0 ∨ ∃ a0,∃ h:a0 < X.length,a=a0+1∧cmpE X[a0] X[m] < 0),True:=fun _=>trivial
  have hq:a=0 ∨ ∃ a0,∃ h:a0 < X.length,a=a0+1∧cmpE X[a0] X[m] < 0:=by
    rcases h0 with h0 | h0
    · exact .inl h0
    · by_cases ha:a=0
      · exact .inl ha
      · refine .inr ⟨a - 1,by omega,by omega,?_⟩
        have:=h0 m X[a - 1] X[m] hm.1 hm.2 (List.getElem?_eq_getElem (by omega)) (List.getElem?_eq_getElem hml)
        rw [← cmpE_below] at this
        exact of_decide_eq_true this
  clear key
  have hto:X.take X.length=X:=List.take_of_length_le (Nat.le_refl _)
  rcases hq with ha | ⟨a0,ha0,ha,hcm⟩
  · have g1:¬ (0:Int) < (a:Int):=by omega
    have g1':¬ 0 < a:=by omega
    clear ha
    rcases hh with rfl | rfl
    · cases bal <;> cases part
      all_goals
        repeat (first|apply wp_as|apply wp_ss|refine wr (by simp [hml,g1,g1'];with_reducible rfl) ?_|refine wq (by simp [hml,g1,g1'];with_reducible rfl) ?_|refine wt (by simpa [hml,g1,g1']) ?_|refine wf (by simpa [hml,g1,g1']) ?_|refine xt (by simpa [hml,g1,g1']) ?_|refine xf (by simpa [hml,g1,g1']) ?_|apply wp_bs|apply wp_b|refine wp_sr ?_|refine wp_sx ?_|refine wp_ret' ?_|refine wp_skip' ?_|refine wp_exit' ?_)
        exact hD
    · cases bal <;> cases part
      rotate_right 1
      · cases t with
        | true =>
          have hs:=hS m (srt_adj hn (ht rfl))
          repeat (first|apply wp_as|apply wp_ss|refine wr (by simp [e2,hml,g1,g1'];with_reducible rfl) ?_|refine wq (by simp [e2,hml,g1,g1'];with_reducible rfl) ?_|refine wt (by simpa [e2,hml,g1,g1']) ?_|refine wf (by simpa [e2,hml,g1,g1']) ?_|refine xt (by simpa [e2,hml,g1,g1']) ?_|refine xf (by simpa [e2,hml,g1,g1']) ?_|apply wp_bs|apply wp_b|refine wp_sr ?_|refine wp_sx ?_|refine wp_ret' ?_|refine wp_skip' ?_|refine wp_exit' ?_)
          exact hs
        | false =>
          repeat (first|apply wp_as|apply wp_ss|refine wr (by simp [e2,hml,g1,g1'];with_reducible rfl) ?_|refine wq (by simp [e2,hml,g1,g1'];with_reducible rfl) ?_|refine wt (by simpa [e2,hml,g1,g1']) ?_|refine wf (by simpa [e2,hml,g1,g1']) ?_|refine xt (by simpa [e2,hml,g1,g1']) ?_|refine xf (by simpa [e2,hml,g1,g1']) ?_|apply wp_bs|apply wp_b|refine wp_sr ?_|refine wp_sx ?_|refine wp_ret' ?_|refine wp_skip' ?_|refine wp_exit' ?_)
          exact hD
      all_goals
        repeat (first|apply wp_as|apply wp_ss|refine wr (by simp [hml,g1,g1'];with_reducible rfl) ?_|refine wq (by simp [hml,g1,g1'];with_reducible rfl) ?_|refine wt (by simpa [hml,g1,g1']) ?_|refine wf (by simpa [hml,g1,g1']) ?_|refine xt (by simpa [hml,g1,g1']) ?_|refine xf (by simpa [hml,g1,g1']) ?_|apply wp_bs|apply wp_b|refine wp_sr ?_|refine wp_sx ?_|refine wp_ret' ?_|refine wp_skip' ?_|refine wp_exit' ?_)
        exact hD
  · have e3:=fun M=>ev_lim (ev_cmpE (hX _ (List.getElem_mem ha0)) (hX _ (List.getElem_mem hml)) M)
    have w1:IntKind.i64.wrap ((a:Int) - 1)=(a0:Int):=by rw [wrap64 (by omega) (by omega)];omega
    have g1:(0:Int) < (a:Int):=by omega
    have g1':0 < a:=by omega
    rcases hh with rfl | rfl
    · cases bal <;> cases part
      all_goals
        repeat (first|apply wp_as|apply wp_ss|refine wr (by simp [e3,hml,ha0,w1,g1,g1',hcm];with_reducible rfl) ?_|refine wq (by simp [e3,hml,ha0,w1,g1,g1',hcm];with_reducible rfl) ?_|refine wt (by simpa [e3,hml,ha0,w1,g1,g1',hcm]) ?_|refine wf (by simpa [e3,hml,ha0,w1,g1,g1',hcm]) ?_|refine xt (by simpa [e3,hml,ha0,w1,g1,g1',hcm]) ?_|refine xf (by simpa [e3,hml,ha0,w1,g1,g1',hcm]) ?_|apply wp_bs|apply wp_b|refine wp_sr ?_|refine wp_sx ?_|refine wp_ret' ?_|refine wp_skip' ?_|refine wp_exit' ?_)
        exact hD
    · cases bal <;> cases part
      rotate_right 1
      · cases t with
        | true =>
          have hs:=hS m (srt_adj hn (ht rfl))
          repeat (first|apply wp_as|apply wp_ss|refine wr (by simp [e2,e3,hml,ha0,w1,g1,g1',hcm];with_reducible rfl) ?_|refine wq (by simp [e2,e3,hml,ha0,w1,g1,g1',hcm];with_reducible rfl) ?_|refine wt (by simpa [e2,e3,hml,ha0,w1,g1,g1',hcm]) ?_|refine wf (by simpa [e2,e3,hml,ha0,w1,g1,g1',hcm]) ?_|refine xt (by simpa [e2,e3,hml,ha0,w1,g1,g1',hcm]) ?_|refine xf (by simpa [e2,e3,hml,ha0,w1,g1,g1',hcm]) ?_|apply wp_bs|apply wp_b|refine wp_sr ?_|refine wp_sx ?_|refine wp_ret' ?_|refine wp_skip' ?_|refine wp_exit' ?_)
          exact hs
        | false =>
          repeat (first|apply wp_as|apply wp_ss|refine wr (by simp [e2,e3,hml,ha0,w1,g1,g1',hcm];with_reducible rfl) ?_|refine wq (by simp [e2,e3,hml,ha0,w1,g1,g1',hcm];with_reducible rfl) ?_|refine wt (by simpa [e2,e3,hml,ha0,w1,g1,g1',hcm]) ?_|refine wf (by simpa [e2,e3,hml,ha0,w1,g1,g1',hcm]) ?_|refine xt (by simpa [e2,e3,hml,ha0,w1,g1,g1',hcm]) ?_|refine xf (by simpa [e2,e3,hml,ha0,w1,g1,g1',hcm]) ?_|apply wp_bs|apply wp_b|refine wp_sr ?_|refine wp_sx ?_|refine wp_ret' ?_|refine wp_skip' ?_|refine wp_exit' ?_)
          exact hD
      all_goals
        repeat (first|apply wp_as|apply wp_ss|refine wr (by simp [e3,hml,ha0,w1,g1,g1',hcm];with_reducible rfl) ?_|refine wq (by simp [e3,hml,ha0,w1,g1,g1',hcm];with_reducible rfl) ?_|refine wt (by simpa [e3,hml,ha0,w1,g1,g1',hcm]) ?_|refine wf (by simpa [e3,hml,ha0,w1,g1,g1',hcm]) ?_|refine xt (by simpa [e3,hml,ha0,w1,g1,g1',hcm]) ?_|refine xf (by simpa [e3,hml,ha0,w1,g1,g1',hcm]) ?_|apply wp_bs|apply wp_b|refine wp_sr ?_|refine wp_sx ?_|refine wp_ret' ?_|refine wp_skip' ?_|refine wp_exit' ?_)
        exact hD
set_option maxHeartbeats 2000000 in
theorem pdq_B (X:List (Int×Int)) (hX:∀ x ∈ X,DE x) (hn:X.Nodup) (hl:X.length≤700000) (a n lim:Nat) (h13:13≤n) (h21:n≤21) (hab:a+n≤X.length) (M:List Boxes) (hrec:PdqRec n lim (M++[[]]))
    (h0:a=0 ∨ ∀ k e f,a≤k→k < a+n→X[a - 1]? = some e→X[k]? = some f→below e f=true)
    (bal part:Bool) (Q:Ex→St→Prop) (f:Bool)
    (hS:∀ m:Nat,SrtOn X a (a+n)→Q .ret { T:=[(0,O2 X),(1,I a),(2,I ((a:Int)+n)),(3,I lim),(4,fcE),(10,Bo bal),(11,Bo part),(12,I n),(13,I m),(80,Bo true)],loc:=[],M:=M })
    (hL:∀ (X3:List (Int×Int)) (mid:Nat) (bal part:Bool),a < mid→mid+1 < a+n→Seg X X3 a (a+n)→SrtOn X3 a (mid+1)→CutOn X3 a (mid+1) (a+n) →
      Q .normal { T:=[(0,O2 X3),(1,I (mid+1:Nat)),(2,I ((a:Int)+n)),(3,I lim),(4,fcE),(10,Bo bal),(11,Bo part)],loc:=[],M:=M })
    (hR:∀ (X3:List (Int×Int)) (mid:Nat) (bal part:Bool),a < mid→mid+1 < a+n→Seg X X3 a (a+n)→SrtOn X3 mid (a+n)→CutOn X3 a mid (a+n) →
      Q .normal { T:=[(0,O2 X3),(1,I a),(2,I mid),(3,I lim),(4,fcE),(10,Bo bal),(11,Bo part)],loc:=[],M:=M }) :
    wp tb cB { T:=[(0,O2 X),(1,I a),(2,I ((a:Int)+n)),(3,I lim),(4,fcE),(10,Bo bal),(11,Bo part),(12,I n)]++(if f then [(39,Bo false)] else []),loc:=[],M:=M } Q:=by
  obtain ⟨m,hint,hm,hh,p1,p2,hE⟩:=ev_choosePivot X hX hn (by omega) a n hab h13 (by omega) (M++[[]])
  have e1:=ev_lim hE
  have hB:=pdq_B' X hX hn hl a n lim h13 h21 hab M hrec h0 bal part Q m hint hm hh p1 p2 hS hL hR
  cases f
  all_goals
    simp only [if_true,if_false,Bool.false_eq_true,List.append_nil,List.cons_append,List.nil_append]
    refine wr (by simp [e1];with_reducible rfl) ?_
    exact hB
end Go.Idl
namespace Go.Idl
open Go
def pot (n:Nat):Nat:=if n≤12 then 0 else (n - 11) / 2
theorem pdq_call {X:List (Int×Int)} {a n lim:Nat} {M:List Boxes}
    (h:wp tb (.loop z285l31) { T:=[(0,O2 X),(1,I a),(2,I ((a:Int)+n)),(3,I lim),(4,fcE),(10,Bo true),(11,Bo true)],loc:=[],M:=M }
      (fun ex st=>ex=.ret∧∃ X':List (Int×Int),Seg X X' a (a+n)∧SrtOn X' a (a+n)∧finish zi285 [0] st=some ⟨.tup [],[O2 X'],M,[]⟩)) :
    ∃ X':List (Int×Int),Seg X X' a (a+n)∧SrtOn X' a (a+n)∧Ev tb zl285 [0] [O2 X,I a,I ((a:Int)+n),I lim,fcE] M ⟨.tup [],[O2 X'],M,[]⟩:=by
  suffices hh:∃ r,(∃ X':List (Int×Int),Seg X X' a (a+n)∧SrtOn X' a (a+n)∧r=⟨.tup [],[O2 X'],M,[]⟩)∧Ev tb zl285 [0] [O2 X,I a,I ((a:Int)+n),I lim,fcE] M r by
    obtain ⟨r,⟨X',q1,q2,rfl⟩,q3⟩:=hh
    exact ⟨X',q1,q2,q3⟩
  refine call_ex zt285 rfl ?_
  repeat (first|apply wp_as|apply wp_ss|refine wr (by simp;with_reducible rfl) ?_|refine wq (by simp;with_reducible rfl) ?_|refine wt (by simpa) ?_|refine wf (by simpa) ?_|refine xt (by simpa) ?_|refine xf (by simpa) ?_|apply wp_bs|apply wp_b|refine wp_sr ?_|refine wp_sx ?_|refine wp_ret' ?_|refine wp_skip' ?_|refine wp_exit' ?_)
  refine wp_imp h ?_
  rintro ex st ⟨rfl,X',q1,q2,q3⟩
  exact ⟨.inr rfl,_,⟨X',q1,q2,rfl⟩,q3⟩
abbrev PdqPost (X:List (Int×Int)) (a n:Nat) (M:List Boxes) (ex:Ex) (st:St):Prop :=
  ex=.ret∧∃ X':List (Int×Int),Seg X X' a (a+n)∧SrtOn X' a (a+n)∧finish zi285 [0] st=some ⟨.tup [],[O2 X'],M,[]⟩
theorem pdq_few (n:Nat) (h12:n≤12) (X:List (Int×Int)) (a lim:Nat) (bal part:Bool) (M:List Boxes) (hX:∀ x ∈ X,DE x) (hnd:X.Nodup) (hl:X.length≤700000) (hab:a+n≤X.length) :
    wp tb (.loop z285l31) { T:=[(0,O2 X),(1,I a),(2,I ((a:Int)+n)),(3,I lim),(4,fcE),(10,Bo bal),(11,Bo part)],loc:=[],M:=M } (PdqPost X a n M):=by
  obtain ⟨X',hS,hs,hE⟩:=ins_part X hX hnd hl a n hab (M++[[]])
  have e1:=ev_lim hE
  have w00:(a:Int)+(n:Int) - a=n:=by omega
  have w0:IntKind.i64.wrap (n:Int)=(n:Int):=wrap64 (by omega) (by omega)
  have g1:(n:Int)≤12:=by omega
  refine wp_loop ?_
  repeat (first|apply wp_as|apply wp_ss|refine wr (by simp [w00,w0,g1,h12,e1];with_reducible rfl) ?_|refine wq (by simp [w00,w0,g1,h12,e1];with_reducible rfl) ?_|refine wt (by simpa [w00,w0,g1,h12,e1]) ?_|refine wf (by simpa [w00,w0,g1,h12,e1]) ?_|refine xt (by simpa [w00,w0,g1,h12,e1]) ?_|refine xf (by simpa [w00,w0,g1,h12,e1]) ?_|apply wp_bs|apply wp_b|refine wp_sr ?_|refine wp_sx ?_|refine wp_ret' ?_|refine wp_skip' ?_|refine wp_exit' ?_)
  refine ⟨rfl,X',hS,hs,?_⟩
  simp [zi285]
set_option maxHeartbeats 4000000 in
theorem pdq_main:∀ (N n:Nat),n≤N→n≤21→∀ (X:List (Int×Int)) (a lim:Nat) (bal part:Bool) (M:List Boxes),(∀ x ∈ X,DE x)→X.Nodup→X.length≤700000→a+n≤X.length→pot n≤lim→lim≤1000 →
    (a=0 ∨ ∀ k e f,a≤k→k < a+n→X[a - 1]? = some e→X[k]? = some f→below e f=true) →
    wp tb (.loop z285l31) { T:=[(0,O2 X),(1,I a),(2,I ((a:Int)+n)),(3,I lim),(4,fcE),(10,Bo bal),(11,Bo part)],loc:=[],M:=M } (PdqPost X a n M):=by
  intro N
  induction N with
  | zero =>
    intro n hn h21 X a lim bal part M hX hnd hl hab hpot hlim h0
    exact pdq_few n (by omega) X a lim bal part M hX hnd hl hab
  | succ N ih =>
    intro n hn h21 X a lim bal part M hX hnd hl hab hpot hlim h0
    by_cases h12:n≤12
    · exact pdq_few n h12 X a lim bal part M hX hnd hl hab
    have hp1:pot n=(n - 11) / 2:=by rw [pot,if_neg h12]
    have hlim1:1≤lim:=by omega
    have hpm:∀ n',n'+2≤n→pot n'≤lim - 1:=fun n' h=>by
      rw [pot];split <;> omega
    have hrec:∀ lim',lim - 1≤lim'→lim'≤1000→∀ M,PdqRec n lim' M:=fun lim' h1 h2 M n' a' X hn' hX hnd hl hab h0=>by
      obtain ⟨X',q1,q2,q3⟩:=pdq_call (ih n' (by omega) (by omega) X a' lim' true true M hX hnd hl hab (by have:=hpm n' hn';omega) h2 h0)
      exact ⟨X',q1,q2,ev_lim q3⟩
    have w00:(a:Int)+(n:Int) - a=n:=by omega
    have w0:IntKind.i64.wrap (n:Int)=(n:Int):=wrap64 (by omega) (by omega)
    have g1:¬ (n:Int)≤12:=by omega
    have g2:¬ (lim:Int)=0:=by omega
    have g2':¬ lim=0:=by omega
    have fin:∀ (X1:List (Int×Int)) (lim1:Nat),Seg X X1 a (a+n)→lim - 1≤lim1→lim1≤1000 →
        (∀ (X3:List (Int×Int)) (mid:Nat) (bal part:Bool),a < mid→mid+1 < a+n→Seg X1 X3 a (a+n)→SrtOn X3 a (mid+1)→CutOn X3 a (mid+1) (a+n) →
          wp tb (.loop z285l31) { T:=[(0,O2 X3),(1,I (mid+1:Nat)),(2,I ((a:Int)+n)),(3,I lim1),(4,fcE),(10,Bo bal),(11,Bo part)],loc:=[],M:=M } (PdqPost X a n M)) ∧
        (∀ (X3:List (Int×Int)) (mid:Nat) (bal part:Bool),a < mid→mid+1 < a+n→Seg X1 X3 a (a+n)→SrtOn X3 mid (a+n)→CutOn X3 a mid (a+n) →
          wp tb (.loop z285l31) { T:=[(0,O2 X3),(1,I a),(2,I mid),(3,I lim1),(4,fcE),(10,Bo bal),(11,Bo part)],loc:=[],M:=M } (PdqPost X a n M)):=by
      intro X1 lim1 hS1 hl1 hl2
      refine ⟨fun X3 mid bal part h1 h2 hS3 hs hc=>?_,fun X3 mid bal part h1 h2 hS3 hs hc=>?_⟩
      · have hS:=hS1.trans hS3
        have hle:=hS.len
        obtain ⟨n2,hn2⟩:∃ n2,a+n=mid+1+n2:=⟨a+n - (mid+1),by omega⟩
        have:=ih n2 (by omega) (by omega) X3 (mid+1) lim1 bal part M (fun x hx=>hX x (hS.perm.mem_iff.1 hx)) (hS.nodup hnd) (by omega) (by omega) (by have:=hpm n2 (by omega);omega) hl2 (.inr fun k e f k1 k2 he hf=>by
          rw [Nat.add_sub_cancel] at he
          exact hc mid k e f (by omega) (by omega) k1 (by omega) he hf)
        rw [show ((mid+1:Nat):Int)+(n2:Int)=(a:Int)+n by omega] at this
        refine wp_imp this ?_
        rintro ex st ⟨rfl,X',q1,q2,q3⟩
        rw [← hn2] at q1 q2
        exact ⟨rfl,X',hS.trans (q1.mono (by omega) (Nat.le_refl _)),srt_join (hS.nodup hnd) hs hc q1 q2,q3⟩
      · have hS:=hS1.trans hS3
        have hle:=hS.len
        obtain ⟨n1,hn1⟩:∃ n1,mid=a+n1:=⟨mid - a,by omega⟩
        have:=ih n1 (by omega) (by omega) X3 a lim1 bal part M (fun x hx=>hX x (hS.perm.mem_iff.1 hx)) (hS.nodup hnd) (by omega) (by omega) (by have:=hpm n1 (by omega);omega) hl2 (by
          rcases h0 with h0 | h0
          · exact .inl h0
          · by_cases ha:a=0
            · exact .inl ha
            · refine .inr fun k e f k1 k2 he hf=>?_
              rw [hS.out (a - 1) (by omega)] at he
              obtain ⟨k',hk',hf'⟩:=hS.back hnd ⟨k1,by omega⟩ hf
              exact h0 k' e f hk'.1 hk'.2 he hf')
        rw [show (a:Int)+(n1:Int)=(mid:Int) by omega] at this
        refine wp_imp this ?_
        rintro ex st ⟨rfl,X',q1,q2,q3⟩
        rw [← hn1] at q1 q2
        exact ⟨rfl,X',hS.trans (q1.mono (Nat.le_refl _) (by omega)),srt_join' (hS.nodup hnd) hs hc q1 q2,q3⟩
    cases bal with
    | true =>
      obtain ⟨fL,fR⟩:=fin X lim (Seg.refl X a (a+n)) (by omega) hlim
      refine wp_loop ?_
      iterate 10 (first|apply wp_as|apply wp_ss|refine wr (by simp [w00,w0,g1,h12,g2,g2'];with_reducible rfl) ?_|refine wq (by simp [w00,w0,g1,h12,g2,g2'];with_reducible rfl) ?_|refine wt (by simpa [w00,w0,g1,h12,g2,g2']) ?_|refine wf (by simpa [w00,w0,g1,h12,g2,g2']) ?_|refine xt (by simpa [w00,w0,g1,h12,g2,g2']) ?_|refine xf (by simpa [w00,w0,g1,h12,g2,g2']) ?_|apply wp_bs|apply wp_b|refine wp_sr ?_|refine wp_sx ?_|refine wp_ret' ?_|refine wp_skip' ?_|refine wp_exit' ?_)
      refine wp_skip' ?_
      refine pdq_B X hX hnd hl a n lim (by omega) h21 hab M (hrec lim (by omega) hlim _) h0 true part _ true ?_ ?_ ?_
      · intro m hs
        refine ⟨rfl,X,Seg.refl X a (a+n),hs,?_⟩
        simp [zi285]
      · intro X3 mid bal part h1 h2 h3 h4 h5
        exact fL X3 mid bal part h1 h2 h3 h4 h5
      · intro X3 mid bal part h1 h2 h3 h4 h5
        exact fR X3 mid bal part h1 h2 h3 h4 h5
    | false =>
      obtain ⟨X1,hS1,hE⟩:=ev_breakPatterns X (by omega) a n (by omega) h21 hab (M++[[]])
      have e1:=ev_lim hE
      obtain ⟨lim1,hlim2⟩:∃ lim1,lim=lim1+1:=⟨lim - 1,by omega⟩
      have hle:=hS1.len
      have w1:IntKind.i64.wrap ((lim:Int) - 1)=(lim1:Int):=by rw [wrap64 (by omega) (by omega)];omega
      obtain ⟨fL,fR⟩:=fin X1 lim1 hS1 (by omega) (by omega)
      refine wp_loop ?_
      iterate 12 (first|apply wp_as|apply wp_ss|refine wr (by simp [w00,w0,g1,h12,g2,g2',e1,w1];with_reducible rfl) ?_|refine wq (by simp [w00,w0,g1,h12,g2,g2',e1,w1];with_reducible rfl) ?_|refine wt (by simpa [w00,w0,g1,h12,g2,g2',e1,w1]) ?_|refine wf (by simpa [w00,w0,g1,h12,g2,g2',e1,w1]) ?_|refine xt (by simpa [w00,w0,g1,h12,g2,g2',e1,w1]) ?_|refine xf (by simpa [w00,w0,g1,h12,g2,g2',e1,w1]) ?_|apply wp_bs|apply wp_b|refine wp_sr ?_|refine wp_sx ?_|refine wp_ret' ?_|refine wp_skip' ?_|refine wp_exit' ?_)
      refine pdq_B X1 (fun x hx=>hX x (hS1.perm.mem_iff.1 hx)) (hS1.nodup hnd) (by omega) a n lim1 (by omega) h21 (by omega) M (hrec lim1 (by omega) (by omega) _) ?_ false part _ false ?_ ?_ ?_
      · rcases h0 with h0 | h0
        · exact .inl h0
        · by_cases ha:a=0
          · exact .inl ha
          · refine .inr fun k e f k1 k2 he hf=>?_
            rw [hS1.out (a - 1) (by omega)] at he
            obtain ⟨k',hk',hf'⟩:=hS1.back hnd ⟨k1,k2⟩ hf
            exact h0 k' e f hk'.1 hk'.2 he hf'
      · intro m hs
        refine ⟨rfl,X1,hS1,hs,?_⟩
        simp [zi285]
      · intro X3 mid bal part h1 h2 h3 h4 h5
        exact fL X3 mid bal part h1 h2 h3 h4 h5
      · intro X3 mid bal part h1 h2 h3 h4 h5
        exact fR X3 mid bal part h1 h2 h3 h4 h5
theorem ev_SortFunc_ex (X:List (Int×Int)) (hX:∀ x ∈ X,DE x) (hn:X.Nodup) (h21:X.length≤21) (M:List Boxes) :
    ∃ X':List (Int×Int),X'.Perm X∧SrtOn X' 0 X.length∧Ev tb zl272 [0] [O2 X,fcE] M ⟨.tup [],[O2 X'],M,[]⟩:=by
  have hb:lenB X.length≤1000:=by unfold lenB;(repeat' split) <;> omega
  have hp:pot X.length≤lenB X.length:=by
    unfold pot lenB
    (repeat' split) <;> omega
  obtain ⟨X',hS,hs,hE⟩:=pdq_call (pdq_main X.length X.length (Nat.le_refl _) h21 X 0 (lenB X.length) true true (M++[[]]) hX hn (by omega) (by omega) hp hb (.inl rfl))
  have e1:=ev_lim hE
  have e2:=ev_lim (ev_Lenk X.length h21)
  have w1:=@wrapU X.length (by omega)
  rw [show ((0:Nat):Int)=0 from rfl,Int.zero_add] at e1
  rw [Nat.zero_add] at hs
  refine ⟨X',hS.perm,hs,?_⟩
  refine call_of_wp zt272 rfl ?_
  repeat (first|apply wp_as|apply wp_ss|refine wr (by simp [e1,e2,w1];with_reducible rfl) ?_|refine wq (by simp [e1,e2,w1];with_reducible rfl) ?_|refine wt (by simpa [e1,e2,w1]) ?_|refine wf (by simpa [e1,e2,w1]) ?_|refine xt (by simpa [e1,e2,w1]) ?_|refine xf (by simpa [e1,e2,w1]) ?_|apply wp_bs|apply wp_b|refine wp_sr ?_|refine wp_sx ?_|refine wp_ret' ?_|refine wp_skip' ?_|refine wp_exit' ?_)
  simp [zi272]
def srtE (X:List (Int×Int)):List (Int×Int):=srtC below [] X
theorem srtE_pw {X:List (Int×Int)} (hn:X.Nodup):PW (srtE X):=by
  obtain ⟨h1,h2⟩:=srtC_ok (lt:=below) below_ht (fun a b h=>below_asymm h) X [] .nil
  have hnd:(srtE X).Nodup:=h2.nodup_iff.2 (by simpa using hn)
  refine (h1.and hnd).imp fun {a b} h=>?_
  rcases below_total h.2 with q | q
  · exact q
  · rw [h.1] at q;cases q
theorem srtE_perm (X:List (Int×Int)):(srtE X).Perm X:=by
  have:=srtC_perm below X []
  rwa [List.nil_append] at this
theorem ev_SortFunc (X:List (Int×Int)) (hX:∀ x ∈ X,DE x) (hn:X.Nodup) (h21:X.length≤21) (M:List Boxes) :
    Ev tb zl272 [0] [O2 X,fcE] M ⟨.tup [],[O2 (srtE X)],M,[]⟩:=by
  obtain ⟨X',hp,hs,hE⟩:=ev_SortFunc_ex X hX hn h21 M
  have hl:=hp.length_eq
  have hpw:PW X':=List.pairwise_iff_getElem.2 fun i j hi hj hij=>hs i j _ _ (by omega) hij (by omega) (List.getElem?_eq_getElem hi) (List.getElem?_eq_getElem hj)
  have:X'=srtE X:=pw_ext hpw (srtE_pw hn) fun e=>by rw [hp.mem_iff,(srtE_perm X).mem_iff]
  rw [← this];exact hE
end Go.Idl
namespace Go.Idl
open Go
def decAt (o:List Int) (i:Nat):List Int:=o.set i (o.getD i 0 - 1)
def subs:List (Int×Int)→List Int→List (Int×Int)→List (List (Int×Int))
  | [],left,chosen=>if left.all (fun x=>decide (x=0)) then [chosen] else []
  | e::r,left,chosen =>
    (if 0 < left.getD e.1.toNat 0∧0 < left.getD e.2.toNat 0 then subs r (decAt (decAt left e.1.toNat) e.2.toNat) (chosen++[e]) else [])++subs r left chosen
theorem ev_Clone2 (e0:Nat) (es:List (Int×Int)) (c:Bool) (he0:e0=2 ∨ es=[]) (hl:es.length≤2000000):Ev tb zl261 [] [.lst e0 (eds es) c] [] ⟨O2 es,[],[],[]⟩:=by
  rcases he0 with rfl | rfl
  · refine call_of_wp zt261 rfl ?_
    refine wp_rs (by simp;rfl) (by simp;rfl) ?_
    refine wp_nil2 (b:=es.isEmpty) (by simp [z261r1];rfl) (by simp) ?_ ?_ ?_ (ex:=.ret) (st':={ T:=[(2,.own 2 (eds es))],loc:=[],M:=[] })
    · refine wp_ct (t:=false) (by simp) (by simp) fun _=>wp_ss ?_
      refine wp_rs (by simp [show es.length≤274877906944 by omega];rfl) (by simp;rfl) ?_
      refine wp_ret' ?_
      simp
    · intro he
      have:es=[]:=by simpa using he
      subst this
      refine wp_ct (t:=true) (by simp) (fun _=>wp_as ?_) (by simp)
      refine wp_rs (by simp;rfl) (by simp;rfl) ?_
      refine wp_sr ?_
      simp
    · simp [zi261]
  · refine call_of_wp zt261 rfl ?_
    refine wp_rs (by simp;rfl) (by simp;rfl) ?_
    refine wp_nil2 (b:=([]:List (Int×Int)).isEmpty) (by simp [z261r1];rfl) (by simp) ?_ ?_ ?_ (ex:=.ret) (st':={ T:=[(2,.own 2 (eds ([]:List (Int×Int))))],loc:=[],M:=[] })
    · refine wp_ct (t:=false) (by simp) (by simp) fun _=>wp_ss ?_
      refine wp_rs (by simp;rfl) (by simp;rfl) ?_
      refine wp_ret' ?_
      simp
    · intro he
      refine wp_ct (t:=true) (by simp) (fun _=>wp_as ?_) (by simp)
      refine wp_rs (by simp;rfl) (by simp;rfl) ?_
      refine wp_sr ?_
      simp
    · simp [zi261]
theorem ev_clone2 (e0:Nat) (es:List (Int×Int)) (c:Bool) (he0:e0=2 ∨ es=[]) (hl:es.length≤2000000):Ev tb zl204 [] [.lst e0 (eds es) c] [] ⟨O2 es,[],[],[]⟩:=by
  have e1:=ev_lim (ev_Clone2 e0 es c he0 hl)
  have e2:=ev_lim (ev_Clip2 es)
  refine call_of_wp zt204 rfl ?_
  repeat (first|apply wp_as|apply wp_ss|refine wr (by simp [e1,e2];with_reducible rfl) ?_|refine wq (by simp [e1,e2];with_reducible rfl) ?_|refine wt (by simpa [e1,e2]) ?_|refine wf (by simpa [e1,e2]) ?_|refine xt (by simpa [e1,e2]) ?_|refine xf (by simpa [e1,e2]) ?_|apply wp_bs|apply wp_b|refine wp_sr ?_|refine wp_sx ?_|refine wp_ret' ?_|refine wp_skip' ?_|refine wp_exit' ?_)
  simp [zi204]
end Go.Idl
namespace Go.Idl
open Go
theorem ev_made (n:Int) (e0:Nat) (es:List (Int×Int)) (c:Bool) (he0:e0=2 ∨ es=[]) (hX:∀ x ∈ es,DE x) (hn:es.Nodup) (h21:es.length≤21) :
    Ev tb zl214 [] [I n,.lst e0 (eds es) c] [] ⟨OG n (srtE es),[],[],[]⟩:=by
  have e1:=ev_lim (ev_clone2 e0 es c he0 (by omega))
  have e2:=ev_lim (ev_SortFunc es hX hn h21 [[[I 0,Z]]])
  refine call_of_wp zt214 rfl ?_
  repeat (first|apply wp_as|apply wp_ss|refine wr (by simp [e1,e2];with_reducible rfl) ?_|refine wq (by simp [e1,e2];with_reducible rfl) ?_|refine wt (by simpa [e1,e2]) ?_|refine wf (by simpa [e1,e2]) ?_|refine xt (by simpa [e1,e2]) ?_|refine xf (by simpa [e1,e2]) ?_|apply wp_bs|apply wp_b|refine wp_sr ?_|refine wp_sx ?_|refine wp_ret' ?_|refine wp_skip' ?_|refine wp_exit' ?_)
  simp [zi214]
end Go.Idl
namespace Go.Idl
open Go
def idxE (p:Int×Int→Bool) (i:Int):List (Int×Int)→Int
  | []=>-1
  | x::xs=>if p x then i else idxE p (i+1) xs
theorem ev_IndexFuncEL (xs:List (Int×Int)) (F:Lab) (caps:List IV) (M:List Boxes) (p:Int×Int→Bool) (hl:xs.length≤2000000)
    (hp:∀ x ∈ xs,Ev tb F [] (.agg [I x.1,I x.2]::caps) (M++[[]]) ⟨Bo (p x),[],M++[[]],[]⟩) :
    Ev tb zl448 [0] [O2 xs,.fn F caps] M ⟨I (idxE p 0 xs),[O2 xs],M,[]⟩:=by
  have loop:∀ (m i:Nat),i+m=xs.length→wp tb (.loop z448l7) { T:=[(0,O2 xs),(1,.fn F caps),(7,I xs.length),(8,I i)],loc:=[],M:=M }
      (fun ex st=>(ex=.exit 0∧idxE p i (xs.drop i)=-1∧st={ T:=[(0,O2 xs),(1,.fn F caps),(7,I xs.length),(8,I xs.length),(9,Bo false)],loc:=[],M:=M }) ∨
        ex=.ret∧st={ T:=[(0,O2 xs),(4,I (idxE p i (xs.drop i)))],loc:=[],M:=M }):=by
    intro m
    induction m with
    | zero =>
      intro i hi
      have h2:xs.drop i=[]:=List.drop_of_length_le (by omega)
      have h3:i=xs.length:=hi
      subst h3
      refine wp_loop ?_
      repeat (first|apply wp_as|apply wp_ss|refine wr (by simp;with_reducible rfl) ?_|refine wq (by simp;with_reducible rfl) ?_|refine wt (by simpa) ?_|refine wf (by simpa) ?_|refine xt (by simpa) ?_|refine xf (by simpa) ?_|apply wp_bs|apply wp_b|refine wp_sr ?_|refine wp_sx ?_|refine wp_ret' ?_|refine wp_skip' ?_|refine wp_exit' ?_)
      refine .inl ⟨rfl,by rw [h2];rfl,rfl⟩
    | succ m ih =>
      intro i hi
      have hi2:i < xs.length:=by omega
      have h2:xs.drop i=xs[i]::xs.drop (i+1):=List.drop_eq_getElem_cons hi2
      have e1:=ev_lim (hp _ (List.getElem_mem hi2))
      have w1:IntKind.i64.wrap ((i:Int)+1)=((i+1:Nat):Int):=wrapS (by omega)
      have gx:(eds xs)[i]'(by simpa using hi2)=[I xs[i].1,I xs[i].2]:=by simp [eds]
      rw [h2]
      cases hpx:p xs[i] with
      | true =>
        refine wp_loop ?_
        repeat (first|apply wp_as|apply wp_ss|refine wr (by simp [e1,hi2,w1,hpx,gx];with_reducible rfl) ?_|refine wq (by simp [e1,hi2,w1,hpx,gx];with_reducible rfl) ?_|refine wt (by simpa [e1,hi2,w1,hpx,gx]) ?_|refine wf (by simpa [e1,hi2,w1,hpx,gx]) ?_|refine xt (by simpa [e1,hi2,w1,hpx,gx]) ?_|refine xf (by simpa [e1,hi2,w1,hpx,gx]) ?_|apply wp_bs|apply wp_b|refine wp_sr ?_|refine wp_sx ?_|refine wp_ret' ?_|refine wp_skip' ?_|refine wp_exit' ?_)
        refine .inr ⟨rfl,by simp [idxE,hpx]⟩
      | false =>
        refine wp_loop ?_
        repeat (first|apply wp_as|apply wp_ss|refine wr (by simp [e1,hi2,w1,hpx,gx];with_reducible rfl) ?_|refine wq (by simp [e1,hi2,w1,hpx,gx];with_reducible rfl) ?_|refine wt (by simpa [e1,hi2,w1,hpx,gx]) ?_|refine wf (by simpa [e1,hi2,w1,hpx,gx]) ?_|refine xt (by simpa [e1,hi2,w1,hpx,gx]) ?_|refine xf (by simpa [e1,hi2,w1,hpx,gx]) ?_|apply wp_bs|apply wp_b|refine wp_sr ?_|refine wp_sx ?_|refine wp_ret' ?_|refine wp_skip' ?_|refine wp_exit' ?_)
        have:=ih (i+1) (by omega)
        simp only [idxE,hpx] at this ⊢
        exact this
  refine call_of_wp zt448 rfl ?_
  repeat (first|apply wp_as|apply wp_ss|refine wr (by simp;with_reducible rfl) ?_|refine wq (by simp;with_reducible rfl) ?_|refine wt (by simpa) ?_|refine wf (by simpa) ?_|refine xt (by simpa) ?_|refine xf (by simpa) ?_|apply wp_bs|apply wp_b|refine wp_sr ?_|refine wp_sx ?_|refine wp_ret' ?_|refine wp_skip' ?_|refine wp_exit' ?_)
  refine wp_imp (loop xs.length 0 (by simp)) ?_
  rintro ex st (⟨rfl,h,rfl⟩ | ⟨rfl,rfl⟩)
  · simp only [if_true]
    repeat (first|apply wp_as|apply wp_ss|refine wr (by simp;with_reducible rfl) ?_|refine wq (by simp;with_reducible rfl) ?_|refine wt (by simpa) ?_|refine wf (by simpa) ?_|refine xt (by simpa) ?_|refine xf (by simpa) ?_|apply wp_bs|apply wp_b|refine wp_sr ?_|refine wp_sx ?_|refine wp_ret' ?_|refine wp_skip' ?_|refine wp_exit' ?_)
    simp at h
    simp [zi448,h]
  · simp [zi448]
theorem idxE_spec (p:Int×Int→Bool):∀ (xs:List (Int×Int)) (i:Nat),(idxE p i xs=-1∧∀ x ∈ xs,p x=false) ∨ ∃ k:Nat,∃ h:k < xs.length,idxE p i xs=((i+k:Nat):Int)∧p xs[k]=true∧∀ x ∈ xs.take k,p x=false
  | [],i=>.inl ⟨rfl,by simp⟩
  | x::r,i=>by
    cases hp:p x with
    | true=>exact .inr ⟨0,by simp,by simp [idxE,hp],hp,by simp⟩
    | false =>
      rcases idxE_spec p r (i+1) with ⟨h1,h2⟩ | ⟨k,hk,h1,h2,h3⟩
      · refine .inl ⟨?_,fun y hy=>?_⟩
        · simp only [idxE,hp,Bool.false_eq_true,if_false];exact h1
        · rcases List.mem_cons.1 hy with rfl | hy
          · exact hp
          · exact h2 y hy
      · refine .inr ⟨k+1,by simp;exact hk,?_,h2,fun y hy=>?_⟩
        · simp only [idxE,hp,Bool.false_eq_true,if_false]
          rw [show ((i:Int)+1)=((i+1:Nat):Int) by omega,h1];omega
        · rw [List.take_succ_cons] at hy
          rcases List.mem_cons.1 hy with rfl | hy
          · exact hp
          · exact h3 y hy
theorem delE_loop (xs:List (Int×Int)) (F:Lab) (caps:List IV) (M:List Boxes) (p:Int×Int→Bool) (hl:xs.length≤2000000)
    (hp:∀ bs,∀ x ∈ xs,Ev tb F [] (.agg [I x.1,I x.2]::caps) (M++[bs]) ⟨Bo (p x),[],M++[bs],[]⟩):∀ (m j i:Nat) (s:List (Int×Int)) (bs:Boxes),j+m=xs.length→i < j→s.length=xs.length→s.take i=(xs.take j).filter (fun x=>!p x)→s.drop j=xs.drop j →
    wp tb (.loop z265l11) { T:=[(0,O2 s),(1,.fn F caps),(5,I i),(6,I j)],loc:=bs,M:=M }
      (fun ex st=>ex=.exit 0∧∃ (i:Nat) (s:List (Int×Int)) (bs:Boxes),(i < xs.length∧s.length=xs.length∧s.take i=xs.filter (fun x=>!p x))∧st={ T:=[(0,O2 s),(1,.fn F caps),(5,I i),(6,I xs.length),(19,Bo false)],loc:=bs,M:=M }):=by
  intro m
  induction m with
  | zero =>
    intro j i s bs hj hij hs h1 h2
    have h3:j=xs.length:=hj
    subst h3
    rw [List.take_length] at h1
    refine wp_loop ?_
    repeat (first|apply wp_as|apply wp_ss|refine wr (by simp [hs];with_reducible rfl) ?_|refine wq (by simp [hs];with_reducible rfl) ?_|refine wt (by simpa [hs]) ?_|refine wf (by simpa [hs]) ?_|refine xt (by simpa [hs]) ?_|refine xf (by simpa [hs]) ?_|apply wp_bs|apply wp_b|refine wp_sr ?_|refine wp_sx ?_|refine wp_ret' ?_|refine wp_skip' ?_|refine wp_exit' ?_)
    exact ⟨rfl,i,s,bs,⟨hij,hs,h1⟩,rfl⟩
  | succ m ih =>
    intro j i s bs hj hij hs h1 h2
    have hjl:j < xs.length:=by omega
    have hjs:j < s.length:=by omega
    have hil:i < s.length:=by omega
    have hil':i < xs.length:=by omega
    have hsj:s[j]=xs[j]:=by
      have h3:s.drop j=s[j]::s.drop (j+1):=List.drop_eq_getElem_cons hjs
      have h4:xs.drop j=xs[j]::xs.drop (j+1):=List.drop_eq_getElem_cons hjl
      rw [h3,h4] at h2
      exact (List.cons.inj h2).1
    have hd2:s.drop (j+1)=xs.drop (j+1):=by
      have h3:s.drop j=s[j]::s.drop (j+1):=List.drop_eq_getElem_cons hjs
      have h4:xs.drop j=xs[j]::xs.drop (j+1):=List.drop_eq_getElem_cons hjl
      rw [h3,h4] at h2
      exact (List.cons.inj h2).2
    have gx:(eds s)[j]'(by simpa using hjs)=[I xs[j].1,I xs[j].2]:=by simp [eds,hsj]
    have e1:=fun bs=>ev_lim (hp bs _ (List.getElem_mem hjl))
    have w1:IntKind.i64.wrap ((j:Int)+1)=((j+1:Nat):Int):=wrapS (by omega)
    have w2:IntKind.i64.wrap ((i:Int)+1)=((i+1:Nat):Int):=wrapS (by omega)
    have ht:(xs.take (j+1)).filter (fun x=>!p x)=(xs.take j).filter (fun x=>!p x)++(if p xs[j] then [] else [xs[j]]):=by
      rw [List.take_succ_eq_append_getElem hjl,List.filter_append,List.filter_cons,List.filter_nil]
      cases p xs[j] <;> rfl
    cases hpx:p xs[j] with
    | true =>
      rw [hpx,if_pos rfl,List.append_nil] at ht
      have hn:=fun bs=>ih (j+1) i s bs (by omega) (by omega) hs (by rw [ht];exact h1) hd2
      refine wp_loop ?_
      repeat (first|apply wp_as|apply wp_ss|refine wr (by simp [hs,hjl,hjs,gx,e1,hpx,w1];with_reducible rfl) ?_|refine wq (by simp [hs,hjl,hjs,gx,e1,hpx,w1];with_reducible rfl) ?_|refine wt (by simpa [hs,hjl,hjs,gx,e1,hpx,w1]) ?_|refine wf (by simpa [hs,hjl,hjs,gx,e1,hpx,w1]) ?_|refine xt (by simpa [hs,hjl,hjs,gx,e1,hpx,w1]) ?_|refine xf (by simpa [hs,hjl,hjs,gx,e1,hpx,w1]) ?_|apply wp_bs|apply wp_b|refine wp_sr ?_|refine wp_sx ?_|refine wp_ret' ?_|refine wp_skip' ?_|refine wp_exit' ?_)
      exact hn _
    | false =>
      rw [hpx,if_neg (by simp)] at ht
      have hn:=fun bs=>ih (j+1) (i+1) (s.set i xs[j]) bs (by omega) (by omega) (by simpa using hs) (by
        rw [ht,← h1,List.take_succ_eq_append_getElem (by simpa using hil),List.take_set_of_le (Nat.le_refl _),List.getElem_set_self]) (by
        rw [List.drop_set_of_lt (by omega)];exact hd2)
      refine wp_loop ?_
      repeat (first|apply wp_as|apply wp_ss|refine wr (by simp [hs,hjl,hjs,gx,e1,hpx,w1,w2,hil,hil',eds_set];with_reducible rfl) ?_|refine wq (by simp [hs,hjl,hjs,gx,e1,hpx,w1,w2,hil,hil',eds_set];with_reducible rfl) ?_|refine wt (by simpa [hs,hjl,hjs,gx,e1,hpx,w1,w2,hil,hil',eds_set]) ?_|refine wf (by simpa [hs,hjl,hjs,gx,e1,hpx,w1,w2,hil,hil',eds_set]) ?_|refine xt (by simpa [hs,hjl,hjs,gx,e1,hpx,w1,w2,hil,hil',eds_set]) ?_|refine xf (by simpa [hs,hjl,hjs,gx,e1,hpx,w1,w2,hil,hil',eds_set]) ?_|apply wp_bs|apply wp_b|refine wp_sr ?_|refine wp_sx ?_|refine wp_ret' ?_|refine wp_skip' ?_|refine wp_exit' ?_)
      exact hn _
theorem eds_isSc (xs:List (Int×Int)):((eds xs).all fun x=>x.all IV.isSc)=true:=by
  induction xs with
  | nil=>rfl
  | cons x xs ih=>simp only [eds,List.map_cons,List.all_cons] at *;rw [ih];rfl
theorem ev_DeleteFuncE (xs:List (Int×Int)) (F:Lab) (caps:List IV) (M:List Boxes) (p:Int×Int→Bool) (hl:xs.length≤2000000)
    (hp:∀ bs M' x,x ∈ xs→Ev tb F [] (.agg [I x.1,I x.2]::caps) (M++[bs]++M') ⟨Bo (p x),[],M++[bs]++M',[]⟩) :
    Ev tb zl265 [] [O2 xs,.fn F caps] M ⟨O2 (xs.filter fun x=>!p x),[],M,[]⟩:=by
  have e1:=ev_lim (ev_IndexFuncEL xs F caps (M++[[]]) p hl (fun x hx=>hp [] [[]] x hx))
  rcases idxE_spec p xs 0 with ⟨h1,h2⟩ | ⟨k,hk,h1,h2,h3⟩
  · rw [show ((0:Nat):Int)=0 from rfl] at h1
    rw [h1] at e1
    have hf:(xs.filter fun x=>!p x)=xs:=List.filter_eq_self.2 fun x hx=>by rw [h2 x hx];rfl
    rw [hf]
    refine call_of_wp zt265 rfl ?_
    repeat (first|apply wp_as|apply wp_ss|refine wr (by simp [e1];with_reducible rfl) ?_|refine wq (by simp [e1];with_reducible rfl) ?_|refine wt (by simpa [e1]) ?_|refine wf (by simpa [e1]) ?_|refine xt (by simpa [e1]) ?_|refine xf (by simpa [e1]) ?_|apply wp_bs|apply wp_b|refine wp_sr ?_|refine wp_sx ?_|refine wp_ret' ?_|refine wp_skip' ?_|refine wp_exit' ?_)
    simp [zi265]
  · rw [show ((0:Nat):Int)=0 from rfl,Nat.zero_add] at h1
    rw [h1] at e1
    have hk0:¬ (k:Int)=-1:=by omega
    have w1:IntKind.i64.wrap ((k:Int)+1)=((k+1:Nat):Int):=wrapS (by omega)
    have hlo:=delE_loop xs F caps M p hl (fun bs x hx=>by simpa using hp bs [] x hx) (xs.length - (k+1)) (k+1) k xs [] (by omega) (by omega) rfl (by
      rw [List.take_succ_eq_append_getElem hk,List.filter_append,List.filter_cons,h2]
      simp only [Bool.not_true,Bool.false_eq_true,if_false,List.filter_nil,List.append_nil]
      exact (List.filter_eq_self.2 fun x hx=>by rw [h3 x hx];rfl).symm) rfl
    refine call_of_wp zt265 rfl ?_
    repeat (first|apply wp_as|apply wp_ss|refine wr (by simp [e1,hk0,w1];with_reducible rfl) ?_|refine wq (by simp [e1,hk0,w1];with_reducible rfl) ?_|refine wt (by simpa [e1,hk0,w1]) ?_|refine wf (by simpa [e1,hk0,w1]) ?_|refine xt (by simpa [e1,hk0,w1]) ?_|refine xf (by simpa [e1,hk0,w1]) ?_|apply wp_bs|apply wp_b|refine wp_sr ?_|refine wp_sx ?_|refine wp_ret' ?_|refine wp_skip' ?_|refine wp_exit' ?_)
    refine wp_imp hlo ?_
    rintro ex st ⟨rfl,i,s,bs,⟨k1,k2,k3⟩,rfl⟩
    simp only [if_true]
    have hil:i≤xs.length:=by omega
    have hz:s.drop xs.length=[]:=List.drop_of_length_le (by omega)
    have hti:(s.take i).length=i:=by simp;omega
    have hfl:(xs.filter fun x=>!p x).length=i:=by rw [← k3];exact hti
    generalize (xs.filter fun x=>!p x)=G at *
    have htk:∀ Z:List (List IV),(eds G++Z).take i=eds G:=fun Z=>by
      rw [List.take_append_of_le_length (by rw [eds_len];omega),List.take_of_length_le (by rw [eds_len];omega)]
    repeat (first|apply wp_as|apply wp_ss|refine wr (by simp [k2,hil,↓eds_isSc,hz,k3,hti,hfl,htk];with_reducible rfl) ?_|refine wq (by simp [k2,hil,↓eds_isSc,hz,k3,hti,hfl,htk];with_reducible rfl) ?_|refine wt (by simpa [k2,hil,↓eds_isSc,hz,k3,hti,hfl,htk]) ?_|refine wf (by simpa [k2,hil,↓eds_isSc,hz,k3,hti,hfl,htk]) ?_|refine xt (by simpa [k2,hil,↓eds_isSc,hz,k3,hti,hfl,htk]) ?_|refine xf (by simpa [k2,hil,↓eds_isSc,hz,k3,hti,hfl,htk]) ?_|apply wp_bs|apply wp_b|refine wp_sr ?_|refine wp_sx ?_|refine wp_ret' ?_|refine wp_skip' ?_|refine wp_exit' ?_)
    simp [zi265]
end Go.Idl
namespace Go.Idl
open Go
def apart (a b c d:Int):Bool:=decide (a ≠ b) && decide (a ≠ c) && decide (a ≠ d) && decide (b ≠ c) && decide (b ≠ d) && decide (c ≠ d)
abbrev Sw (a b c d:Int):IV:=.agg [I a,I b,I c,I d]
set_option maxHeartbeats 4000000 in
theorem ev_apart (a b c d:Int) (M:List Boxes):Ev tb zl411 [] [Sw a b c d] M ⟨Bo (apart a b c d),[],M,[]⟩:=by
  by_cases h1:a=b
  · subst h1
    refine call_of_wp zt411 rfl ?_
    repeat (first|apply wp_as|apply wp_ss|refine wr (by simp;with_reducible rfl) ?_|refine wq (by simp;with_reducible rfl) ?_|refine wt (by simpa) ?_|refine wf (by simpa) ?_|refine xt (by simpa) ?_|refine xf (by simpa) ?_|apply wp_bs|apply wp_b|refine wp_sr ?_|refine wp_sx ?_|refine wp_ret' ?_|refine wp_skip' ?_|refine wp_exit' ?_)
    simp [zi411,apart]
  by_cases h2:a=c
  · subst h2
    refine call_of_wp zt411 rfl ?_
    repeat (first|apply wp_as|apply wp_ss|refine wr (by simp [h1];with_reducible rfl) ?_|refine wq (by simp [h1];with_reducible rfl) ?_|refine wt (by simpa [h1]) ?_|refine wf (by simpa [h1]) ?_|refine xt (by simpa [h1]) ?_|refine xf (by simpa [h1]) ?_|apply wp_bs|apply wp_b|refine wp_sr ?_|refine wp_sx ?_|refine wp_ret' ?_|refine wp_skip' ?_|refine wp_exit' ?_)
    simp [zi411,apart,h1]
  by_cases h3:a=d
  · subst h3
    refine call_of_wp zt411 rfl ?_
    repeat (first|apply wp_as|apply wp_ss|refine wr (by simp [h1,h2];with_reducible rfl) ?_|refine wq (by simp [h1,h2];with_reducible rfl) ?_|refine wt (by simpa [h1,h2]) ?_|refine wf (by simpa [h1,h2]) ?_|refine xt (by simpa [h1,h2]) ?_|refine xf (by simpa [h1,h2]) ?_|apply wp_bs|apply wp_b|refine wp_sr ?_|refine wp_sx ?_|refine wp_ret' ?_|refine wp_skip' ?_|refine wp_exit' ?_)
    simp [zi411,apart,h1,h2]
  by_cases h4:b=c
  · subst h4
    refine call_of_wp zt411 rfl ?_
    repeat (first|apply wp_as|apply wp_ss|refine wr (by simp [h1,h2,h3];with_reducible rfl) ?_|refine wq (by simp [h1,h2,h3];with_reducible rfl) ?_|refine wt (by simpa [h1,h2,h3]) ?_|refine wf (by simpa [h1,h2,h3]) ?_|refine xt (by simpa [h1,h2,h3]) ?_|refine xf (by simpa [h1,h2,h3]) ?_|apply wp_bs|apply wp_b|refine wp_sr ?_|refine wp_sx ?_|refine wp_ret' ?_|refine wp_skip' ?_|refine wp_exit' ?_)
    simp [zi411,apart,h1,h2,h3]
  by_cases h5:b=d
  · subst h5
    refine call_of_wp zt411 rfl ?_
    repeat (first|apply wp_as|apply wp_ss|refine wr (by simp [h1,h2,h3,h4];with_reducible rfl) ?_|refine wq (by simp [h1,h2,h3,h4];with_reducible rfl) ?_|refine wt (by simpa [h1,h2,h3,h4]) ?_|refine wf (by simpa [h1,h2,h3,h4]) ?_|refine xt (by simpa [h1,h2,h3,h4]) ?_|refine xf (by simpa [h1,h2,h3,h4]) ?_|apply wp_bs|apply wp_b|refine wp_sr ?_|refine wp_sx ?_|refine wp_ret' ?_|refine wp_skip' ?_|refine wp_exit' ?_)
    simp [zi411,apart,h1,h2,h3,h4]
  by_cases h6:c=d
  · subst h6
    refine call_of_wp zt411 rfl ?_
    repeat (first|apply wp_as|apply wp_ss|refine wr (by simp [h1,h2,h3,h4,h5];with_reducible rfl) ?_|refine wq (by simp [h1,h2,h3,h4,h5];with_reducible rfl) ?_|refine wt (by simpa [h1,h2,h3,h4,h5]) ?_|refine wf (by simpa [h1,h2,h3,h4,h5]) ?_|refine xt (by simpa [h1,h2,h3,h4,h5]) ?_|refine xf (by simpa [h1,h2,h3,h4,h5]) ?_|apply wp_bs|apply wp_b|refine wp_sr ?_|refine wp_sx ?_|refine wp_ret' ?_|refine wp_skip' ?_|refine wp_exit' ?_)
    simp [zi411,apart,h1,h2,h3,h4,h5]
  refine call_of_wp zt411 rfl ?_
  repeat (first|apply wp_as|apply wp_ss|refine wr (by simp [h1,h2,h3,h4,h5,h6];with_reducible rfl) ?_|refine wq (by simp [h1,h2,h3,h4,h5,h6];with_reducible rfl) ?_|refine wt (by simpa [h1,h2,h3,h4,h5,h6]) ?_|refine wf (by simpa [h1,h2,h3,h4,h5,h6]) ?_|refine xt (by simpa [h1,h2,h3,h4,h5,h6]) ?_|refine xf (by simpa [h1,h2,h3,h4,h5,h6]) ?_|apply wp_bs|apply wp_b|refine wp_sr ?_|refine wp_sx ?_|refine wp_ret' ?_|refine wp_skip' ?_|refine wp_exit' ?_)
  simp [zi411,apart,h1,h2,h3,h4,h5,h6]
def gone (a b c d:Int) (x:Int×Int):Bool:=decide (x=(min a b,max a b)) || decide (x=(min c d,max c d))
set_option maxHeartbeats 4000000 in
theorem ev_change_F1 (x:Int×Int) (a b c d:Int) (B:Boxes) (k:Nat) (hB:B[k]? = some [I a,I b,I c,I d]) (Ms:List Boxes):Ev tb zl410 [] [.agg [I x.1,I x.2],.bptr 0 k 0] (B::Ms) ⟨Bo (gone a b c d x),[],B::Ms,[]⟩:=by
  have e1:=fun M=>ev_lim (ev_edge a b M)
  have e2:=fun M=>ev_lim (ev_edge c d M)
  obtain ⟨x1,x2⟩:=x
  have hg:gone a b c d (x1,x2)=(decide (x1=min a b) && decide (x2=max a b) || decide (x1=min c d) && decide (x2=max c d)):=by
    simp [gone]
  rw [hg]
  generalize min a b=p at *
  generalize max a b=q at *
  generalize min c d=r at *
  generalize max c d=s at *
  by_cases h1:x1=p
  · subst h1
    by_cases h2:x2=q
    · subst h2
      refine call_of_wp zt410 rfl ?_
      repeat (first|apply wp_as|apply wp_ss|refine wr (by simp [e1,e2,hB];with_reducible rfl) ?_|refine wq (by simp [e1,e2,hB];with_reducible rfl) ?_|refine wt (by simpa [e1,e2,hB]) ?_|refine wf (by simpa [e1,e2,hB]) ?_|refine xt (by simpa [e1,e2,hB]) ?_|refine xf (by simpa [e1,e2,hB]) ?_|apply wp_bs|apply wp_b|refine wp_sr ?_|refine wp_sx ?_|refine wp_ret' ?_|refine wp_skip' ?_|refine wp_exit' ?_)
      refine wp_ra (by simp [e1,e2,hB];with_reducible rfl) (by simp;with_reducible rfl) ?_ ?_
      · intro p hp
        simp only [List.mem_cons,List.not_mem_nil,or_false] at hp
        rcases hp with rfl | rfl | rfl
        · exact ⟨_,by simp [e1,e2,hB];with_reducible rfl,by simp⟩
        · exact ⟨_,by simp [e1,e2,hB];with_reducible rfl,by simp⟩
        · exact ⟨_,by simp [e1,e2,hB];with_reducible rfl,by simp⟩
      repeat (first|apply wp_as|apply wp_ss|refine wr (by simp;with_reducible rfl) ?_|refine wq (by simp;with_reducible rfl) ?_|refine wt (by simpa) ?_|refine wf (by simpa) ?_|refine xt (by simpa) ?_|refine xf (by simpa) ?_|apply wp_bs|apply wp_b|refine wp_sr ?_|refine wp_sx ?_|refine wp_ret' ?_|refine wp_skip' ?_|refine wp_exit' ?_)
      simp [zi410]
    · by_cases h3:x1=r
      · subst h3
        by_cases h4:x2=s
        · subst h4
          refine call_of_wp zt410 rfl ?_
          repeat (first|apply wp_as|apply wp_ss|refine wr (by simp [e1,e2,hB,h2];with_reducible rfl) ?_|refine wq (by simp [e1,e2,hB,h2];with_reducible rfl) ?_|refine wt (by simpa [e1,e2,hB,h2]) ?_|refine wf (by simpa [e1,e2,hB,h2]) ?_|refine xt (by simpa [e1,e2,hB,h2]) ?_|refine xf (by simpa [e1,e2,hB,h2]) ?_|apply wp_bs|apply wp_b|refine wp_sr ?_|refine wp_sx ?_|refine wp_ret' ?_|refine wp_skip' ?_|refine wp_exit' ?_)
          refine wp_ra (by simp [e1,e2,hB,h2];with_reducible rfl) (by simp;with_reducible rfl) ?_ ?_
          · intro p hp
            simp only [List.mem_cons,List.not_mem_nil,or_false] at hp
            rcases hp with rfl | rfl | rfl
            · exact ⟨_,by simp [e1,e2,hB,h2];with_reducible rfl,by simp⟩
            · exact ⟨_,by simp [e1,e2,hB,h2];with_reducible rfl,by simp⟩
            · exact ⟨_,by simp [e1,e2,hB,h2];with_reducible rfl,by simp⟩
          repeat (first|apply wp_as|apply wp_ss|refine wr (by simp;with_reducible rfl) ?_|refine wq (by simp;with_reducible rfl) ?_|refine wt (by simpa) ?_|refine wf (by simpa) ?_|refine xt (by simpa) ?_|refine xf (by simpa) ?_|apply wp_bs|apply wp_b|refine wp_sr ?_|refine wp_sx ?_|refine wp_ret' ?_|refine wp_skip' ?_|refine wp_exit' ?_)
          simp [zi410,h2]
        · refine call_of_wp zt410 rfl ?_
          repeat (first|apply wp_as|apply wp_ss|refine wr (by simp [e1,e2,hB,h2,h4];with_reducible rfl) ?_|refine wq (by simp [e1,e2,hB,h2,h4];with_reducible rfl) ?_|refine wt (by simpa [e1,e2,hB,h2,h4]) ?_|refine wf (by simpa [e1,e2,hB,h2,h4]) ?_|refine xt (by simpa [e1,e2,hB,h2,h4]) ?_|refine xf (by simpa [e1,e2,hB,h2,h4]) ?_|apply wp_bs|apply wp_b|refine wp_sr ?_|refine wp_sx ?_|refine wp_ret' ?_|refine wp_skip' ?_|refine wp_exit' ?_)
          refine wp_ra (by simp [e1,e2,hB,h2,h4];with_reducible rfl) (by simp;with_reducible rfl) ?_ ?_
          · intro p hp
            simp only [List.mem_cons,List.not_mem_nil,or_false] at hp
            rcases hp with rfl | rfl | rfl
            · exact ⟨_,by simp [e1,e2,hB,h2,h4];with_reducible rfl,by simp⟩
            · exact ⟨_,by simp [e1,e2,hB,h2,h4];with_reducible rfl,by simp⟩
            · exact ⟨_,by simp [e1,e2,hB,h2,h4];with_reducible rfl,by simp⟩
          repeat (first|apply wp_as|apply wp_ss|refine wr (by simp;with_reducible rfl) ?_|refine wq (by simp;with_reducible rfl) ?_|refine wt (by simpa) ?_|refine wf (by simpa) ?_|refine xt (by simpa) ?_|refine xf (by simpa) ?_|apply wp_bs|apply wp_b|refine wp_sr ?_|refine wp_sx ?_|refine wp_ret' ?_|refine wp_skip' ?_|refine wp_exit' ?_)
          simp [zi410,h2,h4]
      · refine call_of_wp zt410 rfl ?_
        repeat (first|apply wp_as|apply wp_ss|refine wr (by simp [e1,e2,hB,h2,h3];with_reducible rfl) ?_|refine wq (by simp [e1,e2,hB,h2,h3];with_reducible rfl) ?_|refine wt (by simpa [e1,e2,hB,h2,h3]) ?_|refine wf (by simpa [e1,e2,hB,h2,h3]) ?_|refine xt (by simpa [e1,e2,hB,h2,h3]) ?_|refine xf (by simpa [e1,e2,hB,h2,h3]) ?_|apply wp_bs|apply wp_b|refine wp_sr ?_|refine wp_sx ?_|refine wp_ret' ?_|refine wp_skip' ?_|refine wp_exit' ?_)
        refine wp_ra (by simp [e1,e2,hB,h2,h3];with_reducible rfl) (by simp;with_reducible rfl) ?_ ?_
        · intro p hp
          simp only [List.mem_cons,List.not_mem_nil,or_false] at hp
          rcases hp with rfl | rfl | rfl
          · exact ⟨_,by simp [e1,e2,hB,h2,h3];with_reducible rfl,by simp⟩
          · exact ⟨_,by simp [e1,e2,hB,h2,h3];with_reducible rfl,by simp⟩
          · exact ⟨_,by simp [e1,e2,hB,h2,h3];with_reducible rfl,by simp⟩
        repeat (first|apply wp_as|apply wp_ss|refine wr (by simp;with_reducible rfl) ?_|refine wq (by simp;with_reducible rfl) ?_|refine wt (by simpa) ?_|refine wf (by simpa) ?_|refine xt (by simpa) ?_|refine xf (by simpa) ?_|apply wp_bs|apply wp_b|refine wp_sr ?_|refine wp_sx ?_|refine wp_ret' ?_|refine wp_skip' ?_|refine wp_exit' ?_)
        simp [zi410,h2,h3]
  · by_cases h3:x1=r
    · subst h3
      by_cases h4:x2=s
      · subst h4
        refine call_of_wp zt410 rfl ?_
        repeat (first|apply wp_as|apply wp_ss|refine wr (by simp [e1,e2,hB,h1];with_reducible rfl) ?_|refine wq (by simp [e1,e2,hB,h1];with_reducible rfl) ?_|refine wt (by simpa [e1,e2,hB,h1]) ?_|refine wf (by simpa [e1,e2,hB,h1]) ?_|refine xt (by simpa [e1,e2,hB,h1]) ?_|refine xf (by simpa [e1,e2,hB,h1]) ?_|apply wp_bs|apply wp_b|refine wp_sr ?_|refine wp_sx ?_|refine wp_ret' ?_|refine wp_skip' ?_|refine wp_exit' ?_)
        refine wp_ra (by simp [e1,e2,hB,h1];with_reducible rfl) (by simp;with_reducible rfl) ?_ ?_
        · intro p hp
          simp only [List.mem_cons,List.not_mem_nil,or_false] at hp
          rcases hp with rfl | rfl | rfl
          · exact ⟨_,by simp [e1,e2,hB,h1];with_reducible rfl,by simp⟩
          · exact ⟨_,by simp [e1,e2,hB,h1];with_reducible rfl,by simp⟩
          · exact ⟨_,by simp [e1,e2,hB,h1];with_reducible rfl,by simp⟩
        repeat (first|apply wp_as|apply wp_ss|refine wr (by simp;with_reducible rfl) ?_|refine wq (by simp;with_reducible rfl) ?_|refine wt (by simpa) ?_|refine wf (by simpa) ?_|refine xt (by simpa) ?_|refine xf (by simpa) ?_|apply wp_bs|apply wp_b|refine wp_sr ?_|refine wp_sx ?_|refine wp_ret' ?_|refine wp_skip' ?_|refine wp_exit' ?_)
        simp [zi410,h1]
      · refine call_of_wp zt410 rfl ?_
        repeat (first|apply wp_as|apply wp_ss|refine wr (by simp [e1,e2,hB,h1,h4];with_reducible rfl) ?_|refine wq (by simp [e1,e2,hB,h1,h4];with_reducible rfl) ?_|refine wt (by simpa [e1,e2,hB,h1,h4]) ?_|refine wf (by simpa [e1,e2,hB,h1,h4]) ?_|refine xt (by simpa [e1,e2,hB,h1,h4]) ?_|refine xf (by simpa [e1,e2,hB,h1,h4]) ?_|apply wp_bs|apply wp_b|refine wp_sr ?_|refine wp_sx ?_|refine wp_ret' ?_|refine wp_skip' ?_|refine wp_exit' ?_)
        refine wp_ra (by simp [e1,e2,hB,h1,h4];with_reducible rfl) (by simp;with_reducible rfl) ?_ ?_
        · intro p hp
          simp only [List.mem_cons,List.not_mem_nil,or_false] at hp
          rcases hp with rfl | rfl | rfl
          · exact ⟨_,by simp [e1,e2,hB,h1,h4];with_reducible rfl,by simp⟩
          · exact ⟨_,by simp [e1,e2,hB,h1,h4];with_reducible rfl,by simp⟩
          · exact ⟨_,by simp [e1,e2,hB,h1,h4];with_reducible rfl,by simp⟩
        repeat (first|apply wp_as|apply wp_ss|refine wr (by simp;with_reducible rfl) ?_|refine wq (by simp;with_reducible rfl) ?_|refine wt (by simpa) ?_|refine wf (by simpa) ?_|refine xt (by simpa) ?_|refine xf (by simpa) ?_|apply wp_bs|apply wp_b|refine wp_sr ?_|refine wp_sx ?_|refine wp_ret' ?_|refine wp_skip' ?_|refine wp_exit' ?_)
        simp [zi410,h1,h4]
    · refine call_of_wp zt410 rfl ?_
      repeat (first|apply wp_as|apply wp_ss|refine wr (by simp [e1,e2,hB,h1,h3];with_reducible rfl) ?_|refine wq (by simp [e1,e2,hB,h1,h3];with_reducible rfl) ?_|refine wt (by simpa [e1,e2,hB,h1,h3]) ?_|refine wf (by simpa [e1,e2,hB,h1,h3]) ?_|refine xt (by simpa [e1,e2,hB,h1,h3]) ?_|refine xf (by simpa [e1,e2,hB,h1,h3]) ?_|apply wp_bs|apply wp_b|refine wp_sr ?_|refine wp_sx ?_|refine wp_ret' ?_|refine wp_skip' ?_|refine wp_exit' ?_)
      refine wp_ra (by simp [e1,e2,hB,h1,h3];with_reducible rfl) (by simp;with_reducible rfl) ?_ ?_
      · intro p hp
        simp only [List.mem_cons,List.not_mem_nil,or_false] at hp
        rcases hp with rfl | rfl | rfl
        · exact ⟨_,by simp [e1,e2,hB,h1,h3];with_reducible rfl,by simp⟩
        · exact ⟨_,by simp [e1,e2,hB,h1,h3];with_reducible rfl,by simp⟩
        · exact ⟨_,by simp [e1,e2,hB,h1,h3];with_reducible rfl,by simp⟩
      repeat (first|apply wp_as|apply wp_ss|refine wr (by simp;with_reducible rfl) ?_|refine wq (by simp;with_reducible rfl) ?_|refine wt (by simpa) ?_|refine wf (by simpa) ?_|refine xt (by simpa) ?_|refine xf (by simpa) ?_|apply wp_bs|apply wp_b|refine wp_sr ?_|refine wp_sx ?_|refine wp_ret' ?_|refine wp_skip' ?_|refine wp_exit' ?_)
      simp [zi410,h1,h3]
end Go.Idl
namespace Go.Idl
open Go
def swX (es:List (Int×Int)) (a b c d:Int):List (Int×Int):=es.filter (fun x=>!gone a b c d x)++[(min a c,max a c),(min b d,max b d)]
def sw (es:List (Int×Int)) (a b c d:Int):List (Int×Int):=srtE (swX es a b c d)
def mayI (es:List (Int×Int)) (a b c d:Int):Bool:=apart a b c d && hasM es a b && hasM es c d && !hasM es a c && !hasM es b d
theorem hasM_iff {es:List (Int×Int)} {a b:Int}:hasM es a b=true ↔ (min a b,max a b) ∈ es:=by
  simp [hasM]
theorem hasM_no {es:List (Int×Int)} {a b:Int}:hasM es a b=false ↔ (min a b,max a b) ∉ es:=by
  rw [← hasM_iff];simp
theorem mayI_iff {es:List (Int×Int)} {a b c d:Int}:mayI es a b c d=true ↔ (a ≠ b∧a ≠ c∧a ≠ d∧b ≠ c∧b ≠ d∧c ≠ d)∧(min a b,max a b) ∈ es∧(min c d,max c d) ∈ es∧(min a c,max a c) ∉ es∧(min b d,max b d) ∉ es:=by
  rw [mayI]
  simp only [Bool.and_eq_true,Bool.not_eq_true',apart,decide_eq_true_eq,hasM_iff,hasM_no,and_assoc]
theorem vG21 {n:Nat} (hn:n≤7) {es:List (Int×Int)} (h:vGraph n es=true):es.length≤21:=by
  have h1:=(vG_sub h).length_le
  have h2:∀ n,n≤7→(prs n).length≤21:=by decide +kernel
  have:=h2 _ hn
  omega
theorem swX_ok {n:Nat} {es:List (Int×Int)} {a b c d:Int} (h:vGraph n es=true) (hm:mayI es a b c d=true) :
    (swX es a b c d).Nodup∧(∀ e ∈ swX es a b c d,e ∈ prs n)∧vGraph n (sw es a b c d)=true∧(swX es a b c d).length≤21:=by
  obtain ⟨h1,h2,h3⟩:=vG_iff.1 h
  obtain ⟨⟨k1,k2,k3,k4,k5,k6⟩,m1,m2,m3,m4⟩:=mayI_iff.1 hm
  have p1:=mem_prs.1 (h2 _ m1)
  have p2:=mem_prs.1 (h2 _ m2)
  have hn:(swX es a b c d).Nodup:=by
    refine List.nodup_append.2 ⟨(pw_nodup h1).filter _,?_,?_⟩
    · simp only [List.nodup_cons,List.mem_singleton,List.not_mem_nil,not_false_eq_true,List.nodup_nil,and_true,Prod.mk.injEq]
      omega
    · intro x hx y hy hxy
      subst hxy
      have hx:=(List.mem_filter.1 hx).1
      simp only [List.mem_cons,List.not_mem_nil,or_false] at hy
      rcases hy with rfl | rfl
      · exact m3 hx
      · exact m4 hx
  have hp:∀ e ∈ swX es a b c d,e ∈ prs n:=fun e he=>by
    rcases List.mem_append.1 he with he | he
    · exact h2 _ (List.mem_filter.1 he).1
    · simp only [List.mem_cons,List.not_mem_nil,or_false] at he
      simp only at p1 p2
      rcases he with rfl | rfl
      · exact mem_prs.2 (by simp only;omega)
      · exact mem_prs.2 (by simp only;omega)
  have hv:vGraph n (sw es a b c d)=true:=vG_iff.2 ⟨srtE_pw hn,fun e he=>hp e ((srtE_perm _).mem_iff.1 he),h3⟩
  refine ⟨hn,hp,hv,?_⟩
  have:=vG21 h3 hv
  rw [sw,(srtE_perm _).length_eq] at this
  exact this
abbrev OS (n:Nat) (es:List (Int×Int)) (a b c d:Int):IV:=if mayI es a b c d then .tup [OG n (sw es a b c d),Bo true] else .tup [.agg [I 0,Z],Bo false]
set_option maxHeartbeats 4000000 in
theorem ev_change (n:Nat) (es:List (Int×Int)) (cc:Bool) (a b c d:Int) (hv:vGraph n es=true):Ev tb zl167 [] [Gr n es cc,Sw a b c d] [] ⟨OS n es a b c d,[],[],[]⟩:=by
  have hn7:=(vG_iff.1 hv).2.2
  have h21:=vG21 hn7 hv
  have ea:=fun M=>ev_lim (ev_apart a b c d M)
  have eh:=fun c' a b M=>ev_lim (ev_has n 2 es c' a b (.inl rfl) (by omega) M)
  cases h1:apart a b c d with
  | false =>
    have hm:mayI es a b c d=false:=by simp [mayI,h1]
    rw [OS,hm]
    refine call_of_wp zt167 rfl ?_
    repeat (first|apply wp_as|apply wp_ss|refine wr (by simp [ea,eh,h1];with_reducible rfl) ?_|refine wq (by simp [ea,eh,h1];with_reducible rfl) ?_|refine wt (by simpa [ea,eh,h1]) ?_|refine wf (by simpa [ea,eh,h1]) ?_|refine xt (by simpa [ea,eh,h1]) ?_|refine xf (by simpa [ea,eh,h1]) ?_|apply wp_bs|apply wp_b|refine wp_sr ?_|refine wp_sx ?_|refine wp_ret' ?_|refine wp_skip' ?_|refine wp_exit' ?_)
    simp [zi167]
  | true =>
  cases h2:hasM es a b with
  | false =>
    have hm:mayI es a b c d=false:=by simp [mayI,h2]
    rw [OS,hm]
    refine call_of_wp zt167 rfl ?_
    repeat (first|apply wp_as|apply wp_ss|refine wr (by simp [ea,eh,h1,h2];with_reducible rfl) ?_|refine wq (by simp [ea,eh,h1,h2];with_reducible rfl) ?_|refine wt (by simpa [ea,eh,h1,h2]) ?_|refine wf (by simpa [ea,eh,h1,h2]) ?_|refine xt (by simpa [ea,eh,h1,h2]) ?_|refine xf (by simpa [ea,eh,h1,h2]) ?_|apply wp_bs|apply wp_b|refine wp_sr ?_|refine wp_sx ?_|refine wp_ret' ?_|refine wp_skip' ?_|refine wp_exit' ?_)
    simp [zi167]
  | true =>
  cases h3:hasM es c d with
  | false =>
    have hm:mayI es a b c d=false:=by simp [mayI,h3]
    rw [OS,hm]
    refine call_of_wp zt167 rfl ?_
    repeat (first|apply wp_as|apply wp_ss|refine wr (by simp [ea,eh,h1,h2,h3];with_reducible rfl) ?_|refine wq (by simp [ea,eh,h1,h2,h3];with_reducible rfl) ?_|refine wt (by simpa [ea,eh,h1,h2,h3]) ?_|refine wf (by simpa [ea,eh,h1,h2,h3]) ?_|refine xt (by simpa [ea,eh,h1,h2,h3]) ?_|refine xf (by simpa [ea,eh,h1,h2,h3]) ?_|apply wp_bs|apply wp_b|refine wp_sr ?_|refine wp_sx ?_|refine wp_ret' ?_|refine wp_skip' ?_|refine wp_exit' ?_)
    simp [zi167]
  | true =>
  cases h4:hasM es a c with
  | true =>
    have hm:mayI es a b c d=false:=by simp [mayI,h4]
    rw [OS,hm]
    refine call_of_wp zt167 rfl ?_
    repeat (first|apply wp_as|apply wp_ss|refine wr (by simp [ea,eh,h1,h2,h3,h4];with_reducible rfl) ?_|refine wq (by simp [ea,eh,h1,h2,h3,h4];with_reducible rfl) ?_|refine wt (by simpa [ea,eh,h1,h2,h3,h4]) ?_|refine wf (by simpa [ea,eh,h1,h2,h3,h4]) ?_|refine xt (by simpa [ea,eh,h1,h2,h3,h4]) ?_|refine xf (by simpa [ea,eh,h1,h2,h3,h4]) ?_|apply wp_bs|apply wp_b|refine wp_sr ?_|refine wp_sx ?_|refine wp_ret' ?_|refine wp_skip' ?_|refine wp_exit' ?_)
    simp [zi167]
  | false =>
  cases h5:hasM es b d with
  | true =>
    have hm:mayI es a b c d=false:=by simp [mayI,h5]
    rw [OS,hm]
    refine call_of_wp zt167 rfl ?_
    repeat (first|apply wp_as|apply wp_ss|refine wr (by simp [ea,eh,h1,h2,h3,h4,h5];with_reducible rfl) ?_|refine wq (by simp [ea,eh,h1,h2,h3,h4,h5];with_reducible rfl) ?_|refine wt (by simpa [ea,eh,h1,h2,h3,h4,h5]) ?_|refine wf (by simpa [ea,eh,h1,h2,h3,h4,h5]) ?_|refine xt (by simpa [ea,eh,h1,h2,h3,h4,h5]) ?_|refine xf (by simpa [ea,eh,h1,h2,h3,h4,h5]) ?_|apply wp_bs|apply wp_b|refine wp_sr ?_|refine wp_sx ?_|refine wp_ret' ?_|refine wp_skip' ?_|refine wp_exit' ?_)
    simp [zi167]
  | false =>
  have hm:mayI es a b c d=true:=by simp [mayI,h1,h2,h3,h4,h5]
  obtain ⟨q1,q2,q3,q4⟩:=swX_ok hv hm
  rw [OS,hm]
  have ec:=fun c'=>ev_lim (ev_Clone2 2 es c' (.inl rfl) (by omega))
  have ed:=ev_lim (ev_DeleteFuncE es zl410 [.bptr 0 1 0] [[[I n,L2 es cc],[I a,I b,I c,I d],[I 0,Z]]] (gone a b c d) (by omega) (fun bs M' x _=>ev_change_F1 x a b c d _ 1 rfl _))
  have ee:=fun a b M=>ev_lim (ev_edge a b M)
  have em:=fun c'=>ev_lim (ev_made n 2 (swX es a b c d) c' (.inl rfl) (fun x hx=>by have:=mem_prs.1 (q2 x hx);simp only [DE];omega) q1 q4)
  have hf:Fit (sw es a b c d):=fun e he=>by have:=mem_prs.1 ((vG_iff.1 q3).2.1 e he);omega
  have hl:(sw es a b c d).length≤21:=vG21 hn7 q3
  have ev:=fun c'=>ev_lim (ev_ValidGraph n (sw es a b c d) c' hf (by omega))
  rw [q3] at ev
  rw [show srtE (swX es a b c d)=sw es a b c d from rfl] at em
  simp only [swX] at em
  have hG:(es.filter (fun x=>!gone a b c d x)).length≤274877906942:=by have:=List.length_filter_le (fun x=>!gone a b c d x) es;omega
  generalize sw es a b c d=R at *
  generalize es.filter (fun x=>!gone a b c d x)=G at *
  have hT:frzLL (List.take (G.length+2) (eds G++[[I (min a c),I (max a c)],[I (min b d),I (max b d)]]))=eds (G++[(min a c,max a c),(min b d,max b d)]):=by
    rw [List.take_of_length_le (by simp),← frz_eds (G++[(min a c,max a c),(min b d,max b d)]),← eds_app]
    rfl
  refine call_of_wp zt167 rfl ?_
  repeat (first|apply wp_as|apply wp_ss|refine wr (by simp [ea,eh,h1,h2,h3,h4,h5,ec,ed];with_reducible rfl) ?_|refine wq (by simp [ea,eh,h1,h2,h3,h4,h5,ec,ed];with_reducible rfl) ?_|refine wt (by simpa [ea,eh,h1,h2,h3,h4,h5,ec,ed]) ?_|refine wf (by simpa [ea,eh,h1,h2,h3,h4,h5,ec,ed]) ?_|refine xt (by simpa [ea,eh,h1,h2,h3,h4,h5,ec,ed]) ?_|refine xf (by simpa [ea,eh,h1,h2,h3,h4,h5,ec,ed]) ?_|apply wp_bs|apply wp_b|refine wp_sr ?_|refine wp_sx ?_|refine wp_ret' ?_|refine wp_skip' ?_|refine wp_exit' ?_)
  refine wp_rds rfl (by simp [ee,em,hG,hT];with_reducible rfl) (by simp;with_reducible rfl) ?_ ?_
  · intro p hp
    simp only [List.mem_cons,List.not_mem_nil,or_false] at hp
    rcases hp with rfl | rfl | rfl | rfl | rfl | rfl | rfl | rfl | rfl | rfl | rfl
    · exact ⟨_,by simp [ee,em,hG,hT];with_reducible rfl,by simp⟩
    · exact ⟨_,by simp [ee,em,hG,hT];with_reducible rfl,by simp⟩
    · exact ⟨_,by simp [ee,em,hG,hT];with_reducible rfl,by simp⟩
    · exact ⟨_,by simp [ee,em,hG,hT];with_reducible rfl,by simp⟩
    · exact ⟨_,by simp [ee,em,hG,hT];with_reducible rfl,by simp⟩
    · exact ⟨_,by simp [ee,em,hG,hT];with_reducible rfl,by simp⟩
    · exact ⟨_,by simp [ee,em,hG,hT];with_reducible rfl,by simp⟩
    · exact ⟨_,by simp [ee,em,hG,hT];with_reducible rfl,by simp⟩
    · exact ⟨_,by simp [ee,em,hG,hT];with_reducible rfl,by simp⟩
    · exact ⟨_,by simp [ee,em,hG,hT];with_reducible rfl,by simp⟩
    · exact ⟨_,by simp [ee,em,hG,hT];with_reducible rfl,by simp⟩
  repeat (first|apply wp_as|apply wp_ss|refine wr (by simp [ev];with_reducible rfl) ?_|refine wq (by simp [ev];with_reducible rfl) ?_|refine wt (by simpa [ev]) ?_|refine wf (by simpa [ev]) ?_|refine xt (by simpa [ev]) ?_|refine xf (by simpa [ev]) ?_|apply wp_bs|apply wp_b|refine wp_sr ?_|refine wp_sx ?_|refine wp_ret' ?_|refine wp_skip' ?_|refine wp_exit' ?_)
  refine wp_ra (by simp [ev];with_reducible rfl) (by simp;with_reducible rfl) ?_ ?_
  · intro p hp
    simp only [List.mem_cons,List.not_mem_nil,or_false] at hp
    subst hp
    exact ⟨_,by simp [ev];with_reducible rfl,by simp⟩
  repeat (first|apply wp_as|apply wp_ss|refine wr (by simp;with_reducible rfl) ?_|refine wq (by simp;with_reducible rfl) ?_|refine wt (by simpa) ?_|refine wf (by simpa) ?_|refine xt (by simpa) ?_|refine xf (by simpa) ?_|apply wp_bs|apply wp_b|refine wp_sr ?_|refine wp_sx ?_|refine wp_ret' ?_|refine wp_skip' ?_|refine wp_exit' ?_)
  simp [zi167]
end Go.Idl
namespace Go.Idl
open Go
def mayS (es:List (Int×Int)) (a b c d:Int):Bool:=decide (a ≠ c) && decide (b ≠ d) && decide (a ≠ d) && decide (b ≠ c) && has es a b && has es c d && !has es a c && !has es b d
end Go.Idl
namespace Go.Idl
open Go
structure SmallG (n:Int) (es:List (Int×Int)):Prop where
  n1:-1≤n
  n2:n≤8
  len:es.length≤60
  el:∀ e ∈ es,-1≤e.1∧e.1≤8∧-1≤e.2∧e.2≤8
theorem SmallG.fit {n es} (h:SmallG n es):Fit es:=fun e he=>by have:=h.el e he;omega
end Go.Idl
namespace Go.Idl
open Go
abbrev Q4:=Int×Int×Int×Int
def sws (xs:List Q4):List (List IV):=xs.map fun s=>[I s.1,I s.2.1,I s.2.2.1,I s.2.2.2]
abbrev O4 (xs:List Q4):IV:=.own 4 (sws xs)
@[simp] theorem sws_len (xs:List Q4):(sws xs).length=xs.length:=by simp [sws]
@[simp] theorem sws_nil:sws []=[]:=rfl
@[simp] theorem sws_take (xs:List Q4) (n:Nat):(sws xs).take n=sws (xs.take n):=by simp [sws,List.map_take]
@[simp] theorem sws_drop (xs:List Q4) (n:Nat):(sws xs).drop n=sws (xs.drop n):=by simp [sws,List.map_drop]
@[simp] theorem sws_one (xs:List Q4) (a b c d:Int):sws xs++[[IV.sc (.int .i64 a),IV.sc (.int .i64 b),IV.sc (.int .i64 c),IV.sc (.int .i64 d)]]=sws (xs++[(a,b,c,d)]):=by simp [sws]
@[simp] theorem sws_get (xs:List Q4) (i:Nat) (h:i < (sws xs).length):(sws xs)[i]=[IV.sc (.int .i64 (xs[i]'(by simpa [sws] using h)).1),IV.sc (.int .i64 (xs[i]'(by simpa [sws] using h)).2.1),IV.sc (.int .i64 (xs[i]'(by simpa [sws] using h)).2.2.1),IV.sc (.int .i64 (xs[i]'(by simpa [sws] using h)).2.2.2)]:=by simp [sws]
@[simp] theorem sws_get? (xs:List Q4) (i:Nat):(sws xs)[i]? = xs[i]?.map fun s=>[IV.sc (.int .i64 s.1),IV.sc (.int .i64 s.2.1),IV.sc (.int .i64 s.2.2.1),IV.sc (.int .i64 s.2.2.2)]:=by simp [sws]
@[simp] theorem sws_all1 (xs:List Q4):((sws xs).all fun x=>x.all IV.plain1)=true:=by
  induction xs with
  | nil=>rfl
  | cons x xs ih=>simp only [sws,List.map_cons,List.all_cons] at *;rw [ih];rfl
@[simp] theorem sws_all2 (xs:List Q4):((sws xs).all fun x=>x.all IV.isData)=true:=by
  induction xs with
  | nil=>rfl
  | cons x xs ih=>simp only [sws,List.map_cons,List.all_cons] at *;rw [ih];rfl
@[simp] theorem sws_noLst (xs:List Q4):noLstLL (sws xs)=true:=by
  induction xs with
  | nil=>rfl
  | cons x xs ih=>simp only [sws,List.map_cons,noLstLL,noLstL,noLstV] at *;rw [ih];rfl
@[simp] theorem frz_sws (xs:List Q4):frzLL (sws xs)=sws xs:=by
  induction xs with
  | nil=>rfl
  | cons x xs ih=>simp only [sws,List.map_cons,frzLL,frzL,frzV] at *;rw [ih]
def row2 (es:List (Int×Int)) (e f:Int×Int):List Q4 :=
  (if mayS es e.1 e.2 f.1 f.2=true then [(e.1,e.2,f.1,f.2)] else [])++(if mayS es e.1 e.2 f.2 f.1=true then [(e.1,e.2,f.2,f.1)] else [])
theorem row2_len (es:List (Int×Int)) (e f:Int×Int):(row2 es e f).length≤2:=by
  simp only [row2,List.length_append];split <;> split <;> simp
theorem row2s_len (es:List (Int×Int)) (e:Int×Int):∀ r:List (Int×Int),(r.flatMap (row2 es e)).length≤2 * r.length
  | []=>by simp
  | f::r=>by
    have h1:=row2_len es e f
    have h2:=row2s_len es e r
    simp only [List.flatMap_cons,List.length_append,List.length_cons];omega
def swl (es:List (Int×Int)):List (Int×Int)→List Q4
  | []=>[]
  | e::r=>r.flatMap (row2 es e)++swl es r
end Go.Idl
namespace Go.Idl
open Go
def VE (es:List (Int×Int)) (x:IV):Prop:=(∃ c,x=L2 es c) ∨ (es=[]∧x=Z)
theorem ev_equalEdges_L (xs ys:List (Int×Int)) (c d:Bool) (hl:xs.length≤2000000) (hm:ys.length≤2000000):Ev tb zl237 [] [L2 xs c,L2 ys d] [] ⟨Bo (decide (xs=ys)),[],[],[]⟩:=by
  by_cases he:xs.length=ys.length
  · have loop:∀ (m i:Nat),i+m=xs.length→wp tb (.loop z237l8) { T:=[(0,L2 xs c),(1,L2 ys d),(5,I i)],loc:=[],M:=[] }
      (fun ex st=>(ex=.exit 0∧xs.drop i=ys.drop i∧st={ T:=[(0,L2 xs c),(1,L2 ys d),(5,I xs.length),(14,Bo false)],loc:=[],M:=[] }) ∨
        ex=.ret∧xs.drop i ≠ ys.drop i∧st={ T:=[(4,Bo false)],loc:=[],M:=[] }):=by
      intro m
      induction m with
      | zero =>
        intro i hi
        have h2:xs.drop i=[]:=List.drop_of_length_le (by omega)
        have h3:i=xs.length:=hi
        subst h3
        have hf:¬ xs.length < ys.length:=by omega
        refine wp_loop ?_
        repeat (first|apply wp_as|apply wp_ss|refine wr (by simp [he];with_reducible rfl) ?_|refine wq (by simp [he];with_reducible rfl) ?_|refine wt (by simpa [he]) ?_|refine wf (by simpa [he]) ?_|refine xt (by simpa [he]) ?_|refine xf (by simpa [he]) ?_|apply wp_bs|apply wp_b|refine wp_sr ?_|refine wp_sx ?_|refine wp_ret' ?_|refine wp_skip' ?_|refine wp_exit' ?_)
        refine .inl ⟨rfl,?_,by simp [he]⟩
        rw [h2,he,List.drop_length]
      | succ m ih =>
        intro i hi
        have hix:i < xs.length:=by omega
        have hiy:i < ys.length:=by omega
        have w2:IntKind.i64.wrap ((i:Int)+1)=((i+1:Nat):Int):=wrapS (by omega)
        rw [List.drop_eq_getElem_cons hix,List.drop_eq_getElem_cons hiy]
        generalize hx:xs[i]=a
        generalize hy:ys[i]=b
        obtain ⟨a1,a2⟩:=a
        obtain ⟨b1,b2⟩:=b
        have gx:(eds xs)[i]'(by simpa using hix)=[I a1,I a2]:=by simp [eds,hx]
        have gy:(eds ys)[i]'(by simpa using hiy)=[I b1,I b2]:=by simp [eds,hy]
        by_cases h1:a1=b1
        · by_cases h2:a2=b2
          · refine wp_loop ?_
            repeat (first|apply wp_as|apply wp_ss|refine wr (by simp [hix,hiy,gx,gy,h1,h2,w2];with_reducible rfl) ?_|refine wq (by simp [hix,hiy,gx,gy,h1,h2,w2];with_reducible rfl) ?_|refine wt (by simpa [hix,hiy,gx,gy,h1,h2,w2]) ?_|refine wf (by simpa [hix,hiy,gx,gy,h1,h2,w2]) ?_|refine xt (by simpa [hix,hiy,gx,gy,h1,h2,w2]) ?_|refine xf (by simpa [hix,hiy,gx,gy,h1,h2,w2]) ?_|apply wp_bs|apply wp_b|refine wp_sr ?_|refine wp_sx ?_|refine wp_ret' ?_|refine wp_skip' ?_|refine wp_exit' ?_)
            refine wp_imp (ih (i+1) (by omega)) ?_
            rintro ex st (⟨rfl,h5,rfl⟩ | ⟨rfl,h5,rfl⟩)
            · exact .inl ⟨rfl,by rw [h1,h2,h5],rfl⟩
            · exact .inr ⟨rfl,by simp [h1,h2,h5],rfl⟩
          · refine wp_loop ?_
            repeat (first|apply wp_as|apply wp_ss|refine wr (by simp [hix,hiy,gx,gy,h1,h2,w2];with_reducible rfl) ?_|refine wq (by simp [hix,hiy,gx,gy,h1,h2,w2];with_reducible rfl) ?_|refine wt (by simpa [hix,hiy,gx,gy,h1,h2,w2]) ?_|refine wf (by simpa [hix,hiy,gx,gy,h1,h2,w2]) ?_|refine xt (by simpa [hix,hiy,gx,gy,h1,h2,w2]) ?_|refine xf (by simpa [hix,hiy,gx,gy,h1,h2,w2]) ?_|apply wp_bs|apply wp_b|refine wp_sr ?_|refine wp_sx ?_|refine wp_ret' ?_|refine wp_skip' ?_|refine wp_exit' ?_)
            exact .inr ⟨rfl,by simp [h1,h2],rfl⟩
        · refine wp_loop ?_
          repeat (first|apply wp_as|apply wp_ss|refine wr (by simp [hix,hiy,gx,gy,h1,w2];with_reducible rfl) ?_|refine wq (by simp [hix,hiy,gx,gy,h1,w2];with_reducible rfl) ?_|refine wt (by simpa [hix,hiy,gx,gy,h1,w2]) ?_|refine wf (by simpa [hix,hiy,gx,gy,h1,w2]) ?_|refine xt (by simpa [hix,hiy,gx,gy,h1,w2]) ?_|refine xf (by simpa [hix,hiy,gx,gy,h1,w2]) ?_|apply wp_bs|apply wp_b|refine wp_sr ?_|refine wp_sx ?_|refine wp_ret' ?_|refine wp_skip' ?_|refine wp_exit' ?_)
          exact .inr ⟨rfl,by simp [h1],rfl⟩
    refine call_of_wp zt237 rfl ?_
    repeat (first|apply wp_as|apply wp_ss|refine wr (by simp [he];with_reducible rfl) ?_|refine wq (by simp [he];with_reducible rfl) ?_|refine wt (by simpa [he]) ?_|refine wf (by simpa [he]) ?_|refine xt (by simpa [he]) ?_|refine xf (by simpa [he]) ?_|apply wp_bs|apply wp_b|refine wp_sr ?_|refine wp_sx ?_|refine wp_ret' ?_|refine wp_skip' ?_|refine wp_exit' ?_)
    refine wp_imp (loop xs.length 0 (by simp)) ?_
    rintro ex st (⟨rfl,h5,rfl⟩ | ⟨rfl,h5,rfl⟩)
    · simp only [if_true]
      repeat (first|apply wp_as|apply wp_ss|refine wr (by simp;with_reducible rfl) ?_|refine wq (by simp;with_reducible rfl) ?_|refine wt (by simpa) ?_|refine wf (by simpa) ?_|refine xt (by simpa) ?_|refine xf (by simpa) ?_|apply wp_bs|apply wp_b|refine wp_sr ?_|refine wp_sx ?_|refine wp_ret' ?_|refine wp_skip' ?_|refine wp_exit' ?_)
      simp only [List.drop_zero] at h5
      simp [zi237,h5]
    · simp only [List.drop_zero] at h5
      simp [zi237,h5]
  · have h5:xs ≠ ys:=fun h=>he (by rw [h])
    have he':((xs.length:Int) != ys.length)=true:=by simp;omega
    refine call_of_wp zt237 rfl ?_
    repeat (first|apply wp_as|apply wp_ss|refine wr (by simp [he,he'];with_reducible rfl) ?_|refine wq (by simp [he,he'];with_reducible rfl) ?_|refine wt (by simpa [he,he']) ?_|refine wf (by simpa [he,he']) ?_|refine xt (by simpa [he,he']) ?_|refine xf (by simpa [he,he']) ?_|apply wp_bs|apply wp_b|refine wp_sr ?_|refine wp_sx ?_|refine wp_ret' ?_|refine wp_skip' ?_|refine wp_exit' ?_)
    simp [zi237,h5]
theorem ev_equalEdges (xs ys:List (Int×Int)) (x y:IV) (hx:VE xs x) (hy:VE ys y) (hl:xs.length≤2000000) (hm:ys.length≤2000000):Ev tb zl237 [] [x,y] [] ⟨Bo (decide (xs=ys)),[],[],[]⟩:=by
  rcases hx with ⟨c,rfl⟩ | ⟨rfl,rfl⟩
  · rcases hy with ⟨d,rfl⟩ | ⟨rfl,rfl⟩
    · exact ev_equalEdges_L xs ys c d hl hm
    · cases xs with
      | nil =>
        refine call_of_wp zt237 rfl ?_
        repeat (first|apply wp_as|apply wp_ss|refine wr (by simp;with_reducible rfl) ?_|refine wq (by simp;with_reducible rfl) ?_|refine wt (by simpa) ?_|refine wf (by simpa) ?_|refine xt (by simpa) ?_|refine xf (by simpa) ?_|apply wp_bs|apply wp_b|refine wp_sr ?_|refine wp_sx ?_|refine wp_ret' ?_|refine wp_skip' ?_|refine wp_exit' ?_)
        refine wp_loop ?_
        repeat (first|apply wp_as|apply wp_ss|refine wr (by simp;with_reducible rfl) ?_|refine wq (by simp;with_reducible rfl) ?_|refine wt (by simpa) ?_|refine wf (by simpa) ?_|refine xt (by simpa) ?_|refine xf (by simpa) ?_|apply wp_bs|apply wp_b|refine wp_sr ?_|refine wp_sx ?_|refine wp_ret' ?_|refine wp_skip' ?_|refine wp_exit' ?_)
        simp [zi237]
      | cons a xs =>
        have h0:¬ (xs.length:Int)+1=0:=by omega
        refine call_of_wp zt237 rfl ?_
        repeat (first|apply wp_as|apply wp_ss|refine wr (by simp [h0];with_reducible rfl) ?_|refine wq (by simp [h0];with_reducible rfl) ?_|refine wt (by simpa [h0]) ?_|refine wf (by simpa [h0]) ?_|refine xt (by simpa [h0]) ?_|refine xf (by simpa [h0]) ?_|apply wp_bs|apply wp_b|refine wp_sr ?_|refine wp_sx ?_|refine wp_ret' ?_|refine wp_skip' ?_|refine wp_exit' ?_)
        simp [zi237]
  · rcases hy with ⟨d,rfl⟩ | ⟨rfl,rfl⟩
    · cases ys with
      | nil =>
        refine call_of_wp zt237 rfl ?_
        repeat (first|apply wp_as|apply wp_ss|refine wr (by simp;with_reducible rfl) ?_|refine wq (by simp;with_reducible rfl) ?_|refine wt (by simpa) ?_|refine wf (by simpa) ?_|refine xt (by simpa) ?_|refine xf (by simpa) ?_|apply wp_bs|apply wp_b|refine wp_sr ?_|refine wp_sx ?_|refine wp_ret' ?_|refine wp_skip' ?_|refine wp_exit' ?_)
        refine wp_loop ?_
        repeat (first|apply wp_as|apply wp_ss|refine wr (by simp;with_reducible rfl) ?_|refine wq (by simp;with_reducible rfl) ?_|refine wt (by simpa) ?_|refine wf (by simpa) ?_|refine xt (by simpa) ?_|refine xf (by simpa) ?_|apply wp_bs|apply wp_b|refine wp_sr ?_|refine wp_sx ?_|refine wp_ret' ?_|refine wp_skip' ?_|refine wp_exit' ?_)
        simp [zi237]
      | cons a ys =>
        have h0:¬ (0:Int)=(ys.length:Int)+1:=by omega
        refine call_of_wp zt237 rfl ?_
        repeat (first|apply wp_as|apply wp_ss|refine wr (by simp [h0];with_reducible rfl) ?_|refine wq (by simp [h0];with_reducible rfl) ?_|refine wt (by simpa [h0]) ?_|refine wf (by simpa [h0]) ?_|refine xt (by simpa [h0]) ?_|refine xf (by simpa [h0]) ?_|apply wp_bs|apply wp_b|refine wp_sr ?_|refine wp_sx ?_|refine wp_ret' ?_|refine wp_skip' ?_|refine wp_exit' ?_)
        simp [zi237]
    · refine call_of_wp zt237 rfl ?_
      repeat (first|apply wp_as|apply wp_ss|refine wr (by simp;with_reducible rfl) ?_|refine wq (by simp;with_reducible rfl) ?_|refine wt (by simpa) ?_|refine wf (by simpa) ?_|refine xt (by simpa) ?_|refine xf (by simpa) ?_|apply wp_bs|apply wp_b|refine wp_sr ?_|refine wp_sx ?_|refine wp_ret' ?_|refine wp_skip' ?_|refine wp_exit' ?_)
      refine wp_loop ?_
      repeat (first|apply wp_as|apply wp_ss|refine wr (by simp;with_reducible rfl) ?_|refine wq (by simp;with_reducible rfl) ?_|refine wt (by simpa) ?_|refine wf (by simpa) ?_|refine xt (by simpa) ?_|refine xf (by simpa) ?_|apply wp_bs|apply wp_b|refine wp_sr ?_|refine wp_sx ?_|refine wp_ret' ?_|refine wp_skip' ?_|refine wp_exit' ?_)
      simp [zi237]
theorem ev_equalGraph (n m:Int) (xs ys:List (Int×Int)) (x y:IV) (hx:VE xs x) (hy:VE ys y) (hl:xs.length≤2000000) (hm:ys.length≤2000000):Ev tb zl238 [] [.agg [I n,x],.agg [I m,y]] [] ⟨Bo (decide (n=m) && decide (xs=ys)),[],[],[]⟩:=by
  have e1:=ev_lim (ev_equalEdges xs ys x y hx hy hl hm)
  by_cases hnm:n=m
  · subst hnm
    rcases hx with ⟨c,rfl⟩ | ⟨rfl,rfl⟩
    · rcases hy with ⟨d,rfl⟩ | ⟨rfl,rfl⟩
      · refine call_of_wp zt238 rfl ?_
        repeat (first|apply wp_as|apply wp_ss|refine wr (by simp [e1];with_reducible rfl) ?_|refine wq (by simp [e1];with_reducible rfl) ?_|refine wt (by simpa [e1]) ?_|refine wf (by simpa [e1]) ?_|refine xt (by simpa [e1]) ?_|refine xf (by simpa [e1]) ?_|apply wp_bs|apply wp_b|refine wp_sr ?_|refine wp_sx ?_|refine wp_ret' ?_|refine wp_skip' ?_|refine wp_exit' ?_)
        simp [zi238]
      · refine call_of_wp zt238 rfl ?_
        repeat (first|apply wp_as|apply wp_ss|refine wr (by simp [e1];with_reducible rfl) ?_|refine wq (by simp [e1];with_reducible rfl) ?_|refine wt (by simpa [e1]) ?_|refine wf (by simpa [e1]) ?_|refine xt (by simpa [e1]) ?_|refine xf (by simpa [e1]) ?_|apply wp_bs|apply wp_b|refine wp_sr ?_|refine wp_sx ?_|refine wp_ret' ?_|refine wp_skip' ?_|refine wp_exit' ?_)
        simp [zi238]
    · rcases hy with ⟨d,rfl⟩ | ⟨rfl,rfl⟩
      · refine call_of_wp zt238 rfl ?_
        repeat (first|apply wp_as|apply wp_ss|refine wr (by simp [e1];with_reducible rfl) ?_|refine wq (by simp [e1];with_reducible rfl) ?_|refine wt (by simpa [e1]) ?_|refine wf (by simpa [e1]) ?_|refine xt (by simpa [e1]) ?_|refine xf (by simpa [e1]) ?_|apply wp_bs|apply wp_b|refine wp_sr ?_|refine wp_sx ?_|refine wp_ret' ?_|refine wp_skip' ?_|refine wp_exit' ?_)
        simp [zi238]
      · refine call_of_wp zt238 rfl ?_
        repeat (first|apply wp_as|apply wp_ss|refine wr (by simp [e1];with_reducible rfl) ?_|refine wq (by simp [e1];with_reducible rfl) ?_|refine wt (by simpa [e1]) ?_|refine wf (by simpa [e1]) ?_|refine xt (by simpa [e1]) ?_|refine xf (by simpa [e1]) ?_|apply wp_bs|apply wp_b|refine wp_sr ?_|refine wp_sx ?_|refine wp_ret' ?_|refine wp_skip' ?_|refine wp_exit' ?_)
        simp [zi238]
  · rcases hx with ⟨c,rfl⟩ | ⟨rfl,rfl⟩
    · rcases hy with ⟨d,rfl⟩ | ⟨rfl,rfl⟩
      · refine call_of_wp zt238 rfl ?_
        repeat (first|apply wp_as|apply wp_ss|refine wr (by simp [hnm];with_reducible rfl) ?_|refine wq (by simp [hnm];with_reducible rfl) ?_|refine wt (by simpa [hnm]) ?_|refine wf (by simpa [hnm]) ?_|refine xt (by simpa [hnm]) ?_|refine xf (by simpa [hnm]) ?_|apply wp_bs|apply wp_b|refine wp_sr ?_|refine wp_sx ?_|refine wp_ret' ?_|refine wp_skip' ?_|refine wp_exit' ?_)
        simp [zi238,hnm]
      · refine call_of_wp zt238 rfl ?_
        repeat (first|apply wp_as|apply wp_ss|refine wr (by simp [hnm];with_reducible rfl) ?_|refine wq (by simp [hnm];with_reducible rfl) ?_|refine wt (by simpa [hnm]) ?_|refine wf (by simpa [hnm]) ?_|refine xt (by simpa [hnm]) ?_|refine xf (by simpa [hnm]) ?_|apply wp_bs|apply wp_b|refine wp_sr ?_|refine wp_sx ?_|refine wp_ret' ?_|refine wp_skip' ?_|refine wp_exit' ?_)
        simp [zi238,hnm]
    · rcases hy with ⟨d,rfl⟩ | ⟨rfl,rfl⟩
      · refine call_of_wp zt238 rfl ?_
        repeat (first|apply wp_as|apply wp_ss|refine wr (by simp [hnm];with_reducible rfl) ?_|refine wq (by simp [hnm];with_reducible rfl) ?_|refine wt (by simpa [hnm]) ?_|refine wf (by simpa [hnm]) ?_|refine xt (by simpa [hnm]) ?_|refine xf (by simpa [hnm]) ?_|apply wp_bs|apply wp_b|refine wp_sr ?_|refine wp_sx ?_|refine wp_ret' ?_|refine wp_skip' ?_|refine wp_exit' ?_)
        simp [zi238,hnm]
      · refine call_of_wp zt238 rfl ?_
        repeat (first|apply wp_as|apply wp_ss|refine wr (by simp [hnm];with_reducible rfl) ?_|refine wq (by simp [hnm];with_reducible rfl) ?_|refine wt (by simpa [hnm]) ?_|refine wf (by simpa [hnm]) ?_|refine xt (by simpa [hnm]) ?_|refine xf (by simpa [hnm]) ?_|apply wp_bs|apply wp_b|refine wp_sr ?_|refine wp_sx ?_|refine wp_ret' ?_|refine wp_skip' ?_|refine wp_exit' ?_)
        simp [zi238,hnm]
end Go.Idl
namespace Go.Idl
open Go
abbrev Str (s:ByteArray):IV:=.sc (.string s)
def strs (l:List ByteArray):List (List IV):=l.map fun s=>[Str s]
@[simp] theorem strs_len (l:List ByteArray):(strs l).length=l.length:=by simp [strs]
@[simp] theorem strs_get (l:List ByteArray) (i:Nat) (h:i < (strs l).length):(strs l)[i]=[IV.sc (.string (l[i]'(by simpa [strs] using h)))]:=by simp [strs]
@[simp] theorem strs_get? (l:List ByteArray) (i:Nat):(strs l)[i]? = l[i]?.map fun s=>[IV.sc (.string s)]:=by simp [strs]
end Go.Idl
namespace Go.Idl
open Go
def gls (n:Int) (gl:List (List (Int×Int))):List (List IV):=gl.map fun es=>[I n,O2 es]
@[simp] theorem gls_len (n:Int) (gl):(gls n gl).length=gl.length:=by simp [gls]
@[simp] theorem gls_one (n:Int) (gl) (es:List (Int×Int)):gls n gl++[[IV.sc (.int .i64 n),.own 2 (eds es)]]=gls n (gl++[es]):=by simp [gls]
@[simp] theorem gls_emp (n:Int) (gl):(gls n gl).isEmpty=gl.isEmpty:=by cases gl <;> rfl
@[simp] theorem gls_take (n:Int) (gl) (k:Nat):(gls n gl).take k=gls n (gl.take k):=by simp [gls,List.map_take]
@[simp] theorem gls_all (n:Int) (gl):((gls n gl).all fun x=>x.all IV.isData)=true:=by
  induction gl with
  | nil=>rfl
  | cons x xs ih=>simp only [gls,List.map_cons,List.all_cons] at *;rw [ih];rfl
@[simp] theorem gls_noLst (n:Int) (gl):noLstLL (gls n gl)=true:=by
  induction gl with
  | nil=>rfl
  | cons x xs ih=>simp only [gls,List.map_cons,noLstLL,noLstL,noLstV,eds_noLst] at *;rw [ih];rfl
end Go.Idl
namespace Go.Idl
open Go
abbrev GF:=List (List (Int×Int)×Bool)
def glf (n:Int) (R:GF):List (List IV):=R.map fun x=>[I n,L2 x.1 x.2]
@[simp] theorem glf_len (n:Int) (R:GF):(glf n R).length=R.length:=by simp [glf]
@[simp] theorem glf_nil (n:Int):glf n []=[]:=rfl
@[simp] theorem glf_app (n:Int) (R S:GF):glf n R++glf n S=glf n (R++S):=by simp [glf]
@[simp] theorem glf_take (n:Int) (R:GF) (k:Nat):(glf n R).take k=glf n (R.take k):=by simp [glf,List.map_take]
@[simp] theorem glf_all (n:Int) (R:GF):((glf n R).all fun x=>x.all IV.isData)=true:=by
  induction R with
  | nil=>rfl
  | cons x xs ih=>simp only [glf,List.map_cons,List.all_cons] at *;rw [ih];rfl
end Go.Idl
namespace Go.Idl
open Go
theorem MM.sums {h w:Nat} {t:List (List Int)} (ht:MM h w t) (hw:w≤5):∀ x ∈ t.map List.sum,0≤x∧x≤5:=by
  intro x hx
  obtain ⟨r,hr,rfl⟩:=List.mem_map.1 hx
  have h1:=ht.2 r hr
  have:=sum01 r h1.2
  omega
end Go.Idl
namespace Go.Idl
open Go
def durfA:List Int→Nat→Nat→Nat
  | [],_,k=>k
  | x::q,i,k=>durfA q (i+1) (if (i:Int)≤x then i+1 else k)
def durf (s:List Int):Nat:=durfA s 0 0
theorem durfA_le (B:Nat):∀ (s:List Int) (i k:Nat),k≤B→i+s.length≤B→durfA s i k≤B
  | [],_,_,h,_=>h
  | x::q,i,k,h,hb=>by
    simp only [List.length_cons] at hb
    rw [durfA]
    refine durfA_le B q _ _ ?_ (by omega)
    split <;> omega
theorem durfA_ge:∀ (s:List Int) (i k:Nat),1≤k→1≤durfA s i k
  | [],_,_,h=>h
  | x::q,i,k,h=>by
    rw [durfA]
    refine durfA_ge q _ _ ?_
    split <;> omega
theorem durf_le (s:List Int):durf s≤s.length:=durfA_le _ s 0 0 (by omega) (by omega)
theorem durf_ge {s:List Int} (h:s ≠ []) (h0:∀ x ∈ s,0≤x):1≤durf s:=by
  cases s with
  | nil=>exact absurd rfl h
  | cons x q =>
    have:=h0 x (by simp)
    simp only [durf,durfA]
    refine durfA_ge q _ _ ?_
    rw [if_pos (by simpa using this)]
    omega
theorem ev_DurfeeOf (d:List Int) (c:Bool) (hv:valid d=true):Ev tb zl164 [] [L d c] [] ⟨I (durf (fall d)),[],[],[]⟩:=by
  have hl:=(valid_few hv).1
  have e1:=ev_lim (ev_SortDegrees d c hv)
  have hfl:=fall_len d
  generalize fall d=s at *
  have loop:∀ (m i k:Nat),i+m=s.length→k≤i→wp tb (.loop z164l8) { T:=[(3,I k),(7,O s),(8,I s.length),(9,I i)],loc:=[],M:=[] }
      (fun ex st=>ex=.exit 0∧st={ T:=[(3,I (durfA (s.drop i) i k)),(7,O s),(8,I s.length),(9,I s.length),(10,Bo false)],loc:=[],M:=[] }):=by
    intro m
    induction m with
    | zero =>
      intro i k hi hk
      obtain ⟨h1,h2⟩:=drop_end hi
      have h3:i=s.length:=hi
      subst h3
      refine wp_loop ?_
      repeat (first|apply wp_as|apply wp_ss|refine wr (by simp;with_reducible rfl) ?_|refine wq (by simp;with_reducible rfl) ?_|refine wt (by simpa) ?_|refine wf (by simpa) ?_|refine xt (by simpa) ?_|refine xf (by simpa) ?_|apply wp_bs|apply wp_b|refine wp_sr ?_|refine wp_sx ?_|refine wp_ret' ?_|refine wp_skip' ?_|refine wp_exit' ?_)
      rw [h2];exact ⟨rfl,rfl⟩
    | succ m ih =>
      intro i k hi hk
      obtain ⟨hi2,h2,h3⟩:=drop_get hi
      have w2:IntKind.i64.wrap ((i:Int)+1)=((i+1:Nat):Int):=wrapS (by omega)
      rw [h2,durfA]
      by_cases hq:(i:Int)≤s[i]
      · rw [if_pos hq]
        refine wp_loop ?_
        repeat (first|apply wp_as|apply wp_ss|refine wr (by simp [hi2,hq,w2];with_reducible rfl) ?_|refine wq (by simp [hi2,hq,w2];with_reducible rfl) ?_|refine wt (by simpa [hi2,hq,w2]) ?_|refine wf (by simpa [hi2,hq,w2]) ?_|refine xt (by simpa [hi2,hq,w2]) ?_|refine xf (by simpa [hi2,hq,w2]) ?_|apply wp_bs|apply wp_b|refine wp_sr ?_|refine wp_sx ?_|refine wp_ret' ?_|refine wp_skip' ?_|refine wp_exit' ?_)
        exact ih (i+1) (i+1) (by omega) (by omega)
      · rw [if_neg hq]
        refine wp_loop ?_
        repeat (first|apply wp_as|apply wp_ss|refine wr (by simp [hi2,hq,w2];with_reducible rfl) ?_|refine wq (by simp [hi2,hq,w2];with_reducible rfl) ?_|refine wt (by simpa [hi2,hq,w2]) ?_|refine wf (by simpa [hi2,hq,w2]) ?_|refine xt (by simpa [hi2,hq,w2]) ?_|refine xf (by simpa [hi2,hq,w2]) ?_|apply wp_bs|apply wp_b|refine wp_sr ?_|refine wp_sx ?_|refine wp_ret' ?_|refine wp_skip' ?_|refine wp_exit' ?_)
        exact ih (i+1) k (by omega) (by omega)
  refine call_of_wp zt164 rfl ?_
  repeat (first|apply wp_as|apply wp_ss|refine wr (by simp [e1];with_reducible rfl) ?_|refine wq (by simp [e1];with_reducible rfl) ?_|refine wt (by simpa [e1]) ?_|refine wf (by simpa [e1]) ?_|refine xt (by simpa [e1]) ?_|refine xf (by simpa [e1]) ?_|apply wp_bs|apply wp_b|refine wp_sr ?_|refine wp_sx ?_|refine wp_ret' ?_|refine wp_skip' ?_|refine wp_exit' ?_)
  refine wp_imp (loop s.length 0 0 (by simp) (by omega)) ?_
  rintro ex st ⟨rfl,rfl⟩
  try simp only [if_true]
  repeat (first|apply wp_as|apply wp_ss|refine wr (by simp;with_reducible rfl) ?_|refine wq (by simp;with_reducible rfl) ?_|refine wt (by simpa) ?_|refine wf (by simpa) ?_|refine xt (by simpa) ?_|refine xf (by simpa) ?_|apply wp_bs|apply wp_b|refine wp_sr ?_|refine wp_sx ?_|refine wp_ret' ?_|refine wp_skip' ?_|refine wp_exit' ?_)
  simp [zi164,durf]
def splitt (d:List Int):Int:=if graphic d then (if d.length=0 then 0 else ((slacks d).getD (durf (fall d) - 1) 0).tdiv 2) else -1
theorem ev_SplittanceOf (d:List Int) (c:Bool) (hl:d.length≤2000000):Ev tb zl197 [] [L d c] [] ⟨I (splitt d),[],[],[]⟩:=by
  have e1:=ev_lim (ev_IsGraphic d c hl)
  cases hg:graphic d with
  | false =>
    refine call_of_wp zt197 rfl ?_
    repeat (first|apply wp_as|apply wp_ss|refine wr (by simp [e1,hg];with_reducible rfl) ?_|refine wq (by simp [e1,hg];with_reducible rfl) ?_|refine wt (by simpa [e1,hg]) ?_|refine wf (by simpa [e1,hg]) ?_|refine xt (by simpa [e1,hg]) ?_|refine xf (by simpa [e1,hg]) ?_|apply wp_bs|apply wp_b|refine wp_sr ?_|refine wp_sx ?_|refine wp_ret' ?_|refine wp_skip' ?_|refine wp_exit' ?_)
    simp [zi197,splitt,hg]
  | true =>
  by_cases h0:d.length=0
  · refine call_of_wp zt197 rfl ?_
    repeat (first|apply wp_as|apply wp_ss|refine wr (by simp [e1,hg,h0];with_reducible rfl) ?_|refine wq (by simp [e1,hg,h0];with_reducible rfl) ?_|refine wt (by simpa [e1,hg,h0]) ?_|refine wf (by simpa [e1,hg,h0]) ?_|refine xt (by simpa [e1,hg,h0]) ?_|refine xf (by simpa [e1,hg,h0]) ?_|apply wp_bs|apply wp_b|refine wp_sr ?_|refine wp_sx ?_|refine wp_ret' ?_|refine wp_skip' ?_|refine wp_exit' ?_)
    simp [zi197,splitt,hg,h0]
  have hv:valid d=true:=by simp only [graphic,Bool.and_eq_true] at hg;exact hg.1.1
  have hf:=valid_few hv
  have e2:=ev_lim (ev_SlacksOf d c hv)
  have e3:=ev_lim (ev_DurfeeOf d c hv)
  have hd1:=durf_le (fall d)
  have hd2:1≤durf (fall d):=durf_ge (fun h=>h0 (by rw [← fall_len,h];rfl)) (fun x hx=>(hf.fall.2 x hx).1)
  rw [fall_len] at hd1
  have hsl:=slacks_len d
  have hb:∀ x ∈ slacks d,-100≤x∧x≤200:=by
    intro x hx
    simp only [slacks,List.mem_map,List.mem_range] at hx
    obtain ⟨i,hi,rfl⟩:=hx
    exact slk_bound (by have:=hf.1;omega) hf.fall.1 hf.fall.2
  obtain ⟨k,hk⟩:∃ k,durf (fall d)=k+1:=⟨durf (fall d) - 1,by omega⟩
  have w1:IntKind.i64.wrap (k:Int)=(k:Int):=wrap64 (by omega) (by omega)
  have hk2:k < (slacks d).length:=by omega
  have hx:=hb _ (List.getElem_mem hk2)
  have hnn:0≤(slacks d)[k]:=by
    have hg2:=hg
    simp only [graphic,Bool.and_eq_true,List.all_eq_true,decide_eq_true_eq] at hg2
    exact hg2.2 _ (List.getElem_mem hk2)
  have w2:IntKind.i64.wrap (((slacks d)[k]).tdiv 2)=((slacks d)[k]).tdiv 2:=by
    rw [Int.tdiv_eq_ediv_of_nonneg hnn];exact wrap64 (by omega) (by omega)
  have hs:splitt d=((slacks d)[k]).tdiv 2:=by
    rw [splitt,hg,hk,Nat.add_sub_cancel]
    simp only [if_true,h0,if_false,List.getD_eq_getElem?_getD,List.getElem?_eq_getElem hk2,Option.getD_some]
  rw [hk] at e3
  refine call_of_wp zt197 rfl ?_
  repeat (first|apply wp_as|apply wp_ss|refine wr (by simp [e1,hg,h0,e2,e3,w1,hk2,w2];with_reducible rfl) ?_|refine wq (by simp [e1,hg,h0,e2,e3,w1,hk2,w2];with_reducible rfl) ?_|refine wt (by simpa [e1,hg,h0,e2,e3,w1,hk2,w2]) ?_|refine wf (by simpa [e1,hg,h0,e2,e3,w1,hk2,w2]) ?_|refine xt (by simpa [e1,hg,h0,e2,e3,w1,hk2,w2]) ?_|refine xf (by simpa [e1,hg,h0,e2,e3,w1,hk2,w2]) ?_|apply wp_bs|apply wp_b|refine wp_sr ?_|refine wp_sx ?_|refine wp_ret' ?_|refine wp_skip' ?_|refine wp_exit' ?_)
  simp [zi197,hs]
theorem ev_IsSplit (d:List Int) (c:Bool) (hl:d.length≤2000000):Ev tb zl186 [] [L d c] [] ⟨Bo (decide (splitt d=0)),[],[],[]⟩:=by
  have e1:=ev_lim (ev_SplittanceOf d c hl)
  refine call_of_wp zt186 rfl ?_
  repeat (first|apply wp_as|apply wp_ss|refine wr (by simp [e1];with_reducible rfl) ?_|refine wq (by simp [e1];with_reducible rfl) ?_|refine wt (by simpa [e1]) ?_|refine wf (by simpa [e1]) ?_|refine xt (by simpa [e1]) ?_|refine xf (by simpa [e1]) ?_|apply wp_bs|apply wp_b|refine wp_sr ?_|refine wp_sx ?_|refine wp_ret' ?_|refine wp_skip' ?_|refine wp_exit' ?_)
  simp [zi186]
  rfl
end Go.Idl
namespace Go.Idl
def insP (x:Nat×Nat):List (Nat×Nat)→List (Nat×Nat)
  | []=>[x]
  | y::r=>if Nat.ble y.1 x.1 then x::y::r else y::insP x r
def hh:Nat→List (Nat×Nat)→List (Nat×Nat)
  | 0,_=>[]
  | _+1,[]=>[]
  | m+1,x::r=>(r.take x.1).map (fun y:Nat×Nat=>(x.2,y.2))++hh m ((((r.take x.1).map (fun y:Nat×Nat=>(y.1 - 1,y.2))++r.drop x.1:List (Nat×Nat))).foldr insP [])
theorem ite_iff {α:Type} {p q:Prop} [Decidable p] [Decidable q] (h:p ↔ q) (a b:α):(if p then a else b)=if q then a else b:=by
  by_cases hp:p
  · rw [if_pos hp,if_pos (h.1 hp)]
  · rw [if_neg hp,if_neg fun hq=>hp (h.2 hq)]
def mk (u v:Nat):Int×Int:=(min (u:Int) v,max (u:Int) v)
theorem inc_mk_all:(List.range 8).all (fun n=>(prs n).all fun e=>(List.range n).all fun v=>decide (inc v e=S (List.range n) (fun u=>if u=v then 0 else if e=mk u v then 1 else 0)))=true:=by decide +kernel
theorem inc_mk {n:Nat} (hn:n≤7) {e:Int×Int} (he:e ∈ prs n) {v:Nat} (hv:v < n):inc v e=S (List.range n) (fun u=>if u=v then 0 else if e=mk u v then 1 else 0):=by
  have:=List.all_eq_true.1 (List.all_eq_true.1 (List.all_eq_true.1 inc_mk_all n (List.mem_range.2 (by omega))) e he) v (List.mem_range.2 hv)
  exact of_decide_eq_true this
theorem S_ite {α:Type} (l:List α) (p:α→Bool) (f:α→Int):S (l.filter p) f=S l (fun a=>if p a then f a else 0):=by
  induction l with
  | nil=>rfl
  | cons a l ih =>
    rw [List.filter_cons,S_cons]
    split <;> rename_i h
    · rw [S_cons,ih]
    · rw [ih];omega
theorem mk_mem {n u v:Nat} (hu:u < n) (hv:v < n) (h:u ≠ v):mk u v ∈ prs n:=mem_prs.2 (by simp only [mk];omega)
theorem deg_filter {n:Nat} (hn:n≤7) (p:Int×Int→Bool) {v:Nat} (hv:v < n):deg ((prs n).filter p) v=S (List.range n) (fun u=>if u=v then 0 else if p (mk u v) then 1 else 0):=by
  rw [deg,S_ite,S_congr (g:=fun e=>S (List.range n) (fun u=>if u=v then 0 else if e=mk u v then (if p (mk u v) then 1 else 0) else 0)) fun e he=>?_,S_swap]
  · refine S_congr fun u hu=>?_
    have hu:=List.mem_range.1 hu
    by_cases huv:u=v
    · simp only [huv,if_true];exact S_zero _
    · simp only [if_neg huv]
      have hm:=mk_mem hu hv huv
      have h1:=S_one (pw_nodup (prs_pw n)) (mk u v)
      rw [if_pos hm] at h1
      by_cases hp:p (mk u v)=true
      · simp only [hp,if_true]
        exact Eq.trans (S_congr fun e _=>ite_iff eq_comm _ _) h1
      · simp only [if_neg hp,ite_self];exact S_zero _
  · rw [inc_mk hn he hv]
    by_cases hp:p e=true
    · rw [if_pos hp]
      refine S_congr fun u _=>?_
      by_cases huv:u=v
      · simp [huv]
      · simp only [if_neg huv]
        by_cases hem:e=mk u v
        · rw [if_pos hem,if_pos hem,← hem,if_pos hp]
        · rw [if_neg hem,if_neg hem]
    · rw [if_neg hp]
      symm
      rw [S_congr (g:=fun _=>0),S_zero]
      intro u _
      by_cases huv:u=v
      · simp [huv]
      · simp only [if_neg huv]
        by_cases hem:e=mk u v
        · rw [if_pos hem,← hem,if_neg hp]
        · rw [if_neg hem]
theorem degs_filter {n:Nat} (p:Int×Int→Bool):degs n ((prs n).filter p)=(List.range n).map (deg ((prs n).filter p)) :=
  degs_eq fun e he=>by have:=mem_prs.1 (List.mem_filter.1 he).1;omega
end Go.Idl
namespace Go.Idl
theorem has_hasM {n:Nat} {es:List (Int×Int)} (h:∀ e ∈ es,e ∈ prs n) (a b:Int):has es a b=hasM es a b:=by
  rw [Bool.eq_iff_iff,hasM_iff,has,List.any_eq_true]
  constructor
  · rintro ⟨e,he,hi⟩
    have hp:=mem_prs.1 (h e he)
    simp only [isE,Bool.or_eq_true,Bool.and_eq_true,decide_eq_true_eq] at hi
    have h2:e=(min a b,max a b):=Prod.ext (by simp only;omega) (by simp only;omega)
    rw [← h2];exact he
  · intro hm
    refine ⟨_,hm,?_⟩
    simp only [isE,Bool.or_eq_true,Bool.and_eq_true,decide_eq_true_eq]
    omega
theorem may_eq {n:Nat} {es:List (Int×Int)} (h:vGraph n es=true) (a b c d:Int):mayS es a b c d=mayI es a b c d:=by
  have hin:=(vG_iff.1 h).2.1
  rw [Bool.eq_iff_iff,mayI_iff]
  simp only [mayS,has_hasM hin,Bool.and_eq_true,decide_eq_true_eq,Bool.not_eq_true',hasM_iff,hasM_no,and_assoc]
  constructor
  · rintro ⟨h1,h2,h3,h4,m1,m2,m3,m4⟩
    have p1:=mem_prs.1 (hin _ m1)
    have p2:=mem_prs.1 (hin _ m2)
    simp only at p1 p2
    exact ⟨by omega,h1,h3,fun h=>h4 h,h2,by omega,m1,m2,m3,m4⟩
  · rintro ⟨h1,h2,h3,h4,h5,h6,m1,m2,m3,m4⟩
    exact ⟨h2,h5,h3,h4,m1,m2,m3,m4⟩
end Go.Idl
namespace Go.Idl
open Go
def nl4:List Q4→IV
  | []=>Z
  | x::r=>O4 (x::r)
theorem nl4_app (acc:List Q4) (x:Q4):nl4 (acc++[x])=O4 (acc++[x]):=by cases acc <;> rfl
abbrev mayQ (es:List (Int×Int)) (s:Q4):Bool:=mayI es s.1 s.2.1 s.2.2.1 s.2.2.2
set_option maxHeartbeats 4000000 in
theorem gs_in (n:Nat) (es:List (Int×Int)) (c:Bool) (hv:vGraph n es=true) (kb N i k:Nat) (zs:List (Int×Int)) (c2:Bool) (qs:List Q4) (hq:qs.length≤100):∀ (m j:Nat) (acc:List Q4) (B:Boxes),j+m=qs.length→acc.length+m≤4000000 →
    wp tb (.loop z173l15) { T:=[(1,.bptr 0 0 0),(3,nl4 acc),(5,.bptr 0 kb 0),(13,L2 es c),(14,I N),(15,I i),(24,L2 zs c2),(25,I zs.length),(26,I k),(48,O4 qs),(49,I qs.length),(50,I j)],loc:=[I n,L2 es c]::B,M:=[] }
      (fun ex st=>ex=.exit 4∧∃ D,st={ T:=[(1,.bptr 0 0 0),(3,nl4 (acc++(qs.drop j).filter (mayQ es))),(5,.bptr 0 kb 0),(13,L2 es c),(14,I N),(15,I i),(24,L2 zs c2),(25,I zs.length),(26,I k),(48,O4 qs),(49,I qs.length),(50,I qs.length),(51,Bo false)],loc:=[I n,L2 es c]::(B++D),M:=[] }):=by
  intro m
  induction m with
  | zero =>
    intro j acc B hj ha
    have h3:j=qs.length:=hj
    subst h3
    rw [List.drop_length,List.filter_nil,List.append_nil]
    cases acc with
    | nil =>
      simp only [nl4]
      refine wp_loop ?_
      repeat (first|apply wp_as|apply wp_ss|refine wr (by simp;with_reducible rfl) ?_|refine wq (by simp;with_reducible rfl) ?_|refine wt (by simpa) ?_|refine wf (by simpa) ?_|refine xt (by simpa) ?_|refine xf (by simpa) ?_|apply wp_bs|apply wp_b|refine wp_sr ?_|refine wp_sx ?_|refine wp_ret' ?_|refine wp_skip' ?_|refine wp_exit' ?_)
      exact ⟨rfl,[],by simp⟩
    | cons s r =>
      simp only [nl4]
      refine wp_loop ?_
      repeat (first|apply wp_as|apply wp_ss|refine wr (by simp;with_reducible rfl) ?_|refine wq (by simp;with_reducible rfl) ?_|refine wt (by simpa) ?_|refine wf (by simpa) ?_|refine xt (by simpa) ?_|refine xf (by simpa) ?_|apply wp_bs|apply wp_b|refine wp_sr ?_|refine wp_sx ?_|refine wp_ret' ?_|refine wp_skip' ?_|refine wp_exit' ?_)
      exact ⟨rfl,[],by simp⟩
  | succ m ih =>
    intro j acc B hj ha
    have hj2:j < qs.length:=by omega
    have hd:qs.drop j=qs[j]::qs.drop (j+1):=List.drop_eq_getElem_cons hj2
    obtain ⟨⟨a,b,x,y⟩,hx⟩:∃ s,s=qs[j]:=⟨_,rfl⟩
    have hx2:=hx.symm
    have w1:IntKind.i64.wrap ((j:Int)+1)=((j+1:Nat):Int):=wrapS (by omega)
    have e1:=fun cc=>ev_lim (ev_change n es cc a b x y hv)
    have hl1:acc.length+1≤274877906944:=by omega
    rw [hd,← hx,List.filter_cons]
    cases hm:mayI es a b x y with
    | false =>
      simp only [OS,hm,Bool.false_eq_true,if_false] at e1
      simp only [mayQ,hm,Bool.false_eq_true,if_false]
      have hn:=fun q=>ih (j+1) acc (B++q) (by omega) (by omega)
      have fin:∀ q:Boxes,wp tb (.loop z173l15) { T:=[(1,.bptr 0 0 0),(3,nl4 acc),(5,.bptr 0 kb 0),(13,L2 es c),(14,I N),(15,I i),(24,L2 zs c2),(25,I zs.length),(26,I k),(48,O4 qs),(49,I qs.length),(50,I (j+1:Nat))],loc:=[I n,L2 es c]::(B++q),M:=[] }
        (fun ex st=>ex=.exit 4∧∃ D,st={ T:=[(1,.bptr 0 0 0),(3,nl4 (acc++(qs.drop (j+1)).filter (mayQ es))),(5,.bptr 0 kb 0),(13,L2 es c),(14,I N),(15,I i),(24,L2 zs c2),(25,I zs.length),(26,I k),(48,O4 qs),(49,I qs.length),(50,I qs.length),(51,Bo false)],loc:=[I n,L2 es c]::(B++D),M:=[] }):=fun q=>by
        refine wp_imp (hn q) ?_
        rintro ex st ⟨rfl,D,rfl⟩
        exact ⟨rfl,q++D,by simp⟩
      cases acc with
      | nil =>
        simp only [nl4] at fin ⊢
        refine wp_loop ?_
        repeat (first|apply wp_as|apply wp_ss|refine wr (by simp [hj2,hx2,w1,e1];with_reducible rfl) ?_|refine wq (by simp [hj2,hx2,w1,e1];with_reducible rfl) ?_|refine wt (by simpa [hj2,hx2,w1,e1]) ?_|refine wf (by simpa [hj2,hx2,w1,e1]) ?_|refine xt (by simpa [hj2,hx2,w1,e1]) ?_|refine xf (by simpa [hj2,hx2,w1,e1]) ?_|apply wp_bs|apply wp_b|refine wp_sr ?_|refine wp_sx ?_|refine wp_ret' ?_|refine wp_skip' ?_|refine wp_exit' ?_)
        exact fin _
      | cons s r =>
        simp only [nl4] at fin ⊢
        refine wp_loop ?_
        repeat (first|apply wp_as|apply wp_ss|refine wr (by simp [hj2,hx2,w1,e1];with_reducible rfl) ?_|refine wq (by simp [hj2,hx2,w1,e1];with_reducible rfl) ?_|refine wt (by simpa [hj2,hx2,w1,e1]) ?_|refine wf (by simpa [hj2,hx2,w1,e1]) ?_|refine xt (by simpa [hj2,hx2,w1,e1]) ?_|refine xf (by simpa [hj2,hx2,w1,e1]) ?_|apply wp_bs|apply wp_b|refine wp_sr ?_|refine wp_sx ?_|refine wp_ret' ?_|refine wp_skip' ?_|refine wp_exit' ?_)
        exact fin _
    | true =>
      simp only [OS,hm,if_true] at e1
      simp only [mayQ,hm,if_true]
      generalize sw es a b x y=R at *
      have hn:=fun q=>ih (j+1) (acc++[(a,b,x,y)]) (B++q) (by omega) (by simp;omega)
      have fin:∀ q:Boxes,wp tb (.loop z173l15) { T:=[(1,.bptr 0 0 0),(3,O4 (acc++[(a,b,x,y)])),(5,.bptr 0 kb 0),(13,L2 es c),(14,I N),(15,I i),(24,L2 zs c2),(25,I zs.length),(26,I k),(48,O4 qs),(49,I qs.length),(50,I (j+1:Nat))],loc:=[I n,L2 es c]::(B++q),M:=[] }
        (fun ex st=>ex=.exit 4∧∃ D,st={ T:=[(1,.bptr 0 0 0),(3,nl4 (acc++(a,b,x,y)::(qs.drop (j+1)).filter (mayQ es))),(5,.bptr 0 kb 0),(13,L2 es c),(14,I N),(15,I i),(24,L2 zs c2),(25,I zs.length),(26,I k),(48,O4 qs),(49,I qs.length),(50,I qs.length),(51,Bo false)],loc:=[I n,L2 es c]::(B++D),M:=[] }):=fun q=>by
        have hn:=hn q
        rw [nl4_app] at hn
        refine wp_imp hn ?_
        rintro ex st ⟨rfl,D,rfl⟩
        exact ⟨rfl,q++D,by simp⟩
      cases acc with
      | nil =>
        simp only [nl4] at fin ⊢
        refine wp_loop ?_
        repeat (first|apply wp_as|apply wp_ss|refine wr (by simp [hj2,hx2,w1,e1];with_reducible rfl) ?_|refine wq (by simp [hj2,hx2,w1,e1];with_reducible rfl) ?_|refine wt (by simpa [hj2,hx2,w1,e1]) ?_|refine wf (by simpa [hj2,hx2,w1,e1]) ?_|refine xt (by simpa [hj2,hx2,w1,e1]) ?_|refine xf (by simpa [hj2,hx2,w1,e1]) ?_|apply wp_bs|apply wp_b|refine wp_sr ?_|refine wp_sx ?_|refine wp_ret' ?_|refine wp_skip' ?_|refine wp_exit' ?_)
        exact fin _
      | cons s r =>
        have hT2:List.take (s::r).length (s::r)=s::r:=List.take_of_length_le (Nat.le_refl _)
        simp only [List.length_cons] at hl1 hT2
        generalize hacc:s::r=acc at *
        have hlen:r.length+1=acc.length:=by rw [← hacc];rfl
        rw [hlen] at hl1 hT2
        have hnl:nl4 acc=O4 acc:=by rw [← hacc];rfl
        rw [hnl] at *
        refine wp_loop ?_
        repeat (first|apply wp_as|apply wp_ss|refine wr (by simp [hj2,hx2,w1,e1,hl1,hT2];with_reducible rfl) ?_|refine wq (by simp [hj2,hx2,w1,e1,hl1,hT2];with_reducible rfl) ?_|refine wt (by simpa [hj2,hx2,w1,e1,hl1,hT2]) ?_|refine wf (by simpa [hj2,hx2,w1,e1,hl1,hT2]) ?_|refine xt (by simpa [hj2,hx2,w1,e1,hl1,hT2]) ?_|refine xf (by simpa [hj2,hx2,w1,e1,hl1,hT2]) ?_|apply wp_bs|apply wp_b|refine wp_sr ?_|refine wp_sx ?_|refine wp_ret' ?_|refine wp_skip' ?_|refine wp_exit' ?_)
        exact fin _
set_option maxHeartbeats 4000000 in
theorem gs_mid (n:Nat) (es:List (Int×Int)) (c:Bool) (hv:vGraph n es=true) (kb N i:Nat) (e:Int×Int) (zs:List (Int×Int)) (c2:Bool) (hz:zs.length≤100):∀ (m k:Nat) (acc:List Q4) (B:Boxes),k+m=zs.length→acc.length+2 * m≤3000000→B[kb]? = some [I e.1,I e.2] →
    wp tb (.loop z173l17) { T:=[(1,.bptr 0 0 0),(3,nl4 acc),(5,.bptr 0 (kb+1) 0),(13,L2 es c),(14,I N),(15,I i),(24,L2 zs c2),(25,I zs.length),(26,I k)],loc:=[I n,L2 es c]::B,M:=[] }
      (fun ex st=>ex=.exit 2∧∃ D,st={ T:=[(1,.bptr 0 0 0),(3,nl4 (acc++(zs.drop k).flatMap fun f=>[(e.1,e.2,f.1,f.2),(e.1,e.2,f.2,f.1)].filter (mayQ es))),(5,.bptr 0 (kb+1) 0),(13,L2 es c),(14,I N),(15,I i),(24,L2 zs c2),(25,I zs.length),(26,I zs.length),(27,Bo false)],loc:=[I n,L2 es c]::(B++D),M:=[] }):=by
  intro m
  induction m with
  | zero =>
    intro k acc B hk ha hB
    have h3:k=zs.length:=hk
    subst h3
    rw [List.drop_length,List.flatMap_nil,List.append_nil]
    cases acc with
    | nil =>
      simp only [nl4]
      refine wp_loop ?_
      repeat (first|apply wp_as|apply wp_ss|refine wr (by simp;with_reducible rfl) ?_|refine wq (by simp;with_reducible rfl) ?_|refine wt (by simpa) ?_|refine wf (by simpa) ?_|refine xt (by simpa) ?_|refine xf (by simpa) ?_|apply wp_bs|apply wp_b|refine wp_sr ?_|refine wp_sx ?_|refine wp_ret' ?_|refine wp_skip' ?_|refine wp_exit' ?_)
      exact ⟨rfl,[],by simp⟩
    | cons s r =>
      simp only [nl4]
      refine wp_loop ?_
      repeat (first|apply wp_as|apply wp_ss|refine wr (by simp;with_reducible rfl) ?_|refine wq (by simp;with_reducible rfl) ?_|refine wt (by simpa) ?_|refine wf (by simpa) ?_|refine xt (by simpa) ?_|refine xf (by simpa) ?_|apply wp_bs|apply wp_b|refine wp_sr ?_|refine wp_sx ?_|refine wp_ret' ?_|refine wp_skip' ?_|refine wp_exit' ?_)
      exact ⟨rfl,[],by simp⟩
  | succ m ih =>
    intro k acc B hk ha hB
    have hk2:k < zs.length:=by omega
    have hd:zs.drop k=zs[k]::zs.drop (k+1):=List.drop_eq_getElem_cons hk2
    obtain ⟨⟨x,y⟩,hx⟩:∃ s,s=zs[k]:=⟨_,rfl⟩
    have hx2:=hx.symm
    obtain ⟨a,b⟩:=e
    have w1:IntKind.i64.wrap ((k:Int)+1)=((k+1:Nat):Int):=wrapS (by omega)
    have hkB:kb < B.length:=(List.getElem?_eq_some_iff.1 hB).1
    have hB2:∀ q,(B++q)[kb]? = some [I a,I b]:=fun q=>by rw [List.getElem?_append_left hkB,hB]
    have hF:([(a,b,x,y),(a,b,y,x)].filter (mayQ es)).length≤2:=List.length_filter_le _ _
    have inner:=fun q=>gs_in n es c hv (kb+1) N i k zs c2 [(a,b,x,y),(a,b,y,x)] (by simp) 2 0 acc (B++q) rfl (by omega)
    rw [hd,← hx,List.flatMap_cons]
    simp only [List.drop_zero] at inner
    have hn:=fun D=>ih (k+1) (acc++[(a,b,x,y),(a,b,y,x)].filter (mayQ es)) (B++D) (by omega) (by rw [List.length_append];omega) (hB2 D)
    generalize [(a,b,x,y),(a,b,y,x)].filter (mayQ es)=F at *
    have fin:∀ D:Boxes,wp tb (.loop z173l17) { T:=[(1,.bptr 0 0 0),(3,nl4 (acc++F)),(5,.bptr 0 (kb+1) 0),(13,L2 es c),(14,I N),(15,I i),(24,L2 zs c2),(25,I zs.length),(26,I (k+1:Nat))],loc:=[I n,L2 es c]::(B++D),M:=[] }
      (fun ex st=>ex=.exit 2∧∃ D,st={ T:=[(1,.bptr 0 0 0),(3,nl4 (acc++(F++(zs.drop (k+1)).flatMap fun f=>[(a,b,f.1,f.2),(a,b,f.2,f.1)].filter (mayQ es)))),(5,.bptr 0 (kb+1) 0),(13,L2 es c),(14,I N),(15,I i),(24,L2 zs c2),(25,I zs.length),(26,I zs.length),(27,Bo false)],loc:=[I n,L2 es c]::(B++D),M:=[] }):=fun D=>by
      refine wp_imp (hn D) ?_
      rintro ex st ⟨rfl,D',rfl⟩
      exact ⟨rfl,D++D',by simp⟩
    simp only [O4,sws,List.map_cons,List.map_nil,List.length_cons,List.length_nil,Nat.zero_add,Nat.reduceAdd,show ((2:Nat):Int)=2 from rfl,show ((0:Nat):Int)=0 from rfl] at inner
    have back:∀ G:List Q4,nl4 G=Z∧G=[] ∨ nl4 G=O4 G:=fun G=>by cases G <;> simp [nl4]
    rcases back acc with ⟨hb,-⟩ | hb
    · rw [hb] at inner ⊢
      refine wp_loop ?_
      repeat (first|apply wp_as|apply wp_ss|refine wr (by simp [hk2,hx2,hB,hB2];with_reducible rfl) ?_|refine wq (by simp [hk2,hx2,hB,hB2];with_reducible rfl) ?_|refine wt (by simpa [hk2,hx2,hB,hB2]) ?_|refine wf (by simpa [hk2,hx2,hB,hB2]) ?_|refine xt (by simpa [hk2,hx2,hB,hB2]) ?_|refine xf (by simpa [hk2,hx2,hB,hB2]) ?_|apply wp_bs|apply wp_b|refine wp_sr ?_|refine wp_sx ?_|refine wp_ret' ?_|refine wp_skip' ?_|refine wp_exit' ?_)
      refine wp_imp (inner _) ?_
      rintro ex st ⟨rfl,D,rfl⟩
      simp only [if_true]
      rw [List.append_assoc]
      rcases back (acc++F) with ⟨h,-⟩ | h
      · rw [h] at fin ⊢
        repeat (first|apply wp_as|apply wp_ss|refine wr (by simp [w1];with_reducible rfl) ?_|refine wq (by simp [w1];with_reducible rfl) ?_|refine wt (by simpa [w1]) ?_|refine wf (by simpa [w1]) ?_|refine xt (by simpa [w1]) ?_|refine xf (by simpa [w1]) ?_|apply wp_bs|apply wp_b|refine wp_sr ?_|refine wp_sx ?_|refine wp_ret' ?_|refine wp_skip' ?_|refine wp_exit' ?_)
        exact fin _
      · rw [h] at fin ⊢
        repeat (first|apply wp_as|apply wp_ss|refine wr (by simp [w1];with_reducible rfl) ?_|refine wq (by simp [w1];with_reducible rfl) ?_|refine wt (by simpa [w1]) ?_|refine wf (by simpa [w1]) ?_|refine xt (by simpa [w1]) ?_|refine xf (by simpa [w1]) ?_|apply wp_bs|apply wp_b|refine wp_sr ?_|refine wp_sx ?_|refine wp_ret' ?_|refine wp_skip' ?_|refine wp_exit' ?_)
        exact fin _
    · rw [hb] at inner ⊢
      refine wp_loop ?_
      repeat (first|apply wp_as|apply wp_ss|refine wr (by simp [hk2,hx2,hB,hB2];with_reducible rfl) ?_|refine wq (by simp [hk2,hx2,hB,hB2];with_reducible rfl) ?_|refine wt (by simpa [hk2,hx2,hB,hB2]) ?_|refine wf (by simpa [hk2,hx2,hB,hB2]) ?_|refine xt (by simpa [hk2,hx2,hB,hB2]) ?_|refine xf (by simpa [hk2,hx2,hB,hB2]) ?_|apply wp_bs|apply wp_b|refine wp_sr ?_|refine wp_sx ?_|refine wp_ret' ?_|refine wp_skip' ?_|refine wp_exit' ?_)
      refine wp_imp (inner _) ?_
      rintro ex st ⟨rfl,D,rfl⟩
      simp only [if_true]
      rw [List.append_assoc]
      rcases back (acc++F) with ⟨h,-⟩ | h
      · rw [h] at fin ⊢
        repeat (first|apply wp_as|apply wp_ss|refine wr (by simp [w1];with_reducible rfl) ?_|refine wq (by simp [w1];with_reducible rfl) ?_|refine wt (by simpa [w1]) ?_|refine wf (by simpa [w1]) ?_|refine xt (by simpa [w1]) ?_|refine xf (by simpa [w1]) ?_|apply wp_bs|apply wp_b|refine wp_sr ?_|refine wp_sx ?_|refine wp_ret' ?_|refine wp_skip' ?_|refine wp_exit' ?_)
        exact fin _
      · rw [h] at fin ⊢
        repeat (first|apply wp_as|apply wp_ss|refine wr (by simp [w1];with_reducible rfl) ?_|refine wq (by simp [w1];with_reducible rfl) ?_|refine wt (by simpa [w1]) ?_|refine wf (by simpa [w1]) ?_|refine xt (by simpa [w1]) ?_|refine xf (by simpa [w1]) ?_|apply wp_bs|apply wp_b|refine wp_sr ?_|refine wp_sx ?_|refine wp_ret' ?_|refine wp_skip' ?_|refine wp_exit' ?_)
        exact fin _
theorem row2_mayQ {n:Nat} {es:List (Int×Int)} (hv:vGraph n es=true) (e f:Int×Int):[(e.1,e.2,f.1,f.2),(e.1,e.2,f.2,f.1)].filter (mayQ es)=row2 es e f:=by
  simp only [row2,may_eq hv,List.filter_cons,List.filter_nil,mayQ]
  split <;> split <;> simp_all
theorem flat_row {n:Nat} {es:List (Int×Int)} (hv:vGraph n es=true) (e:Int×Int) (zs:List (Int×Int)):(zs.flatMap fun f=>[(e.1,e.2,f.1,f.2),(e.1,e.2,f.2,f.1)].filter (mayQ es))=zs.flatMap (row2 es e):=by
  congr 1
  funext f
  exact row2_mayQ hv e f
set_option maxHeartbeats 4000000 in
theorem gs_out (n:Nat) (es:List (Int×Int)) (c:Bool) (hv:vGraph n es=true):∀ (m i:Nat) (acc:List Q4) (B:Boxes),i+m=es.length→acc.length+200 * m≤2000000 →
    wp tb (.loop z173l19) { T:=[(1,.bptr 0 0 0),(3,nl4 acc),(13,L2 es c),(14,I es.length),(15,I i)],loc:=[I n,L2 es c]::B,M:=[] }
      (fun ex st=>ex=.exit 0∧∃ D,st={ T:=[(1,.bptr 0 0 0),(3,nl4 (acc++swl es (es.drop i))),(13,L2 es c),(14,I es.length),(15,I es.length),(16,Bo false)],loc:=[I n,L2 es c]::D,M:=[] }):=by
  have hn7:=(vG_iff.1 hv).2.2
  have h21:=vG21 hn7 hv
  have back:∀ G:List Q4,nl4 G=Z∧G=[] ∨ nl4 G=O4 G:=fun G=>by cases G <;> simp [nl4]
  intro m
  induction m with
  | zero =>
    intro i acc B hi ha
    have h3:i=es.length:=hi
    subst h3
    rw [List.drop_length,swl,List.append_nil]
    rcases back acc with ⟨h,-⟩ | h
    · rw [h]
      refine wp_loop ?_
      repeat (first|apply wp_as|apply wp_ss|refine wr (by simp;with_reducible rfl) ?_|refine wq (by simp;with_reducible rfl) ?_|refine wt (by simpa) ?_|refine wf (by simpa) ?_|refine xt (by simpa) ?_|refine xf (by simpa) ?_|apply wp_bs|apply wp_b|refine wp_sr ?_|refine wp_sx ?_|refine wp_ret' ?_|refine wp_skip' ?_|refine wp_exit' ?_)
      exact ⟨rfl,_,rfl⟩
    · rw [h]
      refine wp_loop ?_
      repeat (first|apply wp_as|apply wp_ss|refine wr (by simp;with_reducible rfl) ?_|refine wq (by simp;with_reducible rfl) ?_|refine wt (by simpa) ?_|refine wf (by simpa) ?_|refine xt (by simpa) ?_|refine xf (by simpa) ?_|apply wp_bs|apply wp_b|refine wp_sr ?_|refine wp_sx ?_|refine wp_ret' ?_|refine wp_skip' ?_|refine wp_exit' ?_)
      exact ⟨rfl,_,rfl⟩
  | succ m ih =>
    intro i acc B hi ha
    have hi2:i < es.length:=by omega
    have hd:es.drop i=es[i]::es.drop (i+1):=List.drop_eq_getElem_cons hi2
    obtain ⟨⟨a,b⟩,hx⟩:∃ s,s=es[i]:=⟨_,rfl⟩
    have hx2:=hx.symm
    have w1:IntKind.i64.wrap ((i:Int)+1)=((i+1:Nat):Int):=wrapS (by omega)
    have hzl:(es.drop (i+1)).length=es.length - (i+1):=List.length_drop
    have hrl:=row2s_len es (a,b) (es.drop (i+1))
    have mid:=fun c2=>gs_mid n es c hv (B.length) es.length i (a,b) (es.drop (i+1)) c2 (by omega) (es.drop (i+1)).length 0 acc (B++[[I a,I b]]) (by omega) (by omega) (by simp)
    have fr:=flat_row hv (a,b) (es.drop (i+1))
    simp only at fr
    simp only [List.drop_zero,fr,show ((0:Nat):Int)=0 from rfl] at mid
    rw [hd,← hx,swl]
    have hn:=fun D=>ih (i+1) (acc++(es.drop (i+1)).flatMap (row2 es (a,b))) D (by omega) (by rw [List.length_append];omega)
    generalize (es.drop (i+1)).flatMap (row2 es (a,b))=F at *
    simp only [List.append_assoc] at hn
    rw [hzl] at mid
    have hi3:i+1≤es.length:=by omega
    have hcast:((es.length - (i+1):Nat):Int)=(es.length:Int) - ((i:Int)+1):=by omega
    have htk:(es.drop (i+1)).take (es.length - (i+1))=es.drop (i+1):=List.take_of_length_le (by omega)
    rcases back acc with ⟨hb,-⟩ | hb
    · rw [hb] at mid ⊢
      refine wp_loop ?_
      repeat (first|apply wp_as|apply wp_ss|refine wr (by simp [hi2,hx2,w1,hi3,htk];with_reducible rfl) ?_|refine wq (by simp [hi2,hx2,w1,hi3,htk];with_reducible rfl) ?_|refine wt (by simpa [hi2,hx2,w1,hi3,htk]) ?_|refine wf (by simpa [hi2,hx2,w1,hi3,htk]) ?_|refine xt (by simpa [hi2,hx2,w1,hi3,htk]) ?_|refine xf (by simpa [hi2,hx2,w1,hi3,htk]) ?_|apply wp_bs|apply wp_b|refine wp_sr ?_|refine wp_sx ?_|refine wp_ret' ?_|refine wp_skip' ?_|refine wp_exit' ?_)
      refine wp_imp (mid _) ?_
      rintro ex st ⟨rfl,D,rfl⟩
      simp only [if_true]
      rcases back (acc++F) with ⟨h,-⟩ | h
      · rw [h] at hn ⊢
        repeat (first|apply wp_as|apply wp_ss|refine wr (by simp [w1];with_reducible rfl) ?_|refine wq (by simp [w1];with_reducible rfl) ?_|refine wt (by simpa [w1]) ?_|refine wf (by simpa [w1]) ?_|refine xt (by simpa [w1]) ?_|refine xf (by simpa [w1]) ?_|apply wp_bs|apply wp_b|refine wp_sr ?_|refine wp_sx ?_|refine wp_ret' ?_|refine wp_skip' ?_|refine wp_exit' ?_)
        exact hn _
      · rw [h] at hn ⊢
        repeat (first|apply wp_as|apply wp_ss|refine wr (by simp [w1];with_reducible rfl) ?_|refine wq (by simp [w1];with_reducible rfl) ?_|refine wt (by simpa [w1]) ?_|refine wf (by simpa [w1]) ?_|refine xt (by simpa [w1]) ?_|refine xf (by simpa [w1]) ?_|apply wp_bs|apply wp_b|refine wp_sr ?_|refine wp_sx ?_|refine wp_ret' ?_|refine wp_skip' ?_|refine wp_exit' ?_)
        exact hn _
    · rw [hb] at mid ⊢
      refine wp_loop ?_
      repeat (first|apply wp_as|apply wp_ss|refine wr (by simp [hi2,hx2,w1,hi3,htk];with_reducible rfl) ?_|refine wq (by simp [hi2,hx2,w1,hi3,htk];with_reducible rfl) ?_|refine wt (by simpa [hi2,hx2,w1,hi3,htk]) ?_|refine wf (by simpa [hi2,hx2,w1,hi3,htk]) ?_|refine xt (by simpa [hi2,hx2,w1,hi3,htk]) ?_|refine xf (by simpa [hi2,hx2,w1,hi3,htk]) ?_|apply wp_bs|apply wp_b|refine wp_sr ?_|refine wp_sx ?_|refine wp_ret' ?_|refine wp_skip' ?_|refine wp_exit' ?_)
      refine wp_imp (mid _) ?_
      rintro ex st ⟨rfl,D,rfl⟩
      simp only [if_true]
      rcases back (acc++F) with ⟨h,-⟩ | h
      · rw [h] at hn ⊢
        repeat (first|apply wp_as|apply wp_ss|refine wr (by simp [w1];with_reducible rfl) ?_|refine wq (by simp [w1];with_reducible rfl) ?_|refine wt (by simpa [w1]) ?_|refine wf (by simpa [w1]) ?_|refine xt (by simpa [w1]) ?_|refine xf (by simpa [w1]) ?_|apply wp_bs|apply wp_b|refine wp_sr ?_|refine wp_sx ?_|refine wp_ret' ?_|refine wp_skip' ?_|refine wp_exit' ?_)
        exact hn _
      · rw [h] at hn ⊢
        repeat (first|apply wp_as|apply wp_ss|refine wr (by simp [w1];with_reducible rfl) ?_|refine wq (by simp [w1];with_reducible rfl) ?_|refine wt (by simpa [w1]) ?_|refine wf (by simpa [w1]) ?_|refine xt (by simpa [w1]) ?_|refine xf (by simpa [w1]) ?_|apply wp_bs|apply wp_b|refine wp_sr ?_|refine wp_sx ?_|refine wp_ret' ?_|refine wp_skip' ?_|refine wp_exit' ?_)
        exact hn _
theorem ev_Clip4 (xs:List Q4):Ev tb zl260 [] [nl4 xs] [] ⟨nl4 xs,[],[],[]⟩:=by
  cases xs with
  | nil =>
    simp only [nl4]
    refine call_of_wp zt260 rfl ?_
    repeat (first|apply wp_as|apply wp_ss|refine wr (by simp;with_reducible rfl) ?_|refine wq (by simp;with_reducible rfl) ?_|refine wt (by simpa) ?_|refine wf (by simpa) ?_|refine xt (by simpa) ?_|refine xf (by simpa) ?_|apply wp_bs|apply wp_b|refine wp_sr ?_|refine wp_sx ?_|refine wp_ret' ?_|refine wp_skip' ?_|refine wp_exit' ?_)
    simp [zi260]
  | cons s r =>
    simp only [nl4]
    refine call_of_wp zt260 rfl ?_
    repeat (first|apply wp_as|apply wp_ss|refine wr (by simp;with_reducible rfl) ?_|refine wq (by simp;with_reducible rfl) ?_|refine wt (by simpa) ?_|refine wf (by simpa) ?_|refine xt (by simpa) ?_|refine xf (by simpa) ?_|apply wp_bs|apply wp_b|refine wp_sr ?_|refine wp_sx ?_|refine wp_ret' ?_|refine wp_skip' ?_|refine wp_exit' ?_)
    simp [zi260]
theorem ev_Graph_switches (n:Nat) (es:List (Int×Int)) (c:Bool) (hv:vGraph n es=true) :
    Ev tb zl173 [] [Gr n es c] [] ⟨nl4 (swl es es),[],[],[]⟩:=by
  have hn7:=(vG_iff.1 hv).2.2
  have h21:=vG21 hn7 hv
  have loop:=gs_out n es c hv es.length 0 [] [] (by omega) (by simp;omega)
  rw [show ((0:Nat):Int)=0 from rfl,List.drop_zero,List.nil_append,show nl4 []=Z from rfl] at loop
  have e1:=ev_lim (ev_Clip4 (swl es es))
  generalize swl es es=G at *
  cases G with
  | nil =>
    simp only [nl4] at loop e1 ⊢
    refine call_of_wp zt173 rfl ?_
    repeat (first|apply wp_as|apply wp_ss|refine wr (by simp;with_reducible rfl) ?_|refine wq (by simp;with_reducible rfl) ?_|refine wt (by simpa) ?_|refine wf (by simpa) ?_|refine xt (by simpa) ?_|refine xf (by simpa) ?_|apply wp_bs|apply wp_b|refine wp_sr ?_|refine wp_sx ?_|refine wp_ret' ?_|refine wp_skip' ?_|refine wp_exit' ?_)
    refine wp_imp loop ?_
    rintro ex st ⟨rfl,D,rfl⟩
    simp only [if_true]
    repeat (first|apply wp_as|apply wp_ss|refine wr (by simp [e1];with_reducible rfl) ?_|refine wq (by simp [e1];with_reducible rfl) ?_|refine wt (by simpa [e1]) ?_|refine wf (by simpa [e1]) ?_|refine xt (by simpa [e1]) ?_|refine xf (by simpa [e1]) ?_|apply wp_bs|apply wp_b|refine wp_sr ?_|refine wp_sx ?_|refine wp_ret' ?_|refine wp_skip' ?_|refine wp_exit' ?_)
    simp [zi173]
  | cons s r =>
    simp only [nl4] at loop e1 ⊢
    refine call_of_wp zt173 rfl ?_
    repeat (first|apply wp_as|apply wp_ss|refine wr (by simp;with_reducible rfl) ?_|refine wq (by simp;with_reducible rfl) ?_|refine wt (by simpa) ?_|refine wf (by simpa) ?_|refine xt (by simpa) ?_|refine xf (by simpa) ?_|apply wp_bs|apply wp_b|refine wp_sr ?_|refine wp_sx ?_|refine wp_ret' ?_|refine wp_skip' ?_|refine wp_exit' ?_)
    refine wp_imp loop ?_
    rintro ex st ⟨rfl,D,rfl⟩
    simp only [if_true]
    repeat (first|apply wp_as|apply wp_ss|refine wr (by simp [e1];with_reducible rfl) ?_|refine wq (by simp [e1];with_reducible rfl) ?_|refine wt (by simpa [e1]) ?_|refine wf (by simpa [e1]) ?_|refine xt (by simpa [e1]) ?_|refine xf (by simpa [e1]) ?_|apply wp_bs|apply wp_b|refine wp_sr ?_|refine wp_sx ?_|refine wp_ret' ?_|refine wp_skip' ?_|refine wp_exit' ?_)
    simp [zi173]
theorem ev_SwitchesOf (n:Nat) (es:List (Int×Int)) (c:Bool) (hv:vGraph n es=true) :
    Ev tb zl199 [] [Gr n es c] [] ⟨nl4 (swl es es),[],[],[]⟩:=by
  have hn7:=(vG_iff.1 hv).2.2
  have h21:=vG21 hn7 hv
  have hf:Fit es:=fun e he=>by have:=mem_prs.1 ((vG_iff.1 hv).2.1 e he);omega
  have v1:=fun c=>ev_lim (ev_ValidGraph n es c hf (by omega))
  rw [hv] at v1
  have e1:=fun c=>ev_lim (ev_Graph_switches n es c hv)
  generalize swl es es=G at *
  cases G with
  | nil =>
    simp only [nl4] at e1 ⊢
    refine call_of_wp zt199 rfl ?_
    repeat (first|apply wp_as|apply wp_ss|refine wr (by simp [v1,e1];with_reducible rfl) ?_|refine wq (by simp [v1,e1];with_reducible rfl) ?_|refine wt (by simpa [v1,e1]) ?_|refine wf (by simpa [v1,e1]) ?_|refine xt (by simpa [v1,e1]) ?_|refine xf (by simpa [v1,e1]) ?_|apply wp_bs|apply wp_b|refine wp_sr ?_|refine wp_sx ?_|refine wp_ret' ?_|refine wp_skip' ?_|refine wp_exit' ?_)
    simp [zi199]
  | cons s r =>
    simp only [nl4] at e1 ⊢
    refine call_of_wp zt199 rfl ?_
    repeat (first|apply wp_as|apply wp_ss|refine wr (by simp [v1,e1];with_reducible rfl) ?_|refine wq (by simp [v1,e1];with_reducible rfl) ?_|refine wt (by simpa [v1,e1]) ?_|refine wf (by simpa [v1,e1]) ?_|refine xt (by simpa [v1,e1]) ?_|refine xf (by simpa [v1,e1]) ?_|apply wp_bs|apply wp_b|refine wp_sr ?_|refine wp_sx ?_|refine wp_ret' ?_|refine wp_skip' ?_|refine wp_exit' ?_)
    simp [zi199]
end Go.Idl
namespace Go.Idl
open Go
theorem ev_spec_validMatrix (t:List (List Int)) (c:Bool) (hl:t.length≤2000000) (hr:∀ r ∈ t,r.length≤2000000) :
    Ev tb zl598 [] [TL t c] [] ⟨Bo (mOk t),[],[],[]⟩:=by
  have e01:=fun x=>ev_lim (ev_inRange x 0 1)
  have inner:∀ (i:Nat) (hi:i < t.length) (m k:Nat),k+m=t[i].length→wp tb (.loop z598l10) { T:=[(0,TL t c),(3,I i),(4,I k)],loc:=[],M:=[] }
      (fun ex st=>(ex=.exit 2∧((t[i].drop k).all fun x=>decide (0≤x) && decide (x≤1))=true∧st={ T:=[(0,TL t c),(3,I i),(4,I t[i].length),(36,Bo false)],loc:=[],M:=[] }) ∨
        (ex=.ret∧((t[i].drop k).all fun x=>decide (0≤x) && decide (x≤1))=false∧st={ T:=[(2,Bo false)],loc:=[],M:=[] })):=by
    intro i hi m
    have hri:=hr _ (List.getElem_mem hi)
    induction m with
    | zero =>
      intro k hk
      obtain ⟨h1,h2⟩:=drop_endA hk
      have h3:k=t[i].length:=hk
      subst h3
      refine wp_loop ?_
      repeat (first|apply wp_as|apply wp_ss|refine wr (by simp [hi];with_reducible rfl) ?_|refine wq (by simp [hi];with_reducible rfl) ?_|refine wt (by simpa [hi]) ?_|refine wf (by simpa [hi]) ?_|refine xt (by simpa [hi]) ?_|refine xf (by simpa [hi]) ?_|apply wp_bs|apply wp_b|refine wp_sr ?_|refine wp_sx ?_|refine wp_ret' ?_|refine wp_skip' ?_|refine wp_exit' ?_)
      refine .inl ⟨rfl,by rw [h2];rfl,rfl⟩
    | succ m ih =>
      intro k hk
      obtain ⟨hk2,h2,h3⟩:=drop_getA hk
      have w2:IntKind.i64.wrap ((k:Int)+1)=((k+1:Nat):Int):=wrapS (by omega)
      have hg:=ih (k+1) (by omega)
      rw [h2]
      cases hp:(decide (0≤t[i][k]) && decide (t[i][k]≤1)) with
      | true =>
        refine wp_loop ?_
        repeat (first|apply wp_as|apply wp_ss|refine wr (by simp [hi,hk2,e01,hp,w2];with_reducible rfl) ?_|refine wq (by simp [hi,hk2,e01,hp,w2];with_reducible rfl) ?_|refine wt (by simpa [hi,hk2,e01,hp,w2]) ?_|refine wf (by simpa [hi,hk2,e01,hp,w2]) ?_|refine xt (by simpa [hi,hk2,e01,hp,w2]) ?_|refine xf (by simpa [hi,hk2,e01,hp,w2]) ?_|apply wp_bs|apply wp_b|refine wp_sr ?_|refine wp_sx ?_|refine wp_ret' ?_|refine wp_skip' ?_|refine wp_exit' ?_)
        simp only [List.all_cons,hp,Bool.true_and] at hg ⊢
        exact hg
      | false =>
        refine wp_loop ?_
        repeat (first|apply wp_as|apply wp_ss|refine wr (by simp [hi,hk2,e01,hp,w2];with_reducible rfl) ?_|refine wq (by simp [hi,hk2,e01,hp,w2];with_reducible rfl) ?_|refine wt (by simpa [hi,hk2,e01,hp,w2]) ?_|refine wf (by simpa [hi,hk2,e01,hp,w2]) ?_|refine xt (by simpa [hi,hk2,e01,hp,w2]) ?_|refine xf (by simpa [hi,hk2,e01,hp,w2]) ?_|apply wp_bs|apply wp_b|refine wp_sr ?_|refine wp_sx ?_|refine wp_ret' ?_|refine wp_skip' ?_|refine wp_exit' ?_)
        refine .inr ⟨rfl,by simp only [List.all_cons,hp,Bool.false_and],rfl⟩
  have loop:∀ (m i:Nat),i+m=t.length→wp tb (.loop z598l12) { T:=[(0,TL t c),(3,I i)],loc:=[],M:=[] }
      (fun ex st=>(ex=.exit 0∧((t.drop i).all (rowOk (t.getD 0 []).length))=true∧st={ T:=[(0,TL t c),(3,I t.length),(8,Bo false)],loc:=[],M:=[] }) ∨
        ex=.ret∧((t.drop i).all (rowOk (t.getD 0 []).length))=false∧st={ T:=[(2,Bo false)],loc:=[],M:=[] }):=by
    intro m
    induction m with
    | zero =>
      intro i hi
      obtain ⟨h1,h2⟩:=drop_endA hi
      have h3:i=t.length:=hi
      subst h3
      refine wp_loop ?_
      repeat (first|apply wp_as|apply wp_ss|refine wr (by simp;with_reducible rfl) ?_|refine wq (by simp;with_reducible rfl) ?_|refine wt (by simpa) ?_|refine wf (by simpa) ?_|refine xt (by simpa) ?_|refine xf (by simpa) ?_|apply wp_bs|apply wp_b|refine wp_sr ?_|refine wp_sx ?_|refine wp_ret' ?_|refine wp_skip' ?_|refine wp_exit' ?_)
      refine .inl ⟨rfl,by rw [h2];rfl,rfl⟩
    | succ m ih =>
      intro i hi
      obtain ⟨hi2,h2,h3⟩:=drop_getA hi
      have w2:IntKind.i64.wrap ((i:Int)+1)=((i+1:Nat):Int):=wrapS (by omega)
      have h0:0 < t.length:=by omega
      have e1:=ev_lim (ev_inRange (t[i].length:Int) 1 5)
      have hg:(t.getD 0 []).length=t[0].length:=by simp [List.getD_eq_getElem?_getD,List.getElem?_eq_getElem h0]
      have hin:=inner i hi2 t[i].length 0 (by omega)
      rw [List.drop_zero,show ((0:Nat):Int)=0 from rfl] at hin
      rw [h2]
      by_cases ha:t[i].length=t[0].length
      rotate_left
      · refine wp_loop ?_
        repeat (first|apply wp_as|apply wp_ss|refine wr (by simp [hi2,h0,Int.ofNat_inj,ha];with_reducible rfl) ?_|refine wq (by simp [hi2,h0,Int.ofNat_inj,ha];with_reducible rfl) ?_|refine wt (by simpa [hi2,h0,Int.ofNat_inj,ha]) ?_|refine wf (by simpa [hi2,h0,Int.ofNat_inj,ha]) ?_|refine xt (by simpa [hi2,h0,Int.ofNat_inj,ha]) ?_|refine xf (by simpa [hi2,h0,Int.ofNat_inj,ha]) ?_|apply wp_bs|apply wp_b|refine wp_sr ?_|refine wp_sx ?_|refine wp_ret' ?_|refine wp_skip' ?_|refine wp_exit' ?_)
        refine .inr ⟨rfl,by simp only [List.all_cons,rowOk,hg,ha,decide_false,Bool.false_and],rfl⟩
      cases hb:(decide (1≤(t[i].length:Int)) && decide ((t[i].length:Int)≤5)) with
      | false =>
        rw [hb] at e1
        refine wp_loop ?_
        repeat (first|apply wp_as|apply wp_ss|refine wr (by simp [hi2,h0,Int.ofNat_inj,← ha,e1];with_reducible rfl) ?_|refine wq (by simp [hi2,h0,Int.ofNat_inj,← ha,e1];with_reducible rfl) ?_|refine wt (by simpa [hi2,h0,Int.ofNat_inj,← ha,e1]) ?_|refine wf (by simpa [hi2,h0,Int.ofNat_inj,← ha,e1]) ?_|refine xt (by simpa [hi2,h0,Int.ofNat_inj,← ha,e1]) ?_|refine xf (by simpa [hi2,h0,Int.ofNat_inj,← ha,e1]) ?_|apply wp_bs|apply wp_b|refine wp_sr ?_|refine wp_sx ?_|refine wp_ret' ?_|refine wp_skip' ?_|refine wp_exit' ?_)
        refine .inr ⟨rfl,by simp only [List.all_cons,rowOk,hb,Bool.false_and,Bool.and_false],rfl⟩
      | true =>
        rw [hb] at e1
        refine wp_loop ?_
        repeat (first|apply wp_as|apply wp_ss|refine wr (by simp [hi2,h0,Int.ofNat_inj,← ha,e1];with_reducible rfl) ?_|refine wq (by simp [hi2,h0,Int.ofNat_inj,← ha,e1];with_reducible rfl) ?_|refine wt (by simpa [hi2,h0,Int.ofNat_inj,← ha,e1]) ?_|refine wf (by simpa [hi2,h0,Int.ofNat_inj,← ha,e1]) ?_|refine xt (by simpa [hi2,h0,Int.ofNat_inj,← ha,e1]) ?_|refine xf (by simpa [hi2,h0,Int.ofNat_inj,← ha,e1]) ?_|apply wp_bs|apply wp_b|refine wp_sr ?_|refine wp_sx ?_|refine wp_ret' ?_|refine wp_skip' ?_|refine wp_exit' ?_)
        refine wp_imp hin ?_
        rintro ex st (⟨rfl,h4,rfl⟩ | ⟨rfl,h4,rfl⟩)
        · have:=ih (i+1) (by omega)
          have hro:rowOk (t.getD 0 []).length t[i]=true:=by simp only [rowOk,hg,← ha,hb,h4,decide_true,Bool.and_true]
          simp only [List.all_cons,hro,Bool.true_and] at this ⊢
          try simp only [if_true]
          repeat (first|apply wp_as|apply wp_ss|refine wr (by simp [w2];with_reducible rfl) ?_|refine wq (by simp [w2];with_reducible rfl) ?_|refine wt (by simpa [w2]) ?_|refine wf (by simpa [w2]) ?_|refine xt (by simpa [w2]) ?_|refine xf (by simpa [w2]) ?_|apply wp_bs|apply wp_b|refine wp_sr ?_|refine wp_sx ?_|refine wp_ret' ?_|refine wp_skip' ?_|refine wp_exit' ?_)
          exact this
        · refine .inr ⟨rfl,by simp only [List.all_cons,rowOk,h4,Bool.false_and,Bool.and_false],rfl⟩
  have e1:=ev_lim (ev_inRange (t.length:Int) 1 5)
  have hl0:=loop t.length 0 (by omega)
  rw [show ((0:Nat):Int)=0 from rfl] at hl0
  refine call_of_wp zt598 rfl ?_
  repeat (first|apply wp_as|apply wp_ss|refine wr (by simp;with_reducible rfl) ?_|refine wq (by simp;with_reducible rfl) ?_|refine wt (by simpa) ?_|refine wf (by simpa) ?_|refine xt (by simpa) ?_|refine xf (by simpa) ?_|apply wp_bs|apply wp_b|refine wp_sr ?_|refine wp_sx ?_|refine wp_ret' ?_|refine wp_skip' ?_|refine wp_exit' ?_)
  refine wp_imp hl0 ?_
  rintro ex st (⟨rfl,h,rfl⟩ | ⟨rfl,h,rfl⟩)
  · simp only [if_true]
    repeat (first|apply wp_as|apply wp_ss|refine wr (by simp [e1];with_reducible rfl) ?_|refine wq (by simp [e1];with_reducible rfl) ?_|refine wt (by simpa [e1]) ?_|refine wf (by simpa [e1]) ?_|refine xt (by simpa [e1]) ?_|refine xf (by simpa [e1]) ?_|apply wp_bs|apply wp_b|refine wp_sr ?_|refine wp_sx ?_|refine wp_ret' ?_|refine wp_skip' ?_|refine wp_exit' ?_)
    simp only [List.drop_zero] at h
    simp only [mOk,h]
    simp [zi598]
  · simp only [List.drop_zero] at h
    simp only [mOk,h]
    simp [zi598]
def chB (t:List (List Int)) (a b c d:Nat):Bool:=decide (g2 t a b=1) && (decide (g2 t c d=1) && (decide (g2 t a d=0) && decide (g2 t c b=0)))
set_option maxHeartbeats 4000000 in
theorem ev_changeable (h w:Nat) (t:List (List Int)) (cl:Bool) (hh:1≤h∧h≤5) (hw:1≤w∧w≤5) (hl:t.length=h) (hr:∀ r ∈ t,r.length=w) (a b c d:Nat) (ha:a < h) (hb:b < w) (hc:c < h) (hd:d < w) :
    Ev tb zl521 [] [TL t cl,.agg [I a,I b,I c,I d]] [] ⟨Bo (chB t a b c d),[],[],[]⟩:=by
  have h0:0 < t.length:=by omega
  have hr0:=hr _ (List.getElem_mem h0)
  have hat:a < t.length:=by omega
  have hct:c < t.length:=by omega
  have hra:=hr _ (List.getElem_mem hat)
  have hrc:=hr _ (List.getElem_mem hct)
  have hba:b < t[a].length:=by omega
  have hda:d < t[a].length:=by omega
  have hbc:b < t[c].length:=by omega
  have hdc:d < t[c].length:=by omega
  have w1:IntKind.i64.wrap ((h:Int) - 1)=(h:Int) - 1:=wrap64 (by omega) (by omega)
  have w2:IntKind.i64.wrap ((w:Int) - 1)=(w:Int) - 1:=wrap64 (by omega) (by omega)
  have i1:∀ x:Nat,x < h→limF tb zl38 [] [I x,I 0,I ((h:Int) - 1)] []=some ⟨Bo true,[],[],[]⟩:=fun x hx=>by
    have:=ev_lim (ev_in (x:Int) 0 ((h:Int) - 1))
    rw [show (decide ((0:Int)≤x) && decide ((x:Int)≤(h:Int) - 1))=true by rw [Bool.and_eq_true,decide_eq_true_eq,decide_eq_true_eq];omega] at this
    exact this
  have i2:∀ x:Nat,x < w→limF tb zl38 [] [I x,I 0,I ((w:Int) - 1)] []=some ⟨Bo true,[],[],[]⟩:=fun x hx=>by
    have:=ev_lim (ev_in (x:Int) 0 ((w:Int) - 1))
    rw [show (decide ((0:Int)≤x) && decide ((x:Int)≤(w:Int) - 1))=true by rw [Bool.and_eq_true,decide_eq_true_eq,decide_eq_true_eq];omega] at this
    exact this
  have j1:=i1 a ha
  have j2:=i1 c hc
  have j3:=i2 b hb
  have j4:=i2 d hd
  rw [chB,g2_eq hat hba,g2_eq hct hdc,g2_eq hat hda,g2_eq hct hbc]
  refine call_of_wp zt521 rfl ?_
  repeat (first|apply wp_as|apply wp_ss|refine wr (by simp [h0,hl,hr0];with_reducible rfl) ?_|refine wq (by simp [h0,hl,hr0];with_reducible rfl) ?_|refine wt (by simpa [h0,hl,hr0]) ?_|refine wf (by simpa [h0,hl,hr0]) ?_|refine xt (by simpa [h0,hl,hr0]) ?_|refine xf (by simpa [h0,hl,hr0]) ?_|apply wp_bs|apply wp_b|refine wp_sr ?_|refine wp_sx ?_|refine wp_ret' ?_|refine wp_skip' ?_|refine wp_exit' ?_)
  refine wp_ra (by simp [h0,hl,hr0,w1,w2,show 0 < h by omega];with_reducible rfl) (by simp;with_reducible rfl) ?_ ?_
  · intro p hp
    simp only [List.mem_cons,List.not_mem_nil,or_false] at hp
    subst hp
    exact ⟨_,by simp [h0,hl,hr0,w1,w2,show 0 < h by omega];with_reducible rfl,by simp⟩
  by_cases q1:t[a][b]=1
  rotate_left
  · repeat (first | apply wp_as | apply wp_ss | refine wr (by simp [j1,j2,j3,j4,hat,hct,ha,hc,hl,hba,hda,hbc,hdc,hra,hrc,hb,hd,q1];with_reducible rfl) ?_ | refine wq (by simp [j1,j2,j3,j4,hat,hct,ha,hc,hl,hba,hda,hbc,hdc,hra,hrc,hb,hd,q1];with_reducible rfl) ?_ | refine wt (by simpa [j1,j2,j3,j4,hat,hct,ha,hc,hl,hba,hda,hbc,hdc,hra,hrc,hb,hd,q1]) ?_ | refine wf (by simpa [j1,j2,j3,j4,hat,hct,ha,hc,hl,hba,hda,hbc,hdc,hra,hrc,hb,hd,q1]) ?_ | refine xt (by simpa [j1,j2,j3,j4,hat,hct,ha,hc,hl,hba,hda,hbc,hdc,hra,hrc,hb,hd,q1]) ?_ | refine xf (by simpa [j1,j2,j3,j4,hat,hct,ha,hc,hl,hba,hda,hbc,hdc,hra,hrc,hb,hd,q1]) ?_ | apply wp_bs | apply wp_b | refine wp_sr ?_ | refine wp_sx ?_ | refine wp_ret' ?_ | refine wp_skip' ?_ | refine wp_exit' ?_)
    simp [zi521,q1]
  by_cases q2:t[c][d]=1
  rotate_left
  · repeat (first | apply wp_as | apply wp_ss | refine wr (by simp [j1,j2,j3,j4,hat,hct,ha,hc,hl,hba,hda,hbc,hdc,hra,hrc,hb,hd,q1,q2];with_reducible rfl) ?_ | refine wq (by simp [j1,j2,j3,j4,hat,hct,ha,hc,hl,hba,hda,hbc,hdc,hra,hrc,hb,hd,q1,q2];with_reducible rfl) ?_ | refine wt (by simpa [j1,j2,j3,j4,hat,hct,ha,hc,hl,hba,hda,hbc,hdc,hra,hrc,hb,hd,q1,q2]) ?_ | refine wf (by simpa [j1,j2,j3,j4,hat,hct,ha,hc,hl,hba,hda,hbc,hdc,hra,hrc,hb,hd,q1,q2]) ?_ | refine xt (by simpa [j1,j2,j3,j4,hat,hct,ha,hc,hl,hba,hda,hbc,hdc,hra,hrc,hb,hd,q1,q2]) ?_ | refine xf (by simpa [j1,j2,j3,j4,hat,hct,ha,hc,hl,hba,hda,hbc,hdc,hra,hrc,hb,hd,q1,q2]) ?_ | apply wp_bs | apply wp_b | refine wp_sr ?_ | refine wp_sx ?_ | refine wp_ret' ?_ | refine wp_skip' ?_ | refine wp_exit' ?_)
    simp [zi521,q2]
  by_cases q3:t[a][d]=0
  rotate_left
  · repeat (first | apply wp_as | apply wp_ss | refine wr (by simp [j1,j2,j3,j4,hat,hct,ha,hc,hl,hba,hda,hbc,hdc,hra,hrc,hb,hd,q1,q2,q3];with_reducible rfl) ?_ | refine wq (by simp [j1,j2,j3,j4,hat,hct,ha,hc,hl,hba,hda,hbc,hdc,hra,hrc,hb,hd,q1,q2,q3];with_reducible rfl) ?_ | refine wt (by simpa [j1,j2,j3,j4,hat,hct,ha,hc,hl,hba,hda,hbc,hdc,hra,hrc,hb,hd,q1,q2,q3]) ?_ | refine wf (by simpa [j1,j2,j3,j4,hat,hct,ha,hc,hl,hba,hda,hbc,hdc,hra,hrc,hb,hd,q1,q2,q3]) ?_ | refine xt (by simpa [j1,j2,j3,j4,hat,hct,ha,hc,hl,hba,hda,hbc,hdc,hra,hrc,hb,hd,q1,q2,q3]) ?_ | refine xf (by simpa [j1,j2,j3,j4,hat,hct,ha,hc,hl,hba,hda,hbc,hdc,hra,hrc,hb,hd,q1,q2,q3]) ?_ | apply wp_bs | apply wp_b | refine wp_sr ?_ | refine wp_sx ?_ | refine wp_ret' ?_ | refine wp_skip' ?_ | refine wp_exit' ?_)
    simp [zi521,q3]
  repeat (first|apply wp_as|apply wp_ss|refine wr (by simp [j1,j2,j3,j4,hat,hct,ha,hc,hl,hba,hda,hbc,hdc,hra,hrc,hb,hd,q1,q2,q3];with_reducible rfl) ?_|refine wq (by simp [j1,j2,j3,j4,hat,hct,ha,hc,hl,hba,hda,hbc,hdc,hra,hrc,hb,hd,q1,q2,q3];with_reducible rfl) ?_|refine wt (by simpa [j1,j2,j3,j4,hat,hct,ha,hc,hl,hba,hda,hbc,hdc,hra,hrc,hb,hd,q1,q2,q3]) ?_|refine wf (by simpa [j1,j2,j3,j4,hat,hct,ha,hc,hl,hba,hda,hbc,hdc,hra,hrc,hb,hd,q1,q2,q3]) ?_|refine xt (by simpa [j1,j2,j3,j4,hat,hct,ha,hc,hl,hba,hda,hbc,hdc,hra,hrc,hb,hd,q1,q2,q3]) ?_|refine xf (by simpa [j1,j2,j3,j4,hat,hct,ha,hc,hl,hba,hda,hbc,hdc,hra,hrc,hb,hd,q1,q2,q3]) ?_|apply wp_bs|apply wp_b|refine wp_sr ?_|refine wp_sx ?_|refine wp_ret' ?_|refine wp_skip' ?_|refine wp_exit' ?_)
  simp [zi521,q1,q2,q3]
  try rfl
end Go.Idl
namespace Go.Idl
open Go
def icD (t:List (List Int)) (a c b:Nat):Nat→Nat→List Q4
  | 0,_=>[]
  | m+1,d=>(if chB t a b c d=true then [((a:Int),(b:Int),(c:Int),(d:Int))] else [])++icD t a c b m (d+1)
def icB (t:List (List Int)) (a c w:Nat):Nat→Nat→List Q4
  | 0,_=>[]
  | m+1,b=>icD t a c b w 0++icB t a c w m (b+1)
def icC (t:List (List Int)) (a w:Nat):Nat→Nat→List Q4
  | 0,_=>[]
  | m+1,c=>icB t a c w w 0++icC t a w m (c+1)
def icA (t:List (List Int)) (h w:Nat):Nat→Nat→List Q4
  | 0,_=>[]
  | m+1,a=>icC t a w (h - (a+1)) (a+1)++icA t h w m (a+1)
theorem icD_len (t:List (List Int)) (a c b:Nat):∀ m d,(icD t a c b m d).length≤m
  | 0,_=>by simp [icD]
  | m+1,d=>by
    have:=icD_len t a c b m (d+1)
    rw [icD,List.length_append]
    split <;> simp <;> omega
theorem icB_len (t:List (List Int)) (a c w:Nat):∀ m b,(icB t a c w m b).length≤w * m
  | 0,_=>by simp [icB]
  | m+1,b=>by
    have h1:=icB_len t a c w m (b+1)
    have h2:=icD_len t a c b w 0
    rw [icB,List.length_append,Nat.mul_succ];omega
section
variable (h w:Nat) (t:List (List Int)) (cl:Bool) (hh:1≤h∧h≤5) (hw:1≤w∧w≤5) (hl:t.length=h) (hr:∀ r ∈ t,r.length=w)
include hh hw hl hr
set_option maxHeartbeats 2000000 in
theorem ic_d (a b c:Nat) (ha:a < h) (hb:b < w) (hc:c < h):∀ (m d:Nat) (acc:List Q4) (lo:Boxes),d+m=w→acc.length+m≤100000 →
    wp tb (.loop z508l19) { T:=[(0,TL t cl),(3,nl4 acc),(4,I a),(5,I c),(6,I b),(13,I h),(14,I a),(28,I w),(29,I b),(35,I w),(36,I d)],loc:=lo,M:=[] }
      (fun ex st=>ex=.exit 6∧∃ lo',st={ T:=[(0,TL t cl),(3,nl4 (acc++icD t a c b m d)),(4,I a),(5,I c),(6,I b),(13,I h),(14,I a),(28,I w),(29,I b),(35,I w),(36,I w),(37,Bo false)],loc:=lo',M:=[] }):=by
  intro m
  induction m with
  | zero =>
    intro d acc lo hd hac
    have h3:d=w:=hd
    subst h3
    rw [icD,List.append_nil]
    cases acc with
    | nil =>
      simp only [nl4]
      refine wp_loop ?_
      repeat (first|apply wp_as|apply wp_ss|refine wr (by simp;with_reducible rfl) ?_|refine wq (by simp;with_reducible rfl) ?_|refine wt (by simpa) ?_|refine wf (by simpa) ?_|refine xt (by simpa) ?_|refine xf (by simpa) ?_|apply wp_bs|apply wp_b|refine wp_sr ?_|refine wp_sx ?_|refine wp_ret' ?_|refine wp_skip' ?_|refine wp_exit' ?_)
      exact ⟨rfl,lo,rfl⟩
    | cons x r =>
      simp only [nl4]
      refine wp_loop ?_
      repeat (first|apply wp_as|apply wp_ss|refine wr (by simp;with_reducible rfl) ?_|refine wq (by simp;with_reducible rfl) ?_|refine wt (by simpa) ?_|refine wf (by simpa) ?_|refine xt (by simpa) ?_|refine xf (by simpa) ?_|apply wp_bs|apply wp_b|refine wp_sr ?_|refine wp_sx ?_|refine wp_ret' ?_|refine wp_skip' ?_|refine wp_exit' ?_)
      exact ⟨rfl,lo,rfl⟩
  | succ m ih =>
    intro d acc lo hd hac
    have hdw:d < w:=by omega
    have w2:IntKind.i64.wrap ((d:Int)+1)=((d+1:Nat):Int):=wrapS (by omega)
    have e1:=fun cl=>ev_lim (ev_changeable h w t cl hh hw hl hr a b c d ha hb hc hdw)
    have h9:acc.length+1≤274877906944:=by omega
    rw [icD]
    cases hq:chB t a b c d with
    | false =>
      rw [hq] at e1
      rw [if_neg (by simp),List.nil_append]
      have hg:=fun lo=>ih (d+1) acc lo (by omega) (by omega)
      cases acc with
      | nil =>
        simp only [nl4,List.nil_append] at hg ⊢
        refine wp_loop ?_
        repeat (first|apply wp_as|apply wp_ss|refine wr (by simp [hdw,e1,w2];with_reducible rfl) ?_|refine wq (by simp [hdw,e1,w2];with_reducible rfl) ?_|refine wt (by simpa [hdw,e1,w2]) ?_|refine wf (by simpa [hdw,e1,w2]) ?_|refine xt (by simpa [hdw,e1,w2]) ?_|refine xf (by simpa [hdw,e1,w2]) ?_|apply wp_bs|apply wp_b|refine wp_sr ?_|refine wp_sx ?_|refine wp_ret' ?_|refine wp_skip' ?_|refine wp_exit' ?_)
        exact hg _
      | cons x r =>
        simp only [nl4] at hg ⊢
        refine wp_loop ?_
        repeat (first|apply wp_as|apply wp_ss|refine wr (by simp [hdw,e1,w2];with_reducible rfl) ?_|refine wq (by simp [hdw,e1,w2];with_reducible rfl) ?_|refine wt (by simpa [hdw,e1,w2]) ?_|refine wf (by simpa [hdw,e1,w2]) ?_|refine xt (by simpa [hdw,e1,w2]) ?_|refine xf (by simpa [hdw,e1,w2]) ?_|apply wp_bs|apply wp_b|refine wp_sr ?_|refine wp_sx ?_|refine wp_ret' ?_|refine wp_skip' ?_|refine wp_exit' ?_)
        exact hg _
    | true =>
      rw [hq] at e1
      rw [if_pos rfl,← List.append_assoc]
      have hg:=fun lo=>ih (d+1) (acc++[((a:Int),(b:Int),(c:Int),(d:Int))]) lo (by omega) (by simp;omega)
      rw [nl4_app] at hg
      cases acc with
      | nil =>
        simp only [nl4,List.nil_append] at hg ⊢
        refine wp_loop ?_
        repeat (first|apply wp_as|apply wp_ss|refine wr (by simp [hdw,e1,w2];with_reducible rfl) ?_|refine wq (by simp [hdw,e1,w2];with_reducible rfl) ?_|refine wt (by simpa [hdw,e1,w2]) ?_|refine wf (by simpa [hdw,e1,w2]) ?_|refine xt (by simpa [hdw,e1,w2]) ?_|refine xf (by simpa [hdw,e1,w2]) ?_|apply wp_bs|apply wp_b|refine wp_sr ?_|refine wp_sx ?_|refine wp_ret' ?_|refine wp_skip' ?_|refine wp_exit' ?_)
        exact hg _
      | cons x r =>
        simp only [nl4] at hg ⊢
        generalize x::r=A at *
        refine wp_loop ?_
        repeat (first|apply wp_as|apply wp_ss|refine wr (by simp [hdw,e1,w2,h9];with_reducible rfl) ?_|refine wq (by simp [hdw,e1,w2,h9];with_reducible rfl) ?_|refine wt (by simpa [hdw,e1,w2,h9]) ?_|refine wf (by simpa [hdw,e1,w2,h9]) ?_|refine xt (by simpa [hdw,e1,w2,h9]) ?_|refine xf (by simpa [hdw,e1,w2,h9]) ?_|apply wp_bs|apply wp_b|refine wp_sr ?_|refine wp_sx ?_|refine wp_ret' ?_|refine wp_skip' ?_|refine wp_exit' ?_)
        exact hg _
set_option maxHeartbeats 2000000 in
theorem ic_b (a c:Nat) (ha:a < h) (hc:c < h):∀ (m b:Nat) (acc:List Q4) (lo:Boxes),b+m=w→acc.length+10 * m≤90000 →
    wp tb (.loop z508l21) { T:=[(0,TL t cl),(3,nl4 acc),(4,I a),(5,I c),(13,I h),(14,I a),(28,I w),(29,I b)],loc:=lo,M:=[] }
      (fun ex st=>ex=.exit 4∧∃ lo',st={ T:=[(0,TL t cl),(3,nl4 (acc++icB t a c w m b)),(4,I a),(5,I c),(13,I h),(14,I a),(28,I w),(29,I w),(30,Bo false)],loc:=lo',M:=[] }):=by
  intro m
  have h0:0 < t.length:=by omega
  have hr0:=hr _ (List.getElem_mem h0)
  have h0':0 < h:=by omega
  induction m with
  | zero =>
    intro b acc lo hb hac
    have h3:b=w:=hb
    subst h3
    rw [icB,List.append_nil]
    cases acc with
    | nil =>
      simp only [nl4]
      refine wp_loop ?_
      repeat (first|apply wp_as|apply wp_ss|refine wr (by simp;with_reducible rfl) ?_|refine wq (by simp;with_reducible rfl) ?_|refine wt (by simpa) ?_|refine wf (by simpa) ?_|refine xt (by simpa) ?_|refine xf (by simpa) ?_|apply wp_bs|apply wp_b|refine wp_sr ?_|refine wp_sx ?_|refine wp_ret' ?_|refine wp_skip' ?_|refine wp_exit' ?_)
      exact ⟨rfl,lo,rfl⟩
    | cons x r =>
      simp only [nl4]
      refine wp_loop ?_
      repeat (first|apply wp_as|apply wp_ss|refine wr (by simp;with_reducible rfl) ?_|refine wq (by simp;with_reducible rfl) ?_|refine wt (by simpa) ?_|refine wf (by simpa) ?_|refine xt (by simpa) ?_|refine xf (by simpa) ?_|apply wp_bs|apply wp_b|refine wp_sr ?_|refine wp_sx ?_|refine wp_ret' ?_|refine wp_skip' ?_|refine wp_exit' ?_)
      exact ⟨rfl,lo,rfl⟩
  | succ m ih =>
    intro b acc lo hb hac
    have hbw:b < w:=by omega
    have w2:IntKind.i64.wrap ((b:Int)+1)=((b+1:Nat):Int):=wrapS (by omega)
    have hd:=ic_d h w t cl hh hw hl hr a b c ha hbw hc w 0 acc lo (by omega) (by omega)
    have hdl:=icD_len t a c b w 0
    have hg:=fun lo=>ih (b+1) (acc++icD t a c b w 0) lo (by omega) (by simp;omega)
    rw [show ((0:Nat):Int)=0 from rfl] at hd
    rw [icB,← List.append_assoc]
    generalize acc++icD t a c b w 0=acc2 at *
    cases acc with
    | nil =>
      simp only [nl4] at hd ⊢
      refine wp_loop ?_
      repeat (first|apply wp_as|apply wp_ss|refine wr (by simp [hbw,h0,h0',hl,hr0];with_reducible rfl) ?_|refine wq (by simp [hbw,h0,h0',hl,hr0];with_reducible rfl) ?_|refine wt (by simpa [hbw,h0,h0',hl,hr0]) ?_|refine wf (by simpa [hbw,h0,h0',hl,hr0]) ?_|refine xt (by simpa [hbw,h0,h0',hl,hr0]) ?_|refine xf (by simpa [hbw,h0,h0',hl,hr0]) ?_|apply wp_bs|apply wp_b|refine wp_sr ?_|refine wp_sx ?_|refine wp_ret' ?_|refine wp_skip' ?_|refine wp_exit' ?_)
      refine wp_imp hd ?_
      rintro ex st ⟨rfl,lo',rfl⟩
      simp only [if_true]
      cases acc2 with
      | nil =>
        simp only [nl4] at hg ⊢
        repeat (first|apply wp_as|apply wp_ss|refine wr (by simp [w2];with_reducible rfl) ?_|refine wq (by simp [w2];with_reducible rfl) ?_|refine wt (by simpa [w2]) ?_|refine wf (by simpa [w2]) ?_|refine xt (by simpa [w2]) ?_|refine xf (by simpa [w2]) ?_|apply wp_bs|apply wp_b|refine wp_sr ?_|refine wp_sx ?_|refine wp_ret' ?_|refine wp_skip' ?_|refine wp_exit' ?_)
        exact hg _
      | cons y s =>
        simp only [nl4] at hg ⊢
        repeat (first|apply wp_as|apply wp_ss|refine wr (by simp [w2];with_reducible rfl) ?_|refine wq (by simp [w2];with_reducible rfl) ?_|refine wt (by simpa [w2]) ?_|refine wf (by simpa [w2]) ?_|refine xt (by simpa [w2]) ?_|refine xf (by simpa [w2]) ?_|apply wp_bs|apply wp_b|refine wp_sr ?_|refine wp_sx ?_|refine wp_ret' ?_|refine wp_skip' ?_|refine wp_exit' ?_)
        exact hg _
    | cons x r =>
      simp only [nl4] at hd ⊢
      refine wp_loop ?_
      repeat (first|apply wp_as|apply wp_ss|refine wr (by simp [hbw,h0,h0',hl,hr0];with_reducible rfl) ?_|refine wq (by simp [hbw,h0,h0',hl,hr0];with_reducible rfl) ?_|refine wt (by simpa [hbw,h0,h0',hl,hr0]) ?_|refine wf (by simpa [hbw,h0,h0',hl,hr0]) ?_|refine xt (by simpa [hbw,h0,h0',hl,hr0]) ?_|refine xf (by simpa [hbw,h0,h0',hl,hr0]) ?_|apply wp_bs|apply wp_b|refine wp_sr ?_|refine wp_sx ?_|refine wp_ret' ?_|refine wp_skip' ?_|refine wp_exit' ?_)
      refine wp_imp hd ?_
      rintro ex st ⟨rfl,lo',rfl⟩
      simp only [if_true]
      cases acc2 with
      | nil =>
        simp only [nl4] at hg ⊢
        repeat (first|apply wp_as|apply wp_ss|refine wr (by simp [w2];with_reducible rfl) ?_|refine wq (by simp [w2];with_reducible rfl) ?_|refine wt (by simpa [w2]) ?_|refine wf (by simpa [w2]) ?_|refine xt (by simpa [w2]) ?_|refine xf (by simpa [w2]) ?_|apply wp_bs|apply wp_b|refine wp_sr ?_|refine wp_sx ?_|refine wp_ret' ?_|refine wp_skip' ?_|refine wp_exit' ?_)
        exact hg _
      | cons y s =>
        simp only [nl4] at hg ⊢
        repeat (first|apply wp_as|apply wp_ss|refine wr (by simp [w2];with_reducible rfl) ?_|refine wq (by simp [w2];with_reducible rfl) ?_|refine wt (by simpa [w2]) ?_|refine wf (by simpa [w2]) ?_|refine xt (by simpa [w2]) ?_|refine xf (by simpa [w2]) ?_|apply wp_bs|apply wp_b|refine wp_sr ?_|refine wp_sx ?_|refine wp_ret' ?_|refine wp_skip' ?_|refine wp_exit' ?_)
        exact hg _
end
end Go.Idl
namespace Go.Idl
open Go
section
variable (h w:Nat) (t:List (List Int)) (cl:Bool) (hh:1≤h∧h≤5) (hw:1≤w∧w≤5) (hl:t.length=h) (hr:∀ r ∈ t,r.length=w)
include hh hw hl hr
theorem icB_le (a c:Nat):(icB t a c w w 0).length≤25:=by
  have h1:=icB_len t a c w w 0
  have:w * w≤5 * 5:=Nat.mul_le_mul hw.2 hw.2
  omega
theorem icC_le (a:Nat):∀ m c,(icC t a w m c).length≤25 * m
  | 0,_=>by simp [icC]
  | m+1,c=>by
    have h1:=icC_le a m (c+1)
    have h2:=icB_le h w t hh hw hl hr a c
    rw [icC,List.length_append];omega
set_option maxHeartbeats 2000000 in
theorem ic_c (a:Nat) (ha:a < h):∀ (m c:Nat) (acc:List Q4) (lo:Boxes),c+m=h→acc.length+100 * m≤80000 →
    wp tb (.loop z508l23) { T:=[(0,TL t cl),(3,nl4 acc),(4,I a),(5,I c),(13,I h),(14,I a)],loc:=lo,M:=[] }
      (fun ex st=>ex=.exit 2∧∃ lo',st={ T:=[(0,TL t cl),(3,nl4 (acc++icC t a w m c)),(4,I a),(5,I h),(13,I h),(14,I a),(22,Bo false)],loc:=lo',M:=[] }):=by
  intro m
  have h0:0 < t.length:=by omega
  have hr0:=hr _ (List.getElem_mem h0)
  have h0':0 < h:=by omega
  induction m with
  | zero =>
    intro c acc lo hc hac
    have h3:c=h:=hc
    subst h3
    rw [icC,List.append_nil]
    cases acc with
    | nil =>
      simp only [nl4]
      refine wp_loop ?_
      repeat (first|apply wp_as|apply wp_ss|refine wr (by simp [hl];with_reducible rfl) ?_|refine wq (by simp [hl];with_reducible rfl) ?_|refine wt (by simpa [hl]) ?_|refine wf (by simpa [hl]) ?_|refine xt (by simpa [hl]) ?_|refine xf (by simpa [hl]) ?_|apply wp_bs|apply wp_b|refine wp_sr ?_|refine wp_sx ?_|refine wp_ret' ?_|refine wp_skip' ?_|refine wp_exit' ?_)
      exact ⟨rfl,lo,rfl⟩
    | cons x r =>
      simp only [nl4]
      refine wp_loop ?_
      repeat (first|apply wp_as|apply wp_ss|refine wr (by simp [hl];with_reducible rfl) ?_|refine wq (by simp [hl];with_reducible rfl) ?_|refine wt (by simpa [hl]) ?_|refine wf (by simpa [hl]) ?_|refine xt (by simpa [hl]) ?_|refine xf (by simpa [hl]) ?_|apply wp_bs|apply wp_b|refine wp_sr ?_|refine wp_sx ?_|refine wp_ret' ?_|refine wp_skip' ?_|refine wp_exit' ?_)
      exact ⟨rfl,lo,rfl⟩
  | succ m ih =>
    intro c acc lo hc hac
    have hch:c < h:=by omega
    have w2:IntKind.i64.wrap ((c:Int)+1)=((c+1:Nat):Int):=wrapS (by omega)
    have hb:=ic_b h w t cl hh hw hl hr a c ha hch w 0 acc lo (by omega) (by omega)
    have hbl:=icB_le h w t hh hw hl hr a c
    have hg:=fun lo=>ih (c+1) (acc++icB t a c w w 0) lo (by omega) (by simp;omega)
    rw [show ((0:Nat):Int)=0 from rfl] at hb
    rw [icC,← List.append_assoc]
    generalize acc++icB t a c w w 0=acc2 at *
    cases acc with
    | nil =>
      simp only [nl4] at hb ⊢
      refine wp_loop ?_
      repeat (first|apply wp_as|apply wp_ss|refine wr (by simp [hch,h0,h0',hl,hr0];with_reducible rfl) ?_|refine wq (by simp [hch,h0,h0',hl,hr0];with_reducible rfl) ?_|refine wt (by simpa [hch,h0,h0',hl,hr0]) ?_|refine wf (by simpa [hch,h0,h0',hl,hr0]) ?_|refine xt (by simpa [hch,h0,h0',hl,hr0]) ?_|refine xf (by simpa [hch,h0,h0',hl,hr0]) ?_|apply wp_bs|apply wp_b|refine wp_sr ?_|refine wp_sx ?_|refine wp_ret' ?_|refine wp_skip' ?_|refine wp_exit' ?_)
      refine wp_imp hb ?_
      rintro ex st ⟨rfl,lo',rfl⟩
      simp only [if_true]
      cases acc2 with
      | nil =>
        simp only [nl4] at hg ⊢
        repeat (first|apply wp_as|apply wp_ss|refine wr (by simp [w2];with_reducible rfl) ?_|refine wq (by simp [w2];with_reducible rfl) ?_|refine wt (by simpa [w2]) ?_|refine wf (by simpa [w2]) ?_|refine xt (by simpa [w2]) ?_|refine xf (by simpa [w2]) ?_|apply wp_bs|apply wp_b|refine wp_sr ?_|refine wp_sx ?_|refine wp_ret' ?_|refine wp_skip' ?_|refine wp_exit' ?_)
        exact hg _
      | cons y s =>
        simp only [nl4] at hg ⊢
        repeat (first|apply wp_as|apply wp_ss|refine wr (by simp [w2];with_reducible rfl) ?_|refine wq (by simp [w2];with_reducible rfl) ?_|refine wt (by simpa [w2]) ?_|refine wf (by simpa [w2]) ?_|refine xt (by simpa [w2]) ?_|refine xf (by simpa [w2]) ?_|apply wp_bs|apply wp_b|refine wp_sr ?_|refine wp_sx ?_|refine wp_ret' ?_|refine wp_skip' ?_|refine wp_exit' ?_)
        exact hg _
    | cons x r =>
      simp only [nl4] at hb ⊢
      refine wp_loop ?_
      repeat (first|apply wp_as|apply wp_ss|refine wr (by simp [hch,h0,h0',hl,hr0];with_reducible rfl) ?_|refine wq (by simp [hch,h0,h0',hl,hr0];with_reducible rfl) ?_|refine wt (by simpa [hch,h0,h0',hl,hr0]) ?_|refine wf (by simpa [hch,h0,h0',hl,hr0]) ?_|refine xt (by simpa [hch,h0,h0',hl,hr0]) ?_|refine xf (by simpa [hch,h0,h0',hl,hr0]) ?_|apply wp_bs|apply wp_b|refine wp_sr ?_|refine wp_sx ?_|refine wp_ret' ?_|refine wp_skip' ?_|refine wp_exit' ?_)
      refine wp_imp hb ?_
      rintro ex st ⟨rfl,lo',rfl⟩
      simp only [if_true]
      cases acc2 with
      | nil =>
        simp only [nl4] at hg ⊢
        repeat (first|apply wp_as|apply wp_ss|refine wr (by simp [w2];with_reducible rfl) ?_|refine wq (by simp [w2];with_reducible rfl) ?_|refine wt (by simpa [w2]) ?_|refine wf (by simpa [w2]) ?_|refine xt (by simpa [w2]) ?_|refine xf (by simpa [w2]) ?_|apply wp_bs|apply wp_b|refine wp_sr ?_|refine wp_sx ?_|refine wp_ret' ?_|refine wp_skip' ?_|refine wp_exit' ?_)
        exact hg _
      | cons y s =>
        simp only [nl4] at hg ⊢
        repeat (first|apply wp_as|apply wp_ss|refine wr (by simp [w2];with_reducible rfl) ?_|refine wq (by simp [w2];with_reducible rfl) ?_|refine wt (by simpa [w2]) ?_|refine wf (by simpa [w2]) ?_|refine xt (by simpa [w2]) ?_|refine xf (by simpa [w2]) ?_|apply wp_bs|apply wp_b|refine wp_sr ?_|refine wp_sx ?_|refine wp_ret' ?_|refine wp_skip' ?_|refine wp_exit' ?_)
        exact hg _
set_option maxHeartbeats 2000000 in
theorem ic_a:∀ (m a:Nat) (acc:List Q4) (lo:Boxes),a+m=h→acc.length+1000 * m≤70000 →
    wp tb (.loop z508l25) { T:=[(0,TL t cl),(3,nl4 acc),(13,I h),(14,I a)],loc:=lo,M:=[] }
      (fun ex st=>ex=.exit 0∧∃ lo',st={ T:=[(0,TL t cl),(3,nl4 (acc++icA t h w m a)),(13,I h),(14,I h),(15,Bo false)],loc:=lo',M:=[] }):=by
  intro m
  induction m with
  | zero =>
    intro a acc lo ha hac
    have h3:a=h:=ha
    subst h3
    rw [icA,List.append_nil]
    cases acc with
    | nil =>
      simp only [nl4]
      refine wp_loop ?_
      repeat (first|apply wp_as|apply wp_ss|refine wr (by simp;with_reducible rfl) ?_|refine wq (by simp;with_reducible rfl) ?_|refine wt (by simpa) ?_|refine wf (by simpa) ?_|refine xt (by simpa) ?_|refine xf (by simpa) ?_|apply wp_bs|apply wp_b|refine wp_sr ?_|refine wp_sx ?_|refine wp_ret' ?_|refine wp_skip' ?_|refine wp_exit' ?_)
      exact ⟨rfl,lo,rfl⟩
    | cons x r =>
      simp only [nl4]
      refine wp_loop ?_
      repeat (first|apply wp_as|apply wp_ss|refine wr (by simp;with_reducible rfl) ?_|refine wq (by simp;with_reducible rfl) ?_|refine wt (by simpa) ?_|refine wf (by simpa) ?_|refine xt (by simpa) ?_|refine xf (by simpa) ?_|apply wp_bs|apply wp_b|refine wp_sr ?_|refine wp_sx ?_|refine wp_ret' ?_|refine wp_skip' ?_|refine wp_exit' ?_)
      exact ⟨rfl,lo,rfl⟩
  | succ m ih =>
    intro a acc lo ha hac
    have hah:a < h:=by omega
    have w2:IntKind.i64.wrap ((a:Int)+1)=((a+1:Nat):Int):=wrapS (by omega)
    have hc:=ic_c h w t cl hh hw hl hr a hah (h - (a+1)) (a+1) acc lo (by omega) (by omega)
    have hcl:=icC_le h w t hh hw hl hr a (h - (a+1)) (a+1)
    have hg:=fun lo=>ih (a+1) (acc++icC t a w (h - (a+1)) (a+1)) lo (by omega) (by simp;omega)
    rw [show ((a+1:Nat):Int)=(a:Int)+1 from rfl] at hc
    have w2':IntKind.i64.wrap ((a:Int)+1)=(a:Int)+1:=by rw [w2];rfl
    rw [icA,← List.append_assoc]
    generalize acc++icC t a w (h - (a+1)) (a+1)=acc2 at *
    cases acc with
    | nil =>
      simp only [nl4] at hc ⊢
      refine wp_loop ?_
      repeat (first|apply wp_as|apply wp_ss|refine wr (by simp [hah,w2'];with_reducible rfl) ?_|refine wq (by simp [hah,w2'];with_reducible rfl) ?_|refine wt (by simpa [hah,w2']) ?_|refine wf (by simpa [hah,w2']) ?_|refine xt (by simpa [hah,w2']) ?_|refine xf (by simpa [hah,w2']) ?_|apply wp_bs|apply wp_b|refine wp_sr ?_|refine wp_sx ?_|refine wp_ret' ?_|refine wp_skip' ?_|refine wp_exit' ?_)
      refine wp_imp hc ?_
      rintro ex st ⟨rfl,lo',rfl⟩
      simp only [if_true]
      cases acc2 with
      | nil =>
        simp only [nl4] at hg ⊢
        repeat (first|apply wp_as|apply wp_ss|refine wr (by simp [w2];with_reducible rfl) ?_|refine wq (by simp [w2];with_reducible rfl) ?_|refine wt (by simpa [w2]) ?_|refine wf (by simpa [w2]) ?_|refine xt (by simpa [w2]) ?_|refine xf (by simpa [w2]) ?_|apply wp_bs|apply wp_b|refine wp_sr ?_|refine wp_sx ?_|refine wp_ret' ?_|refine wp_skip' ?_|refine wp_exit' ?_)
        exact hg _
      | cons y s =>
        simp only [nl4] at hg ⊢
        repeat (first|apply wp_as|apply wp_ss|refine wr (by simp [w2];with_reducible rfl) ?_|refine wq (by simp [w2];with_reducible rfl) ?_|refine wt (by simpa [w2]) ?_|refine wf (by simpa [w2]) ?_|refine xt (by simpa [w2]) ?_|refine xf (by simpa [w2]) ?_|apply wp_bs|apply wp_b|refine wp_sr ?_|refine wp_sx ?_|refine wp_ret' ?_|refine wp_skip' ?_|refine wp_exit' ?_)
        exact hg _
    | cons x r =>
      simp only [nl4] at hc ⊢
      refine wp_loop ?_
      repeat (first|apply wp_as|apply wp_ss|refine wr (by simp [hah,w2'];with_reducible rfl) ?_|refine wq (by simp [hah,w2'];with_reducible rfl) ?_|refine wt (by simpa [hah,w2']) ?_|refine wf (by simpa [hah,w2']) ?_|refine xt (by simpa [hah,w2']) ?_|refine xf (by simpa [hah,w2']) ?_|apply wp_bs|apply wp_b|refine wp_sr ?_|refine wp_sx ?_|refine wp_ret' ?_|refine wp_skip' ?_|refine wp_exit' ?_)
      refine wp_imp hc ?_
      rintro ex st ⟨rfl,lo',rfl⟩
      simp only [if_true]
      cases acc2 with
      | nil =>
        simp only [nl4] at hg ⊢
        repeat (first|apply wp_as|apply wp_ss|refine wr (by simp [w2];with_reducible rfl) ?_|refine wq (by simp [w2];with_reducible rfl) ?_|refine wt (by simpa [w2]) ?_|refine wf (by simpa [w2]) ?_|refine xt (by simpa [w2]) ?_|refine xf (by simpa [w2]) ?_|apply wp_bs|apply wp_b|refine wp_sr ?_|refine wp_sx ?_|refine wp_ret' ?_|refine wp_skip' ?_|refine wp_exit' ?_)
        exact hg _
      | cons y s =>
        simp only [nl4] at hg ⊢
        repeat (first|apply wp_as|apply wp_ss|refine wr (by simp [w2];with_reducible rfl) ?_|refine wq (by simp [w2];with_reducible rfl) ?_|refine wt (by simpa [w2]) ?_|refine wf (by simpa [w2]) ?_|refine xt (by simpa [w2]) ?_|refine xf (by simpa [w2]) ?_|apply wp_bs|apply wp_b|refine wp_sr ?_|refine wp_sx ?_|refine wp_ret' ?_|refine wp_skip' ?_|refine wp_exit' ?_)
        exact hg _
end
theorem ev_InterchangesOf (h w:Nat) (t:List (List Int)) (c:Bool) (hh:1≤h∧h≤5) (hw:1≤w∧w≤5) (hl:t.length=h) (hr:∀ r ∈ t,r.length=w) (hm:mOk t=true) :
    Ev tb zl508 [] [TL t c] [] ⟨nl4 (icA t h w h 0),[],[],[]⟩:=by
  have e1:=ev_lim (ev_ValidMatrix t c (by omega) (fun r hr'=>by have:=hr r hr';omega))
  rw [hm] at e1
  have ha:=fun lo=>ic_a h w t c hh hw hl hr h 0 [] lo (by omega) (by simp;omega)
  simp only [nl4,List.nil_append] at ha
  rw [show ((0:Nat):Int)=0 from rfl] at ha
  have e2:=ev_lim (ev_Clip4 [])
  have e3:=fun (x:Q4) (r:List Q4)=>ev_lim (ev_Clip4 (x::r))
  simp only [nl4] at e2 e3
  refine call_of_wp zt508 rfl ?_
  repeat (first|apply wp_as|apply wp_ss|refine wr (by simp [e1,hl];with_reducible rfl) ?_|refine wq (by simp [e1,hl];with_reducible rfl) ?_|refine wt (by simpa [e1,hl]) ?_|refine wf (by simpa [e1,hl]) ?_|refine xt (by simpa [e1,hl]) ?_|refine xf (by simpa [e1,hl]) ?_|apply wp_bs|apply wp_b|refine wp_sr ?_|refine wp_sx ?_|refine wp_ret' ?_|refine wp_skip' ?_|refine wp_exit' ?_)
  refine wp_imp (ha _) ?_
  rintro ex st ⟨rfl,lo',rfl⟩
  simp only [if_true]
  generalize icA t h w h 0=Q at *
  cases Q with
  | nil =>
    repeat (first|apply wp_as|apply wp_ss|refine wr (by simp [e2,e3];with_reducible rfl) ?_|refine wq (by simp [e2,e3];with_reducible rfl) ?_|refine wt (by simpa [e2,e3]) ?_|refine wf (by simpa [e2,e3]) ?_|refine xt (by simpa [e2,e3]) ?_|refine xf (by simpa [e2,e3]) ?_|apply wp_bs|apply wp_b|refine wp_sr ?_|refine wp_sx ?_|refine wp_ret' ?_|refine wp_skip' ?_|refine wp_exit' ?_)
    simp [zi508,nl4]
  | cons x r =>
    repeat (first|apply wp_as|apply wp_ss|refine wr (by simp [e2,e3];with_reducible rfl) ?_|refine wq (by simp [e2,e3];with_reducible rfl) ?_|refine wt (by simpa [e2,e3]) ?_|refine wf (by simpa [e2,e3]) ?_|refine xt (by simpa [e2,e3]) ?_|refine xf (by simpa [e2,e3]) ?_|apply wp_bs|apply wp_b|refine wp_sr ?_|refine wp_sx ?_|refine wp_ret' ?_|refine wp_skip' ?_|refine wp_exit' ?_)
    simp [zi508,nl4]
end Go.Idl
namespace Go.Idl
open Go
theorem prs_le21:∀ n,n≤7→(prs n).length≤21:=by decide +kernel
end Go.Idl
