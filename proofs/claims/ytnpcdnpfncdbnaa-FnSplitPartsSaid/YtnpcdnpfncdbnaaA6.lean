/- Part 6 of a proof by an ideal interpreter of the code: its definitions and lemmas. Conditions: none. -/
import Derived.KernelRfl
import Derived.Test.YtnpcdnpfncdbnaaA5
set_option linter.all false
set_option linter.unusedVariables false
set_option linter.unusedSimpArgs false
namespace Go.Idl
open Go
def idx2 (e:Int×Int):Int→List (Int×Int)→Int
  | _,[]=>-1
  | i,x::r=>if x=e then i else idx2 e (i+1) r
theorem idx2_ge (e:Int×Int):∀ (xs:List (Int×Int)) (i:Int),0≤i→(decide (0≤idx2 e i xs)=xs.any fun x=>decide (x=e))
  | [],i,h=>by simp [idx2]
  | x::r,i,h=>by
    unfold idx2
    by_cases hp:x=e
    · simp [hp,h]
    · simp [hp];simpa using idx2_ge e r (i+1) (by omega)
theorem ev_Index2 (e0:Nat) (es:List (Int×Int)) (c:Bool) (e:Int×Int) (he0:e0=2 ∨ es=[]) (hl:es.length≤100000000) (M:List Boxes) :
    Ev tb zl269 [] [.lst e0 (eds es) c,.agg [I e.1,I e.2]] M ⟨I (idx2 e 0 es),[],M,[]⟩:=by
  have loop:∀ (m i:Nat),i+m=es.length→wp tb (.loop z269l7) { T:=[(0,.lst e0 (eds es) c),(3,.bptr M.length 0 0),(7,I es.length),(8,I i)],loc:=[[I e.1,I e.2]],M:=M }
      (fun ex st=>(ex=.exit 0∧idx2 e i (es.drop i)=-1∧st={ T:=[(0,.lst e0 (eds es) c),(3,.bptr M.length 0 0),(7,I es.length),(8,I es.length),(9,Bo false)],loc:=[[I e.1,I e.2]],M:=M }) ∨
        (ex=.ret∧st={ T:=[(4,I (idx2 e i (es.drop i)))],loc:=[[I e.1,I e.2]],M:=M })):=by
    intro m
    induction m with
    | zero =>
      intro i hi
      have h3:i=es.length:=hi
      subst h3
      refine wp_loop ?_
      repeat (first|refine wp_as ?_|refine wp_ss ?_|refine wr (by simp;with_reducible rfl) ?_|refine wq (by simp;with_reducible rfl) ?_|refine wt (by simpa) ?_|refine wf (by simpa) ?_|refine xt (by simpa) ?_|refine xf (by simpa) ?_|refine wp_bs ?_|refine wp_b ?_|refine wp_sr ?_|refine wp_sx ?_|refine wp_ret' ?_|refine wp_skip' ?_|refine wp_exit' ?_)
      exact .inl ⟨rfl,by simp [idx2],rfl⟩
    | succ m ih =>
      intro i hi
      have hi2:i < es.length:=by omega
      have he:e0=2:=by
        rcases he0 with h | h
        · exact h
        · rw [h] at hi2;simp at hi2
      subst he
      have hd:es.drop i=es[i]::es.drop (i+1):=List.drop_eq_getElem_cons hi2
      have w1:IntKind.i64.wrap ((i:Int)+1)=((i+1:Nat):Int):=wrapS (by omega)
      rw [hd]
      by_cases hq:es[i]=e
      · have h1:e.1=es[i].1:=by rw [hq]
        have h2:e.2=es[i].2:=by rw [hq]
        refine wp_loop ?_
        repeat (first|refine wp_as ?_|refine wp_ss ?_|refine wr (by simp [hi2,h1,h2,w1];with_reducible rfl) ?_|refine wq (by simp [hi2,h1,h2,w1];with_reducible rfl) ?_|refine wt (by simpa [hi2,h1,h2,w1]) ?_|refine wf (by simpa [hi2,h1,h2,w1]) ?_|refine xt (by simpa [hi2,h1,h2,w1]) ?_|refine xf (by simpa [hi2,h1,h2,w1]) ?_|refine wp_bs ?_|refine wp_b ?_|refine wp_sr ?_|refine wp_sx ?_|refine wp_ret' ?_|refine wp_skip' ?_|refine wp_exit' ?_)
        exact .inr ⟨rfl,by simp [idx2,hq]⟩
      · have h3:(e.1 == es[i].1 && e.2 == es[i].2)=false:=by
          rw [← Bool.not_eq_true,Bool.and_eq_true,beq_iff_eq,beq_iff_eq]
          rintro ⟨h1,h2⟩
          exact hq (by ext <;> simp [h1,h2])
        have hn:=ih (i+1) (by omega)
        simp only [idx2,hq,if_false]
        refine wp_loop ?_
        repeat (first|refine wp_as ?_|refine wp_ss ?_|refine wr (by simp [hi2,h3,w1];with_reducible rfl) ?_|refine wq (by simp [hi2,h3,w1];with_reducible rfl) ?_|refine wt (by simpa [hi2,h3,w1]) ?_|refine wf (by simpa [hi2,h3,w1]) ?_|refine xt (by simpa [hi2,h3,w1]) ?_|refine xf (by simpa [hi2,h3,w1]) ?_|refine wp_bs ?_|refine wp_b ?_|refine wp_sr ?_|refine wp_sx ?_|refine wp_ret' ?_|refine wp_skip' ?_|refine wp_exit' ?_)
        exact hn
  refine call_of_wp zt269 rfl ?_
  repeat (first|refine wp_as ?_|refine wp_ss ?_|refine wr (by simp;with_reducible rfl) ?_|refine wq (by simp;with_reducible rfl) ?_|refine wt (by simpa) ?_|refine wf (by simpa) ?_|refine xt (by simpa) ?_|refine xf (by simpa) ?_|refine wp_bs ?_|refine wp_b ?_|refine wp_sr ?_|refine wp_sx ?_|refine wp_ret' ?_|refine wp_skip' ?_|refine wp_exit' ?_)
  refine wp_imp (loop es.length 0 (by simp)) ?_
  rintro ex st (⟨rfl,h,rfl⟩ | ⟨rfl,rfl⟩)
  · try simp only [if_true]
    repeat (first|refine wp_as ?_|refine wp_ss ?_|refine wr (by simp;with_reducible rfl) ?_|refine wq (by simp;with_reducible rfl) ?_|refine wt (by simpa) ?_|refine wf (by simpa) ?_|refine xt (by simpa) ?_|refine xf (by simpa) ?_|refine wp_bs ?_|refine wp_b ?_|refine wp_sr ?_|refine wp_sx ?_|refine wp_ret' ?_|refine wp_skip' ?_|refine wp_exit' ?_)
    simp only [List.drop_zero] at h
    simp [zi269]
    exact h.symm
  · simp [zi269]
theorem ev_Contains2 (e0:Nat) (es:List (Int×Int)) (c:Bool) (e:Int×Int) (he0:e0=2 ∨ es=[]) (hl:es.length≤100000000) (M:List Boxes) :
    Ev tb zl263 [] [.lst e0 (eds es) c,.agg [I e.1,I e.2]] M ⟨Bo (es.any fun x=>decide (x=e)),[],M,[]⟩:=by
  have e1:=ev_lim (ev_Index2 e0 es c e he0 hl [])
  have h:=idx2_ge e es 0 (by omega)
  refine call_of_wp zt263 rfl ?_
  repeat (first|refine wp_as ?_|refine wp_ss ?_|refine wr (by simp [e1];with_reducible rfl) ?_|refine wq (by simp [e1];with_reducible rfl) ?_|refine wt (by simpa [e1]) ?_|refine wf (by simpa [e1]) ?_|refine xt (by simpa [e1]) ?_|refine xf (by simpa [e1]) ?_|refine wp_bs ?_|refine wp_b ?_|refine wp_sr ?_|refine wp_sx ?_|refine wp_ret' ?_|refine wp_skip' ?_|refine wp_exit' ?_)
  simp [zi263,h]
def hasM (es:List (Int×Int)) (a b:Int):Bool:=es.any fun x=>decide (x=(min a b,max a b))
theorem ev_has (n:Int) (e0:Nat) (es:List (Int×Int)) (c:Bool) (a b:Int) (he0:e0=2 ∨ es=[]) (hl:es.length≤100000000) (M:List Boxes) :
    Ev tb zl171 [] [.agg [I n,.lst e0 (eds es) c],I a,I b] M ⟨Bo (hasM es a b),[],M,[]⟩:=by
  have e1:=ev_lim (ev_edge a b [])
  have e2:=ev_lim (ev_Contains2 e0 es c (min a b,max a b) he0 hl [])
  refine call_of_wp zt171 rfl ?_
  repeat (first|refine wp_as ?_|refine wp_ss ?_|refine wr (by simp;with_reducible rfl) ?_|refine wq (by simp;with_reducible rfl) ?_|refine wt (by simpa) ?_|refine wf (by simpa) ?_|refine xt (by simpa) ?_|refine xf (by simpa) ?_|refine wp_bs ?_|refine wp_b ?_|refine wp_sr ?_|refine wp_sx ?_|refine wp_ret' ?_|refine wp_skip' ?_|refine wp_exit' ?_)
  refine wp_ra (by simp [e1,e2];with_reducible rfl) (by simp;with_reducible rfl) ?_ ?_
  · intro p hp
    simp only [List.mem_cons,List.not_mem_nil,or_false] at hp
    subst hp
    exact ⟨_,by simp [e1,e2];with_reducible rfl,by simp⟩
  repeat (first|refine wp_as ?_|refine wp_ss ?_|refine wr (by simp;with_reducible rfl) ?_|refine wq (by simp;with_reducible rfl) ?_|refine wt (by simpa) ?_|refine wf (by simpa) ?_|refine xt (by simpa) ?_|refine xf (by simpa) ?_|refine wp_bs ?_|refine wp_b ?_|refine wp_sr ?_|refine wp_sx ?_|refine wp_ret' ?_|refine wp_skip' ?_|refine wp_exit' ?_)
  simp [zi171,hasM]
end Go.Idl
namespace Go.Idl
open Go
theorem ev_Graph_degrees (n:Nat) (es:List (Int×Int)) (c:Bool) (hn:n≤1000) (hl:es.length≤1000) (he:EdgesIn n es) :
    Ev tb zl9 [] [Gr n es c] [] ⟨O (degs n es),[],[],[]⟩:=by
  have loop:∀ (m i:Nat) (out:List Int) (bs:Boxes),i+m=es.length→out.length=n→(∀ x ∈ out,0≤x∧x≤2 * i) →
      wp tb (.loop z9l8) { T:=[(1,.bptr 0 0 0),(3,O out),(10,L2 es c),(11,I es.length),(12,I i)],loc:=[I n,L2 es c]::bs,M:=[] }
      (fun ex st=>ex=.exit 0∧∃ bs',st={ T:=[(1,.bptr 0 0 0),(3,O (dfold out (es.drop i))),(10,L2 es c),(11,I es.length),(12,I es.length),(13,Bo false)],loc:=[I n,L2 es c]::bs',M:=[] }):=by
    intro m
    induction m with
    | zero =>
      intro i out bs hi ho hb
      have h3:i=es.length:=hi
      subst h3
      refine wp_loop ?_
      repeat (first|refine wp_as ?_|refine wp_ss ?_|refine wr (by simp;with_reducible rfl) ?_|refine wq (by simp;with_reducible rfl) ?_|refine wt (by simpa) ?_|refine wf (by simpa) ?_|refine xt (by simpa) ?_|refine xf (by simpa) ?_|refine wp_bs ?_|refine wp_b ?_|refine wp_sr ?_|refine wp_sx ?_|refine wp_ret' ?_|refine wp_skip' ?_|refine wp_exit' ?_)
      exact ⟨rfl,bs,by simp [dfold]⟩
    | succ m ih =>
      intro i out bs hi ho hb
      have hi2:i < es.length:=by omega
      have w1:IntKind.i64.wrap ((i:Int)+1)=((i+1:Nat):Int):=wrapS (by omega)
      have hd:es.drop i=es[i]::es.drop (i+1):=List.drop_eq_getElem_cons hi2
      have hei:=he es[i] (List.getElem_mem hi2)
      obtain ⟨p,q,hpq,hp,hq⟩:∃ p q:Nat,es[i]=((p:Int),(q:Int))∧p < n∧q < n:=⟨es[i].1.toNat,es[i].2.toNat,by ext <;> simp <;> omega,by omega,by omega⟩
      rw [hd,hpq]
      have hpo:p < out.length:=by omega
      have hx:=hb out[p] (List.getElem_mem hpo)
      have w2:IntKind.i64.wrap (out[p]+1)=out[p]+1:=wrap64 (by omega) (by omega)
      have e1:=bump_eq hpo
      have b1:=bump_bound (i:=p) hb (by omega)
      have l1:=bump_len out p
      have hstep:dfold out (((p:Int),(q:Int))::es.drop (i+1))=dfold (bump (bump out p) q) (es.drop (i+1)):=rfl
      rw [hstep]
      refine wp_loop ?_
      repeat (first|refine wp_as ?_|refine wp_ss ?_|refine wr (by simp [hi2,hpq];with_reducible rfl) ?_|refine wq (by simp [hi2,hpq];with_reducible rfl) ?_|refine wt (by simpa [hi2,hpq]) ?_|refine wf (by simpa [hi2,hpq]) ?_|refine xt (by simpa [hi2,hpq]) ?_|refine xf (by simpa [hi2,hpq]) ?_|refine wp_bs ?_|refine wp_b ?_|refine wp_sr ?_|refine wp_sx ?_|refine wp_ret' ?_|refine wp_skip' ?_|refine wp_exit' ?_)
      refine wr (by simp [hi2,hpq,hpo,w2,← e1];with_reducible rfl) ?_
      generalize bump out p=out1 at *
      have hqo:q < out1.length:=by omega
      have hx2:=b1 out1[q] (List.getElem_mem hqo)
      have w3:IntKind.i64.wrap (out1[q]+1)=out1[q]+1:=wrap64 (by omega) (by omega)
      have e2:=bump_eq hqo
      have b2:=bump_bound (i:=q) b1 (by omega)
      have l2:=bump_len out1 q
      refine wq (by simp [hi2,hpq,hqo,w3,← e2];with_reducible rfl) ?_
      repeat (first|refine wp_as ?_|refine wp_ss ?_|refine wr (by simp [w1];with_reducible rfl) ?_|refine wq (by simp [w1];with_reducible rfl) ?_|refine wt (by simpa [w1]) ?_|refine wf (by simpa [w1]) ?_|refine xt (by simpa [w1]) ?_|refine xf (by simpa [w1]) ?_|refine wp_bs ?_|refine wp_b ?_|refine wp_sr ?_|refine wp_sx ?_|refine wp_ret' ?_|refine wp_skip' ?_|refine wp_exit' ?_)
      exact ih (i+1) (bump out1 q) _ (by omega) (by omega) (fun x hx=>by have:=b2 x hx;omega)
  refine call_of_wp zt9 rfl ?_
  repeat (first|refine wp_as ?_|refine wp_ss ?_|refine wr (by simp [show n≤274877906944 by omega];with_reducible rfl) ?_|refine wq (by simp [show n≤274877906944 by omega];with_reducible rfl) ?_|refine wt (by simpa [show n≤274877906944 by omega]) ?_|refine wf (by simpa [show n≤274877906944 by omega]) ?_|refine xt (by simpa [show n≤274877906944 by omega]) ?_|refine xf (by simpa [show n≤274877906944 by omega]) ?_|refine wp_bs ?_|refine wp_b ?_|refine wp_sr ?_|refine wp_sx ?_|refine wp_ret' ?_|refine wp_skip' ?_|refine wp_exit' ?_)
  have:=loop es.length 0 (List.replicate n 0) [] (by simp) (by simp) (by intro x hx;have:=List.eq_of_mem_replicate hx;subst this;simp)
  simp at this
  refine wp_imp this ?_
  rintro ex st ⟨rfl,bs,rfl⟩
  try simp only [if_true]
  repeat (first|refine wp_as ?_|refine wp_ss ?_|refine wr (by simp;with_reducible rfl) ?_|refine wq (by simp;with_reducible rfl) ?_|refine wt (by simpa) ?_|refine wf (by simpa) ?_|refine xt (by simpa) ?_|refine xf (by simpa) ?_|refine wp_bs ?_|refine wp_b ?_|refine wp_sr ?_|refine wp_sx ?_|refine wp_ret' ?_|refine wp_skip' ?_|refine wp_exit' ?_)
  simp [zi9,degs]
theorem vEs_in (n:Int):∀ (p:Option (Int×Int)) (es:List (Int×Int)),vEs n p es=true→∀ e ∈ es,okE n e=true
  | _,[],_=>by simp
  | none,e::r,h=>by
    simp only [vEs,Bool.and_eq_true] at h
    intro x hx
    rcases List.mem_cons.1 hx with rfl | hx
    · exact h.1
    · exact vEs_in n _ r h.2 x hx
  | some q,e::r,h=>by
    simp only [vEs,Bool.and_eq_true] at h
    intro x hx
    rcases List.mem_cons.1 hx with rfl | hx
    · exact h.1
    · exact vEs_in n _ r h.2.2 x hx
theorem vG_edges {n:Int} {es:List (Int×Int)} (h:vGraph n es=true):∀ e ∈ es,0≤e.1∧e.1 < e.2∧e.2 < n:=by
  simp only [vGraph,Bool.and_eq_true] at h
  intro e he
  have:=vEs_in n none es h.1 e he
  simpa [okE] using this
theorem vG_in {n:Nat} {es:List (Int×Int)} (h:vGraph n es=true):EdgesIn n es:=fun e he=>by
  have:=vG_edges h e he;omega
theorem vG_n {n:Int} {es:List (Int×Int)} (h:vGraph n es=true):0≤n∧n≤7:=by
  simp only [vGraph,Bool.and_eq_true,decide_eq_true_eq] at h;omega
theorem ev_impl_DegreesOf (n:Nat) (es:List (Int×Int)) (c:Bool) (hf:Fit es) (hl:es.length≤1000) (hv:vGraph n es=true):Ev tb zl161 [] [Gr n es c] [] ⟨O (degs n es),[],[],[]⟩:=by
  have hn:=(vG_n hv).2
  have e1:=ev_lim (ev_ValidGraph n es c hf (by omega))
  have e2:=ev_lim (ev_Graph_degrees n es c (by omega) hl (vG_in hv))
  refine call_of_wp zt161 rfl ?_
  repeat (first|refine wp_as ?_|refine wp_ss ?_|refine wr (by simp [e1,e2,hv];with_reducible rfl) ?_|refine wq (by simp [e1,e2,hv];with_reducible rfl) ?_|refine wt (by simpa [e1,e2,hv]) ?_|refine wf (by simpa [e1,e2,hv]) ?_|refine xt (by simpa [e1,e2,hv]) ?_|refine xf (by simpa [e1,e2,hv]) ?_|refine wp_bs ?_|refine wp_b ?_|refine wp_sr ?_|refine wp_sx ?_|refine wp_ret' ?_|refine wp_skip' ?_|refine wp_exit' ?_)
  simp [zi161]
end Go.Idl
namespace Go.Idl
def slS (s:List Int):List Int:=(List.range s.length).map fun i=>slk s (i+1)
theorem slacks_S (d:List Int):slacks d=slS (fall d):=by rw [slacks,slS,fall_len]
end Go.Idl
namespace Go.Idl
def S {α:Type} (l:List α) (f:α→Int):Int:=(l.map f).sum
@[simp] theorem S_nil {α:Type} (f:α→Int):S [] f=0:=rfl
@[simp] theorem S_cons {α:Type} (a:α) (l:List α) (f:α→Int):S (a::l) f=f a+S l f:=by simp [S]
theorem S_perm {α:Type} {l k:List α} (h:l.Perm k) (f:α→Int):S l f=S k f:=perm_sum (h.map f)
theorem S_add {α:Type} (l:List α) (f g:α→Int):S l (fun a=>f a+g a)=S l f+S l g:=by
  induction l with
  | nil=>rfl
  | cons a l ih=>simp only [S_cons,ih];omega
theorem S_sub {α:Type} (l:List α) (f g:α→Int):S l (fun a=>f a - g a)=S l f - S l g:=by
  induction l with
  | nil=>rfl
  | cons a l ih=>simp only [S_cons,ih];omega
theorem S_zero {α:Type} (l:List α):S l (fun _=>0)=0:=by
  induction l with
  | nil=>rfl
  | cons a l ih=>simp [ih]
theorem S_const {α:Type} (l:List α) (c:Int):S l (fun _=>c)=l.length * c:=by
  induction l with
  | nil=>simp
  | cons a l ih=>rw [S_cons,ih,List.length_cons,Int.natCast_add,Int.add_mul];simp;omega
theorem S_congr {α:Type} {l:List α} {f g:α→Int} (h:∀ a ∈ l,f a=g a):S l f=S l g:=by
  induction l with
  | nil=>rfl
  | cons a l ih=>rw [S_cons,S_cons,h a (by simp),ih fun b hb=>h b (by simp [hb])]
theorem S_le {α:Type} {l:List α} {f g:α→Int} (h:∀ a ∈ l,f a≤g a):S l f≤S l g:=by
  induction l with
  | nil=>simp
  | cons a l ih =>
    have h1:=h a (by simp)
    have h2:=ih fun b hb=>h b (by simp [hb])
    simp only [S_cons];omega
theorem S_swap {α β:Type} (l:List α) (k:List β) (f:α→β→Int):S l (fun a=>S k (f a))=S k (fun b=>S l (fun a=>f a b)):=by
  induction l with
  | nil=>simp [S_zero]
  | cons a l ih=>simp only [S_cons,S_add,ih]
theorem S_mul {α:Type} (l:List α) (f:α→Int) (c:Int):S l (fun a=>c * f a)=c * S l f:=by
  induction l with
  | nil=>simp
  | cons a l ih=>rw [S_cons,S_cons,ih,Int.mul_add]
theorem S_mulr {α:Type} (l:List α) (f:α→Int) (c:Int):S l (fun a=>f a * c)=S l f * c:=by
  induction l with
  | nil=>simp
  | cons a l ih=>rw [S_cons,S_cons,ih,Int.add_mul]
theorem S_sublist {α:Type} {l k:List α} (h:l.Sublist k) {f:α→Int} (h0:∀ a ∈ k,0≤f a):S l f≤S k f:=by
  induction h with
  | slnil=>simp
  | cons a _ ih =>
    have h1:=h0 a (by simp)
    have h2:=ih fun b hb=>h0 b (by simp [hb])
    rw [S_cons];omega
  | cons_cons a _ ih =>
    have h2:=ih fun b hb=>h0 b (by simp [hb])
    rw [S_cons,S_cons];omega
theorem S_nonneg {α:Type} {l:List α} {f:α→Int} (h:∀ a ∈ l,0≤f a):0≤S l f:=by
  have:=S_le (l:=l) (f:=fun _=>0) h
  rwa [S_zero] at this
theorem S_map {α γ:Type} (l:List γ) (g:γ→α) (f:α→Int):S (l.map g) f=S l (fun c=>f (g c)):=by simp [S];rfl
theorem perm_map_inv {α β:Type} {f:α→β} {ys zs:List β} (h:ys.Perm zs):∀ {l:List α},zs=l.map f→∃ l':List α,l'.Perm l∧ys=l'.map f:=by
  induction h with
  | nil=>intro l hl;exact ⟨l,.refl _,hl⟩
  | cons x _ ih =>
    intro l hl
    cases l with
    | nil=>simp at hl
    | cons a l =>
      simp only [List.map_cons,List.cons.injEq] at hl
      obtain ⟨l',h1,h2⟩:=ih hl.2
      exact ⟨a::l',h1.cons a,by rw [List.map_cons,← h2,hl.1]⟩
  | swap x y r =>
    intro l hl
    cases l with
    | nil=>simp at hl
    | cons a l =>
      cases l with
      | nil=>simp at hl
      | cons b l =>
        simp only [List.map_cons,List.cons.injEq] at hl
        exact ⟨b::a::l,.swap a b l,by simp [hl.1,hl.2.1,hl.2.2]⟩
  | trans _ _ ih1 ih2 =>
    intro l hl
    obtain ⟨l2,h1,h2⟩:=ih2 hl
    obtain ⟨l3,h3,h4⟩:=ih1 h2
    exact ⟨l3,h3.trans h1,h4⟩
theorem S_one {α:Type} [DecidableEq α] {l:List α} (h:l.Nodup) (x:α):S l (fun a=>if x=a then 1 else 0)=if x ∈ l then 1 else 0:=by
  induction l with
  | nil=>simp
  | cons a l ih =>
    have h':=List.nodup_cons.1 h
    rw [S_cons,ih h'.2]
    by_cases hx:x=a
    · subst hx;simp [h'.1]
    · simp [hx]
theorem below_iff (a b:Int×Int):below a b=true ↔ a.1 < b.1 ∨ (a.1=b.1∧a.2 < b.2):=by simp [below]
theorem below_trans {a b c:Int×Int} (h:below a b=true) (k:below b c=true):below a c=true:=by
  rw [below_iff] at *;omega
theorem below_ne {a b:Int×Int} (h:below a b=true):a ≠ b:=by
  rintro rfl;rw [below_iff] at h;omega
abbrev PW (es:List (Int×Int)):Prop:=es.Pairwise fun a b=>below a b=true
theorem vEs_pw (n:Int):∀ (p:Option (Int×Int)) (es:List (Int×Int)),vEs n p es=true→PW es∧(∀ q,p=some q→∀ e ∈ es,below q e=true)
  | p,[],_=>⟨.nil,by simp⟩
  | none,e::r,h=>by
    simp only [vEs,Bool.and_eq_true] at h
    obtain ⟨h1,h2⟩:=vEs_pw n (some e) r h.2
    exact ⟨List.pairwise_cons.2 ⟨h2 e rfl,h1⟩,by simp⟩
  | some q,e::r,h=>by
    simp only [vEs,Bool.and_eq_true] at h
    obtain ⟨h1,h2⟩:=vEs_pw n (some e) r h.2.2
    refine ⟨List.pairwise_cons.2 ⟨h2 e rfl,h1⟩,fun q' hq' x hx=>?_⟩
    cases hq'
    rcases List.mem_cons.1 hx with rfl | hx
    · exact h.2.1
    · exact below_trans h.2.1 (h2 e rfl x hx)
theorem pw_vEs (n:Int):∀ (p:Option (Int×Int)) (es:List (Int×Int)),PW es→(∀ q,p=some q→∀ e ∈ es,below q e=true)→(∀ e ∈ es,okE n e=true)→vEs n p es=true
  | p,[],_,_,_=>by cases p <;> rfl
  | none,e::r,h,_,ho=>by
    have h':=List.pairwise_cons.1 h
    simp only [vEs,Bool.and_eq_true]
    exact ⟨ho e (by simp),pw_vEs n (some e) r h'.2 (fun q hq x hx=>by cases hq;exact h'.1 x hx) fun x hx=>ho x (by simp [hx])⟩
  | some q,e::r,h,hq,ho=>by
    have h':=List.pairwise_cons.1 h
    simp only [vEs,Bool.and_eq_true]
    exact ⟨ho e (by simp),hq q rfl e (by simp),pw_vEs n (some e) r h'.2 (fun q hq x hx=>by cases hq;exact h'.1 x hx) fun x hx=>ho x (by simp [hx])⟩
theorem row_mem_iff (a:Nat):∀ (m b:Nat) (e:Int×Int),e ∈ row a b m ↔ e.1=a∧(b:Int)≤e.2∧e.2 < b+m
  | 0,b,e=>by simp [row] <;> omega
  | m+1,b,e=>by
    rw [row,List.mem_cons,row_mem_iff a m (b+1) e]
    constructor
    · rintro (rfl | h)
      · simp;omega
      · omega
    · intro h
      by_cases h2:e.2=b
      · exact .inl (Prod.ext h.1 h2)
      · exact .inr (by omega)
theorem prsF_mem_iff:∀ (m a:Nat) (e:Int×Int),e ∈ prsF a m ↔ (a:Int)≤e.1∧e.1 < e.2∧e.2 < a+m
  | 0,a,e=>by simp [prsF];omega
  | m+1,a,e=>by
    rw [prsF,List.mem_append,row_mem_iff,prsF_mem_iff m (a+1) e]
    omega
theorem mem_prs {n:Nat} {e:Int×Int}:e ∈ prs n ↔ 0≤e.1∧e.1 < e.2∧e.2 < n:=by
  rw [prs,prsF_mem_iff];omega
theorem row_pw (a:Nat):∀ (m b:Nat),PW (row a b m)
  | 0,b=>.nil
  | m+1,b=>by
    rw [row]
    refine List.pairwise_cons.2 ⟨fun e he=>?_,row_pw a m (b+1)⟩
    rw [row_mem_iff] at he
    rw [below_iff];simp only;omega
theorem prsF_pw:∀ (m a:Nat),PW (prsF a m)
  | 0,a=>.nil
  | m+1,a=>by
    rw [prsF]
    refine List.pairwise_append.2 ⟨row_pw a m (a+1),prsF_pw m (a+1),fun x hx y hy=>?_⟩
    rw [row_mem_iff] at hx
    rw [prsF_mem_iff] at hy
    rw [below_iff];omega
theorem prs_pw (n:Nat):PW (prs n):=prsF_pw n 0
theorem pw_nodup {es:List (Int×Int)} (h:PW es):es.Nodup:=h.imp fun h=>below_ne h
theorem pw_ext {xs ys:List (Int×Int)} (hx:PW xs) (hy:PW ys) (h:∀ e,e ∈ xs ↔ e ∈ ys):xs=ys:=by
  refine List.Perm.eq_of_pairwise (le:=fun a b=>below a b=true) (fun a b _ _ h1 h2=>absurd (below_trans h1 h2) (fun h=>below_ne h rfl)) hx hy ?_
  exact (List.perm_ext_iff_of_nodup (pw_nodup hx) (pw_nodup hy)).2 h
theorem vG_iff {n:Nat} {es:List (Int×Int)}:vGraph n es=true ↔ PW es∧(∀ e ∈ es,e ∈ prs n)∧n≤7:=by
  constructor
  · intro h
    have h1:=vG_n h
    have h2:=vG_edges h
    simp only [vGraph,Bool.and_eq_true] at h
    exact ⟨(vEs_pw n none es h.1).1,fun e he=>mem_prs.2 (h2 e he),by omega⟩
  · rintro ⟨h1,h2,h3⟩
    simp only [vGraph,Bool.and_eq_true,decide_eq_true_eq]
    refine ⟨pw_vEs n none es h1 (by simp) fun e he=>?_,by omega,by omega⟩
    have:=mem_prs.1 (h2 e he)
    simp only [okE,Bool.and_eq_true,decide_eq_true_eq];omega
theorem vG_filter {n:Nat} {es:List (Int×Int)} (h:vGraph n es=true):es=(prs n).filter fun e=>decide (e ∈ es):=by
  obtain ⟨h1,h2,h3⟩:=vG_iff.1 h
  refine pw_ext h1 ((prs_pw n).filter _) fun e=>?_
  rw [List.mem_filter,decide_eq_true_eq]
  exact ⟨fun he=>⟨h2 e he,he⟩,fun he=>he.2⟩
theorem vG_sub {n:Nat} {es:List (Int×Int)} (h:vGraph n es=true):es.Sublist (prs n):=by
  rw [vG_filter h];exact List.filter_sublist
def inc (v:Nat) (e:Int×Int):Int:=(if e.1=v then 1 else 0)+(if e.2=v then 1 else 0)
def deg (es:List (Int×Int)) (v:Nat):Int:=S es (inc v)
theorem bump_get {o:List Int} {i v:Nat} (hv:v < o.length):(bump o i).getD v 0=o.getD v 0+(if i=v then 1 else 0):=by
  rw [bump,List.getD_eq_getElem?_getD,List.getElem?_set]
  by_cases h:i=v
  · subst h;simp [hv,List.getD_eq_getElem?_getD]
  · simp [h,List.getD_eq_getElem?_getD]
theorem dfold_get {n:Nat}:∀ (es:List (Int×Int)) (o:List Int),(∀ e ∈ es,0≤e.1∧0≤e.2)→∀ v,v < o.length→(dfold o es).getD v 0=o.getD v 0+deg es v
  | [],o,_,v,_=>by simp [dfold,deg]
  | e::es,o,h,v,hv=>by
    have h1:=h e (by simp)
    have:=dfold_get (n:=n) es (bump (bump o e.1.toNat) e.2.toNat) (fun x hx=>h x (by simp [hx])) v (by simp [bump_len];exact hv)
    rw [show dfold o (e::es)=dfold (bump (bump o e.1.toNat) e.2.toNat) es from rfl,this,bump_get (by rw [bump_len];exact hv),bump_get hv,deg,deg,S_cons]
    have c1:(e.1.toNat=v)=(e.1=(v:Int)):=by rw [eq_iff_iff];omega
    have c2:(e.2.toNat=v)=(e.2=(v:Int)):=by rw [eq_iff_iff];omega
    simp only [inc,c1,c2]
    omega
theorem degs_eq {n:Nat} {es:List (Int×Int)} (h:EdgesIn n es):degs n es=(List.range n).map (deg es):=by
  have hl:(degs n es).length=n:=by rw [degs,dfold_len];simp
  refine List.ext_getElem (by simp [hl]) fun v h1 h2=>?_
  have:=dfold_get (n:=n) es (List.replicate n 0) (fun e he=>by have:=h e he;omega) v (by simp;omega)
  rw [← degs,List.getD_eq_getElem?_getD,List.getElem?_eq_getElem h1] at this
  simp only [Option.getD_some] at this
  rw [this]
  simp [List.getD_eq_getElem?_getD]
  rw [List.getElem?_eq_getElem (by simp;omega)];simp
theorem S_inc {n:Nat} {e:Int×Int} (h:e ∈ prs n) {l:List Nat} (hl:l.Perm (List.range n)):S l (fun v=>inc v e)=2:=by
  have h0:=mem_prs.1 h
  have key:∀ x:Int,0≤x→x < n→S l (fun v=>if x=(v:Int) then 1 else 0)=1:=by
    intro x hx hxn
    obtain ⟨k,rfl⟩:=Int.eq_ofNat_of_zero_le hx
    have:∀ v ∈ l,(if (k:Int)=(v:Int) then (1:Int) else 0)=if k=v then 1 else 0:=fun v _=>by simp only [Int.ofNat_inj]
    rw [S_congr this,S_one (hl.nodup_iff.2 List.nodup_range),if_pos (hl.mem_iff.2 (List.mem_range.2 (by omega)))]
  simp only [inc]
  rw [S_add,key _ (by omega) (by omega),key _ (by omega) (by omega)]
  rfl
theorem degs_sum {n:Nat} {es:List (Int×Int)} (h:∀ e ∈ es,e ∈ prs n):(degs n es).sum=2 * es.length:=by
  rw [degs_eq fun e he=>by have:=mem_prs.1 (h e he);omega]
  show S (List.range n) (fun v=>S es (fun e=>inc v e))=_
  rw [S_swap,S_congr (g:=fun _=>2) fun e he=>S_inc (h e he) (.refl _),S_const]
  omega
theorem deg_prs_all:(List.range 8).all (fun n=>(List.range n).all fun v=>decide (deg (prs n) v=(n:Int) - 1))=true:=by decide +kernel
theorem deg_prs {n v:Nat} (hn:n≤7) (hv:v < n):deg (prs n) v=(n:Int) - 1:=by
  have:=List.all_eq_true.1 (List.all_eq_true.1 deg_prs_all n (List.mem_range.2 (by omega))) v (List.mem_range.2 hv)
  exact of_decide_eq_true this
def adj (e:Int×Int) (a b:Nat):Int:=(if e.1=a then 1 else 0) * (if e.2=b then 1 else 0)+(if e.2=a then 1 else 0) * (if e.1=b then 1 else 0)
theorem adj_all:(List.range 8).all (fun n=>(List.range n).all fun a=>(List.range n).all fun b=>decide (S (prs n) (fun e=>adj e a b)=if a=b then 0 else 1))=true:=by decide +kernel
theorem adj_prs {n a b:Nat} (hn:n≤7) (ha:a < n) (hb:b < n):S (prs n) (fun e=>adj e a b)=if a=b then 0 else 1:=by
  have:=List.all_eq_true.1 (List.all_eq_true.1 (List.all_eq_true.1 adj_all n (List.mem_range.2 (by omega))) a (List.mem_range.2 ha)) b (List.mem_range.2 hb)
  exact of_decide_eq_true this
theorem ind01 {l:List Nat} (h:l.Nodup) (x:Int):S l (fun v=>if x=(v:Int) then 1 else 0)=0 ∨ S l (fun v=>if x=(v:Int) then 1 else 0)=1:=by
  by_cases hx:0≤x
  · obtain ⟨k,rfl⟩:=Int.eq_ofNat_of_zero_le hx
    have:∀ v ∈ l,(if (k:Int)=(v:Int) then (1:Int) else 0)=if k=v then 1 else 0:=fun v _=>by simp only [Int.ofNat_inj]
    rw [S_congr this,S_one h]
    split
    · exact .inr rfl
    · exact .inl rfl
  · refine .inl ?_
    rw [S_congr (g:=fun _=>0) fun v _=>if_neg (by omega),S_zero]
theorem two_sets {n k m:Nat} {es:List (Int×Int)} (h:vGraph n es=true) {π:List Nat} (hπ:π.Perm (List.range n)) (hkm:k≤m) (hm:m≤n) :
    S (π.take k) (deg es)+S (π.take m) (deg es)≤(k:Int) * ((m:Int) - 1)+S π (deg es):=by
  have hn:=(vG_iff.1 h).2.2
  have hin:=(vG_iff.1 h).2.1
  have hnd:π.Nodup:=hπ.nodup_iff.2 List.nodup_range
  have hπl:π.length=n:=by rw [hπ.length_eq,List.length_range]
  have hlt:∀ v ∈ π,v < n:=fun v hv=>List.mem_range.1 (hπ.mem_iff.1 hv)
  obtain ⟨A,hA⟩:∃ A,A=π.take k:=⟨_,rfl⟩
  obtain ⟨B,hB⟩:∃ B,B=π.take m:=⟨_,rfl⟩
  have hAB:A.Sublist B:=by
    rw [hA,hB,show π.take k=(π.take m).take k by rw [List.take_take,Nat.min_eq_left hkm]]
    exact List.take_sublist _ _
  have hBn:B.Nodup:=by rw [hB];exact hnd.sublist (List.take_sublist _ _)
  have hAn:A.Nodup:=hBn.sublist hAB
  have hBl:B.length=m:=by rw [hB,List.length_take];omega
  have hAl:A.length=k:=by rw [hA,List.length_take];omega
  have hBm:∀ v ∈ B,v < n:=fun v hv=>hlt v (by rw [hB] at hv;exact List.mem_of_mem_take hv)
  rw [← hA,← hB]
  have sw:∀ l:List Nat,S l (deg es)=S es (fun e=>S l (fun v=>inc v e)):=fun l=>S_swap l es fun v e=>inc v e
  have hw:S es (fun e=>S A (fun a=>S B (fun b=>adj e a b)))≤(k:Int) * ((m:Int) - 1):=by
    refine Int.le_trans (S_sublist (vG_sub h) (f:=fun e=>S A (fun a=>S B (fun b=>adj e a b))) fun e _=>S_nonneg fun a _=>S_nonneg fun b _=>?_) ?_
    · simp only [adj]
      split <;> split <;> split <;> split <;> decide
    · rw [S_swap]
      have:∀ a ∈ A,S (prs n) (fun e=>S B (fun b=>adj e a b))=(m:Int) - 1:=fun a ha=>by
        have ha':=hAB.mem ha
        rw [S_swap,S_congr (g:=fun b=>1 - (if a=b then 1 else 0)) fun b hb=>by
          rw [adj_prs hn (hBm a ha') (hBm b hb)];split <;> rfl]
        rw [S_sub,S_const,S_one hBn,if_pos ha',hBl];omega
      rw [S_congr this,S_const,hAl]
      exact Int.le_refl _
  have he:∀ e ∈ es,S A (fun v=>inc v e)+S B (fun v=>inc v e) - 2≤S A (fun a=>S B (fun b=>adj e a b)):=fun e he=>by
    have hwe:S A (fun a=>S B (fun b=>adj e a b))=S A (fun v=>if e.1=(v:Int) then 1 else 0) * S B (fun v=>if e.2=(v:Int) then 1 else 0)+S A (fun v=>if e.2=(v:Int) then 1 else 0) * S B (fun v=>if e.1=(v:Int) then 1 else 0):=by
      rw [← S_mulr,← S_mulr,← S_add]
      refine S_congr fun a _=>?_
      rw [← S_mul,← S_mul,← S_add]
      rfl
    rw [hwe]
    simp only [inc]
    rw [S_add,S_add]
    have m1:S A (fun v=>if e.1=(v:Int) then 1 else 0)≤S B (fun v=>if e.1=(v:Int) then 1 else 0):=S_sublist hAB fun v _=>by split <;> decide
    have m2:S A (fun v=>if e.2=(v:Int) then 1 else 0)≤S B (fun v=>if e.2=(v:Int) then 1 else 0):=S_sublist hAB fun v _=>by split <;> decide
    rcases ind01 hAn e.1 with h1 | h1 <;> rcases ind01 hAn e.2 with h2 | h2 <;> rcases ind01 hBn e.1 with h3 | h3 <;> rcases ind01 hBn e.2 with h4 | h4 <;> rw [h1,h3] at m1 <;> rw [h2,h4] at m2 <;> rw [h1,h2,h3,h4] <;> omega
  have hs:=S_le he
  rw [S_sub,S_add,S_const] at hs
  have h2:S π (deg es)=es.length * 2:=by
    rw [sw,S_congr (g:=fun _=>2) fun e he=>S_inc (hin e he) hπ,S_const]
  rw [sw A,sw B,h2]
  omega
theorem degs_valid {n:Nat} {es:List (Int×Int)} (h:vGraph n es=true):valid (degs n es)=true:=by
  obtain ⟨h1,h2,hn⟩:=vG_iff.1 h
  have hE:EdgesIn n es:=fun e he=>by have:=mem_prs.1 (h2 e he);omega
  rw [degs_eq hE]
  simp only [valid,Bool.and_eq_true,decide_eq_true_eq,List.all_eq_true,List.length_map,List.length_range]
  refine ⟨hn,fun x hx=>?_⟩
  obtain ⟨v,hv,rfl⟩:=List.mem_map.1 hx
  have hv:=List.mem_range.1 hv
  have hi:∀ e:Int×Int,0≤inc v e:=fun e=>by simp only [inc];split <;> split <;> decide
  have h3:deg es v≤deg (prs n) v:=S_sublist (vG_sub h) fun e _=>hi e
  have h4:0≤deg es v:=S_nonneg fun e _=>hi e
  have:=deg_prs hn hv
  omega
theorem degs_graphic {n:Nat} {es:List (Int×Int)} (h:vGraph n es=true):graphic (degs n es)=true:=by
  obtain ⟨h1,h2,hn⟩:=vG_iff.1 h
  have hE:EdgesIn n es:=fun e he=>by have:=mem_prs.1 (h2 e he);omega
  have hs:=degs_sum h2
  have hde:=degs_eq hE
  obtain ⟨π,hπ,hfp⟩:=perm_map_inv (f:=deg es) (fall_perm (degs n es)) (l:=List.range n) hde
  refine (graphic_iff _).2 ⟨degs_valid h,by omega,fun k m hk hkm hm=>?_⟩
  rw [show (degs n es).length=n by rw [hde];simp] at hm
  have:=two_sets h hπ hkm hm
  have hsum:(degs n es).sum=S π (deg es):=by rw [hde];exact S_perm hπ.symm _
  simp only [tops,hfp,hsum]
  rw [← List.map_take,← List.map_take]
  exact this
end Go.Idl
namespace Go.Idl
open Go
def srtE (X:List (Int×Int)):List (Int×Int):=srtC below [] X
end Go.Idl
namespace Go.Idl
open Go
def decAt (o:List Int) (i:Nat):List Int:=o.set i (o.getD i 0 - 1)
def subs:List (Int×Int)→List Int→List (Int×Int)→List (List (Int×Int))
  | [],left,chosen=>if left.all (fun x=>decide (x=0)) then [chosen] else []
  | e::r,left,chosen =>
    (if 0 < left.getD e.1.toNat 0∧0 < left.getD e.2.toNat 0 then subs r (decAt (decAt left e.1.toNat) e.2.toNat) (chosen++[e]) else [])++subs r left chosen
end Go.Idl
namespace Go.Idl
open Go
theorem ev_IndexFuncL (xs:List Int) (F:Lab) (caps:List IV) (M:List Boxes) (p:Int→Bool) (hl:xs.length≤1000000)
    (hp:∀ x ∈ xs,Ev tb F [] (I x::caps) (M++[[]]) ⟨Bo (p x),[],M++[[]],[]⟩) :
    Ev tb zl449 [0] [O xs,.fn F caps] M ⟨I (idx p 0 xs),[O xs],M,[]⟩:=by
  have loop:∀ (m i:Nat),i+m=xs.length→wp tb (.loop z449l7) { T:=[(0,O xs),(1,.fn F caps),(7,I xs.length),(8,I i)],loc:=[],M:=M }
      (fun ex st=>(ex=.exit 0∧idx p i (xs.drop i)=-1∧st={ T:=[(0,O xs),(1,.fn F caps),(7,I xs.length),(8,I xs.length),(9,Bo false)],loc:=[],M:=M }) ∨
        ex=.ret∧st={ T:=[(0,O xs),(4,I (idx p i (xs.drop i)))],loc:=[],M:=M }):=by
    intro m
    induction m with
    | zero =>
      intro i hi
      obtain ⟨h1,h2⟩:=drop_end hi
      have h3:i=xs.length:=hi
      subst h3
      refine wp_loop ?_
      repeat (first|refine wp_as ?_|refine wp_ss ?_|refine wr (by simp;with_reducible rfl) ?_|refine wq (by simp;with_reducible rfl) ?_|refine wt (by simpa) ?_|refine wf (by simpa) ?_|refine xt (by simpa) ?_|refine xf (by simpa) ?_|refine wp_bs ?_|refine wp_b ?_|refine wp_sr ?_|refine wp_sx ?_|refine wp_ret' ?_|refine wp_skip' ?_|refine wp_exit' ?_)
      refine .inl ⟨rfl,by rw [h2];rfl,rfl⟩
    | succ m ih =>
      intro i hi
      obtain ⟨hi2,h2,h3⟩:=drop_get hi
      have e1:=ev_lim (hp _ h3)
      have w1:IntKind.i64.wrap ((i:Int)+1)=((i+1:Nat):Int):=wrapS (by omega)
      rw [h2]
      cases hpx:p xs[i] with
      | true =>
        refine wp_loop ?_
        repeat (first|refine wp_as ?_|refine wp_ss ?_|refine wr (by simp [e1,hi2,w1,hpx];with_reducible rfl) ?_|refine wq (by simp [e1,hi2,w1,hpx];with_reducible rfl) ?_|refine wt (by simpa [e1,hi2,w1,hpx]) ?_|refine wf (by simpa [e1,hi2,w1,hpx]) ?_|refine xt (by simpa [e1,hi2,w1,hpx]) ?_|refine xf (by simpa [e1,hi2,w1,hpx]) ?_|refine wp_bs ?_|refine wp_b ?_|refine wp_sr ?_|refine wp_sx ?_|refine wp_ret' ?_|refine wp_skip' ?_|refine wp_exit' ?_)
        refine .inr ⟨rfl,by simp [idx,hpx]⟩
      | false =>
        refine wp_loop ?_
        repeat (first|refine wp_as ?_|refine wp_ss ?_|refine wr (by simp [e1,hi2,w1,hpx];with_reducible rfl) ?_|refine wq (by simp [e1,hi2,w1,hpx];with_reducible rfl) ?_|refine wt (by simpa [e1,hi2,w1,hpx]) ?_|refine wf (by simpa [e1,hi2,w1,hpx]) ?_|refine xt (by simpa [e1,hi2,w1,hpx]) ?_|refine xf (by simpa [e1,hi2,w1,hpx]) ?_|refine wp_bs ?_|refine wp_b ?_|refine wp_sr ?_|refine wp_sx ?_|refine wp_ret' ?_|refine wp_skip' ?_|refine wp_exit' ?_)
        have:=ih (i+1) (by omega)
        simp only [idx,hpx] at this ⊢
        exact this
  refine call_of_wp zt449 rfl ?_
  repeat (first|refine wp_as ?_|refine wp_ss ?_|refine wr (by simp;with_reducible rfl) ?_|refine wq (by simp;with_reducible rfl) ?_|refine wt (by simpa) ?_|refine wf (by simpa) ?_|refine xt (by simpa) ?_|refine xf (by simpa) ?_|refine wp_bs ?_|refine wp_b ?_|refine wp_sr ?_|refine wp_sx ?_|refine wp_ret' ?_|refine wp_skip' ?_|refine wp_exit' ?_)
  refine wp_imp (loop xs.length 0 (by simp)) ?_
  rintro ex st (⟨rfl,h,rfl⟩ | ⟨rfl,rfl⟩)
  · simp only [if_true]
    repeat (first|refine wp_as ?_|refine wp_ss ?_|refine wr (by simp;with_reducible rfl) ?_|refine wq (by simp;with_reducible rfl) ?_|refine wt (by simpa) ?_|refine wf (by simpa) ?_|refine xt (by simpa) ?_|refine xf (by simpa) ?_|refine wp_bs ?_|refine wp_b ?_|refine wp_sr ?_|refine wp_sx ?_|refine wp_ret' ?_|refine wp_skip' ?_|refine wp_exit' ?_)
    simp at h
    simp [zi449,h]
  · simp [zi449]
theorem idx_spec (p:Int→Bool):∀ (xs:List Int) (i:Nat),(idx p i xs=-1∧∀ x ∈ xs,p x=false) ∨ ∃ k:Nat,∃ h:k < xs.length,idx p i xs=((i+k:Nat):Int)∧p xs[k]=true∧∀ x ∈ xs.take k,p x=false
  | [],i=>.inl ⟨rfl,by simp⟩
  | x::r,i=>by
    cases hp:p x with
    | true=>exact .inr ⟨0,by simp,by simp [idx,hp],hp,by simp⟩
    | false =>
      rcases idx_spec p r (i+1) with ⟨h1,h2⟩ | ⟨k,hk,h1,h2,h3⟩
      · refine .inl ⟨?_,fun y hy=>?_⟩
        · simp only [idx,hp,Bool.false_eq_true,if_false];exact h1
        · rcases List.mem_cons.1 hy with rfl | hy
          · exact hp
          · exact h2 y hy
      · refine .inr ⟨k+1,by simp;exact hk,?_,h2,fun y hy=>?_⟩
        · simp only [idx,hp,Bool.false_eq_true,if_false]
          rw [show ((i:Int)+1)=((i+1:Nat):Int) by omega,h1];omega
        · rw [List.take_succ_cons] at hy
          rcases List.mem_cons.1 hy with rfl | hy
          · exact hp
          · exact h3 y hy
theorem del_loop (xs:List Int) (F:Lab) (caps:List IV) (M:List Boxes) (p:Int→Bool) (hl:xs.length≤1000000)
    (hp:∀ x ∈ xs,Ev tb F [] (I x::caps) (M++[[]]) ⟨Bo (p x),[],M++[[]],[]⟩):∀ (m j i:Nat) (s:List Int),j+m=xs.length→i < j→s.length=xs.length→s.take i=(xs.take j).filter (fun x=>!p x)→s.drop j=xs.drop j →
    wp tb (.loop z266l11) { T:=[(0,O s),(1,.fn F caps),(5,I i),(6,I j)],loc:=[],M:=M }
      (fun ex st=>ex=.exit 0∧∃ (i:Nat) (s:List Int),(i < xs.length∧s.length=xs.length∧s.take i=xs.filter (fun x=>!p x))∧st={ T:=[(0,O s),(1,.fn F caps),(5,I i),(6,I xs.length),(19,Bo false)],loc:=[],M:=M }):=by
  intro m
  induction m with
  | zero =>
    intro j i s hj hij hs h1 h2
    have h3:j=xs.length:=hj
    subst h3
    rw [List.take_length] at h1
    refine wp_loop ?_
    repeat (first|refine wp_as ?_|refine wp_ss ?_|refine wr (by simp [hs];with_reducible rfl) ?_|refine wq (by simp [hs];with_reducible rfl) ?_|refine wt (by simpa [hs]) ?_|refine wf (by simpa [hs]) ?_|refine xt (by simpa [hs]) ?_|refine xf (by simpa [hs]) ?_|refine wp_bs ?_|refine wp_b ?_|refine wp_sr ?_|refine wp_sx ?_|refine wp_ret' ?_|refine wp_skip' ?_|refine wp_exit' ?_)
    exact ⟨rfl,i,s,⟨hij,hs,h1⟩,rfl⟩
  | succ m ih =>
    intro j i s hj hij hs h1 h2
    have hjl:j < xs.length:=by omega
    have hjs:j < s.length:=by omega
    have hil:i < s.length:=by omega
    have hil':i < xs.length:=by omega
    have hsj:s[j]=xs[j]:=by
      have h3:s.drop j=s[j]::s.drop (j+1):=List.drop_eq_getElem_cons hjs
      have h4:xs.drop j=xs[j]::xs.drop (j+1):=List.drop_eq_getElem_cons hjl
      rw [h3,h4] at h2
      exact (List.cons.inj h2).1
    have hd2:s.drop (j+1)=xs.drop (j+1):=by
      have h3:s.drop j=s[j]::s.drop (j+1):=List.drop_eq_getElem_cons hjs
      have h4:xs.drop j=xs[j]::xs.drop (j+1):=List.drop_eq_getElem_cons hjl
      rw [h3,h4] at h2
      exact (List.cons.inj h2).2
    have e1:=ev_lim (hp _ (List.getElem_mem hjl))
    have w1:IntKind.i64.wrap ((j:Int)+1)=((j+1:Nat):Int):=wrapS (by omega)
    have w2:IntKind.i64.wrap ((i:Int)+1)=((i+1:Nat):Int):=wrapS (by omega)
    have ht:(xs.take (j+1)).filter (fun x=>!p x)=(xs.take j).filter (fun x=>!p x)++(if p xs[j] then [] else [xs[j]]):=by
      rw [List.take_succ_eq_append_getElem hjl,List.filter_append,List.filter_cons,List.filter_nil]
      cases p xs[j] <;> rfl
    cases hpx:p xs[j] with
    | true =>
      rw [hpx,if_pos rfl,List.append_nil] at ht
      have hn:=ih (j+1) i s (by omega) (by omega) hs (by rw [ht];exact h1) hd2
      refine wp_loop ?_
      repeat (first|refine wp_as ?_|refine wp_ss ?_|refine wr (by simp [hs,hjl,hjs,hsj,e1,hpx,w1];with_reducible rfl) ?_|refine wq (by simp [hs,hjl,hjs,hsj,e1,hpx,w1];with_reducible rfl) ?_|refine wt (by simpa [hs,hjl,hjs,hsj,e1,hpx,w1]) ?_|refine wf (by simpa [hs,hjl,hjs,hsj,e1,hpx,w1]) ?_|refine xt (by simpa [hs,hjl,hjs,hsj,e1,hpx,w1]) ?_|refine xf (by simpa [hs,hjl,hjs,hsj,e1,hpx,w1]) ?_|refine wp_bs ?_|refine wp_b ?_|refine wp_sr ?_|refine wp_sx ?_|refine wp_ret' ?_|refine wp_skip' ?_|refine wp_exit' ?_)
      exact hn
    | false =>
      rw [hpx,if_neg (by simp)] at ht
      have hn:=ih (j+1) (i+1) (s.set i xs[j]) (by omega) (by omega) (by simpa using hs) (by
        rw [ht,← h1,List.take_succ_eq_append_getElem (by simpa using hil),List.take_set_of_le (Nat.le_refl _),List.getElem_set_self]) (by
        rw [List.drop_set_of_lt (by omega)];exact hd2)
      refine wp_loop ?_
      repeat (first|refine wp_as ?_|refine wp_ss ?_|refine wr (by simp [hs,hjl,hjs,hsj,e1,hpx,w1,w2,hil,hil'];with_reducible rfl) ?_|refine wq (by simp [hs,hjl,hjs,hsj,e1,hpx,w1,w2,hil,hil'];with_reducible rfl) ?_|refine wt (by simpa [hs,hjl,hjs,hsj,e1,hpx,w1,w2,hil,hil']) ?_|refine wf (by simpa [hs,hjl,hjs,hsj,e1,hpx,w1,w2,hil,hil']) ?_|refine xt (by simpa [hs,hjl,hjs,hsj,e1,hpx,w1,w2,hil,hil']) ?_|refine xf (by simpa [hs,hjl,hjs,hsj,e1,hpx,w1,w2,hil,hil']) ?_|refine wp_bs ?_|refine wp_b ?_|refine wp_sr ?_|refine wp_sx ?_|refine wp_ret' ?_|refine wp_skip' ?_|refine wp_exit' ?_)
      exact hn
theorem ints_isSc (xs:List Int):((ints xs).all fun x=>x.all IV.isSc)=true:=by
  induction xs with
  | nil=>rfl
  | cons x xs ih=>simp only [ints,List.map_cons,List.all_cons] at *;rw [ih];rfl
theorem ev_DeleteFunc (xs:List Int) (F:Lab) (caps:List IV) (M:List Boxes) (p:Int→Bool) (hl:xs.length≤1000000)
    (hp:∀ M' x,x ∈ xs→Ev tb F [] (I x::caps) (M++[[]]++M') ⟨Bo (p x),[],M++[[]]++M',[]⟩) :
    Ev tb zl266 [] [O xs,.fn F caps] M ⟨O (xs.filter fun x=>!p x),[],M,[]⟩:=by
  have e1:=ev_lim (ev_IndexFuncL xs F caps (M++[[]]) p hl (fun x hx=>hp [[]] x hx))
  rcases idx_spec p xs 0 with ⟨h1,h2⟩ | ⟨k,hk,h1,h2,h3⟩
  · rw [show ((0:Nat):Int)=0 from rfl] at h1
    rw [h1] at e1
    have hf:(xs.filter fun x=>!p x)=xs:=List.filter_eq_self.2 fun x hx=>by rw [h2 x hx];rfl
    rw [hf]
    refine call_of_wp zt266 rfl ?_
    repeat (first|refine wp_as ?_|refine wp_ss ?_|refine wr (by simp [e1];with_reducible rfl) ?_|refine wq (by simp [e1];with_reducible rfl) ?_|refine wt (by simpa [e1]) ?_|refine wf (by simpa [e1]) ?_|refine xt (by simpa [e1]) ?_|refine xf (by simpa [e1]) ?_|refine wp_bs ?_|refine wp_b ?_|refine wp_sr ?_|refine wp_sx ?_|refine wp_ret' ?_|refine wp_skip' ?_|refine wp_exit' ?_)
    simp [zi266]
  · rw [show ((0:Nat):Int)=0 from rfl,Nat.zero_add] at h1
    rw [h1] at e1
    have hk0:¬ (k:Int)=-1:=by omega
    have w1:IntKind.i64.wrap ((k:Int)+1)=((k+1:Nat):Int):=wrapS (by omega)
    have hlo:=del_loop xs F caps M p hl (fun x hx=>by simpa using hp [] x hx) (xs.length - (k+1)) (k+1) k xs (by omega) (by omega) rfl (by
      rw [List.take_succ_eq_append_getElem hk,List.filter_append,List.filter_cons,h2]
      simp only [Bool.not_true,Bool.false_eq_true,if_false,List.filter_nil,List.append_nil]
      exact (List.filter_eq_self.2 fun x hx=>by rw [h3 x hx];rfl).symm) rfl
    refine call_of_wp zt266 rfl ?_
    repeat (first|refine wp_as ?_|refine wp_ss ?_|refine wr (by simp [e1,hk0,w1];with_reducible rfl) ?_|refine wq (by simp [e1,hk0,w1];with_reducible rfl) ?_|refine wt (by simpa [e1,hk0,w1]) ?_|refine wf (by simpa [e1,hk0,w1]) ?_|refine xt (by simpa [e1,hk0,w1]) ?_|refine xf (by simpa [e1,hk0,w1]) ?_|refine wp_bs ?_|refine wp_b ?_|refine wp_sr ?_|refine wp_sx ?_|refine wp_ret' ?_|refine wp_skip' ?_|refine wp_exit' ?_)
    refine wp_imp hlo ?_
    rintro ex st ⟨rfl,i,s,⟨k1,k2,k3⟩,rfl⟩
    simp only [if_true]
    have hil:i≤xs.length:=by omega
    have hz:s.drop xs.length=[]:=List.drop_of_length_le (by omega)
    have hti:(s.take i).length=i:=by simp;omega
    have hfl:(xs.filter fun x=>!p x).length=i:=by rw [← k3];exact hti
    generalize (xs.filter fun x=>!p x)=G at *
    have htk:∀ Z:List (List IV),(ints G++Z).take i=ints G:=fun Z=>by
      rw [List.take_append_of_le_length (by rw [ints_len];omega),List.take_of_length_le (by rw [ints_len];omega)]
    repeat (first|refine wp_as ?_|refine wp_ss ?_|refine wr (by simp [k2,hil,↓ints_isSc,hz,k3,hti,hfl,htk];with_reducible rfl) ?_|refine wq (by simp [k2,hil,↓ints_isSc,hz,k3,hti,hfl,htk];with_reducible rfl) ?_|refine wt (by simpa [k2,hil,↓ints_isSc,hz,k3,hti,hfl,htk]) ?_|refine wf (by simpa [k2,hil,↓ints_isSc,hz,k3,hti,hfl,htk]) ?_|refine xt (by simpa [k2,hil,↓ints_isSc,hz,k3,hti,hfl,htk]) ?_|refine xf (by simpa [k2,hil,↓ints_isSc,hz,k3,hti,hfl,htk]) ?_|refine wp_bs ?_|refine wp_b ?_|refine wp_sr ?_|refine wp_sx ?_|refine wp_ret' ?_|refine wp_skip' ?_|refine wp_exit' ?_)
    simp [zi266]
end Go.Idl
namespace Go.Idl
open Go
theorem ev_stable (F:Lab) (caps:List IV) (lt:Int→Int→Bool) (D:Int→Prop) (M:List Boxes) (hc:CmpOK vI F caps lt D (M++[[]])) (xs:List Int) (hl:xs.length≤19) (hD:∀ x ∈ xs,D x) :
    Ev tb zl289 [0] [O xs,I xs.length,.fn F caps] M ⟨.tup [],[O (srtC lt [] xs)],M,[]⟩:=by
  have e1:=ev_lim (ev_insCi F caps lt D (M++[[]]) hc [] [] xs (by simp;omega) hD)
  simp only [List.nil_append,List.append_nil,List.length_nil,Nat.zero_add] at e1
  rw [show ((0:Nat):Int)=0 from rfl] at e1
  have h1:¬ (20:Int)≤xs.length:=by omega
  have h2:¬ (20:Int) < xs.length:=by omega
  have h3:¬ 20≤xs.length:=by omega
  have h4:¬ 20 < xs.length:=by omega
  refine call_of_wp zt289 rfl ?_
  repeat (first|refine wp_as ?_|refine wp_ss ?_|refine wr (by simp;with_reducible rfl) ?_|refine wq (by simp;with_reducible rfl) ?_|refine wt (by simpa) ?_|refine wf (by simpa) ?_|refine xt (by simpa) ?_|refine xf (by simpa) ?_|refine wp_bs ?_|refine wp_b ?_|refine wp_sr ?_|refine wp_sx ?_|refine wp_ret' ?_|refine wp_skip' ?_|refine wp_exit' ?_)
  refine wp_loop ?_
  repeat (first|refine wp_as ?_|refine wp_ss ?_|refine wr (by simp [h1,h2,h3,h4,e1];with_reducible rfl) ?_|refine wq (by simp [h1,h2,h3,h4,e1];with_reducible rfl) ?_|refine wt (by simpa [h1,h2,h3,h4,e1]) ?_|refine wf (by simpa [h1,h2,h3,h4,e1]) ?_|refine xt (by simpa [h1,h2,h3,h4,e1]) ?_|refine xf (by simpa [h1,h2,h3,h4,e1]) ?_|refine wp_bs ?_|refine wp_b ?_|refine wp_sr ?_|refine wp_sx ?_|refine wp_ret' ?_|refine wp_skip' ?_|refine wp_exit' ?_)
  refine wp_loop ?_
  repeat (first|refine wp_as ?_|refine wp_ss ?_|refine wr (by simp [h1,h2,h3,h4,e1];with_reducible rfl) ?_|refine wq (by simp [h1,h2,h3,h4,e1];with_reducible rfl) ?_|refine wt (by simpa [h1,h2,h3,h4,e1]) ?_|refine wf (by simpa [h1,h2,h3,h4,e1]) ?_|refine xt (by simpa [h1,h2,h3,h4,e1]) ?_|refine xf (by simpa [h1,h2,h3,h4,e1]) ?_|refine wp_bs ?_|refine wp_b ?_|refine wp_sr ?_|refine wp_sx ?_|refine wp_ret' ?_|refine wp_skip' ?_|refine wp_exit' ?_)
  simp [zi289]
theorem ev_SortStable (F:Lab) (caps:List IV) (lt:Int→Int→Bool) (D:Int→Prop) (M:List Boxes) (hc:CmpOK vI F caps lt D (M++[[],[]])) (xs:List Int) (hl:xs.length≤19) (hD:∀ x ∈ xs,D x) :
    Ev tb zl273 [0] [O xs,.fn F caps] M ⟨.tup [],[O (srtC lt [] xs)],M,[]⟩:=by
  have e1:=ev_lim (ev_stable F caps lt D (M++[[]]) (by rw [List.append_assoc];exact hc) xs hl hD)
  refine call_of_wp zt273 rfl ?_
  repeat (first|refine wp_as ?_|refine wp_ss ?_|refine wr (by simp [e1];with_reducible rfl) ?_|refine wq (by simp [e1];with_reducible rfl) ?_|refine wt (by simpa [e1]) ?_|refine wf (by simpa [e1]) ?_|refine xt (by simpa [e1]) ?_|refine xf (by simpa [e1]) ?_|refine wp_bs ?_|refine wp_b ?_|refine wp_sr ?_|refine wp_sx ?_|refine wp_ret' ?_|refine wp_skip' ?_|refine wp_exit' ?_)
  simp [zi273]
def idxB (n:Nat) (but:Int):List Int:=((List.range n).map fun v:Nat=>(v:Int)).filter fun v=>decide (v ≠ but)
def nlI:List Int→IV
  | []=>Z
  | x::r=>O (x::r)
theorem ev_indices (n:Nat) (but:Int) (hn:n≤1000):Ev tb zl212 [] [I n,I but] [] ⟨nlI (idxB n but),[],[],[]⟩:=by
  have loop:∀ (m i:Nat),i+m=n→wp tb (.loop z212l8) { T:=[(1,I but),(5,nlI (idxB i but)),(7,I n),(8,I i)],loc:=[],M:=[] }
      (fun ex st=>ex=.exit 0∧st={ T:=[(1,I but),(5,nlI (idxB n but)),(7,I n),(8,I n),(9,Bo false)],loc:=[],M:=[] }):=by
    intro m
    induction m with
    | zero =>
      intro i hi
      have h3:i=n:=hi
      subst h3
      cases idxB i but with
      | nil =>
        simp only [nlI]
        refine wp_loop ?_
        repeat (first|refine wp_as ?_|refine wp_ss ?_|refine wr (by simp;with_reducible rfl) ?_|refine wq (by simp;with_reducible rfl) ?_|refine wt (by simpa) ?_|refine wf (by simpa) ?_|refine xt (by simpa) ?_|refine xf (by simpa) ?_|refine wp_bs ?_|refine wp_b ?_|refine wp_sr ?_|refine wp_sx ?_|refine wp_ret' ?_|refine wp_skip' ?_|refine wp_exit' ?_)
        exact ⟨rfl,rfl⟩
      | cons x r =>
        simp only [nlI]
        refine wp_loop ?_
        repeat (first|refine wp_as ?_|refine wp_ss ?_|refine wr (by simp;with_reducible rfl) ?_|refine wq (by simp;with_reducible rfl) ?_|refine wt (by simpa) ?_|refine wf (by simpa) ?_|refine xt (by simpa) ?_|refine xf (by simpa) ?_|refine wp_bs ?_|refine wp_b ?_|refine wp_sr ?_|refine wp_sx ?_|refine wp_ret' ?_|refine wp_skip' ?_|refine wp_exit' ?_)
        exact ⟨rfl,rfl⟩
    | succ m ih =>
      intro i hi
      have hi2:i < n:=by omega
      have w2:IntKind.i64.wrap ((i:Int)+1)=((i+1:Nat):Int):=wrapS (by omega)
      have hn2:=ih (i+1) (by omega)
      have hs:idxB (i+1) but=idxB i but++if (i:Int)=but then [] else [(i:Int)]:=by
        simp only [idxB,List.range_succ,List.map_append,List.map_cons,List.map_nil,List.filter_append,List.filter_cons,List.filter_nil]
        congr 1
        by_cases h:(i:Int)=but <;> simp [h]
      rw [hs] at hn2
      have hal:(idxB i but).length≤i:=Nat.le_trans (List.length_filter_le _ _) (by simp)
      generalize idxB i but=A at *
      by_cases hb:but=(i:Int)
      · subst hb
        rw [if_pos rfl,List.append_nil] at hn2
        cases A with
        | nil =>
          rw [show nlI []=Z from rfl] at hn2 ⊢
          refine wp_loop ?_
          repeat (first|refine wp_as ?_|refine wp_ss ?_|refine wr (by simp [hi2,w2];with_reducible rfl) ?_|refine wq (by simp [hi2,w2];with_reducible rfl) ?_|refine wt (by simpa [hi2,w2]) ?_|refine wf (by simpa [hi2,w2]) ?_|refine xt (by simpa [hi2,w2]) ?_|refine xf (by simpa [hi2,w2]) ?_|refine wp_bs ?_|refine wp_b ?_|refine wp_sr ?_|refine wp_sx ?_|refine wp_ret' ?_|refine wp_skip' ?_|refine wp_exit' ?_)
          exact hn2
        | cons x r =>
          rw [show nlI (x::r)=O (x::r) from rfl] at hn2 ⊢
          refine wp_loop ?_
          repeat (first|refine wp_as ?_|refine wp_ss ?_|refine wr (by simp [hi2,w2];with_reducible rfl) ?_|refine wq (by simp [hi2,w2];with_reducible rfl) ?_|refine wt (by simpa [hi2,w2]) ?_|refine wf (by simpa [hi2,w2]) ?_|refine xt (by simpa [hi2,w2]) ?_|refine xf (by simpa [hi2,w2]) ?_|refine wp_bs ?_|refine wp_b ?_|refine wp_sr ?_|refine wp_sx ?_|refine wp_ret' ?_|refine wp_skip' ?_|refine wp_exit' ?_)
          exact hn2
      · have hb':¬ (i:Int)=but:=fun h=>hb h.symm
        rw [if_neg hb'] at hn2
        cases A with
        | nil =>
          rw [List.nil_append,show nlI [(i:Int)]=O [(i:Int)] from rfl] at hn2
          rw [show nlI []=Z from rfl]
          refine wp_loop ?_
          repeat (first|refine wp_as ?_|refine wp_ss ?_|refine wr (by simp [hi2,w2,hb'];with_reducible rfl) ?_|refine wq (by simp [hi2,w2,hb'];with_reducible rfl) ?_|refine wt (by simpa [hi2,w2,hb']) ?_|refine wf (by simpa [hi2,w2,hb']) ?_|refine xt (by simpa [hi2,w2,hb']) ?_|refine xf (by simpa [hi2,w2,hb']) ?_|refine wp_bs ?_|refine wp_b ?_|refine wp_sr ?_|refine wp_sx ?_|refine wp_ret' ?_|refine wp_skip' ?_|refine wp_exit' ?_)
          exact hn2
        | cons x r =>
          rw [show nlI (x::r++[(i:Int)])=O (x::r++[(i:Int)]) from rfl] at hn2
          rw [show nlI (x::r)=O (x::r) from rfl]
          have hal1:r.length+1+1≤274877906944:=by simp at hal;omega
          have hat:(x::r).take (r.length+1)=x::r:=List.take_of_length_le (by simp)
          refine wp_loop ?_
          repeat (first|refine wp_as ?_|refine wp_ss ?_|refine wr (by simp [hi2,w2,hb',hal1,hat];with_reducible rfl) ?_|refine wq (by simp [hi2,w2,hb',hal1,hat];with_reducible rfl) ?_|refine wt (by simpa [hi2,w2,hb',hal1,hat]) ?_|refine wf (by simpa [hi2,w2,hb',hal1,hat]) ?_|refine xt (by simpa [hi2,w2,hb',hal1,hat]) ?_|refine xf (by simpa [hi2,w2,hb',hal1,hat]) ?_|refine wp_bs ?_|refine wp_b ?_|refine wp_sr ?_|refine wp_sx ?_|refine wp_ret' ?_|refine wp_skip' ?_|refine wp_exit' ?_)
          exact hn2
  refine call_of_wp zt212 rfl ?_
  repeat (first|refine wp_as ?_|refine wp_ss ?_|refine wr (by simp;with_reducible rfl) ?_|refine wq (by simp;with_reducible rfl) ?_|refine wt (by simpa) ?_|refine wf (by simpa) ?_|refine xt (by simpa) ?_|refine xf (by simpa) ?_|refine wp_bs ?_|refine wp_b ?_|refine wp_sr ?_|refine wp_sx ?_|refine wp_ret' ?_|refine wp_skip' ?_|refine wp_exit' ?_)
  refine wp_imp (loop n 0 (by simp)) ?_
  rintro ex st ⟨rfl,rfl⟩
  try simp only [if_true]
  cases idxB n but with
  | nil =>
    simp only [nlI]
    repeat (first|refine wp_as ?_|refine wp_ss ?_|refine wr (by simp;with_reducible rfl) ?_|refine wq (by simp;with_reducible rfl) ?_|refine wt (by simpa) ?_|refine wf (by simpa) ?_|refine xt (by simpa) ?_|refine xf (by simpa) ?_|refine wp_bs ?_|refine wp_b ?_|refine wp_sr ?_|refine wp_sx ?_|refine wp_ret' ?_|refine wp_skip' ?_|refine wp_exit' ?_)
    simp [zi212]
  | cons x r =>
    simp only [nlI]
    repeat (first|refine wp_as ?_|refine wp_ss ?_|refine wr (by simp;with_reducible rfl) ?_|refine wq (by simp;with_reducible rfl) ?_|refine wt (by simpa) ?_|refine wf (by simpa) ?_|refine xt (by simpa) ?_|refine xf (by simpa) ?_|refine wp_bs ?_|refine wp_b ?_|refine wp_sr ?_|refine wp_sx ?_|refine wp_ret' ?_|refine wp_skip' ?_|refine wp_exit' ?_)
    simp [zi212]
end Go.Idl
namespace Go.Idl
open Go
theorem ev_CloneI_Z:Ev tb zl71 [] [Z] [] ⟨O [],[],[],[]⟩:=by
  refine call_of_wp zt71 rfl ?_
  refine wp_rs (by simp;rfl) (by simp;rfl) ?_
  refine wp_nil2 (b:=([]:List Int).isEmpty) (by simp [z71r1];rfl) (by simp) ?_ ?_ ?_ (ex:=.ret) (st':={ T:=[(2,.own 1 (ints []))],loc:=[],M:=[] })
  · refine wp_ct (t:=false) (by simp) (by simp) fun _=>wp_ss ?_
    refine wp_rs (by simp;rfl) (by simp;rfl) ?_
    refine wp_ret' ?_
    simp
  · intro he
    refine wp_ct (t:=true) (by simp) (fun _=>wp_as ?_) (by simp)
    refine wp_rs (by simp;rfl) (by simp;rfl) ?_
    refine wp_sr ?_
    simp
  · simp [zi71]
theorem ev_clone_Z:Ev tb zl31 [] [Z] [] ⟨O [],[],[],[]⟩:=by
  have e1:=ev_lim ev_CloneI_Z
  have e2:=ev_lim (ev_Clip [])
  simp only [O,ints_nil] at e1 e2 ⊢
  refine call_of_wp zt31 rfl ?_
  repeat (first|refine wp_as ?_|refine wp_ss ?_|refine wr (by simp [e1,e2];with_reducible rfl) ?_|refine wq (by simp [e1,e2];with_reducible rfl) ?_|refine wt (by simpa [e1,e2]) ?_|refine wf (by simpa [e1,e2]) ?_|refine xt (by simpa [e1,e2]) ?_|refine xf (by simpa [e1,e2]) ?_|refine wp_bs ?_|refine wp_b ?_|refine wp_sr ?_|refine wp_sx ?_|refine wp_ret' ?_|refine wp_skip' ?_|refine wp_exit' ?_)
  simp [zi31]
def gtD (d:List Int) (a b:Int):Bool:=decide (d.getD b.toNat 0 < d.getD a.toNat 0)
def topD (d:List Int) (from_:List Int) (k:Nat):List Int:=(srtC (gtD d) [] from_).take k
theorem ev_greatest_F1 (d:List Int) (c:Bool) (hd:∀ x ∈ d,-1000≤x∧x≤1000) (a b:Nat) (ha:a < d.length) (hb:b < d.length) (Es:List Boxes) :
    Ev tb zl211 [] [I a,I b,.bptr 0 0 0] ([[L d c]]::Es) ⟨I (d[b] - d[a]),[],[[L d c]]::Es,[]⟩:=by
  have h1:=hd _ (List.getElem_mem ha)
  have h2:=hd _ (List.getElem_mem hb)
  have w1:IntKind.i64.wrap (d[b] - d[a])=d[b] - d[a]:=wrap64 (by omega) (by omega)
  refine call_of_wp zt211 rfl ?_
  repeat (first|refine wp_as ?_|refine wp_ss ?_|refine wr (by simp [ha,hb,w1];with_reducible rfl) ?_|refine wq (by simp [ha,hb,w1];with_reducible rfl) ?_|refine wt (by simpa [ha,hb,w1]) ?_|refine wf (by simpa [ha,hb,w1]) ?_|refine xt (by simpa [ha,hb,w1]) ?_|refine xf (by simpa [ha,hb,w1]) ?_|refine wp_bs ?_|refine wp_b ?_|refine wp_sr ?_|refine wp_sx ?_|refine wp_ret' ?_|refine wp_skip' ?_|refine wp_exit' ?_)
  simp [zi211]
theorem cmp_greatest (d:List Int) (c:Bool) (hd:∀ x ∈ d,-1000≤x∧x≤1000):CmpOK vI zl211 [.bptr 0 0 0] (gtD d) (fun x=>0≤x∧x < d.length) [[[L d c]],[],[]]:=by
  intro x y hx hy
  obtain ⟨a,rfl⟩:=Int.eq_ofNat_of_zero_le hx.1
  obtain ⟨b,rfl⟩:=Int.eq_ofNat_of_zero_le hy.1
  have ha:a < d.length:=by omega
  have hb:b < d.length:=by omega
  refine ⟨d[b] - d[a],?_,ev_greatest_F1 d c hd a b ha hb [[],[],[]]⟩
  simp only [gtD,Int.toNat_natCast,List.getD_eq_getElem?_getD,List.getElem?_eq_getElem ha,List.getElem?_eq_getElem hb,Option.getD_some]
  rw [decide_eq_decide];omega
theorem topD_len (d from_:List Int) (k:Nat):(srtC (gtD d) [] from_).length=from_.length:=by
  simpa using (srtC_perm (gtD d) from_ []).length_eq
theorem ev_greatest (d:List Int) (c:Bool) (hd:∀ x ∈ d,-1000≤x∧x≤1000) (x:IV) (from_:List Int) (hx:(∃ c',x=L from_ c') ∨ (from_=[]∧x=Z)) (hf:from_.length≤19) (hD:∀ v ∈ from_,0≤v∧v < d.length) (k:Nat) (hk:k≤from_.length) :
    Ev tb zl210 [] [L d c,x,I k] [] ⟨O (topD d from_ k),[],[],[]⟩:=by
  have e1:limF tb zl31 [] [x] []=some ⟨O from_,[],[],[]⟩:=by
    rcases hx with ⟨c',rfl⟩ | ⟨rfl,rfl⟩
    · exact ev_lim (ev_clone from_ c' (by omega))
    · exact ev_lim ev_clone_Z
  have e2:=ev_lim (ev_SortStable zl211 [.bptr 0 0 0] (gtD d) (fun x=>0≤x∧x < d.length) [[[L d c]]] (cmp_greatest d c hd) from_ hf hD)
  have hl:=topD_len d from_ k
  unfold topD
  generalize srtC (gtD d) [] from_=s at *
  have hks:k≤s.length:=by omega
  rcases hx with ⟨c',rfl⟩ | ⟨rfl,rfl⟩
  · refine call_of_wp zt210 rfl ?_
    repeat (first|refine wp_as ?_|refine wp_ss ?_|refine wr (by simp [e1,e2,hks];with_reducible rfl) ?_|refine wq (by simp [e1,e2,hks];with_reducible rfl) ?_|refine wt (by simpa [e1,e2,hks]) ?_|refine wf (by simpa [e1,e2,hks]) ?_|refine xt (by simpa [e1,e2,hks]) ?_|refine xf (by simpa [e1,e2,hks]) ?_|refine wp_bs ?_|refine wp_b ?_|refine wp_sr ?_|refine wp_sx ?_|refine wp_ret' ?_|refine wp_skip' ?_|refine wp_exit' ?_)
    simp [zi210]
  · have hs:s=[]:=List.length_eq_zero_iff.1 (by simpa using hl)
    subst hs
    have hk0:k=0:=by simpa using hk
    subst hk0
    simp only [O,ints_nil] at e1 e2
    refine call_of_wp zt210 rfl ?_
    repeat (first|refine wp_as ?_|refine wp_ss ?_|refine wr (by simp [e1,e2];with_reducible rfl) ?_|refine wq (by simp [e1,e2];with_reducible rfl) ?_|refine wt (by simpa [e1,e2]) ?_|refine wf (by simpa [e1,e2]) ?_|refine xt (by simpa [e1,e2]) ?_|refine xf (by simpa [e1,e2]) ?_|refine wp_bs ?_|refine wp_b ?_|refine wp_sr ?_|refine wp_sx ?_|refine wp_ret' ?_|refine wp_skip' ?_|refine wp_exit' ?_)
    simp [zi210]
end Go.Idl
namespace Go.Idl
open Go
theorem idxB_all (n:Nat):idxB n (-1)=(List.range n).map fun v:Nat=>(v:Int):=by
  rw [idxB]
  refine List.filter_eq_self.2 fun x hx=>?_
  obtain ⟨v,_,rfl⟩:=List.mem_map.1 hx
  simp
end Go.Idl
namespace Go.Idl
open Go
def insE (e:Int×Int):List (Int×Int)→List (Int×Int)
  | []=>[e]
  | x::r=>if below x e then x::insE e r else e::x::r
theorem insE_at (e:Int×Int) (es:List (Int×Int)) (k:Nat) (hk:k≤es.length) (h:∀ x ∈ es.take k,below x e=true) (hs:∀ h:k < es.length,below es[k] e=false) :
    insE e es=es.take k++[e]++es.drop k:=by
  induction es generalizing k with
  | nil=>simp at hk;subst hk;rfl
  | cons x r ih =>
    cases k with
    | zero =>
      have:=hs (by simp)
      simp only [List.getElem_cons_zero] at this
      simp [insE,this]
    | succ k =>
      have h1:=h x (by simp)
      rw [insE,if_pos h1,ih k (by simpa using hk) (fun y hy=>h y (by simp [hy])) (fun hh=>hs (by simpa using hh))]
      simp
theorem insE_len (e:Int×Int) (es:List (Int×Int)):(insE e es).length=es.length+1:=by
  induction es with
  | nil=>rfl
  | cons x r ih=>rw [insE];split <;> simp [ih]
theorem insE_mem (e x:Int×Int) (es:List (Int×Int)):x ∈ insE e es ↔ x=e ∨ x ∈ es:=by
  induction es with
  | nil=>simp [insE]
  | cons y r ih =>
    rw [insE];split
    · rw [List.mem_cons,ih,List.mem_cons]
      constructor
      · rintro (h | h | h) <;> simp [h]
      · rintro (h | h | h) <;> simp [h]
    · simp
theorem ev_addEdge (n:Int) (es:List (Int×Int)) (c:Bool) (a b:Int) (hl:es.length≤1000000) :
    Ev tb zl335 [] [Gr n es c,I a,I b] [] ⟨OG n (insE (min a b,max a b) es),[],[],[]⟩:=by
  obtain ⟨e,he⟩:∃ e:Int×Int,e=(min a b,max a b):=⟨_,rfl⟩
  have he1:(if b < a then b else a)=e.1:=by rw [he];simp only;split <;> omega
  have he2:(if a < b then b else a)=e.2:=by rw [he];simp only;split <;> omega
  rw [← he]
  have loop:∀ (m k:Nat),k+m=es.length→(∀ x ∈ es.take k,below x e=true)→wp tb (.loop z335l5) { T:=[(3,.bptr 0 0 0),(6,.bptr 0 1 0),(7,.bptr 0 2 0),(8,I k)],loc:=[[I n,L2 es c],[I 0,Z],[I e.1,I e.2]],M:=[] }
      (fun ex st=>ex=.exit 0∧∃ k:Nat,(k≤es.length∧(∀ x ∈ es.take k,below x e=true)∧(∀ h:k < es.length,below es[k] e=false)) ∧
        st={ T:=[(3,.bptr 0 0 0),(6,.bptr 0 1 0),(7,.bptr 0 2 0),(8,I k),(30,Bo false)],loc:=[[I n,L2 es c],[I 0,Z],[I e.1,I e.2]],M:=[] }):=by
    intro m
    induction m with
    | zero =>
      intro k hk hb
      have h3:k=es.length:=hk
      subst h3
      refine wp_loop ?_
      repeat (first|refine wp_as ?_|refine wp_ss ?_|refine wr (by simp;with_reducible rfl) ?_|refine wq (by simp;with_reducible rfl) ?_|refine wt (by simpa) ?_|refine wf (by simpa) ?_|refine xt (by simpa) ?_|refine xf (by simpa) ?_|refine wp_bs ?_|refine wp_b ?_|refine wp_sr ?_|refine wp_sx ?_|refine wp_ret' ?_|refine wp_skip' ?_|refine wp_exit' ?_)
      exact ⟨rfl,es.length,⟨Nat.le_refl _,hb,fun h=>absurd h (by omega)⟩,rfl⟩
    | succ m ih =>
      intro k hk hb
      have hi2:k < es.length:=by omega
      have w2:IntKind.i64.wrap ((k:Int)+1)=((k+1:Nat):Int):=wrapS (by omega)
      have e1:=ev_lim (ev_edgeBelow es[k] e)
      cases hq:below es[k] e with
      | true =>
        refine wp_loop ?_
        repeat (first|refine wp_as ?_|refine wp_ss ?_|refine wr (by simp [hi2,e1,hq,w2];with_reducible rfl) ?_|refine wq (by simp [hi2,e1,hq,w2];with_reducible rfl) ?_|refine wt (by simpa [hi2,e1,hq,w2]) ?_|refine wf (by simpa [hi2,e1,hq,w2]) ?_|refine xt (by simpa [hi2,e1,hq,w2]) ?_|refine xf (by simpa [hi2,e1,hq,w2]) ?_|refine wp_bs ?_|refine wp_b ?_|refine wp_sr ?_|refine wp_sx ?_|refine wp_ret' ?_|refine wp_skip' ?_|refine wp_exit' ?_)
        refine ih (k+1) (by omega) fun x hx=>?_
        rw [List.take_succ_eq_append_getElem hi2] at hx
        rcases List.mem_append.1 hx with hx | hx
        · exact hb x hx
        · simp at hx;subst hx;exact hq
      | false =>
        refine wp_loop ?_
        repeat (first|refine wp_as ?_|refine wp_ss ?_|refine wr (by simp [hi2,e1,hq];with_reducible rfl) ?_|refine wq (by simp [hi2,e1,hq];with_reducible rfl) ?_|refine wt (by simpa [hi2,e1,hq]) ?_|refine wf (by simpa [hi2,e1,hq]) ?_|refine xt (by simpa [hi2,e1,hq]) ?_|refine xf (by simpa [hi2,e1,hq]) ?_|refine wp_bs ?_|refine wp_b ?_|refine wp_sr ?_|refine wp_sx ?_|refine wp_ret' ?_|refine wp_skip' ?_|refine wp_exit' ?_)
        exact ⟨rfl,k,⟨by omega,hb,fun _=>hq⟩,rfl⟩
  refine call_of_wp zt335 rfl ?_
  repeat (first|refine wp_as ?_|refine wp_ss ?_|refine wr (by simp [he1,he2];with_reducible rfl) ?_|refine wq (by simp [he1,he2];with_reducible rfl) ?_|refine wt (by simpa [he1,he2]) ?_|refine wf (by simpa [he1,he2]) ?_|refine xt (by simpa [he1,he2]) ?_|refine xf (by simpa [he1,he2]) ?_|refine wp_bs ?_|refine wp_b ?_|refine wp_sr ?_|refine wp_sx ?_|refine wp_ret' ?_|refine wp_skip' ?_|refine wp_exit' ?_)
  refine wp_imp (loop es.length 0 (by simp) (by simp)) ?_
  rintro ex st ⟨rfl,k,⟨hk,hb,hs⟩,rfl⟩
  rw [insE_at e es k hk hb hs]
  try simp only [if_true]
  have hT:es.take es.length=es:=List.take_of_length_le (Nat.le_refl _)
  have hT2:(es.drop k).take (es.length - k)=es.drop k:=List.take_of_length_le (by simp)
  have hT3:(es.take k).take k=es.take k:=by rw [List.take_take,Nat.min_self]
  have hl1:k≤274877906943:=by omega
  have hl2:k≤274877906944:=by omega
  have hl3:k+1≤274877906944:=by omega
  have hl4:k+1+(es.length - k)≤274877906944:=by omega
  have hT4:(es.take k++[(e.1,e.2)]).take (k+1)=es.take k++[(e.1,e.2)]:=List.take_of_length_le (by simp;omega)
  have hmin:min k es.length=k:=by omega
  repeat (first|refine wp_as ?_|refine wp_ss ?_|refine wr (by simp [hk,hT,hT2,hT3,hl1,hl2,hl3,hl4,hT4,hmin];with_reducible rfl) ?_|refine wq (by simp [hk,hT,hT2,hT3,hl1,hl2,hl3,hl4,hT4,hmin];with_reducible rfl) ?_|refine wt (by simpa [hk,hT,hT2,hT3,hl1,hl2,hl3,hl4,hT4,hmin]) ?_|refine wf (by simpa [hk,hT,hT2,hT3,hl1,hl2,hl3,hl4,hT4,hmin]) ?_|refine xt (by simpa [hk,hT,hT2,hT3,hl1,hl2,hl3,hl4,hT4,hmin]) ?_|refine xf (by simpa [hk,hT,hT2,hT3,hl1,hl2,hl3,hl4,hT4,hmin]) ?_|refine wp_bs ?_|refine wp_b ?_|refine wp_sr ?_|refine wp_sx ?_|refine wp_ret' ?_|refine wp_skip' ?_|refine wp_exit' ?_)
  refine wp_ra (by simp [hk,hT,hT2,hT3,hl1,hl2,hl3,hl4,hT4,hmin];with_reducible rfl) (by simp;with_reducible rfl) ?_ ?_
  · intro p hp
    simp only [List.mem_cons,List.not_mem_nil,or_false] at hp
    rcases hp with rfl | rfl | rfl | rfl | rfl | rfl | rfl | rfl | rfl | rfl | rfl
    · exact ⟨_,by simp [hk,hT,hT2,hT3,hl1,hl2,hl3,hl4,hT4,hmin];with_reducible rfl,by simp⟩
    · exact ⟨_,by simp [hk,hT,hT2,hT3,hl1,hl2,hl3,hl4,hT4,hmin];with_reducible rfl,by simp⟩
    · exact ⟨_,by simp [hk,hT,hT2,hT3,hl1,hl2,hl3,hl4,hT4,hmin];with_reducible rfl,by simp⟩
    · exact ⟨_,by simp [hk,hT,hT2,hT3,hl1,hl2,hl3,hl4,hT4,hmin];with_reducible rfl,by simp⟩
    · exact ⟨_,by simp [hk,hT,hT2,hT3,hl1,hl2,hl3,hl4,hT4,hmin];with_reducible rfl,by simp⟩
    · exact ⟨_,by simp [hk,hT,hT2,hT3,hl1,hl2,hl3,hl4,hT4,hmin];with_reducible rfl,by simp⟩
    · exact ⟨_,by simp [hk,hT,hT2,hT3,hl1,hl2,hl3,hl4,hT4,hmin];with_reducible rfl,by simp⟩
    · exact ⟨_,by simp [hk,hT,hT2,hT3,hl1,hl2,hl3,hl4,hT4,hmin];with_reducible rfl,by simp⟩
    · exact ⟨_,by simp [hk,hT,hT2,hT3,hl1,hl2,hl3,hl4,hT4,hmin];with_reducible rfl,by simp⟩
    · exact ⟨_,by simp [hk,hT,hT2,hT3,hl1,hl2,hl3,hl4,hT4,hmin];with_reducible rfl,by simp⟩
    · exact ⟨_,by simp [hk,hT,hT2,hT3,hl1,hl2,hl3,hl4,hT4,hmin];with_reducible rfl,by simp⟩
  repeat (first|refine wp_as ?_|refine wp_ss ?_|refine wr (by simp;with_reducible rfl) ?_|refine wq (by simp;with_reducible rfl) ?_|refine wt (by simpa) ?_|refine wf (by simpa) ?_|refine xt (by simpa) ?_|refine xf (by simpa) ?_|refine wp_bs ?_|refine wp_b ?_|refine wp_sr ?_|refine wp_sx ?_|refine wp_ret' ?_|refine wp_skip' ?_|refine wp_exit' ?_)
  simp [zi335]
end Go.Idl
namespace Go.Idl
open Go
def tab (t:List (List Int)):List (List IV):=t.map fun r=>[.lst 1 (ints r) false]
def oab (t:List (List Int)):List (List IV):=t.map fun r=>[.own 1 (ints r)]
abbrev TL (t:List (List Int)) (c:Bool:=false):IV:=.lst 1 (tab t) c
abbrev OT (t:List (List Int)):IV:=.own 1 (oab t)
@[simp] theorem tab_len (t:List (List Int)):(tab t).length=t.length:=by simp [tab]
@[simp] theorem oab_len (t:List (List Int)):(oab t).length=t.length:=by simp [oab]
@[simp] theorem oab_nil:oab []=[]:=rfl
@[simp] theorem tab_get? (t:List (List Int)) (i:Nat):(tab t)[i]? = t[i]?.map fun r=>[IV.lst 1 (ints r) false]:=by simp [tab]
@[simp] theorem tab_get (t:List (List Int)) (i:Nat) (h:i < (tab t).length):(tab t)[i]=[IV.lst 1 (ints (t[i]'(by simpa [tab] using h))) false]:=by simp [tab]
@[simp] theorem oab_get? (t:List (List Int)) (i:Nat):(oab t)[i]? = t[i]?.map fun r=>[IV.own 1 (ints r)]:=by simp [oab]
@[simp] theorem oab_get (t:List (List Int)) (i:Nat) (h:i < (oab t).length):(oab t)[i]=[IV.own 1 (ints (t[i]'(by simpa [oab] using h)))]:=by simp [oab]
@[simp] theorem oab_one (t:List (List Int)) (r:List Int):oab t++[[IV.own 1 (ints r)]]=oab (t++[r]):=by simp [oab]
@[simp] theorem oab_set (t:List (List Int)) (i:Nat) (r:List Int):(oab t).set i [IV.own 1 (ints r)]=oab (t.set i r):=by simp [oab,List.map_set]
@[simp] theorem oab_take (t:List (List Int)) (n:Nat):(oab t).take n=oab (t.take n):=by simp [oab,List.map_take]
@[simp] theorem frz_oab (t:List (List Int)):frzLL (oab t)=tab t:=by
  induction t with
  | nil=>rfl
  | cons x xs ih =>
    simp only [oab,tab,List.map_cons,frzLL,frzL,frzV] at *
    rw [ih]
    have:frzLL (ints x)=ints x:=by
      clear ih
      induction x with
      | nil=>rfl
      | cons y ys ih=>simp only [ints,List.map_cons,frzLL,frzL,frzV] at *;rw [ih]
    rw [this]
@[simp] theorem tab_all1 (t:List (List Int)):((tab t).all fun x=>x.all IV.plain1)=true:=by
  induction t with
  | nil=>rfl
  | cons x xs ih=>simp only [tab,List.map_cons,List.all_cons] at *;rw [ih];rfl
@[simp] theorem oab_noLst (t:List (List Int)):noLstLL (oab t)=true:=by
  induction t with
  | nil=>rfl
  | cons x xs ih =>
    simp only [oab,List.map_cons,noLstLL,noLstL,noLstV] at *
    rw [ih,ints_noLst];rfl
def g2 (t:List (List Int)) (a b:Nat):Int:=(t.getD a []).getD b 0
end Go.Idl
namespace Go.Idl
open Go
theorem ev_Index (xs:List Int) (c:Bool) (y:Int) (hl:xs.length≤1000000) :
    Ev tb zl74 [] [L xs c,I y] [] ⟨I (idx (fun x=>decide (y=x)) 0 xs),[],[],[]⟩:=by
  have loop:∀ (m i:Nat),i+m=xs.length→wp tb (.loop z74l7) { T:=[(0,L xs c),(1,I y),(7,I xs.length),(8,I i)],loc:=[],M:=[] }
      (fun ex st=>(ex=.exit 0∧idx (fun x=>decide (y=x)) i (xs.drop i)=-1∧st={ T:=[(0,L xs c),(1,I y),(7,I xs.length),(8,I xs.length),(9,Bo false)],loc:=[],M:=[] }) ∨
        ex=.ret∧st={ T:=[(4,I (idx (fun x=>decide (y=x)) i (xs.drop i)))],loc:=[],M:=[] }):=by
    intro m
    induction m with
    | zero =>
      intro i hi
      obtain ⟨h1,h2⟩:=drop_end hi
      have h3:i=xs.length:=hi
      subst h3
      refine wp_loop ?_
      repeat (first|refine wp_as ?_|refine wp_ss ?_|refine wr (by simp;with_reducible rfl) ?_|refine wq (by simp;with_reducible rfl) ?_|refine wt (by simpa) ?_|refine wf (by simpa) ?_|refine xt (by simpa) ?_|refine xf (by simpa) ?_|refine wp_bs ?_|refine wp_b ?_|refine wp_sr ?_|refine wp_sx ?_|refine wp_ret' ?_|refine wp_skip' ?_|refine wp_exit' ?_)
      exact .inl ⟨rfl,by rw [h2];rfl,rfl⟩
    | succ m ih =>
      intro i hi
      obtain ⟨hi2,h2,h3⟩:=drop_get hi
      have w2:IntKind.i64.wrap ((i:Int)+1)=((i+1:Nat):Int):=wrapS (by omega)
      rw [h2]
      by_cases he:y=xs[i]
      · refine wp_loop ?_
        repeat (first|refine wp_as ?_|refine wp_ss ?_|refine wr (by simp [hi2,he];with_reducible rfl) ?_|refine wq (by simp [hi2,he];with_reducible rfl) ?_|refine wt (by simpa [hi2,he]) ?_|refine wf (by simpa [hi2,he]) ?_|refine xt (by simpa [hi2,he]) ?_|refine xf (by simpa [hi2,he]) ?_|refine wp_bs ?_|refine wp_b ?_|refine wp_sr ?_|refine wp_sx ?_|refine wp_ret' ?_|refine wp_skip' ?_|refine wp_exit' ?_)
        exact .inr ⟨rfl,by simp [idx,he]⟩
      · refine wp_loop ?_
        repeat (first|refine wp_as ?_|refine wp_ss ?_|refine wr (by simp [hi2,he,w2];with_reducible rfl) ?_|refine wq (by simp [hi2,he,w2];with_reducible rfl) ?_|refine wt (by simpa [hi2,he,w2]) ?_|refine wf (by simpa [hi2,he,w2]) ?_|refine xt (by simpa [hi2,he,w2]) ?_|refine xf (by simpa [hi2,he,w2]) ?_|refine wp_bs ?_|refine wp_b ?_|refine wp_sr ?_|refine wp_sx ?_|refine wp_ret' ?_|refine wp_skip' ?_|refine wp_exit' ?_)
        have:=ih (i+1) (by omega)
        simp only [idx,he,decide_false,Bool.false_eq_true,if_false] at this ⊢
        exact this
  refine call_of_wp zt74 rfl ?_
  repeat (first|refine wp_as ?_|refine wp_ss ?_|refine wr (by simp;with_reducible rfl) ?_|refine wq (by simp;with_reducible rfl) ?_|refine wt (by simpa) ?_|refine wf (by simpa) ?_|refine xt (by simpa) ?_|refine xf (by simpa) ?_|refine wp_bs ?_|refine wp_b ?_|refine wp_sr ?_|refine wp_sx ?_|refine wp_ret' ?_|refine wp_skip' ?_|refine wp_exit' ?_)
  refine wp_imp (loop xs.length 0 (by omega)) ?_
  rintro ex st (⟨rfl,h,rfl⟩ | ⟨rfl,rfl⟩)
  · simp only [if_true]
    simp only [List.drop_zero] at h
    repeat (first|refine wp_as ?_|refine wp_ss ?_|refine wr (by simp;with_reducible rfl) ?_|refine wq (by simp;with_reducible rfl) ?_|refine wt (by simpa) ?_|refine wf (by simpa) ?_|refine xt (by simpa) ?_|refine xf (by simpa) ?_|refine wp_bs ?_|refine wp_b ?_|refine wp_sr ?_|refine wp_sx ?_|refine wp_ret' ?_|refine wp_skip' ?_|refine wp_exit' ?_)
    simp [zi74]
    exact h.symm
  · simp [zi74]
def asc0 (s:List Int):List Int:=(fall s).reverse
def overT (s:List Int) (i:Nat):Int:=((asc0 s).take (i+1)).sum - ((i:Int)+1) * i / 2
def over (s:List Int):List Int:=mapR s.length (overT s)
end Go.Idl
namespace Go.Idl
open Go
theorem sum01 (r:List Int) (h:∀ x ∈ r,0≤x∧x≤1):0≤r.sum∧r.sum≤r.length:=by
  induction r with
  | nil=>simp
  | cons x xs ih =>
    have h1:=h x (by simp)
    have h2:=ih fun y hy=>h y (by simp [hy])
    simp only [List.sum_cons,List.length_cons];omega
end Go.Idl
namespace Go.Idl
open Go
theorem ev_hasInt (xs:List Int) (c:Bool) (y:Int) (hl:xs.length≤1000000) :
    Ev tb zl131 [] [L xs c,I y] [] ⟨Bo (decide (y ∈ xs)),[],[],[]⟩:=by
  have loop:∀ (m i:Nat),i+m=xs.length→wp tb (.loop z131l6) { T:=[(0,L xs c),(1,I y),(5,I i)],loc:=[],M:=[] }
      (fun ex st=>(ex=.exit 0∧y ∉ xs.drop i∧st={ T:=[(0,L xs c),(1,I y),(5,I xs.length),(9,Bo false)],loc:=[],M:=[] }) ∨
        ex=.ret∧y ∈ xs.drop i∧st={ T:=[(4,Bo true)],loc:=[],M:=[] }):=by
    intro m
    induction m with
    | zero =>
      intro i hi
      obtain ⟨h1,h2⟩:=drop_end hi
      have h3:i=xs.length:=hi
      subst h3
      refine wp_loop ?_
      repeat (first|refine wp_as ?_|refine wp_ss ?_|refine wr (by simp;with_reducible rfl) ?_|refine wq (by simp;with_reducible rfl) ?_|refine wt (by simpa) ?_|refine wf (by simpa) ?_|refine xt (by simpa) ?_|refine xf (by simpa) ?_|refine wp_bs ?_|refine wp_b ?_|refine wp_sr ?_|refine wp_sx ?_|refine wp_ret' ?_|refine wp_skip' ?_|refine wp_exit' ?_)
      exact .inl ⟨rfl,by rw [h2];simp,rfl⟩
    | succ m ih =>
      intro i hi
      obtain ⟨hi2,h2,h3⟩:=drop_get hi
      have w2:IntKind.i64.wrap ((i:Int)+1)=((i+1:Nat):Int):=wrapS (by omega)
      rw [h2]
      by_cases he:xs[i]=y
      · refine wp_loop ?_
        repeat (first|refine wp_as ?_|refine wp_ss ?_|refine wr (by simp [hi2,he];with_reducible rfl) ?_|refine wq (by simp [hi2,he];with_reducible rfl) ?_|refine wt (by simpa [hi2,he]) ?_|refine wf (by simpa [hi2,he]) ?_|refine xt (by simpa [hi2,he]) ?_|refine xf (by simpa [hi2,he]) ?_|refine wp_bs ?_|refine wp_b ?_|refine wp_sr ?_|refine wp_sx ?_|refine wp_ret' ?_|refine wp_skip' ?_|refine wp_exit' ?_)
        exact .inr ⟨rfl,by simp [he],rfl⟩
      · refine wp_loop ?_
        repeat (first|refine wp_as ?_|refine wp_ss ?_|refine wr (by simp [hi2,he,w2];with_reducible rfl) ?_|refine wq (by simp [hi2,he,w2];with_reducible rfl) ?_|refine wt (by simpa [hi2,he,w2]) ?_|refine wf (by simpa [hi2,he,w2]) ?_|refine xt (by simpa [hi2,he,w2]) ?_|refine xf (by simpa [hi2,he,w2]) ?_|refine wp_bs ?_|refine wp_b ?_|refine wp_sr ?_|refine wp_sx ?_|refine wp_ret' ?_|refine wp_skip' ?_|refine wp_exit' ?_)
        refine wp_imp (ih (i+1) (by omega)) ?_
        rintro ex st (⟨rfl,h,rfl⟩ | ⟨rfl,h,rfl⟩)
        · exact .inl ⟨rfl,by rw [List.mem_cons];rintro (h' | h');exact he h'.symm;exact h h',rfl⟩
        · exact .inr ⟨rfl,List.mem_cons_of_mem _ h,rfl⟩
  refine call_of_wp zt131 rfl ?_
  repeat (first|refine wp_as ?_|refine wp_ss ?_|refine wr (by simp;with_reducible rfl) ?_|refine wq (by simp;with_reducible rfl) ?_|refine wt (by simpa) ?_|refine wf (by simpa) ?_|refine xt (by simpa) ?_|refine xf (by simpa) ?_|refine wp_bs ?_|refine wp_b ?_|refine wp_sr ?_|refine wp_sx ?_|refine wp_ret' ?_|refine wp_skip' ?_|refine wp_exit' ?_)
  refine wp_imp (loop xs.length 0 (by omega)) ?_
  rintro ex st (⟨rfl,h,rfl⟩ | ⟨rfl,h,rfl⟩)
  · simp only [if_true]
    simp only [List.drop_zero] at h
    repeat (first|refine wp_as ?_|refine wp_ss ?_|refine wr (by simp;with_reducible rfl) ?_|refine wq (by simp;with_reducible rfl) ?_|refine wt (by simpa) ?_|refine wf (by simpa) ?_|refine xt (by simpa) ?_|refine xf (by simpa) ?_|refine wp_bs ?_|refine wp_b ?_|refine wp_sr ?_|refine wp_sx ?_|refine wp_ret' ?_|refine wp_skip' ?_|refine wp_exit' ?_)
    simp [zi131,h]
  · simp only [List.drop_zero] at h
    simp [zi131,h]
end Go.Idl
namespace Go.Idl
open Go
def rI (N:Nat):List Int:=(List.range N).map fun v:Nat=>(v:Int)
theorem rI_len (N:Nat):(rI N).length=N:=by simp [rI]
theorem mem_rI {N:Nat} {x:Int}:x ∈ rI N ↔ 0≤x∧x < N:=by
  simp only [rI,List.mem_map,List.mem_range]
  exact ⟨fun ⟨v,h1,h2⟩=>by omega,fun h=>⟨x.toNat,by omega,by omega⟩⟩
theorem filter_len {α} (p:α→Bool) (l:List α):(l.filter p).length+(l.filter fun a=>!p a).length=l.length:=by
  induction l with
  | nil=>rfl
  | cons a l ih=>simp only [List.filter_cons];cases p a <;> simp <;> omega
end Go.Idl
namespace Go.Idl
open Go
structure SmallG (n:Int) (es:List (Int×Int)):Prop where
  n1:-1≤n
  n2:n≤8
  len:es.length≤60
  el:∀ e ∈ es,-1≤e.1∧e.1≤8∧-1≤e.2∧e.2≤8
theorem SmallG.fit {n es} (h:SmallG n es):Fit es:=fun e he=>by have:=h.el e he;omega
theorem good_small {n:Nat} {es:List (Int×Int)} (hn:n≤7) (hs:es.Sublist (prs n)):SmallG n es :=
  ⟨by omega,by omega,by have:=prs_len hn hs;omega,fun e he=>by have:=prs_in hs e he;omega⟩
theorem small_set {n:Int} {es:List (Int×Int)} (h:SmallG n es) {k:Nat} {e:Int×Int} (he:-1≤e.1∧e.1≤8∧-1≤e.2∧e.2≤8):SmallG n (es.set k e) :=
  ⟨h.n1,h.n2,by rw [List.length_set];exact h.len,fun x hx=>by
    rcases List.mem_or_eq_of_mem_set hx with hx | rfl
    · exact h.el x hx
    · exact he⟩
theorem ev_someGraph (code:List Int) (c:Bool) (hc:CodeOk code) (cnt:Nat) (hn:cnt≤80000) (A bs:Boxes) (Ms:List Boxes) :
    ∃ (n:Int) (es:List (Int×Int)) (k:Nat),SmallG n es∧k≤cnt+110 ∧
      limF tb zl378 [] [.bptr 0 A.length 0] ((A++R code c cnt::bs)::Ms)=some ⟨OG n es,[],(A++R code c k::bs)::Ms,[]⟩:=by
  obtain ⟨n,es,k1,hn7,hs,hk1,e1⟩:=ev_goodGraphA code c hc cnt (by omega) A bs (Ms++[[]])
  have e1:=ev_lim e1
  have hS:=good_small hn7 hs
  have hel:=hS.len
  suffices hh:∃ r,(∃ (n:Int) (es:List (Int×Int)) (k:Nat),SmallG n es∧k≤cnt+110∧r=⟨OG n es,[],(A++R code c k::bs)::Ms,[]⟩)∧Ev tb zl378 [] [.bptr 0 A.length 0] ((A++R code c cnt::bs)::Ms) r by
    obtain ⟨r,⟨n,es,k,q1,q2,rfl⟩,q3⟩:=hh
    exact ⟨n,es,k,q1,q2,ev_lim q3⟩
  refine call_ex zt378 rfl ?_
  by_cases h0:es.length=0
  · have h00:es=[]:=List.length_eq_zero_iff.1 h0
    subst h00
    repeat (first|refine wp_as ?_|refine wp_ss ?_|refine wr (by simp [e1];with_reducible rfl) ?_|refine wq (by simp [e1];with_reducible rfl) ?_|refine wt (by simpa [e1]) ?_|refine wf (by simpa [e1]) ?_|refine xt (by simpa [e1]) ?_|refine xf (by simpa [e1]) ?_|refine wp_bs ?_|refine wp_b ?_|refine wp_sr ?_|refine wp_sx ?_|refine wp_ret' ?_|refine wp_skip' ?_|refine wp_exit' ?_)
    refine ⟨.inr rfl,_,⟨n,[],k1,hS,by omega,rfl⟩,?_⟩
    simp [zi378]
  have h1:(0:Int) < es.length:=by omega
  have h1':0 < es.length:=by omega
  obtain ⟨v,k2,hv,hk2,e2⟩:=pickA code c hc k1 (by omega) (es.length:Int) (by omega) A bs (Ms++[[]])
  have hv:=hv (by omega)
  have hvl:v < es.length:=by omega
  obtain ⟨u,k3,-,hk3,e3⟩:=pickA code c hc k2 (by omega) 30 (by omega) A bs (Ms++[[]])
  have hev:=hS.el es[v] (List.getElem_mem hvl)
  by_cases hu0:u=0
  · subst hu0
    obtain ⟨x,k4,hx,hk4,e4⟩:=oneA code c hc k3 (by omega) [-1,7,es[v].2] (by simp) A bs (Ms++[[]])
    have hx:-1≤x∧x≤8:=by simp at hx;omega
    repeat (first|refine wp_as ?_|refine wp_ss ?_|refine wr (by simp [e1,e2,e3,h1,h1'];with_reducible rfl) ?_|refine wq (by simp [e1,e2,e3,h1,h1'];with_reducible rfl) ?_|refine wt (by simpa [e1,e2,e3,h1,h1']) ?_|refine wf (by simpa [e1,e2,e3,h1,h1']) ?_|refine xt (by simpa [e1,e2,e3,h1,h1']) ?_|refine xf (by simpa [e1,e2,e3,h1,h1']) ?_|refine wp_bs ?_|refine wp_b ?_|refine wp_sr ?_|refine wp_sx ?_|refine wp_ret' ?_|refine wp_skip' ?_|refine wp_exit' ?_)
    refine wp_rega (by simp [hvl,e4];with_reducible rfl) (by simp;with_reducible rfl) ?_ ?_
    · intro p hp
      simp only [List.mem_cons,List.not_mem_nil,or_false] at hp
      rcases hp with rfl | rfl
      · exact ⟨_,by simp [hvl,e4];with_reducible rfl,by simp⟩
      · exact ⟨_,by simp [hvl,e4];with_reducible rfl,by simp⟩
    repeat (first|refine wp_as ?_|refine wp_ss ?_|refine wr (by simp;with_reducible rfl) ?_|refine wq (by simp;with_reducible rfl) ?_|refine wt (by simpa) ?_|refine wf (by simpa) ?_|refine xt (by simpa) ?_|refine xf (by simpa) ?_|refine wp_bs ?_|refine wp_b ?_|refine wp_sr ?_|refine wp_sx ?_|refine wp_ret' ?_|refine wp_skip' ?_|refine wp_exit' ?_)
    refine ⟨.inr rfl,_,⟨n,es.set v (x,es[v].2),k4,small_set hS ⟨by omega,by omega,by omega,by omega⟩,by omega,rfl⟩,?_⟩
    simp [zi378]
    rw [List.take_of_length_le (by simp)]
  by_cases hu1:u=1
  · subst hu1
    have hap:SmallG n (es++[es[v]]):=⟨hS.n1,hS.n2,by have:=prs_len hn7 hs;simp;omega,fun e he=>by
      rcases List.mem_append.1 he with he | he
      · exact hS.el e he
      · simp at he;subst he;exact hev⟩
    have hlm:es.length+1≤274877906944:=by omega
    repeat (first|refine wp_as ?_|refine wp_ss ?_|refine wr (by simp [e1,e2,e3,h1,h1'];with_reducible rfl) ?_|refine wq (by simp [e1,e2,e3,h1,h1'];with_reducible rfl) ?_|refine wt (by simpa [e1,e2,e3,h1,h1']) ?_|refine wf (by simpa [e1,e2,e3,h1,h1']) ?_|refine xt (by simpa [e1,e2,e3,h1,h1']) ?_|refine xf (by simpa [e1,e2,e3,h1,h1']) ?_|refine wp_bs ?_|refine wp_b ?_|refine wp_sr ?_|refine wp_sx ?_|refine wp_ret' ?_|refine wp_skip' ?_|refine wp_exit' ?_)
    refine wp_rega (by simp [hvl,hlm];with_reducible rfl) (by simp;with_reducible rfl) ?_ ?_
    · intro p hp
      simp only [List.mem_cons,List.not_mem_nil,or_false] at hp
      subst hp
      exact ⟨_,by simp [hvl,hlm];with_reducible rfl,by simp⟩
    repeat (first|refine wp_as ?_|refine wp_ss ?_|refine wr (by simp;with_reducible rfl) ?_|refine wq (by simp;with_reducible rfl) ?_|refine wt (by simpa) ?_|refine wf (by simpa) ?_|refine xt (by simpa) ?_|refine xf (by simpa) ?_|refine wp_bs ?_|refine wp_b ?_|refine wp_sr ?_|refine wp_sx ?_|refine wp_ret' ?_|refine wp_skip' ?_|refine wp_exit' ?_)
    refine ⟨.inr rfl,_,⟨n,es++[es[v]],k3,hap,by omega,rfl⟩,?_⟩
    simp [zi378]
    rw [List.take_of_length_le (by simp)]
  have hu0':¬ (u:Int)=0:=by omega
  have hu1':¬ (u:Int)=1:=by omega
  by_cases hu2:u=2
  · subst hu2
    obtain ⟨x,k4,hx,hk4,e4⟩:=oneA code c hc k3 (by omega) [-1,8,2] (by simp) A bs (Ms++[[]])
    have hx:-1≤x∧x≤8:=by simp at hx;omega
    repeat (first|refine wp_as ?_|refine wp_ss ?_|refine wr (by simp [e1,e2,e3,e4,h1,h1'];with_reducible rfl) ?_|refine wq (by simp [e1,e2,e3,e4,h1,h1'];with_reducible rfl) ?_|refine wt (by simpa [e1,e2,e3,e4,h1,h1']) ?_|refine wf (by simpa [e1,e2,e3,e4,h1,h1']) ?_|refine xt (by simpa [e1,e2,e3,e4,h1,h1']) ?_|refine xf (by simpa [e1,e2,e3,e4,h1,h1']) ?_|refine wp_bs ?_|refine wp_b ?_|refine wp_sr ?_|refine wp_sx ?_|refine wp_ret' ?_|refine wp_skip' ?_|refine wp_exit' ?_)
    refine ⟨.inr rfl,_,⟨x,es,k4,⟨hx.1,hx.2,hS.len,hS.el⟩,by omega,rfl⟩,?_⟩
    simp [zi378]
  · have hu2':¬ (u:Int)=2:=by omega
    repeat (first|refine wp_as ?_|refine wp_ss ?_|refine wr (by simp [e1,e2,e3,h1,h1',hu0,hu1,hu2,hu0',hu1',hu2'];with_reducible rfl) ?_|refine wq (by simp [e1,e2,e3,h1,h1',hu0,hu1,hu2,hu0',hu1',hu2'];with_reducible rfl) ?_|refine wt (by simpa [e1,e2,e3,h1,h1',hu0,hu1,hu2,hu0',hu1',hu2']) ?_|refine wf (by simpa [e1,e2,e3,h1,h1',hu0,hu1,hu2,hu0',hu1',hu2']) ?_|refine xt (by simpa [e1,e2,e3,h1,h1',hu0,hu1,hu2,hu0',hu1',hu2']) ?_|refine xf (by simpa [e1,e2,e3,h1,h1',hu0,hu1,hu2,hu0',hu1',hu2']) ?_|refine wp_bs ?_|refine wp_b ?_|refine wp_sr ?_|refine wp_sx ?_|refine wp_ret' ?_|refine wp_skip' ?_|refine wp_exit' ?_)
    refine ⟨.inr rfl,_,⟨n,es,k3,hS,by omega,rfl⟩,?_⟩
    simp [zi378]
end Go.Idl
namespace Go.Idl
open Go
theorem degs_len (n:Nat) (es:List (Int×Int)):(degs n es).length=n:=by rw [degs,dfold_len];simp
end Go.Idl
namespace Go.Idl
open Go
def gls (n:Int) (gl:List (List (Int×Int))):List (List IV):=gl.map fun es=>[I n,O2 es]
@[simp] theorem gls_len (n:Int) (gl):(gls n gl).length=gl.length:=by simp [gls]
@[simp] theorem gls_one (n:Int) (gl) (es:List (Int×Int)):gls n gl++[[IV.sc (.int .i64 n),.own 2 (eds es)]]=gls n (gl++[es]):=by simp [gls]
@[simp] theorem gls_emp (n:Int) (gl):(gls n gl).isEmpty=gl.isEmpty:=by cases gl <;> rfl
@[simp] theorem gls_take (n:Int) (gl) (k:Nat):(gls n gl).take k=gls n (gl.take k):=by simp [gls,List.map_take]
@[simp] theorem gls_all (n:Int) (gl):((gls n gl).all fun x=>x.all IV.isData)=true:=by
  induction gl with
  | nil=>rfl
  | cons x xs ih=>simp only [gls,List.map_cons,List.all_cons] at *;rw [ih];rfl
@[simp] theorem gls_noLst (n:Int) (gl):noLstLL (gls n gl)=true:=by
  induction gl with
  | nil=>rfl
  | cons x xs ih=>simp only [gls,List.map_cons,noLstLL,noLstL,noLstV,eds_noLst] at *;rw [ih];rfl
end Go.Idl
namespace Go.Idl
def insP (x:Nat×Nat):List (Nat×Nat)→List (Nat×Nat)
  | []=>[x]
  | y::r=>if Nat.ble y.1 x.1 then x::y::r else y::insP x r
def hh:Nat→List (Nat×Nat)→List (Nat×Nat)
  | 0,_=>[]
  | _+1,[]=>[]
  | m+1,x::r=>(r.take x.1).map (fun y:Nat×Nat=>(x.2,y.2))++hh m ((((r.take x.1).map (fun y:Nat×Nat=>(y.1 - 1,y.2))++r.drop x.1:List (Nat×Nat))).foldr insP [])
theorem ite_iff {α:Type} {p q:Prop} [Decidable p] [Decidable q] (h:p ↔ q) (a b:α):(if p then a else b)=if q then a else b:=by
  by_cases hp:p
  · rw [if_pos hp,if_pos (h.1 hp)]
  · rw [if_neg hp,if_neg fun hq=>hp (h.2 hq)]
def mk (u v:Nat):Int×Int:=(min (u:Int) v,max (u:Int) v)
theorem S_ite {α:Type} (l:List α) (p:α→Bool) (f:α→Int):S (l.filter p) f=S l (fun a=>if p a then f a else 0):=by
  induction l with
  | nil=>rfl
  | cons a l ih =>
    rw [List.filter_cons,S_cons]
    split <;> rename_i h
    · rw [S_cons,ih]
    · rw [ih];omega
end Go.Idl
namespace Go.Idl
def lexR (left:List Int) (a b:Int):Prop:=left.getD b.toNat 0 < left.getD a.toNat 0 ∨ (left.getD a.toNat 0=left.getD b.toNat 0∧a < b)
theorem lexR_trans {left:List Int} {a b c:Int} (h:lexR left a b) (k:lexR left b c):lexR left a c:=by
  simp only [lexR] at *;omega
theorem lexR_irr {left:List Int} {a:Int} (h:lexR left a a):False:=by
  simp only [lexR] at h;omega
theorem insC_lex {left:List Int} {x:Int}:∀ (r B:List Int),(r.reverse++B).Pairwise (lexR left)→(∀ y ∈ r,y < x)→(∀ b ∈ B,left.getD b.toNat 0 < left.getD x.toNat 0)→(insC (gtD left) x r B).Pairwise (lexR left)
  | [],B,h,_,hb=>List.pairwise_cons.2 ⟨fun b hb'=>.inl (hb b hb'),by simpa using h⟩
  | a::r,B,h,hr,hb=>by
    rw [List.reverse_cons,List.append_assoc] at h
    unfold insC
    split
    · rename_i hx
      refine insC_lex r (a::B) h (fun y hy=>hr y (by simp [hy])) fun b hb'=>?_
      rcases List.mem_cons.1 hb' with rfl | hb'
      · simpa [gtD] using hx
      · exact hb b hb'
    · rename_i hx
      have hx:left.getD x.toNat 0≤left.getD a.toNat 0:=by
        simp only [gtD,decide_eq_true_eq] at hx;omega
      have hax:lexR left a x:=by
        have:=hr a (by simp)
        simp only [lexR];omega
      obtain ⟨h1,h2,h3⟩:=List.pairwise_append.1 (show (r.reverse++a::B).Pairwise (lexR left) from h)
      have h2:=List.pairwise_cons.1 h2
      refine List.pairwise_append.2 ⟨h1,?_,fun p hp q hq=>?_⟩
      · refine List.pairwise_cons.2 ⟨fun q hq=>?_,List.pairwise_cons.2 ⟨fun b hb'=>.inl (hb b hb'),h2.2⟩⟩
        rcases List.mem_cons.1 hq with rfl | hq
        · exact hax
        · exact h2.1 q hq
      · have h4:=h3 p hp a (by simp)
        rcases List.mem_cons.1 hq with rfl | hq
        · exact h4
        · rcases List.mem_cons.1 hq with rfl | hq
          · exact lexR_trans h4 hax
          · exact h3 p hp q (by simp [hq])
theorem srtC_lex {left:List Int}:∀ (T S:List Int),S.Pairwise (lexR left)→(∀ y ∈ S,∀ x ∈ T,y < x)→T.Pairwise (fun a b:Int=>a < b)→(srtC (gtD left) S T).Pairwise (lexR left)
  | [],S,h,_,_=>h
  | x::r,S,h,hs,ht=>by
    have ht':=List.pairwise_cons.1 ht
    rw [srtC]
    refine srtC_lex r _ (insC_lex _ _ (by simpa using h) (fun y hy=>hs y (by simpa using hy) x (by simp)) (by simp)) (fun y hy z hz=>?_) ht'.2
    have:=(insC_perm (gtD left) x S.reverse []).mem_iff.1 hy
    simp only [List.reverse_reverse,List.mem_append,List.mem_cons,List.not_mem_nil,or_false] at this
    rcases this with h1 | rfl
    · exact hs y h1 z (by simp [hz])
    · exact ht'.1 z hz
end Go.Idl
namespace Go.Idl
theorem idxB_pw (n:Nat):(idxB n (-1)).Pairwise (fun a b:Int=>a < b):=by
  rw [idxB_all,List.pairwise_map]
  exact (List.pairwise_lt_range).imp fun h=>by omega
theorem mem_idxB {n:Nat} {x:Int}:x ∈ idxB n (-1) ↔ 0≤x∧x < n:=by
  rw [idxB_all,List.mem_map]
  constructor
  · rintro ⟨v,hv,rfl⟩;have:=List.mem_range.1 hv;omega
  · intro h;exact ⟨x.toNat,List.mem_range.2 (by omega),by omega⟩
end Go.Idl
namespace Go.Idl
def hv:Nat→List Int→Bool
  | 0,_=>true
  | _+1,[]=>true
  | m+1,x::r=>decide (x≤r.length) && (r.take x.toNat).all (fun y=>!decide (y=0)) && hv m (fall ((r.take x.toNat).map (fun y=>y - 1)++r.drop x.toNat))
end Go.Idl
namespace Go.Idl
open Go
@[simp] theorem un_neg (n:Int):Op.unary .neg (.int .i64 n)=.pure (.int .i64 (IntKind.i64.wrap (-n))):=by
  rw [← Int.zero_sub];rfl
def gs (r c:List Int) (i:Nat):Int:=-((fall r).take (i+1)).sum+(c.map fun x:Int=>min x ((i:Int)+1)).sum
end Go.Idl
namespace Go.Idl
open Go
def TT (n:Nat) (t:List (List Int)):Prop:=t.length=n∧∀ r ∈ t,r.length=n∧∀ x ∈ r,0≤x∧x≤1
theorem TT.set {n:Nat} {t:List (List Int)} (h:TT n t) {a b:Nat} {v:Int} (ha:a < t.length) (hv:0≤v∧v≤1):TT n (t.set a (t[a].set b v)):=by
  refine ⟨by simpa using h.1,fun r hr=>?_⟩
  have h1:=h.2 _ (List.getElem_mem ha)
  rcases List.mem_or_eq_of_mem_set hr with hr | rfl
  · exact h.2 r hr
  · refine ⟨by simpa using h1.1,fun x hx=>?_⟩
    rcases List.mem_or_eq_of_mem_set hx with hx | rfl
    · exact h1.2 x hx
    · exact hv
end Go.Idl
namespace Go.Idl
open Go
def MM (h w:Nat) (t:List (List Int)):Prop:=t.length=h∧∀ r ∈ t,r.length=w∧∀ x ∈ r,0≤x∧x≤1
end Go.Idl
namespace Go.Idl
open Go
theorem MM.sums {h w:Nat} {t:List (List Int)} (ht:MM h w t) (hw:w≤5):∀ x ∈ t.map List.sum,0≤x∧x≤5:=by
  intro x hx
  obtain ⟨r,hr,rfl⟩:=List.mem_map.1 hx
  have h1:=ht.2 r hr
  have:=sum01 r h1.2
  omega
end Go.Idl
namespace Go.Idl
open Go
def durfA:List Int→Nat→Nat→Nat
  | [],_,k=>k
  | x::q,i,k=>durfA q (i+1) (if (i:Int)≤x then i+1 else k)
def durf (s:List Int):Nat:=durfA s 0 0
theorem durfA_le (B:Nat):∀ (s:List Int) (i k:Nat),k≤B→i+s.length≤B→durfA s i k≤B
  | [],_,_,h,_=>h
  | x::q,i,k,h,hb=>by
    simp only [List.length_cons] at hb
    rw [durfA]
    refine durfA_le B q _ _ ?_ (by omega)
    split <;> omega
theorem durfA_ge:∀ (s:List Int) (i k:Nat),1≤k→1≤durfA s i k
  | [],_,_,h=>h
  | x::q,i,k,h=>by
    rw [durfA]
    refine durfA_ge q _ _ ?_
    split <;> omega
theorem durf_le (s:List Int):durf s≤s.length:=durfA_le _ s 0 0 (by omega) (by omega)
theorem durf_ge {s:List Int} (h:s ≠ []) (h0:∀ x ∈ s,0≤x):1≤durf s:=by
  cases s with
  | nil=>exact absurd rfl h
  | cons x q =>
    have:=h0 x (by simp)
    simp only [durf,durfA]
    refine durfA_ge q _ _ ?_
    rw [if_pos (by simpa using this)]
    omega
theorem ev_DurfeeOf (d:List Int) (c:Bool) (hv:valid d=true):Ev tb zl164 [] [L d c] [] ⟨I (durf (fall d)),[],[],[]⟩:=by
  have hl:=(valid_few hv).1
  have e1:=ev_lim (ev_SortDegrees d c hv)
  have hfl:=fall_len d
  generalize fall d=s at *
  have loop:∀ (m i k:Nat),i+m=s.length→k≤i→wp tb (.loop z164l8) { T:=[(3,I k),(7,O s),(8,I s.length),(9,I i)],loc:=[],M:=[] }
      (fun ex st=>ex=.exit 0∧st={ T:=[(3,I (durfA (s.drop i) i k)),(7,O s),(8,I s.length),(9,I s.length),(10,Bo false)],loc:=[],M:=[] }):=by
    intro m
    induction m with
    | zero =>
      intro i k hi hk
      obtain ⟨h1,h2⟩:=drop_end hi
      have h3:i=s.length:=hi
      subst h3
      refine wp_loop ?_
      repeat (first|refine wp_as ?_|refine wp_ss ?_|refine wr (by simp;with_reducible rfl) ?_|refine wq (by simp;with_reducible rfl) ?_|refine wt (by simpa) ?_|refine wf (by simpa) ?_|refine xt (by simpa) ?_|refine xf (by simpa) ?_|refine wp_bs ?_|refine wp_b ?_|refine wp_sr ?_|refine wp_sx ?_|refine wp_ret' ?_|refine wp_skip' ?_|refine wp_exit' ?_)
      rw [h2];exact ⟨rfl,rfl⟩
    | succ m ih =>
      intro i k hi hk
      obtain ⟨hi2,h2,h3⟩:=drop_get hi
      have w2:IntKind.i64.wrap ((i:Int)+1)=((i+1:Nat):Int):=wrapS (by omega)
      rw [h2,durfA]
      by_cases hq:(i:Int)≤s[i]
      · rw [if_pos hq]
        refine wp_loop ?_
        repeat (first|refine wp_as ?_|refine wp_ss ?_|refine wr (by simp [hi2,hq,w2];with_reducible rfl) ?_|refine wq (by simp [hi2,hq,w2];with_reducible rfl) ?_|refine wt (by simpa [hi2,hq,w2]) ?_|refine wf (by simpa [hi2,hq,w2]) ?_|refine xt (by simpa [hi2,hq,w2]) ?_|refine xf (by simpa [hi2,hq,w2]) ?_|refine wp_bs ?_|refine wp_b ?_|refine wp_sr ?_|refine wp_sx ?_|refine wp_ret' ?_|refine wp_skip' ?_|refine wp_exit' ?_)
        exact ih (i+1) (i+1) (by omega) (by omega)
      · rw [if_neg hq]
        refine wp_loop ?_
        repeat (first|refine wp_as ?_|refine wp_ss ?_|refine wr (by simp [hi2,hq,w2];with_reducible rfl) ?_|refine wq (by simp [hi2,hq,w2];with_reducible rfl) ?_|refine wt (by simpa [hi2,hq,w2]) ?_|refine wf (by simpa [hi2,hq,w2]) ?_|refine xt (by simpa [hi2,hq,w2]) ?_|refine xf (by simpa [hi2,hq,w2]) ?_|refine wp_bs ?_|refine wp_b ?_|refine wp_sr ?_|refine wp_sx ?_|refine wp_ret' ?_|refine wp_skip' ?_|refine wp_exit' ?_)
        exact ih (i+1) k (by omega) (by omega)
  refine call_of_wp zt164 rfl ?_
  repeat (first|refine wp_as ?_|refine wp_ss ?_|refine wr (by simp [e1];with_reducible rfl) ?_|refine wq (by simp [e1];with_reducible rfl) ?_|refine wt (by simpa [e1]) ?_|refine wf (by simpa [e1]) ?_|refine xt (by simpa [e1]) ?_|refine xf (by simpa [e1]) ?_|refine wp_bs ?_|refine wp_b ?_|refine wp_sr ?_|refine wp_sx ?_|refine wp_ret' ?_|refine wp_skip' ?_|refine wp_exit' ?_)
  refine wp_imp (loop s.length 0 0 (by simp) (by omega)) ?_
  rintro ex st ⟨rfl,rfl⟩
  try simp only [if_true]
  repeat (first|refine wp_as ?_|refine wp_ss ?_|refine wr (by simp;with_reducible rfl) ?_|refine wq (by simp;with_reducible rfl) ?_|refine wt (by simpa) ?_|refine wf (by simpa) ?_|refine xt (by simpa) ?_|refine xf (by simpa) ?_|refine wp_bs ?_|refine wp_b ?_|refine wp_sr ?_|refine wp_sx ?_|refine wp_ret' ?_|refine wp_skip' ?_|refine wp_exit' ?_)
  simp [zi164,durf]
def splitt (d:List Int):Int:=if graphic d then (if d.length=0 then 0 else ((slacks d).getD (durf (fall d) - 1) 0).tdiv 2) else -1
theorem ev_SplittanceOf (d:List Int) (c:Bool) (hl:d.length≤1000000):Ev tb zl197 [] [L d c] [] ⟨I (splitt d),[],[],[]⟩:=by
  have e1:=ev_lim (ev_IsGraphic d c hl)
  cases hg:graphic d with
  | false =>
    refine call_of_wp zt197 rfl ?_
    repeat (first|refine wp_as ?_|refine wp_ss ?_|refine wr (by simp [e1,hg];with_reducible rfl) ?_|refine wq (by simp [e1,hg];with_reducible rfl) ?_|refine wt (by simpa [e1,hg]) ?_|refine wf (by simpa [e1,hg]) ?_|refine xt (by simpa [e1,hg]) ?_|refine xf (by simpa [e1,hg]) ?_|refine wp_bs ?_|refine wp_b ?_|refine wp_sr ?_|refine wp_sx ?_|refine wp_ret' ?_|refine wp_skip' ?_|refine wp_exit' ?_)
    simp [zi197,splitt,hg]
  | true =>
  by_cases h0:d.length=0
  · refine call_of_wp zt197 rfl ?_
    repeat (first|refine wp_as ?_|refine wp_ss ?_|refine wr (by simp [e1,hg,h0];with_reducible rfl) ?_|refine wq (by simp [e1,hg,h0];with_reducible rfl) ?_|refine wt (by simpa [e1,hg,h0]) ?_|refine wf (by simpa [e1,hg,h0]) ?_|refine xt (by simpa [e1,hg,h0]) ?_|refine xf (by simpa [e1,hg,h0]) ?_|refine wp_bs ?_|refine wp_b ?_|refine wp_sr ?_|refine wp_sx ?_|refine wp_ret' ?_|refine wp_skip' ?_|refine wp_exit' ?_)
    simp [zi197,splitt,hg,h0]
  have hv:valid d=true:=by simp only [graphic,Bool.and_eq_true] at hg;exact hg.1.1
  have hf:=valid_few hv
  have e2:=ev_lim (ev_SlacksOf d c hv)
  have e3:=ev_lim (ev_DurfeeOf d c hv)
  have hd1:=durf_le (fall d)
  have hd2:1≤durf (fall d):=durf_ge (fun h=>h0 (by rw [← fall_len,h];rfl)) (fun x hx=>(hf.fall.2 x hx).1)
  rw [fall_len] at hd1
  have hsl:=slacks_len d
  have hb:∀ x ∈ slacks d,-100≤x∧x≤200:=by
    intro x hx
    simp only [slacks,List.mem_map,List.mem_range] at hx
    obtain ⟨i,hi,rfl⟩:=hx
    exact slk_bound (by have:=hf.1;omega) hf.fall.1 hf.fall.2
  obtain ⟨k,hk⟩:∃ k,durf (fall d)=k+1:=⟨durf (fall d) - 1,by omega⟩
  have w1:IntKind.i64.wrap (k:Int)=(k:Int):=wrap64 (by omega) (by omega)
  have hk2:k < (slacks d).length:=by omega
  have hx:=hb _ (List.getElem_mem hk2)
  have hnn:0≤(slacks d)[k]:=by
    have hg2:=hg
    simp only [graphic,Bool.and_eq_true,List.all_eq_true,decide_eq_true_eq] at hg2
    exact hg2.2 _ (List.getElem_mem hk2)
  have w2:IntKind.i64.wrap (((slacks d)[k]).tdiv 2)=((slacks d)[k]).tdiv 2:=by
    rw [Int.tdiv_eq_ediv_of_nonneg hnn];exact wrap64 (by omega) (by omega)
  have hs:splitt d=((slacks d)[k]).tdiv 2:=by
    rw [splitt,hg,hk,Nat.add_sub_cancel]
    simp only [if_true,h0,if_false,List.getD_eq_getElem?_getD,List.getElem?_eq_getElem hk2,Option.getD_some]
  rw [hk] at e3
  refine call_of_wp zt197 rfl ?_
  repeat (first|refine wp_as ?_|refine wp_ss ?_|refine wr (by simp [e1,hg,h0,e2,e3,w1,hk2,w2];with_reducible rfl) ?_|refine wq (by simp [e1,hg,h0,e2,e3,w1,hk2,w2];with_reducible rfl) ?_|refine wt (by simpa [e1,hg,h0,e2,e3,w1,hk2,w2]) ?_|refine wf (by simpa [e1,hg,h0,e2,e3,w1,hk2,w2]) ?_|refine xt (by simpa [e1,hg,h0,e2,e3,w1,hk2,w2]) ?_|refine xf (by simpa [e1,hg,h0,e2,e3,w1,hk2,w2]) ?_|refine wp_bs ?_|refine wp_b ?_|refine wp_sr ?_|refine wp_sx ?_|refine wp_ret' ?_|refine wp_skip' ?_|refine wp_exit' ?_)
  simp [zi197,hs]
theorem ev_IsSplit (d:List Int) (c:Bool) (hl:d.length≤1000000):Ev tb zl186 [] [L d c] [] ⟨Bo (decide (splitt d=0)),[],[],[]⟩:=by
  have e1:=ev_lim (ev_SplittanceOf d c hl)
  refine call_of_wp zt186 rfl ?_
  repeat (first|refine wp_as ?_|refine wp_ss ?_|refine wr (by simp [e1];with_reducible rfl) ?_|refine wq (by simp [e1];with_reducible rfl) ?_|refine wt (by simpa [e1]) ?_|refine wf (by simpa [e1]) ?_|refine xt (by simpa [e1]) ?_|refine xf (by simpa [e1]) ?_|refine wp_bs ?_|refine wp_b ?_|refine wp_sr ?_|refine wp_sx ?_|refine wp_ret' ?_|refine wp_skip' ?_|refine wp_exit' ?_)
  simp [zi186]
  rfl
end Go.Idl
namespace Go.Idl
def inK (K:List Nat) (x:Int):Int:=S K fun v=>if x=(v:Int) then 1 else 0
theorem inK_mem {K:List Nat} (h:K.Nodup) (k:Nat):inK K k=if k ∈ K then 1 else 0:=by
  have:∀ v ∈ K,(if (k:Int)=(v:Int) then (1:Int) else 0)=if k=v then 1 else 0:=fun v _=>by simp only [Int.ofNat_inj]
  rw [inK,S_congr this,S_one h]
theorem inK_pairs {n:Nat} (hn:n≤7) {K:List Nat} (hK:K.Nodup) (hb:∀ v ∈ K,v < n):S (prs n) (fun e=>2 * (inK K e.1 * inK K e.2))=(K.length:Int) * ((K.length:Int) - 1):=by
  have hw:∀ e:Int×Int,S K (fun a=>S K (fun b=>adj e a b))=2 * (inK K e.1 * inK K e.2):=fun e=>by
    have hwe:S K (fun a=>S K (fun b=>adj e a b))=S K (fun v=>if e.1=(v:Int) then 1 else 0) * S K (fun v=>if e.2=(v:Int) then 1 else 0)+S K (fun v=>if e.2=(v:Int) then 1 else 0) * S K (fun v=>if e.1=(v:Int) then 1 else 0):=by
      rw [← S_mulr,← S_mulr,← S_add]
      refine S_congr fun a _=>?_
      rw [← S_mul,← S_mul,← S_add]
      rfl
    rw [hwe,inK,inK,Int.mul_comm (S K fun v=>if e.2=(v:Int) then 1 else 0)]
    omega
  rw [← S_congr fun e _=>hw e,S_swap]
  have:∀ a ∈ K,S (prs n) (fun e=>S K (fun b=>adj e a b))=(K.length:Int) - 1:=fun a ha=>by
    rw [S_swap,S_congr (g:=fun b=>1 - (if a=b then 1 else 0)) fun b hb'=>by
      rw [adj_prs hn (hb a ha) (hb b hb')];split <;> rfl]
    rw [S_sub,S_const,S_one hK,if_pos ha];omega
  rw [S_congr this,S_const]
def viol (es:List (Int×Int)) (K:List Nat) (e:Int×Int):Int:=inK K e.1 * inK K e.2+if e ∈ es then 1 - inK K e.1 - inK K e.2 else 0
theorem viol_sum {n:Nat} {es:List (Int×Int)} (h:vGraph n es=true) {K:List Nat} (hK:K.Nodup) (hb:∀ v ∈ K,v < n) :
    2 * S (prs n) (viol es K)=(K.length:Int) * ((K.length:Int) - 1)+2 * es.length - 2 * S K (deg es):=by
  have hn:=(vG_iff.1 h).2.2
  have h1:=inK_pairs hn hK hb
  have h2:S (prs n) (fun e=>if e ∈ es then 1 - inK K e.1 - inK K e.2 else 0)=S es fun e=>1 - inK K e.1 - inK K e.2:=by
    conv=>rhs;rw [vG_filter h,S_ite]
    exact S_congr fun e _=>ite_iff (by simp) _ _
  have h3:S K (deg es)=S es fun e=>inK K e.1+inK K e.2:=by
    have sw:S K (deg es)=S es (fun e=>S K (fun v=>inc v e)):=S_swap K es fun v e=>inc v e
    rw [sw]
    refine S_congr fun e _=>?_
    simp only [inc]
    rw [S_add];rfl
  have h4:S (prs n) (viol es K)=S (prs n) (fun e=>inK K e.1 * inK K e.2)+S es fun e=>1 - inK K e.1 - inK K e.2:=by
    rw [← h2,← S_add];rfl
  have h5:S es (fun e=>1 - inK K e.1 - inK K e.2)=es.length - S K (deg es):=by
    rw [h3,S_congr (g:=fun e=>1 - (inK K e.1+inK K e.2)) fun e _=>by omega,S_sub,S_const];omega
  rw [S_mul] at h1
  omega
def ptsOK (n:Nat) (es:List (Int×Int)) (K:List Nat):Bool:=(prs n).all fun e=>decide (e.1.toNat ∈ K) != decide (e.2.toNat ∈ K) || decide (e ∈ es) == decide (e.1.toNat ∈ K)
theorem viol_pair {n:Nat} {es:List (Int×Int)} {K:List Nat} (hK:K.Nodup) {e:Int×Int} (he:e ∈ prs n) :
    0≤viol es K e∧(viol es K e=0 ↔ (decide (e.1.toNat ∈ K) != decide (e.2.toNat ∈ K) || decide (e ∈ es) == decide (e.1.toNat ∈ K))=true):=by
  have hb:=mem_prs.1 he
  have h1:=inK_mem hK e.1.toNat
  have h2:=inK_mem hK e.2.toNat
  rw [Int.toNat_of_nonneg (by omega)] at h1 h2
  rw [viol,h1,h2]
  by_cases a:e.1.toNat ∈ K <;> by_cases b:e.2.toNat ∈ K <;> by_cases x:e ∈ es <;> simp [a,b,x]
theorem S_zero_iff {α:Type}:∀ {l:List α} {f:α→Int},(∀ a ∈ l,0≤f a)→(S l f=0 ↔ ∀ a ∈ l,f a=0)
  | [],f,_=>by simp [S]
  | a::l,f,h=>by
    have h1:=h a (by simp)
    have h2:0≤S l f:=S_nonneg fun b hb=>h b (by simp [hb])
    have h3:=S_zero_iff (l:=l) (f:=f) fun b hb=>h b (by simp [hb])
    rw [S_cons,List.forall_mem_cons,← h3]
    omega
theorem viol_zero {n:Nat} {es:List (Int×Int)} {K:List Nat} (hK:K.Nodup):S (prs n) (viol es K)=0 ↔ ptsOK n es K=true:=by
  rw [S_zero_iff fun e he=>(viol_pair hK he).1,ptsOK,List.all_eq_true]
  exact ⟨fun h e he=>(viol_pair hK he).2.1 (h e he),fun h e he=>(viol_pair hK he).2.2 (h e he)⟩
theorem durfA_mono:∀ (s:List Int) (i k:Nat),k≤i→k≤durfA s i k
  | [],_,_,_=>Nat.le_refl _
  | x::q,i,k,h=>by
    rw [durfA]
    split
    · exact Nat.le_trans (by omega) (durfA_mono q (i+1) (i+1) (by omega))
    · exact durfA_mono q (i+1) k (by omega)
theorem durfA_lt:∀ (s:List Int) (i k j:Nat),k≤i→durfA s i k≤i+j→(h:j < s.length)→s[j] < (i:Int)+j
  | x::q,i,k,0,hk,hd,_=>by
    rw [durfA] at hd
    by_cases hx:(i:Int)≤x
    · rw [if_pos hx] at hd
      have:=durfA_mono q (i+1) (i+1) (by omega)
      omega
    · simpa using hx
  | x::q,i,k,j+1,hk,hd,h=>by
    rw [durfA] at hd
    have:=durfA_lt q (i+1) _ j (by split <;> omega) (Nat.le_trans hd (by omega)) (by simpa using h)
    simp only [List.getElem_cons_succ]
    omega
theorem slk_durf {s:List Int} (hs:Desc s):slk s (durf s)=(durf s:Int) * ((durf s:Int) - 1)+s.sum - 2 * (s.take (durf s)).sum:=by
  have h1:((s.drop (durf s)).map fun x:Int=>min x (durf s:Int))=s.drop (durf s):=by
    refine List.ext_getElem (by simp) fun j h1 h2=>?_
    simp only [List.length_map,List.length_drop] at h1
    rw [List.getElem_map,List.getElem_drop]
    have h3:=durfA_lt s 0 0 (durf s) (by omega) (by rw [durf];omega) (by omega)
    have h4:=desc_get hs (i:=durf s) (j:=durf s+j) (by omega) (by omega)
    omega
  have h2:=sum_take_drop s (durf s)
  rw [slk,h1]
  omega
end Go.Idl
namespace Go.Idl
open Go
def apart (a b c d:Int):Bool:=decide (a ≠ b) && decide (a ≠ c) && decide (a ≠ d) && decide (b ≠ c) && decide (b ≠ d) && decide (c ≠ d)
def gone (a b c d:Int) (x:Int×Int):Bool:=decide (x=(min a b,max a b)) || decide (x=(min c d,max c d))
end Go.Idl
namespace Go.Idl
open Go
def swX (es:List (Int×Int)) (a b c d:Int):List (Int×Int):=es.filter (fun x=>!gone a b c d x)++[(min a c,max a c),(min b d,max b d)]
def sw (es:List (Int×Int)) (a b c d:Int):List (Int×Int):=srtE (swX es a b c d)
theorem hasM_iff {es:List (Int×Int)} {a b:Int}:hasM es a b=true ↔ (min a b,max a b) ∈ es:=by
  simp [hasM]
theorem vG21 {n:Nat} (hn:n≤7) {es:List (Int×Int)} (h:vGraph n es=true):es.length≤21:=by
  have h1:=(vG_sub h).length_le
  have h2:∀ n,n≤7→(prs n).length≤21:=by decide +kernel
  have:=h2 _ hn
  omega
end Go.Idl
namespace Go.Idl
open Go
abbrev Q4:=Int×Int×Int×Int
def sws (xs:List Q4):List (List IV):=xs.map fun s=>[I s.1,I s.2.1,I s.2.2.1,I s.2.2.2]
@[simp] theorem sws_len (xs:List Q4):(sws xs).length=xs.length:=by simp [sws]
@[simp] theorem sws_nil:sws []=[]:=rfl
@[simp] theorem sws_take (xs:List Q4) (n:Nat):(sws xs).take n=sws (xs.take n):=by simp [sws,List.map_take]
@[simp] theorem sws_drop (xs:List Q4) (n:Nat):(sws xs).drop n=sws (xs.drop n):=by simp [sws,List.map_drop]
@[simp] theorem sws_one (xs:List Q4) (a b c d:Int):sws xs++[[IV.sc (.int .i64 a),IV.sc (.int .i64 b),IV.sc (.int .i64 c),IV.sc (.int .i64 d)]]=sws (xs++[(a,b,c,d)]):=by simp [sws]
@[simp] theorem sws_get (xs:List Q4) (i:Nat) (h:i < (sws xs).length):(sws xs)[i]=[IV.sc (.int .i64 (xs[i]'(by simpa [sws] using h)).1),IV.sc (.int .i64 (xs[i]'(by simpa [sws] using h)).2.1),IV.sc (.int .i64 (xs[i]'(by simpa [sws] using h)).2.2.1),IV.sc (.int .i64 (xs[i]'(by simpa [sws] using h)).2.2.2)]:=by simp [sws]
@[simp] theorem sws_get? (xs:List Q4) (i:Nat):(sws xs)[i]? = xs[i]?.map fun s=>[IV.sc (.int .i64 s.1),IV.sc (.int .i64 s.2.1),IV.sc (.int .i64 s.2.2.1),IV.sc (.int .i64 s.2.2.2)]:=by simp [sws]
@[simp] theorem sws_all1 (xs:List Q4):((sws xs).all fun x=>x.all IV.plain1)=true:=by
  induction xs with
  | nil=>rfl
  | cons x xs ih=>simp only [sws,List.map_cons,List.all_cons] at *;rw [ih];rfl
@[simp] theorem sws_all2 (xs:List Q4):((sws xs).all fun x=>x.all IV.isData)=true:=by
  induction xs with
  | nil=>rfl
  | cons x xs ih=>simp only [sws,List.map_cons,List.all_cons] at *;rw [ih];rfl
@[simp] theorem sws_noLst (xs:List Q4):noLstLL (sws xs)=true:=by
  induction xs with
  | nil=>rfl
  | cons x xs ih=>simp only [sws,List.map_cons,noLstLL,noLstL,noLstV] at *;rw [ih];rfl
@[simp] theorem frz_sws (xs:List Q4):frzLL (sws xs)=sws xs:=by
  induction xs with
  | nil=>rfl
  | cons x xs ih=>simp only [sws,List.map_cons,frzLL,frzL,frzV] at *;rw [ih]
end Go.Idl
namespace Go.Idl
theorem has_hasM {n:Nat} {es:List (Int×Int)} (h:∀ e ∈ es,e ∈ prs n) (a b:Int):has es a b=hasM es a b:=by
  rw [Bool.eq_iff_iff,hasM_iff,has,List.any_eq_true]
  constructor
  · rintro ⟨e,he,hi⟩
    have hp:=mem_prs.1 (h e he)
    simp only [isE,Bool.or_eq_true,Bool.and_eq_true,decide_eq_true_eq] at hi
    have h2:e=(min a b,max a b):=Prod.ext (by simp only;omega) (by simp only;omega)
    rw [← h2];exact he
  · intro hm
    refine ⟨_,hm,?_⟩
    simp only [isE,Bool.or_eq_true,Bool.and_eq_true,decide_eq_true_eq]
    omega
end Go.Idl
namespace Go.Idl
open Go
abbrev GF:=List (List (Int×Int)×Bool)
def glf (n:Int) (R:GF):List (List IV):=R.map fun x=>[I n,L2 x.1 x.2]
@[simp] theorem glf_len (n:Int) (R:GF):(glf n R).length=R.length:=by simp [glf]
@[simp] theorem glf_nil (n:Int):glf n []=[]:=rfl
@[simp] theorem glf_app (n:Int) (R S:GF):glf n R++glf n S=glf n (R++S):=by simp [glf]
@[simp] theorem glf_take (n:Int) (R:GF) (k:Nat):(glf n R).take k=glf n (R.take k):=by simp [glf,List.map_take]
@[simp] theorem glf_all (n:Int) (R:GF):((glf n R).all fun x=>x.all IV.isData)=true:=by
  induction R with
  | nil=>rfl
  | cons x xs ih=>simp only [glf,List.map_cons,List.all_cons] at *;rw [ih];rfl
end Go.Idl
namespace Go.Idl
theorem gtD_tr (d:List Int) (a b c:Int) (h1:gtD d b a=false) (h2:gtD d c b=false):gtD d c a=false:=by
  simp only [gtD,decide_eq_false_iff_not] at *;omega
theorem gtD_as (d:List Int) (a b:Int) (h:gtD d a b=true):gtD d b a=false:=by
  simp only [gtD,decide_eq_true_eq,decide_eq_false_iff_not] at *;omega
theorem srt_fall (d:List Int):(srtC (gtD d) [] (idxB d.length (-1))).map (fun v=>d.getD v.toNat 0)=fall d:=by
  refine fall_unique ?_ ?_
  · have h:=(srtC_ok (gtD_tr d) (gtD_as d) (idxB d.length (-1)) [] .nil).1
    rw [Desc,List.pairwise_map]
    exact h.imp fun {a b} hab=>by
      simp only [gtD,decide_eq_false_iff_not] at hab;omega
  · have h:=(srtC_perm (gtD d) (idxB d.length (-1)) []).map (fun v=>d.getD v.toNat 0)
    rw [List.nil_append] at h
    refine h.trans ?_
    have:(idxB d.length (-1)).map (fun v=>d.getD v.toNat 0)=d:=by
      rw [idxB_all,List.map_map]
      refine List.ext_getElem (by simp) fun i h1 h2=>?_
      simp only [List.length_map,List.length_range] at h1
      simp [List.getD_eq_getElem?_getD,List.getElem?_eq_getElem h1]
    rw [this]
abbrev spK (d:List Int):List Int:=topD d (idxB d.length (-1)) (durf (fall d))
theorem spK_len (d:List Int):(spK d).length=durf (fall d):=by
  have h1:=durf_le (fall d)
  rw [fall_len] at h1
  have h2:(srtC (gtD d) [] (idxB d.length (-1))).length=d.length:=by rw [topD_len d _ 0,idxB_all];simp
  rw [spK,topD,List.length_take,h2];omega
theorem spK_mem {d:List Int} {x:Int} (h:x ∈ spK d):0≤x∧x < d.length:=by
  have h1:=(srtC_perm (gtD d) (idxB d.length (-1)) []).mem_iff.1 (List.mem_of_mem_take h)
  rw [List.nil_append] at h1
  exact mem_idxB.1 h1
theorem spK_nd (d:List Int):(spK d).Nodup:=by
  have h1:(srtC (gtD d) [] (idxB d.length (-1))).Nodup:=by
    have:=(srtC_perm (gtD d) (idxB d.length (-1)) []).nodup_iff
    rw [this,List.nil_append]
    exact (idxB_pw d.length).imp fun h=>by omega
  exact h1.sublist (List.take_sublist _ _)
theorem spK_sum (d:List Int):S (spK d) (fun v=>d.getD v.toNat 0)=((fall d).take (durf (fall d))).sum:=by
  have h:(((srtC (gtD d) [] (idxB d.length (-1))).map (fun v=>d.getD v.toNat 0)).take (durf (fall d))).sum=((fall d).take (durf (fall d))).sum:=by rw [srt_fall d]
  rw [← h,← List.map_take];rfl
def spP (es:List (Int×Int)) (K:List Int) (e:Int×Int):Bool:=decide (e.1 ∈ K) != decide (e.2 ∈ K) || hasM es e.1 e.2 == decide (e.1 ∈ K)
def spOK (n:Nat) (es:List (Int×Int)):Bool:=(prs n).all (spP es (spK (degs n es)))
theorem spOK_pts {n:Nat} {es:List (Int×Int)} {K:List Int} (hb:∀ x ∈ K,0≤x):(prs n).all (spP es K)=ptsOK n es (K.map Int.toNat):=by
  rw [ptsOK,Bool.eq_iff_iff,List.all_eq_true,List.all_eq_true]
  have key:∀ e ∈ prs n,spP es K e=(decide (e.1.toNat ∈ K.map Int.toNat) != decide (e.2.toNat ∈ K.map Int.toNat) || decide (e ∈ es) == decide (e.1.toNat ∈ K.map Int.toNat)):=fun e he=>by
    have hm:=mem_prs.1 he
    have m:∀ x:Int,0≤x→decide (x.toNat ∈ K.map Int.toNat)=decide (x ∈ K):=fun x hx=>by
      rw [decide_eq_decide,List.mem_map]
      constructor
      · rintro ⟨y,h1,h2⟩
        have:=hb y h1
        rw [show x=y by omega];exact h1
      · intro h;exact ⟨x,h,rfl⟩
    have h3:hasM es e.1 e.2=decide (e ∈ es):=by
      rw [Bool.eq_iff_iff,hasM_iff,decide_eq_true_eq,show min e.1 e.2=e.1 by omega,show max e.1 e.2=e.2 by omega]
    rw [spP,m _ (by omega),m _ (by omega),h3]
  exact ⟨fun h e he=>by rw [← key e he];exact h e he,fun h e he=>by rw [key e he];exact h e he⟩
theorem sp_two (n:Nat) (es:List (Int×Int)) (h:vGraph n es=true) :
    ∃ V:Int,0≤V∧(if (degs n es).length=0 then 0 else (slacks (degs n es)).getD (durf (fall (degs n es)) - 1) 0)=2 * V∧(V=0 ↔ spOK n es=true):=by
  have hdl:(degs n es).length=n:=by rw [degs,dfold_len];simp
  have hs:=degs_sum (vG_iff.1 h).2.1
  have hin:EdgesIn n es:=fun e he=>by have:=mem_prs.1 ((vG_iff.1 h).2.1 e he);omega
  have hdeg:∀ v,v < n→(degs n es).getD v 0=deg es v:=fun v hv=>by
    rw [degs_eq hin,List.getD_eq_getElem?_getD,List.getElem?_map,List.getElem?_range hv];rfl
  rw [spOK]
  by_cases h0:n=0
  · subst h0
    rw [if_pos hdl]
    exact ⟨0,by omega,by omega,by rw [show prs 0=[] from rfl];simp⟩
  rw [if_neg (by omega)]
  have hl:=spK_len (degs n es)
  have hm:∀ x ∈ spK (degs n es),0≤x∧x < n:=fun x hx=>by have:=spK_mem hx;rw [hdl] at this;exact this
  have hsum:=spK_sum (degs n es)
  have hsl:=slk_durf (fall_desc (degs n es))
  rw [fall_sum,hs] at hsl
  have hnn:∀ x ∈ fall (degs n es),0≤x:=fun x hx=>by
    have:=valid_mem (degs_valid h) x ((fall_perm _).mem_iff.1 hx);omega
  have h1:=durf_ge (s:=fall (degs n es)) (fun hh=>by have:=fall_len (degs n es);rw [hh] at this;simp at this;omega) hnn
  have h2:=durf_le (fall (degs n es))
  rw [fall_len,hdl] at h2
  have hget:(slacks (degs n es)).getD (durf (fall (degs n es)) - 1) 0=slk (fall (degs n es)) (durf (fall (degs n es))):=by
    rw [slacks_S,slS,fall_len,hdl,List.getD_eq_getElem?_getD,List.getElem?_map,List.getElem?_range (by omega)]
    simp only [Option.map_some,Option.getD_some]
    rw [show durf (fall (degs n es)) - 1+1=durf (fall (degs n es)) by omega]
  rw [hget]
  have hnd:((spK (degs n es)).map Int.toNat).Nodup:=by
    rw [List.Nodup,List.pairwise_map]
    exact List.Pairwise.imp_of_mem (fun {a b} ha hb hne=>by have:=hm a ha;have:=hm b hb;omega) (spK_nd (degs n es))
  have hb:∀ v ∈ (spK (degs n es)).map Int.toNat,v < n:=fun v hv=>by
    obtain ⟨x,hx,rfl⟩:=List.mem_map.1 hv
    have:=hm x hx;omega
  have hv:=viol_sum h hnd hb
  have hS:S ((spK (degs n es)).map Int.toNat) (deg es)=S (spK (degs n es)) (fun v=>(degs n es).getD v.toNat 0):=by
    rw [S_map]
    exact S_congr fun x hx=>(hdeg _ (by have:=hm x hx;omega)).symm
  rw [hS,hsum,List.length_map,hl] at hv
  rw [spOK_pts (fun x hx=>(hm x hx).1),← viol_zero hnd]
  have hz:0≤S (prs n) (viol es ((spK (degs n es)).map Int.toNat)):=S_nonneg fun e he=>(viol_pair hnd he).1
  refine ⟨S (prs n) (viol es ((spK (degs n es)).map Int.toNat)),hz,?_,Iff.rfl⟩
  rw [hsl]
  omega
theorem sp_split (n:Nat) (es:List (Int×Int)) (h:vGraph n es=true):decide (splitt (degs n es)=0)=spOK n es:=by
  obtain ⟨V,h1,h2,h3⟩:=sp_two n es h
  have hg:=degs_graphic h
  rw [splitt,hg,if_pos rfl,Bool.eq_iff_iff,decide_eq_true_eq,← h3]
  by_cases h0:(degs n es).length=0
  · rw [if_pos h0] at h2 ⊢;omega
  · rw [if_neg h0] at h2 ⊢
    rw [h2,Int.tdiv_eq_ediv_of_nonneg (by omega)]
    omega
end Go.Idl
namespace Go.Idl
open Go
theorem ev_durfee (d:List Int) (c:Bool) (hl:d.length≤7):Ev tb zl349 [] [L d c] [] ⟨I (durf (fall d)),[],[],[]⟩:=by
  have e1:=ev_lim (ev_spec_falling d c (by omega))
  have hfl:=fall_len d
  generalize fall d=s at *
  have loop:∀ (m i k:Nat),i+m=s.length→k≤i→wp tb (.loop z349l8) { T:=[(3,O s),(4,I k),(5,I i)],loc:=[],M:=[] }
      (fun ex st=>ex=.exit 0∧st={ T:=[(3,O s),(4,I (durfA (s.drop i) i k)),(5,I s.length),(11,Bo false)],loc:=[],M:=[] }):=by
    intro m
    induction m with
    | zero =>
      intro i k hi hk
      obtain ⟨h1,h2⟩:=drop_end hi
      have h3:i=s.length:=hi
      subst h3
      refine wp_loop ?_
      repeat (first|apply wp_as|apply wp_ss|refine wr (by simp;with_reducible rfl) ?_|refine wq (by simp;with_reducible rfl) ?_|refine wt (by simpa) ?_|refine wf (by simpa) ?_|refine xt (by simpa) ?_|refine xf (by simpa) ?_|apply wp_bs|apply wp_b|refine wp_sr ?_|refine wp_sx ?_|refine wp_ret' ?_|refine wp_skip' ?_|refine wp_exit' ?_)
      rw [h2];exact ⟨rfl,rfl⟩
    | succ m ih =>
      intro i k hi hk
      obtain ⟨hi2,h2,h3⟩:=drop_get hi
      have w2:IntKind.i64.wrap ((i:Int)+1)=((i+1:Nat):Int):=wrapS (by omega)
      rw [h2,durfA]
      by_cases hq:(i:Int)≤s[i]
      · rw [if_pos hq]
        refine wp_loop ?_
        repeat (first|apply wp_as|apply wp_ss|refine wr (by simp [hi2,hq,w2];with_reducible rfl) ?_|refine wq (by simp [hi2,hq,w2];with_reducible rfl) ?_|refine wt (by simpa [hi2,hq,w2]) ?_|refine wf (by simpa [hi2,hq,w2]) ?_|refine xt (by simpa [hi2,hq,w2]) ?_|refine xf (by simpa [hi2,hq,w2]) ?_|apply wp_bs|apply wp_b|refine wp_sr ?_|refine wp_sx ?_|refine wp_ret' ?_|refine wp_skip' ?_|refine wp_exit' ?_)
        exact ih (i+1) (i+1) (by omega) (by omega)
      · rw [if_neg hq]
        refine wp_loop ?_
        repeat (first|apply wp_as|apply wp_ss|refine wr (by simp [hi2,hq,w2];with_reducible rfl) ?_|refine wq (by simp [hi2,hq,w2];with_reducible rfl) ?_|refine wt (by simpa [hi2,hq,w2]) ?_|refine wf (by simpa [hi2,hq,w2]) ?_|refine xt (by simpa [hi2,hq,w2]) ?_|refine xf (by simpa [hi2,hq,w2]) ?_|apply wp_bs|apply wp_b|refine wp_sr ?_|refine wp_sx ?_|refine wp_ret' ?_|refine wp_skip' ?_|refine wp_exit' ?_)
        exact ih (i+1) k (by omega) (by omega)
  refine call_of_wp zt349 rfl ?_
  repeat (first|apply wp_as|apply wp_ss|refine wr (by simp [e1];with_reducible rfl) ?_|refine wq (by simp [e1];with_reducible rfl) ?_|refine wt (by simpa [e1]) ?_|refine wf (by simpa [e1]) ?_|refine xt (by simpa [e1]) ?_|refine xf (by simpa [e1]) ?_|apply wp_bs|apply wp_b|refine wp_sr ?_|refine wp_sx ?_|refine wp_ret' ?_|refine wp_skip' ?_|refine wp_exit' ?_)
  refine wp_imp (loop s.length 0 0 (by simp) (by omega)) ?_
  rintro ex st ⟨rfl,rfl⟩
  try simp only [if_true]
  repeat (first|apply wp_as|apply wp_ss|refine wr (by simp;with_reducible rfl) ?_|refine wq (by simp;with_reducible rfl) ?_|refine wt (by simpa) ?_|refine wf (by simpa) ?_|refine xt (by simpa) ?_|refine xf (by simpa) ?_|apply wp_bs|apply wp_b|refine wp_sr ?_|refine wp_sx ?_|refine wp_ret' ?_|refine wp_skip' ?_|refine wp_exit' ?_)
  simp [zi349,durf]
end Go.Idl
namespace Go.Idl
open Go
theorem edgesIn_ins {N:Nat} {es:List (Int×Int)} (h:EdgesIn N es) {a b:Int} (ha:0≤a∧a < N) (hb:0≤b∧b < N):EdgesIn N (insE (min a b,max a b) es):=fun e he=>by
  rcases (insE_mem _ _ _).1 he with rfl | he
  · simp only;omega
  · exact h e he
end Go.Idl
namespace Go.Idl
open Go
theorem rI_succ (i:Nat):rI (i+1)=rI i++[(i:Int)]:=by simp [rI,List.range_succ]
theorem mv_ed (n:Nat) (hn:n≤7) (es:List (Int×Int)) (c:Bool) (hes:EdgesIn n es) (hel:es.length≤100) (to:List Int) (hl:to.length=n) (hb:∀ x ∈ to,0≤x∧x < n) (M:List Boxes) (L:Nat) (hL:L=M.length):∀ (m i:Nat) (out:List (Int×Int)),i+m=es.length→out.length=i→EdgesIn n out →
    wp tb (.loop z363l20) { T:=[(3,.bptr L 0 0),(4,.bptr L 1 0),(5,O to),(10,.bptr L 2 0),(11,I i)],loc:=[[I n,L2 es c],[I 0,Z],[I n,O2 out]],M:=M }
      (fun ex st=>ex=.exit 4∧∃ out:List (Int×Int),(out.length=es.length∧EdgesIn n out)∧st={ T:=[(3,.bptr L 0 0),(4,.bptr L 1 0),(5,O to),(10,.bptr L 2 0),(11,I es.length),(56,Bo false)],loc:=[[I n,L2 es c],[I 0,Z],[I n,O2 out]],M:=M }):=by
  subst hL
  intro m
  induction m with
  | zero =>
    intro i out hi ho hin
    have h3:i=es.length:=hi
    subst h3
    refine wp_loop ?_
    repeat (first|refine wp_as ?_|refine wp_ss ?_|refine wr (by simp;with_reducible rfl) ?_|refine wq (by simp;with_reducible rfl) ?_|refine wt (by simpa) ?_|refine wf (by simpa) ?_|refine xt (by simpa) ?_|refine xf (by simpa) ?_|refine wp_bs ?_|refine wp_b ?_|refine wp_sr ?_|refine wp_sx ?_|refine wp_ret' ?_|refine wp_skip' ?_|refine wp_exit' ?_)
    exact ⟨rfl,out,⟨ho,hin⟩,rfl⟩
  | succ m ih =>
    intro i out hi ho hin
    have hi2:i < es.length:=by omega
    have he:=hes _ (List.getElem_mem hi2)
    obtain ⟨p,hp⟩:=Int.eq_ofNat_of_zero_le he.1
    obtain ⟨q,hq⟩:=Int.eq_ofNat_of_zero_le he.2.2.1
    have hpn:p < n:=by omega
    have hqn:q < n:=by omega
    have hpl:p < to.length:=by omega
    have hql:q < to.length:=by omega
    have w2:IntKind.i64.wrap ((i:Int)+1)=((i+1:Nat):Int):=wrapS (by omega)
    have e1:=fun cc=>ev_lim (ev_addEdge n out cc to[p] to[q] (by omega))
    have hot:out.take out.length=out:=List.take_of_length_le (Nat.le_refl _)
    have hn2:=ih (i+1) (insE (min to[p] to[q],max to[p] to[q]) out) (by omega) (by rw [insE_len,ho]) (edgesIn_ins hin (hb _ (List.getElem_mem hpl)) (hb _ (List.getElem_mem hql)))
    refine wp_loop ?_
    repeat (first|refine wp_as ?_|refine wp_ss ?_|refine wr (by simp [hi2,hp,hq,hpn,hqn,hpl,hql,hl,w2,e1,hot];with_reducible rfl) ?_|refine wq (by simp [hi2,hp,hq,hpn,hqn,hpl,hql,hl,w2,e1,hot];with_reducible rfl) ?_|refine wt (by simpa [hi2,hp,hq,hpn,hqn,hpl,hql,hl,w2,e1,hot]) ?_|refine wf (by simpa [hi2,hp,hq,hpn,hqn,hpl,hql,hl,w2,e1,hot]) ?_|refine xt (by simpa [hi2,hp,hq,hpn,hqn,hpl,hql,hl,w2,e1,hot]) ?_|refine xf (by simpa [hi2,hp,hq,hpn,hqn,hpl,hql,hl,w2,e1,hot]) ?_|refine wp_bs ?_|refine wp_b ?_|refine wp_sr ?_|refine wp_sx ?_|refine wp_ret' ?_|refine wp_skip' ?_|refine wp_exit' ?_)
    exact hn2
end Go.Idl
namespace Go.Idl
open Go
theorem prs_le21:∀ n,n≤7→(prs n).length≤21:=by decide +kernel
theorem sp_in (h w:Nat) (hh:h≤3) (h1:1≤h) (hw:w≤4) (t:List (List Int)) (c:Bool) (ht:MM h w t):∀ (m i:Nat) (acc:List (Int×Int)) (Bx:Boxes),i+m=(prs (h+w)).length→acc.Sublist ((prs (h+w)).take i) →
    wp tb (.loop z380l9) { T:=[(0,TL t c),(2,.bptr 0 0 0),(3,.bptr 0 1 0),(4,O2 (prs (h+w))),(5,I i)],loc:=[I 0,Z]::[I ((h:Int)+w),O2 acc]::Bx,M:=[] }
      (fun ex st=>ex=.exit 0∧∃ (acc:List (Int×Int)) (Bx:Boxes),acc.Sublist (prs (h+w))∧st={ T:=[(0,TL t c),(2,.bptr 0 0 0),(3,.bptr 0 1 0),(4,O2 (prs (h+w))),(5,I (prs (h+w)).length),(22,Bo false)],loc:=[I 0,Z]::[I ((h:Int)+w),O2 acc]::Bx,M:=[] }):=by
  have hpl:=prs_le21 (h+w) (by omega)
  have htl:=ht.1
  intro m
  induction m with
  | zero =>
    intro i acc Bx hi hs
    have h3:i=(prs (h+w)).length:=hi
    subst h3
    rw [List.take_length] at hs
    refine wp_loop ?_
    repeat (first|apply wp_as|apply wp_ss|refine wr (by simp;with_reducible rfl) ?_|refine wq (by simp;with_reducible rfl) ?_|refine wt (by simpa) ?_|refine wf (by simpa) ?_|refine xt (by simpa) ?_|refine xf (by simpa) ?_|apply wp_bs|apply wp_b|refine wp_sr ?_|refine wp_sx ?_|refine wp_ret' ?_|refine wp_skip' ?_|refine wp_exit' ?_)
    exact ⟨rfl,acc,Bx,hs,rfl⟩
  | succ m ih =>
    intro i acc Bx hi hs
    have hi2:i < (prs (h+w)).length:=by omega
    have he:=mem_prs.1 (List.getElem_mem hi2)
    obtain ⟨p,hp⟩:=Int.eq_ofNat_of_zero_le he.1
    obtain ⟨q,hq⟩:=Int.eq_ofNat_of_zero_le (show 0≤((prs (h+w))[i]).2 by omega)
    have hpq:p < q:=by omega
    have hqn:q < h+w:=by omega
    have w2:IntKind.i64.wrap ((i:Int)+1)=((i+1:Nat):Int):=wrapS (by omega)
    have hall:acc.length≤21:=by have:=hs.length_le;simp at this;omega
    have hal1:acc.length+1≤274877906944:=by omega
    have hat:acc.take acc.length=acc:=List.take_of_length_le (Nat.le_refl _)
    have hyes:=ih (i+1) (acc++[(prs (h+w))[i]]) (Bx++[[I p,I q]]) (by omega) (sub_take_succ hi2 hs)
    have hno:=ih (i+1) acc (Bx++[[I p,I q]]) (by omega) (sub_take_skip hs)
    have heq:(prs (h+w))[i]=((p:Int),(q:Int)):=Prod.ext hp hq
    rw [heq] at hyes
    by_cases hqh:q < h
    · have hqh':(q:Int) < (t.length:Int):=by omega
      refine wp_loop ?_
      repeat (first|apply wp_as|apply wp_ss|refine wr (by simp [hi2,hp,hq,htl,hqh,hqh',w2,hal1,hat];with_reducible rfl) ?_|refine wq (by simp [hi2,hp,hq,htl,hqh,hqh',w2,hal1,hat];with_reducible rfl) ?_|refine wt (by simpa [hi2,hp,hq,htl,hqh,hqh',w2,hal1,hat]) ?_|refine wf (by simpa [hi2,hp,hq,htl,hqh,hqh',w2,hal1,hat]) ?_|refine xt (by simpa [hi2,hp,hq,htl,hqh,hqh',w2,hal1,hat]) ?_|refine xf (by simpa [hi2,hp,hq,htl,hqh,hqh',w2,hal1,hat]) ?_|apply wp_bs|apply wp_b|refine wp_sr ?_|refine wp_sx ?_|refine wp_ret' ?_|refine wp_skip' ?_|refine wp_exit' ?_)
      exact hyes
    have hqh':¬ (q:Int) < (t.length:Int):=by omega
    by_cases hph:p < h
    · have hpt:p < t.length:=by omega
      have hrow:=ht.2 _ (List.getElem_mem hpt)
      obtain ⟨j,hj⟩:∃ j,q=h+j:=⟨q - h,by omega⟩
      have hjl:j < t[p].length:=by omega
      have w3:IntKind.i64.wrap ((q:Int) - h)=(j:Int):=by rw [wrap64 (by omega) (by omega)];omega
      have hjw:j < w:=by omega
      have hrl:=hrow.1
      by_cases hone:t[p][j]=1
      · refine wp_loop ?_
        repeat (first|apply wp_as|apply wp_ss|refine wr (by simp [hi2,hp,hq,htl,hqh,hqh',hph,hpt,w3,hjl,hrl,hjw,hone,w2,hal1,hat];with_reducible rfl) ?_|refine wq (by simp [hi2,hp,hq,htl,hqh,hqh',hph,hpt,w3,hjl,hrl,hjw,hone,w2,hal1,hat];with_reducible rfl) ?_|refine wt (by simpa [hi2,hp,hq,htl,hqh,hqh',hph,hpt,w3,hjl,hrl,hjw,hone,w2,hal1,hat]) ?_|refine wf (by simpa [hi2,hp,hq,htl,hqh,hqh',hph,hpt,w3,hjl,hrl,hjw,hone,w2,hal1,hat]) ?_|refine xt (by simpa [hi2,hp,hq,htl,hqh,hqh',hph,hpt,w3,hjl,hrl,hjw,hone,w2,hal1,hat]) ?_|refine xf (by simpa [hi2,hp,hq,htl,hqh,hqh',hph,hpt,w3,hjl,hrl,hjw,hone,w2,hal1,hat]) ?_|apply wp_bs|apply wp_b|refine wp_sr ?_|refine wp_sx ?_|refine wp_ret' ?_|refine wp_skip' ?_|refine wp_exit' ?_)
        exact hyes
      · refine wp_loop ?_
        repeat (first|apply wp_as|apply wp_ss|refine wr (by simp [hi2,hp,hq,htl,hqh,hqh',hph,hpt,w3,hjl,hrl,hjw,hone,w2,hal1,hat];with_reducible rfl) ?_|refine wq (by simp [hi2,hp,hq,htl,hqh,hqh',hph,hpt,w3,hjl,hrl,hjw,hone,w2,hal1,hat];with_reducible rfl) ?_|refine wt (by simpa [hi2,hp,hq,htl,hqh,hqh',hph,hpt,w3,hjl,hrl,hjw,hone,w2,hal1,hat]) ?_|refine wf (by simpa [hi2,hp,hq,htl,hqh,hqh',hph,hpt,w3,hjl,hrl,hjw,hone,w2,hal1,hat]) ?_|refine xt (by simpa [hi2,hp,hq,htl,hqh,hqh',hph,hpt,w3,hjl,hrl,hjw,hone,w2,hal1,hat]) ?_|refine xf (by simpa [hi2,hp,hq,htl,hqh,hqh',hph,hpt,w3,hjl,hrl,hjw,hone,w2,hal1,hat]) ?_|apply wp_bs|apply wp_b|refine wp_sr ?_|refine wp_sx ?_|refine wp_ret' ?_|refine wp_skip' ?_|refine wp_exit' ?_)
        exact hno
    · refine wp_loop ?_
      repeat (first|apply wp_as|apply wp_ss|refine wr (by simp [hi2,hp,hq,htl,hqh,hqh',hph,w2,hal1,hat];with_reducible rfl) ?_|refine wq (by simp [hi2,hp,hq,htl,hqh,hqh',hph,w2,hal1,hat];with_reducible rfl) ?_|refine wt (by simpa [hi2,hp,hq,htl,hqh,hqh',hph,w2,hal1,hat]) ?_|refine wf (by simpa [hi2,hp,hq,htl,hqh,hqh',hph,w2,hal1,hat]) ?_|refine xt (by simpa [hi2,hp,hq,htl,hqh,hqh',hph,w2,hal1,hat]) ?_|refine xf (by simpa [hi2,hp,hq,htl,hqh,hqh',hph,w2,hal1,hat]) ?_|apply wp_bs|apply wp_b|refine wp_sr ?_|refine wp_sx ?_|refine wp_ret' ?_|refine wp_skip' ?_|refine wp_exit' ?_)
      exact hno
theorem ev_splitGraph (h w:Nat) (hh:h≤3) (h1:1≤h) (hw:w≤4) (t:List (List Int)) (c:Bool) (ht:MM h w t) :
    ∃ acc:List (Int×Int),acc.Sublist (prs (h+w))∧Ev tb zl380 [] [TL t c] [] ⟨OG ((h:Int)+w) acc,[],[],[]⟩:=by
  suffices hx:∃ r,(∃ acc:List (Int×Int),acc.Sublist (prs (h+w))∧r=⟨OG ((h:Int)+w) acc,[],[],[]⟩)∧Ev tb zl380 [] [TL t c] [] r by
    obtain ⟨r,⟨acc,q1,rfl⟩,q2⟩:=hx
    exact ⟨acc,q1,q2⟩
  have htl:=ht.1
  have h0:0 < t.length:=by omega
  have hr0:=(ht.2 _ (List.getElem_mem h0)).1
  have h0':0 < h:=h1
  have w1:IntKind.i64.wrap ((h:Int)+w)=(h:Int)+w:=wrap64 (by omega) (by omega)
  have e1:=ev_lim (ev_pairs (h+w) (by omega))
  rw [show ((h+w:Nat):Int)=(h:Int)+w by omega] at e1
  have hlo:=sp_in h w hh h1 hw t c ht (prs (h+w)).length 0 [] [] (by simp) (by simp)
  refine call_ex zt380 rfl ?_
  repeat (first|apply wp_as|apply wp_ss|refine wr (by simp [htl,h0',h0,hr0,w1,e1];with_reducible rfl) ?_|refine wq (by simp [htl,h0',h0,hr0,w1,e1];with_reducible rfl) ?_|refine wt (by simpa [htl,h0',h0,hr0,w1,e1]) ?_|refine wf (by simpa [htl,h0',h0,hr0,w1,e1]) ?_|refine xt (by simpa [htl,h0',h0,hr0,w1,e1]) ?_|refine xf (by simpa [htl,h0',h0,hr0,w1,e1]) ?_|apply wp_bs|apply wp_b|refine wp_sr ?_|refine wp_sx ?_|refine wp_ret' ?_|refine wp_skip' ?_|refine wp_exit' ?_)
  refine wp_imp hlo ?_
  rintro ex st ⟨rfl,acc,Bx,hs,rfl⟩
  simp only [if_true]
  have hat:acc.take acc.length=acc:=List.take_of_length_le (Nat.le_refl _)
  repeat (first|apply wp_as|apply wp_ss|refine wr (by simp [hat];with_reducible rfl) ?_|refine wq (by simp [hat];with_reducible rfl) ?_|refine wt (by simpa [hat]) ?_|refine wf (by simpa [hat]) ?_|refine xt (by simpa [hat]) ?_|refine xf (by simpa [hat]) ?_|apply wp_bs|apply wp_b|refine wp_sr ?_|refine wp_sx ?_|refine wp_ret' ?_|refine wp_skip' ?_|refine wp_exit' ?_)
  refine ⟨.inr rfl,_,⟨acc,hs,rfl⟩,?_⟩
  simp [zi380]
end Go.Idl
namespace Go.Idl
open Go
theorem ev_ContainsI (xs:List Int) (c:Bool) (y:Int) (hl:xs.length≤1000000):Ev tb zl551 [] [L xs c,I y] [] ⟨Bo (decide (y ∈ xs)),[],[],[]⟩:=by
  have e1:=ev_lim (ev_Index xs c y hl)
  have h1:decide (0≤idx (fun x=>decide (y=x)) 0 xs)=decide (y ∈ xs):=by
    rw [idx_ge _ xs 0 (by omega),Bool.eq_iff_iff,List.any_eq_true,decide_eq_true_eq]
    exact ⟨fun ⟨x,h,h2⟩=>by rw [of_decide_eq_true h2];exact h,fun h=>⟨y,h,by simp⟩⟩
  refine call_of_wp zt551 rfl ?_
  repeat (first|apply wp_as|apply wp_ss|refine wr (by simp [e1];with_reducible rfl) ?_|refine wq (by simp [e1];with_reducible rfl) ?_|refine wt (by simpa [e1]) ?_|refine wf (by simpa [e1]) ?_|refine xt (by simpa [e1]) ?_|refine xf (by simpa [e1]) ?_|apply wp_bs|apply wp_b|refine wp_sr ?_|refine wp_sx ?_|refine wp_ret' ?_|refine wp_skip' ?_|refine wp_exit' ?_)
  simp [zi551,h1]
theorem ev_DeleteFunc_Z (F:Lab) (caps:List IV) (M:List Boxes):Ev tb zl266 [] [Z,.fn F caps] M ⟨Z,[],M,[]⟩:=by
  have e1:=ev_lim (ev_IndexFuncL [] F caps (M++[[]]) (fun _=>false) (by simp) (fun x hx=>by cases hx))
  rw [show idx (fun _=>false) 0 []=-1 from rfl] at e1
  simp only [O,ints_nil] at e1
  refine call_of_wp zt266 rfl ?_
  repeat (first|apply wp_as|apply wp_ss|refine wr (by simp [e1];with_reducible rfl) ?_|refine wq (by simp [e1];with_reducible rfl) ?_|refine wt (by simpa [e1]) ?_|refine wf (by simpa [e1]) ?_|refine xt (by simpa [e1]) ?_|refine xf (by simpa [e1]) ?_|apply wp_bs|apply wp_b|refine wp_sr ?_|refine wp_sx ?_|refine wp_ret' ?_|refine wp_skip' ?_|refine wp_exit' ?_)
  simp [zi266]
theorem ev_sp_F1 (x:Int) (K:List Int) (hl:K.length≤1000000) (B:Boxes) (k:Nat) (hB:B[k]? = some [O K]) (Ms:List Boxes):Ev tb zl516 [] [I x,.bptr 0 k 0] (B::Ms) ⟨Bo (decide (x ∈ K)),[],B::Ms,[]⟩:=by
  have e1:=fun c=>ev_lim (ev_ContainsI K c x hl)
  refine call_of_wp zt516 rfl ?_
  repeat (first|apply wp_as|apply wp_ss|refine wr (by simp [hB,e1];with_reducible rfl) ?_|refine wq (by simp [hB,e1];with_reducible rfl) ?_|refine wt (by simpa [hB,e1]) ?_|refine wf (by simpa [hB,e1]) ?_|refine xt (by simpa [hB,e1]) ?_|refine xf (by simpa [hB,e1]) ?_|apply wp_bs|apply wp_b|refine wp_sr ?_|refine wp_sx ?_|refine wp_ret' ?_|refine wp_skip' ?_|refine wp_exit' ?_)
  simp [zi516]
set_option maxHeartbeats 4000000 in
theorem sp_loop (n:Nat) (es:List (Int×Int)) (c:Bool) (hl:es.length≤1000) (K:List Int) (hK:K.length≤1000) (oth:IV) (hoth:oth=Z ∨ ∃ l,oth=O l) (P:List (Int×Int)) (hP:P.length≤1000):∀ (m k:Nat) (B:Boxes),k+m=P.length →
    wp tb (.loop z515l14) { T:=[(1,.bptr 0 0 0),(6,.bptr 0 1 0),(7,oth),(33,nl2 P),(34,I P.length),(35,I k)],loc:=[I n,L2 es c]::[O K]::B,M:=[] }
      (fun ex st=>(ex=.exit 0∧(P.drop k).all (spP es K)=true∧∃ B',st={ T:=[(1,.bptr 0 0 0),(6,.bptr 0 1 0),(7,oth),(33,nl2 P),(34,I P.length),(35,I P.length),(36,Bo false)],loc:=[I n,L2 es c]::[O K]::B',M:=[] }) ∨
        (ex=.ret∧(P.drop k).all (spP es K)=false∧∃ B',st={ T:=[(2,Z),(3,Z),(4,Bo false)],loc:=B',M:=[] })):=by
  have back:∀ G:List (Int×Int),nl2 G=Z∧G=[] ∨ nl2 G=O2 G:=fun G=>by cases G <;> simp [nl2]
  intro m
  induction m with
  | zero =>
    intro k B hk
    have h3:k=P.length:=hk
    subst h3
    rw [List.drop_length]
    rcases back P with ⟨hb,-⟩ | hb <;> rw [hb]
    · rcases hoth with rfl | ⟨l,rfl⟩
      · refine wp_loop ?_
        repeat (first|apply wp_as|apply wp_ss|refine wr (by simp;with_reducible rfl) ?_|refine wq (by simp;with_reducible rfl) ?_|refine wt (by simpa) ?_|refine wf (by simpa) ?_|refine xt (by simpa) ?_|refine xf (by simpa) ?_|apply wp_bs|apply wp_b|refine wp_sr ?_|refine wp_sx ?_|refine wp_ret' ?_|refine wp_skip' ?_|refine wp_exit' ?_)
        exact .inl ⟨rfl,rfl,B,rfl⟩
      · refine wp_loop ?_
        repeat (first|apply wp_as|apply wp_ss|refine wr (by simp;with_reducible rfl) ?_|refine wq (by simp;with_reducible rfl) ?_|refine wt (by simpa) ?_|refine wf (by simpa) ?_|refine xt (by simpa) ?_|refine xf (by simpa) ?_|apply wp_bs|apply wp_b|refine wp_sr ?_|refine wp_sx ?_|refine wp_ret' ?_|refine wp_skip' ?_|refine wp_exit' ?_)
        exact .inl ⟨rfl,rfl,B,rfl⟩
    · rcases hoth with rfl | ⟨l,rfl⟩
      · refine wp_loop ?_
        repeat (first|apply wp_as|apply wp_ss|refine wr (by simp;with_reducible rfl) ?_|refine wq (by simp;with_reducible rfl) ?_|refine wt (by simpa) ?_|refine wf (by simpa) ?_|refine xt (by simpa) ?_|refine xf (by simpa) ?_|apply wp_bs|apply wp_b|refine wp_sr ?_|refine wp_sx ?_|refine wp_ret' ?_|refine wp_skip' ?_|refine wp_exit' ?_)
        exact .inl ⟨rfl,rfl,B,rfl⟩
      · refine wp_loop ?_
        repeat (first|apply wp_as|apply wp_ss|refine wr (by simp;with_reducible rfl) ?_|refine wq (by simp;with_reducible rfl) ?_|refine wt (by simpa) ?_|refine wf (by simpa) ?_|refine xt (by simpa) ?_|refine xf (by simpa) ?_|apply wp_bs|apply wp_b|refine wp_sr ?_|refine wp_sx ?_|refine wp_ret' ?_|refine wp_skip' ?_|refine wp_exit' ?_)
        exact .inl ⟨rfl,rfl,B,rfl⟩
  | succ m ih =>
    intro k B hk
    have hk2:k < P.length:=by omega
    have hd:P.drop k=P[k]::P.drop (k+1):=List.drop_eq_getElem_cons hk2
    obtain ⟨⟨a,b⟩,hx⟩:∃ s,s=P[k]:=⟨_,rfl⟩
    have hx2:=hx.symm
    have w1:IntKind.i64.wrap ((k:Int)+1)=((k+1:Nat):Int):=wrapS (by omega)
    have e1:=fun c y=>ev_lim (ev_ContainsI K c y (by omega))
    have e2:=fun c=>ev_lim (ev_has n 2 es c a b (.inl rfl) (by omega) [])
    have hn:=fun B=>ih (k+1) B (by omega)
    rw [hd,← hx,List.all_cons]
    have hsp:spP es K (a,b)=(decide (a ∈ K) != decide (b ∈ K) || hasM es a b == decide (a ∈ K)):=rfl
    rw [hsp]
    have hnb:nl2 P=O2 P:=by cases P with | nil=>simp at hk2 | cons x r=>rfl
    rw [hnb] at hn ⊢
    have e1a:=fun c=>e1 c a
    have e1b:=fun c=>e1 c b
    generalize hasM es a b=q at *
    generalize decide (a ∈ K)=p1 at *
    generalize decide (b ∈ K)=p2 at *
    clear hsp
    cases p1 <;> cases p2 <;> cases q <;> rcases hoth with rfl | ⟨l,rfl⟩
    all_goals
      refine wp_loop ?_
      repeat (first|apply wp_as|apply wp_ss|refine wr (by simp [hk2,hx2];with_reducible rfl) ?_|refine wq (by simp [hk2,hx2];with_reducible rfl) ?_|refine wt (by simpa [hk2,hx2]) ?_|refine wf (by simpa [hk2,hx2]) ?_|refine xt (by simpa [hk2,hx2]) ?_|refine xf (by simpa [hk2,hx2]) ?_|apply wp_bs|apply wp_b|refine wp_sr ?_|refine wp_sx ?_|refine wp_ret' ?_|refine wp_skip' ?_|refine wp_exit' ?_)
      refine wp_ra (by simp [e1a,e1b];with_reducible rfl) (by simp;with_reducible rfl) ?_ ?_
      · intro p hp
        simp only [List.mem_cons,List.not_mem_nil,or_false] at hp
        rcases hp with rfl | rfl | rfl
        · exact ⟨_,by simp [e1a,e1b];with_reducible rfl,by simp⟩
        · exact ⟨_,by simp [e1a,e1b];with_reducible rfl,by simp⟩
        · exact ⟨_,by simp [e1a,e1b];with_reducible rfl,by simp⟩
      repeat (first|apply wp_as|apply wp_ss|refine wr (by simp [e2,w1];with_reducible rfl) ?_|refine wq (by simp [e2,w1];with_reducible rfl) ?_|refine wt (by simpa [e2,w1]) ?_|refine wf (by simpa [e2,w1]) ?_|refine xt (by simpa [e2,w1]) ?_|refine xf (by simpa [e2,w1]) ?_|apply wp_bs|apply wp_b|refine wp_sr ?_|refine wp_sx ?_|refine wp_ret' ?_|refine wp_skip' ?_|refine wp_exit' ?_)
      first | exact hn _ | exact .inr ⟨rfl,rfl,_,rfl⟩
abbrev spA (K:List Int):List Int:=asc 0 [] K
abbrev spO (n:Nat) (K:List Int):List Int:=(idxB n (-1)).filter fun x=>!decide (x ∈ K)
theorem spA_mem {K:List Int} {x:Int}:x ∈ spA K ↔ x ∈ K:=by
  have:=(asc_ok K [] .nil).2.mem_iff (a:=x)
  simpa using this
theorem spA_len (K:List Int):(spA K).length=K.length:=by
  have:=(asc_ok K [] .nil).2.length_eq
  simpa using this
abbrev SPR (n:Nat) (es:List (Int×Int)):IV:=if spOK n es=true then .tup [O (spA (spK (degs n es))),O (spO n (spA (spK (degs n es)))),Bo true] else .tup [Z,Z,Bo false]
set_option maxHeartbeats 8000000 in
theorem ev_SplitParts_0 (e0:Nat) (c:Bool) (v1:limF tb zl26 [] [.agg [I 0,.lst e0 [] c]] []=some ⟨Bo true,[],[],[]⟩) (g1:limF tb zl9 [] [.agg [I 0,.lst e0 [] c]] []=some ⟨O (degs 0 []),[],[],[]⟩) :
    Ev tb zl515 [] [.agg [I 0,.lst e0 [] c]] [] ⟨.tup [O [],O [],Bo true],[],[],[]⟩:=by
  rw [show degs 0 []=[] from rfl] at g1
  have e2:=ev_lim (ev_indices 0 (-1) (by omega))
  rw [show idxB 0 (-1)=[] from rfl,show ((0:Nat):Int)=0 from rfl] at e2
  have e3:=fun c=>ev_lim (ev_DurfeeOf [] c rfl)
  rw [show durf (fall [])=0 from rfl,show ((0:Nat):Int)=0 from rfl] at e3
  have e4:=fun c=>ev_lim (ev_greatest [] c (fun x hx=>by cases hx) Z [] (.inr ⟨rfl,rfl⟩) (by simp) (fun v hv=>by cases hv) 0 (by simp))
  rw [show topD [] [] 0=[] from rfl,show ((0:Nat):Int)=0 from rfl] at e4
  have e5:=ev_lim (ev_Sort [] (by simp) [])
  rw [show asc 0 [] []=[] from rfl] at e5
  have e6:=ev_lim (ev_DeleteFunc_Z zl516 [.bptr 0 1 0] [[[I 0,.lst e0 [] c],[O []]]])
  have e7:=ev_lim (ev_impl_pairs 0 (by omega))
  rw [show prs 0=[] from rfl,show ((0:Nat):Int)=0 from rfl] at e7
  have e8:=fun c=>ev_lim (ev_clone [] c (by simp))
  have e9:=ev_lim ev_clone_Z
  simp only [nlI,O,L,ints_nil,nl2_nil] at g1 e2 e3 e4 e5 e6 e7 e8 e9
  refine call_of_wp zt515 rfl ?_
  repeat (first|apply wp_as|apply wp_ss|refine wr (by simp [v1];with_reducible rfl) ?_|refine wq (by simp [v1];with_reducible rfl) ?_|refine wt (by simpa [v1]) ?_|refine wf (by simpa [v1]) ?_|refine xt (by simpa [v1]) ?_|refine xf (by simpa [v1]) ?_|apply wp_bs|apply wp_b|refine wp_sr ?_|refine wp_sx ?_|refine wp_ret' ?_|refine wp_skip' ?_|refine wp_exit' ?_)
  repeat (first|apply wp_as|apply wp_ss|refine wr (by simp [g1];with_reducible rfl) ?_|refine wq (by simp [g1];with_reducible rfl) ?_|refine wt (by simpa [g1]) ?_|refine wf (by simpa [g1]) ?_|refine xt (by simpa [g1]) ?_|refine xf (by simpa [g1]) ?_|apply wp_bs|apply wp_b|refine wp_sr ?_|refine wp_sx ?_|refine wp_ret' ?_|refine wp_skip' ?_|refine wp_exit' ?_)
  repeat (first|apply wp_as|apply wp_ss|refine wr (by simp [e2,e3,e4];with_reducible rfl) ?_|refine wq (by simp [e2,e3,e4];with_reducible rfl) ?_|refine wt (by simpa [e2,e3,e4]) ?_|refine wf (by simpa [e2,e3,e4]) ?_|refine xt (by simpa [e2,e3,e4]) ?_|refine xf (by simpa [e2,e3,e4]) ?_|apply wp_bs|apply wp_b|refine wp_sr ?_|refine wp_sx ?_|refine wp_ret' ?_|refine wp_skip' ?_|refine wp_exit' ?_)
  repeat (first|apply wp_as|apply wp_ss|refine wr (by simp [e5];with_reducible rfl) ?_|refine wq (by simp [e5];with_reducible rfl) ?_|refine wt (by simpa [e5]) ?_|refine wf (by simpa [e5]) ?_|refine xt (by simpa [e5]) ?_|refine xf (by simpa [e5]) ?_|apply wp_bs|apply wp_b|refine wp_sr ?_|refine wp_sx ?_|refine wp_ret' ?_|refine wp_skip' ?_|refine wp_exit' ?_)
  repeat (first|apply wp_as|apply wp_ss|refine wr (by simp [e2,e6];with_reducible rfl) ?_|refine wq (by simp [e2,e6];with_reducible rfl) ?_|refine wt (by simpa [e2,e6]) ?_|refine wf (by simpa [e2,e6]) ?_|refine xt (by simpa [e2,e6]) ?_|refine xf (by simpa [e2,e6]) ?_|apply wp_bs|apply wp_b|refine wp_sr ?_|refine wp_sx ?_|refine wp_ret' ?_|refine wp_skip' ?_|refine wp_exit' ?_)
  repeat (first|apply wp_as|apply wp_ss|refine wr (by simp [e7];with_reducible rfl) ?_|refine wq (by simp [e7];with_reducible rfl) ?_|refine wt (by simpa [e7]) ?_|refine wf (by simpa [e7]) ?_|refine xt (by simpa [e7]) ?_|refine xf (by simpa [e7]) ?_|apply wp_bs|apply wp_b|refine wp_sr ?_|refine wp_sx ?_|refine wp_ret' ?_|refine wp_skip' ?_|refine wp_exit' ?_)
  refine wp_loop ?_
  repeat (first|apply wp_as|apply wp_ss|refine wr (by simp [e8,e9];with_reducible rfl) ?_|refine wq (by simp [e8,e9];with_reducible rfl) ?_|refine wt (by simpa [e8,e9]) ?_|refine wf (by simpa [e8,e9]) ?_|refine xt (by simpa [e8,e9]) ?_|refine xf (by simpa [e8,e9]) ?_|apply wp_bs|apply wp_b|refine wp_sr ?_|refine wp_sx ?_|refine wp_ret' ?_|refine wp_skip' ?_|refine wp_exit' ?_)
  simp [zi515]
set_option maxHeartbeats 8000000 in
theorem ev_SplitParts (n:Nat) (es:List (Int×Int)) (c:Bool) (hv:vGraph n es=true):Ev tb zl515 [] [Gr n es c] [] ⟨SPR n es,[],[],[]⟩:=by
  have hn7:=(vG_iff.1 hv).2.2
  have h21:=vG21 hn7 hv
  have hf:Fit es:=fun e he=>by have:=mem_prs.1 ((vG_iff.1 hv).2.1 e he);omega
  have hin:EdgesIn n es:=fun e he=>by have:=mem_prs.1 ((vG_iff.1 hv).2.1 e he);omega
  have v1:=fun c=>ev_lim (ev_ValidGraph n es c hf (by omega))
  rw [hv] at v1
  have e1:=fun c=>ev_lim (ev_Graph_degrees n es c (by omega) (by omega) hin)
  by_cases h0:n=0
  · have hes:es=[]:=by
      cases es with
      | nil=>rfl
      | cons e r=>have:=mem_prs.1 ((vG_iff.1 hv).2.1 e (by simp));omega
    subst h0 hes
    have v1:=v1 c
    have e1:=e1 c
    rw [show ((0:Nat):Int)=0 from rfl] at v1 e1 ⊢
    exact ev_SplitParts_0 2 c v1 e1
  have hdl:(degs n es).length=n:=degs_len n es
  have hvd:=degs_valid hv
  have hvf:=valid_few hvd
  have hil:(idxB n (-1)).length=n:=by rw [idxB_all];simp
  have hnl:nlI (idxB n (-1))=O (idxB n (-1)):=by
    cases hq:idxB n (-1) with
    | nil=>rw [hq] at hil;simp at hil;omega
    | cons x r=>rfl
  have e2:=ev_lim (ev_indices n (-1) (by omega))
  rw [hnl] at e2
  have e3:=fun c=>ev_lim (ev_DurfeeOf (degs n es) c hvd)
  have hdm:=durf_le (fall (degs n es))
  rw [fall_len,hdl] at hdm
  have e4:=fun c c'=>ev_lim (ev_greatest (degs n es) c (fun x hx=>by have:=hvf.2 x hx;omega) (L (idxB n (-1)) c') (idxB n (-1)) (.inl ⟨_,rfl⟩) (by omega) (fun v hv=>by have:=mem_idxB.1 hv;omega) (durf (fall (degs n es))) (by omega))
  rw [show topD (degs n es) (idxB n (-1)) (durf (fall (degs n es)))=spK (degs n es) by rw [spK,hdl]] at e4
  have hkl:=spK_len (degs n es)
  have e5:=ev_lim (ev_Sort (spK (degs n es)) (by omega) [])
  rw [show asc 0 [] (spK (degs n es))=spA (spK (degs n es)) from rfl] at e5
  have hal:=spA_len (spK (degs n es))
  have e6:=ev_lim (ev_DeleteFunc (idxB n (-1)) zl516 [.bptr 0 1 0] [[[I n,L2 es c],[O (spA (spK (degs n es)))]]] (fun x=>decide (x ∈ spA (spK (degs n es)))) (by omega) (fun M' x _=>by
    rw [show [[[I (n:Int),L2 es c],[O (spA (spK (degs n es)))]]]++[[]]++M'=[[I (n:Int),L2 es c],[O (spA (spK (degs n es)))]]::([[]]++M') from rfl]
    exact ev_sp_F1 x _ (by omega) [[I n,L2 es c],[O (spA (spK (degs n es)))]] 1 rfl ([[]]++M')))
  rw [show ((idxB n (-1)).filter fun x=>!decide (x ∈ spA (spK (degs n es))))=spO n (spA (spK (degs n es))) from rfl] at e6
  have e7:=ev_lim (ev_impl_pairs n (by omega))
  have hpl:(prs n).length≤1000:=by
    have h2:∀ n,n≤7→(prs n).length≤21:=by decide +kernel
    have:=h2 _ hn7
    omega
  have hsp:(prs n).all (spP es (spA (spK (degs n es))))=spOK n es:=by
    rw [spOK]
    congr 1
    funext e
    simp only [spP,spA_mem]
  have e8:=fun c=>ev_lim (ev_clone (spA (spK (degs n es))) c (by omega))
  have hol:(spO n (spA (spK (degs n es)))).length≤n:=by
    have:(spO n (spA (spK (degs n es)))).length≤(idxB n (-1)).length:=List.length_filter_le _ _
    omega
  have e9:=fun c=>ev_lim (ev_clone (spO n (spA (spK (degs n es)))) c (by omega))
  have loop:=sp_loop n es c (by omega) (spA (spK (degs n es))) (by omega) (O (spO n (spA (spK (degs n es))))) (.inr ⟨_,rfl⟩) (prs n) hpl (prs n).length 0 [] (by omega)
  rw [show ((0:Nat):Int)=0 from rfl] at loop
  simp only [List.drop_zero,hsp] at loop
  have back:∀ G:List (Int×Int),nl2 G=Z∧G=[] ∨ nl2 G=O2 G:=fun G=>by cases G <;> simp [nl2]
  simp only [SPR]
  generalize spO n (spA (spK (degs n es)))=Q at *
  generalize spA (spK (degs n es))=K at *
  generalize spK (degs n es)=K0 at *
  generalize durf (fall (degs n es))=dm at *
  generalize idxB n (-1)=ix at *
  generalize degs n es=D at *
  generalize spOK n es=ok at *
  have fin:∀ (ex:Ex) (st:St),((ex=.exit 0∧ok=true∧∃ B',st={ T:=[(1,.bptr 0 0 0),(6,.bptr 0 1 0),(7,O Q),(33,nl2 (prs n)),(34,I (prs n).length),(35,I (prs n).length),(36,Bo false)],loc:=[I n,L2 es c]::[O K]::B',M:=[] }) ∨
        (ex=.ret∧ok=false∧∃ B',st={ T:=[(2,Z),(3,Z),(4,Bo false)],loc:=B',M:=[] }))→True:=fun _ _ _=>trivial
  clear fin
  rcases back (prs n) with ⟨hb,hP⟩ | hb
  · rw [hb] at loop e7
    rw [hP] at loop
    simp only [List.length_nil] at loop
    rw [show ((0:Nat):Int)=0 from rfl] at loop
    refine call_of_wp zt515 rfl ?_
    repeat (first|apply wp_as|apply wp_ss|refine wr (by simp [v1];with_reducible rfl) ?_|refine wq (by simp [v1];with_reducible rfl) ?_|refine wt (by simpa [v1]) ?_|refine wf (by simpa [v1]) ?_|refine xt (by simpa [v1]) ?_|refine xf (by simpa [v1]) ?_|apply wp_bs|apply wp_b|refine wp_sr ?_|refine wp_sx ?_|refine wp_ret' ?_|refine wp_skip' ?_|refine wp_exit' ?_)
    repeat (first|apply wp_as|apply wp_ss|refine wr (by simp [e1];with_reducible rfl) ?_|refine wq (by simp [e1];with_reducible rfl) ?_|refine wt (by simpa [e1]) ?_|refine wf (by simpa [e1]) ?_|refine xt (by simpa [e1]) ?_|refine xf (by simpa [e1]) ?_|apply wp_bs|apply wp_b|refine wp_sr ?_|refine wp_sx ?_|refine wp_ret' ?_|refine wp_skip' ?_|refine wp_exit' ?_)
    repeat (first|apply wp_as|apply wp_ss|refine wr (by simp [e2,e3,e4];with_reducible rfl) ?_|refine wq (by simp [e2,e3,e4];with_reducible rfl) ?_|refine wt (by simpa [e2,e3,e4]) ?_|refine wf (by simpa [e2,e3,e4]) ?_|refine xt (by simpa [e2,e3,e4]) ?_|refine xf (by simpa [e2,e3,e4]) ?_|apply wp_bs|apply wp_b|refine wp_sr ?_|refine wp_sx ?_|refine wp_ret' ?_|refine wp_skip' ?_|refine wp_exit' ?_)
    repeat (first|apply wp_as|apply wp_ss|refine wr (by simp [e5,↓ints_isSc];with_reducible rfl) ?_|refine wq (by simp [e5,↓ints_isSc];with_reducible rfl) ?_|refine wt (by simpa [e5,↓ints_isSc]) ?_|refine wf (by simpa [e5,↓ints_isSc]) ?_|refine xt (by simpa [e5,↓ints_isSc]) ?_|refine xf (by simpa [e5,↓ints_isSc]) ?_|apply wp_bs|apply wp_b|refine wp_sr ?_|refine wp_sx ?_|refine wp_ret' ?_|refine wp_skip' ?_|refine wp_exit' ?_)
    repeat (first|apply wp_as|apply wp_ss|refine wr (by simp [e2,e6];with_reducible rfl) ?_|refine wq (by simp [e2,e6];with_reducible rfl) ?_|refine wt (by simpa [e2,e6]) ?_|refine wf (by simpa [e2,e6]) ?_|refine xt (by simpa [e2,e6]) ?_|refine xf (by simpa [e2,e6]) ?_|apply wp_bs|apply wp_b|refine wp_sr ?_|refine wp_sx ?_|refine wp_ret' ?_|refine wp_skip' ?_|refine wp_exit' ?_)
    repeat (first|apply wp_as|apply wp_ss|refine wr (by simp [e7];with_reducible rfl) ?_|refine wq (by simp [e7];with_reducible rfl) ?_|refine wt (by simpa [e7]) ?_|refine wf (by simpa [e7]) ?_|refine xt (by simpa [e7]) ?_|refine xf (by simpa [e7]) ?_|apply wp_bs|apply wp_b|refine wp_sr ?_|refine wp_sx ?_|refine wp_ret' ?_|refine wp_skip' ?_|refine wp_exit' ?_)
    refine wp_imp loop ?_
    rintro ex st (⟨rfl,rfl,B',rfl⟩ | ⟨rfl,rfl,B',rfl⟩)
    · simp only [if_true]
      repeat (first|apply wp_as|apply wp_ss|refine wr (by simp [e8,e9];with_reducible rfl) ?_|refine wq (by simp [e8,e9];with_reducible rfl) ?_|refine wt (by simpa [e8,e9]) ?_|refine wf (by simpa [e8,e9]) ?_|refine xt (by simpa [e8,e9]) ?_|refine xf (by simpa [e8,e9]) ?_|apply wp_bs|apply wp_b|refine wp_sr ?_|refine wp_sx ?_|refine wp_ret' ?_|refine wp_skip' ?_|refine wp_exit' ?_)
      simp [zi515]
    · simp [zi515]
  · rw [hb] at loop e7
    refine call_of_wp zt515 rfl ?_
    repeat (first|apply wp_as|apply wp_ss|refine wr (by simp [v1];with_reducible rfl) ?_|refine wq (by simp [v1];with_reducible rfl) ?_|refine wt (by simpa [v1]) ?_|refine wf (by simpa [v1]) ?_|refine xt (by simpa [v1]) ?_|refine xf (by simpa [v1]) ?_|apply wp_bs|apply wp_b|refine wp_sr ?_|refine wp_sx ?_|refine wp_ret' ?_|refine wp_skip' ?_|refine wp_exit' ?_)
    repeat (first|apply wp_as|apply wp_ss|refine wr (by simp [e1];with_reducible rfl) ?_|refine wq (by simp [e1];with_reducible rfl) ?_|refine wt (by simpa [e1]) ?_|refine wf (by simpa [e1]) ?_|refine xt (by simpa [e1]) ?_|refine xf (by simpa [e1]) ?_|apply wp_bs|apply wp_b|refine wp_sr ?_|refine wp_sx ?_|refine wp_ret' ?_|refine wp_skip' ?_|refine wp_exit' ?_)
    repeat (first|apply wp_as|apply wp_ss|refine wr (by simp [e2,e3,e4];with_reducible rfl) ?_|refine wq (by simp [e2,e3,e4];with_reducible rfl) ?_|refine wt (by simpa [e2,e3,e4]) ?_|refine wf (by simpa [e2,e3,e4]) ?_|refine xt (by simpa [e2,e3,e4]) ?_|refine xf (by simpa [e2,e3,e4]) ?_|apply wp_bs|apply wp_b|refine wp_sr ?_|refine wp_sx ?_|refine wp_ret' ?_|refine wp_skip' ?_|refine wp_exit' ?_)
    repeat (first|apply wp_as|apply wp_ss|refine wr (by simp [e5,↓ints_isSc];with_reducible rfl) ?_|refine wq (by simp [e5,↓ints_isSc];with_reducible rfl) ?_|refine wt (by simpa [e5,↓ints_isSc]) ?_|refine wf (by simpa [e5,↓ints_isSc]) ?_|refine xt (by simpa [e5,↓ints_isSc]) ?_|refine xf (by simpa [e5,↓ints_isSc]) ?_|apply wp_bs|apply wp_b|refine wp_sr ?_|refine wp_sx ?_|refine wp_ret' ?_|refine wp_skip' ?_|refine wp_exit' ?_)
    repeat (first|apply wp_as|apply wp_ss|refine wr (by simp [e2,e6];with_reducible rfl) ?_|refine wq (by simp [e2,e6];with_reducible rfl) ?_|refine wt (by simpa [e2,e6]) ?_|refine wf (by simpa [e2,e6]) ?_|refine xt (by simpa [e2,e6]) ?_|refine xf (by simpa [e2,e6]) ?_|apply wp_bs|apply wp_b|refine wp_sr ?_|refine wp_sx ?_|refine wp_ret' ?_|refine wp_skip' ?_|refine wp_exit' ?_)
    repeat (first|apply wp_as|apply wp_ss|refine wr (by simp [e7];with_reducible rfl) ?_|refine wq (by simp [e7];with_reducible rfl) ?_|refine wt (by simpa [e7]) ?_|refine wf (by simpa [e7]) ?_|refine xt (by simpa [e7]) ?_|refine xf (by simpa [e7]) ?_|apply wp_bs|apply wp_b|refine wp_sr ?_|refine wp_sx ?_|refine wp_ret' ?_|refine wp_skip' ?_|refine wp_exit' ?_)
    refine wp_imp loop ?_
    rintro ex st (⟨rfl,rfl,B',rfl⟩ | ⟨rfl,rfl,B',rfl⟩)
    · simp only [if_true]
      repeat (first|apply wp_as|apply wp_ss|refine wr (by simp [e8,e9];with_reducible rfl) ?_|refine wq (by simp [e8,e9];with_reducible rfl) ?_|refine wt (by simpa [e8,e9]) ?_|refine wf (by simpa [e8,e9]) ?_|refine xt (by simpa [e8,e9]) ?_|refine xf (by simpa [e8,e9]) ?_|apply wp_bs|apply wp_b|refine wp_sr ?_|refine wp_sx ?_|refine wp_ret' ?_|refine wp_skip' ?_|refine wp_exit' ?_)
      simp [zi515]
    · simp [zi515]
end Go.Idl
namespace Go.Idl
theorem idxV_pw (n:Nat) (v:Int):(idxB n v).Pairwise (fun a b:Int=>a < b):=by
  refine List.Pairwise.filter _ ?_
  rw [List.pairwise_map]
  exact List.pairwise_lt_range.imp fun h=>by omega
end Go.Idl
namespace Go.Idl
def scanG (d:List Int) (v:Int) (gone:List Int):Nat→Int
  | 0=>-1
  | j+1=>if (j:Int) ≠ v∧(j:Int) ∉ gone∧(scanG d v gone j < 0 ∨ d.getD (scanG d v gone j).toNat 0 < d.getD j 0) then (j:Int) else scanG d v gone j
theorem scanG_spec (d:List Int) (v:Int) (gone:List Int):∀ j:Nat,(scanG d v gone j=-1∧∀ i:Nat,i < j→(i:Int) ≠ v→(i:Int) ∉ gone→False) ∨
    (∃ b:Nat,scanG d v gone j=b∧b < j∧(b:Int) ≠ v∧(b:Int) ∉ gone∧∀ i:Nat,i < j→(i:Int) ≠ v→(i:Int) ∉ gone→i ≠ b→lexR d b i)
  | 0=>.inl ⟨rfl,fun i h=>by omega⟩
  | j+1=>by
    have ih:=scanG_spec d v gone j
    rw [scanG]
    by_cases h1:(j:Int) ≠ v∧(j:Int) ∉ gone
    · obtain ⟨h1,h2⟩:=h1
      rcases ih with ⟨h3,h4⟩ | ⟨b,h3,h4,h5,h6,h7⟩
      · rw [if_pos ⟨h1,h2,.inl (by omega)⟩]
        refine .inr ⟨j,rfl,by omega,h1,h2,fun i hi q1 q2 q3=>(h4 i (by omega) q1 q2).elim⟩
      · rw [h3,Int.toNat_natCast]
        by_cases h8:d.getD b 0 < d.getD j 0
        · rw [if_pos ⟨h1,h2,.inr h8⟩]
          refine .inr ⟨j,rfl,by omega,h1,h2,fun i hi q1 q2 q3=>?_⟩
          by_cases h9:i=b
          · subst h9
            left;simpa using h8
          · have:=h7 i (by omega) q1 q2 h9
            simp only [lexR,Int.toNat_natCast] at this ⊢
            left;omega
        · rw [if_neg (fun h=>by rcases h.2.2 with h | h;omega;exact h8 h)]
          refine .inr ⟨b,rfl,by omega,h5,h6,fun i hi q1 q2 q3=>?_⟩
          by_cases h9:i=j
          · subst h9
            simp only [lexR,Int.toNat_natCast]
            omega
          · exact h7 i (by omega) q1 q2 q3
    · have hn:¬ ((j:Int) ≠ v∧(j:Int) ∉ gone∧(scanG d v gone j < 0 ∨ d.getD (scanG d v gone j).toNat 0 < d.getD j 0)):=fun h=>h1 ⟨h.1,h.2.1⟩
      rw [if_neg hn]
      rcases ih with ⟨h3,h4⟩ | ⟨b,h3,h4,h5,h6,h7⟩
      · refine .inl ⟨h3,fun i hi q1 q2=>?_⟩
        by_cases h9:i=j
        · subst h9;exact h1 ⟨q1,q2⟩
        · exact h4 i (by omega) q1 q2
      · refine .inr ⟨b,h3,by omega,h5,h6,fun i hi q1 q2 q3=>?_⟩
        by_cases h9:i=j
        · subst h9;exact (h1 ⟨q1,q2⟩).elim
        · exact h7 i (by omega) q1 q2 q3
end Go.Idl
namespace Go.Idl
open Go
abbrev Str (s:ByteArray):IV:=.sc (.string s)
def strs (l:List ByteArray):List (List IV):=l.map fun s=>[Str s]
@[simp] theorem strs_len (l:List ByteArray):(strs l).length=l.length:=by simp [strs]
@[simp] theorem strs_get (l:List ByteArray) (i:Nat) (h:i < (strs l).length):(strs l)[i]=[IV.sc (.string (l[i]'(by simpa [strs] using h)))]:=by simp [strs]
@[simp] theorem strs_get? (l:List ByteArray) (i:Nat):(strs l)[i]? = l[i]?.map fun s=>[IV.sc (.string s)]:=by simp [strs]
end Go.Idl
namespace Go.Idl
open Go
theorem mv_toA (n:Nat) (hn:n≤7) (es:List (Int×Int)) (c:Bool) (A B:Boxes) (Ms:List Boxes):∀ (m i:Nat),i+m=n →
    wp tb (.loop z363l6) { T:=[(0,.bptr 0 A.length 0),(3,.bptr (Ms.length+1) 0 0),(4,.bptr (Ms.length+1) 1 0),(5,O (rI i)),(6,I i)],loc:=[[I n,L2 es c],[I 0,Z]],M:=B::Ms }
      (fun ex st=>ex=.exit 0∧st={ T:=[(0,.bptr 0 A.length 0),(3,.bptr (Ms.length+1) 0 0),(4,.bptr (Ms.length+1) 1 0),(5,O (rI n)),(6,I n),(16,Bo false)],loc:=[[I n,L2 es c],[I 0,Z]],M:=B::Ms }):=by
  intro m
  induction m with
  | zero =>
    intro i hi
    have h3:i=n:=hi
    subst h3
    refine wp_loop ?_
    repeat (first|apply wp_as|apply wp_ss|refine wr (by simp;with_reducible rfl) ?_|refine wq (by simp;with_reducible rfl) ?_|refine wt (by simpa) ?_|refine wf (by simpa) ?_|refine xt (by simpa) ?_|refine xf (by simpa) ?_|apply wp_bs|apply wp_b|refine wp_sr ?_|refine wp_sx ?_|refine wp_ret' ?_|refine wp_skip' ?_|refine wp_exit' ?_)
    exact ⟨rfl,rfl⟩
  | succ m ih =>
    intro i hi
    have hi2:i < n:=by omega
    have w2:IntKind.i64.wrap ((i:Int)+1)=((i+1:Nat):Int):=wrapS (by omega)
    have hn2:=ih (i+1) (by omega)
    rw [rI_succ] at hn2
    have hal:=rI_len i
    generalize rI i=A at *
    have hl1:i+1≤274877906944:=by omega
    have hT:A.take i=A:=List.take_of_length_le (by omega)
    refine wp_loop ?_
    repeat (first|apply wp_as|apply wp_ss|refine wr (by simp [hi2,w2,hal,hl1,hT];with_reducible rfl) ?_|refine wq (by simp [hi2,w2,hal,hl1,hT];with_reducible rfl) ?_|refine wt (by simpa [hi2,w2,hal,hl1,hT]) ?_|refine wf (by simpa [hi2,w2,hal,hl1,hT]) ?_|refine xt (by simpa [hi2,w2,hal,hl1,hT]) ?_|refine xf (by simpa [hi2,w2,hal,hl1,hT]) ?_|apply wp_bs|apply wp_b|refine wp_sr ?_|refine wp_sx ?_|refine wp_ret' ?_|refine wp_skip' ?_|refine wp_exit' ?_)
    exact hn2
theorem mv_swA (code:List Int) (c0:Bool) (hc:CodeOk code) (n:Nat) (hn:n≤7) (es:List (Int×Int)) (c:Bool) (A bs:Boxes) (Ms:List Boxes):∀ (m i cnt:Nat) (to:List Int),i+m=n→to.length=n→(∀ x ∈ to,0≤x∧x < n)→cnt+m≤900000 →
    wp tb (.loop z363l14) { T:=[(0,.bptr 0 A.length 0),(3,.bptr (Ms.length+1) 0 0),(4,.bptr (Ms.length+1) 1 0),(5,O to),(7,I i)],loc:=[[I n,L2 es c],[I 0,Z]],M:=(A++R code c0 cnt::bs)::Ms }
      (fun ex st=>ex=.exit 2∧∃ (to:List Int) (k:Nat),(to.length=n∧(∀ x ∈ to,0≤x∧x < n)∧k≤cnt+m)∧st={ T:=[(0,.bptr 0 A.length 0),(3,.bptr (Ms.length+1) 0 0),(4,.bptr (Ms.length+1) 1 0),(5,O to),(7,I n),(26,Bo false)],loc:=[[I n,L2 es c],[I 0,Z]],M:=(A++R code c0 k::bs)::Ms }):=by
  intro m
  induction m with
  | zero =>
    intro i cnt to hi hl hb hk
    have h3:i=n:=hi
    subst h3
    refine wp_loop ?_
    repeat (first|apply wp_as|apply wp_ss|refine wr (by simp;with_reducible rfl) ?_|refine wq (by simp;with_reducible rfl) ?_|refine wt (by simpa) ?_|refine wf (by simpa) ?_|refine xt (by simpa) ?_|refine xf (by simpa) ?_|apply wp_bs|apply wp_b|refine wp_sr ?_|refine wp_sx ?_|refine wp_ret' ?_|refine wp_skip' ?_|refine wp_exit' ?_)
    exact ⟨rfl,to,cnt,⟨hl,hb,by omega⟩,rfl⟩
  | succ m ih =>
    intro i cnt to hi hl hb hk
    have hi2:i < n:=by omega
    have hil:i < to.length:=by omega
    obtain ⟨v,k,hv,hk2,e1⟩:=pickA code c0 hc cnt (by omega) (n:Int) (by omega) A bs (Ms++[[[I n,L2 es c],[I 0,Z]]])
    have hv:=hv (by omega)
    have hvn:v < n:=by omega
    have hvl:v < to.length:=by omega
    have w2:IntKind.i64.wrap ((i:Int)+1)=((i+1:Nat):Int):=wrapS (by omega)
    have hi3:=hb _ (List.getElem_mem hil)
    have hv3:=hb _ (List.getElem_mem hvl)
    have hn2:=ih (i+1) k ((to.set i to[v]).set v to[i]) (by omega) (by simpa using hl) (fun x hx=>by
      rcases List.mem_or_eq_of_mem_set hx with hx | rfl
      · rcases List.mem_or_eq_of_mem_set hx with hx | rfl
        · exact hb x hx
        · exact hv3
      · exact hi3) (by omega)
    refine wp_loop ?_
    repeat (first|apply wp_as|apply wp_ss|refine wr (by simp [hi2,hil,hvn,hvl,hl,e1,w2];with_reducible rfl) ?_|refine wq (by simp [hi2,hil,hvn,hvl,hl,e1,w2];with_reducible rfl) ?_|refine wt (by simpa [hi2,hil,hvn,hvl,hl,e1,w2]) ?_|refine wf (by simpa [hi2,hil,hvn,hvl,hl,e1,w2]) ?_|refine xt (by simpa [hi2,hil,hvn,hvl,hl,e1,w2]) ?_|refine xf (by simpa [hi2,hil,hvn,hvl,hl,e1,w2]) ?_|apply wp_bs|apply wp_b|refine wp_sr ?_|refine wp_sx ?_|refine wp_ret' ?_|refine wp_skip' ?_|refine wp_exit' ?_)
    refine wp_imp hn2 ?_
    rintro ex st ⟨rfl,to',k',⟨h1,h2,h3⟩,rfl⟩
    exact ⟨rfl,to',k',⟨h1,h2,by omega⟩,rfl⟩
theorem ev_movedA (code:List Int) (c0:Bool) (hc:CodeOk code) (cnt:Nat) (hcn:cnt≤80000) (n:Nat) (hn:n≤7) (es:List (Int×Int)) (c:Bool) (hes:EdgesIn n es) (hel:es.length≤100) (A bs:Boxes) (Ms:List Boxes) :
    ∃ (out:List (Int×Int)) (k:Nat),out.length=es.length∧EdgesIn n out∧k≤cnt+10 ∧
      limF tb zl363 [] [.bptr 0 A.length 0,Gr n es c] ((A++R code c0 cnt::bs)::Ms)=some ⟨OG n out,[],(A++R code c0 k::bs)::Ms,[]⟩:=by
  suffices hh:∃ r,(∃ (out:List (Int×Int)) (k:Nat),out.length=es.length∧EdgesIn n out∧k≤cnt+10∧r=⟨OG n out,[],(A++R code c0 k::bs)::Ms,[]⟩)∧Ev tb zl363 [] [.bptr 0 A.length 0,Gr n es c] ((A++R code c0 cnt::bs)::Ms) r by
    obtain ⟨r,⟨out,k,q1,q2,q3,rfl⟩,q4⟩:=hh
    exact ⟨out,k,q1,q2,q3,ev_lim q4⟩
  refine call_ex zt363 rfl ?_
  repeat (first|apply wp_as|apply wp_ss|refine wr (by simp;with_reducible rfl) ?_|refine wq (by simp;with_reducible rfl) ?_|refine wt (by simpa) ?_|refine wf (by simpa) ?_|refine xt (by simpa) ?_|refine xf (by simpa) ?_|apply wp_bs|apply wp_b|refine wp_sr ?_|refine wp_sx ?_|refine wp_ret' ?_|refine wp_skip' ?_|refine wp_exit' ?_)
  refine wp_imp (mv_toA n hn es c A (A++R code c0 cnt::bs) Ms n 0 (by omega)) ?_
  rintro ex st ⟨rfl,rfl⟩
  simp only [if_true]
  repeat (first|apply wp_as|apply wp_ss|refine wr (by simp;with_reducible rfl) ?_|refine wq (by simp;with_reducible rfl) ?_|refine wt (by simpa) ?_|refine wf (by simpa) ?_|refine xt (by simpa) ?_|refine xf (by simpa) ?_|apply wp_bs|apply wp_b|refine wp_sr ?_|refine wp_sx ?_|refine wp_ret' ?_|refine wp_skip' ?_|refine wp_exit' ?_)
  refine wp_imp (mv_swA code c0 hc n hn es c A bs Ms n 0 cnt (rI n) (by omega) (rI_len n) (fun x hx=>mem_rI.1 hx) (by omega)) ?_
  rintro ex st ⟨rfl,to,k,⟨h1,h2,h3⟩,rfl⟩
  simp only [if_true]
  repeat (first|apply wp_as|apply wp_ss|refine wr (by simp;with_reducible rfl) ?_|refine wq (by simp;with_reducible rfl) ?_|refine wt (by simpa) ?_|refine wf (by simpa) ?_|refine xt (by simpa) ?_|refine xf (by simpa) ?_|apply wp_bs|apply wp_b|refine wp_sr ?_|refine wp_sx ?_|refine wp_ret' ?_|refine wp_skip' ?_|refine wp_exit' ?_)
  refine wp_imp (mv_ed n hn es c hes hel to h1 h2 ((A++R code c0 k::bs)::Ms) (Ms.length+1) (by simp) es.length 0 [] (by simp) rfl (fun e he=>by simp at he)) ?_
  rintro ex st ⟨rfl,out,⟨h4,h5⟩,rfl⟩
  simp only [if_true]
  have hot:out.take out.length=out:=List.take_of_length_le (Nat.le_refl _)
  repeat (first|apply wp_as|apply wp_ss|refine wr (by simp [hot];with_reducible rfl) ?_|refine wq (by simp [hot];with_reducible rfl) ?_|refine wt (by simpa [hot]) ?_|refine wf (by simpa [hot]) ?_|refine xt (by simpa [hot]) ?_|refine xf (by simpa [hot]) ?_|apply wp_bs|apply wp_b|refine wp_sr ?_|refine wp_sx ?_|refine wp_ret' ?_|refine wp_skip' ?_|refine wp_exit' ?_)
  refine ⟨.inr rfl,_,⟨out,k,h4,h5,by omega,rfl⟩,?_⟩
  simp [zi363]
end Go.Idl
namespace Go.Idl
open Go
def rgF (n i:Nat):List Int:=((List.range n).drop i).map fun v:Nat=>(v:Int)
theorem rgF_cons {n i:Nat} (h:i < n):rgF n i=(i:Int)::rgF n (i+1):=by
  rw [rgF,rgF,List.drop_eq_getElem_cons (by simpa using h)];simp
theorem rgF_end (n:Nat):rgF n n=[]:=by simp [rgF]
theorem rgF_all (n:Nat):rgF n 0=idxB n (-1):=by rw [rgF,idxB_all,List.drop_zero]
end Go.Idl
