/- Part 7 of a proof by an ideal interpreter of the code: its definitions and lemmas. Conditions: none. -/
import Derived.KernelRfl
import Derived.Test.YtnpcdnpfncdbnaaA6
set_option linter.all false
set_option linter.unusedVariables false
set_option linter.unusedSimpArgs false
namespace Go.Idl
open Go
def VE (es:List (Int×Int)) (x:IV):Prop:=(∃ c,x=L2 es c) ∨ (es=[]∧x=Z)
theorem ev_equalEdges_L (xs ys:List (Int×Int)) (c d:Bool) (hl:xs.length≤1000000) (hm:ys.length≤1000000):Ev tb zl237 [] [L2 xs c,L2 ys d] [] ⟨Bo (decide (xs=ys)),[],[],[]⟩:=by
  by_cases he:xs.length=ys.length
  · have loop:∀ (m i:Nat),i+m=xs.length→wp tb (.loop z237l8) { T:=[(0,L2 xs c),(1,L2 ys d),(5,I i)],loc:=[],M:=[] }
      (fun ex st=>(ex=.exit 0∧xs.drop i=ys.drop i∧st={ T:=[(0,L2 xs c),(1,L2 ys d),(5,I xs.length),(14,Bo false)],loc:=[],M:=[] }) ∨
        ex=.ret∧xs.drop i ≠ ys.drop i∧st={ T:=[(4,Bo false)],loc:=[],M:=[] }):=by
      intro m
      induction m with
      | zero =>
        intro i hi
        have h2:xs.drop i=[]:=List.drop_of_length_le (by omega)
        have h3:i=xs.length:=hi
        subst h3
        have hf:¬ xs.length < ys.length:=by omega
        refine wp_loop ?_
        repeat (first|refine wp_as ?_|refine wp_ss ?_|refine wr (by simp [he];with_reducible rfl) ?_|refine wq (by simp [he];with_reducible rfl) ?_|refine wt (by simpa [he]) ?_|refine wf (by simpa [he]) ?_|refine xt (by simpa [he]) ?_|refine xf (by simpa [he]) ?_|refine wp_bs ?_|refine wp_b ?_|refine wp_sr ?_|refine wp_sx ?_|refine wp_ret' ?_|refine wp_skip' ?_|refine wp_exit' ?_)
        refine .inl ⟨rfl,?_,by simp [he]⟩
        rw [h2,he,List.drop_length]
      | succ m ih =>
        intro i hi
        have hix:i < xs.length:=by omega
        have hiy:i < ys.length:=by omega
        have w2:IntKind.i64.wrap ((i:Int)+1)=((i+1:Nat):Int):=wrapS (by omega)
        rw [List.drop_eq_getElem_cons hix,List.drop_eq_getElem_cons hiy]
        generalize hx:xs[i]=a
        generalize hy:ys[i]=b
        obtain ⟨a1,a2⟩:=a
        obtain ⟨b1,b2⟩:=b
        have gx:(eds xs)[i]'(by simpa using hix)=[I a1,I a2]:=by simp [eds,hx]
        have gy:(eds ys)[i]'(by simpa using hiy)=[I b1,I b2]:=by simp [eds,hy]
        by_cases h1:a1=b1
        · by_cases h2:a2=b2
          · refine wp_loop ?_
            repeat (first|refine wp_as ?_|refine wp_ss ?_|refine wr (by simp [hix,hiy,gx,gy,h1,h2,w2];with_reducible rfl) ?_|refine wq (by simp [hix,hiy,gx,gy,h1,h2,w2];with_reducible rfl) ?_|refine wt (by simpa [hix,hiy,gx,gy,h1,h2,w2]) ?_|refine wf (by simpa [hix,hiy,gx,gy,h1,h2,w2]) ?_|refine xt (by simpa [hix,hiy,gx,gy,h1,h2,w2]) ?_|refine xf (by simpa [hix,hiy,gx,gy,h1,h2,w2]) ?_|refine wp_bs ?_|refine wp_b ?_|refine wp_sr ?_|refine wp_sx ?_|refine wp_ret' ?_|refine wp_skip' ?_|refine wp_exit' ?_)
            refine wp_imp (ih (i+1) (by omega)) ?_
            rintro ex st (⟨rfl,h5,rfl⟩ | ⟨rfl,h5,rfl⟩)
            · exact .inl ⟨rfl,by rw [h1,h2,h5],rfl⟩
            · exact .inr ⟨rfl,by simp [h1,h2,h5],rfl⟩
          · refine wp_loop ?_
            repeat (first|refine wp_as ?_|refine wp_ss ?_|refine wr (by simp [hix,hiy,gx,gy,h1,h2,w2];with_reducible rfl) ?_|refine wq (by simp [hix,hiy,gx,gy,h1,h2,w2];with_reducible rfl) ?_|refine wt (by simpa [hix,hiy,gx,gy,h1,h2,w2]) ?_|refine wf (by simpa [hix,hiy,gx,gy,h1,h2,w2]) ?_|refine xt (by simpa [hix,hiy,gx,gy,h1,h2,w2]) ?_|refine xf (by simpa [hix,hiy,gx,gy,h1,h2,w2]) ?_|refine wp_bs ?_|refine wp_b ?_|refine wp_sr ?_|refine wp_sx ?_|refine wp_ret' ?_|refine wp_skip' ?_|refine wp_exit' ?_)
            exact .inr ⟨rfl,by simp [h1,h2],rfl⟩
        · refine wp_loop ?_
          repeat (first|refine wp_as ?_|refine wp_ss ?_|refine wr (by simp [hix,hiy,gx,gy,h1,w2];with_reducible rfl) ?_|refine wq (by simp [hix,hiy,gx,gy,h1,w2];with_reducible rfl) ?_|refine wt (by simpa [hix,hiy,gx,gy,h1,w2]) ?_|refine wf (by simpa [hix,hiy,gx,gy,h1,w2]) ?_|refine xt (by simpa [hix,hiy,gx,gy,h1,w2]) ?_|refine xf (by simpa [hix,hiy,gx,gy,h1,w2]) ?_|refine wp_bs ?_|refine wp_b ?_|refine wp_sr ?_|refine wp_sx ?_|refine wp_ret' ?_|refine wp_skip' ?_|refine wp_exit' ?_)
          exact .inr ⟨rfl,by simp [h1],rfl⟩
    refine call_of_wp zt237 rfl ?_
    repeat (first|refine wp_as ?_|refine wp_ss ?_|refine wr (by simp [he];with_reducible rfl) ?_|refine wq (by simp [he];with_reducible rfl) ?_|refine wt (by simpa [he]) ?_|refine wf (by simpa [he]) ?_|refine xt (by simpa [he]) ?_|refine xf (by simpa [he]) ?_|refine wp_bs ?_|refine wp_b ?_|refine wp_sr ?_|refine wp_sx ?_|refine wp_ret' ?_|refine wp_skip' ?_|refine wp_exit' ?_)
    refine wp_imp (loop xs.length 0 (by simp)) ?_
    rintro ex st (⟨rfl,h5,rfl⟩ | ⟨rfl,h5,rfl⟩)
    · simp only [if_true]
      repeat (first|refine wp_as ?_|refine wp_ss ?_|refine wr (by simp;with_reducible rfl) ?_|refine wq (by simp;with_reducible rfl) ?_|refine wt (by simpa) ?_|refine wf (by simpa) ?_|refine xt (by simpa) ?_|refine xf (by simpa) ?_|refine wp_bs ?_|refine wp_b ?_|refine wp_sr ?_|refine wp_sx ?_|refine wp_ret' ?_|refine wp_skip' ?_|refine wp_exit' ?_)
      simp only [List.drop_zero] at h5
      simp [zi237,h5]
    · simp only [List.drop_zero] at h5
      simp [zi237,h5]
  · have h5:xs ≠ ys:=fun h=>he (by rw [h])
    have he':((xs.length:Int) != ys.length)=true:=by simp;omega
    refine call_of_wp zt237 rfl ?_
    repeat (first|refine wp_as ?_|refine wp_ss ?_|refine wr (by simp [he,he'];with_reducible rfl) ?_|refine wq (by simp [he,he'];with_reducible rfl) ?_|refine wt (by simpa [he,he']) ?_|refine wf (by simpa [he,he']) ?_|refine xt (by simpa [he,he']) ?_|refine xf (by simpa [he,he']) ?_|refine wp_bs ?_|refine wp_b ?_|refine wp_sr ?_|refine wp_sx ?_|refine wp_ret' ?_|refine wp_skip' ?_|refine wp_exit' ?_)
    simp [zi237,h5]
theorem ev_equalEdges (xs ys:List (Int×Int)) (x y:IV) (hx:VE xs x) (hy:VE ys y) (hl:xs.length≤1000000) (hm:ys.length≤1000000):Ev tb zl237 [] [x,y] [] ⟨Bo (decide (xs=ys)),[],[],[]⟩:=by
  rcases hx with ⟨c,rfl⟩ | ⟨rfl,rfl⟩
  · rcases hy with ⟨d,rfl⟩ | ⟨rfl,rfl⟩
    · exact ev_equalEdges_L xs ys c d hl hm
    · cases xs with
      | nil =>
        refine call_of_wp zt237 rfl ?_
        repeat (first|refine wp_as ?_|refine wp_ss ?_|refine wr (by simp;with_reducible rfl) ?_|refine wq (by simp;with_reducible rfl) ?_|refine wt (by simpa) ?_|refine wf (by simpa) ?_|refine xt (by simpa) ?_|refine xf (by simpa) ?_|refine wp_bs ?_|refine wp_b ?_|refine wp_sr ?_|refine wp_sx ?_|refine wp_ret' ?_|refine wp_skip' ?_|refine wp_exit' ?_)
        refine wp_loop ?_
        repeat (first|refine wp_as ?_|refine wp_ss ?_|refine wr (by simp;with_reducible rfl) ?_|refine wq (by simp;with_reducible rfl) ?_|refine wt (by simpa) ?_|refine wf (by simpa) ?_|refine xt (by simpa) ?_|refine xf (by simpa) ?_|refine wp_bs ?_|refine wp_b ?_|refine wp_sr ?_|refine wp_sx ?_|refine wp_ret' ?_|refine wp_skip' ?_|refine wp_exit' ?_)
        simp [zi237]
      | cons a xs =>
        have h0:¬ (xs.length:Int)+1=0:=by omega
        refine call_of_wp zt237 rfl ?_
        repeat (first|refine wp_as ?_|refine wp_ss ?_|refine wr (by simp [h0];with_reducible rfl) ?_|refine wq (by simp [h0];with_reducible rfl) ?_|refine wt (by simpa [h0]) ?_|refine wf (by simpa [h0]) ?_|refine xt (by simpa [h0]) ?_|refine xf (by simpa [h0]) ?_|refine wp_bs ?_|refine wp_b ?_|refine wp_sr ?_|refine wp_sx ?_|refine wp_ret' ?_|refine wp_skip' ?_|refine wp_exit' ?_)
        simp [zi237]
  · rcases hy with ⟨d,rfl⟩ | ⟨rfl,rfl⟩
    · cases ys with
      | nil =>
        refine call_of_wp zt237 rfl ?_
        repeat (first|refine wp_as ?_|refine wp_ss ?_|refine wr (by simp;with_reducible rfl) ?_|refine wq (by simp;with_reducible rfl) ?_|refine wt (by simpa) ?_|refine wf (by simpa) ?_|refine xt (by simpa) ?_|refine xf (by simpa) ?_|refine wp_bs ?_|refine wp_b ?_|refine wp_sr ?_|refine wp_sx ?_|refine wp_ret' ?_|refine wp_skip' ?_|refine wp_exit' ?_)
        refine wp_loop ?_
        repeat (first|refine wp_as ?_|refine wp_ss ?_|refine wr (by simp;with_reducible rfl) ?_|refine wq (by simp;with_reducible rfl) ?_|refine wt (by simpa) ?_|refine wf (by simpa) ?_|refine xt (by simpa) ?_|refine xf (by simpa) ?_|refine wp_bs ?_|refine wp_b ?_|refine wp_sr ?_|refine wp_sx ?_|refine wp_ret' ?_|refine wp_skip' ?_|refine wp_exit' ?_)
        simp [zi237]
      | cons a ys =>
        have h0:¬ (0:Int)=(ys.length:Int)+1:=by omega
        refine call_of_wp zt237 rfl ?_
        repeat (first|refine wp_as ?_|refine wp_ss ?_|refine wr (by simp [h0];with_reducible rfl) ?_|refine wq (by simp [h0];with_reducible rfl) ?_|refine wt (by simpa [h0]) ?_|refine wf (by simpa [h0]) ?_|refine xt (by simpa [h0]) ?_|refine xf (by simpa [h0]) ?_|refine wp_bs ?_|refine wp_b ?_|refine wp_sr ?_|refine wp_sx ?_|refine wp_ret' ?_|refine wp_skip' ?_|refine wp_exit' ?_)
        simp [zi237]
    · refine call_of_wp zt237 rfl ?_
      repeat (first|refine wp_as ?_|refine wp_ss ?_|refine wr (by simp;with_reducible rfl) ?_|refine wq (by simp;with_reducible rfl) ?_|refine wt (by simpa) ?_|refine wf (by simpa) ?_|refine xt (by simpa) ?_|refine xf (by simpa) ?_|refine wp_bs ?_|refine wp_b ?_|refine wp_sr ?_|refine wp_sx ?_|refine wp_ret' ?_|refine wp_skip' ?_|refine wp_exit' ?_)
      refine wp_loop ?_
      repeat (first|refine wp_as ?_|refine wp_ss ?_|refine wr (by simp;with_reducible rfl) ?_|refine wq (by simp;with_reducible rfl) ?_|refine wt (by simpa) ?_|refine wf (by simpa) ?_|refine xt (by simpa) ?_|refine xf (by simpa) ?_|refine wp_bs ?_|refine wp_b ?_|refine wp_sr ?_|refine wp_sx ?_|refine wp_ret' ?_|refine wp_skip' ?_|refine wp_exit' ?_)
      simp [zi237]
theorem ev_equalGraph (n m:Int) (xs ys:List (Int×Int)) (x y:IV) (hx:VE xs x) (hy:VE ys y) (hl:xs.length≤1000000) (hm:ys.length≤1000000):Ev tb zl238 [] [.agg [I n,x],.agg [I m,y]] [] ⟨Bo (decide (n=m) && decide (xs=ys)),[],[],[]⟩:=by
  have e1:=ev_lim (ev_equalEdges xs ys x y hx hy hl hm)
  by_cases hnm:n=m
  · subst hnm
    rcases hx with ⟨c,rfl⟩ | ⟨rfl,rfl⟩
    · rcases hy with ⟨d,rfl⟩ | ⟨rfl,rfl⟩
      · refine call_of_wp zt238 rfl ?_
        repeat (first|refine wp_as ?_|refine wp_ss ?_|refine wr (by simp [e1];with_reducible rfl) ?_|refine wq (by simp [e1];with_reducible rfl) ?_|refine wt (by simpa [e1]) ?_|refine wf (by simpa [e1]) ?_|refine xt (by simpa [e1]) ?_|refine xf (by simpa [e1]) ?_|refine wp_bs ?_|refine wp_b ?_|refine wp_sr ?_|refine wp_sx ?_|refine wp_ret' ?_|refine wp_skip' ?_|refine wp_exit' ?_)
        simp [zi238]
      · refine call_of_wp zt238 rfl ?_
        repeat (first|refine wp_as ?_|refine wp_ss ?_|refine wr (by simp [e1];with_reducible rfl) ?_|refine wq (by simp [e1];with_reducible rfl) ?_|refine wt (by simpa [e1]) ?_|refine wf (by simpa [e1]) ?_|refine xt (by simpa [e1]) ?_|refine xf (by simpa [e1]) ?_|refine wp_bs ?_|refine wp_b ?_|refine wp_sr ?_|refine wp_sx ?_|refine wp_ret' ?_|refine wp_skip' ?_|refine wp_exit' ?_)
        simp [zi238]
    · rcases hy with ⟨d,rfl⟩ | ⟨rfl,rfl⟩
      · refine call_of_wp zt238 rfl ?_
        repeat (first|refine wp_as ?_|refine wp_ss ?_|refine wr (by simp [e1];with_reducible rfl) ?_|refine wq (by simp [e1];with_reducible rfl) ?_|refine wt (by simpa [e1]) ?_|refine wf (by simpa [e1]) ?_|refine xt (by simpa [e1]) ?_|refine xf (by simpa [e1]) ?_|refine wp_bs ?_|refine wp_b ?_|refine wp_sr ?_|refine wp_sx ?_|refine wp_ret' ?_|refine wp_skip' ?_|refine wp_exit' ?_)
        simp [zi238]
      · refine call_of_wp zt238 rfl ?_
        repeat (first|refine wp_as ?_|refine wp_ss ?_|refine wr (by simp [e1];with_reducible rfl) ?_|refine wq (by simp [e1];with_reducible rfl) ?_|refine wt (by simpa [e1]) ?_|refine wf (by simpa [e1]) ?_|refine xt (by simpa [e1]) ?_|refine xf (by simpa [e1]) ?_|refine wp_bs ?_|refine wp_b ?_|refine wp_sr ?_|refine wp_sx ?_|refine wp_ret' ?_|refine wp_skip' ?_|refine wp_exit' ?_)
        simp [zi238]
  · rcases hx with ⟨c,rfl⟩ | ⟨rfl,rfl⟩
    · rcases hy with ⟨d,rfl⟩ | ⟨rfl,rfl⟩
      · refine call_of_wp zt238 rfl ?_
        repeat (first|refine wp_as ?_|refine wp_ss ?_|refine wr (by simp [hnm];with_reducible rfl) ?_|refine wq (by simp [hnm];with_reducible rfl) ?_|refine wt (by simpa [hnm]) ?_|refine wf (by simpa [hnm]) ?_|refine xt (by simpa [hnm]) ?_|refine xf (by simpa [hnm]) ?_|refine wp_bs ?_|refine wp_b ?_|refine wp_sr ?_|refine wp_sx ?_|refine wp_ret' ?_|refine wp_skip' ?_|refine wp_exit' ?_)
        simp [zi238,hnm]
      · refine call_of_wp zt238 rfl ?_
        repeat (first|refine wp_as ?_|refine wp_ss ?_|refine wr (by simp [hnm];with_reducible rfl) ?_|refine wq (by simp [hnm];with_reducible rfl) ?_|refine wt (by simpa [hnm]) ?_|refine wf (by simpa [hnm]) ?_|refine xt (by simpa [hnm]) ?_|refine xf (by simpa [hnm]) ?_|refine wp_bs ?_|refine wp_b ?_|refine wp_sr ?_|refine wp_sx ?_|refine wp_ret' ?_|refine wp_skip' ?_|refine wp_exit' ?_)
        simp [zi238,hnm]
    · rcases hy with ⟨d,rfl⟩ | ⟨rfl,rfl⟩
      · refine call_of_wp zt238 rfl ?_
        repeat (first|refine wp_as ?_|refine wp_ss ?_|refine wr (by simp [hnm];with_reducible rfl) ?_|refine wq (by simp [hnm];with_reducible rfl) ?_|refine wt (by simpa [hnm]) ?_|refine wf (by simpa [hnm]) ?_|refine xt (by simpa [hnm]) ?_|refine xf (by simpa [hnm]) ?_|refine wp_bs ?_|refine wp_b ?_|refine wp_sr ?_|refine wp_sx ?_|refine wp_ret' ?_|refine wp_skip' ?_|refine wp_exit' ?_)
        simp [zi238,hnm]
      · refine call_of_wp zt238 rfl ?_
        repeat (first|refine wp_as ?_|refine wp_ss ?_|refine wr (by simp [hnm];with_reducible rfl) ?_|refine wq (by simp [hnm];with_reducible rfl) ?_|refine wt (by simpa [hnm]) ?_|refine wf (by simpa [hnm]) ?_|refine xt (by simpa [hnm]) ?_|refine xf (by simpa [hnm]) ?_|refine wp_bs ?_|refine wp_b ?_|refine wp_sr ?_|refine wp_sx ?_|refine wp_ret' ?_|refine wp_skip' ?_|refine wp_exit' ?_)
        simp [zi238,hnm]
end Go.Idl
namespace Go.Idl
theorem insE_pw {e:Int×Int}:∀ {es:List (Int×Int)},PW es→e ∉ es→PW (insE e es)
  | [],_,_=>by simp [insE,PW]
  | x::r,h,hn=>by
    have h':=List.pairwise_cons.1 h
    rw [insE]
    split
    · rename_i hx
      refine List.pairwise_cons.2 ⟨fun y hy=>?_,insE_pw h'.2 fun hm=>hn (by simp [hm])⟩
      rcases (insE_mem _ _ _).1 hy with rfl | hy
      · exact hx
      · exact h'.1 y hy
    · rename_i hx
      have hxe:below e x=true:=by
        rcases below_total (a:=e) (b:=x) (fun h=>hn (by simp [h])) with q | q
        · exact q
        · exact absurd q hx
      refine List.pairwise_cons.2 ⟨fun y hy=>?_,h⟩
      rcases List.mem_cons.1 hy with rfl | hy
      · exact hxe
      · exact below_trans hxe (h'.1 y hy)
end Go.Idl
namespace Go.Idl
def hv:Nat→List Int→Bool
  | 0,_=>true
  | _+1,[]=>true
  | m+1,x::r=>decide (x≤r.length) && (r.take x.toNat).all (fun y=>!decide (y=0)) && hv m (fall ((r.take x.toNat).map (fun y=>y - 1)++r.drop x.toNat))
end Go.Idl
namespace Go.Idl
theorem len_sub {α:Type} [DecidableEq α]:∀ {l k:List α},l.Nodup→(∀ x ∈ l,x ∈ k)→l.length≤k.length
  | [],_,_,_=>by simp
  | a::l,k,hn,hs=>by
    have hn':=List.nodup_cons.1 hn
    have h1:=len_sub (l:=l) (k:=k.erase a) hn'.2 (fun x hx=>(List.mem_erase_of_ne (fun h=>hn'.1 (by rw [← h];exact hx))).2 (hs x (by simp [hx])))
    have h2:=List.length_erase_of_mem (hs a (by simp))
    have h3:0 < k.length:=List.length_pos_of_mem (hs a (by simp))
    simp only [List.length_cons];omega
end Go.Idl
namespace Go.Idl
theorem S_zero_iff {α:Type}:∀ {l:List α} {f:α→Int},(∀ a ∈ l,0≤f a)→(S l f=0 ↔ ∀ a ∈ l,f a=0)
  | [],f,_=>by simp [S]
  | a::l,f,h=>by
    have h1:=h a (by simp)
    have h2:0≤S l f:=S_nonneg fun b hb=>h b (by simp [hb])
    have h3:=S_zero_iff (l:=l) (f:=f) fun b hb=>h b (by simp [hb])
    rw [S_cons,List.forall_mem_cons,← h3]
    omega
end Go.Idl
namespace Go.Idl
def Cl (es:List (Int×Int)) (p:Nat→Bool):Prop:=∀ e ∈ es,p e.1.toNat=p e.2.toNat
def Con (n:Nat) (es:List (Int×Int)):Prop:=∀ p,Cl es p→∀ u v,u < n→v < n→p u=p v
theorem countP_lt {α:Type} {p q:α→Bool}:∀ {l:List α},(∀ a ∈ l,p a=true→q a=true)→(∃ a ∈ l,p a=false∧q a=true)→l.countP p < l.countP q
  | [],_,⟨a,h,_⟩=>by cases h
  | b::l,hi,⟨a,ha,h1,h2⟩=>by
    rw [List.countP_cons,List.countP_cons]
    have hle:l.countP p≤l.countP q:=List.countP_mono_left fun x hx=>hi x (by simp [hx])
    by_cases hab:a=b
    · subst hab
      rw [h1,h2];simp;omega
    · have ha2:a ∈ l:=by
        rcases List.mem_cons.1 ha with h | h
        · exact absurd h hab
        · exact h
      have:=countP_lt (l:=l) (fun x hx=>hi x (by simp [hx])) ⟨a,ha2,h1,h2⟩
      have hb:=hi b (by simp)
      cases hp:p b with
      | false=>cases q b <;> simp <;> omega
      | true=>rw [hb hp];simp;omega
theorem countP_or_le {α:Type} (p q:α→Bool):∀ l:List α,(l.countP fun a=>p a || q a)≤l.countP p+l.countP q
  | []=>by simp
  | a::l=>by
    have:=countP_or_le p q l
    rw [List.countP_cons,List.countP_cons,List.countP_cons]
    cases p a <;> cases q a <;> simp <;> omega
theorem S_countP' {α:Type} (p:α→Bool):∀ l:List α,S l (fun a=>if p a=true then 1 else 0)=(l.countP p:Int)
  | []=>rfl
  | a::l=>by rw [S_cons,S_countP' p l,List.countP_cons];split <;> simp_all <;> omega
theorem countP_eq_le (n w:Nat):(List.range n).countP (fun v=>decide (v=w))≤1:=by
  have h1:=S_countP' (fun v=>decide (v=w)) (List.range n)
  have h2:=S_one (List.nodup_range (n:=n)) w
  have h3:S (List.range n) (fun a=>if decide (a=w)=true then (1:Int) else 0)=S (List.range n) (fun a=>if w=a then 1 else 0):=S_congr fun a _=>ite_iff (by simp [eq_comm]) _ _
  rw [h3,h2] at h1
  split at h1 <;> omega
theorem grow {n:Nat} {es:List (Int×Int)} (hC:Con n es) (hes:∀ e ∈ es,e.1.toNat < n∧e.2.toNat < n) (Z:Nat→Nat→Bool) (h0:∃ v,v < n∧Z 0 v=true) (hm:∀ k v,Z k v=true→Z (k+1) v=true)
    (he:∀ k,∀ e ∈ es,(Z k e.1.toNat=true ∨ Z k e.2.toNat=true)→Z (k+1) e.1.toNat=true∧Z (k+1) e.2.toNat=true):∀ k,min (k+1) n≤(List.range n).countP (Z k)∧∃ v,v < n∧Z k v=true
  | 0=>by
    obtain ⟨v,hv,hz⟩:=h0
    have:0 < (List.range n).countP (Z 0):=List.countP_pos_iff.2 ⟨v,List.mem_range.2 hv,hz⟩
    exact ⟨by omega,v,hv,hz⟩
  | k+1=>by
    obtain ⟨ih,v,hv,hz⟩:=grow hC hes Z h0 hm he k
    refine ⟨?_,v,hv,hm k v hz⟩
    have hle:(List.range n).countP (Z k)≤(List.range n).countP (Z (k+1)):=List.countP_mono_left fun x _=>hm k x
    by_cases hall:∀ u,u < n→Z k u=true
    · have:(List.range n).countP (Z k)=(List.range n).length:=List.countP_eq_length.2 fun a ha=>hall a (List.mem_range.1 ha)
      simp at this
      omega
    · simp only [Classical.not_forall] at hall
      obtain ⟨u,hu,hzu⟩:=hall
      have hncl:¬ Cl es (Z k):=fun hc=>hzu (by rw [hC _ hc u v hu hv];exact hz)
      simp only [Cl,Classical.not_forall] at hncl
      obtain ⟨e,hee,hne⟩:=hncl
      have hlt:(List.range n).countP (Z k) < (List.range n).countP (Z (k+1)):=by
        have hb:=hes e hee
        refine countP_lt (fun x _=>hm k x) ?_
        cases h1:Z k e.1.toNat with
        | true =>
          have h2:Z k e.2.toNat=false:=by
            cases h2:Z k e.2.toNat with
            | false=>rfl
            | true=>rw [h1,h2] at hne;exact absurd rfl hne
          exact ⟨_,List.mem_range.2 hb.2,h2,(he k e hee (.inl h1)).2⟩
        | false =>
          have h2:Z k e.2.toNat=true:=by
            cases h2:Z k e.2.toNat with
            | true=>rfl
            | false=>rw [h1,h2] at hne;exact absurd rfl hne
          exact ⟨_,List.mem_range.2 hb.1,h1,(he k e hee (.inr h2)).1⟩
      omega
theorem grow_all {n:Nat} {es:List (Int×Int)} (hC:Con n es) (hes:∀ e ∈ es,e.1.toNat < n∧e.2.toNat < n) (Z:Nat→Nat→Bool) (h0:∃ v,v < n∧Z 0 v=true) (hm:∀ k v,Z k v=true→Z (k+1) v=true)
    (he:∀ k,∀ e ∈ es,(Z k e.1.toNat=true ∨ Z k e.2.toNat=true)→Z (k+1) e.1.toNat=true∧Z (k+1) e.2.toNat=true):∀ v,v < n→Z n v=true:=fun v hv=>by
  have h1:=(grow hC hes Z h0 hm he n).1
  have h2:(List.range n).countP (Z n)≤(List.range n).length:=List.countP_le_length
  simp at h2
  have h3:(List.range n).countP (Z n)=(List.range n).length:=by simp;omega
  exact List.countP_eq_length.1 h3 v (List.mem_range.2 hv)
theorem rnds_succ (es:List (Int×Int)):∀ (k:Nat) (o:List Int),rnds es (k+1) o=es.foldl relax (rnds es k o)
  | 0,_=>rfl
  | k+1,o=>by rw [rnds,rnds_succ es k,rnds]
theorem relax_get {o:List Int} {e:Int×Int} (h1:e.1.toNat < o.length) (h2:e.2.toNat < o.length) (v:Nat) :
    (relax o e).getD v 0=if v=e.1.toNat ∨ v=e.2.toNat then min (o.getD e.1.toNat 0) (o.getD e.2.toNat 0) else o.getD v 0:=by
  rw [relax,List.getD_eq_getElem?_getD,List.getElem?_set,List.getElem?_set]
  by_cases k2:v=e.2.toNat
  · subst k2
    simp [h2]
  · by_cases k1:v=e.1.toNat
    · subst k1
      simp [h1,Ne.symm k2]
    · simp [k1,k2,Ne.symm k1,Ne.symm k2]
def RInv (n:Nat) (p:Nat→Bool) (o:List Int):Prop:=o.length=n∧∀ v,v < n→0≤o.getD v 0∧o.getD v 0≤v∧p (o.getD v 0).toNat=p v
theorem relax_inv {n:Nat} {p:Nat→Bool} {o:List Int} {e:Int×Int} (h1:e.1.toNat < n) (h2:e.2.toNat < n) (hp:p e.1.toNat=p e.2.toNat) (h:RInv n p o):RInv n p (relax o e):=by
  refine ⟨by rw [relax_len];exact h.1,fun v hv=>?_⟩
  rw [relax_get (by rw [h.1];exact h1) (by rw [h.1];exact h2)]
  have a:=h.2 _ h1
  have b:=h.2 _ h2
  split
  · rename_i hq
    have hpm:p (min (o.getD e.1.toNat 0) (o.getD e.2.toNat 0)).toNat=p v:=by
      have hpv:p v=p e.1.toNat:=by
        rcases hq with rfl | rfl
        · rfl
        · exact hp.symm
      rcases Int.le_total (o.getD e.1.toNat 0) (o.getD e.2.toNat 0) with hl | hl
      · rw [Int.min_eq_left hl,a.2.2,hpv]
      · rw [Int.min_eq_right hl,b.2.2,hpv,hp]
    refine ⟨by omega,?_,hpm⟩
    rcases hq with rfl | rfl <;> omega
  · exact h.2 v hv
theorem fold_inv {n:Nat} {p:Nat→Bool}:∀ (es:List (Int×Int)) {o:List Int},(∀ e ∈ es,e.1.toNat < n∧e.2.toNat < n)→Cl es p→RInv n p o→RInv n p (es.foldl relax o)
  | [],_,_,_,h=>h
  | e::es,_,he,hc,h=>fold_inv es (fun x hx=>he x (by simp [hx])) (fun x hx=>hc x (by simp [hx])) (relax_inv (he e (by simp)).1 (he e (by simp)).2 (hc e (by simp)) h)
theorem rnds_inv {n:Nat} {p:Nat→Bool} {es:List (Int×Int)} (he:∀ e ∈ es,e.1.toNat < n∧e.2.toNat < n) (hc:Cl es p):∀ (k:Nat) {o:List Int},RInv n p o→RInv n p (rnds es k o)
  | 0,_,h=>h
  | k+1,_,h=>rnds_inv he hc k (fold_inv es he hc h)
theorem base_inv (n:Nat) (p:Nat→Bool):RInv n p (idxB n (-1)):=by
  have hg:∀ v,v < n→(idxB n (-1)).getD v 0=(v:Int):=fun v hv=>by
    rw [idxB_all,List.getD_eq_getElem?_getD,List.getElem?_map,List.getElem?_range hv];rfl
  refine ⟨by rw [idxB_all];simp,fun v hv=>?_⟩
  rw [hg v hv]
  exact ⟨by omega,by omega,by rw [Int.toNat_natCast]⟩
theorem fold_zero {n:Nat}:∀ (es:List (Int×Int)) {o:List Int} {v:Nat},(∀ e ∈ es,e.1.toNat < n∧e.2.toNat < n)→RInv n (fun _=>true) o→v < n→o.getD v 0=0→(es.foldl relax o).getD v 0=0
  | [],_,_,_,_,_,h=>h
  | e::es,o,v,he,hi,hv,h=>by
    have hb:=he e (by simp)
    have hi2:=relax_inv hb.1 hb.2 rfl hi
    refine fold_zero es (fun x hx=>he x (by simp [hx])) hi2 hv ?_
    rw [relax_get (by rw [hi.1];exact hb.1) (by rw [hi.1];exact hb.2)]
    have a:=hi.2 _ hb.1
    have b:=hi.2 _ hb.2
    split
    · rename_i hq
      rcases hq with rfl | rfl <;> omega
    · exact h
theorem fold_edge {n:Nat}:∀ (es:List (Int×Int)) {o:List Int},(∀ e ∈ es,e.1.toNat < n∧e.2.toNat < n)→RInv n (fun _=>true) o→∀ e ∈ es,(o.getD e.1.toNat 0=0 ∨ o.getD e.2.toNat 0=0) →
    (es.foldl relax o).getD e.1.toNat 0=0∧(es.foldl relax o).getD e.2.toNat 0=0
  | [],_,_,_,_,h,_=>by cases h
  | f::es,o,he,hi,e,hm,h=>by
    have hb:=he f (by simp)
    have hbe:=he e hm
    have he':∀ e ∈ es,e.1.toNat < n∧e.2.toNat < n:=fun x hx=>he x (by simp [hx])
    have hi2:=relax_inv hb.1 hb.2 rfl hi
    have a:=hi.2 _ hb.1
    have b:=hi.2 _ hb.2
    have rg:=fun v=>relax_get (o:=o) (e:=f) (by rw [hi.1];exact hb.1) (by rw [hi.1];exact hb.2) v
    rcases List.mem_cons.1 hm with rfl | hm2
    · refine ⟨fold_zero es he' hi2 hb.1 ?_,fold_zero es he' hi2 hb.2 ?_⟩
      · rw [rg,if_pos (.inl rfl)];omega
      · rw [rg,if_pos (.inr rfl)];omega
    · refine fold_edge es he' hi2 e hm2 ?_
      rcases h with h | h
      · left
        rw [rg]
        split
        · rename_i hq
          rcases hq with hq | hq <;> rw [hq] at h <;> omega
        · exact h
      · right
        rw [rg]
        split
        · rename_i hq
          rcases hq with hq | hq <;> rw [hq] at h <;> omega
        · exact h
theorem con_zero {n:Nat} (hn1:1≤n) {es:List (Int×Int)} (hes:∀ e ∈ es,e.1.toNat < n∧e.2.toNat < n) (hC:Con n es):∀ v,v < n→(rnds es n (idxB n (-1))).getD v 0=0:=by
  have hi:∀ k,RInv n (fun _=>true) (rnds es k (idxB n (-1))):=fun k=>rnds_inv hes (fun _ _=>rfl) k (base_inv n _)
  have hb:=base_inv n (fun _=>true)
  have hA:∀ v,v < n→(fun (k v:Nat)=>decide (v < n) && decide ((rnds es k (idxB n (-1))).getD v 0=0)) n v=true:=by
    refine grow_all hC hes (fun k v=>decide (v < n) && decide ((rnds es k (idxB n (-1))).getD v 0=0)) ⟨0,by omega,?_⟩ (fun k v h=>?_) (fun k e he h=>?_)
    · have hz:=hb.2 0 (by omega)
      have hz2:(idxB n (-1)).getD 0 0=0:=by
        have h1:=hz.1
        have h2:=hz.2.1
        omega
      show (decide (0 < n) && decide ((idxB n (-1)).getD 0 0=0))=true
      rw [decide_eq_true (show 0 < n by omega),decide_eq_true hz2];rfl
    · simp only [Bool.and_eq_true,decide_eq_true_eq] at h ⊢
      rw [rnds_succ]
      exact ⟨h.1,fold_zero es hes (hi k) h.1 h.2⟩
    · have hbe:=hes e he
      simp only [Bool.and_eq_true,decide_eq_true_eq] at h ⊢
      rw [rnds_succ]
      have:=fold_edge es hes (hi k) e he (h.elim (fun h=>.inl h.2) (fun h=>.inr h.2))
      exact ⟨⟨hbe.1,this.1⟩,⟨hbe.2,this.2⟩⟩
  intro v hv
  have:=hA v hv
  simp only [Bool.and_eq_true,decide_eq_true_eq] at this
  exact this.2
theorem compI_len (n:Nat) (es:List (Int×Int)):(compI n es).length=((rgF n 0).filter (isR (rnds es n (idxB n (-1))))).length:=by rw [compI,partsF,List.length_map]
theorem one_zero {n:Nat} (hn1:1≤n) (p:Int→Bool) (h0:p 0=true) (h:∀ v:Nat,v < n→1≤v→p v=false):((rgF n 0).filter p).length=1:=by
  rw [rgF_cons (show 0 < n by omega),show ((0:Nat):Int)=0 from rfl,List.filter_cons_of_pos h0,List.filter_eq_nil_iff.2 fun x hx=>?_]
  · rfl
  · have hb:=mem_rgF.1 hx
    obtain ⟨k,rfl⟩:=Int.eq_ofNat_of_zero_le (show 0≤x by omega)
    rw [h k (by omega) (by omega)];simp
theorem two_more {n:Nat} (p:Int→Bool) {a b:Nat} (ha:a < n) (hb:b < n) (hab:a ≠ b) (pa:p a=true) (pb:p b=true):2≤((rgF n 0).filter p).length:=by
  have:[(a:Int),(b:Int)].length≤((rgF n 0).filter p).length:=len_sub (by simp;omega) fun x hx=>by
    simp only [List.mem_cons,List.not_mem_nil,or_false] at hx
    rcases hx with rfl | rfl
    · exact List.mem_filter.2 ⟨mem_rgF.2 (by omega),pa⟩
    · exact List.mem_filter.2 ⟨mem_rgF.2 (by omega),pb⟩
  simpa using this
theorem least_of {n:Nat} {p:Nat→Bool} {b:Bool} {v:Nat} (hv:v < n) (h:p v=b):∃ r,r < n∧p r=b∧∀ u,u < r→p u ≠ b:=by
  induction v using Nat.strongRecOn with
  | _ v ih =>
    by_cases hq:∃ u,u < v∧p u=b
    · obtain ⟨u,hu,hpu⟩:=hq
      exact ih u hu (by omega) hpu
    · exact ⟨v,hv,h,fun u hu hpu=>hq ⟨u,hu,hpu⟩⟩
theorem not_con {n:Nat} {es:List (Int×Int)} (h:¬ Con n es):∃ p a b,Cl es p∧a < n∧b < n∧p a=true∧p b=false∧(∀ u,u < a→p u ≠ true)∧∀ u,u < b→p u ≠ false:=by
  simp only [Con,Classical.not_forall] at h
  obtain ⟨p,hc,u,v,hu,hv,hne⟩:=h
  have ht:∃ x,x < n∧p x=true:=by
    cases h1:p u with
    | true=>exact ⟨u,hu,h1⟩
    | false =>
      cases h2:p v with
      | true=>exact ⟨v,hv,h2⟩
      | false=>rw [h1,h2] at hne;exact absurd rfl hne
  have hf:∃ x,x < n∧p x=false:=by
    cases h1:p u with
    | false=>exact ⟨u,hu,h1⟩
    | true =>
      cases h2:p v with
      | false=>exact ⟨v,hv,h2⟩
      | true=>rw [h1,h2] at hne;exact absurd rfl hne
  obtain ⟨x,hx,hpx⟩:=ht
  obtain ⟨y,hy,hpy⟩:=hf
  obtain ⟨a,a1,a2,a3⟩:=least_of hx hpx
  obtain ⟨b,b1,b2,b3⟩:=least_of hy hpy
  exact ⟨p,a,b,hc,a1,b1,a2,b2,a3,b3⟩
theorem compI_one {n:Nat} (hn1:1≤n) {es:List (Int×Int)} (hes:∀ e ∈ es,e.1.toNat < n∧e.2.toNat < n):(compI n es).length=1 ↔ Con n es:=by
  rw [compI_len]
  constructor
  · intro h1
    refine Classical.byContradiction fun hC=>?_
    obtain ⟨p,a,b,hc,ha,hb,pa,pb,la,lb⟩:=not_con hC
    have hi:=rnds_inv hes hc n (base_inv n p)
    have key:∀ (r:Nat) (x:Bool),r < n→p r=x→(∀ u,u < r→p u ≠ x)→isR (rnds es n (idxB n (-1))) r=true:=fun r x hr hpr hl=>by
      rw [isR,inP,Int.toNat_natCast,decide_eq_true_eq]
      have:=hi.2 r hr
      by_cases hq:(rnds es n (idxB n (-1))).getD r 0=r
      · exact hq
      · exact absurd (this.2.2.trans hpr) (hl _ (by omega))
    have:=two_more (isR (rnds es n (idxB n (-1)))) ha hb (fun h=>by rw [h,pb] at pa;cases pa) (key a true ha pa la) (key b false hb pb lb)
    omega
  · intro hC
    have hz:=con_zero hn1 hes hC
    refine one_zero hn1 _ ?_ fun v hv h1=>?_
    · rw [isR,inP,decide_eq_true_eq];exact hz 0 (by omega)
    · rw [isR,inP,Int.toNat_natCast,hz v hv,decide_eq_false_iff_not];omega
theorem con_edges {n:Nat} {es:List (Int×Int)} (hes:∀ e ∈ es,e.1.toNat < n∧e.2.toNat < n) (hC:Con n es):∀ k,k+1≤n→∃ Z:Nat→Bool,(∃ v,v < n∧Z v=true)∧(List.range n).countP Z≤k+1∧k≤es.countP fun e=>Z e.1.toNat && Z e.2.toNat
  | 0,h=>⟨fun v=>decide (v=0),⟨0,by omega,rfl⟩,countP_eq_le n 0,by omega⟩
  | k+1,h=>by
    obtain ⟨Z,⟨v,hv,hz⟩,hc,hk⟩:=con_edges hes hC k (by omega)
    have hex:∃ u,u < n∧Z u=false:=by
      refine Classical.byContradiction fun hno=>?_
      have:(List.range n).countP Z=(List.range n).length:=List.countP_eq_length.2 fun a ha=>by
        cases hq:Z a with
        | true=>rfl
        | false=>exact absurd ⟨a,List.mem_range.1 ha,hq⟩ hno
      simp at this
      omega
    obtain ⟨u,hu,hzu⟩:=hex
    have hncl:¬ Cl es Z:=fun hcl=>by have:=hC _ hcl u v hu hv;rw [hz,hzu] at this;cases this
    simp only [Cl,Classical.not_forall] at hncl
    obtain ⟨e,hee,hne⟩:=hncl
    have hb:=hes e hee
    have step:∀ w,w < n→Z w=false→(∀ x,(x=e.1.toNat ∨ x=e.2.toNat)→(Z x || decide (x=w))=true)→(Z e.1.toNat && Z e.2.toNat)=false→∃ Z:Nat→Bool,(∃ v,v < n∧Z v=true)∧(List.range n).countP Z≤k+1+1∧k+1≤es.countP fun e=>Z e.1.toNat && Z e.2.toNat:=fun w hw hzw hx hin=>by
      refine ⟨fun x=>Z x || decide (x=w),⟨v,hv,by simp [hz]⟩,?_,?_⟩
      · have h1:=countP_or_le Z (fun x=>decide (x=w)) (List.range n)
        have h2:=countP_eq_le n w
        omega
      · have:=countP_lt (p:=fun e:Int×Int=>Z e.1.toNat && Z e.2.toNat) (q:=fun e:Int×Int=>(Z e.1.toNat || decide (e.1.toNat=w)) && (Z e.2.toNat || decide (e.2.toNat=w))) (l:=es) (fun x _ hx=>by
          simp only [Bool.and_eq_true] at hx ⊢
          simp [hx.1,hx.2]) ⟨e,hee,hin,by rw [hx _ (.inl rfl),hx _ (.inr rfl)];rfl⟩
        show k+1≤es.countP fun e:Int×Int=>(Z e.1.toNat || decide (e.1.toNat=w)) && (Z e.2.toNat || decide (e.2.toNat=w))
        omega
    cases h1:Z e.1.toNat with
    | true =>
      have h2:Z e.2.toNat=false:=by
        cases h2:Z e.2.toNat with
        | false=>rfl
        | true=>rw [h1,h2] at hne;exact absurd rfl hne
      exact step e.2.toNat hb.2 h2 (fun x hx=>by rcases hx with rfl | rfl <;> simp [h1]) (by simp [h2])
    | false =>
      have h2:Z e.2.toNat=true:=by
        cases h2:Z e.2.toNat with
        | true=>rfl
        | false=>rw [h1,h2] at hne;exact absurd rfl hne
      exact step e.1.toNat hb.1 h1 (fun x hx=>by rcases hx with rfl | rfl <;> simp [h2]) (by simp [h1])
theorem con_conn {n:Nat} (hn1:1≤n) {es:List (Int×Int)} (h:vGraph n es=true) (hC:Con n es):conn (degs n es)=true:=by
  have hin:=(vG_iff.1 h).2.1
  have hes:∀ e ∈ es,e.1.toNat < n∧e.2.toNat < n:=fun e he=>by have:=mem_prs.1 (hin e he);omega
  have hdl:(degs n es).length=n:=by rw [degs,dfold_len];simp
  have hE:EdgesIn n es:=fun e he=>by have:=mem_prs.1 (hin e he);omega
  obtain ⟨Z,-,-,hk⟩:=con_edges hes hC (n - 1) (by omega)
  have hle:(es.countP fun e=>Z e.1.toNat && Z e.2.toNat)≤es.length:=List.countP_le_length
  rw [conn,degs_graphic h,degs_sum hin,hdl]
  simp only [Bool.true_and,Bool.and_eq_true,decide_eq_true_eq,Bool.or_eq_true]
  refine ⟨by omega,?_,by omega⟩
  by_cases h1:n=1
  · exact .inl h1
  · refine .inr ?_
    rw [posAll,degs_eq hE,List.all_eq_true]
    intro x hx
    obtain ⟨v,hv,rfl⟩:=List.mem_map.1 hx
    have hv:=List.mem_range.1 hv
    have hnn:∀ e ∈ es,0≤inc v e:=fun e _=>inc_nonneg v e
    have h0:0≤deg es v:=S_nonneg hnn
    by_cases hz:deg es v=0
    · exfalso
      have hz2:=(S_zero_iff hnn).1 hz
      have hcl:Cl es (fun u=>decide (u=v)):=fun e he=>by
        have h1:=hz2 e he
        have hb:=mem_prs.1 (hin e he)
        simp only [inc] at h1
        by_cases k1:e.1=v
        · rw [if_pos k1] at h1;split at h1 <;> omega
        · by_cases k2:e.2=v
          · rw [if_pos k2,if_neg k1] at h1;omega
          · show decide (e.1.toNat=v)=decide (e.2.toNat=v)
            rw [decide_eq_false (by omega),decide_eq_false (by omega)]
      obtain ⟨w,hw,hwv⟩:∃ w,w < n∧w ≠ v:=by
        by_cases hv0:v=0
        · exact ⟨1,by omega,by omega⟩
        · exact ⟨0,by omega,by omega⟩
      have:=hC _ hcl v w hv hw
      simp only [decide_true] at this
      exact hwv (of_decide_eq_true this.symm)
    · simp only [decide_eq_true_eq];omega
end Go.Idl
namespace Go.Idl
open Go
def apart (a b c d:Int):Bool:=decide (a ≠ b) && decide (a ≠ c) && decide (a ≠ d) && decide (b ≠ c) && decide (b ≠ d) && decide (c ≠ d)
def gone (a b c d:Int) (x:Int×Int):Bool:=decide (x=(min a b,max a b)) || decide (x=(min c d,max c d))
end Go.Idl
namespace Go.Idl
open Go
def swX (es:List (Int×Int)) (a b c d:Int):List (Int×Int):=es.filter (fun x=>!gone a b c d x)++[(min a c,max a c),(min b d,max b d)]
def sw (es:List (Int×Int)) (a b c d:Int):List (Int×Int):=srtE (swX es a b c d)
theorem vG21 {n:Nat} (hn:n≤7) {es:List (Int×Int)} (h:vGraph n es=true):es.length≤21:=by
  have h1:=(vG_sub h).length_le
  have h2:∀ n,n≤7→(prs n).length≤21:=by decide +kernel
  have:=h2 _ hn
  omega
end Go.Idl
namespace Go.Idl
open Go
abbrev Q4:=Int×Int×Int×Int
def sws (xs:List Q4):List (List IV):=xs.map fun s=>[I s.1,I s.2.1,I s.2.2.1,I s.2.2.2]
@[simp] theorem sws_len (xs:List Q4):(sws xs).length=xs.length:=by simp [sws]
@[simp] theorem sws_nil:sws []=[]:=rfl
@[simp] theorem sws_take (xs:List Q4) (n:Nat):(sws xs).take n=sws (xs.take n):=by simp [sws,List.map_take]
@[simp] theorem sws_drop (xs:List Q4) (n:Nat):(sws xs).drop n=sws (xs.drop n):=by simp [sws,List.map_drop]
@[simp] theorem sws_one (xs:List Q4) (a b c d:Int):sws xs++[[IV.sc (.int .i64 a),IV.sc (.int .i64 b),IV.sc (.int .i64 c),IV.sc (.int .i64 d)]]=sws (xs++[(a,b,c,d)]):=by simp [sws]
@[simp] theorem sws_get (xs:List Q4) (i:Nat) (h:i < (sws xs).length):(sws xs)[i]=[IV.sc (.int .i64 (xs[i]'(by simpa [sws] using h)).1),IV.sc (.int .i64 (xs[i]'(by simpa [sws] using h)).2.1),IV.sc (.int .i64 (xs[i]'(by simpa [sws] using h)).2.2.1),IV.sc (.int .i64 (xs[i]'(by simpa [sws] using h)).2.2.2)]:=by simp [sws]
@[simp] theorem sws_get? (xs:List Q4) (i:Nat):(sws xs)[i]? = xs[i]?.map fun s=>[IV.sc (.int .i64 s.1),IV.sc (.int .i64 s.2.1),IV.sc (.int .i64 s.2.2.1),IV.sc (.int .i64 s.2.2.2)]:=by simp [sws]
@[simp] theorem sws_all1 (xs:List Q4):((sws xs).all fun x=>x.all IV.plain1)=true:=by
  induction xs with
  | nil=>rfl
  | cons x xs ih=>simp only [sws,List.map_cons,List.all_cons] at *;rw [ih];rfl
@[simp] theorem sws_all2 (xs:List Q4):((sws xs).all fun x=>x.all IV.isData)=true:=by
  induction xs with
  | nil=>rfl
  | cons x xs ih=>simp only [sws,List.map_cons,List.all_cons] at *;rw [ih];rfl
@[simp] theorem sws_noLst (xs:List Q4):noLstLL (sws xs)=true:=by
  induction xs with
  | nil=>rfl
  | cons x xs ih=>simp only [sws,List.map_cons,noLstLL,noLstL,noLstV] at *;rw [ih];rfl
@[simp] theorem frz_sws (xs:List Q4):frzLL (sws xs)=sws xs:=by
  induction xs with
  | nil=>rfl
  | cons x xs ih=>simp only [sws,List.map_cons,frzLL,frzL,frzV] at *;rw [ih]
end Go.Idl
namespace Go.Idl
theorem inc_mm (v:Nat) (a c:Int):inc v (min a c,max a c)=(if a=v then 1 else 0)+(if c=v then 1 else 0):=by
  rcases Int.le_total a c with h | h
  · rw [inc,Int.min_eq_left h,Int.max_eq_right h]
  · rw [inc,Int.min_eq_right h,Int.max_eq_left h,Int.add_comm]
end Go.Idl
namespace Go.Idl
def tcP (v:Nat) (e:Int×Int):Bool:=decide (e.1=(v:Int)) || decide (e.2=(v:Int))
def lf (N:Nat) (es:List (Int×Int)):Option Nat:=(List.range N).find? fun v=>decide (deg es v=1)
def tcE (N:Nat):Nat→List (Int×Int)→List Int
  | 0,_=>[]
  | m+1,es=>if es.length≤1 then [] else match lf N es with
    | none=>[]
    | some v=>match es.find? (tcP v) with
      | none=>[]
      | some e=>(e.1+e.2 - v)::tcE N m (es.filter fun x=>!decide (x=e))
def dcE (N:Nat):List Int→List Int→List (Int×Int)
  | [],gone=>[(min ((lasts N gone).getD 0 0) ((lasts N gone).getD 1 0),max ((lasts N gone).getD 0 0) ((lasts N gone).getD 1 0))]
  | x::r,gone=>(min (freeV (x::r) gone N 0:Int) x,max (freeV (x::r) gone N 0:Int) x)::dcE N r (gone++[(freeV (x::r) gone N 0:Int)])
structure Tre (N:Nat) (gone:List Int) (es:List (Int×Int)):Prop where
  nd:es.Nodup
  inn:∀ e ∈ es,e ∈ prs N∧e.1 ∉ gone∧e.2 ∉ gone
  con:∀ p:Nat→Bool,Cl es p→∀ u v,u < N→v < N→(u:Int) ∉ gone→(v:Int) ∉ gone→p u=p v
  gn:gone.Nodup
  gi:∀ x ∈ gone,0≤x∧x < N
  len:es.length+gone.length+1=N
theorem inc_nn (v:Nat) (e:Int×Int):0≤inc v e:=by simp only [inc];split <;> split <;> decide
theorem inc_has {v:Nat} {e:Int×Int} (h:tcP v e=true):1≤inc v e:=by
  simp only [tcP,Bool.or_eq_true,decide_eq_true_eq] at h
  simp only [inc]
  rcases h with h | h <;> rw [if_pos h] <;> split <;> decide
theorem inc_no {v:Nat} {e:Int×Int} (h:tcP v e=false):inc v e=0:=by
  simp only [tcP,Bool.or_eq_false_iff,decide_eq_false_iff_not] at h
  simp only [inc]
  rw [if_neg h.1,if_neg h.2];rfl
theorem deg_nn (es:List (Int×Int)) (v:Nat):0≤deg es v:=S_nonneg fun e _=>inc_nn v e
theorem deg_has {es:List (Int×Int)} {v:Nat} {e:Int×Int} (he:e ∈ es) (h:tcP v e=true):1≤deg es v:=by
  have h1:=S_sublist (List.singleton_sublist.2 he) (f:=inc v) (fun a _=>inc_nn v a)
  simp only [S_cons,S_nil] at h1
  have:=inc_has h
  simp only [deg];omega
theorem deg_no {es:List (Int×Int)} {v:Nat} (h:∀ e ∈ es,tcP v e=false):deg es v=0:=by
  rw [deg,S_congr fun e he=>inc_no (h e he),S_zero]
theorem deg_ex {es:List (Int×Int)} {v:Nat} (h:1≤deg es v):∃ e ∈ es,tcP v e=true:=by
  refine Classical.byContradiction fun hn=>?_
  rw [deg_no fun e he=>by
    cases hq:tcP v e with
    | false=>rfl
    | true=>exact absurd ⟨e,he,hq⟩ hn] at h
  omega
theorem deg_pm {es fs:List (Int×Int)} (h:es.Perm fs) (v:Nat):deg es v=deg fs v:=S_perm h _
theorem perm_out {es:List (Int×Int)} (hn:es.Nodup) {e:Int×Int} (he:e ∈ es):es.Perm (e::es.filter fun x=>!decide (x=e)):=by
  refine (List.perm_ext_iff_of_nodup hn (List.nodup_cons.2 ⟨by simp [List.mem_filter],hn.filter _⟩)).2 fun x=>?_
  simp only [List.mem_cons,List.mem_filter,Bool.not_eq_true',decide_eq_false_iff_not]
  constructor
  · intro h
    by_cases hx:x=e
    · exact .inl hx
    · exact .inr ⟨h,hx⟩
  · rintro (rfl | h)
    · exact he
    · exact h.1
theorem lasts_iff {N:Nat} {gone:List Int} {x:Int}:x ∈ lasts N gone ↔ (0≤x∧x < N)∧x ∉ gone:=by
  simp only [lasts,List.mem_filter,mem_rI,Bool.not_eq_true',decide_eq_false_iff_not]
theorem lasts_nd (N:Nat) (gone:List Int):(lasts N gone).Nodup:=(rangeI_nodup N).filter _
theorem lasts_all {N:Nat} {gone:List Int} (hn:gone.Nodup) (hi:∀ x ∈ gone,0≤x∧x < N):(lasts N gone).length+gone.length=N:=by
  have h1:=sub_len ((rI N).filter fun v=>decide (v ∈ gone)) gone ((rangeI_nodup N).filter _) (fun x hx=>by simpa using (List.mem_filter.1 hx).2)
  have h3:=sub_len gone ((rI N).filter fun v=>decide (v ∈ gone)) hn (fun x hx=>List.mem_filter.2 ⟨mem_rI.2 (hi x hx),by simpa using hx⟩)
  have h2:=filter_len (fun v=>decide (v ∈ gone)) (rI N)
  rw [rI_len] at h2
  simp only [lasts]
  omega
section
variable {N:Nat} {gone:List Int} {es:List (Int×Int)}
theorem Tre.all (h:Tre N gone es):(lasts N gone).length=es.length+1:=by
  have:=lasts_all h.gn h.gi
  have:=h.len
  omega
theorem Tre.dead (h:Tre N gone es) {v:Nat} (hv:(v:Int) ∈ gone):deg es v=0:=deg_no fun e he=>by
  obtain ⟨-,h1,h2⟩:=h.inn e he
  simp only [tcP,Bool.or_eq_false_iff,decide_eq_false_iff_not]
  exact ⟨fun hh=>h1 (hh ▸ hv),fun hh=>h2 (hh ▸ hv)⟩
theorem Tre.pos (h:Tre N gone es) (h1:1≤es.length) {v:Nat} (hv:v < N) (hg:(v:Int) ∉ gone):1≤deg es v:=by
  refine Classical.byContradiction fun hn=>?_
  have h0:deg es v=0:=by have:=deg_nn es v;omega
  have hno:∀ e ∈ es,tcP v e=false:=fun e he=>by
    cases hq:tcP v e with
    | false=>rfl
    | true=>have:=deg_has he hq;omega
  have hl:=h.all
  have hnd:=lasts_nd N gone
  obtain ⟨w,hw,hwv⟩:∃ w ∈ lasts N gone,w ≠ (v:Int):=by
    cases hq:lasts N gone with
    | nil=>rw [hq] at hl;simp at hl
    | cons a r =>
      cases r with
      | nil=>rw [hq] at hl;simp only [List.length_cons,List.length_nil] at hl;omega
      | cons b r =>
        rw [hq] at hnd
        have hab:a ≠ b:=fun hh=>(List.nodup_cons.1 hnd).1 (by rw [hh];simp)
        by_cases ha:a=v
        · exact ⟨b,by simp,fun hb=>hab (ha.trans hb.symm)⟩
        · exact ⟨a,by simp,ha⟩
  have hw':=lasts_iff.1 hw
  have:=h.con (fun x=>decide (x=v)) (fun e he=>by
    have hb:=mem_prs.1 (h.inn e he).1
    have:=hno e he
    simp only [tcP,Bool.or_eq_false_iff,decide_eq_false_iff_not] at this
    rw [decide_eq_decide]
    omega) v w.toNat hv (by omega) hg (by rw [show ((w.toNat:Nat):Int)=w by omega];exact hw'.2)
  simp only [decide_true] at this
  have:=of_decide_eq_true this.symm
  omega
theorem Tre.leaf (h:Tre N gone es) (h1:1≤es.length):∃ v,lf N es=some v:=by
  cases hq:lf N es with
  | some v=>exact ⟨v,rfl⟩
  | none =>
    exfalso
    have hno:∀ v,v < N→deg es v ≠ 1:=fun v hv=>by
      have:=List.find?_eq_none.1 hq v (List.mem_range.2 hv)
      simpa using this
    have hs:=S_filter (rI N) (fun x=>decide (x ∉ gone)) (fun x=>deg es x.toNat)
    have e1:S (rI N) (fun x=>deg es x.toNat)=2 * es.length:=by
      rw [rI,S_map]
      simp only [Int.toNat_natCast]
      rw [show S (List.range N) (fun c=>deg es c)=S (List.range N) (fun v=>S es (inc v)) from rfl,S_swap]
      rw [S_congr (g:=fun _=>2) fun e he=>S_inc (h.inn e he).1 (List.Perm.refl _),S_const];omega
    have e2:S ((rI N).filter fun x=>decide (x ∉ gone)) (fun _=>2)≤S ((rI N).filter fun x=>decide (x ∉ gone)) (fun x=>deg es x.toNat):=S_le fun x hx=>by
      have hm:=List.mem_filter.1 hx
      have hb:=mem_rI.1 hm.1
      have hg:((x.toNat:Nat):Int) ∉ gone:=by rw [show ((x.toNat:Nat):Int)=x by omega];simpa using hm.2
      have:=h.pos h1 (v:=x.toNat) (by omega) hg
      have:=hno x.toNat (by omega)
      omega
    have e3:0≤S ((rI N).filter fun a=>!decide (a ∉ gone)) (fun x=>deg es x.toNat):=S_nonneg fun x _=>deg_nn es _
    rw [S_const] at e2
    have hl:=h.all
    have e4:((rI N).filter fun x=>decide (x ∉ gone))=lasts N gone:=by
      rw [lasts];exact List.filter_congr fun x _=>by simp
    rw [e4] at e2 hs
    rw [e1] at hs
    rw [hl] at e2
    omega
theorem lf_spec {v:Nat} (h:lf N es=some v):v < N∧deg es v=1∧∀ w,w < v→deg es w ≠ 1:=by
  have h1:=List.find?_some h
  have h2:=List.mem_range.1 (List.mem_of_find?_eq_some h)
  refine ⟨h2,by simpa using h1,fun w hw hd=>?_⟩
  obtain ⟨-,as,bs,hr,hn⟩:=List.find?_eq_some_iff_append.1 h
  have hlen:as.length=v:=by
    have hh:(List.range N)[as.length]? = some v:=by rw [hr];simp
    rw [List.getElem?_eq_some_iff] at hh
    obtain ⟨h5,h6⟩:=hh
    simpa using h6
  have hwa:w ∈ as:=by
    have hh:(List.range N)[w]? = some w:=List.getElem?_range (by omega)
    rw [hr,List.getElem?_append_left (by omega)] at hh
    exact List.mem_of_getElem? hh
  have:=hn w hwa
  simp [hd] at this
theorem freeV_at (rest gone:List Int) {v:Nat}:∀ (m k:Nat),k≤v→v < k+m→(∀ w,k≤w→w < v→busy rest gone w=true)→busy rest gone v=false→freeV rest gone m k=v
  | 0,k,h1,h2,_,_=>by omega
  | m+1,k,h1,h2,h3,h4=>by
    rw [freeV]
    by_cases hk:k=v
    · subst hk;rw [h4];rfl
    · rw [h3 k (by omega) (by omega),if_pos rfl]
      exact freeV_at rest gone m (k+1) (by omega) (by omega) (fun w hw=>h3 w (by omega)) h4
theorem freeV_least (rest gone:List Int):∀ (m k w:Nat),k≤w→w < k+m→busy rest gone w=false→freeV rest gone m k≤w
  | 0,k,w,h1,h2,_=>by omega
  | m+1,k,w,h1,h2,h3=>by
    rw [freeV]
    cases hb:busy rest gone k with
    | false=>simpa using h1
    | true =>
      rw [if_pos rfl]
      have hne:w ≠ k:=by rintro rfl;rw [hb] at h3;cases h3
      exact freeV_least rest gone m (k+1) w (by omega) (by omega) h3
theorem Tre.cut (h:Tre N gone es) {v:Nat} (hv:v < N) (hd:deg es v=1) {e:Int×Int} (he:e ∈ es) (hp:tcP v e=true) :
    (v:Int) ∉ gone∧(0≤e.1+e.2 - v∧e.1+e.2 - v < N)∧e.1+e.2 - v ∉ gone∧e.1+e.2 - v ≠ v∧e=(min (v:Int) (e.1+e.2 - v),max (v:Int) (e.1+e.2 - v)) ∧
    (∀ w:Nat,inc w e=(if w=v then 1 else 0)+(if (w:Int)=e.1+e.2 - v then 1 else 0))∧Tre N (gone++[(v:Int)]) (es.filter fun x=>!decide (x=e))∧(es.filter fun x=>!decide (x=e)).length+1=es.length:=by
  have hb:=mem_prs.1 (h.inn e he).1
  obtain ⟨-,g1,g2⟩:=h.inn e he
  have hpm:=perm_out h.nd he
  have hlen:=hpm.length_eq
  simp only [List.length_cons] at hlen
  obtain ⟨a,b⟩:=e
  simp only at hb g1 g2
  simp only [tcP,Bool.or_eq_true,decide_eq_true_eq] at hp
  simp only
  have hvg:(v:Int) ∉ gone:=by rcases hp with hp | hp <;> rw [← hp] <;> assumption
  have hug:a+b - v ∉ gone:=by
    rcases hp with hp | hp
    · rw [show a+b - v=b by omega];exact g2
    · rw [show a+b - v=a by omega];exact g1
  have hinc:∀ w:Nat,inc w (a,b)=(if w=v then 1 else 0)+(if (w:Int)=a+b - v then 1 else 0):=fun w=>by
    simp only [inc]
    rcases hp with hp | hp
    · rw [show a+b - v=b by omega]
      by_cases k1:a=(w:Int) <;> by_cases k2:b=(w:Int) <;> by_cases k3:w=v <;> simp_all <;> omega
    · rw [show a+b - v=a by omega]
      by_cases k1:a=(w:Int) <;> by_cases k2:b=(w:Int) <;> by_cases k3:w=v <;> simp_all <;> omega
  have h0:deg (es.filter fun x=>!decide (x=(a,b))) v=0:=by
    have h1:=deg_pm hpm v
    have h2:deg ((a,b)::es.filter fun x=>!decide (x=(a,b))) v=inc v (a,b)+deg (es.filter fun x=>!decide (x=(a,b))) v:=by rw [deg,S_cons];rfl
    have h3:=inc_has (v:=v) (e:=(a,b)) (by simp only [tcP,Bool.or_eq_true,decide_eq_true_eq];exact hp)
    have h4:=deg_nn (es.filter fun x=>!decide (x=(a,b))) v
    omega
  have hfree:∀ f ∈ es.filter (fun x=>!decide (x=(a,b))),tcP v f=false:=fun f hf=>by
    cases hq:tcP v f with
    | false=>rfl
    | true=>have:=deg_has hf hq;omega
  refine ⟨hvg,by omega,hug,by omega,by simp only [Prod.mk.injEq];omega,hinc,⟨h.nd.filter _,fun f hf=>?_,?_,?_,?_,?_⟩,by omega⟩
  · obtain ⟨k1,k2,k3⟩:=h.inn f (List.mem_filter.1 hf).1
    have:=hfree f hf
    simp only [tcP,Bool.or_eq_false_iff,decide_eq_false_iff_not] at this
    exact ⟨k1,by simp [k2,this.1],by simp [k3,this.2]⟩
  · intro p hp' x y hx hy hxg hyg
    simp only [List.mem_append,List.mem_singleton,not_or] at hxg hyg
    have:=h.con (fun z=>if z=v then p (a+b - v).toNat else p z) (fun f hf=>by
      by_cases hfe:f=(a,b)
      · subst hfe
        simp only
        rcases hp with hp | hp
        · rw [if_pos (by omega),if_neg (by omega),show a+b - v=b by omega]
        · rw [if_neg (by omega),if_pos (by omega),show a+b - v=a by omega]
      · have hm:f ∈ es.filter (fun x=>!decide (x=(a,b))):=List.mem_filter.2 ⟨hf,by simp [hfe]⟩
        have h5:=hfree f hm
        have h6:=mem_prs.1 (h.inn f hf).1
        simp only [tcP,Bool.or_eq_false_iff,decide_eq_false_iff_not] at h5
        simp only
        rw [if_neg (by omega),if_neg (by omega)]
        exact hp' f hm) x y hx hy hxg.1 hyg.1
    try simp only at this
    rw [if_neg (fun hh=>hxg.2 (by rw [hh])),if_neg (fun hh=>hyg.2 (by rw [hh]))] at this
    exact this
  · rw [List.nodup_append]
    exact ⟨h.gn,by simp,fun x hx y hy hxy=>hvg (by simp only [List.mem_singleton] at hy;rw [← hy,← hxy];exact hx)⟩
  · intro x hx
    rcases List.mem_append.1 hx with hx | hx
    · exact h.gi x hx
    · simp only [List.mem_singleton] at hx;omega
  · have:=h.len
    simp only [List.length_append,List.length_singleton];omega
end
theorem count_pos {x:Int} {c:List Int}:1≤c.count x ↔ x ∈ c:=List.count_pos_iff
structure Cod (N:Nat) (gone:List Int) (es:List (Int×Int)) (c:List Int):Prop where
  len:c.length+1=es.length
  inn:∀ x ∈ c,(0≤x∧x < N)∧x ∉ gone
  deg:∀ v:Nat,v < N→(v:Int) ∉ gone→deg es v=1+(c.count (v:Int):Nat)
  pm:es.Perm (dcE N c gone)
theorem Cod.busy {N:Nat} {gone:List Int} {es:List (Int×Int)} {c:List Int} (h:Cod N gone es c) (ht:Tre N gone es) {w:Nat} (hw:w < N):Idl.busy c gone w=!decide (Idl.deg es w=1):=by
  rw [Bool.eq_iff_iff]
  simp only [Idl.busy,Bool.or_eq_true,decide_eq_true_eq,Bool.not_eq_true',decide_eq_false_iff_not]
  by_cases hg:(w:Int) ∈ gone
  · have:=ht.dead hg
    simp [hg,this]
  · rw [h.deg w hw hg]
    have:=@count_pos (w:Int) c
    simp only [hg,or_false]
    rw [← this]
    omega
theorem base_one {N:Nat} {gone:List Int} {es:List (Int×Int)} (h:Tre N gone es) (h1:es.length=1):Cod N gone es []:=by
  obtain ⟨e,rfl⟩:=List.length_eq_one_iff.1 h1
  obtain ⟨k1,k2,k3⟩:=h.inn e (by simp)
  have hb:=mem_prs.1 k1
  have hl:=h.all
  have hnd:=lasts_nd N gone
  simp only [List.length_singleton] at hl
  obtain ⟨a,b,hab⟩:∃ a b,lasts N gone=[a,b]:=by
    cases hq:lasts N gone with
    | nil=>rw [hq] at hl;simp at hl
    | cons a r=>cases r with
      | nil=>rw [hq] at hl;simp at hl
      | cons b r=>cases r with
        | nil=>exact ⟨a,b,rfl⟩
        | cons c r=>rw [hq] at hl;simp at hl
  have m1:e.1 ∈ lasts N gone:=lasts_iff.2 ⟨by omega,k2⟩
  have m2:e.2 ∈ lasts N gone:=lasts_iff.2 ⟨by omega,k3⟩
  rw [hab] at m1 m2
  simp only [List.mem_cons,List.not_mem_nil,or_false] at m1 m2
  refine ⟨rfl,fun x hx=>(by cases hx),fun v hv hg=>?_,?_⟩
  · have mv:(v:Int) ∈ lasts N gone:=lasts_iff.2 ⟨by omega,hg⟩
    rw [hab] at mv
    simp only [List.mem_cons,List.not_mem_nil,or_false] at mv
    simp only [Idl.deg,S_cons,S_nil,inc,List.count_nil]
    by_cases q1:e.1=(v:Int)
    · rw [if_pos q1,if_neg (by omega)];rfl
    · rw [if_neg q1,if_pos (by omega)];rfl
  · rw [dcE,hab]
    have:e=(min a b,max a b):=by
      refine Prod.ext ?_ ?_ <;> simp only <;> omega
    rw [this]
    exact List.Perm.refl _
theorem tc_enc (N:Nat):∀ (m:Nat) (es:List (Int×Int)) (gone:List Int),Tre N gone es→1≤es.length→es.length≤m+1→Cod N gone es (tcE N m es)
  | 0,es,gone,h,h1,h2=>base_one h (by omega)
  | m+1,es,gone,h,h1,h2=>by
    rw [tcE]
    by_cases hl:es.length≤1
    · rw [if_pos hl];exact base_one h (by omega)
    rw [if_neg hl]
    obtain ⟨v,hv⟩:=h.leaf h1
    obtain ⟨v1,v2,v3⟩:=lf_spec hv
    rw [hv]
    simp only
    obtain ⟨e',he',hp'⟩:=deg_ex (es:=es) (v:=v) (by omega)
    cases hf:es.find? (tcP v) with
    | none=>have:=List.find?_eq_none.1 hf e' he';rw [hp'] at this;exact absurd rfl this
    | some e =>
      simp only
      have he:=List.mem_of_find?_eq_some hf
      have hp:=List.find?_some hf
      obtain ⟨c1,c2,c3,c4,c5,c6,c7,c8⟩:=h.cut v1 v2 he hp
      have ih:=tc_enc N m _ _ c7 (by omega) (by omega)
      have hpm:=perm_out h.nd he
      generalize (es.filter fun x=>!decide (x=e))=fs at *
      generalize tcE N m fs=c at *
      generalize e.1+e.2 - (v:Int)=u at *
      have hvc:(v:Int) ∉ c:=fun hh=>(ih.inn _ hh).2 (by simp)
      have hdeg:∀ w:Nat,w < N→(w:Int) ∉ gone→deg es w=1+((u::c).count (w:Int):Nat):=fun w hw hg=>by
        by_cases hwv:w=v
        · subst hwv
          rw [v2]
          have:¬ (w:Int) ∈ u::c:=fun hh=>by
            rcases List.mem_cons.1 hh with hh | hh
            · exact c4 hh.symm
            · exact hvc hh
          rw [List.count_eq_zero.2 this];rfl
        · have h3:deg es w=inc w e+deg fs w:=by rw [deg_pm hpm w,deg,S_cons];rfl
          rw [h3,c6,if_neg hwv,ih.deg w hw (by simp only [List.mem_append,List.mem_singleton,not_or];exact ⟨hg,fun hh=>hwv (by omega)⟩),List.count_cons]
          by_cases hu:u=(w:Int)
          · subst hu;simp;omega
          · have hu2:¬ (w:Int)=u:=fun hh=>hu hh.symm
            have hu3:(u == (w:Int))=false:=by simpa using hu
            rw [if_neg hu2,hu3];simp
      have hmem:∀ x ∈ u::c,(0≤x∧x < N)∧x ∉ gone:=fun x hx=>by
        rcases List.mem_cons.1 hx with rfl | hx
        · exact ⟨c2,c3⟩
        · exact ⟨(ih.inn x hx).1,fun hh=>(ih.inn x hx).2 (by simp [hh])⟩
      have hbz:∀ w:Nat,w < N→busy (u::c) gone w=!decide (deg es w=1):=fun w hw=>by
        rw [Bool.eq_iff_iff]
        simp only [busy,Bool.or_eq_true,decide_eq_true_eq,Bool.not_eq_true',decide_eq_false_iff_not]
        by_cases hg:(w:Int) ∈ gone
        · have:=h.dead hg
          simp [hg,this]
        · rw [hdeg w hw hg]
          have:=@count_pos (w:Int) (u::c)
          simp only [hg,or_false]
          rw [← this]
          omega
      have hfv:freeV (u::c) gone N 0=v:=freeV_at _ _ N 0 (by omega) (by omega) (fun w _ hw=>by rw [hbz w (by omega),decide_eq_false (v3 w hw)];rfl) (by rw [hbz v v1,decide_eq_true v2];rfl)
      refine ⟨by simp only [List.length_cons];have:=ih.len;omega,hmem,hdeg,?_⟩
      rw [dcE,hfv,← c5]
      exact hpm.trans (ih.pm.cons e)
theorem tc_dec (N:Nat):∀ (c gone:List Int),(∀ x ∈ c,(0≤x∧x < N)∧x ∉ gone)→gone.Nodup→(∀ x ∈ gone,0≤x∧x < N)→c.length+gone.length+2=N →
    ∀ es:List (Int×Int),es.Perm (dcE N c gone)→Tre N gone es∧∀ m,es.length≤m+1→tcE N m es=c
  | [],gone,hc,hn,hi,hl,es,hp=>by
    have hall:=lasts_all hn hi
    have hnd:=lasts_nd N gone
    obtain ⟨a,b,hab⟩:∃ a b,lasts N gone=[a,b]:=by
      cases hq:lasts N gone with
      | nil=>rw [hq] at hall;simp at hall hl;omega
      | cons a r=>cases r with
        | nil=>rw [hq] at hall;simp at hall hl;omega
        | cons b r=>cases r with
          | nil=>exact ⟨a,b,rfl⟩
          | cons c r=>rw [hq] at hall;simp at hall hl;omega
    rw [dcE,hab] at hp
    have hp:=List.perm_singleton.1 hp
    simp only [List.getD_cons_zero,List.getD_cons_succ] at hp
    have ma:a ∈ lasts N gone:=by rw [hab];simp
    have mb:b ∈ lasts N gone:=by rw [hab];simp
    have ma:=lasts_iff.1 ma
    have mb:=lasts_iff.1 mb
    have hne:a ≠ b:=fun hh=>by rw [hab,hh] at hnd;simp at hnd
    subst hp
    constructor
    · refine ⟨by simp,fun e he=>?_,fun p hp u v hu hv hug hvg=>?_,hn,hi,by simp at hl ⊢;omega⟩
      · simp only [List.mem_singleton] at he
        subst he
        refine ⟨mem_prs.2 (by simp only;omega),?_,?_⟩
        · simp only
          by_cases h:a≤b
          · rw [show min a b=a by omega];exact ma.2
          · rw [show min a b=b by omega];exact mb.2
        · simp only
          by_cases h:a≤b
          · rw [show max a b=b by omega];exact mb.2
          · rw [show max a b=a by omega];exact ma.2
      · have hpe:=hp _ (List.mem_singleton.2 rfl)
        simp only at hpe
        have mu:(u:Int) ∈ lasts N gone:=lasts_iff.2 ⟨by omega,hug⟩
        have mv:(v:Int) ∈ lasts N gone:=lasts_iff.2 ⟨by omega,hvg⟩
        rw [hab] at mu mv
        simp only [List.mem_cons,List.not_mem_nil,or_false] at mu mv
        have hpab:p a.toNat=p b.toNat:=by
          by_cases h:a≤b
          · rw [show min a b=a by omega,show max a b=b by omega] at hpe;exact hpe
          · rw [show min a b=b by omega,show max a b=a by omega] at hpe;exact hpe.symm
        rcases mu with mu | mu <;> rcases mv with mv | mv
        · rw [show u=v by omega]
        · rw [show u=a.toNat by omega,show v=b.toNat by omega,hpab]
        · rw [show u=b.toNat by omega,show v=a.toNat by omega,hpab]
        · rw [show u=v by omega]
    · intro m _
      cases m with
      | zero=>rfl
      | succ m=>rw [tcE,if_pos (by simp)]
  | x::r,gone,hc,hn,hi,hl,es,hp=>by
    simp only [List.length_cons] at hl
    obtain ⟨w,hw,hwb⟩:=free_ex (N:=N) (rest:=x::r) (gone:=gone) (by simp only [List.length_cons];omega)
    obtain ⟨f1,f2⟩:=freeV_ok (x::r) gone N 0 w (by omega) (by omega) hwb
    rw [dcE] at hp
    generalize hv:freeV (x::r) gone N 0=v at *
    have hvN:v < N:=by omega
    simp only [busy,Bool.or_eq_false_iff,decide_eq_false_iff_not] at f2
    have hx:=hc x (by simp)
    have hxv:x ≠ v:=fun hh=>f2.1 (by rw [hh];simp)
    obtain ⟨e,he⟩:∃ e:Int×Int,e=(min (v:Int) x,max (v:Int) x):=⟨_,rfl⟩
    rw [← he] at hp
    have hn':(gone++[(v:Int)]).Nodup:=by
      rw [List.nodup_append]
      exact ⟨hn,by simp,fun y hy z hz hyz=>f2.2 (by simp only [List.mem_singleton] at hz;rw [← hz,← hyz];exact hy)⟩
    have hi':∀ y ∈ gone++[(v:Int)],0≤y∧y < N:=fun y hy=>by
      rcases List.mem_append.1 hy with hy | hy
      · exact hi y hy
      · simp only [List.mem_singleton] at hy;omega
    have hc':∀ y ∈ r,(0≤y∧y < N)∧y ∉ gone++[(v:Int)]:=fun y hy=>by
      have:=hc y (by simp [hy])
      refine ⟨this.1,fun hh=>?_⟩
      rcases List.mem_append.1 hh with hh | hh
      · exact this.2 hh
      · simp only [List.mem_singleton] at hh
        exact f2.1 (by rw [← hh];simp [hy])
    have IH:=tc_dec N r (gone++[(v:Int)]) hc' hn' hi' (by simp only [List.length_append,List.length_singleton];omega)
    obtain ⟨t1,-⟩:=IH _ (List.Perm.refl _)
    have het:tcP v e=true:=by
      rw [he];simp only [tcP,Bool.or_eq_true,decide_eq_true_eq];omega
    have hfree:∀ f ∈ dcE N r (gone++[(v:Int)]),tcP v f=false:=fun f hf=>by
      obtain ⟨-,g1,g2⟩:=t1.inn f hf
      simp only [tcP,Bool.or_eq_false_iff,decide_eq_false_iff_not]
      exact ⟨fun hh=>g1 (by rw [hh];simp),fun hh=>g2 (by rw [hh];simp)⟩
    have hnot:e ∉ dcE N r (gone++[(v:Int)]):=fun hh=>by have:=hfree e hh;rw [het] at this;cases this
    have hnd:es.Nodup:=hp.nodup_iff.2 (List.nodup_cons.2 ⟨hnot,t1.nd⟩)
    have hee:e ∈ es:=hp.mem_iff.2 (by simp)
    have hpm:=perm_out hnd hee
    have hfs:(es.filter fun y=>!decide (y=e)).Perm (dcE N r (gone++[(v:Int)])):=(List.perm_cons e).1 (hpm.symm.trans hp)
    obtain ⟨t2,t3⟩:=IH _ hfs
    have hlen:=hpm.length_eq
    simp only [List.length_cons] at hlen
    have hfl:(es.filter fun y=>!decide (y=e)).length=r.length+1:=by
      have h1:=t2.len
      simp only [List.length_append,List.length_singleton] at h1
      omega
    have hcod:=tc_enc N (es.filter fun y=>!decide (y=e)).length _ _ t2 (by omega) (by omega)
    rw [t3 _ (by omega)] at hcod
    have hinn:∀ f ∈ es,f ∈ prs N∧f.1 ∉ gone∧f.2 ∉ gone:=fun f hf=>by
      rcases List.mem_cons.1 (hpm.mem_iff.1 hf) with rfl | hf
      · rw [he]
        refine ⟨mem_prs.2 (by simp only;omega),?_,?_⟩
        · simp only
          by_cases h:(v:Int)≤x
          · rw [show min (v:Int) x=v by omega];exact f2.2
          · rw [show min (v:Int) x=x by omega];exact hx.2
        · simp only
          by_cases h:(v:Int)≤x
          · rw [show max (v:Int) x=x by omega];exact hx.2
          · rw [show max (v:Int) x=v by omega];exact f2.2
      · obtain ⟨g0,g1,g2⟩:=t2.inn f hf
        exact ⟨g0,fun hh=>g1 (by simp [hh]),fun hh=>g2 (by simp [hh])⟩
    have hT:Tre N gone es:=by
      refine ⟨hnd,hinn,fun p hp' a b ha hb hag hbg=>?_,hn,hi,by omega⟩
      have hcl:Cl (es.filter fun y=>!decide (y=e)) p:=fun f hf=>hp' f (List.mem_filter.1 hf).1
      have hpe:=hp' e hee
      rw [he] at hpe
      simp only at hpe
      have hvx:p v=p x.toNat:=by
        by_cases h:(v:Int)≤x
        · rw [show min (v:Int) x=v by omega,show max (v:Int) x=x by omega,Int.toNat_natCast] at hpe;exact hpe
        · rw [show min (v:Int) x=x by omega,show max (v:Int) x=v by omega,Int.toNat_natCast] at hpe;exact hpe.symm
      have hxg:((x.toNat:Nat):Int) ∉ gone++[(v:Int)]:=by
        rw [show ((x.toNat:Nat):Int)=x by omega]
        simp only [List.mem_append,List.mem_singleton,not_or];exact ⟨hx.2,hxv⟩
      have to:∀ a:Nat,a < N→(a:Int) ∉ gone→p a=p x.toNat:=fun a ha hag=>by
        by_cases hav:a=v
        · rw [hav,hvx]
        · exact t2.con p hcl a x.toNat ha (by omega) (by simp only [List.mem_append,List.mem_singleton,not_or];exact ⟨hag,fun hh=>hav (by omega)⟩) hxg
      rw [to a ha hag,to b hb hbg]
    refine ⟨hT,fun m hm=>?_⟩
    cases m with
    | zero=>omega
    | succ m =>
    have hinc:∀ w:Nat,inc w e=(if w=v then 1 else 0)+(if (w:Int)=x then 1 else 0):=fun w=>by
      rw [he,inc_mm]
      congr 1
      · by_cases k:w=v
        · rw [if_pos k,if_pos (by omega)]
        · rw [if_neg k,if_neg (by omega)]
      · by_cases k:(w:Int)=x
        · rw [if_pos k,if_pos k.symm]
        · rw [if_neg k,if_neg (fun hh=>k hh.symm)]
    have hdeg:∀ w:Nat,w < N→(deg es w=1 ↔ (w:Int) ∉ x::r∧(w:Int) ∉ gone):=fun w hw=>by
      have h3:deg es w=inc w e+deg (es.filter fun y=>!decide (y=e)) w:=by rw [deg_pm hpm w,deg,S_cons];rfl
      by_cases hwg:(w:Int) ∈ gone
      · have:=hT.dead hwg
        simp [hwg,this]
      · by_cases hwv:w=v
        · subst hwv
          have h4:deg (es.filter fun y=>!decide (y=e)) w=0:=t2.dead (by simp)
          rw [h3,h4,hinc,if_pos rfl,if_neg (fun hh=>hxv hh.symm)]
          simp only [f2.1,hwg,not_false_eq_true,and_self,iff_true];rfl
        · have h4:=hcod.deg w hw (by simp only [List.mem_append,List.mem_singleton,not_or];exact ⟨hwg,fun hh=>hwv (by omega)⟩)
          rw [h3,h4,hinc,if_neg hwv]
          have h5:=@count_pos (w:Int) r
          by_cases hwx:(w:Int)=x
          · rw [if_pos hwx]
            simp only [hwx,List.mem_cons,true_or,not_true_eq_false,false_and,iff_false]
            omega
          · rw [if_neg hwx]
            simp only [List.mem_cons,hwx,false_or,hwg,not_false_eq_true,and_true]
            rw [← h5];omega
    have hlf:lf N es=some v:=by
      refine List.find?_eq_some_iff_append.2 ⟨by rw [decide_eq_true_eq,hdeg v hvN];exact ⟨f2.1,f2.2⟩,List.range v,(List.range (N - (v+1))).map (fun i=>v+1+i),?_,fun w hw=>?_⟩
      · have h1:N=v+(1+(N - (v+1))):=by omega
        conv=>lhs;rw [h1]
        rw [List.range_add,List.range_add]
        simp [List.range_succ,Nat.add_assoc]
      · have hw:=List.mem_range.1 hw
        simp only [Bool.not_eq_true',decide_eq_false_iff_not]
        rw [hdeg w (by omega)]
        intro hh
        have hb:busy (x::r) gone w=false:=by
          simp only [busy,Bool.or_eq_false_iff,decide_eq_false_iff_not];exact hh
        have:=freeV_least (x::r) gone N 0 w (by omega) (by omega) hb
        omega
    have hfd:es.find? (tcP v)=some e:=by
      cases hq:es.find? (tcP v) with
      | none=>have:=List.find?_eq_none.1 hq e hee;rw [het] at this;exact absurd rfl this
      | some e' =>
        have q1:=List.mem_of_find?_eq_some hq
        have q2:=List.find?_some hq
        rcases List.mem_cons.1 (hp.mem_iff.1 q1) with q | q
        · rw [q]
        · have:=hfree e' q;rw [q2] at this;cases this
    rw [tcE,if_neg (by omega),hlf]
    simp only [hfd]
    rw [t3 m (by omega)]
    congr 1
    rw [he];simp only;omega
theorem insE_perm (e:Int×Int):∀ es:List (Int×Int),(insE e es).Perm (e::es)
  | []=>List.Perm.refl _
  | x::r=>by
    rw [insE]
    split
    · exact ((insE_perm e r).cons x).trans (List.Perm.swap e x r)
    · exact List.Perm.refl _
abbrev ctF (N:Nat) (rest gone:List Int) (es:List (Int×Int)):List (Int×Int) :=
  insE (min ((lasts N (ctree N rest gone es).2).getD 0 0) ((lasts N (ctree N rest gone es).2).getD 1 0),max ((lasts N (ctree N rest gone es).2).getD 0 0) ((lasts N (ctree N rest gone es).2).getD 1 0)) (ctree N rest gone es).1
theorem ctF_perm (N:Nat):∀ (rest gone:List Int) (es:List (Int×Int)),(ctF N rest gone es).Perm (es++dcE N rest gone)
  | [],gone,es=>by
    simp only [ctF,ctree,dcE]
    exact (insE_perm _ es).trans (List.perm_append_comm (l₁:=[_]) (l₂:=es))
  | x::r,gone,es=>by
    have ih:=ctF_perm N r (gone++[(freeV (x::r) gone N 0:Int)]) (insE (min (freeV (x::r) gone N 0:Int) x,max (freeV (x::r) gone N 0:Int) x) es)
    rw [dcE]
    exact ih.trans (((insE_perm _ es).append_right _).trans List.perm_middle.symm)
theorem ctF_pw (N:Nat):∀ (rest gone:List Int) (es:List (Int×Int)),PW es→(es++dcE N rest gone).Nodup→PW (ctF N rest gone es)
  | [],gone,es,hp,hn=>by
    simp only [ctF,ctree]
    refine insE_pw hp fun hh=>?_
    rw [dcE,List.nodup_append] at hn
    exact hn.2.2 _ hh _ (by simp) rfl
  | x::r,gone,es,hp,hn=>by
    rw [dcE] at hn
    have h2:¬ (min (freeV (x::r) gone N 0:Int) x,max (freeV (x::r) gone N 0:Int) x) ∈ es:=fun hh=>by
      rw [List.nodup_append] at hn
      exact hn.2.2 _ hh _ (by simp) rfl
    refine ctF_pw N r _ _ (insE_pw hp h2) ?_
    exact (((insE_perm _ es).append_right _).trans List.perm_middle.symm).nodup_iff.2 hn
theorem codeT_ctF (c:List Int):codeT c=ctF (c.length+2) c [] []:=rfl
structure TocLaw (c:List Int):Prop where
  vg:vGraph ((c.length+2:Nat):Int) (codeT c)=true
  nd:(dcE (c.length+2) c []).Nodup
  dc:srtE (dcE (c.length+2) c [])=codeT c
  inn:∀ e ∈ dcE (c.length+2) c [],e ∈ prs (c.length+2)
  con:(compI (c.length+2) (codeT c)).length=1
  enc:tcE (c.length+2) (c.length+2) (codeT c)=c
  len:(codeT c).length=c.length+1
  tree:treeD (degs (c.length+2) (codeT c))=true
theorem tr_con {N:Nat} {es:List (Int×Int)} (h:Tre N [] es):Con N es:=fun p hp u v hu hv=>h.con p hp u v hu hv (by simp) (by simp)
theorem tr_tree {N:Nat} {es:List (Int×Int)} (hN:2≤N) (hv:vGraph N es=true) (hc:Con N es) (hl:es.length+1=N):treeD (degs N es)=true:=by
  have hdl:(degs N es).length=N:=by rw [degs,dfold_len];simp
  rw [treeD,con_conn (by omega) hv hc,Bool.true_and,decide_eq_true_eq,degs_sum (vG_iff.1 hv).2.1,hdl]
  omega
theorem tocLaw {c:List Int} (hc:Code7 c):TocLaw c:=by
  have h0:∀ x ∈ c,(0≤x∧x < ((c.length+2:Nat):Int))∧x ∉ ([]:List Int):=fun x hx=>⟨by have:=hc.el x hx;omega,by simp⟩
  have hd:=tc_dec (c.length+2) c [] h0 .nil (by simp) (by simp)
  have hpm:=ctF_perm (c.length+2) c [] []
  rw [← codeT_ctF,List.nil_append] at hpm
  obtain ⟨t1,t2⟩:=hd _ hpm
  obtain ⟨t3,-⟩:=hd _ (List.Perm.refl _)
  have hpw:PW (codeT c):=by rw [codeT_ctF];exact ctF_pw _ _ _ _ .nil (by rw [List.nil_append];exact t3.nd)
  have hl7:=hc.len
  have hvg:vGraph ((c.length+2:Nat):Int) (codeT c)=true:=vG_iff.2 ⟨hpw,fun e he=>(t1.inn e he).1,by omega⟩
  have hes:∀ e ∈ codeT c,e.1.toNat < c.length+2∧e.2.toNat < c.length+2:=fun e he=>by have:=mem_prs.1 (t1.inn e he).1;omega
  have hlen:=t1.len
  simp only [List.length_nil,Nat.add_zero] at hlen
  refine ⟨hvg,t3.nd,?_,fun e he=>(t3.inn e he).1,(compI_one (by omega) hes).2 (tr_con t1),t2 _ (by omega),by omega,tr_tree (by omega) hvg (tr_con t1) (by omega)⟩
  exact pw_ext (srtE_pw t3.nd) hpw fun e=>((srtE_perm _).trans hpm.symm).mem_iff
theorem con_tr {N:Nat} {es:List (Int×Int)} (hv:vGraph N es=true) (hc:Con N es) (hl:es.length+1=N):Tre N [] es :=
  ⟨pw_nodup (vG_iff.1 hv).1,fun e he=>⟨(vG_iff.1 hv).2.1 e he,by simp,by simp⟩,fun p hp u v hu hv _ _=>hc p hp u v hu hv,.nil,by simp,by simpa using hl⟩
end Go.Idl
namespace Go.Idl
open Go
def okC (c:List Int):Bool:=decide (c.length+2≤7) && c.all fun x=>decide (0≤x) && decide (x≤(c.length:Int)+1)
theorem okC_iff {c:List Int}:okC c=true ↔ Code7 c:=by
  simp only [okC,Bool.and_eq_true,decide_eq_true_eq,List.all_eq_true]
  exact ⟨fun h=>⟨by omega,fun x hx=>by have:=h.2 x hx;omega⟩,fun h=>⟨by have:=h.len;omega,fun x hx=>by have:=h.el x hx;omega⟩⟩
def LF (N:Nat) (rest gone left:List Int):Prop:=left.length=N∧∀ v,v < N→left.getD v 0=if (v:Int) ∈ gone then 0 else 1+(rest.count (v:Int):Nat)
def dcP (N:Nat):List Int→List Int→List (Int×Int)
  | [],_=>[]
  | x::r,gone=>(min (freeV (x::r) gone N 0:Int) x,max (freeV (x::r) gone N 0:Int) x)::dcP N r (gone++[(freeV (x::r) gone N 0:Int)])
def goneF (N:Nat):List Int→List Int→List Int
  | [],gone=>gone
  | x::r,gone=>goneF N r (gone++[(freeV (x::r) gone N 0:Int)])
theorem dcE_split (N:Nat):∀ rest gone:List Int,dcE N rest gone=dcP N rest gone++dcE N [] (goneF N rest gone)
  | [],gone=>rfl
  | x::r,gone=>by
    show _::dcE N r _=_
    rw [dcE_split N r]
    rfl
theorem LF.one {N:Nat} {rest gone left:List Int} (h:LF N rest gone left) {v:Nat} (hv:v < N):left.getD v 0=1 ↔ busy rest gone v=false:=by
  rw [h.2 v hv]
  simp only [busy,Bool.or_eq_false_iff,decide_eq_false_iff_not]
  have:=@count_pos (v:Int) rest
  by_cases hg:(v:Int) ∈ gone
  · simp [hg]
  · simp only [hg,if_false,not_false_eq_true,and_true]
    rw [← this];omega
theorem LF.idx {N:Nat} {rest gone left:List Int} (h:LF N rest gone left) {w:Nat} (hw:w < N) (hb:busy rest gone w=false):idx (fun y=>decide (1=y)) 0 left=(freeV rest gone N 0:Nat):=by
  obtain ⟨f1,f2⟩:=freeV_ok rest gone N 0 w (by omega) (by omega) hb
  generalize hv:freeV rest gone N 0=v at *
  have hvN:v < N:=by omega
  have hv1:=(h.one hvN).2 f2
  have hvl:v < left.length:=by rw [h.1];exact hvN
  rw [List.getD_eq_getElem?_getD,List.getElem?_eq_getElem hvl,Option.getD_some] at hv1
  rcases idx_spec (fun y=>decide (1=y)) left 0 with ⟨h1,h2⟩ | ⟨k,hk,h1,h2,h3⟩
  · have:=h2 _ (List.getElem_mem hvl)
    rw [hv1] at this
    simp at this
  · rw [show ((0:Nat):Int)=0 from rfl] at h1
    rw [h1]
    have hkN:k < N:=by rw [← h.1];exact hk
    have hk1:left.getD k 0=1:=by
      rw [List.getD_eq_getElem?_getD,List.getElem?_eq_getElem hk,Option.getD_some]
      simpa using (of_decide_eq_true h2).symm
    have hkb:=(h.one hkN).1 hk1
    have l1:=freeV_least rest gone N 0 k (by omega) (by omega) hkb
    rw [hv] at l1
    by_cases hlt:v < k
    · have hm:left[v] ∈ left.take k:=by
        rw [List.mem_take_iff_getElem];exact ⟨v,by omega,rfl⟩
      have:=h3 _ hm
      rw [hv1] at this
      simp at this
    · have:k=v:=by omega
      rw [this,Nat.zero_add]
theorem LF.step {N:Nat} {x:Int} {r gone left:List Int} (h:LF N (x::r) gone left) {v:Nat} (hv:v < N) (hb:busy (x::r) gone v=false) (hx:0≤x∧x < N) (hxg:x ∉ gone) :
    LF N r (gone++[(v:Int)]) ((left.set v (left.getD v 0 - 1)).set x.toNat ((left.set v (left.getD v 0 - 1)).getD x.toNat 0 - 1)):=by
  have hl:=h.1
  have hb2:=hb
  simp only [busy,Bool.or_eq_false_iff,decide_eq_false_iff_not] at hb2
  have hxv:x ≠ v:=fun hh=>hb2.1 (by rw [hh];simp)
  refine ⟨by simp [hl],fun w hw=>?_⟩
  rw [getD_set (by simp;omega),getD_set (by omega),getD_set (by omega),h.2 w hw,(h.one hv).2 hb,h.2 x.toNat (by omega)]
  rw [show ((x.toNat:Nat):Int)=x by omega,if_neg hxg]
  simp only [List.mem_append,List.mem_singleton]
  by_cases k1:x.toNat=w
  · have k2:x=w:=by omega
    have k3:¬ v=w:=fun hh=>hxv (by omega)
    have k4:¬ v=x.toNat:=by omega
    rw [if_pos k1,if_neg k4,if_neg (by rw [← k2];exact fun hh=>hh.elim hxg hxv),← k2,List.count_cons_self]
    omega
  · have k2:¬ x=w:=by omega
    rw [if_neg k1]
    by_cases k3:v=w
    · rw [if_pos k3,if_pos (.inr (by omega))];rfl
    · rw [if_neg k3]
      have k5:¬ (w:Int)=v:=by omega
      simp only [k5,or_false]
      rw [List.count_cons_of_ne k2]
theorem ev_toc_F1 (x:Int) (i:Int) (B:Boxes) (k:Nat) (hB:B[k]? = some [I i]) (Ms:List Boxes):Ev tb zl520 [] [I x,.bptr 0 k 0] (B::Ms) ⟨Bo (decide (x=i)),[],B::Ms,[]⟩:=by
  refine call_of_wp zt520 rfl ?_
  repeat (first|apply wp_as|apply wp_ss|refine wr (by simp [hB];with_reducible rfl) ?_|refine wq (by simp [hB];with_reducible rfl) ?_|refine wt (by simpa [hB]) ?_|refine wf (by simpa [hB]) ?_|refine xt (by simpa [hB]) ?_|refine xf (by simpa [hB]) ?_|apply wp_bs|apply wp_b|refine wp_sr ?_|refine wp_sx ?_|refine wp_ret' ?_|refine wp_skip' ?_|refine wp_exit' ?_)
  simp [zi520]
  rfl
set_option maxHeartbeats 4000000 in
theorem toc_left (code:List Int) (c:Bool) (N:Nat) (hN:N≤7) (hcl:code.length≤7):∀ (m i:Nat) (left:List Int) (B:Boxes),i+m=N→left.length=N→(∀ v,v < i→left.getD v 0=1+(code.count (v:Int):Nat)) →
    wp tb (.loop z519l10) { T:=[(0,L code c),(2,.bptr 0 0 0),(4,I N),(5,O left),(29,I N),(30,I i)],loc:=[I 0,Z]::B,M:=[] }
      (fun ex st=>ex=.exit 0∧∃ left' B',LF N code [] left'∧st={ T:=[(0,L code c),(2,.bptr 0 0 0),(4,I N),(5,O left'),(29,I N),(30,I N),(31,Bo false)],loc:=[I 0,Z]::B',M:=[] }):=by
  intro m
  induction m with
  | zero =>
    intro i left B hi hl hv
    have h3:i=N:=hi
    subst h3
    refine wp_loop ?_
    repeat (first|apply wp_as|apply wp_ss|refine wr (by simp;with_reducible rfl) ?_|refine wq (by simp;with_reducible rfl) ?_|refine wt (by simpa) ?_|refine wf (by simpa) ?_|refine xt (by simpa) ?_|refine xf (by simpa) ?_|apply wp_bs|apply wp_b|refine wp_sr ?_|refine wp_sx ?_|refine wp_ret' ?_|refine wp_skip' ?_|refine wp_exit' ?_)
    exact ⟨rfl,left,B,⟨hl,fun v hv2=>by rw [hv v hv2];simp⟩,rfl⟩
  | succ m ih =>
    intro i left B hi hl hv
    have hi2:i < N:=by omega
    have hil:i < left.length:=by omega
    have w1:IntKind.i64.wrap ((i:Int)+1)=((i+1:Nat):Int):=wrapS (by omega)
    have ec:=fun cc=>ev_lim (ev_count code cc zl520 [.bptr 0 (B.length+1) 0] [[I 0,Z]::(B++[[I i]])] (fun x=>decide (x=(i:Int))) (by omega) (fun x _=>ev_toc_F1 x i _ _ (by simp) [[]]))
    have hcc:code.countP (fun x=>decide (x=(i:Int)))=code.count (i:Int):=by
      rw [List.count];congr 1
    rw [hcc] at ec
    have hle:code.count (i:Int)≤code.length:=List.count_le_length
    have w2:IntKind.i64.wrap (1+((code.count (i:Int):Nat):Int))=1+((code.count (i:Int):Nat):Int):=wrap64 (by omega) (by omega)
    have hn:=ih (i+1) (left.set i (1+((code.count (i:Int):Nat):Int))) (B++[[I i]]) (by omega) (by simp [hl]) (fun v hv2=>by
      rw [getD_set (by omega)]
      by_cases hq:i=v
      · rw [if_pos hq,hq]
      · rw [if_neg hq,hv v (by omega)])
    generalize code.count (i:Int)=q at *
    refine wp_loop ?_
    repeat (first|apply wp_as|apply wp_ss|refine wr (by simp [hi2,w1];with_reducible rfl) ?_|refine wq (by simp [hi2,w1];with_reducible rfl) ?_|refine wt (by simpa [hi2,w1]) ?_|refine wf (by simpa [hi2,w1]) ?_|refine xt (by simpa [hi2,w1]) ?_|refine xf (by simpa [hi2,w1]) ?_|apply wp_bs|apply wp_b|refine wp_sr ?_|refine wp_sx ?_|refine wp_ret' ?_|refine wp_skip' ?_|refine wp_exit' ?_)
    refine wp_ra (by simp [ec,w2,hil];with_reducible rfl) (by simp;with_reducible rfl) ?_ ?_
    · intro p hp
      simp only [List.mem_cons,List.not_mem_nil,or_false] at hp
      subst hp
      exact ⟨_,by simp [ec,w2,hil];with_reducible rfl,by simp⟩
    repeat (first|apply wp_as|apply wp_ss|refine wr (by simp [w1];with_reducible rfl) ?_|refine wq (by simp [w1];with_reducible rfl) ?_|refine wt (by simpa [w1]) ?_|refine wf (by simpa [w1]) ?_|refine xt (by simpa [w1]) ?_|refine xf (by simpa [w1]) ?_|apply wp_bs|apply wp_b|refine wp_sr ?_|refine wp_sx ?_|refine wp_ret' ?_|refine wp_skip' ?_|refine wp_exit' ?_)
    exact hn
set_option maxHeartbeats 4000000 in
theorem toc_out (code:List Int) (c:Bool) (N:Nat) (hN:N≤7) (hcl:code.length≤7) (B:Boxes):∀ (rest:List Int) (j:Nat) (gone left:List Int) (acc:List (Int×Int)),code.drop j=rest→j+rest.length=code.length→LF N rest gone left→(∀ x ∈ rest,(0≤x∧x < N)∧x ∉ gone)→rest.length+gone.length < N→acc.length+rest.length≤1000 →
    wp tb (.loop z519l20) { T:=[(0,L code c),(2,.bptr 0 0 0),(4,I N),(5,O left),(7,nl2 acc),(41,L code c),(42,I code.length),(43,I j)],loc:=B,M:=[] }
      (fun ex st=>ex=.exit 2∧∃ left',LF N [] (goneF N rest gone) left'∧st={ T:=[(0,L code c),(2,.bptr 0 0 0),(4,I N),(5,O left'),(7,nl2 (acc++dcP N rest gone)),(41,L code c),(42,I code.length),(43,I code.length),(44,Bo false)],loc:=B,M:=[] }):=by
  have back:∀ G:List (Int×Int),nl2 G=Z∧G=[] ∨ nl2 G=O2 G:=fun G=>by cases G <;> simp [nl2]
  intro rest
  induction rest with
  | nil =>
    intro j gone left acc hd hj hL hr hlen hal
    have h3:j=code.length:=hj
    subst h3
    rw [goneF,dcP,List.append_nil]
    rcases back acc with ⟨hb,rfl⟩ | hb
    · rw [hb]
      refine wp_loop ?_
      repeat (first|apply wp_as|apply wp_ss|refine wr (by simp;with_reducible rfl) ?_|refine wq (by simp;with_reducible rfl) ?_|refine wt (by simpa) ?_|refine wf (by simpa) ?_|refine xt (by simpa) ?_|refine xf (by simpa) ?_|apply wp_bs|apply wp_b|refine wp_sr ?_|refine wp_sx ?_|refine wp_ret' ?_|refine wp_skip' ?_|refine wp_exit' ?_)
      exact ⟨rfl,left,hL,rfl⟩
    · rw [hb]
      refine wp_loop ?_
      repeat (first|apply wp_as|apply wp_ss|refine wr (by simp;with_reducible rfl) ?_|refine wq (by simp;with_reducible rfl) ?_|refine wt (by simpa) ?_|refine wf (by simpa) ?_|refine xt (by simpa) ?_|refine xf (by simpa) ?_|apply wp_bs|apply wp_b|refine wp_sr ?_|refine wp_sx ?_|refine wp_ret' ?_|refine wp_skip' ?_|refine wp_exit' ?_)
      exact ⟨rfl,left,hL,rfl⟩
  | cons x r ih =>
    intro j gone left acc hd hj hL hr hlen hal
    have hjl:j < code.length:=by
      refine Classical.byContradiction fun hh=>?_
      rw [List.drop_of_length_le (by omega)] at hd
      cases hd
    have hd2:=List.drop_eq_getElem_cons hjl
    rw [hd] at hd2
    injection hd2 with hx hr2
    have hx2:=hx.symm
    simp only [List.length_cons] at hlen hal
    obtain ⟨w,hw,hwb⟩:=free_ex (N:=N) (rest:=x::r) (gone:=gone) (by simp only [List.length_cons];omega)
    obtain ⟨f1,f2⟩:=freeV_ok (x::r) gone N 0 w (by omega) (by omega) hwb
    have hidx:=hL.idx hw hwb
    rw [goneF,dcP]
    generalize hvv:freeV (x::r) gone N 0=v at *
    have hvN:v < N:=by omega
    have hxr:=hr x (by simp)
    have hst:=hL.step hvN f2 hxr.1 hxr.2
    have hb2:=f2
    simp only [busy,Bool.or_eq_false_iff,decide_eq_false_iff_not] at hb2
    have hxv:x ≠ v:=fun hh=>hb2.1 (by rw [hh];simp)
    have hr':∀ y ∈ r,(0≤y∧y < N)∧y ∉ gone++[(v:Int)]:=fun y hy=>by
      have:=hr y (by simp [hy])
      refine ⟨this.1,fun hh=>?_⟩
      rcases List.mem_append.1 hh with hh | hh
      · exact this.2 hh
      · simp only [List.mem_singleton] at hh
        exact hb2.1 (by rw [← hh];simp [hy])
    have hll:=hL.1
    have hvl:v < left.length:=by omega
    have g1:=(hL.one hvN).2 f2
    have g2:=hL.2 x.toNat (by omega)
    rw [show ((x.toNat:Nat):Int)=x by omega,if_neg hxr.2] at g2
    have hcle:(x::r).count x≤(x::r).length:=List.count_le_length
    have hrl:r.length≤7:=by
      have:=congrArg List.length hr2
      simp at this;omega
    simp only [List.length_cons] at hcle
    rw [g1,getD_set (by omega),if_neg (by omega),g2] at hst
    have gv:left[v]=1:=by
      rw [List.getD_eq_getElem?_getD,List.getElem?_eq_getElem hvl,Option.getD_some] at g1;exact g1
    obtain ⟨p,rfl⟩:=Int.eq_ofNat_of_zero_le hxr.1.1
    have hpl:p < left.length:=by omega
    have hpN:p < N:=by omega
    have hvp:¬ v=p:=by omega
    have gp:left[p]=1+((((p:Int)::r).count (p:Int):Nat):Int):=by
      rw [Int.toNat_natCast,List.getD_eq_getElem?_getD,List.getElem?_eq_getElem hpl,Option.getD_some] at g2;exact g2
    rw [Int.toNat_natCast] at hst
    generalize ((p:Int)::r).count (p:Int)=q at *
    have w2:IntKind.i64.wrap (1+(q:Int) - 1)=1+(q:Int) - 1:=wrap64 (by omega) (by omega)
    have w3:IntKind.i64.wrap (1 - 1)=0:=rfl
    have w1:IntKind.i64.wrap ((j:Int)+1)=((j+1:Nat):Int):=wrapS (by omega)
    have e1:=fun cc=>ev_lim (ev_Index left cc 1 (by omega))
    rw [hidx] at e1
    have e2:=ev_lim (ev_edge (v:Int) (p:Int) [])
    have hn:=ih (j+1) (gone++[(v:Int)]) _ (acc++[(min (v:Int) p,max (v:Int) p)]) hr2.symm (by simp only [List.length_cons] at hj;omega) hst hr' (by simp;omega) (by simp;omega)
    rw [nl2_app,List.append_assoc,List.singleton_append] at hn
    have hpv:¬ p=v:=fun hh=>hvp hh.symm
    have hsp:∀ z:Int,p < (left.set v z).length:=fun z=>by simp;omega
    have hgs:∀ z:Int,∀ h:p < (left.set v z).length,(left.set v z)[p]=left[p]:=fun z h=>by rw [List.getElem_set_ne hvp]
    have hlim:acc.length+1≤274877906944:=by omega
    have hT:∀ z,List.take (acc.length+1) (acc++[z])=acc++[z]:=fun z=>List.take_of_length_le (by simp)
    have hT2:List.take acc.length acc=acc:=List.take_of_length_le (Nat.le_refl _)
    rcases back acc with ⟨hb,rfl⟩ | hb
    · rw [hb]
      refine wp_loop ?_
      repeat (first|apply wp_as|apply wp_ss|refine wr (by simp [hjl,hx2,e1,e2];with_reducible rfl) ?_|refine wq (by simp [hjl,hx2,e1,e2];with_reducible rfl) ?_|refine wt (by simpa [hjl,hx2,e1,e2]) ?_|refine wf (by simpa [hjl,hx2,e1,e2]) ?_|refine xt (by simpa [hjl,hx2,e1,e2]) ?_|refine xf (by simpa [hjl,hx2,e1,e2]) ?_|apply wp_bs|apply wp_b|refine wp_sr ?_|refine wp_sx ?_|refine wp_ret' ?_|refine wp_skip' ?_|refine wp_exit' ?_)
      repeat (first|apply wp_as|apply wp_ss|refine wr (by simp [hvl,gv,hvN,hll];with_reducible rfl) ?_|refine wq (by simp [hvl,gv,hvN,hll];with_reducible rfl) ?_|refine wt (by simpa [hvl,gv,hvN,hll]) ?_|refine wf (by simpa [hvl,gv,hvN,hll]) ?_|refine xt (by simpa [hvl,gv,hvN,hll]) ?_|refine xf (by simpa [hvl,gv,hvN,hll]) ?_|apply wp_bs|apply wp_b|refine wp_sr ?_|refine wp_sx ?_|refine wp_ret' ?_|refine wp_skip' ?_|refine wp_exit' ?_)
      repeat (first|apply wp_as|apply wp_ss|refine wr (by simp [hpl,hpN,gp,w2,w1,hll,List.getElem_set_ne hvp];with_reducible rfl) ?_|refine wq (by simp [hpl,hpN,gp,w2,w1,hll,List.getElem_set_ne hvp];with_reducible rfl) ?_|refine wt (by simpa [hpl,hpN,gp,w2,w1,hll,List.getElem_set_ne hvp]) ?_|refine wf (by simpa [hpl,hpN,gp,w2,w1,hll,List.getElem_set_ne hvp]) ?_|refine xt (by simpa [hpl,hpN,gp,w2,w1,hll,List.getElem_set_ne hvp]) ?_|refine xf (by simpa [hpl,hpN,gp,w2,w1,hll,List.getElem_set_ne hvp]) ?_|apply wp_bs|apply wp_b|refine wp_sr ?_|refine wp_sx ?_|refine wp_ret' ?_|refine wp_skip' ?_|refine wp_exit' ?_)
      exact hn
    · rw [hb]
      refine wp_loop ?_
      repeat (first|apply wp_as|apply wp_ss|refine wr (by simp [hjl,hx2,e1,e2,hlim,hT,hT2];with_reducible rfl) ?_|refine wq (by simp [hjl,hx2,e1,e2,hlim,hT,hT2];with_reducible rfl) ?_|refine wt (by simpa [hjl,hx2,e1,e2,hlim,hT,hT2]) ?_|refine wf (by simpa [hjl,hx2,e1,e2,hlim,hT,hT2]) ?_|refine xt (by simpa [hjl,hx2,e1,e2,hlim,hT,hT2]) ?_|refine xf (by simpa [hjl,hx2,e1,e2,hlim,hT,hT2]) ?_|apply wp_bs|apply wp_b|refine wp_sr ?_|refine wp_sx ?_|refine wp_ret' ?_|refine wp_skip' ?_|refine wp_exit' ?_)
      repeat (first|apply wp_as|apply wp_ss|refine wr (by simp [hvl,gv,hvN,hll];with_reducible rfl) ?_|refine wq (by simp [hvl,gv,hvN,hll];with_reducible rfl) ?_|refine wt (by simpa [hvl,gv,hvN,hll]) ?_|refine wf (by simpa [hvl,gv,hvN,hll]) ?_|refine xt (by simpa [hvl,gv,hvN,hll]) ?_|refine xf (by simpa [hvl,gv,hvN,hll]) ?_|apply wp_bs|apply wp_b|refine wp_sr ?_|refine wp_sx ?_|refine wp_ret' ?_|refine wp_skip' ?_|refine wp_exit' ?_)
      repeat (first|apply wp_as|apply wp_ss|refine wr (by simp [hpl,hpN,gp,w2,w1,hll,List.getElem_set_ne hvp];with_reducible rfl) ?_|refine wq (by simp [hpl,hpN,gp,w2,w1,hll,List.getElem_set_ne hvp];with_reducible rfl) ?_|refine wt (by simpa [hpl,hpN,gp,w2,w1,hll,List.getElem_set_ne hvp]) ?_|refine wf (by simpa [hpl,hpN,gp,w2,w1,hll,List.getElem_set_ne hvp]) ?_|refine xt (by simpa [hpl,hpN,gp,w2,w1,hll,List.getElem_set_ne hvp]) ?_|refine xf (by simpa [hpl,hpN,gp,w2,w1,hll,List.getElem_set_ne hvp]) ?_|apply wp_bs|apply wp_b|refine wp_sr ?_|refine wp_sx ?_|refine wp_ret' ?_|refine wp_skip' ?_|refine wp_exit' ?_)
      exact hn
theorem goneF_ok (N:Nat):∀ rest gone:List Int,(∀ x ∈ rest,0≤x∧x < N)→gone.Nodup→(∀ x ∈ gone,0≤x∧x < N)→rest.length+gone.length < N →
    (goneF N rest gone).Nodup∧(∀ x ∈ goneF N rest gone,0≤x∧x < N)∧(goneF N rest gone).length=rest.length+gone.length
  | [],gone,_,hn,hi,_=>⟨hn,hi,by simp [goneF]⟩
  | x::r,gone,hr,hn,hi,hl=>by
    simp only [List.length_cons] at hl
    obtain ⟨w,hw,hwb⟩:=free_ex (N:=N) (rest:=x::r) (gone:=gone) (by simp only [List.length_cons];omega)
    obtain ⟨f1,f2⟩:=freeV_ok (x::r) gone N 0 w (by omega) (by omega) hwb
    rw [goneF]
    generalize freeV (x::r) gone N 0=v at *
    simp only [busy,Bool.or_eq_false_iff,decide_eq_false_iff_not] at f2
    have ih:=goneF_ok N r (gone++[(v:Int)]) (fun y hy=>hr y (by simp [hy])) (by
      rw [List.nodup_append]
      exact ⟨hn,by simp,fun y hy z hz hyz=>f2.2 (by simp only [List.mem_singleton] at hz;rw [← hz,← hyz];exact hy)⟩) (fun y hy=>by
      rcases List.mem_append.1 hy with hy | hy
      · exact hi y hy
      · simp only [List.mem_singleton] at hy;omega) (by simp;omega)
    refine ⟨ih.1,ih.2.1,?_⟩
    rw [ih.2.2]
    simp;omega
theorem last_two {N:Nat} {g left:List Int} (h:LF N [] g left) (hl:(lasts N g).length=2) :
    ∃ a b:Nat,lasts N g=[(a:Int),(b:Int)]∧a < b∧b < N∧idx (fun y=>decide (1=y)) 0 left=(a:Nat)∧idx (fun y=>decide (1=y)) 0 (left.drop (a+1))=((b - (a+1):Nat):Int):=by
  have hpw:(lasts N g).Pairwise (fun a b:Int=>a < b):=by
    refine List.Pairwise.filter _ ?_
    rw [rI,List.pairwise_map]
    exact List.pairwise_lt_range.imp fun h=>by omega
  obtain ⟨x,y,hxy⟩:∃ x y,lasts N g=[x,y]:=by
    cases hq:lasts N g with
    | nil=>rw [hq] at hl;simp at hl
    | cons x r=>cases r with
      | nil=>rw [hq] at hl;simp at hl
      | cons y r=>cases r with
        | nil=>exact ⟨x,y,rfl⟩
        | cons z r=>rw [hq] at hl;simp at hl
  rw [hxy] at hpw
  have hlt:x < y:=(List.pairwise_cons.1 hpw).1 y (by simp)
  have mx:=lasts_iff.1 (show x ∈ lasts N g by rw [hxy];simp)
  have my:=lasts_iff.1 (show y ∈ lasts N g by rw [hxy];simp)
  obtain ⟨a,rfl⟩:=Int.eq_ofNat_of_zero_le mx.1.1
  obtain ⟨b,rfl⟩:=Int.eq_ofNat_of_zero_le my.1.1
  have ba:busy [] g a=false:=by simp only [busy,Bool.or_eq_false_iff,decide_eq_false_iff_not];exact ⟨by simp,mx.2⟩
  have bb:busy [] g b=false:=by simp only [busy,Bool.or_eq_false_iff,decide_eq_false_iff_not];exact ⟨by simp,my.2⟩
  have alive:∀ k:Nat,k < N→left.getD k 0=1→k=a ∨ k=b:=fun k hk h1=>by
    have h2:=(h.one hk).1 h1
    simp only [busy,Bool.or_eq_false_iff,decide_eq_false_iff_not] at h2
    have h3:(k:Int) ∈ lasts N g:=lasts_iff.2 ⟨by omega,h2.2⟩
    rw [hxy] at h3
    simp only [List.mem_cons,List.not_mem_nil,or_false] at h3
    omega
  have hi:=h.idx (w:=a) (by omega) ba
  obtain ⟨f1,f2⟩:=freeV_ok [] g N 0 a (by omega) (by omega) ba
  have f3:=freeV_least [] g N 0 a (by omega) (by omega) ba
  have f4:=alive _ (by omega) ((h.one (by omega)).2 f2)
  have hfa:freeV [] g N 0=a:=by omega
  rw [hfa] at hi
  have hll:=h.1
  refine ⟨a,b,hxy,by omega,by omega,hi,?_⟩
  have hb1:=(h.one (v:=b) (by omega)).2 bb
  have hbl:b < left.length:=by omega
  rw [List.getD_eq_getElem?_getD,List.getElem?_eq_getElem hbl,Option.getD_some] at hb1
  have hbd:b - (a+1) < (left.drop (a+1)).length:=by simp;omega
  have hbe:(left.drop (a+1))[b - (a+1)]=1:=by
    rw [List.getElem_drop]
    simp only [show a+1+(b - (a+1))=b by omega]
    exact hb1
  rcases idx_spec (fun y=>decide (1=y)) (left.drop (a+1)) 0 with ⟨h1,h2⟩ | ⟨k,hk,h1,h2,h3⟩
  · have:=h2 _ (List.getElem_mem hbd)
    rw [hbe] at this
    simp at this
  · rw [show ((0:Nat):Int)=0 from rfl] at h1
    rw [h1]
    have hk2:k < left.length - (a+1):=by simpa using hk
    have hk1:left.getD (a+1+k) 0=1:=by
      rw [List.getD_eq_getElem?_getD,List.getElem?_eq_getElem (by omega),Option.getD_some]
      have:=(of_decide_eq_true h2).symm
      rw [List.getElem_drop] at this
      exact this
    have:=alive (a+1+k) (by omega) hk1
    rw [Nat.zero_add]
    have:k=b - (a+1):=by omega
    rw [this]
theorem ev_TreeOfCode_no (code:List Int) (c:Bool) (hl:code.length≤1000) (h:okC code=false):Ev tb zl519 [] [L code c] [] ⟨.tup [.agg [I 0,Z],Bo false],[],[],[]⟩:=by
  have w1:IntKind.i64.wrap ((code.length:Int)+2)=(code.length:Int)+2:=wrap64 (by omega) (by omega)
  have w2:IntKind.i64.wrap ((code.length:Int)+2 - 1)=(code.length:Int)+1:=by rw [wrap64 (by omega) (by omega)];omega
  by_cases h7:code.length+2≤7
  · have h7':¬ (7:Int) < (code.length:Int)+2:=by omega
    rw [okC,decide_eq_true h7,Bool.true_and] at h
    have e1:=fun cc=>ev_lim (ev_allIn code cc 0 ((code.length:Int)+1) (by omega))
    rw [h] at e1
    refine call_of_wp zt519 rfl ?_
    repeat (first|apply wp_as|apply wp_ss|refine wr (by simp [w1,w2,h7',e1];with_reducible rfl) ?_|refine wq (by simp [w1,w2,h7',e1];with_reducible rfl) ?_|refine wt (by simpa [w1,w2,h7',e1]) ?_|refine wf (by simpa [w1,w2,h7',e1]) ?_|refine xt (by simpa [w1,w2,h7',e1]) ?_|refine xf (by simpa [w1,w2,h7',e1]) ?_|apply wp_bs|apply wp_b|refine wp_sr ?_|refine wp_sx ?_|refine wp_ret' ?_|refine wp_skip' ?_|refine wp_exit' ?_)
    simp [zi519]
  · have h7':(7:Int) < (code.length:Int)+2:=by omega
    refine call_of_wp zt519 rfl ?_
    repeat (first|apply wp_as|apply wp_ss|refine wr (by simp [w1,h7'];with_reducible rfl) ?_|refine wq (by simp [w1,h7'];with_reducible rfl) ?_|refine wt (by simpa [w1,h7']) ?_|refine wf (by simpa [w1,h7']) ?_|refine xt (by simpa [w1,h7']) ?_|refine xf (by simpa [w1,h7']) ?_|apply wp_bs|apply wp_b|refine wp_sr ?_|refine wp_sx ?_|refine wp_ret' ?_|refine wp_skip' ?_|refine wp_exit' ?_)
    simp [zi519]
set_option maxHeartbeats 4000000 in
theorem ev_TreeOfCode (code:List Int) (c:Bool) (hc:Code7 code):Ev tb zl519 [] [L code c] [] ⟨.tup [OG ((code.length:Int)+2) (codeT code),Bo true],[],[],[]⟩:=by
  have hlen:=hc.len
  have hL:=tocLaw hc
  have w1:IntKind.i64.wrap ((code.length:Int)+2)=(code.length:Int)+2:=wrap64 (by omega) (by omega)
  have w2:IntKind.i64.wrap ((code.length:Int)+2 - 1)=(code.length:Int)+1:=by rw [wrap64 (by omega) (by omega)];omega
  have h7':¬ (7:Int) < (code.length:Int)+2:=by omega
  have hok:=okC_iff.2 hc
  rw [okC,decide_eq_true (by omega),Bool.true_and] at hok
  have e1:=fun cc=>ev_lim (ev_allIn code cc 0 ((code.length:Int)+1) (by omega))
  rw [hok] at e1
  obtain ⟨N,hN⟩:∃ N,N=code.length+2:=⟨_,rfl⟩
  have hNi:(code.length:Int)+2=(N:Int):=by omega
  have hel:∀ x ∈ code,0≤x∧x < (N:Int):=fun x hx=>by have:=hc.el x hx;omega
  have lp1:=toc_left code c N (by omega) (by omega) N 0 (List.replicate N 0) [] (by omega) (by simp) (fun v hv=>by omega)
  rw [show ((0:Nat):Int)=0 from rfl] at lp1
  obtain ⟨q1,q2,q3⟩:=goneF_ok N code [] hel .nil (by simp) (by simp;omega)
  have hla:=lasts_all q1 q2
  simp only [List.length_nil,Nat.add_zero] at q3
  have hsp:=dcE_split N code []
  have hdl:(dcP N code []).length≤1000:=by
    have:∀ (rest gone:List Int),(dcP N rest gone).length=rest.length:=by
      intro rest
      induction rest with
      | nil=>intro gone;rfl
      | cons x r ih=>intro gone;rw [dcP,List.length_cons,ih,List.length_cons]
    rw [this];omega
  have lp2:=fun left hLF B=>toc_out code c N (by omega) (by omega) B code 0 [] left [] List.drop_zero (by omega) hLF (fun x hx=>⟨hel x hx,by simp⟩) (by simp;omega) (by simp;omega)
  rw [List.nil_append,show ((0:Nat):Int)=0 from rfl] at lp2
  generalize goneF N code []=g at *
  generalize hD:dcP N code []=D at *
  have two:∀ left,LF N [] g left→_:=fun left h=>last_two h (by omega)
  have hTnd:=hL.nd
  have hinn:=hL.inn
  have hsrt:=hL.dc
  rw [← hN] at hTnd hinn hsrt
  rw [hsp] at hTnd hinn hsrt
  rw [hNi] at w1 w2 h7' ⊢
  have back:∀ G:List (Int×Int),nl2 G=Z∧G=[] ∨ nl2 G=O2 G:=fun G=>by cases G <;> simp [nl2]
  have hl1:N≤274877906944:=by omega
  refine call_of_wp zt519 rfl ?_
  repeat (first|apply wp_as|apply wp_ss|refine wr (by simp [w1,w2,h7',e1,hNi];with_reducible rfl) ?_|refine wq (by simp [w1,w2,h7',e1,hNi];with_reducible rfl) ?_|refine wt (by simpa [w1,w2,h7',e1,hNi]) ?_|refine wf (by simpa [w1,w2,h7',e1,hNi]) ?_|refine xt (by simpa [w1,w2,h7',e1,hNi]) ?_|refine xf (by simpa [w1,w2,h7',e1,hNi]) ?_|apply wp_bs|apply wp_b|refine wp_sr ?_|refine wp_sx ?_|refine wp_ret' ?_|refine wp_skip' ?_|refine wp_exit' ?_)
  repeat (first|apply wp_as|apply wp_ss|refine wr (by simp [hl1];with_reducible rfl) ?_|refine wq (by simp [hl1];with_reducible rfl) ?_|refine wt (by simpa [hl1]) ?_|refine wf (by simpa [hl1]) ?_|refine xt (by simpa [hl1]) ?_|refine xf (by simpa [hl1]) ?_|apply wp_bs|apply wp_b|refine wp_sr ?_|refine wp_sx ?_|refine wp_ret' ?_|refine wp_skip' ?_|refine wp_exit' ?_)
  refine wp_imp lp1 ?_
  rintro ex st ⟨rfl,left,B',hLF,rfl⟩
  simp only [if_true]
  repeat (first|apply wp_as|apply wp_ss|refine wr (by simp;with_reducible rfl) ?_|refine wq (by simp;with_reducible rfl) ?_|refine wt (by simpa) ?_|refine wf (by simpa) ?_|refine xt (by simpa) ?_|refine xf (by simpa) ?_|apply wp_bs|apply wp_b|refine wp_sr ?_|refine wp_sx ?_|refine wp_ret' ?_|refine wp_skip' ?_|refine wp_exit' ?_)
  refine wp_imp (lp2 left hLF _) ?_
  rintro ex st ⟨rfl,left',hLF',rfl⟩
  simp only [if_true]
  obtain ⟨a,b,t1,t2,t3,t4,t5⟩:=two left' hLF'
  have hll:=hLF'.1
  have i1:=fun cc=>ev_lim (ev_Index left' cc 1 (by omega))
  have i2:=fun cc=>ev_lim (ev_Index (left'.drop (a+1)) cc 1 (by simp;omega))
  rw [t4] at i1
  rw [t5] at i2
  have a1:IntKind.i64.wrap ((a:Int)+1)=(a:Int)+1:=wrap64 (by omega) (by omega)
  have a2:IntKind.i64.wrap ((a:Int)+1+((b - (a+1):Nat):Int))=(b:Int):=by rw [wrap64 (by omega) (by omega)];omega
  have a3:a+1≤left'.length:=by omega
  have a4:(left'.drop (a+1)).take (left'.length - (a+1))=left'.drop (a+1):=List.take_of_length_le (by simp)
  rw [hll] at a3 a4
  have hE:dcE N [] g=[((a:Int),(b:Int))]:=by
    rw [dcE,t1]
    simp only [List.getD_cons_zero,List.getD_cons_succ]
    rw [show min (a:Int) b=a by omega,show max (a:Int) b=b by omega]
  rw [hE] at hTnd hinn hsrt
  have i3:=fun cc=>ev_lim (ev_made (N:Int) 2 (D++[((a:Int),(b:Int))]) cc (.inl rfl) (fun e he=>by have:=mem_prs.1 (hinn e he);exact ⟨by omega,by omega,by omega,by omega⟩) hTnd (by
    have h1:=(srtE_perm (D++[((a:Int),(b:Int))])).length_eq
    rw [hsrt,hL.len] at h1
    omega))
  rw [hsrt] at i3
  generalize codeT code=R at *
  have hlim:D.length+1≤274877906944:=by omega
  have hT:∀ z,List.take (D.length+1) (D++[z])=D++[z]:=fun z=>List.take_of_length_le (by simp)
  have hT2:List.take D.length D=D:=List.take_of_length_le (Nat.le_refl _)
  rcases back D with ⟨hb,hDn⟩ | hb
  · rw [hb]
    subst hDn
    simp only [List.nil_append,eds,List.map_cons,List.map_nil] at i3
    repeat (first|apply wp_as|apply wp_ss|refine wr (by simp [i1];with_reducible rfl) ?_|refine wq (by simp [i1];with_reducible rfl) ?_|refine wt (by simpa [i1]) ?_|refine wf (by simpa [i1]) ?_|refine xt (by simpa [i1]) ?_|refine xf (by simpa [i1]) ?_|apply wp_bs|apply wp_b|refine wp_sr ?_|refine wp_sx ?_|refine wp_ret' ?_|refine wp_skip' ?_|refine wp_exit' ?_)
    repeat (first|apply wp_as|apply wp_ss|refine wr (by simp [a1,a3,a4,i2,a2,hll];with_reducible rfl) ?_|refine wq (by simp [a1,a3,a4,i2,a2,hll];with_reducible rfl) ?_|refine wt (by simpa [a1,a3,a4,i2,a2,hll]) ?_|refine wf (by simpa [a1,a3,a4,i2,a2,hll]) ?_|refine xt (by simpa [a1,a3,a4,i2,a2,hll]) ?_|refine xf (by simpa [a1,a3,a4,i2,a2,hll]) ?_|apply wp_bs|apply wp_b|refine wp_sr ?_|refine wp_sx ?_|refine wp_ret' ?_|refine wp_skip' ?_|refine wp_exit' ?_)
    repeat (first|apply wp_as|apply wp_ss|refine wr (by simp [i3];with_reducible rfl) ?_|refine wq (by simp [i3];with_reducible rfl) ?_|refine wt (by simpa [i3]) ?_|refine wf (by simpa [i3]) ?_|refine xt (by simpa [i3]) ?_|refine xf (by simpa [i3]) ?_|apply wp_bs|apply wp_b|refine wp_sr ?_|refine wp_sx ?_|refine wp_ret' ?_|refine wp_skip' ?_|refine wp_exit' ?_)
    simp [zi519]
  · rw [hb]
    repeat (first|apply wp_as|apply wp_ss|refine wr (by simp [i1];with_reducible rfl) ?_|refine wq (by simp [i1];with_reducible rfl) ?_|refine wt (by simpa [i1]) ?_|refine wf (by simpa [i1]) ?_|refine xt (by simpa [i1]) ?_|refine xf (by simpa [i1]) ?_|apply wp_bs|apply wp_b|refine wp_sr ?_|refine wp_sx ?_|refine wp_ret' ?_|refine wp_skip' ?_|refine wp_exit' ?_)
    repeat (first|apply wp_as|apply wp_ss|refine wr (by simp [a1,a3,a4,i2,a2,hll];with_reducible rfl) ?_|refine wq (by simp [a1,a3,a4,i2,a2,hll];with_reducible rfl) ?_|refine wt (by simpa [a1,a3,a4,i2,a2,hll]) ?_|refine wf (by simpa [a1,a3,a4,i2,a2,hll]) ?_|refine xt (by simpa [a1,a3,a4,i2,a2,hll]) ?_|refine xf (by simpa [a1,a3,a4,i2,a2,hll]) ?_|apply wp_bs|apply wp_b|refine wp_sr ?_|refine wp_sx ?_|refine wp_ret' ?_|refine wp_skip' ?_|refine wp_exit' ?_)
    repeat (first|apply wp_as|apply wp_ss|refine wr (by simp [i3,hlim,hT,hT2];with_reducible rfl) ?_|refine wq (by simp [i3,hlim,hT,hT2];with_reducible rfl) ?_|refine wt (by simpa [i3,hlim,hT,hT2]) ?_|refine wf (by simpa [i3,hlim,hT,hT2]) ?_|refine xt (by simpa [i3,hlim,hT,hT2]) ?_|refine xf (by simpa [i3,hlim,hT,hT2]) ?_|apply wp_bs|apply wp_b|refine wp_sr ?_|refine wp_sx ?_|refine wp_ret' ?_|refine wp_skip' ?_|refine wp_exit' ?_)
    simp [zi519]
theorem ev_validCode (code:List Int) (c:Bool) (hl:code.length≤1000):Ev tb zl597 [] [L code c] [] ⟨Bo (okC code),[],[],[]⟩:=by
  have w1:IntKind.i64.wrap ((code.length:Int)+1)=(code.length:Int)+1:=wrap64 (by omega) (by omega)
  have w2:IntKind.i64.wrap ((code.length:Int)+2)=(code.length:Int)+2:=wrap64 (by omega) (by omega)
  have loop:∀ (m i:Nat),i+m=code.length→wp tb (.loop z597l6) { T:=[(0,L code c),(3,I i)],loc:=[],M:=[] }
      (fun ex st=>(ex=.exit 0∧((code.drop i).all fun x=>decide (0≤x) && decide (x≤(code.length:Int)+1))=true∧st={ T:=[(0,L code c),(3,I code.length),(7,Bo false)],loc:=[],M:=[] }) ∨
        ex=.ret∧((code.drop i).all fun x=>decide (0≤x) && decide (x≤(code.length:Int)+1))=false∧st={ T:=[(2,Bo false)],loc:=[],M:=[] }):=by
    intro m
    induction m with
    | zero =>
      intro i hi
      have h3:i=code.length:=hi
      subst h3
      refine wp_loop ?_
      repeat (first|apply wp_as|apply wp_ss|refine wr (by simp;with_reducible rfl) ?_|refine wq (by simp;with_reducible rfl) ?_|refine wt (by simpa) ?_|refine wf (by simpa) ?_|refine xt (by simpa) ?_|refine xf (by simpa) ?_|apply wp_bs|apply wp_b|refine wp_sr ?_|refine wp_sx ?_|refine wp_ret' ?_|refine wp_skip' ?_|refine wp_exit' ?_)
      exact .inl ⟨rfl,by simp,rfl⟩
    | succ m ih =>
      intro i hi
      have hi2:i < code.length:=by omega
      have hd:code.drop i=code[i]::code.drop (i+1):=List.drop_eq_getElem_cons hi2
      have w3:IntKind.i64.wrap ((i:Int)+1)=((i+1:Nat):Int):=wrapS (by omega)
      have e1:=ev_lim (ev_inRange code[i] 0 ((code.length:Int)+1))
      rw [hd,List.all_cons]
      have hn:=ih (i+1) (by omega)
      cases hq:(decide (0≤code[i]) && decide (code[i]≤(code.length:Int)+1)) with
      | false =>
        rw [hq] at e1
        refine wp_loop ?_
        repeat (first|apply wp_as|apply wp_ss|refine wr (by simp [hi2,w1,w3,e1];with_reducible rfl) ?_|refine wq (by simp [hi2,w1,w3,e1];with_reducible rfl) ?_|refine wt (by simpa [hi2,w1,w3,e1]) ?_|refine wf (by simpa [hi2,w1,w3,e1]) ?_|refine xt (by simpa [hi2,w1,w3,e1]) ?_|refine xf (by simpa [hi2,w1,w3,e1]) ?_|apply wp_bs|apply wp_b|refine wp_sr ?_|refine wp_sx ?_|refine wp_ret' ?_|refine wp_skip' ?_|refine wp_exit' ?_)
        exact .inr ⟨rfl,by simp,rfl⟩
      | true =>
        rw [hq] at e1
        rw [Bool.true_and]
        refine wp_loop ?_
        repeat (first|apply wp_as|apply wp_ss|refine wr (by simp [hi2,w1,w3,e1];with_reducible rfl) ?_|refine wq (by simp [hi2,w1,w3,e1];with_reducible rfl) ?_|refine wt (by simpa [hi2,w1,w3,e1]) ?_|refine wf (by simpa [hi2,w1,w3,e1]) ?_|refine xt (by simpa [hi2,w1,w3,e1]) ?_|refine xf (by simpa [hi2,w1,w3,e1]) ?_|apply wp_bs|apply wp_b|refine wp_sr ?_|refine wp_sx ?_|refine wp_ret' ?_|refine wp_skip' ?_|refine wp_exit' ?_)
        exact hn
  have loop:=loop code.length 0 (by omega)
  rw [show ((0:Nat):Int)=0 from rfl,List.drop_zero] at loop
  refine call_of_wp zt597 rfl ?_
  repeat (first|apply wp_as|apply wp_ss|refine wr (by simp;with_reducible rfl) ?_|refine wq (by simp;with_reducible rfl) ?_|refine wt (by simpa) ?_|refine wf (by simpa) ?_|refine xt (by simpa) ?_|refine xf (by simpa) ?_|apply wp_bs|apply wp_b|refine wp_sr ?_|refine wp_sx ?_|refine wp_ret' ?_|refine wp_skip' ?_|refine wp_exit' ?_)
  refine wp_imp loop ?_
  rintro ex st (⟨rfl,h,rfl⟩ | ⟨rfl,h,rfl⟩)
  · simp only [if_true]
    rw [okC,h,Bool.and_true]
    by_cases h7:code.length+2≤7
    · have h7':(code.length:Int)+2≤7:=by omega
      repeat (first|apply wp_as|apply wp_ss|refine wr (by simp [w2,h7'];with_reducible rfl) ?_|refine wq (by simp [w2,h7'];with_reducible rfl) ?_|refine wt (by simpa [w2,h7']) ?_|refine wf (by simpa [w2,h7']) ?_|refine xt (by simpa [w2,h7']) ?_|refine xf (by simpa [w2,h7']) ?_|apply wp_bs|apply wp_b|refine wp_sr ?_|refine wp_sx ?_|refine wp_ret' ?_|refine wp_skip' ?_|refine wp_exit' ?_)
      simp [zi597,h7]
    · have h7':¬ (code.length:Int)+2≤7:=by omega
      repeat (first|apply wp_as|apply wp_ss|refine wr (by simp [w2,h7'];with_reducible rfl) ?_|refine wq (by simp [w2,h7'];with_reducible rfl) ?_|refine wt (by simpa [w2,h7']) ?_|refine wf (by simpa [w2,h7']) ?_|refine xt (by simpa [w2,h7']) ?_|refine xf (by simpa [w2,h7']) ?_|apply wp_bs|apply wp_b|refine wp_sr ?_|refine wp_sx ?_|refine wp_ret' ?_|refine wp_skip' ?_|refine wp_exit' ?_)
      simp [zi597,h7]
  · rw [okC,h,Bool.and_false]
    simp [zi597]
theorem ev_spec_TreeOfCode (code:List Int) (c:Bool) (hl:code.length≤1000):Ev tb zl580 [] [L code c] [] ⟨if okC code=true then .tup [OG ((code.length:Int)+2) (codeT code),Bo true] else .tup [.agg [I 0,Z],Bo false],[],[],[]⟩:=by
  have e1:=fun cc=>ev_lim (ev_validCode code cc hl)
  cases hok:okC code with
  | false =>
    rw [hok] at e1
    refine call_of_wp zt580 rfl ?_
    repeat (first|apply wp_as|apply wp_ss|refine wr (by simp [e1];with_reducible rfl) ?_|refine wq (by simp [e1];with_reducible rfl) ?_|refine wt (by simpa [e1]) ?_|refine wf (by simpa [e1]) ?_|refine xt (by simpa [e1]) ?_|refine xf (by simpa [e1]) ?_|apply wp_bs|apply wp_b|refine wp_sr ?_|refine wp_sx ?_|refine wp_ret' ?_|refine wp_skip' ?_|refine wp_exit' ?_)
    simp [zi580]
  | true =>
    rw [hok] at e1
    have e2:=fun cc=>ev_lim (ev_codeTree code cc (okC_iff.1 hok))
    refine call_of_wp zt580 rfl ?_
    repeat (first|apply wp_as|apply wp_ss|refine wr (by simp [e1,e2];with_reducible rfl) ?_|refine wq (by simp [e1,e2];with_reducible rfl) ?_|refine wt (by simpa [e1,e2]) ?_|refine wf (by simpa [e1,e2]) ?_|refine xt (by simpa [e1,e2]) ?_|refine xf (by simpa [e1,e2]) ?_|apply wp_bs|apply wp_b|refine wp_sr ?_|refine wp_sx ?_|refine wp_ret' ?_|refine wp_skip' ?_|refine wp_exit' ?_)
    simp [zi580]
end Go.Idl
namespace Go.Idl
def Same (es:List (Int×Int)) (u v:Nat):Prop:=∀ p,Cl es p→p u=p v
theorem Same.symm {es:List (Int×Int)} {u v:Nat} (h:Same es u v):Same es v u:=fun p hp=>(h p hp).symm
theorem Same.trans {es:List (Int×Int)} {u v w:Nat} (h:Same es u v) (k:Same es v w):Same es u w:=fun p hp=>(h p hp).trans (k p hp)
theorem Same.mono {es fs:List (Int×Int)} (h:∀ e ∈ es,e ∈ fs) {u v:Nat} (k:Same es u v):Same fs u v:=fun p hp=>k p fun e he=>hp e (h e he)
theorem same_edge {es:List (Int×Int)} {e:Int×Int} (h:e ∈ es):Same es e.1.toNat e.2.toNat:=fun _ hp=>hp e h
theorem grow2 {n:Nat} {es:List (Int×Int)} (S:Nat→Bool) (hSn:∀ u,S u=true→u < n) (hCl:Cl es S) (hC:∀ p,Cl es p→∀ u v,S u=true→S v=true→p u=p v) (Z:Nat→Nat→Bool) (h0:∃ v,S v=true∧Z 0 v=true) (hm:∀ k v,Z k v=true→Z (k+1) v=true)
    (he:∀ k,∀ e ∈ es,(Z k e.1.toNat=true ∨ Z k e.2.toNat=true)→Z (k+1) e.1.toNat=true∧Z (k+1) e.2.toNat=true):∀ k,min (k+1) ((List.range n).countP S)≤(List.range n).countP (fun v=>S v && Z k v)∧∃ v,S v=true∧Z k v=true
  | 0=>by
    obtain ⟨v,hv,hz⟩:=h0
    have:0 < (List.range n).countP (fun v=>S v && Z 0 v):=List.countP_pos_iff.2 ⟨v,List.mem_range.2 (hSn v hv),by rw [hv,hz];rfl⟩
    exact ⟨by omega,v,hv,hz⟩
  | k+1=>by
    obtain ⟨ih,v,hv,hz⟩:=grow2 S hSn hCl hC Z h0 hm he k
    refine ⟨?_,v,hv,hm k v hz⟩
    have hmono:∀ x ∈ List.range n,(S x && Z k x)=true→(S x && Z (k+1) x)=true:=fun x _ h=>by
      rw [Bool.and_eq_true] at h ⊢
      exact ⟨h.1,hm k x h.2⟩
    have hle:=List.countP_mono_left hmono
    by_cases hall:∀ u,S u=true→Z k u=true
    · have:(List.range n).countP (fun v=>S v && Z k v)=(List.range n).countP S:=List.countP_congr fun x _=>by
        rw [Bool.and_eq_true]
        exact ⟨fun h=>h.1,fun h=>⟨h,hall x h⟩⟩
      omega
    · simp only [Classical.not_forall] at hall
      obtain ⟨u,hu,hzu⟩:=hall
      have hncl:¬ Cl es (fun x=>S x && Z k x):=fun hc=>by
        have:=hC _ hc u v hu hv
        simp only [hu,hv,hz,Bool.true_and] at this
        exact hzu this
      simp only [Cl,Classical.not_forall] at hncl
      obtain ⟨e,hee,hne⟩:=hncl
      have hS:=hCl e hee
      have hlt:(List.range n).countP (fun v=>S v && Z k v) < (List.range n).countP (fun v=>S v && Z (k+1) v):=by
        refine countP_lt hmono ?_
        cases h1:S e.1.toNat with
        | false=>rw [← hS,h1] at hne;exact absurd rfl hne
        | true =>
          rw [← hS,h1,Bool.true_and,Bool.true_and] at hne
          have h1':=hS.symm.trans h1
          cases h3:Z k e.1.toNat with
          | true =>
            have h2:Z k e.2.toNat=false:=by
              cases h2:Z k e.2.toNat with
              | false=>rfl
              | true=>rw [h3,h2] at hne;exact absurd rfl hne
            exact ⟨_,List.mem_range.2 (hSn _ h1'),by rw [h2,Bool.and_false],by rw [h1',(he k e hee (.inl h3)).2];rfl⟩
          | false =>
            have h2:Z k e.2.toNat=true:=by
              cases h2:Z k e.2.toNat with
              | true=>rfl
              | false=>rw [h3,h2] at hne;exact absurd rfl hne
            exact ⟨_,List.mem_range.2 (hSn _ h1),by rw [h3,Bool.and_false],by rw [h1,(he k e hee (.inr h2)).1];rfl⟩
      omega
theorem fold_le {n:Nat}:∀ (es:List (Int×Int)) {o:List Int},o.length=n→(∀ e ∈ es,e.1.toNat < n∧e.2.toNat < n)→∀ v,(es.foldl relax o).getD v 0≤o.getD v 0
  | [],_,_,_,_=>Int.le_refl _
  | e::es,o,hl,he,v=>by
    have hb:=he e (by simp)
    refine Int.le_trans (fold_le es (by rw [relax_len];exact hl) (fun x hx=>he x (by simp [hx])) v) ?_
    rw [relax_get (by omega) (by omega)]
    split
    · rename_i hq
      rcases hq with rfl | rfl <;> omega
    · exact Int.le_refl _
theorem fold_edge_le {n:Nat}:∀ (es:List (Int×Int)) {o:List Int},o.length=n→(∀ e ∈ es,e.1.toNat < n∧e.2.toNat < n)→∀ e ∈ es,
    (es.foldl relax o).getD e.1.toNat 0≤min (o.getD e.1.toNat 0) (o.getD e.2.toNat 0)∧(es.foldl relax o).getD e.2.toNat 0≤min (o.getD e.1.toNat 0) (o.getD e.2.toNat 0)
  | [],_,_,_,_,h=>by cases h
  | f::es,o,hl,he,e,hm=>by
    have hb:=he f (by simp)
    have he':∀ e ∈ es,e.1.toNat < n∧e.2.toNat < n:=fun x hx=>he x (by simp [hx])
    have hl2:(relax o f).length=n:=by rw [relax_len];exact hl
    have rg:=fun v=>relax_get (o:=o) (e:=f) (by omega) (by omega) v
    rw [List.foldl_cons]
    rcases List.mem_cons.1 hm with rfl | hm2
    · have a:=fold_le es hl2 he' e.1.toNat
      have b:=fold_le es hl2 he' e.2.toNat
      rw [rg,if_pos (.inl rfl)] at a
      rw [rg,if_pos (.inr rfl)] at b
      exact ⟨a,b⟩
    · have ih:=fold_edge_le es hl2 he' e hm2
      have le1:∀ v,(relax o f).getD v 0≤o.getD v 0:=fun v=>by
        rw [rg]
        split
        · rename_i hq
          rcases hq with rfl | rfl <;> omega
        · exact Int.le_refl _
      have a:=le1 e.1.toNat
      have b:=le1 e.2.toNat
      omega
abbrev rtF (n:Nat) (es:List (Int×Int)):List Int:=rnds es n (idxB n (-1))
open Classical in
theorem rt_least {n:Nat} {es:List (Int×Int)} (hes:∀ e ∈ es,e.1.toNat < n∧e.2.toNat < n) {v:Nat} (hv:v < n) :
    ∃ m:Nat,m < n∧Same es v m∧(∀ u,u < n→Same es v u→m≤u)∧∀ u,u < n→Same es v u→(rtF n es).getD u 0=m:=by
  obtain ⟨S,hS⟩:∃ S:Nat→Bool,S=fun u=>decide (u < n∧Same es v u):=⟨_,rfl⟩
  have hSi:∀ u,S u=true ↔ u < n∧Same es v u:=fun u=>by rw [hS];exact decide_eq_true_iff
  have hSv:S v=true:=(hSi v).2 ⟨hv,fun _ _=>rfl⟩
  obtain ⟨m,hm1,hm2,hm3⟩:=least_of hv hSv
  have hSm:=(hSi m).1 hm2
  have hmin:∀ u,S u=true→m≤u:=fun u hu=>Nat.le_of_not_lt fun h=>hm3 u h hu
  have hCl:Cl es S:=fun e he=>by
    have hb:=hes e he
    have hse:=same_edge he
    rw [Bool.eq_iff_iff,hSi,hSi]
    exact ⟨fun h=>⟨hb.2,h.2.trans hse⟩,fun h=>⟨hb.1,h.2.trans hse.symm⟩⟩
  have hC:∀ p,Cl es p→∀ u w,S u=true→S w=true→p u=p w:=fun p hp u w hu hw =>
    (((hSi u).1 hu).2 p hp).symm.trans (((hSi w).1 hw).2 p hp)
  have hinv:∀ k,RInv n S (rnds es k (idxB n (-1))):=fun k=>rnds_inv hes hCl k (base_inv n S)
  have hlow:∀ k u,S u=true→(m:Int)≤(rnds es k (idxB n (-1))).getD u 0:=fun k u hu=>by
    have h1:=(hinv k).2 u ((hSi u).1 hu).1
    have:=hmin _ (h1.2.2.trans hu)
    omega
  have g:=grow2 S (fun u hu=>((hSi u).1 hu).1) hCl hC (fun k u=>S u && decide ((rnds es k (idxB n (-1))).getD u 0=m)) ⟨m,hm2,by
      show (S m && decide ((idxB n (-1)).getD m 0=m))=true
      rw [hm2,Bool.true_and]
      refine decide_eq_true ?_
      rw [idxB_all,List.getD_eq_getElem?_getD,List.getElem?_map,List.getElem?_range hm1];rfl⟩ (fun k u h=>by
      simp only [Bool.and_eq_true,decide_eq_true_eq] at h ⊢
      have h1:=fold_le es (hinv k).1 hes u
      have h2:=hlow (k+1) u h.1
      rw [rnds_succ] at h2 ⊢
      exact ⟨h.1,by omega⟩) (fun k e he h=>by
      simp only [Bool.and_eq_true,decide_eq_true_eq] at h ⊢
      have hse:=hCl e he
      have hs1:S e.1.toNat=true:=h.elim (fun h=>h.1) (fun h=>hse.trans h.1)
      have hs2:=hse.symm.trans hs1
      have h1:=fold_edge_le es (hinv k).1 hes e he
      have h2:=hlow (k+1) _ hs1
      have h3:=hlow (k+1) _ hs2
      have h4:=hlow k _ hs1
      have h5:=hlow k _ hs2
      rw [rnds_succ] at h2 h3 ⊢
      refine ⟨⟨hs1,?_⟩,hs2,?_⟩ <;> rcases h with h | h <;> omega) n
  have hcS:(List.range n).countP S≤n:=by have:=List.countP_le_length (p:=S) (l:=List.range n);simpa using this
  have hall:∀ u,S u=true→(rtF n es).getD u 0=m:=fun u hu=>by
    refine Classical.byContradiction fun hno=>?_
    have hlt:(List.range n).countP (fun v=>S v && (S v && decide ((rnds es n (idxB n (-1))).getD v 0=m))) < (List.range n).countP S :=
      countP_lt (fun x _ h=>by rw [Bool.and_eq_true] at h;exact h.1) ⟨u,List.mem_range.2 ((hSi u).1 hu).1,by
        rw [decide_eq_false hno];simp,hu⟩
    have:=g.1
    omega
  exact ⟨m,hm1,hSm.2,fun u hu hs=>hmin u ((hSi u).2 ⟨hu,hs⟩),fun u hu hs=>hall u ((hSi u).2 ⟨hu,hs⟩)⟩
def Lb (n:Nat) (es:List (Int×Int)) (r:Nat):Bool:=decide ((rtF n es).getD r 0=r)
theorem compI_cnt (n:Nat) (es:List (Int×Int)):(compI n es).length=(List.range n).countP (Lb n es):=by
  rw [compI_len,rgF,List.drop_zero,← List.countP_eq_length_filter,List.countP_map]
  rfl
theorem Lb_iff {n:Nat} {es:List (Int×Int)} (hes:∀ e ∈ es,e.1.toNat < n∧e.2.toNat < n) {r:Nat} (hr:r < n):Lb n es r=true ↔ ∀ u,u < n→Same es r u→r≤u:=by
  obtain ⟨m,h1,h2,h3,h4⟩:=rt_least hes hr
  have h5:=h4 r hr (fun _ _=>rfl)
  rw [Lb,h5,decide_eq_true_eq]
  constructor
  · intro h u hu hs
    have:=h3 u hu hs
    omega
  · intro h
    have a:=h m h1 h2
    have b:=h3 r hr (fun _ _=>rfl)
    omega
theorem joins {n:Nat} {es fs:List (Int×Int)} (hes:∀ e ∈ es,e.1.toNat < n∧e.2.toNat < n) (hfs:∀ e ∈ fs,e.1.toNat < n∧e.2.toNat < n) (h:∀ u v,Same es u v→Same fs u v) {x y:Nat} (hx:x < n) (hy:y < n) (h1:Same fs x y) (h2:¬ Same es x y) :
    (compI n fs).length < (compI n es).length:=by
  rw [compI_cnt,compI_cnt]
  refine countP_lt (fun r hr hl=>(Lb_iff hes (List.mem_range.1 hr)).2 fun u hu hs=>(Lb_iff hfs (List.mem_range.1 hr)).1 hl u hu (h _ _ hs)) ?_
  obtain ⟨a,a1,a2,a3,a4⟩:=rt_least hes hx
  obtain ⟨b,b1,b2,b3,b4⟩:=rt_least hes hy
  have hab:a ≠ b:=fun hh=>h2 (a2.trans (hh ▸ b2.symm))
  have hs:Same fs a b:=(h _ _ a2.symm).trans (h1.trans (h _ _ b2))
  have key:∀ c d,c < n→d < n→c < d→Same fs d c→(∀ u,u < n→Same es d u→d≤u)→∃ r ∈ List.range n,Lb n fs r=false∧Lb n es r=true:=fun c d hc hd hcd hsd hl =>
    ⟨d,List.mem_range.2 hd,by
      cases hq:Lb n fs d with
      | false=>rfl
      | true=>have:=(Lb_iff hfs hd).1 hq c hc hsd;omega,(Lb_iff hes hd).2 hl⟩
  rcases Nat.lt_or_gt_of_ne hab with hlt | hlt
  · exact key a b a1 b1 hlt hs.symm fun u hu hs2=>b3 u hu (b2.trans hs2)
  · exact key b a b1 a1 hlt hs fun u hu hs2=>a3 u hu (a2.trans hs2)
end Go.Idl
namespace Go.Idl
open Go
section
variable {tb:Tbl} {st:St} {Q:Ex→St→Prop}
theorem wp_rws {ops s t live b st1 st2 st3} (h:execOps (limF tb) st ops=some st1) (hs:st1.swapS s t=some st2) (hc:st2.cut live=st3) (hb:wp tb b st3 Q):wp tb (.seq (.regw ops s t live) b) st Q:=by
  subst hc
  simp only [wpi_seq]
  exact ⟨st1,h,st2,hs,hb⟩
end
theorem eds_allSc (xs:List (Int×Int)):((eds xs).all fun x=>x.all IV.isSc)=true:=by
  induction xs with
  | nil=>rfl
  | cons x xs ih=>simp only [eds,List.map_cons,List.all_cons] at *;rw [ih];rfl
abbrev EE:=Int×Int
theorem del_take {α:Type} (xs:List α) (v m:Nat) (hm:xs.length=v+1+m) (W:List α) (hW:W=xs.take v++((xs.drop (v+1)).take m++xs.drop (v+m))):W.length=v+1+m∧W.take (v+m)=xs.eraseIdx v:=by
  subst hW
  refine ⟨by simp;omega,?_⟩
  rw [List.eraseIdx_eq_take_drop_succ,← List.append_assoc,List.take_append_of_le_length (by simp;omega),List.take_of_length_le (by simp;omega),List.take_of_length_le (l:=xs.drop (v+1)) (by simp;omega)]
theorem ev_DeleteE (xs:List EE) (v:Nat) (hv:v < xs.length) (hl:xs.length≤1000000) (M:List Boxes) :
    Ev tb zl552 [] [O2 xs,I v,I ((v:Int)+1)] M ⟨O2 (xs.eraseIdx v),[],M,[]⟩:=by
  have h1:v+1≤xs.length:=by omega
  have h2:v≤xs.length:=by omega
  have h3:¬ v=v+1:=by omega
  have h4:¬ (v:Int)=(v:Int)+1:=by omega
  have h5:v≤v+1:=by omega
  have h6:¬ (xs.length:Int) < (v:Int)+1:=by omega
  have step:∀ b,wp tb (.seq z552r4 (.seq z552r5 (.seq z552r6 (.seq z552r7 .ret)))) { T:=[(0,O2 xs),(1,I v),(2,I ((v:Int)+1)),(16,Bo b),(18,.un)],loc:=[],M:=M }
      (fun ex st=>(ex=.normal ∨ ex=.ret)∧finish zi552 [] st=some { v:=O2 (xs.eraseIdx v),back:=[],M:=M,exp:=[] }):=by
    intro b
    obtain ⟨m,hm⟩:∃ m,xs.length=v+1+m:=⟨xs.length - (v+1),by omega⟩
    have f0:xs.length - (v+1)=m:=by omega
    have f1:v+m≤xs.length:=by omega
    have f3:xs.length - (v+m)=1:=by omega
    refine wp_rws (by simp;with_reducible rfl) (by simp [St.swapS];with_reducible rfl) (by simp;with_reducible rfl) ?_
    by_cases h7:m=0
    · subst h7
      have hv1:v+1=xs.length:=by omega
      have g1:xs.length - v=1:=by omega
      have g2:xs.eraseIdx v=xs.take v:=by
        rw [List.eraseIdx_eq_take_drop_succ,List.drop_of_length_le (by omega),List.append_nil]
      refine wr (by simp [h1,h2,h3,h4,h5,h6,hv1,eds_allSc];with_reducible rfl) ?_
      refine wr (by simp [h1,h2,h3,h4,h5,h6,hv1,g1,eds_allSc,eds_len];with_reducible rfl) ?_
      refine wr (by simp [h1,h2,h3,h4,h5,h6,hv1,eds_allSc];with_reducible rfl) ?_
      refine wp_ret' ?_
      simp [zi552,g2]
    · have f4:v+1+m≤xs.length:=by omega
      have f5:¬ eds ((xs.drop (v+1)).take m)=[]:=fun h=>by have:=congrArg List.length h;simp at this;omega
      have f6:((xs.drop (v+1)).take m).length=m:=by simp;omega
      refine wr (by simp [h1,h2,h3,h4,h5,h6,f0,f1,f4,f5,f6,h7,eds_allSc];with_reducible rfl) ?_
      obtain ⟨q1,q2⟩:=del_take xs v m hm _ rfl
      generalize xs.take v++((xs.drop (v+1)).take m++xs.drop (v+m))=W at *
      have g3:W.length - (v+m)=1:=by omega
      have g4:v+m≤W.length:=by omega
      have g5:xs.length=W.length:=by omega
      have g7:v+m+1≤W.length:=by omega
      have g8:(W.take (v+m)).length=v+m:=by simp;omega
      have g6:natOf (.sc (.int .i64 ((v:Int)+(m:Int))))=some (v+m):=natOf_nat (n:=v+m)
      refine wr (by simp [g5,g3,g4,g6,g7,eds_allSc];with_reducible rfl) ?_
      refine wr (by simp [g5,g3,g4,g6,g7,eds_allSc];with_reducible rfl) ?_
      refine wp_ret' ?_
      simp [zi552,List.take_append,q2,g4]
  by_cases h7:v+1=xs.length
  · refine call_of_wp zt552 rfl ?_
    iterate 6 (first|apply wp_as|apply wp_ss|refine wr (by simp [h1,h2,h3,h4,h5,h6,h7];with_reducible rfl) ?_|refine wq (by simp [h1,h2,h3,h4,h5,h6,h7];with_reducible rfl) ?_|refine wt (by simpa [h1,h2,h3,h4,h5,h6,h7]) ?_|refine wf (by simpa [h1,h2,h3,h4,h5,h6,h7]) ?_|refine xt (by simpa [h1,h2,h3,h4,h5,h6,h7]) ?_|refine xf (by simpa [h1,h2,h3,h4,h5,h6,h7]) ?_|apply wp_bs|apply wp_b|refine wp_sr ?_|refine wp_sx ?_|refine wp_ret' ?_|refine wp_skip' ?_|refine wp_exit' ?_)
    exact step _
  · refine call_of_wp zt552 rfl ?_
    iterate 6 (first|apply wp_as|apply wp_ss|refine wr (by simp [h1,h2,h3,h4,h5,h6,h7];with_reducible rfl) ?_|refine wq (by simp [h1,h2,h3,h4,h5,h6,h7];with_reducible rfl) ?_|refine wt (by simpa [h1,h2,h3,h4,h5,h6,h7]) ?_|refine wf (by simpa [h1,h2,h3,h4,h5,h6,h7]) ?_|refine xt (by simpa [h1,h2,h3,h4,h5,h6,h7]) ?_|refine xf (by simpa [h1,h2,h3,h4,h5,h6,h7]) ?_|apply wp_bs|apply wp_b|refine wp_sr ?_|refine wp_sx ?_|refine wp_ret' ?_|refine wp_skip' ?_|refine wp_exit' ?_)
    exact step _
end Go.Idl
namespace Go.Idl
open Go
theorem ev_ClipI (xs:List Int):Ev tb zl70 [] [nlI xs] [] ⟨nlI xs,[],[],[]⟩:=by
  cases xs with
  | nil =>
    simp only [nlI]
    refine call_of_wp zt70 rfl ?_
    repeat (first|apply wp_as|apply wp_ss|refine wr (by simp;with_reducible rfl) ?_|refine wq (by simp;with_reducible rfl) ?_|refine wt (by simpa) ?_|refine wf (by simpa) ?_|refine xt (by simpa) ?_|refine xf (by simpa) ?_|apply wp_bs|apply wp_b|refine wp_sr ?_|refine wp_sx ?_|refine wp_ret' ?_|refine wp_skip' ?_|refine wp_exit' ?_)
    simp [zi70]
  | cons s r =>
    simp only [nlI]
    refine call_of_wp zt70 rfl ?_
    repeat (first|apply wp_as|apply wp_ss|refine wr (by simp;with_reducible rfl) ?_|refine wq (by simp;with_reducible rfl) ?_|refine wt (by simpa) ?_|refine wf (by simpa) ?_|refine xt (by simpa) ?_|refine xf (by simpa) ?_|apply wp_bs|apply wp_b|refine wp_sr ?_|refine wp_sx ?_|refine wp_ret' ?_|refine wp_skip' ?_|refine wp_exit' ?_)
    simp [zi70]
theorem nlI_app (acc:List Int) (x:Int):nlI (acc++[x])=O (acc++[x]):=by cases acc <;> rfl
structure Stp (N:Nat) (gone:List Int) (es:List (Int×Int)) (v:Nat) (e:Int×Int):Prop where
  vN:v < N
  dv:deg es v=1
  first:∀ w,w < v→deg es w ≠ 1
  em:e ∈ es
  ep:tcP v e=true
  find:es.find? (tcP v)=some e
  all:∀ f ∈ es,tcP v f=true→f=e
  lf:lf N es=some v
  rest:∀ m,tcE N (m+1) es=(e.1+e.2 - v)::tcE N m (es.filter fun x=>!decide (x=e))
theorem Tre.stp {N:Nat} {gone:List Int} {es:List (Int×Int)} (h:Tre N gone es) (h2:2≤es.length):∃ v e,Stp N gone es v e:=by
  obtain ⟨v,hv⟩:=h.leaf (by omega)
  obtain ⟨v1,v2,v3⟩:=lf_spec hv
  obtain ⟨e',he',hp'⟩:=deg_ex (es:=es) (v:=v) (by omega)
  cases hf:es.find? (tcP v) with
  | none=>have:=List.find?_eq_none.1 hf e' he';rw [hp'] at this;exact absurd rfl this
  | some e =>
    have he:=List.mem_of_find?_eq_some hf
    have hp:=List.find?_some hf
    have hpm:=perm_out h.nd he
    refine ⟨v,e,v1,v2,v3,he,hp,hf,fun f hfm hfp=>?_,hv,fun m=>by rw [tcE,if_neg (by omega),hv];simp only [hf]⟩
    rcases List.mem_cons.1 (hpm.mem_iff.1 hfm) with h1 | h1
    · exact h1
    · have q1:=deg_pm hpm v
      have q2:deg (e::es.filter fun x=>!decide (x=e)) v=inc v e+deg (es.filter fun x=>!decide (x=e)) v:=by rw [deg,S_cons];rfl
      have q3:=inc_has hp
      have q4:=deg_has h1 hfp
      omega
theorem tre_in {N:Nat} {gone:List Int} {es:List (Int×Int)} (h:Tre N gone es):EdgesIn N es:=fun e he=>by have:=mem_prs.1 (h.inn e he).1;omega
theorem stp_idx {N:Nat} {gone:List Int} {es:List (Int×Int)} (h:Tre N gone es) {v:Nat} {e:Int×Int} (s:Stp N gone es v e):idx (fun x=>decide (1=x)) 0 (degs N es)=(v:Nat):=by
  rw [degs_eq (tre_in h)]
  have hl:((List.range N).map (deg es)).length=N:=by simp
  have hvl:v < ((List.range N).map (deg es)).length:=by rw [hl];exact s.vN
  have gk:∀ k (hk:k < ((List.range N).map (deg es)).length),((List.range N).map (deg es))[k]=deg es k:=fun k hk=>by simp
  rcases idx_spec (fun y=>decide (1=y)) ((List.range N).map (deg es)) 0 with ⟨h1,h2⟩ | ⟨k,hk,h1,h2,h3⟩
  · have:=h2 _ (List.getElem_mem hvl)
    rw [gk,s.dv] at this
    simp at this
  · rw [show ((0:Nat):Int)=0 from rfl] at h1
    rw [h1,Nat.zero_add]
    have hk1:deg es k=1:=by rw [← gk k hk];exact (of_decide_eq_true h2).symm
    by_cases hlt:v < k
    · have hm:((List.range N).map (deg es))[v] ∈ ((List.range N).map (deg es)).take k:=by
        rw [List.mem_take_iff_getElem];exact ⟨v,by omega,rfl⟩
      have:=h3 _ hm
      rw [gk,s.dv] at this
      simp at this
    · by_cases hlt2:k < v
      · exact absurd hk1 (s.first k hlt2)
      · rw [show k=v by omega]
theorem ev_tc_F1 (x:Int×Int) (i:Nat) (B:Boxes) (k:Nat) (hB:B[k]? = some [I i]) (Ms:List Boxes):Ev tb zl518 [] [.agg [I x.1,I x.2],.bptr 0 k 0] (B::Ms) ⟨Bo (tcP i x),[],B::Ms,[]⟩:=by
  obtain ⟨a,b⟩:=x
  by_cases h1:a=(i:Int)
  · refine call_of_wp zt518 rfl ?_
    repeat (first|apply wp_as|apply wp_ss|refine wr (by simp [hB,h1];with_reducible rfl) ?_|refine wq (by simp [hB,h1];with_reducible rfl) ?_|refine wt (by simpa [hB,h1]) ?_|refine wf (by simpa [hB,h1]) ?_|refine xt (by simpa [hB,h1]) ?_|refine xf (by simpa [hB,h1]) ?_|apply wp_bs|apply wp_b|refine wp_sr ?_|refine wp_sx ?_|refine wp_ret' ?_|refine wp_skip' ?_|refine wp_exit' ?_)
    simp [zi518,tcP,h1]
  · refine call_of_wp zt518 rfl ?_
    repeat (first|apply wp_as|apply wp_ss|refine wr (by simp [hB,h1];with_reducible rfl) ?_|refine wq (by simp [hB,h1];with_reducible rfl) ?_|refine wt (by simpa [hB,h1]) ?_|refine wf (by simpa [hB,h1]) ?_|refine xt (by simpa [hB,h1]) ?_|refine xf (by simpa [hB,h1]) ?_|apply wp_bs|apply wp_b|refine wp_sr ?_|refine wp_sx ?_|refine wp_ret' ?_|refine wp_skip' ?_|refine wp_exit' ?_)
    simp [zi518,tcP,h1]
    try rfl
theorem erase_filter {es:List (Int×Int)} (hn:es.Nodup) {k:Nat} (hk:k < es.length):es.eraseIdx k=es.filter fun x=>!decide (x=es[k]):=by
  have h1:es=es.take k++es[k]::es.drop (k+1):=by rw [← List.drop_eq_getElem_cons hk,List.take_append_drop]
  rw [List.eraseIdx_eq_take_drop_succ]
  generalize es[k]=e at *
  rw [h1,List.nodup_append,List.nodup_cons] at hn
  conv=>rhs;rw [h1]
  rw [List.filter_append,List.filter_cons]
  simp only [decide_true,Bool.not_true,Bool.false_eq_true,if_false]
  have f1:(es.take k).filter (fun x=>!decide (x=e))=es.take k:=List.filter_eq_self.2 fun x hx=>by
    simp only [Bool.not_eq_true',decide_eq_false_iff_not]
    exact fun hh=>hn.2.2 x hx _ (by simp) hh
  have f2:(es.drop (k+1)).filter (fun x=>!decide (x=e))=es.drop (k+1):=List.filter_eq_self.2 fun x hx=>by
    simp only [Bool.not_eq_true',decide_eq_false_iff_not]
    exact fun hh=>hn.2.1.1 (hh ▸ hx)
  rw [f1,f2]
set_option maxHeartbeats 4000000 in
theorem tc_loop (N:Nat) (hN:N≤7) (es0:List (Int×Int)) (c:Bool):∀ (m:Nat) (es:List (Int×Int)) (gone acc:List Int) (B:Boxes),Tre N gone es→1≤es.length→es.length≤m+1→es.length≤10→acc.length+m≤1000 →
    wp tb (.loop z517l10) { T:=[(1,.bptr 0 0 0),(4,nlI acc),(5,O2 es)],loc:=[I N,L2 es0 c]::B,M:=[] }
      (fun ex st=>ex=.exit 0∧∃ (es':List (Int×Int)) (B':Boxes),st={ T:=[(1,.bptr 0 0 0),(4,nlI (acc++tcE N m es)),(5,O2 es'),(30,Bo false)],loc:=[I N,L2 es0 c]::B',M:=[] }):=by
  have back:∀ G:List Int,nlI G=Z∧G=[] ∨ nlI G=O G:=fun G=>by cases G <;> simp [nlI]
  have done:∀ (m:Nat) (es:List (Int×Int)) (acc:List Int) (B:Boxes),es.length=1→wp tb (.loop z517l10) { T:=[(1,.bptr 0 0 0),(4,nlI acc),(5,O2 es)],loc:=[I N,L2 es0 c]::B,M:=[] }
      (fun ex st=>ex=.exit 0∧∃ (es':List (Int×Int)) (B':Boxes),st={ T:=[(1,.bptr 0 0 0),(4,nlI (acc++tcE N m es)),(5,O2 es'),(30,Bo false)],loc:=[I N,L2 es0 c]::B',M:=[] }):=by
    intro m es acc B h1
    have:tcE N m es=[]:=by cases m with | zero=>rfl | succ m=>rw [tcE,if_pos (by omega)]
    rw [this,List.append_nil]
    rcases back acc with ⟨h,-⟩ | h
    · rw [h]
      refine wp_loop ?_
      repeat (first|apply wp_as|apply wp_ss|refine wr (by simp [h1];with_reducible rfl) ?_|refine wq (by simp [h1];with_reducible rfl) ?_|refine wt (by simpa [h1]) ?_|refine wf (by simpa [h1]) ?_|refine xt (by simpa [h1]) ?_|refine xf (by simpa [h1]) ?_|apply wp_bs|apply wp_b|refine wp_sr ?_|refine wp_sx ?_|refine wp_ret' ?_|refine wp_skip' ?_|refine wp_exit' ?_)
      exact ⟨rfl,es,B,rfl⟩
    · rw [h]
      refine wp_loop ?_
      repeat (first|apply wp_as|apply wp_ss|refine wr (by simp [h1];with_reducible rfl) ?_|refine wq (by simp [h1];with_reducible rfl) ?_|refine wt (by simpa [h1]) ?_|refine wf (by simpa [h1]) ?_|refine xt (by simpa [h1]) ?_|refine xf (by simpa [h1]) ?_|apply wp_bs|apply wp_b|refine wp_sr ?_|refine wp_sx ?_|refine wp_ret' ?_|refine wp_skip' ?_|refine wp_exit' ?_)
      exact ⟨rfl,es,B,rfl⟩
  intro m
  induction m with
  | zero =>
    intro es gone acc B ht h1 h2 h10 ha
    exact done 0 es acc B (by omega)
  | succ m ih =>
    intro es gone acc B ht h1 h2 h10 ha
    by_cases hl:es.length=1
    · exact done (m+1) es acc B hl
    obtain ⟨v,e,s⟩:=ht.stp (by omega)
    obtain ⟨c1,c2,c3,c4,c5,c6,c7,c8⟩:=ht.cut s.vN s.dv s.em s.ep
    have hix:=stp_idx ht s
    have hin:=tre_in ht
    have e1:=fun cc=>ev_lim (ev_Graph_degrees N es cc (by omega) (by omega) hin)
    have hdl:(degs N es).length=N:=degs_len N es
    have e2:=fun cc=>ev_lim (ev_Index (degs N es) cc 1 (by omega))
    rw [hix] at e2
    generalize degs N es=D at *
    have e3:=ev_lim (ev_IndexFuncEL es zl518 [.bptr 0 (B.length+1) 0] [[I N,L2 es0 c]::(B++[[I v]])] (tcP v) (by omega) (fun x _=>ev_tc_F1 x v _ _ (by simp) [[]]))
    obtain ⟨k,hk,hke,hki⟩:∃ k:Nat,∃ hk:k < es.length,es[k]=e∧idxE (tcP v) 0 es=(k:Nat):=by
      rcases idxE_spec (tcP v) es 0 with ⟨k1,k2⟩ | ⟨k,hk,k1,k2,k3⟩
      · have:=k2 e s.em;rw [s.ep] at this;cases this
      · rw [show ((0:Nat):Int)=0 from rfl,Nat.zero_add] at k1
        exact ⟨k,hk,s.all _ (List.getElem_mem hk) k2,k1⟩
    rw [hki] at e3
    have e4:=ev_lim (ev_DeleteE es k hk (by omega) [])
    rw [erase_filter ht.nd hk,hke] at e4
    have hrest:=s.rest m
    have hn:=fun B=>ih _ _ (acc++[e.1+e.2 - v]) B c7 (by omega) (by omega) (by omega) (by simp;omega)
    rw [hrest]
    have hb:=mem_prs.1 (ht.inn e s.em).1
    obtain ⟨a,b⟩:=e
    simp only at hb hn c2 ⊢
    generalize (es.filter fun x=>!decide (x=(a,b)))=fs at *
    rw [nlI_app,List.append_assoc,List.singleton_append] at hn
    generalize tcE N m fs=R at *
    have w1:IntKind.i64.wrap (a+b)=a+b:=wrap64 (by omega) (by omega)
    have w2:IntKind.i64.wrap (a+b - (v:Int))=a+b - v:=wrap64 (by omega) (by omega)
    have w3:IntKind.i64.wrap ((k:Int)+1)=(k:Int)+1:=wrap64 (by omega) (by omega)
    have hgt:(1:Int) < (es.length:Int):=by omega
    have hgt2:1 < es.length:=by omega
    have hlim:acc.length+1≤274877906944:=by omega
    have hT:∀ z,List.take (acc.length+1) (acc++[z])=acc++[z]:=fun z=>List.take_of_length_le (by simp)
    have hT2:List.take acc.length acc=acc:=List.take_of_length_le (Nat.le_refl _)
    rcases back acc with ⟨hbk,rfl⟩ | hbk
    · rw [hbk]
      refine wp_loop ?_
      repeat (first|apply wp_as|apply wp_ss|refine wr (by simp [hgt,hgt2,e1,e2];with_reducible rfl) ?_|refine wq (by simp [hgt,hgt2,e1,e2];with_reducible rfl) ?_|refine wt (by simpa [hgt,hgt2,e1,e2]) ?_|refine wf (by simpa [hgt,hgt2,e1,e2]) ?_|refine xt (by simpa [hgt,hgt2,e1,e2]) ?_|refine xf (by simpa [hgt,hgt2,e1,e2]) ?_|apply wp_bs|apply wp_b|refine wp_sr ?_|refine wp_sx ?_|refine wp_ret' ?_|refine wp_skip' ?_|refine wp_exit' ?_)
      repeat (first|apply wp_as|apply wp_ss|refine wr (by simp [e3];with_reducible rfl) ?_|refine wq (by simp [e3];with_reducible rfl) ?_|refine wt (by simpa [e3]) ?_|refine wf (by simpa [e3]) ?_|refine xt (by simpa [e3]) ?_|refine xf (by simpa [e3]) ?_|apply wp_bs|apply wp_b|refine wp_sr ?_|refine wp_sx ?_|refine wp_ret' ?_|refine wp_skip' ?_|refine wp_exit' ?_)
      repeat (first|apply wp_as|apply wp_ss|refine wr (by simp [hk,hke,w1,w2];with_reducible rfl) ?_|refine wq (by simp [hk,hke,w1,w2];with_reducible rfl) ?_|refine wt (by simpa [hk,hke,w1,w2]) ?_|refine wf (by simpa [hk,hke,w1,w2]) ?_|refine xt (by simpa [hk,hke,w1,w2]) ?_|refine xf (by simpa [hk,hke,w1,w2]) ?_|apply wp_bs|apply wp_b|refine wp_sr ?_|refine wp_sx ?_|refine wp_ret' ?_|refine wp_skip' ?_|refine wp_exit' ?_)
      repeat (first|apply wp_as|apply wp_ss|refine wr (by simp [w3,e4];with_reducible rfl) ?_|refine wq (by simp [w3,e4];with_reducible rfl) ?_|refine wt (by simpa [w3,e4]) ?_|refine wf (by simpa [w3,e4]) ?_|refine xt (by simpa [w3,e4]) ?_|refine xf (by simpa [w3,e4]) ?_|apply wp_bs|apply wp_b|refine wp_sr ?_|refine wp_sx ?_|refine wp_ret' ?_|refine wp_skip' ?_|refine wp_exit' ?_)
      exact hn _
    · rw [hbk]
      refine wp_loop ?_
      repeat (first|apply wp_as|apply wp_ss|refine wr (by simp [hgt,hgt2,e1,e2];with_reducible rfl) ?_|refine wq (by simp [hgt,hgt2,e1,e2];with_reducible rfl) ?_|refine wt (by simpa [hgt,hgt2,e1,e2]) ?_|refine wf (by simpa [hgt,hgt2,e1,e2]) ?_|refine xt (by simpa [hgt,hgt2,e1,e2]) ?_|refine xf (by simpa [hgt,hgt2,e1,e2]) ?_|apply wp_bs|apply wp_b|refine wp_sr ?_|refine wp_sx ?_|refine wp_ret' ?_|refine wp_skip' ?_|refine wp_exit' ?_)
      repeat (first|apply wp_as|apply wp_ss|refine wr (by simp [e3];with_reducible rfl) ?_|refine wq (by simp [e3];with_reducible rfl) ?_|refine wt (by simpa [e3]) ?_|refine wf (by simpa [e3]) ?_|refine xt (by simpa [e3]) ?_|refine xf (by simpa [e3]) ?_|apply wp_bs|apply wp_b|refine wp_sr ?_|refine wp_sx ?_|refine wp_ret' ?_|refine wp_skip' ?_|refine wp_exit' ?_)
      repeat (first|apply wp_as|apply wp_ss|refine wr (by simp [hk,hke,w1,w2,hlim,hT,hT2];with_reducible rfl) ?_|refine wq (by simp [hk,hke,w1,w2,hlim,hT,hT2];with_reducible rfl) ?_|refine wt (by simpa [hk,hke,w1,w2,hlim,hT,hT2]) ?_|refine wf (by simpa [hk,hke,w1,w2,hlim,hT,hT2]) ?_|refine xt (by simpa [hk,hke,w1,w2,hlim,hT,hT2]) ?_|refine xf (by simpa [hk,hke,w1,w2,hlim,hT,hT2]) ?_|apply wp_bs|apply wp_b|refine wp_sr ?_|refine wp_sx ?_|refine wp_ret' ?_|refine wp_skip' ?_|refine wp_exit' ?_)
      repeat (first|apply wp_as|apply wp_ss|refine wr (by simp [w3,e4];with_reducible rfl) ?_|refine wq (by simp [w3,e4];with_reducible rfl) ?_|refine wt (by simpa [w3,e4]) ?_|refine wf (by simpa [w3,e4]) ?_|refine xt (by simpa [w3,e4]) ?_|refine xf (by simpa [w3,e4]) ?_|apply wp_bs|apply wp_b|refine wp_sr ?_|refine wp_sx ?_|refine wp_ret' ?_|refine wp_skip' ?_|refine wp_exit' ?_)
      exact hn _
def isTr (N:Nat) (es:List (Int×Int)):Bool:=decide (2≤N) && (decide (es.length+1=N) && decide ((compI N es).length=1))
theorem isTr_tre {N:Nat} {es:List (Int×Int)} (hv:vGraph N es=true) (h:isTr N es=true):Tre N [] es∧2≤N∧es.length+1=N∧Con N es:=by
  simp only [isTr,Bool.and_eq_true,decide_eq_true_eq] at h
  have hes:∀ e ∈ es,e.1.toNat < N∧e.2.toNat < N:=fun e he=>by have:=mem_prs.1 ((vG_iff.1 hv).2.1 e he);omega
  have hc:=(compI_one (by omega) hes).1 h.2.2
  exact ⟨con_tr hv hc h.2.1,h.1,h.2.1,hc⟩
abbrev TCR (N:Nat) (es:List (Int×Int)):IV:=if isTr N es=true then .tup [nlI (tcE N N es),Bo true] else .tup [Z,Bo false]
set_option maxHeartbeats 4000000 in
theorem ev_TreeCode (N:Nat) (es:List (Int×Int)) (c:Bool) (hv:vGraph N es=true):Ev tb zl517 [] [Gr N es c] [] ⟨TCR N es,[],[],[]⟩:=by
  have hn7:=(vG_iff.1 hv).2.2
  have h21:=vG21 hn7 hv
  have hf:Fit es:=fun e he=>by have:=mem_prs.1 ((vG_iff.1 hv).2.1 e he);omega
  have v1:=fun c=>ev_lim (ev_ValidGraph N es c hf (by omega))
  rw [hv] at v1
  by_cases h0:N=0
  · have hes:es=[]:=by
      cases es with
      | nil=>rfl
      | cons e r=>have:=mem_prs.1 ((vG_iff.1 hv).2.1 e (by simp));omega
    subst h0 hes
    rw [show TCR 0 []=.tup [Z,Bo false] from rfl]
    rw [show ((0:Nat):Int)=0 from rfl] at v1 ⊢
    have e1:=fun c=>ev_lim (ev_IsConnected_0 [] c (v1 c))
    simp only [Gr,L2,eds_nil] at e1 ⊢
    refine call_of_wp zt517 rfl ?_
    repeat (first|apply wp_as|apply wp_ss|refine wr (by simp [e1];with_reducible rfl) ?_|refine wq (by simp [e1];with_reducible rfl) ?_|refine wt (by simpa [e1]) ?_|refine wf (by simpa [e1]) ?_|refine xt (by simpa [e1]) ?_|refine xf (by simpa [e1]) ?_|apply wp_bs|apply wp_b|refine wp_sr ?_|refine wp_sx ?_|refine wp_ret' ?_|refine wp_skip' ?_|refine wp_exit' ?_)
    simp [zi517]
  have e1:=fun c=>ev_lim (ev_IsConnected N (by omega) 2 es c (.inl rfl) (by omega) hv (v1 c))
  have w1:IntKind.i64.wrap ((N:Int) - 1)=(N:Int) - 1:=wrap64 (by omega) (by omega)
  by_cases hcm:(compI N es).length=1
  · rw [decide_eq_true hcm] at e1
    by_cases h2:N < 2
    · have h2':(N:Int) < 2:=by omega
      have:isTr N es=false:=by rw [isTr,decide_eq_false (by omega),Bool.false_and]
      simp only [TCR,this]
      refine call_of_wp zt517 rfl ?_
      repeat (first|apply wp_as|apply wp_ss|refine wr (by simp [e1,h2,h2'];with_reducible rfl) ?_|refine wq (by simp [e1,h2,h2'];with_reducible rfl) ?_|refine wt (by simpa [e1,h2,h2']) ?_|refine wf (by simpa [e1,h2,h2']) ?_|refine xt (by simpa [e1,h2,h2']) ?_|refine xf (by simpa [e1,h2,h2']) ?_|apply wp_bs|apply wp_b|refine wp_sr ?_|refine wp_sx ?_|refine wp_ret' ?_|refine wp_skip' ?_|refine wp_exit' ?_)
      simp [zi517]
    · have h2':¬ (N:Int) < 2:=by omega
      by_cases hl:es.length+1=N
      · have hT:isTr N es=true:=by rw [isTr,decide_eq_true (by omega),decide_eq_true hl,decide_eq_true hcm];rfl
        have hl':(es.length:Int)=(N:Int) - 1:=by omega
        obtain ⟨t1,-,-,-⟩:=isTr_tre hv hT
        have loop:=tc_loop N hn7 es c N es [] [] [] t1 (by omega) (by omega) (by omega) (by simp;omega)
        rw [List.nil_append,show nlI []=Z from rfl] at loop
        have e2:=fun c=>ev_lim (ev_clone2 2 es c (.inl rfl) (by omega))
        have e3:=ev_lim (ev_ClipI (tcE N N es))
        simp only [TCR,hT,if_true]
        generalize tcE N N es=R at *
        cases R with
        | nil =>
          simp only [nlI] at e3 loop ⊢
          refine call_of_wp zt517 rfl ?_
          repeat (first|apply wp_as|apply wp_ss|refine wr (by simp [e1,h2,h2',w1,hl',e2];with_reducible rfl) ?_|refine wq (by simp [e1,h2,h2',w1,hl',e2];with_reducible rfl) ?_|refine wt (by simpa [e1,h2,h2',w1,hl',e2]) ?_|refine wf (by simpa [e1,h2,h2',w1,hl',e2]) ?_|refine xt (by simpa [e1,h2,h2',w1,hl',e2]) ?_|refine xf (by simpa [e1,h2,h2',w1,hl',e2]) ?_|apply wp_bs|apply wp_b|refine wp_sr ?_|refine wp_sx ?_|refine wp_ret' ?_|refine wp_skip' ?_|refine wp_exit' ?_)
          refine wp_imp loop ?_
          rintro ex st ⟨rfl,es',B',rfl⟩
          simp only [if_true]
          repeat (first|apply wp_as|apply wp_ss|refine wr (by simp [e3];with_reducible rfl) ?_|refine wq (by simp [e3];with_reducible rfl) ?_|refine wt (by simpa [e3]) ?_|refine wf (by simpa [e3]) ?_|refine xt (by simpa [e3]) ?_|refine xf (by simpa [e3]) ?_|apply wp_bs|apply wp_b|refine wp_sr ?_|refine wp_sx ?_|refine wp_ret' ?_|refine wp_skip' ?_|refine wp_exit' ?_)
          simp [zi517]
        | cons x r =>
          simp only [nlI] at e3 loop ⊢
          refine call_of_wp zt517 rfl ?_
          repeat (first|apply wp_as|apply wp_ss|refine wr (by simp [e1,h2,h2',w1,hl',e2];with_reducible rfl) ?_|refine wq (by simp [e1,h2,h2',w1,hl',e2];with_reducible rfl) ?_|refine wt (by simpa [e1,h2,h2',w1,hl',e2]) ?_|refine wf (by simpa [e1,h2,h2',w1,hl',e2]) ?_|refine xt (by simpa [e1,h2,h2',w1,hl',e2]) ?_|refine xf (by simpa [e1,h2,h2',w1,hl',e2]) ?_|apply wp_bs|apply wp_b|refine wp_sr ?_|refine wp_sx ?_|refine wp_ret' ?_|refine wp_skip' ?_|refine wp_exit' ?_)
          refine wp_imp loop ?_
          rintro ex st ⟨rfl,es',B',rfl⟩
          simp only [if_true]
          repeat (first|apply wp_as|apply wp_ss|refine wr (by simp [e3];with_reducible rfl) ?_|refine wq (by simp [e3];with_reducible rfl) ?_|refine wt (by simpa [e3]) ?_|refine wf (by simpa [e3]) ?_|refine xt (by simpa [e3]) ?_|refine xf (by simpa [e3]) ?_|apply wp_bs|apply wp_b|refine wp_sr ?_|refine wp_sx ?_|refine wp_ret' ?_|refine wp_skip' ?_|refine wp_exit' ?_)
          simp [zi517]
      · have:isTr N es=false:=by rw [isTr,decide_eq_false hl,Bool.false_and,Bool.and_false]
        have hl':¬ (es.length:Int)=(N:Int) - 1:=by omega
        simp only [TCR,this]
        refine call_of_wp zt517 rfl ?_
        repeat (first|apply wp_as|apply wp_ss|refine wr (by simp [e1,h2,h2',w1,hl'];with_reducible rfl) ?_|refine wq (by simp [e1,h2,h2',w1,hl'];with_reducible rfl) ?_|refine wt (by simpa [e1,h2,h2',w1,hl']) ?_|refine wf (by simpa [e1,h2,h2',w1,hl']) ?_|refine xt (by simpa [e1,h2,h2',w1,hl']) ?_|refine xf (by simpa [e1,h2,h2',w1,hl']) ?_|apply wp_bs|apply wp_b|refine wp_sr ?_|refine wp_sx ?_|refine wp_ret' ?_|refine wp_skip' ?_|refine wp_exit' ?_)
        simp [zi517]
  · rw [decide_eq_false hcm] at e1
    have:isTr N es=false:=by rw [isTr,decide_eq_false hcm,Bool.and_false,Bool.and_false]
    simp only [TCR,this]
    refine call_of_wp zt517 rfl ?_
    repeat (first|apply wp_as|apply wp_ss|refine wr (by simp [e1];with_reducible rfl) ?_|refine wq (by simp [e1];with_reducible rfl) ?_|refine wt (by simpa [e1]) ?_|refine wf (by simpa [e1]) ?_|refine xt (by simpa [e1]) ?_|refine xf (by simpa [e1]) ?_|apply wp_bs|apply wp_b|refine wp_sr ?_|refine wp_sx ?_|refine wp_ret' ?_|refine wp_skip' ?_|refine wp_exit' ?_)
    simp [zi517]
end Go.Idl
namespace Go.Idl
open Go
theorem ev_equalInts_ZL (c:Bool):Ev tb zl53 [] [Z,L [] c] [] ⟨Bo true,[],[],[]⟩:=by
  refine call_of_wp zt53 rfl ?_
  repeat (first|apply wp_as|apply wp_ss|refine wr (by simp;with_reducible rfl) ?_|refine wq (by simp;with_reducible rfl) ?_|refine wt (by simpa) ?_|refine wf (by simpa) ?_|refine xt (by simpa) ?_|refine xf (by simpa) ?_|apply wp_bs|apply wp_b|refine wp_sr ?_|refine wp_sx ?_|refine wp_ret' ?_|refine wp_skip' ?_|refine wp_exit' ?_)
  refine wp_loop ?_
  repeat (first|apply wp_as|apply wp_ss|refine wr (by simp;with_reducible rfl) ?_|refine wq (by simp;with_reducible rfl) ?_|refine wt (by simpa) ?_|refine wf (by simpa) ?_|refine xt (by simpa) ?_|refine xf (by simpa) ?_|apply wp_bs|apply wp_b|refine wp_sr ?_|refine wp_sx ?_|refine wp_ret' ?_|refine wp_skip' ?_|refine wp_exit' ?_)
  simp [zi53]
theorem dto_loop (code:List Int) (c:Bool) (hc:CodeOk code) (n:Nat) (hn:n≤6):∀ (m i cnt:Nat) (acc:List Int),i+m=n→acc.length=i→cnt+m≤900000 →
    wp tb (.loop z571l8) { T:=[(3,.bptr 0 0 0),(4,O acc),(5,I n),(6,I i)],loc:=[R code c cnt],M:=[] }
      (fun ex st=>ex=.exit 0∧∃ (acc:List Int) (k:Nat),(acc.length=n∧k≤900000)∧st={ T:=[(3,.bptr 0 0 0),(4,O acc),(5,I n),(6,I n),(15,Bo false)],loc:=[R code c k],M:=[] }):=by
  intro m
  induction m with
  | zero =>
    intro i cnt acc hi hl hk
    have h3:i=n:=hi
    subst h3
    refine wp_loop ?_
    repeat (first|apply wp_as|apply wp_ss|refine wr (by simp;with_reducible rfl) ?_|refine wq (by simp;with_reducible rfl) ?_|refine wt (by simpa) ?_|refine wf (by simpa) ?_|refine xt (by simpa) ?_|refine xf (by simpa) ?_|apply wp_bs|apply wp_b|refine wp_sr ?_|refine wp_sx ?_|refine wp_ret' ?_|refine wp_skip' ?_|refine wp_exit' ?_)
    exact ⟨rfl,acc,cnt,⟨hl,by omega⟩,rfl⟩
  | succ m ih =>
    intro i cnt acc hi hl hk
    have hi2:i < n:=by omega
    have w1:IntKind.i64.wrap ((n:Int)+2)=(n:Int)+2:=wrap64 (by omega) (by omega)
    have w2:IntKind.i64.wrap ((i:Int)+1)=((i+1:Nat):Int):=wrapS (by omega)
    obtain ⟨v,k,hv,hk2,e1⟩:=pickA code c hc cnt (by omega) ((n:Int)+2) (by omega) [] [] []
    simp only [List.length_nil,List.nil_append] at e1
    have hal:acc.length+1≤274877906944:=by omega
    have hat:acc.take acc.length=acc:=List.take_of_length_le (Nat.le_refl _)
    refine wp_loop ?_
    repeat (first|apply wp_as|apply wp_ss|refine wr (by simp [hi2,w1,w2,e1,hal,hat];with_reducible rfl) ?_|refine wq (by simp [hi2,w1,w2,e1,hal,hat];with_reducible rfl) ?_|refine wt (by simpa [hi2,w1,w2,e1,hal,hat]) ?_|refine wf (by simpa [hi2,w1,w2,e1,hal,hat]) ?_|refine xt (by simpa [hi2,w1,w2,e1,hal,hat]) ?_|refine xf (by simpa [hi2,w1,w2,e1,hal,hat]) ?_|apply wp_bs|apply wp_b|refine wp_sr ?_|refine wp_sx ?_|refine wp_ret' ?_|refine wp_skip' ?_|refine wp_exit' ?_)
    exact ih (i+1) k (acc++[(v:Int)]) (by omega) (by simp [hl]) (by omega)
theorem ev_DrawTreeOfCode (code:List Int) (c:Bool) (h:∀ x ∈ code,0≤x∧x≤255) (hl:code.length≤10000000) :
    ∃ (l:List Int),l.length≤6∧limF tb zl571 [] [.lst 1 (bytes code) c] []=some ⟨O l,[],[],[]⟩:=by
  obtain ⟨c',e⟩:=ev_newReader code c [[]] (by omega)
  have e1:=ev_lim e
  obtain ⟨x,k,hx,hk,e2⟩:=oneA (code.take 2000) c' (code_ok h) 0 (by omega) [3,4,5,2,1,0,6] (by simp) [] [] []
  rw [show ((0:Nat):Int)=0 from rfl] at e2
  simp only [List.length_nil,List.nil_append] at e2
  obtain ⟨n,rfl⟩:∃ n:Nat,x=n:=⟨x.toNat,by simp only [List.mem_cons,List.not_mem_nil,or_false] at hx;omega⟩
  have hn:n≤6:=by simp only [List.mem_cons,List.not_mem_nil,or_false] at hx;omega
  have loop:=dto_loop (code.take 2000) c' (code_ok h) n hn n 0 k [] (by omega) rfl (by omega)
  rw [show ((0:Nat):Int)=0 from rfl] at loop
  have w1:IntKind.i64.wrap ((n:Int)+2)=(n:Int)+2:=wrap64 (by omega) (by omega)
  suffices hh:∃ r,(∃ (l:List Int),l.length≤6∧r=⟨O l,[],[],[]⟩)∧Ev tb zl571 [] [.lst 1 (bytes code) c] [] r by
    obtain ⟨r,⟨l,q1,rfl⟩,q4⟩:=hh
    exact ⟨l,q1,ev_lim q4⟩
  refine call_ex zt571 rfl ?_
  repeat (first|apply wp_as|apply wp_ss|refine wr (by simp [e1,e2];with_reducible rfl) ?_|refine wq (by simp [e1,e2];with_reducible rfl) ?_|refine wt (by simpa [e1,e2]) ?_|refine wf (by simpa [e1,e2]) ?_|refine xt (by simpa [e1,e2]) ?_|refine xf (by simpa [e1,e2]) ?_|apply wp_bs|apply wp_b|refine wp_sr ?_|refine wp_sx ?_|refine wp_ret' ?_|refine wp_skip' ?_|refine wp_exit' ?_)
  refine wp_imp loop ?_
  rintro ex st ⟨rfl,acc,k',⟨q1,q2⟩,rfl⟩
  simp only [if_true]
  by_cases h0:n=0
  · subst h0
    rw [show ((0:Nat):Int)=0 from rfl]
    repeat (first|apply wp_as|apply wp_ss|refine wr (by simp;with_reducible rfl) ?_|refine wq (by simp;with_reducible rfl) ?_|refine wt (by simpa) ?_|refine wf (by simpa) ?_|refine xt (by simpa) ?_|refine xf (by simpa) ?_|apply wp_bs|apply wp_b|refine wp_sr ?_|refine wp_sx ?_|refine wp_ret' ?_|refine wp_skip' ?_|refine wp_exit' ?_)
    refine ⟨.inr rfl,_,⟨acc,by omega,rfl⟩,?_⟩
    simp [zi571]
  · have hp:(0:Int) < (n:Int):=by omega
    have hp2:0 < n:=by omega
    obtain ⟨v,k3,hv,hk3,e3⟩:=pickA (code.take 2000) c' (code_ok h) k' (by omega) 16 (by omega) [] [] []
    simp only [List.length_nil,List.nil_append] at e3
    cases v with
    | zero =>
      obtain ⟨y,k4,hy,hk4,e4⟩:=oneA (code.take 2000) c' (code_ok h) k3 (by omega) [-1,(n:Int)+2] (by simp) [] [] []
      simp only [List.length_nil,List.nil_append] at e4
      have hal:0 < acc.length:=by omega
      repeat (first|apply wp_as|apply wp_ss|refine wr (by simp [hp,hp2,e3,w1,e4,hal];with_reducible rfl) ?_|refine wq (by simp [hp,hp2,e3,w1,e4,hal];with_reducible rfl) ?_|refine wt (by simpa [hp,hp2,e3,w1,e4,hal]) ?_|refine wf (by simpa [hp,hp2,e3,w1,e4,hal]) ?_|refine xt (by simpa [hp,hp2,e3,w1,e4,hal]) ?_|refine xf (by simpa [hp,hp2,e3,w1,e4,hal]) ?_|apply wp_bs|apply wp_b|refine wp_sr ?_|refine wp_sx ?_|refine wp_ret' ?_|refine wp_skip' ?_|refine wp_exit' ?_)
      refine ⟨.inr rfl,_,⟨acc.set 0 y,by simp;omega,rfl⟩,?_⟩
      have hts:List.take acc.length (acc.set 0 y)=acc.set 0 y:=List.take_of_length_le (by simp)
      simp [zi571,hts]
    | succ v =>
      have hv0:¬ (v:Int)+1=0:=by omega
      repeat (first|apply wp_as|apply wp_ss|refine wr (by simp [hp,hp2,e3,hv0];with_reducible rfl) ?_|refine wq (by simp [hp,hp2,e3,hv0];with_reducible rfl) ?_|refine wt (by simpa [hp,hp2,e3,hv0]) ?_|refine wf (by simpa [hp,hp2,e3,hv0]) ?_|refine xt (by simpa [hp,hp2,e3,hv0]) ?_|refine xf (by simpa [hp,hp2,e3,hv0]) ?_|apply wp_bs|apply wp_b|refine wp_sr ?_|refine wp_sx ?_|refine wp_ret' ?_|refine wp_skip' ?_|refine wp_exit' ?_)
      refine ⟨.inr rfl,_,⟨acc,by omega,rfl⟩,?_⟩
      simp [zi571]
set_option maxHeartbeats 4000000 in
theorem ev_FnTreeOfCode (code:List Int) (cl:Bool) (h:∀ x ∈ code,0≤x∧x≤255) :
    Ev tb zl541 [] [.lst 1 (bytes code) cl] [] ⟨Bo true,[],[],[]⟩:=by
  by_cases hc:(1048576:Int) < code.length
  · refine call_of_wp zt541 rfl ?_
    repeat (first|apply wp_as|apply wp_ss|refine wr (by simp [hc];with_reducible rfl) ?_|refine wq (by simp [hc];with_reducible rfl) ?_|refine wt (by simpa [hc]) ?_|refine wf (by simpa [hc]) ?_|refine xt (by simpa [hc]) ?_|refine xf (by simpa [hc]) ?_|apply wp_bs|apply wp_b|refine wp_sr ?_|refine wp_sx ?_|refine wp_ret' ?_|refine wp_skip' ?_|refine wp_exit' ?_)
    simp [zi541]
  obtain ⟨l,hl6,e1⟩:=ev_DrawTreeOfCode code cl h (by omega)
  have ez:=ev_lim (ev_equalGraph 0 0 [] [] Z Z (.inr ⟨rfl,rfl⟩) (.inr ⟨rfl,rfl⟩) (by simp) (by simp))
  have e3:=ev_lim (ev_spec_TreeOfCode l false (by omega))
  cases hok:okC l with
  | false =>
    have e2:=ev_lim (ev_TreeOfCode_no l false (by omega) hok)
    simp only [hok,Bool.false_eq_true,if_false] at e3
    refine call_of_wp zt541 rfl ?_
    repeat (first|apply wp_as|apply wp_ss|refine wr (by simp [hc,e1,e2,e3,ez];with_reducible rfl) ?_|refine wq (by simp [hc,e1,e2,e3,ez];with_reducible rfl) ?_|refine wt (by simpa [hc,e1,e2,e3,ez]) ?_|refine wf (by simpa [hc,e1,e2,e3,ez]) ?_|refine xt (by simpa [hc,e1,e2,e3,ez]) ?_|refine xf (by simpa [hc,e1,e2,e3,ez]) ?_|apply wp_bs|apply wp_b|refine wp_sr ?_|refine wp_sx ?_|refine wp_ret' ?_|refine wp_skip' ?_|refine wp_exit' ?_)
    simp [zi541]
  | true =>
    have h7:=okC_iff.1 hok
    have e2:=ev_lim (ev_TreeOfCode l false h7)
    simp only [hok,if_true] at e3
    obtain ⟨q1,-,-,-,q5,q6,q7,q8⟩:=tocLaw h7
    obtain ⟨N,hN⟩:∃ N,N=l.length+2:=⟨_,rfl⟩
    have hNi:(l.length:Int)+2=(N:Int):=by omega
    rw [hNi] at e2 e3
    rw [← hN] at q1 q5 q6 q8
    have hT:isTr N (codeT l)=true:=by rw [isTr,decide_eq_true (by omega),decide_eq_true (by omega),decide_eq_true q5];rfl
    have e4:=fun c=>ev_lim (ev_TreeCode N (codeT l) c q1)
    simp only [TCR,hT,if_true,q6] at e4
    have hn7:=(vG_iff.1 q1).2.2
    have h21:=vG21 hn7 q1
    have hf:Fit (codeT l):=fun e he=>by have:=mem_prs.1 ((vG_iff.1 q1).2.1 e he);omega
    have v1:=fun c=>ev_lim (ev_ValidGraph N (codeT l) c hf (by omega))
    rw [q1] at v1
    have e5:=fun c=>ev_lim (ev_IsConnected N (by omega) 2 (codeT l) c (.inl rfl) (by omega) q1 (v1 c))
    rw [decide_eq_true q5] at e5
    have e6:=fun c=>ev_lim (ev_impl_DegreesOf N (codeT l) c hf (by omega) q1)
    have hdl:(degs N (codeT l)).length=N:=degs_len N _
    have e7:=ev_lim (ev_IsTreeDegrees (degs N (codeT l)) false (by omega))
    rw [q8] at e7
    have e8:=fun c1 c2=>ev_lim (ev_equalGraph N N (codeT l) (codeT l) (L2 (codeT l) c1) (L2 (codeT l) c2) (.inl ⟨_,rfl⟩) (.inl ⟨_,rfl⟩) (by omega) (by omega))
    have w1:IntKind.i64.wrap ((N:Int) - 1)=((codeT l).length:Int):=by rw [wrap64 (by omega) (by omega)];omega
    generalize degs N (codeT l)=D at *
    generalize codeT l=es at *
    cases l with
    | nil =>
      have e9:=ev_lim (ev_equalInts_ZL false)
      simp only [nlI,L,O,ints_nil] at e1 e2 e3 e4 e9
      refine call_of_wp zt541 rfl ?_
      repeat (first|apply wp_as|apply wp_ss|refine wr (by simp [hc,e1,e2,e3,e8,e4,e9,e5,e6,e7,w1];with_reducible rfl) ?_|refine wq (by simp [hc,e1,e2,e3,e8,e4,e9,e5,e6,e7,w1];with_reducible rfl) ?_|refine wt (by simpa [hc,e1,e2,e3,e8,e4,e9,e5,e6,e7,w1]) ?_|refine wf (by simpa [hc,e1,e2,e3,e8,e4,e9,e5,e6,e7,w1]) ?_|refine xt (by simpa [hc,e1,e2,e3,e8,e4,e9,e5,e6,e7,w1]) ?_|refine xf (by simpa [hc,e1,e2,e3,e8,e4,e9,e5,e6,e7,w1]) ?_|apply wp_bs|apply wp_b|refine wp_sr ?_|refine wp_sx ?_|refine wp_ret' ?_|refine wp_skip' ?_|refine wp_exit' ?_)
      simp [zi541]
    | cons x r =>
      have e9:=ev_lim (ev_equalInts (x::r) (x::r) false false (by simp at hl6 ⊢;omega) (by simp at hl6 ⊢;omega))
      rw [decide_eq_true rfl] at e9
      simp only [nlI] at e4
      generalize x::r=l at *
      refine call_of_wp zt541 rfl ?_
      repeat (first|apply wp_as|apply wp_ss|refine wr (by simp [hc,e1,e2,e3,e8,e4,e9,e5,e6,e7,w1];with_reducible rfl) ?_|refine wq (by simp [hc,e1,e2,e3,e8,e4,e9,e5,e6,e7,w1];with_reducible rfl) ?_|refine wt (by simpa [hc,e1,e2,e3,e8,e4,e9,e5,e6,e7,w1]) ?_|refine wf (by simpa [hc,e1,e2,e3,e8,e4,e9,e5,e6,e7,w1]) ?_|refine xt (by simpa [hc,e1,e2,e3,e8,e4,e9,e5,e6,e7,w1]) ?_|refine xf (by simpa [hc,e1,e2,e3,e8,e4,e9,e5,e6,e7,w1]) ?_|apply wp_bs|apply wp_b|refine wp_sr ?_|refine wp_sx ?_|refine wp_ret' ?_|refine wp_skip' ?_|refine wp_exit' ?_)
      simp [zi541]
end Go.Idl
