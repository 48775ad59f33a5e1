/- Part 7 of a proof by an ideal interpreter of the code: its definitions and lemmas. Conditions: none. -/
import Derived.KernelRfl
import Derived.Test.YtfoigkkpkalloaaA6
set_option linter.all false
set_option linter.unusedVariables false
set_option linter.unusedSimpArgs false
namespace Go.Idl
open Go
def VE (es:List (Int×Int)) (x:IV):Prop:=(∃ c,x=L2 es c) ∨ (es=[]∧x=Z)
theorem ev_equalEdges_L (xs ys:List (Int×Int)) (c d:Bool) (hl:xs.length≤1000000) (hm:ys.length≤1000000):Ev tb zl237 [] [L2 xs c,L2 ys d] [] ⟨Bo (decide (xs=ys)),[],[],[]⟩:=by
  by_cases he:xs.length=ys.length
  · have loop:∀ (m i:Nat),i+m=xs.length→wp tb (.loop z237l8) { T:=[(0,L2 xs c),(1,L2 ys d),(5,I i)],loc:=[],M:=[] }
      (fun ex st=>(ex=.exit 0∧xs.drop i=ys.drop i∧st={ T:=[(0,L2 xs c),(1,L2 ys d),(5,I xs.length),(14,Bo false)],loc:=[],M:=[] }) ∨
        ex=.ret∧xs.drop i ≠ ys.drop i∧st={ T:=[(4,Bo false)],loc:=[],M:=[] }):=by
      intro m
      induction m with
      | zero =>
        intro i hi
        have h2:xs.drop i=[]:=List.drop_of_length_le (by omega)
        have h3:i=xs.length:=hi
        subst h3
        have hf:¬ xs.length < ys.length:=by omega
        refine wp_loop ?_
        repeat (first|apply wp_as|apply wp_ss|refine wr (by simp [he];with_reducible rfl) ?_|refine wq (by simp [he];with_reducible rfl) ?_|refine wt (by simpa [he]) ?_|refine wf (by simpa [he]) ?_|refine xt (by simpa [he]) ?_|refine xf (by simpa [he]) ?_|apply wp_bs|apply wp_b|refine wp_sr ?_|refine wp_sx ?_|refine wp_ret' ?_|refine wp_skip' ?_|refine wp_exit' ?_)
        refine .inl ⟨rfl,?_,by simp [he]⟩
        rw [h2,he,List.drop_length]
      | succ m ih =>
        intro i hi
        have hix:i < xs.length:=by omega
        have hiy:i < ys.length:=by omega
        have w2:IntKind.i64.wrap ((i:Int)+1)=((i+1:Nat):Int):=wrapS (by omega)
        rw [List.drop_eq_getElem_cons hix,List.drop_eq_getElem_cons hiy]
        generalize hx:xs[i]=a
        generalize hy:ys[i]=b
        obtain ⟨a1,a2⟩:=a
        obtain ⟨b1,b2⟩:=b
        have gx:(eds xs)[i]'(by simpa using hix)=[I a1,I a2]:=by simp [eds,hx]
        have gy:(eds ys)[i]'(by simpa using hiy)=[I b1,I b2]:=by simp [eds,hy]
        by_cases h1:a1=b1
        · by_cases h2:a2=b2
          · refine wp_loop ?_
            repeat (first|apply wp_as|apply wp_ss|refine wr (by simp [hix,hiy,gx,gy,h1,h2,w2];with_reducible rfl) ?_|refine wq (by simp [hix,hiy,gx,gy,h1,h2,w2];with_reducible rfl) ?_|refine wt (by simpa [hix,hiy,gx,gy,h1,h2,w2]) ?_|refine wf (by simpa [hix,hiy,gx,gy,h1,h2,w2]) ?_|refine xt (by simpa [hix,hiy,gx,gy,h1,h2,w2]) ?_|refine xf (by simpa [hix,hiy,gx,gy,h1,h2,w2]) ?_|apply wp_bs|apply wp_b|refine wp_sr ?_|refine wp_sx ?_|refine wp_ret' ?_|refine wp_skip' ?_|refine wp_exit' ?_)
            refine wp_imp (ih (i+1) (by omega)) ?_
            rintro ex st (⟨rfl,h5,rfl⟩ | ⟨rfl,h5,rfl⟩)
            · exact .inl ⟨rfl,by rw [h1,h2,h5],rfl⟩
            · exact .inr ⟨rfl,by simp [h1,h2,h5],rfl⟩
          · refine wp_loop ?_
            repeat (first|apply wp_as|apply wp_ss|refine wr (by simp [hix,hiy,gx,gy,h1,h2,w2];with_reducible rfl) ?_|refine wq (by simp [hix,hiy,gx,gy,h1,h2,w2];with_reducible rfl) ?_|refine wt (by simpa [hix,hiy,gx,gy,h1,h2,w2]) ?_|refine wf (by simpa [hix,hiy,gx,gy,h1,h2,w2]) ?_|refine xt (by simpa [hix,hiy,gx,gy,h1,h2,w2]) ?_|refine xf (by simpa [hix,hiy,gx,gy,h1,h2,w2]) ?_|apply wp_bs|apply wp_b|refine wp_sr ?_|refine wp_sx ?_|refine wp_ret' ?_|refine wp_skip' ?_|refine wp_exit' ?_)
            exact .inr ⟨rfl,by simp [h1,h2],rfl⟩
        · refine wp_loop ?_
          repeat (first|apply wp_as|apply wp_ss|refine wr (by simp [hix,hiy,gx,gy,h1,w2];with_reducible rfl) ?_|refine wq (by simp [hix,hiy,gx,gy,h1,w2];with_reducible rfl) ?_|refine wt (by simpa [hix,hiy,gx,gy,h1,w2]) ?_|refine wf (by simpa [hix,hiy,gx,gy,h1,w2]) ?_|refine xt (by simpa [hix,hiy,gx,gy,h1,w2]) ?_|refine xf (by simpa [hix,hiy,gx,gy,h1,w2]) ?_|apply wp_bs|apply wp_b|refine wp_sr ?_|refine wp_sx ?_|refine wp_ret' ?_|refine wp_skip' ?_|refine wp_exit' ?_)
          exact .inr ⟨rfl,by simp [h1],rfl⟩
    refine call_of_wp zt237 rfl ?_
    repeat (first|apply wp_as|apply wp_ss|refine wr (by simp [he];with_reducible rfl) ?_|refine wq (by simp [he];with_reducible rfl) ?_|refine wt (by simpa [he]) ?_|refine wf (by simpa [he]) ?_|refine xt (by simpa [he]) ?_|refine xf (by simpa [he]) ?_|apply wp_bs|apply wp_b|refine wp_sr ?_|refine wp_sx ?_|refine wp_ret' ?_|refine wp_skip' ?_|refine wp_exit' ?_)
    refine wp_imp (loop xs.length 0 (by simp)) ?_
    rintro ex st (⟨rfl,h5,rfl⟩ | ⟨rfl,h5,rfl⟩)
    · simp only [if_true]
      repeat (first|apply wp_as|apply wp_ss|refine wr (by simp;with_reducible rfl) ?_|refine wq (by simp;with_reducible rfl) ?_|refine wt (by simpa) ?_|refine wf (by simpa) ?_|refine xt (by simpa) ?_|refine xf (by simpa) ?_|apply wp_bs|apply wp_b|refine wp_sr ?_|refine wp_sx ?_|refine wp_ret' ?_|refine wp_skip' ?_|refine wp_exit' ?_)
      simp only [List.drop_zero] at h5
      simp [zi237,h5]
    · simp only [List.drop_zero] at h5
      simp [zi237,h5]
  · have h5:xs ≠ ys:=fun h=>he (by rw [h])
    have he':((xs.length:Int) != ys.length)=true:=by simp;omega
    refine call_of_wp zt237 rfl ?_
    repeat (first|apply wp_as|apply wp_ss|refine wr (by simp [he,he'];with_reducible rfl) ?_|refine wq (by simp [he,he'];with_reducible rfl) ?_|refine wt (by simpa [he,he']) ?_|refine wf (by simpa [he,he']) ?_|refine xt (by simpa [he,he']) ?_|refine xf (by simpa [he,he']) ?_|apply wp_bs|apply wp_b|refine wp_sr ?_|refine wp_sx ?_|refine wp_ret' ?_|refine wp_skip' ?_|refine wp_exit' ?_)
    simp [zi237,h5]
theorem ev_equalEdges (xs ys:List (Int×Int)) (x y:IV) (hx:VE xs x) (hy:VE ys y) (hl:xs.length≤1000000) (hm:ys.length≤1000000):Ev tb zl237 [] [x,y] [] ⟨Bo (decide (xs=ys)),[],[],[]⟩:=by
  rcases hx with ⟨c,rfl⟩ | ⟨rfl,rfl⟩
  · rcases hy with ⟨d,rfl⟩ | ⟨rfl,rfl⟩
    · exact ev_equalEdges_L xs ys c d hl hm
    · cases xs with
      | nil =>
        refine call_of_wp zt237 rfl ?_
        repeat (first|apply wp_as|apply wp_ss|refine wr (by simp;with_reducible rfl) ?_|refine wq (by simp;with_reducible rfl) ?_|refine wt (by simpa) ?_|refine wf (by simpa) ?_|refine xt (by simpa) ?_|refine xf (by simpa) ?_|apply wp_bs|apply wp_b|refine wp_sr ?_|refine wp_sx ?_|refine wp_ret' ?_|refine wp_skip' ?_|refine wp_exit' ?_)
        refine wp_loop ?_
        repeat (first|apply wp_as|apply wp_ss|refine wr (by simp;with_reducible rfl) ?_|refine wq (by simp;with_reducible rfl) ?_|refine wt (by simpa) ?_|refine wf (by simpa) ?_|refine xt (by simpa) ?_|refine xf (by simpa) ?_|apply wp_bs|apply wp_b|refine wp_sr ?_|refine wp_sx ?_|refine wp_ret' ?_|refine wp_skip' ?_|refine wp_exit' ?_)
        simp [zi237]
      | cons a xs =>
        have h0:¬ (xs.length:Int)+1=0:=by omega
        refine call_of_wp zt237 rfl ?_
        repeat (first|apply wp_as|apply wp_ss|refine wr (by simp [h0];with_reducible rfl) ?_|refine wq (by simp [h0];with_reducible rfl) ?_|refine wt (by simpa [h0]) ?_|refine wf (by simpa [h0]) ?_|refine xt (by simpa [h0]) ?_|refine xf (by simpa [h0]) ?_|apply wp_bs|apply wp_b|refine wp_sr ?_|refine wp_sx ?_|refine wp_ret' ?_|refine wp_skip' ?_|refine wp_exit' ?_)
        simp [zi237]
  · rcases hy with ⟨d,rfl⟩ | ⟨rfl,rfl⟩
    · cases ys with
      | nil =>
        refine call_of_wp zt237 rfl ?_
        repeat (first|apply wp_as|apply wp_ss|refine wr (by simp;with_reducible rfl) ?_|refine wq (by simp;with_reducible rfl) ?_|refine wt (by simpa) ?_|refine wf (by simpa) ?_|refine xt (by simpa) ?_|refine xf (by simpa) ?_|apply wp_bs|apply wp_b|refine wp_sr ?_|refine wp_sx ?_|refine wp_ret' ?_|refine wp_skip' ?_|refine wp_exit' ?_)
        refine wp_loop ?_
        repeat (first|apply wp_as|apply wp_ss|refine wr (by simp;with_reducible rfl) ?_|refine wq (by simp;with_reducible rfl) ?_|refine wt (by simpa) ?_|refine wf (by simpa) ?_|refine xt (by simpa) ?_|refine xf (by simpa) ?_|apply wp_bs|apply wp_b|refine wp_sr ?_|refine wp_sx ?_|refine wp_ret' ?_|refine wp_skip' ?_|refine wp_exit' ?_)
        simp [zi237]
      | cons a ys =>
        have h0:¬ (0:Int)=(ys.length:Int)+1:=by omega
        refine call_of_wp zt237 rfl ?_
        repeat (first|apply wp_as|apply wp_ss|refine wr (by simp [h0];with_reducible rfl) ?_|refine wq (by simp [h0];with_reducible rfl) ?_|refine wt (by simpa [h0]) ?_|refine wf (by simpa [h0]) ?_|refine xt (by simpa [h0]) ?_|refine xf (by simpa [h0]) ?_|apply wp_bs|apply wp_b|refine wp_sr ?_|refine wp_sx ?_|refine wp_ret' ?_|refine wp_skip' ?_|refine wp_exit' ?_)
        simp [zi237]
    · refine call_of_wp zt237 rfl ?_
      repeat (first|apply wp_as|apply wp_ss|refine wr (by simp;with_reducible rfl) ?_|refine wq (by simp;with_reducible rfl) ?_|refine wt (by simpa) ?_|refine wf (by simpa) ?_|refine xt (by simpa) ?_|refine xf (by simpa) ?_|apply wp_bs|apply wp_b|refine wp_sr ?_|refine wp_sx ?_|refine wp_ret' ?_|refine wp_skip' ?_|refine wp_exit' ?_)
      refine wp_loop ?_
      repeat (first|apply wp_as|apply wp_ss|refine wr (by simp;with_reducible rfl) ?_|refine wq (by simp;with_reducible rfl) ?_|refine wt (by simpa) ?_|refine wf (by simpa) ?_|refine xt (by simpa) ?_|refine xf (by simpa) ?_|apply wp_bs|apply wp_b|refine wp_sr ?_|refine wp_sx ?_|refine wp_ret' ?_|refine wp_skip' ?_|refine wp_exit' ?_)
      simp [zi237]
theorem ev_equalGraph (n m:Int) (xs ys:List (Int×Int)) (x y:IV) (hx:VE xs x) (hy:VE ys y) (hl:xs.length≤1000000) (hm:ys.length≤1000000):Ev tb zl238 [] [.agg [I n,x],.agg [I m,y]] [] ⟨Bo (decide (n=m) && decide (xs=ys)),[],[],[]⟩:=by
  have e1:=ev_lim (ev_equalEdges xs ys x y hx hy hl hm)
  by_cases hnm:n=m
  · subst hnm
    rcases hx with ⟨c,rfl⟩ | ⟨rfl,rfl⟩
    · rcases hy with ⟨d,rfl⟩ | ⟨rfl,rfl⟩
      · refine call_of_wp zt238 rfl ?_
        repeat (first|apply wp_as|apply wp_ss|refine wr (by simp [e1];with_reducible rfl) ?_|refine wq (by simp [e1];with_reducible rfl) ?_|refine wt (by simpa [e1]) ?_|refine wf (by simpa [e1]) ?_|refine xt (by simpa [e1]) ?_|refine xf (by simpa [e1]) ?_|apply wp_bs|apply wp_b|refine wp_sr ?_|refine wp_sx ?_|refine wp_ret' ?_|refine wp_skip' ?_|refine wp_exit' ?_)
        simp [zi238]
      · refine call_of_wp zt238 rfl ?_
        repeat (first|apply wp_as|apply wp_ss|refine wr (by simp [e1];with_reducible rfl) ?_|refine wq (by simp [e1];with_reducible rfl) ?_|refine wt (by simpa [e1]) ?_|refine wf (by simpa [e1]) ?_|refine xt (by simpa [e1]) ?_|refine xf (by simpa [e1]) ?_|apply wp_bs|apply wp_b|refine wp_sr ?_|refine wp_sx ?_|refine wp_ret' ?_|refine wp_skip' ?_|refine wp_exit' ?_)
        simp [zi238]
    · rcases hy with ⟨d,rfl⟩ | ⟨rfl,rfl⟩
      · refine call_of_wp zt238 rfl ?_
        repeat (first|apply wp_as|apply wp_ss|refine wr (by simp [e1];with_reducible rfl) ?_|refine wq (by simp [e1];with_reducible rfl) ?_|refine wt (by simpa [e1]) ?_|refine wf (by simpa [e1]) ?_|refine xt (by simpa [e1]) ?_|refine xf (by simpa [e1]) ?_|apply wp_bs|apply wp_b|refine wp_sr ?_|refine wp_sx ?_|refine wp_ret' ?_|refine wp_skip' ?_|refine wp_exit' ?_)
        simp [zi238]
      · refine call_of_wp zt238 rfl ?_
        repeat (first|apply wp_as|apply wp_ss|refine wr (by simp [e1];with_reducible rfl) ?_|refine wq (by simp [e1];with_reducible rfl) ?_|refine wt (by simpa [e1]) ?_|refine wf (by simpa [e1]) ?_|refine xt (by simpa [e1]) ?_|refine xf (by simpa [e1]) ?_|apply wp_bs|apply wp_b|refine wp_sr ?_|refine wp_sx ?_|refine wp_ret' ?_|refine wp_skip' ?_|refine wp_exit' ?_)
        simp [zi238]
  · rcases hx with ⟨c,rfl⟩ | ⟨rfl,rfl⟩
    · rcases hy with ⟨d,rfl⟩ | ⟨rfl,rfl⟩
      · refine call_of_wp zt238 rfl ?_
        repeat (first|apply wp_as|apply wp_ss|refine wr (by simp [hnm];with_reducible rfl) ?_|refine wq (by simp [hnm];with_reducible rfl) ?_|refine wt (by simpa [hnm]) ?_|refine wf (by simpa [hnm]) ?_|refine xt (by simpa [hnm]) ?_|refine xf (by simpa [hnm]) ?_|apply wp_bs|apply wp_b|refine wp_sr ?_|refine wp_sx ?_|refine wp_ret' ?_|refine wp_skip' ?_|refine wp_exit' ?_)
        simp [zi238,hnm]
      · refine call_of_wp zt238 rfl ?_
        repeat (first|apply wp_as|apply wp_ss|refine wr (by simp [hnm];with_reducible rfl) ?_|refine wq (by simp [hnm];with_reducible rfl) ?_|refine wt (by simpa [hnm]) ?_|refine wf (by simpa [hnm]) ?_|refine xt (by simpa [hnm]) ?_|refine xf (by simpa [hnm]) ?_|apply wp_bs|apply wp_b|refine wp_sr ?_|refine wp_sx ?_|refine wp_ret' ?_|refine wp_skip' ?_|refine wp_exit' ?_)
        simp [zi238,hnm]
    · rcases hy with ⟨d,rfl⟩ | ⟨rfl,rfl⟩
      · refine call_of_wp zt238 rfl ?_
        repeat (first|apply wp_as|apply wp_ss|refine wr (by simp [hnm];with_reducible rfl) ?_|refine wq (by simp [hnm];with_reducible rfl) ?_|refine wt (by simpa [hnm]) ?_|refine wf (by simpa [hnm]) ?_|refine xt (by simpa [hnm]) ?_|refine xf (by simpa [hnm]) ?_|apply wp_bs|apply wp_b|refine wp_sr ?_|refine wp_sx ?_|refine wp_ret' ?_|refine wp_skip' ?_|refine wp_exit' ?_)
        simp [zi238,hnm]
      · refine call_of_wp zt238 rfl ?_
        repeat (first|apply wp_as|apply wp_ss|refine wr (by simp [hnm];with_reducible rfl) ?_|refine wq (by simp [hnm];with_reducible rfl) ?_|refine wt (by simpa [hnm]) ?_|refine wf (by simpa [hnm]) ?_|refine xt (by simpa [hnm]) ?_|refine xf (by simpa [hnm]) ?_|apply wp_bs|apply wp_b|refine wp_sr ?_|refine wp_sx ?_|refine wp_ret' ?_|refine wp_skip' ?_|refine wp_exit' ?_)
        simp [zi238,hnm]
end Go.Idl
namespace Go.Idl
open Go
abbrev RealLaw (d:List Int):Prop:=realT d=(realD d).map srtE∧∀ es,realD d=some es→vGraph d.length (srtE es)=true∧degs d.length (srtE es)=d
end Go.Idl
namespace Go.Idl
open Go
@[simp] theorem glf_get (n:Int) (R:GF) (i:Nat) (h:i < (glf n R).length):(glf n R)[i]=[IV.sc (.int .i64 n),.lst 2 (eds (R[i]'(by simpa [glf] using h)).1) (R[i]'(by simpa [glf] using h)).2]:=by simp [glf]
@[simp] theorem glf_get? (n:Int) (R:GF) (i:Nat):(glf n R)[i]? = R[i]?.map fun x=>[IV.sc (.int .i64 n),.lst 2 (eds x.1) x.2]:=by simp [glf]
@[simp] theorem frz_glf (n:Int) (R:GF):frzLL (glf n R)=glf n R:=by
  induction R with
  | nil=>rfl
  | cons x xs ih=>simp only [glf,List.map_cons,frzLL,frzL,frzV] at *;rw [ih]
@[simp] theorem frz_gls (n:Int) (gl:List (List (Int×Int))):frzLL (gls n gl)=glf n (gl.map fun es=>(es,false)):=by
  induction gl with
  | nil=>rfl
  | cons x xs ih=>simp only [gls,glf,List.map_cons,frzLL,frzL,frzV,frz_eds] at *;rw [ih]
theorem ev_equalGraphs (n:Int) (e0:Nat) (R S:GF) (c1 c2:Bool) (he0:e0=2 ∨ R=[]) (h:R.map Prod.fst=S.map Prod.fst) (hl:R.length≤10000000) (hel:∀ x ∈ R,x.1.length≤1000) :
    Ev tb zl544 [] [.lst e0 (glf n R) c1,.lst 2 (glf n S) c2] [] ⟨Bo true,[],[],[]⟩:=by
  have hlen:S.length=R.length:=by have:=congrArg List.length h;simpa using this.symm
  have loop:∀ (m i:Nat),i+m=R.length→wp tb (.loop z544l8) { T:=[(0,.lst e0 (glf n R) c1),(1,.lst 2 (glf n S) c2),(5,I i)],loc:=[],M:=[] }
      (fun ex st=>ex=.exit 0∧st={ T:=[(0,.lst e0 (glf n R) c1),(1,.lst 2 (glf n S) c2),(5,I R.length),(14,Bo false)],loc:=[],M:=[] }):=by
    intro m
    induction m with
    | zero =>
      intro i hi
      have h3:i=R.length:=hi
      subst h3
      refine wp_loop ?_
      repeat (first|apply wp_as|apply wp_ss|refine wr (by simp;with_reducible rfl) ?_|refine wq (by simp;with_reducible rfl) ?_|refine wt (by simpa) ?_|refine wf (by simpa) ?_|refine xt (by simpa) ?_|refine xf (by simpa) ?_|apply wp_bs|apply wp_b|refine wp_sr ?_|refine wp_sx ?_|refine wp_ret' ?_|refine wp_skip' ?_|refine wp_exit' ?_)
      exact ⟨rfl,rfl⟩
    | succ m ih =>
      intro i hi
      have hi2:i < R.length:=by omega
      have hi3:i < S.length:=by omega
      have he2:e0=2:=by
        rcases he0 with h | h
        · exact h
        · rw [h] at hi2;cases hi2
      subst he2
      have w1:IntKind.i64.wrap ((i:Int)+1)=((i+1:Nat):Int):=wrapS (by omega)
      have hq:R[i].1=S[i].1:=by
        have h1:(R.map Prod.fst)[i]'(by simpa using hi2)=(S.map Prod.fst)[i]'(by simpa using hi3):=by simp only [h]
        simpa using h1
      obtain ⟨⟨x,cx⟩,hx⟩:∃ x,x=R[i]:=⟨_,rfl⟩
      obtain ⟨⟨y,cy⟩,hy⟩:∃ x,x=S[i]:=⟨_,rfl⟩
      have hx1:=hel _ (List.getElem_mem hi2)
      rw [← hx,← hy] at hq
      rw [← hx] at hx1
      simp only at hq hx1
      subst hq
      have hx2:=hx.symm
      have hy2:=hy.symm
      have e1:=ev_lim (ev_equalGraph n n x x (L2 x cx) (L2 x cy) (.inl ⟨_,rfl⟩) (.inl ⟨_,rfl⟩) (by omega) (by omega))
      refine wp_loop ?_
      repeat (first|apply wp_as|apply wp_ss|refine wr (by simp [hi2,hi3,hx2,hy2,e1,w1];with_reducible rfl) ?_|refine wq (by simp [hi2,hi3,hx2,hy2,e1,w1];with_reducible rfl) ?_|refine wt (by simpa [hi2,hi3,hx2,hy2,e1,w1]) ?_|refine wf (by simpa [hi2,hi3,hx2,hy2,e1,w1]) ?_|refine xt (by simpa [hi2,hi3,hx2,hy2,e1,w1]) ?_|refine xf (by simpa [hi2,hi3,hx2,hy2,e1,w1]) ?_|apply wp_bs|apply wp_b|refine wp_sr ?_|refine wp_sx ?_|refine wp_ret' ?_|refine wp_skip' ?_|refine wp_exit' ?_)
      exact ih (i+1) (by omega)
  refine call_of_wp zt544 rfl ?_
  repeat (first|apply wp_as|apply wp_ss|refine wr (by simp [hlen];with_reducible rfl) ?_|refine wq (by simp [hlen];with_reducible rfl) ?_|refine wt (by simpa [hlen]) ?_|refine wf (by simpa [hlen]) ?_|refine xt (by simpa [hlen]) ?_|refine xf (by simpa [hlen]) ?_|apply wp_bs|apply wp_b|refine wp_sr ?_|refine wp_sx ?_|refine wp_ret' ?_|refine wp_skip' ?_|refine wp_exit' ?_)
  refine wp_imp (loop R.length 0 (by omega)) ?_
  rintro ex st ⟨rfl,rfl⟩
  simp only [if_true]
  repeat (first|apply wp_as|apply wp_ss|refine wr (by simp;with_reducible rfl) ?_|refine wq (by simp;with_reducible rfl) ?_|refine wt (by simpa) ?_|refine wf (by simpa) ?_|refine xt (by simpa) ?_|refine xf (by simpa) ?_|apply wp_bs|apply wp_b|refine wp_sr ?_|refine wp_sx ?_|refine wp_ret' ?_|refine wp_skip' ?_|refine wp_exit' ?_)
  simp [zi544]
theorem ev_spec_AllRealizations (d:List Int) (c:Bool) (hv:valid d=true) (h5:d.length≤5) :
    ∃ R:GF,R.map Prod.fst=srS d.length [] d (prs d.length)∧Ev tb zl557 [] [L d c] [] ⟨.own 2 (glf d.length R),[],[],[]⟩:=by
  obtain ⟨R,hR,E⟩:=ev_realizations d c hv
  refine ⟨R,hR,?_⟩
  have e1:=ev_lim (ev_validDegrees d c (by omega))
  rw [hv] at e1
  have e2:=ev_lim E
  have h6:¬ (5:Int) < d.length:=by omega
  refine call_of_wp zt557 rfl ?_
  repeat (first|apply wp_as|apply wp_ss|refine wr (by simp [e1,e2,h6];with_reducible rfl) ?_|refine wq (by simp [e1,e2,h6];with_reducible rfl) ?_|refine wt (by simpa [e1,e2,h6]) ?_|refine wf (by simpa [e1,e2,h6]) ?_|refine xt (by simpa [e1,e2,h6]) ?_|refine xf (by simpa [e1,e2,h6]) ?_|apply wp_bs|apply wp_b|refine wp_sr ?_|refine wp_sx ?_|refine wp_ret' ?_|refine wp_skip' ?_|refine wp_exit' ?_)
  simp [zi557]
theorem ev_spec_AllRealizations_no (d:List Int) (c:Bool) (hl:d.length≤1000000) (hv:(valid d && decide ((d.length:Int)≤5))=false):Ev tb zl557 [] [L d c] [] ⟨Z,[],[],[]⟩:=by
  have e1:=ev_lim (ev_validDegrees d c hl)
  cases h:valid d with
  | false =>
    rw [h] at e1
    refine call_of_wp zt557 rfl ?_
    repeat (first|apply wp_as|apply wp_ss|refine wr (by simp [e1];with_reducible rfl) ?_|refine wq (by simp [e1];with_reducible rfl) ?_|refine wt (by simpa [e1]) ?_|refine wf (by simpa [e1]) ?_|refine xt (by simpa [e1]) ?_|refine xf (by simpa [e1]) ?_|apply wp_bs|apply wp_b|refine wp_sr ?_|refine wp_sx ?_|refine wp_ret' ?_|refine wp_skip' ?_|refine wp_exit' ?_)
    simp [zi557]
  | true =>
    rw [h] at e1 hv
    have h7:(5:Int) < d.length:=by simpa using hv
    refine call_of_wp zt557 rfl ?_
    repeat (first|apply wp_as|apply wp_ss|refine wr (by simp [e1,h7];with_reducible rfl) ?_|refine wq (by simp [e1,h7];with_reducible rfl) ?_|refine wt (by simpa [e1,h7]) ?_|refine wf (by simpa [e1,h7]) ?_|refine xt (by simpa [e1,h7]) ?_|refine xf (by simpa [e1,h7]) ?_|apply wp_bs|apply wp_b|refine wp_sr ?_|refine wp_sx ?_|refine wp_ret' ?_|refine wp_skip' ?_|refine wp_exit' ?_)
    simp [zi557]
theorem ev_AllRealizations_no (d:List Int) (c:Bool) (hl:d.length≤1000000) (hv:(valid d && decide ((d.length:Int)≤5))=false):Ev tb zl147 [] [L d c] [] ⟨Z,[],[],[]⟩:=by
  have e1:=ev_lim (ev_listed d c 5 hl)
  rw [hv] at e1
  refine call_of_wp zt147 rfl ?_
  repeat (first|apply wp_as|apply wp_ss|refine wr (by simp [e1];with_reducible rfl) ?_|refine wq (by simp [e1];with_reducible rfl) ?_|refine wt (by simpa [e1]) ?_|refine wf (by simpa [e1]) ?_|refine xt (by simpa [e1]) ?_|refine xf (by simpa [e1]) ?_|apply wp_bs|apply wp_b|refine wp_sr ?_|refine wp_sx ?_|refine wp_ret' ?_|refine wp_skip' ?_|refine wp_exit' ?_)
  simp [zi147]
theorem ev_equalGraphs_Z:Ev tb zl544 [] [Z,Z] [] ⟨Bo true,[],[],[]⟩:=by
  refine call_of_wp zt544 rfl ?_
  repeat (first|apply wp_as|apply wp_ss|refine wr (by simp;with_reducible rfl) ?_|refine wq (by simp;with_reducible rfl) ?_|refine wt (by simpa) ?_|refine wf (by simpa) ?_|refine xt (by simpa) ?_|refine xf (by simpa) ?_|apply wp_bs|apply wp_b|refine wp_sr ?_|refine wp_sx ?_|refine wp_ret' ?_|refine wp_skip' ?_|refine wp_exit' ?_)
  refine wp_loop ?_
  repeat (first|apply wp_as|apply wp_ss|refine wr (by simp;with_reducible rfl) ?_|refine wq (by simp;with_reducible rfl) ?_|refine wt (by simpa) ?_|refine wf (by simpa) ?_|refine xt (by simpa) ?_|refine xf (by simpa) ?_|apply wp_bs|apply wp_b|refine wp_sr ?_|refine wp_sx ?_|refine wp_ret' ?_|refine wp_skip' ?_|refine wp_exit' ?_)
  simp [zi544]
abbrev FA (n:Int) (G:List (List (Int×Int))):IV:=.lst 2 (glf n (G.map fun es=>(es,false))) false
set_option maxHeartbeats 4000000 in
theorem al_loop (d:List Int) (hd:d.length≤7) (xs:List (Int×Int)) (hxl:xs.length≤1000) (G:List (List (Int×Int))) (hG:G.length≤10000000) (hn:G.Nodup) (hg:∀ es ∈ G,vGraph d.length es=true∧degs d.length es=d):∀ (m k:Nat) (met:Bool),k+m=G.length →
    wp tb (.loop z526l15) { T:=[(3,L d),(4,FA d.length G),(5,.bptr 0 0 0),(6,Bo true),(7,Bo met),(8,I k)],loc:=[[I d.length,L2 xs false]],M:=[] }
      (fun ex st=>ex=.exit 0∧st={ T:=[(3,L d),(4,FA d.length G),(5,.bptr 0 0 0),(6,Bo true),(7,Bo (met || (G.drop k).any fun es=>decide (es=xs))),(8,I G.length),(43,Bo false)],loc:=[[I d.length,L2 xs false]],M:=[] }):=by
  intro m
  induction m with
  | zero =>
    intro k met hk
    have h3:k=G.length:=hk
    subst h3
    refine wp_loop ?_
    repeat (first|apply wp_as|apply wp_ss|refine wr (by simp;with_reducible rfl) ?_|refine wq (by simp;with_reducible rfl) ?_|refine wt (by simpa) ?_|refine wf (by simpa) ?_|refine xt (by simpa) ?_|refine xf (by simpa) ?_|apply wp_bs|apply wp_b|refine wp_sr ?_|refine wp_sx ?_|refine wp_ret' ?_|refine wp_skip' ?_|refine wp_exit' ?_)
    exact ⟨rfl,by simp⟩
  | succ m ih =>
    intro k met hk
    have hk2:k < G.length:=by omega
    have w1:IntKind.i64.wrap ((k:Int)+1)=((k+1:Nat):Int):=wrapS (by omega)
    have hdr:G.drop k=G[k]::G.drop (k+1):=List.drop_eq_getElem_cons hk2
    obtain ⟨g1,g2⟩:=hg _ (List.getElem_mem hk2)
    obtain ⟨es,hes⟩:∃ es,es=G[k]:=⟨_,rfl⟩
    rw [← hes] at g1 g2
    have hes2:=hes.symm
    have hf:Fit es:=fun e he=>by have:=mem_prs.1 ((vG_iff.1 g1).2.1 e he);omega
    have hel:es.length≤1000:=by
      have h1:=(vG_sub g1).length_le
      have h2:∀ n,n≤7→(prs n).length≤21:=by decide +kernel
      have:=h2 _ hd
      omega
    have e1:=fun c=>ev_lim (ev_ValidGraph d.length es c hf (by omega))
    rw [g1] at e1
    have e2:=fun c=>ev_lim (ev_impl_DegreesOf d.length es c hf (by omega) g1)
    rw [g2] at e2
    have e3:=ev_lim (ev_equalInts d d false false (by omega) (by omega))
    have e5:=fun c1 c2=>ev_lim (ev_equalGraph d.length d.length es xs (L2 es c1) (L2 xs c2) (.inl ⟨_,rfl⟩) (.inl ⟨_,rfl⟩) (by omega) (by omega))
    have hn2:=fun met=>ih (k+1) met (by omega)
    rw [hdr,List.any_cons,← hes,← Bool.or_assoc]
    cases k with
    | zero =>
      simp only [show ((0:Nat):Int)=0 from rfl] at w1 ⊢
      cases met with
      | true =>
        rw [Bool.true_or]
        refine wp_loop ?_
        repeat (first|apply wp_as|apply wp_ss|refine wr (by simp [hk2,hes2,e1,e2,e3,w1];with_reducible rfl) ?_|refine wq (by simp [hk2,hes2,e1,e2,e3,w1];with_reducible rfl) ?_|refine wt (by simpa [hk2,hes2,e1,e2,e3,w1]) ?_|refine wf (by simpa [hk2,hes2,e1,e2,e3,w1]) ?_|refine xt (by simpa [hk2,hes2,e1,e2,e3,w1]) ?_|refine xf (by simpa [hk2,hes2,e1,e2,e3,w1]) ?_|apply wp_bs|apply wp_b|refine wp_sr ?_|refine wp_sx ?_|refine wp_ret' ?_|refine wp_skip' ?_|refine wp_exit' ?_)
        exact hn2 true
      | false =>
        rw [Bool.false_or]
        by_cases hq:es=xs
        · rw [decide_eq_true hq]
          rw [decide_eq_true hq] at e5
          refine wp_loop ?_
          repeat (first|apply wp_as|apply wp_ss|refine wr (by simp [hk2,hes2,e1,e2,e3,e5,w1];with_reducible rfl) ?_|refine wq (by simp [hk2,hes2,e1,e2,e3,e5,w1];with_reducible rfl) ?_|refine wt (by simpa [hk2,hes2,e1,e2,e3,e5,w1]) ?_|refine wf (by simpa [hk2,hes2,e1,e2,e3,e5,w1]) ?_|refine xt (by simpa [hk2,hes2,e1,e2,e3,e5,w1]) ?_|refine xf (by simpa [hk2,hes2,e1,e2,e3,e5,w1]) ?_|apply wp_bs|apply wp_b|refine wp_sr ?_|refine wp_sx ?_|refine wp_ret' ?_|refine wp_skip' ?_|refine wp_exit' ?_)
          exact hn2 true
        · rw [decide_eq_false hq]
          rw [decide_eq_false hq] at e5
          refine wp_loop ?_
          repeat (first|apply wp_as|apply wp_ss|refine wr (by simp [hk2,hes2,e1,e2,e3,e5,w1];with_reducible rfl) ?_|refine wq (by simp [hk2,hes2,e1,e2,e3,e5,w1];with_reducible rfl) ?_|refine wt (by simpa [hk2,hes2,e1,e2,e3,e5,w1]) ?_|refine wf (by simpa [hk2,hes2,e1,e2,e3,e5,w1]) ?_|refine xt (by simpa [hk2,hes2,e1,e2,e3,e5,w1]) ?_|refine xf (by simpa [hk2,hes2,e1,e2,e3,e5,w1]) ?_|apply wp_bs|apply wp_b|refine wp_sr ?_|refine wp_sx ?_|refine wp_ret' ?_|refine wp_skip' ?_|refine wp_exit' ?_)
          exact hn2 false
    | succ j =>
      have hj:j < G.length:=by omega
      obtain ⟨ps,hps⟩:∃ ps,ps=G[j]:=⟨_,rfl⟩
      have hps2:=hps.symm
      have hne:¬ ps=es:=fun hh=>by
        have a1:=hn.idxOf_getElem j hj
        have a2:=hn.idxOf_getElem (j+1) hk2
        rw [← hps,hh,hes] at a1
        omega
      have hpl:ps.length≤1000:=by
        have g1:=(hg _ (List.getElem_mem hj)).1
        have h1:=(vG_sub g1).length_le
        have h2:∀ n,n≤7→(prs n).length≤21:=by decide +kernel
        have:=h2 _ hd
        rw [hps];omega
      have e4:=fun c1 c2=>ev_lim (ev_equalGraph d.length d.length ps es (L2 ps c1) (L2 es c2) (.inl ⟨_,rfl⟩) (.inl ⟨_,rfl⟩) (by omega) (by omega))
      rw [decide_eq_false hne] at e4
      have hj0:(0:Int) < (j:Int)+1:=by omega
      have hk3:(j:Int)+1 < (G.length:Int):=by omega
      have w3:IntKind.i64.wrap (j:Int)=(j:Int):=wrap64 (by omega) (by omega)
      rw [show ((j+1:Nat):Int)+1=(j:Int)+1+1 by omega] at w1
      cases met with
      | true =>
        rw [Bool.true_or]
        refine wp_loop ?_
        repeat (first|apply wp_as|apply wp_ss|refine wr (by simp [hk2,hk3,hes2,hj,hps2,e1,e2,e3,e4,w1,w3,hj0];with_reducible rfl) ?_|refine wq (by simp [hk2,hk3,hes2,hj,hps2,e1,e2,e3,e4,w1,w3,hj0];with_reducible rfl) ?_|refine wt (by simpa [hk2,hk3,hes2,hj,hps2,e1,e2,e3,e4,w1,w3,hj0]) ?_|refine wf (by simpa [hk2,hk3,hes2,hj,hps2,e1,e2,e3,e4,w1,w3,hj0]) ?_|refine xt (by simpa [hk2,hk3,hes2,hj,hps2,e1,e2,e3,e4,w1,w3,hj0]) ?_|refine xf (by simpa [hk2,hk3,hes2,hj,hps2,e1,e2,e3,e4,w1,w3,hj0]) ?_|apply wp_bs|apply wp_b|refine wp_sr ?_|refine wp_sx ?_|refine wp_ret' ?_|refine wp_skip' ?_|refine wp_exit' ?_)
        exact hn2 true
      | false =>
        rw [Bool.false_or]
        by_cases hq:es=xs
        · rw [decide_eq_true hq]
          rw [decide_eq_true hq] at e5
          refine wp_loop ?_
          repeat (first|apply wp_as|apply wp_ss|refine wr (by simp [hk2,hk3,hes2,hj,hps2,e1,e2,e3,e4,e5,w1,w3,hj0];with_reducible rfl) ?_|refine wq (by simp [hk2,hk3,hes2,hj,hps2,e1,e2,e3,e4,e5,w1,w3,hj0];with_reducible rfl) ?_|refine wt (by simpa [hk2,hk3,hes2,hj,hps2,e1,e2,e3,e4,e5,w1,w3,hj0]) ?_|refine wf (by simpa [hk2,hk3,hes2,hj,hps2,e1,e2,e3,e4,e5,w1,w3,hj0]) ?_|refine xt (by simpa [hk2,hk3,hes2,hj,hps2,e1,e2,e3,e4,e5,w1,w3,hj0]) ?_|refine xf (by simpa [hk2,hk3,hes2,hj,hps2,e1,e2,e3,e4,e5,w1,w3,hj0]) ?_|apply wp_bs|apply wp_b|refine wp_sr ?_|refine wp_sx ?_|refine wp_ret' ?_|refine wp_skip' ?_|refine wp_exit' ?_)
          exact hn2 true
        · rw [decide_eq_false hq]
          rw [decide_eq_false hq] at e5
          refine wp_loop ?_
          repeat (first|apply wp_as|apply wp_ss|refine wr (by simp [hk2,hk3,hes2,hj,hps2,e1,e2,e3,e4,e5,w1,w3,hj0];with_reducible rfl) ?_|refine wq (by simp [hk2,hk3,hes2,hj,hps2,e1,e2,e3,e4,e5,w1,w3,hj0];with_reducible rfl) ?_|refine wt (by simpa [hk2,hk3,hes2,hj,hps2,e1,e2,e3,e4,e5,w1,w3,hj0]) ?_|refine wf (by simpa [hk2,hk3,hes2,hj,hps2,e1,e2,e3,e4,e5,w1,w3,hj0]) ?_|refine xt (by simpa [hk2,hk3,hes2,hj,hps2,e1,e2,e3,e4,e5,w1,w3,hj0]) ?_|refine xf (by simpa [hk2,hk3,hes2,hj,hps2,e1,e2,e3,e4,e5,w1,w3,hj0]) ?_|apply wp_bs|apply wp_b|refine wp_sr ?_|refine wp_sx ?_|refine wp_ret' ?_|refine wp_skip' ?_|refine wp_exit' ?_)
          exact hn2 false
structure AllLaw (d:List Int):Prop where
  same:srS d.length [] d (prs d.length)=reals d
  nod:(reals d).Nodup
  few:(reals d).length≤10000000
  real:∀ es ∈ reals d,vGraph d.length es=true∧degs d.length es=d
  none:realD d=none→reals d=[]
  some:∀ es,realD d=some es→srtE es ∈ reals d
theorem ev_FnAllRealizations (law:∀ d,valid d=true→d.length≤5→AllLaw d) (code:List Int) (c:Bool) (h:∀ x ∈ code,0≤x∧x≤255) :
    Ev tb zl526 [] [.lst 1 (bytes code) c] [] ⟨Bo true,[],[],[]⟩:=by
  by_cases hc:(1048576:Int) < code.length
  · refine call_of_wp zt526 rfl ?_
    repeat (first|apply wp_as|apply wp_ss|refine wr (by simp [hc];with_reducible rfl) ?_|refine wq (by simp [hc];with_reducible rfl) ?_|refine wt (by simpa [hc]) ?_|refine wf (by simpa [hc]) ?_|refine xt (by simpa [hc]) ?_|refine xf (by simpa [hc]) ?_|apply wp_bs|apply wp_b|refine wp_sr ?_|refine wp_sx ?_|refine wp_ret' ?_|refine wp_skip' ?_|refine wp_exit' ?_)
    simp [zi526]
  obtain ⟨d,hd,hlo,e1⟩:=ev_DrawAllRealizations code c h (by omega)
  have v1:=ev_lim (ev_ValidDegrees d false (by omega))
  have ez:=ev_lim ev_equalGraphs_Z
  cases hv:valid d with
  | false =>
    rw [hv] at v1
    have e2:=ev_lim (ev_AllRealizations_no d false (by omega) (by rw [hv];rfl))
    have e3:=ev_lim (ev_spec_AllRealizations_no d false (by omega) (by rw [hv];rfl))
    refine call_of_wp zt526 rfl ?_
    repeat (first|apply wp_as|apply wp_ss|refine wr (by simp [hc,e1,e2,e3,ez,v1];with_reducible rfl) ?_|refine wq (by simp [hc,e1,e2,e3,ez,v1];with_reducible rfl) ?_|refine wt (by simpa [hc,e1,e2,e3,ez,v1]) ?_|refine wf (by simpa [hc,e1,e2,e3,ez,v1]) ?_|refine xt (by simpa [hc,e1,e2,e3,ez,v1]) ?_|refine xf (by simpa [hc,e1,e2,e3,ez,v1]) ?_|apply wp_bs|apply wp_b|refine wp_sr ?_|refine wp_sx ?_|refine wp_ret' ?_|refine wp_skip' ?_|refine wp_exit' ?_)
    simp [zi526]
  | true =>
  rw [hv] at v1
  by_cases h5:(5:Int) < d.length
  · have e2:=ev_lim (ev_AllRealizations_no d false (by omega) (by rw [hv];simp;omega))
    have e3:=ev_lim (ev_spec_AllRealizations_no d false (by omega) (by rw [hv];simp;omega))
    refine call_of_wp zt526 rfl ?_
    repeat (first|apply wp_as|apply wp_ss|refine wr (by simp [hc,e1,e2,e3,ez,v1,h5];with_reducible rfl) ?_|refine wq (by simp [hc,e1,e2,e3,ez,v1,h5];with_reducible rfl) ?_|refine wt (by simpa [hc,e1,e2,e3,ez,v1,h5]) ?_|refine wf (by simpa [hc,e1,e2,e3,ez,v1,h5]) ?_|refine xt (by simpa [hc,e1,e2,e3,ez,v1,h5]) ?_|refine xf (by simpa [hc,e1,e2,e3,ez,v1,h5]) ?_|apply wp_bs|apply wp_b|refine wp_sr ?_|refine wp_sx ?_|refine wp_ret' ?_|refine wp_skip' ?_|refine wp_exit' ?_)
    simp [zi526]
  obtain ⟨l1,l2,l3,l4,l5,l6⟩:=law d hv (by omega)
  have e2:=ev_lim (ev_AllRealizations d false hv (by omega))
  obtain ⟨R,hR,E⟩:=ev_spec_AllRealizations d false hv (by omega)
  have e3:=ev_lim E
  rw [l1] at hR
  have e4:=ev_lim (ev_RealizeDegrees d false hv)
  have e5:=ev_lim (ev_CountRealizations d false hv (by omega))
  have hf:=valid_few hv
  have h7:=hf.1
  have hel:∀ es ∈ reals d,es.length≤1000:=fun es he=>by
    have h1:=(vG_sub (l4 es he).1).length_le
    have h2:∀ n,n≤7→(prs n).length≤21:=by decide +kernel
    have:=h2 _ h7
    omega
  generalize reals d=G at *
  cases hr:realD d with
  | none =>
    have hG:=l5 hr
    subst hG
    have hR0:R=[]:=by simpa using hR
    subst hR0
    simp only [ngl,glf_nil,List.length_nil,show ((0:Nat):Int)=0 from rfl] at e2 e3 e5
    simp only [hr,Option.map_none] at e4
    have e6:=ev_lim (ev_equalGraphs d.length 0 [] [] true false (.inr rfl) rfl (by simp) (by simp))
    simp only [glf_nil] at e6
    refine call_of_wp zt526 rfl ?_
    repeat (first|apply wp_as|apply wp_ss|refine wr (by simp [hc,e1,e2,e3,e4,e5,e6,v1,h5];with_reducible rfl) ?_|refine wq (by simp [hc,e1,e2,e3,e4,e5,e6,v1,h5];with_reducible rfl) ?_|refine wt (by simpa [hc,e1,e2,e3,e4,e5,e6,v1,h5]) ?_|refine wf (by simpa [hc,e1,e2,e3,e4,e5,e6,v1,h5]) ?_|refine xt (by simpa [hc,e1,e2,e3,e4,e5,e6,v1,h5]) ?_|refine xf (by simpa [hc,e1,e2,e3,e4,e5,e6,v1,h5]) ?_|apply wp_bs|apply wp_b|refine wp_sr ?_|refine wp_sx ?_|refine wp_ret' ?_|refine wp_skip' ?_|refine wp_exit' ?_)
    refine wp_loop ?_
    repeat (first|apply wp_as|apply wp_ss|refine wr (by simp [e5];with_reducible rfl) ?_|refine wq (by simp [e5];with_reducible rfl) ?_|refine wt (by simpa [e5]) ?_|refine wf (by simpa [e5]) ?_|refine xt (by simpa [e5]) ?_|refine xf (by simpa [e5]) ?_|apply wp_bs|apply wp_b|refine wp_sr ?_|refine wp_sx ?_|refine wp_ret' ?_|refine wp_skip' ?_|refine wp_exit' ?_)
    simp [zi526]
  | some es =>
    have hm:=l6 es hr
    simp only [hr,Option.map_some,RR] at e4
    generalize srtE es=xs at *
    have hxl:=hel _ hm
    obtain ⟨g,gl,hG⟩:∃ g gl,G=g::gl:=by
      cases G with
      | nil=>cases hm
      | cons g gl=>exact ⟨g,gl,rfl⟩
    have hng:ngl d.length G=.own 2 (gls d.length G):=by rw [hG];rfl
    rw [hng] at e2
    have e6:=fun c2=>ev_lim (ev_equalGraphs d.length 2 (G.map fun es=>(es,false)) R false c2 (.inl rfl) (by rw [hR,List.map_map];exact List.map_id G) (by simpa using l3) (fun x hx=>by
      obtain ⟨es,he,rfl⟩:=List.mem_map.1 hx
      exact hel es he))
    have loop:=al_loop d h7 xs hxl G l3 l2 l4 G.length 0 false (by omega)
    rw [List.drop_zero,Bool.false_or,show (G.any fun es=>decide (es=xs))=true from List.any_eq_true.2 ⟨xs,hm,by simp⟩,show ((0:Nat):Int)=0 from rfl] at loop
    refine call_of_wp zt526 rfl ?_
    repeat (first|apply wp_as|apply wp_ss|refine wr (by simp [hc,e1,e2,e3,e4,e6,v1,h5];with_reducible rfl) ?_|refine wq (by simp [hc,e1,e2,e3,e4,e6,v1,h5];with_reducible rfl) ?_|refine wt (by simpa [hc,e1,e2,e3,e4,e6,v1,h5]) ?_|refine wf (by simpa [hc,e1,e2,e3,e4,e6,v1,h5]) ?_|refine xt (by simpa [hc,e1,e2,e3,e4,e6,v1,h5]) ?_|refine xf (by simpa [hc,e1,e2,e3,e4,e6,v1,h5]) ?_|apply wp_bs|apply wp_b|refine wp_sr ?_|refine wp_sx ?_|refine wp_ret' ?_|refine wp_skip' ?_|refine wp_exit' ?_)
    refine wp_imp loop ?_
    rintro ex st ⟨rfl,rfl⟩
    simp only [if_true]
    repeat (first|apply wp_as|apply wp_ss|refine wr (by simp [e5];with_reducible rfl) ?_|refine wq (by simp [e5];with_reducible rfl) ?_|refine wt (by simpa [e5]) ?_|refine wf (by simpa [e5]) ?_|refine xt (by simpa [e5]) ?_|refine xf (by simpa [e5]) ?_|apply wp_bs|apply wp_b|refine wp_sr ?_|refine wp_sx ?_|refine wp_ret' ?_|refine wp_skip' ?_|refine wp_exit' ?_)
    simp [zi526]
end Go.Idl
namespace Go.Idl
def insP (x:Nat×Nat):List (Nat×Nat)→List (Nat×Nat)
  | []=>[x]
  | y::r=>if Nat.ble y.1 x.1 then x::y::r else y::insP x r
def hh:Nat→List (Nat×Nat)→List (Nat×Nat)
  | 0,_=>[]
  | _+1,[]=>[]
  | m+1,x::r=>(r.take x.1).map (fun y:Nat×Nat=>(x.2,y.2))++hh m ((((r.take x.1).map (fun y:Nat×Nat=>(y.1 - 1,y.2))++r.drop x.1:List (Nat×Nat))).foldr insP [])
def inH (h:List (Nat×Nat)) (e:Int×Int):Bool:=h.any fun x=>(Nat.beq x.1 e.1.toNat && Nat.beq x.2 e.2.toNat) || (Nat.beq x.2 e.1.toNat && Nat.beq x.1 e.2.toNat)
def hhG (s:List Int):List (Int×Int):=(prs s.length).filter (inH (hh 8 (s.zipIdx.map fun x=>(x.1.toNat,x.2))))
def chkR (s:List Int):Bool:=!(decide (s.sum % 2=0) && noneNeg (slS s)) || decide (degs s.length (hhG s)=s)
set_option maxRecDepth 100000 in
theorem chkR_all:(List.range 8).all (fun n=>allD chkR n (n - 1) [])=true:=by kernel_rfl
theorem getD_zero_all {left:List Int} {N:Nat} (hl:left.length=N):left.all (fun x=>decide (x=0))=true ↔ ∀ v,v < N→(0:Int)=left.getD v 0:=by
  rw [List.all_eq_true]
  constructor
  · intro h v hv
    rw [List.getD_eq_getElem?_getD,List.getElem?_eq_getElem (by omega)]
    have:=of_decide_eq_true (h _ (List.getElem_mem (show v < left.length by omega)))
    simp [this]
  · intro h x hx
    obtain ⟨v,hv,rfl⟩:=List.getElem_of_mem hx
    have:=h v (by omega)
    rw [List.getD_eq_getElem?_getD,List.getElem?_eq_getElem hv] at this
    simpa using this.symm
theorem decAt_get {o:List Int} {i v:Nat} (hv:v < o.length):(decAt o i).getD v 0=o.getD v 0 - (if i=v then 1 else 0):=by
  rw [decAt,List.getD_eq_getElem?_getD,List.getElem?_set]
  by_cases h:i=v
  · subst h;simp [hv,List.getD_eq_getElem?_getD]
  · simp [h,List.getD_eq_getElem?_getD]
theorem inc_nonneg (v:Nat) (e:Int×Int):0≤inc v e:=by simp only [inc];split <;> split <;> decide
theorem mem_subs {N:Nat}:∀ (r:List (Int×Int)) (left:List Int) (ch g:List (Int×Int)),(∀ e ∈ r,0≤e.1∧e.1 < e.2∧e.2 < N)→left.length=N →
    (g ∈ subs r left ch ↔ ∃ s:List (Int×Int),s.Sublist r∧g=ch++s∧∀ v,v < N→deg s v=left.getD v 0)
  | [], left,ch,g,_,hl=>by
    rw [subs]
    constructor
    · intro h
      split at h
      · rename_i hz
        simp at h
        subst h
        exact ⟨[],List.Sublist.refl _,by simp,fun v hv=>(getD_zero_all hl).1 hz v hv⟩
      · simp at h
    · rintro ⟨s,hs,rfl,hd⟩
      have:s=[]:=by simpa using hs
      subst this
      rw [if_pos ((getD_zero_all hl).2 fun v hv=>hd v hv)]
      simp
  | e :: r, left,ch,g,hr,hl=>by
    have he:=hr e (by simp)
    have hr':∀ x ∈ r,0≤x.1∧x.1 < x.2∧x.2 < N:=fun x hx=>hr x (by simp [hx])
    have hdl:(decAt (decAt left e.1.toNat) e.2.toNat).length=N:=by simp [decAt,hl]
    have hget:∀ v,v < N→(decAt (decAt left e.1.toNat) e.2.toNat).getD v 0=left.getD v 0 - inc v e:=fun v hv=>by
      rw [decAt_get (by simp [decAt];omega),decAt_get (by omega),inc]
      have c1:(e.1.toNat=v)=(e.1=(v:Int)):=by rw [eq_iff_iff];omega
      have c2:(e.2.toNat=v)=(e.2=(v:Int)):=by rw [eq_iff_iff];omega
      simp only [c1,c2];omega
    rw [subs,List.mem_append]
    constructor
    · rintro (h | h)
      · split at h
        rotate_left
        · simp at h
        obtain ⟨s,hs,rfl,hd⟩:=(mem_subs r _ _ g hr' hdl).1 h
        refine ⟨e::s,hs.cons_cons e,by simp,fun v hv=>?_⟩
        have h1:=hd v hv
        rw [hget v hv] at h1
        rw [deg,S_cons]
        have h2:S s (inc v)=left.getD v 0 - inc v e:=h1
        rw [h2];omega
      · obtain ⟨s,hs,rfl,hd⟩:=(mem_subs r _ _ g hr' hl).1 h
        exact ⟨s,hs.cons e,rfl,hd⟩
    · rintro ⟨s,hs,rfl,hd⟩
      rcases List.sublist_cons_iff.1 hs with hs2 | ⟨s',rfl,hs2⟩
      · exact .inr ((mem_subs r _ _ _ hr' hl).2 ⟨s,hs2,rfl,hd⟩)
      · refine .inl ?_
        have hd':∀ v,v < N→inc v e+deg s' v=left.getD v 0:=fun v hv=>by
          rw [← hd v hv,deg,deg,S_cons]
        have pos:∀ x:Int,0≤x→x < N→(e.1=x ∨ e.2=x)→0 < left.getD x.toNat 0:=fun x h0 h1 h2=>by
          have h3:=hd' x.toNat (by omega)
          have h4:0≤deg s' x.toNat:=S_nonneg fun y _=>inc_nonneg _ y
          have h5:1≤inc x.toNat e:=by
            simp only [inc,show ((x.toNat:Nat):Int)=x by omega]
            rcases h2 with h2 | h2
            · rw [if_pos h2];split <;> decide
            · rw [if_pos h2];split <;> decide
          omega
        rw [if_pos ⟨pos e.1 (by omega) (by omega) (.inl rfl),pos e.2 (by omega) (by omega) (.inr rfl)⟩]
        refine (mem_subs r _ _ _ hr' hdl).2 ⟨s',hs2,by simp,fun v hv=>?_⟩
        rw [hget v hv,← hd' v hv];omega
theorem ite_iff {α:Type} {p q:Prop} [Decidable p] [Decidable q] (h:p ↔ q) (a b:α):(if p then a else b)=if q then a else b:=by
  by_cases hp:p
  · rw [if_pos hp,if_pos (h.1 hp)]
  · rw [if_neg hp,if_neg fun hq=>hp (h.2 hq)]
def mk (u v:Nat):Int×Int:=(min (u:Int) v,max (u:Int) v)
theorem inc_mk_all:(List.range 8).all (fun n=>(prs n).all fun e=>(List.range n).all fun v=>decide (inc v e=S (List.range n) (fun u=>if u=v then 0 else if e=mk u v then 1 else 0)))=true:=by decide +kernel
theorem inc_mk {n:Nat} (hn:n≤7) {e:Int×Int} (he:e ∈ prs n) {v:Nat} (hv:v < n):inc v e=S (List.range n) (fun u=>if u=v then 0 else if e=mk u v then 1 else 0):=by
  have:=List.all_eq_true.1 (List.all_eq_true.1 (List.all_eq_true.1 inc_mk_all n (List.mem_range.2 (by omega))) e he) v (List.mem_range.2 hv)
  exact of_decide_eq_true this
theorem S_ite {α:Type} (l:List α) (p:α→Bool) (f:α→Int):S (l.filter p) f=S l (fun a=>if p a then f a else 0):=by
  induction l with
  | nil=>rfl
  | cons a l ih =>
    rw [List.filter_cons,S_cons]
    split <;> rename_i h
    · rw [S_cons,ih]
    · rw [ih];omega
theorem mk_mem {n u v:Nat} (hu:u < n) (hv:v < n) (h:u ≠ v):mk u v ∈ prs n:=mem_prs.2 (by simp only [mk];omega)
theorem deg_filter {n:Nat} (hn:n≤7) (p:Int×Int→Bool) {v:Nat} (hv:v < n):deg ((prs n).filter p) v=S (List.range n) (fun u=>if u=v then 0 else if p (mk u v) then 1 else 0):=by
  rw [deg,S_ite,S_congr (g:=fun e=>S (List.range n) (fun u=>if u=v then 0 else if e=mk u v then (if p (mk u v) then 1 else 0) else 0)) fun e he=>?_,S_swap]
  · refine S_congr fun u hu=>?_
    have hu:=List.mem_range.1 hu
    by_cases huv:u=v
    · simp only [huv,if_true];exact S_zero _
    · simp only [if_neg huv]
      have hm:=mk_mem hu hv huv
      have h1:=S_one (pw_nodup (prs_pw n)) (mk u v)
      rw [if_pos hm] at h1
      by_cases hp:p (mk u v)=true
      · simp only [hp,if_true]
        exact Eq.trans (S_congr fun e _=>ite_iff eq_comm _ _) h1
      · simp only [if_neg hp,ite_self];exact S_zero _
  · rw [inc_mk hn he hv]
    by_cases hp:p e=true
    · rw [if_pos hp]
      refine S_congr fun u _=>?_
      by_cases huv:u=v
      · simp [huv]
      · simp only [if_neg huv]
        by_cases hem:e=mk u v
        · rw [if_pos hem,if_pos hem,← hem,if_pos hp]
        · rw [if_neg hem,if_neg hem]
    · rw [if_neg hp]
      symm
      rw [S_congr (g:=fun _=>0),S_zero]
      intro u _
      by_cases huv:u=v
      · simp [huv]
      · simp only [if_neg huv]
        by_cases hem:e=mk u v
        · rw [if_pos hem,← hem,if_neg hp]
        · rw [if_neg hem]
theorem mk_comm (u v:Nat):mk u v=mk v u:=Prod.ext (by simp only [mk];omega) (by simp only [mk];omega)
theorem degs_filter {n:Nat} (p:Int×Int→Bool):degs n ((prs n).filter p)=(List.range n).map (deg ((prs n).filter p)) :=
  degs_eq fun e he=>by have:=mem_prs.1 (List.mem_filter.1 he).1;omega
theorem graphic_real {d:List Int} (hg:graphic d=true):∃ p,degs d.length ((prs d.length).filter p)=d:=by
  have hv:valid d=true:=by simp only [graphic,Bool.and_eq_true] at hg;exact hg.1.1
  have h1:=(valid_few hv).1
  have h2:=valid_mem hv
  have hc:=List.all_eq_true.1 chkR_all d.length (List.mem_range.2 (by omega))
  have h3:=allD_ok chkR d.length (d.length - 1) [] (fall d) hc (fall_len d) (fall_desc d) (fun x hx=>by
    have:=h2 x (fall_mem.1 hx)
    omega)
  obtain ⟨n,hn⟩:∃ n,n=d.length:=⟨_,rfl⟩
  simp only [graphic,hv,Bool.true_and,Bool.and_eq_true,decide_eq_true_eq] at hg
  have hg2:noneNeg (slS (fall d))=true:=by rw [← slacks_S];exact hg.2
  simp only [List.reverse_nil,List.nil_append,chkR,fall_sum,hg.1,hg2,decide_true,Bool.and_self,Bool.not_true,Bool.false_or,decide_eq_true_eq,fall_len,hhG] at h3
  generalize inH (hh 8 ((fall d).zipIdx.map fun x=>(x.1.toNat,x.2)))=p0 at h3
  have hd:d=(List.range n).map fun v=>d.getD v 0:=by
    refine List.ext_getElem (by simp [hn]) fun i k1 k2=>?_
    simp [List.getD_eq_getElem?_getD,List.getElem?_eq_getElem k1]
  obtain ⟨π,hπ,hfp⟩:=perm_map_inv (f:=fun v=>d.getD v 0) (fall_perm d) hd
  have hπn:π.Nodup:=hπ.nodup_iff.2 List.nodup_range
  have hπl:π.length=n:=by rw [hπ.length_eq,List.length_range]
  have hσ:∀ v,v < n→π.idxOf v < n∧π[π.idxOf v]? = some v:=fun v hv=>by
    have hm:v ∈ π:=hπ.mem_iff.2 (List.mem_range.2 hv)
    have:=List.idxOf_lt_length_of_mem hm
    exact ⟨by omega,by rw [List.getElem?_eq_getElem this,List.getElem_idxOf]⟩
  have hinj:∀ u v,u < n→v < n→(π.idxOf u=π.idxOf v ↔ u=v):=fun u v hu hv=>by
    constructor
    · intro h
      have h4:=(hσ u hu).2
      rw [h,(hσ v hv).2] at h4
      simpa using h4.symm
    · rintro rfl;rfl
  have hmap:π.map (π.idxOf ·)=List.range n:=by
    refine List.ext_getElem (by simp [hπl]) fun i k1 k2=>?_
    rw [List.getElem_map,List.getElem_range]
    exact hπn.idxOf_getElem i (by simpa using k1)
  refine ⟨fun e=>p0 (mk (π.idxOf e.1.toNat) (π.idxOf e.2.toNat)),?_⟩
  rw [← hn]
  rw [degs_filter]
  conv=>rhs;rw [hd]
  refine List.map_congr_left fun v hv=>?_
  have hv:=List.mem_range.1 hv
  rw [← hn] at h3
  rw [deg_filter (by omega) _ hv]
  have hp:∀ u,p0 (mk (π.idxOf (mk u v).1.toNat) (π.idxOf (mk u v).2.toNat))=p0 (mk (π.idxOf u) (π.idxOf v)):=fun u=>by
    rcases Nat.le_total u v with h | h
    · rw [show (mk u v).1.toNat=u by simp only [mk];omega,show (mk u v).2.toNat=v by simp only [mk];omega]
    · rw [show (mk u v).1.toNat=v by simp only [mk];omega,show (mk u v).2.toNat=u by simp only [mk];omega,mk_comm]
  have e1:S (List.range n) (fun u=>if u=v then 0 else if p0 (mk (π.idxOf (mk u v).1.toNat) (π.idxOf (mk u v).2.toNat))=true then (1:Int) else 0) =
      S (List.range n) (fun u=>(fun i=>if i=π.idxOf v then 0 else if p0 (mk i (π.idxOf v))=true then (1:Int) else 0) (π.idxOf u)):=by
    refine S_congr fun u hu=>?_
    rw [hp u]
    exact ite_iff (hinj u v (List.mem_range.1 hu) hv).symm _ _
  rw [e1,← S_perm hπ]
  have e2:=S_map π (π.idxOf ·) (fun i=>if i=π.idxOf v then 0 else if p0 (mk i (π.idxOf v))=true then (1:Int) else 0)
  rw [hmap] at e2
  refine e2.symm.trans ?_
  rw [← deg_filter (by omega) p0 (hσ v hv).1]
  have h5:(degs n ((prs n).filter p0))[π.idxOf v]? = some (deg ((prs n).filter p0) (π.idxOf v)):=by
    rw [degs_filter,List.getElem?_map,List.getElem?_range (hσ v hv).1];rfl
  rw [h3,hfp,List.getElem?_map,(hσ v hv).2] at h5
  simpa using h5.symm
theorem real_ex {d:List Int} (hg:graphic d=true):∃ es,vGraph d.length es=true∧degs d.length es=d:=by
  obtain ⟨p,hp⟩:=graphic_real hg
  have hv:valid d=true:=by simp only [graphic,Bool.and_eq_true] at hg;exact hg.1.1
  exact ⟨_,filter_vG (valid_few hv).1 p,hp⟩
theorem graphic_iff_real {d:List Int} (h7:d.length≤7):graphic d=true ↔ ∃ es,vGraph d.length es=true∧degs d.length es=d:=by
  refine ⟨real_ex,?_⟩
  rintro ⟨es,h1,h2⟩
  have:=degs_graphic h1
  rwa [h2] at this
end Go.Idl
namespace Go.Idl
theorem deg_degs {n:Nat} {s:List (Int×Int)} (hs:s.Sublist (prs n)) {d:List Int} (hl:d.length=n):(∀ v,v < n→deg s v=d.getD v 0) ↔ degs n s=d:=by
  rw [degs_eq (prs_in hs)]
  constructor
  · intro h
    refine List.ext_getElem (by simp [hl]) fun v h1 h2=>?_
    rw [List.getElem_map,List.getElem_range,h v (by omega),List.getD_eq_getElem?_getD,List.getElem?_eq_getElem h2];rfl
  · intro h v hv
    rw [← h,List.getD_eq_getElem?_getD,List.getElem?_map,List.getElem?_range hv];rfl
theorem mem_reals {d:List Int} (h7:d.length≤7) (g:List (Int×Int)):g ∈ reals d ↔ vGraph d.length g=true∧degs d.length g=d:=by
  rw [reals,mem_subs (N:=d.length) _ _ _ _ (fun e he=>mem_prs.1 he) rfl]
  constructor
  · rintro ⟨s,hs,rfl,hd⟩
    exact ⟨vG_iff.2 ⟨(prs_pw _).sublist hs,fun e he=>hs.mem he,h7⟩,(deg_degs hs rfl).1 hd⟩
  · rintro ⟨h1,h2⟩
    exact ⟨g,vG_sub h1,rfl,(deg_degs (vG_sub h1) rfl).2 h2⟩
end Go.Idl
namespace Go.Idl
def lexR (left:List Int) (a b:Int):Prop:=left.getD b.toNat 0 < left.getD a.toNat 0 ∨ (left.getD a.toNat 0=left.getD b.toNat 0∧a < b)
theorem lexR_trans {left:List Int} {a b c:Int} (h:lexR left a b) (k:lexR left b c):lexR left a c:=by
  simp only [lexR] at *;omega
theorem lexR_irr {left:List Int} {a:Int} (h:lexR left a a):False:=by
  simp only [lexR] at h;omega
theorem insC_lex {left:List Int} {x:Int}:∀ (r B:List Int),(r.reverse++B).Pairwise (lexR left)→(∀ y ∈ r,y < x)→(∀ b ∈ B,left.getD b.toNat 0 < left.getD x.toNat 0)→(insC (gtD left) x r B).Pairwise (lexR left)
  | [],B,h,_,hb=>List.pairwise_cons.2 ⟨fun b hb'=>.inl (hb b hb'),by simpa using h⟩
  | a :: r,B,h,hr,hb=>by
    rw [List.reverse_cons,List.append_assoc] at h
    unfold insC
    split
    · rename_i hx
      refine insC_lex r (a::B) h (fun y hy=>hr y (by simp [hy])) fun b hb'=>?_
      rcases List.mem_cons.1 hb' with rfl | hb'
      · simpa [gtD] using hx
      · exact hb b hb'
    · rename_i hx
      have hx:left.getD x.toNat 0≤left.getD a.toNat 0:=by
        simp only [gtD,decide_eq_true_eq] at hx;omega
      have hax:lexR left a x:=by
        have:=hr a (by simp)
        simp only [lexR];omega
      obtain ⟨h1,h2,h3⟩:=List.pairwise_append.1 (show (r.reverse++a::B).Pairwise (lexR left) from h)
      have h2:=List.pairwise_cons.1 h2
      refine List.pairwise_append.2 ⟨h1,?_,fun p hp q hq=>?_⟩
      · refine List.pairwise_cons.2 ⟨fun q hq=>?_,List.pairwise_cons.2 ⟨fun b hb'=>.inl (hb b hb'),h2.2⟩⟩
        rcases List.mem_cons.1 hq with rfl | hq
        · exact hax
        · exact h2.1 q hq
      · have h4:=h3 p hp a (by simp)
        rcases List.mem_cons.1 hq with rfl | hq
        · exact h4
        · rcases List.mem_cons.1 hq with rfl | hq
          · exact lexR_trans h4 hax
          · exact h3 p hp q (by simp [hq])
theorem srtC_lex {left:List Int}:∀ (T S:List Int),S.Pairwise (lexR left)→(∀ y ∈ S,∀ x ∈ T,y < x)→T.Pairwise (fun a b:Int=>a < b)→(srtC (gtD left) S T).Pairwise (lexR left)
  | [],S,h,_,_=>h
  | x::r,S,h,hs,ht=>by
    have ht':=List.pairwise_cons.1 ht
    rw [srtC]
    refine srtC_lex r _ (insC_lex _ _ (by simpa using h) (fun y hy=>hs y (by simpa using hy) x (by simp)) (by simp)) (fun y hy z hz=>?_) ht'.2
    have:=(insC_perm (gtD left) x S.reverse []).mem_iff.1 hy
    simp only [List.reverse_reverse,List.mem_append,List.mem_cons,List.not_mem_nil,or_false] at this
    rcases this with h1 | rfl
    · exact hs y h1 z (by simp [hz])
    · exact ht'.1 z hz
theorem fmx_best (P:Nat→Bool) (left:List Int):∀ (k q:Nat),fmx P left k=(q:Int)→∀ i,i < k→P i=true→i=q ∨ lexR left q i
  | 0,q,h,i,hi,_=>by omega
  | k + 1, q, h,i,hi,hp=>by
    rw [fmx] at h
    split at h
    · rename_i hc
      have hkq:k=q:=by omega
      subst hkq
      by_cases hik:i=k
      · exact .inl hik
      · right
        simp only [Bool.and_eq_true,Bool.or_eq_true,decide_eq_true_eq] at hc
        rcases hc.2 with hc2 | hc2
        · rcases fmx_cases P left k with h1 | ⟨q1,_,h1,_⟩
          · have:=fmx_neg P left k h1 i (by omega)
            rw [hp] at this;cases this
          · rw [h1] at hc2;omega
        · rcases fmx_cases P left k with h1 | ⟨q1,_,h1,_⟩
          · have:=fmx_neg P left k h1 i (by omega)
            rw [hp] at this;cases this
          · rw [h1,Int.toNat_natCast] at hc2
            rcases fmx_best P left k q1 h1 i (by omega) hp with rfl | h2
            · left;simpa using hc2
            · simp only [lexR,Int.toNat_natCast] at h2 ⊢
              omega
    · rename_i hc
      by_cases hik:i=k
      · subst hik
        right
        simp only [hp,Bool.true_and,Bool.or_eq_true,decide_eq_true_eq,not_or] at hc
        rw [h,Int.toNat_natCast] at hc
        have hqi:q < i:=by
          rcases fmx_cases P left i with h1 | ⟨q1,h2,h1,_⟩
          · rw [h1] at h;omega
          · rw [h1] at h;omega
        simp only [lexR,Int.toNat_natCast]
        omega
      · exact fmx_best P left k q h i (by omega) hp
theorem fmx_head {P:Nat→Bool} {left:List Int} {n:Nat} {i:Int} {r:List Int} (hpw:(i::r).Pairwise (lexR left)) (hin:∀ x ∈ i::r,0≤x∧x < n) (hP:∀ w:Nat,w < n→(P w=true ↔ (w:Int) ∈ i::r)):fmx P left n=i:=by
  have hi:=hin i (by simp)
  obtain ⟨p,rfl⟩:=Int.eq_ofNat_of_zero_le hi.1
  have hp:P p=true:=(hP p (by omega)).2 (by simp)
  rcases fmx_cases P left n with h | ⟨q,hq,h,hPq⟩
  · have:=fmx_neg P left n h p (by omega)
    rw [hp] at this;cases this
  · rw [h]
    have hm:=(hP q hq).1 hPq
    rcases List.mem_cons.1 hm with h1 | h1
    · exact h1
    · have h2:=(List.pairwise_cons.1 hpw).1 _ h1
      rcases fmx_best P left n q h p (by omega) hp with h3 | h3
      · rw [h3]
      · exact absurd (lexR_trans h2 h3) lexR_irr
theorem fmx_none {P:Nat→Bool} {left:List Int} {n:Nat} (hP:∀ w:Nat,w < n→P w=false):fmx P left n=-1:=by
  rcases fmx_cases P left n with h | ⟨q,hq,h,hPq⟩
  · exact h
  · rw [hP q hq] at hPq;cases hPq
theorem insE_pw {e:Int×Int}:∀ {es:List (Int×Int)},PW es→e ∉ es→PW (insE e es)
  | [],_,_=>by simp [insE,PW]
  | x :: r,h,hn=>by
    have h':=List.pairwise_cons.1 h
    rw [insE]
    split
    · rename_i hx
      refine List.pairwise_cons.2 ⟨fun y hy=>?_,insE_pw h'.2 fun hm=>hn (by simp [hm])⟩
      rcases (insE_mem _ _ _).1 hy with rfl | hy
      · exact hx
      · exact h'.1 y hy
    · rename_i hx
      have hxe:below e x=true:=by
        rcases below_total (a:=e) (b:=x) (fun h=>hn (by simp [h])) with q | q
        · exact q
        · exact absurd q hx
      refine List.pairwise_cons.2 ⟨fun y hy=>?_,h⟩
      rcases List.mem_cons.1 hy with rfl | hy
      · exact hxe
      · exact below_trans hxe (h'.1 y hy)
theorem srtE_snoc {e:Int×Int} {es:List (Int×Int)} (hn:es.Nodup) (he:e ∉ es):insE e (srtE es)=srtE (es++[e]):=by
  have hn2:(es++[e]).Nodup:=List.nodup_append.2 ⟨hn,by simp,fun a ha b hb=>by simp at hb;subst hb;exact fun h=>he (h ▸ ha)⟩
  refine pw_ext (insE_pw (srtE_pw hn) fun h=>he ((srtE_perm es).mem_iff.1 h)) (srtE_pw hn2) fun x=>?_
  rw [insE_mem,(srtE_perm es).mem_iff,(srtE_perm _).mem_iff]
  simp [or_comm]
end Go.Idl
namespace Go.Idl
theorem has_srtE (es:List (Int×Int)) (a b:Int):has (srtE es) a b=has es a b:=by
  rw [has,has];exact (srtE_perm es).any_eq
theorem isE_mm {v i a b:Int}:isE a b (min v i,max v i)=true ↔ (a=v∧b=i) ∨ (a=i∧b=v):=by
  simp only [isE,Bool.or_eq_true,Bool.and_eq_true,decide_eq_true_eq]
  omega
theorem has_app (es fs:List (Int×Int)) (a b:Int):has (es++fs) a b=(has es a b || has fs a b):=by simp [has]
theorem has_mm {es:List (Int×Int)} {v i:Int} (h:has es v i=false):(min v i,max v i) ∉ es:=fun hm=>by
  rw [has,List.any_eq_false] at h
  exact h _ hm (isE_mm.2 (.inl ⟨rfl,rfl⟩))
theorem decAt_get' {o:List Int} {i x:Int} (hi:0≤i) (hx:0≤x) (hl:x < o.length):(decAt o i.toNat).getD x.toNat 0=o.getD x.toNat 0 - (if x=i then 1 else 0):=by
  rw [decAt_get (by omega)]
  by_cases h:x=i
  · subst h;simp
  · rw [if_neg h,if_neg (by omega)]
theorem iteQ {p q:Prop} [Decidable p] [Decidable q] (h:p ↔ q):(if p then (1:Int) else 0)=if q then 1 else 0:=by
  by_cases hp:p
  · rw [if_pos hp,if_pos (h.1 hp)]
  · rw [if_neg hp,if_neg fun k=>hp (h.2 k)]
theorem lay_eq {v:Int} {n:Nat} {done:List Int} (hv:0≤v∧v < n):∀ (k:Nat) (rest left:List Int) (es:List (Int×Int)),left.length=n→rest.Pairwise (lexR left)→(∀ x ∈ rest,0≤x∧x < n)→(∀ x ∈ left,0≤x)→es.Nodup →
    (∀ w:Nat,w < n→(((w:Int) ∉ done∧has es v w=false) ↔ (w:Int) ∈ rest)) →
    layS v n done k left (srtE es)=if k≤rest.length then (layI v (rest.take k) left es).map (fun q=>(q.1,srtE q.2)) else none
  | 0,rest,left,es,_,_,_,_,_,_=>by simp [layS,layI]
  | k + 1,[],left,es,_,_,_,_,_,hc=>by
    rw [layS]
    have:fmx (fun i=>!decide ((i:Int) ∈ done) && !has (srtE es) v i) left n=-1:=fmx_none fun w hw=>by
      have:¬ ((w:Int) ∉ done∧has es v w=false):=fun h=>by have:=(hc w hw).1 h;cases this
      rw [has_srtE]
      cases h1:has es v w <;> simp [h1] at this ⊢
      exact this
    simp [this]
  | k + 1,i::r,left,es,hl,hp,hr,hb,hn,hc=>by
    rw [layS]
    have hi:=hr i (by simp)
    have hm:fmx (fun i=>!decide ((i:Int) ∈ done) && !has (srtE es) v i) left n=i:=fmx_head hp hr fun w hw=>by
      rw [has_srtE,← hc w hw]
      simp
    simp only [hm]
    have hi0:¬ i < 0:=by omega
    have hil:i.toNat < left.length:=by omega
    have g:left.getD i.toNat 0=left[i.toNat]:=by simp [List.getD_eq_getElem?_getD,List.getElem?_eq_getElem hil]
    have g0:0≤left.getD i.toNat 0:=by rw [g];exact hb _ (List.getElem_mem _)
    rw [List.length_cons,List.take_succ_cons,layI]
    by_cases hz:left.getD i.toNat 0=0
    · rw [if_pos (.inr (by omega)),if_pos hz];simp
    · rw [if_neg (by omega),if_neg hz]
      have hhas:has es v i=false:=by
        have:=(hc i.toNat (by omega)).2 (by rw [Int.toNat_of_nonneg hi.1];simp)
        rw [Int.toNat_of_nonneg hi.1] at this
        exact this.2
      have hne:=has_mm hhas
      rw [srtE_snoc hn hne]
      have hp':=List.pairwise_cons.1 hp
      have hri:∀ x ∈ r,x ≠ i:=fun x hx h=>by have:=hp'.1 x hx;rw [h] at this;exact lexR_irr this
      have ih:=lay_eq hv k r (decAt left i.toNat) (es++[(min v i,max v i)]) (by simp [decAt,hl]) ?_ (fun x hx=>hr x (by simp [hx])) ?_ ?_ ?_ (done:=done)
      · rw [ih]
        simp only [Nat.succ_le_succ_iff,Nat.add_le_add_iff_right]
      · refine hp'.2.imp_of_mem fun {a b} ha hb' hab=>?_
        have h1:=hr a (by simp [ha])
        have h2:=hr b (by simp [hb'])
        rw [lexR,decAt_get' hi.1 h1.1 (by omega),decAt_get' hi.1 h2.1 (by omega),if_neg (hri a ha),if_neg (hri b hb')]
        simpa [lexR] using hab
      · intro x hx
        rcases List.mem_or_eq_of_mem_set hx with hx | rfl
        · exact hb x hx
        · omega
      · exact List.nodup_append.2 ⟨hn,by simp,fun a ha b hb=>by simp at hb;subst hb;exact fun h=>hne (h ▸ ha)⟩
      · intro w hw
        have h1:=hc w hw
        have h2:has [(min v i,max v i)] v w=true ↔ (w:Int)=i:=by
          rw [has,List.any_cons,List.any_nil,Bool.or_false,isE_mm];omega
        rw [has_app]
        have h3:(w:Int) ∈ r ↔ (w:Int) ∈ i::r∧(w:Int) ≠ i:=by
          constructor
          · exact fun h=>⟨by simp [h],hri _ h⟩
          · rintro ⟨h,h'⟩
            rcases List.mem_cons.1 h with h | h
            · exact absurd h h'
            · exact h
        rw [h3,← h1]
        cases h4:has [(min v i,max v i)] v w
        · have:¬ (w:Int)=i:=fun h=>by rw [h2.2 h] at h4;cases h4
          simp [this]
        · simp [h2.1 h4]
termination_by k=>k
theorem real_eq (n:Nat):∀ (m:Nat) (left todo done:List Int) (es:List (Int×Int)),left.length=n→(∀ x ∈ left,0≤x∧x≤1000)→todo.length=m→todo.Pairwise (fun a b:Int=>a < b)→(∀ x ∈ todo,0≤x∧x < n) →
    (∀ w:Nat,w < n→((w:Int) ∉ done ↔ (w:Int) ∈ todo))→es.Nodup→(∀ a ∈ todo,∀ b ∈ todo,has es a b=false) →
    realS n m left done (srtE es)=(realI m left todo es).map srtE
  | 0,left,todo,done,es,_,_,_,_,_,_,_,_=>rfl
  | m + 1,left,todo,done,es,hl,hb,htl,htp,htb,hd,hn,hh=>by
    rw [realS,realI]
    have hperm:=srtC_perm (gtD left) todo []
    cases hs:srtC (gtD left) [] todo with
    | nil=>rw [hs] at hperm;have:=hperm.length_eq;simp at this;omega
    | cons v r =>
      rw [hs,List.nil_append] at hperm
      have hlex:=srtC_lex (left:=left) todo [] .nil (by simp) htp
      rw [hs] at hlex
      have hv:v ∈ todo:=hperm.mem_iff.1 (by simp)
      have hvb:=htb v hv
      have hmx:fmx (fun i=>!decide ((i:Int) ∈ done)) left n=v:=fmx_head hlex (fun x hx=>htb x (hperm.mem_iff.1 hx)) fun w hw=>by
        rw [hperm.mem_iff,← hd w hw];simp
      simp only [hmx]
      obtain ⟨t2,ht2⟩:∃ t2,t2=todo.filter fun x=>!decide (x=v):=⟨_,rfl⟩
      rw [← ht2]
      have hm2:∀ x,x ∈ t2 ↔ x ∈ todo∧x ≠ v:=fun x=>by rw [ht2,List.mem_filter];simp
      have ht2p:t2.Pairwise (fun a b:Int=>a < b):=by rw [ht2];exact htp.filter _
      have ht2l:t2.length=m:=by
        have h1:=filter_len' (fun x=>decide (x=v)) todo
        have h2:(todo.filter fun x=>decide (x=v)).length=1:=by
          have hnd:todo.Nodup:=htp.imp fun h=>by omega
          have:=List.nodup_iff_count.1 hnd v
          have h3:=List.count_pos_iff.2 hv
          rw [← List.countP_eq_length_filter]
          have h4:todo.countP (fun x=>decide (x=v))=todo.count v:=by
            rw [List.count];exact List.countP_congr fun x _=>by simp
          omega
        rw [← ht2] at h1
        omega
      have hgv:left.getD v.toNat 0=left[v.toNat]'(by omega):=by simp [List.getD_eq_getElem?_getD,List.getElem?_eq_getElem (show v.toNat < left.length by omega)]
      have hk0:0≤left.getD v.toNat 0:=by rw [hgv];exact (hb _ (List.getElem_mem _)).1
      obtain ⟨k,hk⟩:=Int.eq_ofNat_of_zero_le hk0
      have hp2:=srtC_perm (gtD left) t2 []
      rw [List.nil_append] at hp2
      rw [hk,Int.toNat_natCast]
      have hlay:=lay_eq (done:=done++[v]) hvb k (srtC (gtD left) [] t2) left es hl (srtC_lex _ _ .nil (by simp) ht2p) (fun x hx=>htb x ((hm2 x).1 (hp2.mem_iff.1 hx)).1) (fun x hx=>(hb x hx).1) hn (fun w hw=>by
        rw [hp2.mem_iff,hm2,← hd w hw]
        constructor
        · rintro ⟨h1,_⟩
          simp only [List.mem_append,List.mem_singleton,not_or] at h1
          exact h1
        · rintro ⟨h1,h2⟩
          exact ⟨by simp [h1,h2],hh v hv _ ((hd w hw).1 h1)⟩)
      rw [hlay,hp2.length_eq,ht2l]
      by_cases hkm:k≤m
      · rw [if_pos hkm,if_neg (by omega),topD]
        cases hli:layI v ((srtC (gtD left) [] t2).take k) left es with
        | none=>rfl
        | some q =>
          obtain ⟨left',es'⟩:=q
          obtain ⟨k1,k2,k3⟩:=layI_inv v _ _ _ _ _ hli hb
          have htm:∀ x ∈ (srtC (gtD left) [] t2).take k,x ∈ t2:=fun x hx=>hp2.mem_iff.1 (List.mem_of_mem_take hx)
          have htn:((srtC (gtD left) [] t2).take k).Nodup:=(hp2.nodup_iff.2 (ht2p.imp fun h=>by omega)).sublist (List.take_sublist _ _)
          refine real_eq n m left' t2 (done++[v]) es' (by omega) k2 ht2l ht2p (fun x hx=>htb x ((hm2 x).1 hx).1) (fun w hw=>?_) ?_ ?_
          · rw [hm2,← hd w hw];simp
          · rw [k3]
            refine List.nodup_append.2 ⟨hn,?_,?_⟩
            · rw [List.Nodup,List.pairwise_map]
              refine List.Pairwise.imp_of_mem (fun {i j} hi hj hij he=>?_) htn
              have h1:=((hm2 i).1 (htm i hi)).2
              have h2:=((hm2 j).1 (htm j hj)).2
              simp only [Prod.mk.injEq] at he
              omega
            · intro a ha b hb' hab
              subst hab
              obtain ⟨i,hi,rfl⟩:=List.mem_map.1 hb'
              exact has_mm (hh v hv i ((hm2 i).1 (htm i hi)).1) ha
          · intro a ha b hb'
            have h1:=(hm2 a).1 ha
            have h2:=(hm2 b).1 hb'
            rw [k3,has_app,hh a h1.1 b h2.1,Bool.false_or,has,List.any_eq_false]
            intro e he
            obtain ⟨i,hi,rfl⟩:=List.mem_map.1 he
            rw [isE_mm]
            omega
      · rw [if_neg hkm,if_pos (by omega)];rfl
theorem idxB_pw (n:Nat):(idxB n (-1)).Pairwise (fun a b:Int=>a < b):=by
  rw [idxB_all,List.pairwise_map]
  exact (List.pairwise_lt_range).imp fun h=>by omega
theorem mem_idxB {n:Nat} {x:Int}:x ∈ idxB n (-1) ↔ 0≤x∧x < n:=by
  rw [idxB_all,List.mem_map]
  constructor
  · rintro ⟨v,hv,rfl⟩;have:=List.mem_range.1 hv;omega
  · intro h;exact ⟨x.toNat,List.mem_range.2 (by omega),by omega⟩
theorem realT_eq {d:List Int} (hb:∀ x ∈ d,0≤x∧x≤1000):realT d=(realD d).map srtE :=
  real_eq d.length d.length d (idxB d.length (-1)) [] [] rfl hb (by rw [idxB_all];simp) (idxB_pw _) (fun x hx=>mem_idxB.1 hx) (fun w hw=>by rw [mem_idxB];simp;omega) .nil (by simp [has])
theorem layI_get {n:Nat} (v:Int):∀ (tops left:List Int) (es:List (Int×Int)) (left':List Int) (es':List (Int×Int)),layI v tops left es=some (left',es')→tops.Nodup→left.length=n→(∀ x ∈ tops,0≤x∧x < n) →
    ∀ x:Int,0≤x→x < n→left'.getD x.toNat 0=left.getD x.toNat 0 - (if x ∈ tops then 1 else 0)
  | [],left,es,left',es',h,_,_,_,x,_,_=>by
    simp only [layI,Option.some.injEq,Prod.mk.injEq] at h
    rw [h.1];simp
  | i::r,left,es,left',es',h,hn,hl,hb,x,h0,h1=>by
    rw [layI] at h
    split at h
    · cases h
    have hn':=List.nodup_cons.1 hn
    have hi:=hb i (by simp)
    rw [layI_get v r _ _ _ _ h hn'.2 (by simp [decAt,hl]) (fun x hx=>hb x (by simp [hx])) x h0 h1,decAt_get' hi.1 h0 (by omega)]
    by_cases hx:x=i
    · subst hx;simp [hn'.1]
    · simp [hx]
theorem real_deg (n:Nat):∀ (m:Nat) (left todo:List Int) (es es':List (Int×Int)),realI m left todo es=some es'→todo.Nodup→(∀ x ∈ todo,0≤x∧x < n)→left.length=n→(∀ x ∈ left,0≤x∧x≤1000)→todo.length≤m →
    ∀ new,es'=es++new→∀ u:Nat,(u:Int) ∈ todo→deg new u=left.getD u 0
  | 0,left,todo,es,es',h,_,_,_,_,hm,new,_,u,hu=>by
    rw [List.length_eq_zero_iff.1 (by omega:todo.length=0)] at hu;cases hu
  | m + 1,left,todo,es,es',h,hn,hb,hl,hle,hm,new,hnew,u,hu=>by
    rw [realI] at h
    have hperm:=srtC_perm (gtD left) todo []
    cases hs:srtC (gtD left) [] todo with
    | nil =>
      rw [hs] at hperm
      rw [List.length_eq_zero_iff.1 (by have:=hperm.length_eq;simp at this;omega:todo.length=0)] at hu;cases hu
    | cons v r =>
      rw [hs] at h
      rw [hs,List.nil_append] at hperm
      have hv:v ∈ todo:=hperm.mem_iff.1 (by simp)
      have hvb:=hb v hv
      simp only at h
      split at h
      · cases h
      rename_i hge
      obtain ⟨t2,ht2⟩:∃ t2,t2=todo.filter fun x=>!decide (x=v):=⟨_,rfl⟩
      rw [← ht2] at h hge
      have hm2:∀ x,x ∈ t2 ↔ x ∈ todo∧x ≠ v:=fun x=>by rw [ht2,List.mem_filter];simp
      have ht2n:t2.Nodup:=by rw [ht2];exact hn.filter _
      have ht2l:t2.length≤m:=by
        have h1:=filter_len' (fun x=>decide (x=v)) todo
        have h2:0 < (todo.filter fun x=>decide (x=v)).length:=List.length_pos_of_mem (List.mem_filter.2 ⟨hv,by simp⟩)
        rw [← ht2] at h1
        omega
      have hp2:=srtC_perm (gtD left) t2 []
      rw [List.nil_append] at hp2
      obtain ⟨tops,htops⟩:∃ tops,tops=topD left t2 (left.getD v.toNat 0).toNat:=⟨_,rfl⟩
      rw [← htops] at h
      have htm:∀ x ∈ tops,x ∈ t2:=fun x hx=>by rw [htops] at hx;exact hp2.mem_iff.1 (List.mem_of_mem_take hx)
      have htn:tops.Nodup:=by rw [htops];exact (hp2.nodup_iff.2 ht2n).sublist (List.take_sublist _ _)
      cases hli:layI v tops left es with
      | none=>rw [hli] at h;cases h
      | some q =>
        obtain ⟨left',es1⟩:=q
        rw [hli] at h
        simp only at h
        obtain ⟨k1,k2,k3⟩:=layI_inv v _ _ _ _ _ hli hle
        obtain ⟨new2,q1,q2,q3⟩:=realI_edges n m left' t2 es1 es' h ht2n (fun x hx=>hb x ((hm2 x).1 hx).1)
        have ih:=real_deg n m left' t2 es1 es' h ht2n (fun x hx=>hb x ((hm2 x).1 hx).1) (by omega) k2 ht2l new2 q1
        have hnn:new=(tops.map fun i=>(min v i,max v i))++new2:=by
          have:es++new=es++((tops.map fun i=>(min v i,max v i))++new2):=by rw [← hnew,q1,k3];simp
          exact List.append_cancel_left this
        rw [hnn,deg,S_app]
        have hvt:v ∉ tops:=fun h=>((hm2 v).1 (htm v h)).2 rfl
        have hinc:∀ i,i ≠ v→inc u (min v i,max v i)=(if (u:Int)=v then 1 else 0)+(if (u:Int)=i then 1 else 0):=by
          intro i hi
          simp only [inc]
          rcases Int.le_total v i with h | h
          · rw [Int.min_eq_left h,Int.max_eq_right h]
            congr 1
            · exact iteQ (by omega)
            · exact iteQ (by omega)
          · rw [Int.min_eq_right h,Int.max_eq_left h,Int.add_comm]
            congr 1
            · exact iteQ (by omega)
            · exact iteQ (by omega)
        have hsum:S (tops.map fun i=>(min v i,max v i)) (inc u)=(if (u:Int)=v then (tops.length:Int) else 0)+(if (u:Int) ∈ tops then 1 else 0):=by
          rw [S_map,S_congr (g:=fun i=>(if (u:Int)=v then 1 else 0)+(if (u:Int)=i then 1 else 0)) fun i hi=>hinc i fun h=>hvt (h ▸ hi),S_add,S_one htn,S_const]
          split <;> simp
        rw [hsum]
        by_cases huv:(u:Int)=v
        · have:S new2 (inc u)=0:=by
            rw [← S_zero new2]
            refine S_congr fun e he=>?_
            obtain ⟨_,a1,a2⟩:=q3 e he
            have b1:=((hm2 _).1 a1).2
            have b2:=((hm2 _).1 a2).2
            rw [inc,if_neg (by omega),if_neg (by omega)];rfl
          rw [this,if_pos huv,if_neg (by rw [huv];exact hvt)]
          have hkl:tops.length=(left.getD v.toNat 0).toNat:=by
            rw [htops,topD,List.length_take,hp2.length_eq];omega
          have hgv:left.getD v.toNat 0=left[v.toNat]'(by omega):=by simp [List.getD_eq_getElem?_getD,List.getElem?_eq_getElem (show v.toNat < left.length by omega)]
          have hk0:0≤left.getD v.toNat 0:=by rw [hgv];exact (hle _ (List.getElem_mem _)).1
          rw [hkl,← huv,Int.toNat_natCast] at *
          omega
        · have h1:=ih u ((hm2 _).2 ⟨hu,huv⟩)
          have h2:=layI_get v _ _ _ _ _ hli htn hl (fun x hx=>hb x ((hm2 x).1 (htm x hx)).1) (u:Int) (by omega) (hb _ hu).2
          rw [Int.toNat_natCast] at h2
          rw [deg] at h1
          rw [h1,h2,if_neg huv]
          omega
theorem realD_degs {d:List Int} (h7:d.length≤7) (hb:∀ x ∈ d,0≤x∧x≤1000) {es:List (Int×Int)} (h:realD d=some es):degs d.length (srtE es)=d:=by
  obtain ⟨k1,k2,k3,k4⟩:=realD_ok h7 h
  have h1:=real_deg d.length _ _ _ _ _ h ((idxB_pw _).imp fun h=>by omega) (fun x hx=>mem_idxB.1 hx) rfl hb (by rw [idxB_all];simp) es (by simp)
  rw [degs_eq (fun e he=>by have:=mem_prs.1 ((vG_iff.1 k4).2.1 e he);omega)]
  refine List.ext_getElem (by simp) fun i hi hj=>?_
  rw [List.getElem_map,List.getElem_range]
  have:=h1 i (mem_idxB.2 (by omega))
  rw [deg,S_perm (srtE_perm es),← deg,this]
  simp [List.getD_eq_getElem?_getD,List.getElem?_eq_getElem hj]
end Go.Idl
namespace Go.Idl
theorem realLaw:∀ d,valid d=true→RealLaw d:=fun d hv=>by
  have hf:=valid_few hv
  have hb:∀ x ∈ d,0≤x∧x≤1000:=fun x hx=>by have:=hf.2 x hx;omega
  exact ⟨realT_eq hb,fun es h=>⟨(realD_ok hf.1 h).2.2.2,realD_degs hf.1 hb h⟩⟩
end Go.Idl
namespace Go.Idl
def hv:Nat→List Int→Bool
  | 0,_=>true
  | _+1,[]=>true
  | m+1,x::r=>decide (x≤r.length) && (r.take x.toNat).all (fun y=>!decide (y=0)) && hv m (fall ((r.take x.toNat).map (fun y=>y - 1)++r.drop x.toNat))
def chkH (s:List Int):Bool:=decide (hv s.length s=(decide (s.sum % 2=0) && noneNeg (slS s)))
set_option maxRecDepth 100000 in
theorem chkH_all:(List.range 8).all (fun n=>allD chkH n (n - 1) [])=true:=by kernel_rfl
theorem hv_graphic {d:List Int} (hv':valid d=true):hv d.length (fall d)=graphic d:=by
  have h1:=(valid_few hv').1
  have h2:=valid_mem hv'
  have hc:=List.all_eq_true.1 chkH_all d.length (List.mem_range.2 (by omega))
  have h3:=allD_ok chkH d.length (d.length - 1) [] (fall d) hc (fall_len d) (fall_desc d) (fun x hx=>by
    have:=h2 x (fall_mem.1 hx)
    omega)
  simp only [List.reverse_nil,List.nil_append,chkH,decide_eq_true_eq,fall_len,fall_sum] at h3
  rw [h3,graphic,hv',slacks_S,Bool.true_and]
  rfl
theorem layI_some {n:Nat} (v:Int):∀ (tops left:List Int) (es:List (Int×Int)),tops.Nodup→left.length=n→(∀ x ∈ tops,0≤x∧x < n) →
    (layI v tops left es).isSome=tops.all (fun i=>!decide (left.getD i.toNat 0=0))
  | [],left,es,_,_,_=>rfl
  | i :: r,left,es,hn,hl,hb=>by
    have hn':=List.nodup_cons.1 hn
    have hi:=hb i (by simp)
    rw [layI]
    by_cases h0:left.getD i.toNat 0=0
    · rw [if_pos h0,List.all_cons,h0];rfl
    · rw [if_neg h0,layI_some v r _ _ hn'.2 (by simp [decAt,hl]) (fun x hx=>hb x (by simp [hx])),List.all_cons]
      simp only [h0,decide_false,Bool.not_false,Bool.true_and]
      rw [Bool.eq_iff_iff,List.all_eq_true,List.all_eq_true]
      refine forall_congr' fun x=>?_
      refine forall_congr' fun (hx:x ∈ r)=>?_
      have hxb:=hb x (by simp [hx])
      rw [decAt_get' hi.1 hxb.1 (by omega),if_neg (fun h=>hn'.1 (by rw [← h];exact hx))]
      simp
theorem lex_unique {left xs ys:List Int} (hx:xs.Pairwise (lexR left)) (hy:ys.Pairwise (lexR left)) (h:xs.Perm ys):xs=ys :=
  h.eq_of_pairwise (fun a b _ _ h k=>absurd (lexR_trans h k) lexR_irr) hx hy
theorem realI_hv (n:Nat):∀ (m:Nat) (left todo:List Int) (es:List (Int×Int)),left.length=n→(∀ x ∈ left,0≤x∧x≤1000)→todo.length=m→todo.Pairwise (fun a b:Int=>a < b)→(∀ x ∈ todo,0≤x∧x < n) →
    (realI m left todo es).isSome=hv m (fall (todo.map fun x=>left.getD x.toNat 0))
  | 0,left,todo,es,_,_,_,_,_=>rfl
  | m + 1,left,todo,es,hl,hb,htl,htp,htb=>by
    have hsorted:∀ (left' T:List Int),T.Pairwise (fun a b:Int=>a < b)→fall (T.map fun x=>left'.getD x.toNat 0)=(srtC (gtD left') [] T).map fun x=>left'.getD x.toNat 0:=fun left' T hT=>by
      refine (fall_unique ?_ (((srtC_perm (gtD left') T [])).map _)).symm
      rw [Desc,List.pairwise_map]
      exact (srtC_lex (left:=left') T [] .nil (by simp) hT).imp fun h=>by simp only [lexR] at h;omega
    rw [hsorted left todo htp,realI]
    have hperm:=srtC_perm (gtD left) todo []
    have hlex:=srtC_lex (left:=left) todo [] .nil (by simp) htp
    cases hs:srtC (gtD left) [] todo with
    | nil=>rw [hs] at hperm;have:=hperm.length_eq;simp at this;omega
    | cons v r =>
      rw [hs,List.nil_append] at hperm
      rw [hs] at hlex
      have hv0:v ∈ todo:=hperm.mem_iff.1 (by simp)
      have hvb:=htb v hv0
      obtain ⟨t2,ht2⟩:∃ t2,t2=todo.filter fun x=>!decide (x=v):=⟨_,rfl⟩
      simp only [← ht2]
      have ht2p:t2.Pairwise (fun a b:Int=>a < b):=by rw [ht2];exact htp.filter _
      have hnd:todo.Nodup:=htp.imp fun h=>by omega
      have hm2:∀ x,x ∈ t2 ↔ x ∈ todo∧x ≠ v:=fun x=>by rw [ht2,List.mem_filter];simp
      have hrn:(v::r).Nodup:=hperm.nodup_iff.2 hnd
      have hr2:r.Perm t2:=by
        refine (List.perm_ext_iff_of_nodup (List.nodup_cons.1 hrn).2 (ht2p.imp fun h=>by omega)).2 fun x=>?_
        rw [hm2,← hperm.mem_iff,List.mem_cons]
        constructor
        · exact fun h=>⟨.inr h,fun k=>(List.nodup_cons.1 hrn).1 (k ▸ h)⟩
        · rintro ⟨rfl | h,k⟩
          · exact absurd rfl k
          · exact h
      have hsr:srtC (gtD left) [] t2=r:=lex_unique (srtC_lex _ _ .nil (by simp) ht2p) (List.pairwise_cons.1 hlex).2 ((srtC_perm (gtD left) t2 []).trans (by simpa using hr2.symm))
      have hrl:r.length=m:=by have:=hperm.length_eq;simp at this;omega
      rw [List.map_cons,hv,List.length_map,← hr2.length_eq,topD,hsr,← List.map_take,← List.map_drop]
      by_cases hk:left.getD v.toNat 0≤r.length
      · rw [if_neg (by omega)]
        simp only [hk,decide_true,Bool.true_and]
        generalize (left.getD v.toNat 0).toNat=k
        have htn:(r.take k).Nodup:=(List.nodup_cons.1 hrn).2.sublist (List.take_sublist _ _)
        have htb2:∀ x ∈ r,0≤x∧x < n:=fun x hx=>htb x ((hm2 x).1 (hr2.mem_iff.1 hx)).1
        have htb3:∀ x ∈ r.take k,0≤x∧x < n:=fun x hx=>htb2 x (List.mem_of_mem_take hx)
        have hsome:=layI_some v (r.take k) left es htn hl htb3
        rw [List.all_map]
        cases hli:layI v (r.take k) left es with
        | none =>
          rw [hli] at hsome
          have:(r.take k).all ((fun y=>!decide (y=0)) ∘ fun x=>left.getD x.toNat 0)=false:=hsome.symm
          rw [this];rfl
        | some q =>
          obtain ⟨left',es'⟩:=q
          rw [hli] at hsome
          have:(r.take k).all ((fun y=>!decide (y=0)) ∘ fun x=>left.getD x.toNat 0)=true:=hsome.symm
          rw [this,Bool.true_and]
          obtain ⟨k1,k2,k3⟩:=layI_inv v _ _ _ _ _ hli hb
          have hg:=layI_get v _ _ _ _ _ hli htn hl htb3
          simp only
          rw [realI_hv n m left' t2 es' (by omega) k2 (by rw [← hr2.length_eq];exact hrl) ht2p (fun x hx=>htb x ((hm2 x).1 hx).1)]
          refine congrArg (hv m) (fall_congr ((hr2.symm.map _).trans ?_))
          conv=>lhs;rw [← List.take_append_drop k r,List.map_append]
          rw [List.map_map]
          have hdis:∀ x ∈ r.drop k,x ∉ r.take k:=by
            have:=(List.nodup_append.1 (by rw [List.take_append_drop];exact (List.nodup_cons.1 hrn).2:(r.take k++r.drop k).Nodup)).2.2
            exact fun x hx hx'=>this x hx' x hx rfl
          refine List.Perm.append (.of_eq (List.map_congr_left fun x hx=>?_)) (.of_eq (List.map_congr_left fun x hx=>?_))
          · have hx2:=htb3 x hx
            rw [hg x hx2.1 hx2.2,if_pos hx];rfl
          · have hx2:=htb2 x (List.mem_of_mem_drop hx)
            rw [hg x hx2.1 hx2.2,if_neg (hdis x hx)];simp
      · rw [if_pos (by omega),decide_eq_false hk]
        rfl
theorem realD_some {d:List Int} (hv':valid d=true):(realD d).isSome=graphic d:=by
  have hf:=valid_few hv'
  have hb:∀ x ∈ d,0≤x∧x≤1000:=fun x hx=>by have:=hf.2 x hx;omega
  rw [realD,realI_hv d.length d.length d _ [] rfl hb (by rw [idxB_all];simp) (idxB_pw _) (fun x hx=>mem_idxB.1 hx),← hv_graphic hv']
  congr 2
  rw [idxB_all,List.map_map]
  refine List.ext_getElem (by simp) fun i h1 h2=>?_
  simp [List.getD_eq_getElem?_getD,List.getElem?_eq_getElem h2]
end Go.Idl
namespace Go.Idl
theorem subs_nodup {N:Nat}:∀ (r:List (Int×Int)) (left:List Int) (ch:List (Int×Int)),(∀ e ∈ r,0≤e.1∧e.1 < e.2∧e.2 < N)→left.length=N→r.Nodup→(subs r left ch).Nodup
  | [],left,ch,_,_,_=>by rw [subs];split <;> simp
  | e :: r,left,ch,hr,hl,hn=>by
    have hn':=List.nodup_cons.1 hn
    have hr':∀ x ∈ r,0≤x.1∧x.1 < x.2∧x.2 < N:=fun x hx=>hr x (by simp [hx])
    rw [subs]
    refine List.nodup_append.2 ⟨?_,subs_nodup r left ch hr' hl hn'.2,?_⟩
    · split
      · exact subs_nodup r _ _ hr' (by simp [decAt,hl]) hn'.2
      · exact .nil
    · intro g hg g2 hg2 hgg
      subst hgg
      split at hg
      · obtain ⟨s1,-,h1,-⟩:=(mem_subs r _ _ g hr' (by simp [decAt,hl])).1 hg
        obtain ⟨s2,hs2,h2,-⟩:=(mem_subs r _ _ g hr' hl).1 hg2
        rw [h1,List.append_assoc] at h2
        have h3:=List.append_cancel_left h2
        exact hn'.1 (hs2.mem (by rw [← h3];simp))
      · cases hg
theorem reals_nodup (d:List Int):(reals d).Nodup:=subs_nodup _ _ _ (fun _ he=>mem_prs.1 he) rfl (pw_nodup (prs_pw _))
theorem reals_some {d:List Int} (h7:d.length≤7):graphic d=!(reals d).isEmpty:=by
  rw [Bool.eq_iff_iff,graphic_iff_real (by omega)]
  constructor
  · rintro ⟨es,h1,h2⟩
    have:=(mem_reals (by omega) es).2 ⟨h1,h2⟩
    cases hr:reals d with
    | nil=>rw [hr] at this;simp at this
    | cons _ _=>rfl
  · intro h
    cases hr:reals d with
    | nil=>rw [hr] at h;cases h
    | cons g r=>exact ⟨g,(mem_reals (by omega) g).1 (by rw [hr];simp)⟩
theorem insE_end {e:Int×Int}:∀ {es:List (Int×Int)},(∀ x ∈ es,below x e=true)→insE e es=es++[e]
  | [],_=>rfl
  | x::es,h=>by rw [insE,if_pos (h x (by simp)),insE_end fun y hy=>h y (by simp [hy])];rfl
theorem sum_zero:∀ {l:List Int},(∀ x ∈ l,0≤x)→(l.sum=0 ↔ l.all (fun x=>decide (x=0))=true)
  | [],_=>by simp
  | x :: l,h=>by
    have h1:=h x (by simp)
    have h2:0≤l.sum:=by
      have:∀ {l:List Int},(∀ x ∈ l,0≤x)→0≤l.sum:=by
        intro l
        induction l with
        | nil=>intro _;simp
        | cons y l ih=>intro h;have:=ih fun z hz=>h z (by simp [hz]);have:=h y (by simp);simp only [List.sum_cons];omega
      exact this fun y hy=>h y (by simp [hy])
    rw [List.sum_cons,List.all_cons,Bool.and_eq_true,← sum_zero fun y hy=>h y (by simp [hy]),decide_eq_true_eq]
    omega
theorem srS_subs {n:Nat}:∀ (r:List (Int×Int)) (left:List Int) (es:List (Int×Int)),PW r→(∀ e ∈ r,e ∈ prs n)→left.length=n→(∀ x ∈ left,0≤x)→(∀ x ∈ es,∀ e ∈ r,below x e=true) →
    srS n es left r=subs r left es
  | [],left,es,_,_,_,hb,_=>by rw [srS,subs];exact ite_iff (sum_zero hb) _ _
  | e :: r, left,es,hp,hr,hl,hb,hes=>by
    have hp':=List.pairwise_cons.1 hp
    have he:=mem_prs.1 (hr e (by simp))
    have hr':∀ x ∈ r,x ∈ prs n:=fun x hx=>hr x (by simp [hx])
    have hes':∀ x ∈ es,∀ y ∈ r,below x y=true:=fun x hx y hy=>hes x hx y (by simp [hy])
    have h2:=srS_subs r left es hp'.2 hr' hl hb hes'
    rw [srS,subs,insE_end fun x hx=>hes x hx e (by simp)]
    congr 1
    · split
      · rename_i hq
        refine srS_subs r _ _ hp'.2 hr' (by simp [decAt,hl]) (fun x hx=>?_) fun x hx y hy=>?_
        · obtain ⟨i,hi,rfl⟩:=List.mem_iff_getElem.1 hx
          have hi2:i < left.length:=by simpa [decAt] using hi
          have g1:=decAt_get (o:=decAt left e.1.toNat) (i:=e.2.toNat) (v:=i) (by simpa [decAt] using hi2)
          have g2:=decAt_get (o:=left) (i:=e.1.toNat) (v:=i) hi2
          rw [List.getD_eq_getElem?_getD,List.getElem?_eq_getElem hi] at g1
          have g3:=hb left[i] (List.getElem_mem hi2)
          have g4:left.getD i 0=left[i]:=by rw [List.getD_eq_getElem?_getD,List.getElem?_eq_getElem hi2];rfl
          simp only [Option.getD_some] at g1
          rw [g1,g2,g4]
          by_cases k1:e.1.toNat=i
          · rw [k1] at hq
            have:¬ e.2.toNat=i:=by omega
            rw [if_pos k1,if_neg this];omega
          · by_cases k2:e.2.toNat=i
            · rw [k2] at hq
              rw [if_neg k1,if_pos k2];omega
            · rw [if_neg k1,if_neg k2];omega
        · rcases List.mem_append.1 hx with hx | hx
          · exact hes' x hx y hy
          · simp at hx;subst hx;exact hp'.1 y hy
      · rfl
    · by_cases hq:e.2+1 < n ∨ left.getD e.1.toNat 0=0
      · rw [if_pos hq,h2]
      · rw [if_neg hq]
        cases hs:subs r left es with
        | nil=>rfl
        | cons g gl =>
          exfalso
          have hg:g ∈ subs r left es:=by rw [hs];simp
          obtain ⟨s,hsr,-,hd⟩:=(mem_subs r left es g (fun x hx=>mem_prs.1 (hr' x hx)) hl).1 hg
          have h3:=hd e.1.toNat (by omega)
          have h4:deg s e.1.toNat=0:=by
            rw [deg,S_congr (g:=fun _=>0),S_zero]
            intro x hx
            have hx1:=hp'.1 x (hsr.mem hx)
            have hx2:=mem_prs.1 (hr' x (hsr.mem hx))
            rw [below_iff] at hx1
            rw [inc,if_neg (by omega),if_neg (by omega)];rfl
          omega
theorem srS_reals {d:List Int} (hv:valid d=true):srS d.length [] d (prs d.length)=reals d :=
  srS_subs _ _ _ (prs_pw _) (fun _ h=>h) rfl (fun x hx=>(valid_mem hv x hx).1) (by simp)
end Go.Idl
namespace Go.Idl
theorem allLaw:∀ d,valid d=true→d.length≤5→AllLaw d:=fun d hv h5=>by
  have h7:d.length≤7:=by omega
  refine ⟨srS_reals hv,reals_nodup d,?_,fun es he=>(mem_reals h7 es).1 he,fun hr=>?_,fun es hr=>(mem_reals h7 _).2 ((realLaw d hv).2 es hr)⟩
  · have h1:=subs_len (prs d.length) d []
    have h2:∀ n,n≤7→(prs n).length≤21:=by decide +kernel
    have h3:(2:Nat) ^ (prs d.length).length≤2 ^ 21:=Nat.pow_le_pow_right (by omega) (h2 _ h7)
    rw [reals];omega
  · have h1:=realD_some hv
    rw [hr,reals_some h7] at h1
    cases hq:reals d with
    | nil=>rfl
    | cons g gl=>rw [hq] at h1;cases h1
end Go.Idl
