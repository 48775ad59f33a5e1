/- Part 8 of a proof by an ideal interpreter of the code: its definitions and lemmas. Conditions: none. -/
import Derived.KernelRfl
import Derived.Test.YtnpcdnpfncdbnaaA7
set_option linter.all false
set_option linter.unusedVariables false
set_option linter.unusedSimpArgs false
namespace Go.Idl
open Go
theorem ev_equalInts_ZL (c:Bool):Ev tb zl53 [] [Z,L [] c] [] ⟨Bo true,[],[],[]⟩:=by
  refine call_of_wp zt53 rfl ?_
  repeat (first|apply wp_as|apply wp_ss|refine wr (by simp;with_reducible rfl) ?_|refine wq (by simp;with_reducible rfl) ?_|refine wt (by simpa) ?_|refine wf (by simpa) ?_|refine xt (by simpa) ?_|refine xf (by simpa) ?_|apply wp_bs|apply wp_b|refine wp_sr ?_|refine wp_sx ?_|refine wp_ret' ?_|refine wp_skip' ?_|refine wp_exit' ?_)
  refine wp_loop ?_
  repeat (first|apply wp_as|apply wp_ss|refine wr (by simp;with_reducible rfl) ?_|refine wq (by simp;with_reducible rfl) ?_|refine wt (by simpa) ?_|refine wf (by simpa) ?_|refine xt (by simpa) ?_|refine xf (by simpa) ?_|apply wp_bs|apply wp_b|refine wp_sr ?_|refine wp_sx ?_|refine wp_ret' ?_|refine wp_skip' ?_|refine wp_exit' ?_)
  simp [zi53]
theorem ev_allIn_Z (lo hi:Int):Ev tb zl29 [] [Z,I lo,I hi] [] ⟨Bo true,[],[],[]⟩:=by
  have e0:limF tb zl73 [] [Z,.fn zl30 [.bptr 0 0 0,.bptr 0 1 0]] [[[I lo],[I hi]],[]]=some ⟨I (-1),[],[[[I lo],[I hi]],[]],[]⟩:=by
    refine ev_lim ?_
    refine call_of_wp zt73 rfl ?_
    repeat (first|apply wp_as|apply wp_ss|refine wr (by simp;with_reducible rfl) ?_|refine wq (by simp;with_reducible rfl) ?_|refine wt (by simpa) ?_|refine wf (by simpa) ?_|refine xt (by simpa) ?_|refine xf (by simpa) ?_|apply wp_bs|apply wp_b|refine wp_sr ?_|refine wp_sx ?_|refine wp_ret' ?_|refine wp_skip' ?_|refine wp_exit' ?_)
    refine wp_loop ?_
    repeat (first|apply wp_as|apply wp_ss|refine wr (by simp;with_reducible rfl) ?_|refine wq (by simp;with_reducible rfl) ?_|refine wt (by simpa) ?_|refine wf (by simpa) ?_|refine xt (by simpa) ?_|refine xf (by simpa) ?_|apply wp_bs|apply wp_b|refine wp_sr ?_|refine wp_sx ?_|refine wp_ret' ?_|refine wp_skip' ?_|refine wp_exit' ?_)
    simp [zi73]
  have e1:limF tb zl72 [] [Z,.fn zl30 [.bptr 0 0 0,.bptr 0 1 0]] [[[I lo],[I hi]]]=some ⟨Bo false,[],[[[I lo],[I hi]]],[]⟩:=by
    refine ev_lim ?_
    refine call_of_wp zt72 rfl ?_
    repeat (first|apply wp_as|apply wp_ss|refine wr (by simp [e0];with_reducible rfl) ?_|refine wq (by simp [e0];with_reducible rfl) ?_|refine wt (by simpa [e0]) ?_|refine wf (by simpa [e0]) ?_|refine xt (by simpa [e0]) ?_|refine xf (by simpa [e0]) ?_|apply wp_bs|apply wp_b|refine wp_sr ?_|refine wp_sx ?_|refine wp_ret' ?_|refine wp_skip' ?_|refine wp_exit' ?_)
    simp [zi72]
  refine call_of_wp zt29 rfl ?_
  repeat (first|apply wp_as|apply wp_ss|refine wr (by simp [e1];with_reducible rfl) ?_|refine wq (by simp [e1];with_reducible rfl) ?_|refine wt (by simpa [e1]) ?_|refine wf (by simpa [e1]) ?_|refine xt (by simpa [e1]) ?_|refine xf (by simpa [e1]) ?_|apply wp_bs|apply wp_b|refine wp_sr ?_|refine wp_sx ?_|refine wp_ret' ?_|refine wp_skip' ?_|refine wp_exit' ?_)
  simp [zi29]
theorem ev_count_Z (F:Lab) (caps:List IV) (M:List Boxes):Ev tb zl206 [] [Z,.fn F caps] M ⟨I 0,[],M,[]⟩:=by
  refine call_of_wp zt206 rfl ?_
  repeat (first|apply wp_as|apply wp_ss|refine wr (by simp;with_reducible rfl) ?_|refine wq (by simp;with_reducible rfl) ?_|refine wt (by simpa) ?_|refine wf (by simpa) ?_|refine xt (by simpa) ?_|refine xf (by simpa) ?_|apply wp_bs|apply wp_b|refine wp_sr ?_|refine wp_sx ?_|refine wp_ret' ?_|refine wp_skip' ?_|refine wp_exit' ?_)
  refine wp_loop ?_
  repeat (first|apply wp_as|apply wp_ss|refine wr (by simp;with_reducible rfl) ?_|refine wq (by simp;with_reducible rfl) ?_|refine wt (by simpa) ?_|refine wf (by simpa) ?_|refine xt (by simpa) ?_|refine xf (by simpa) ?_|apply wp_bs|apply wp_b|refine wp_sr ?_|refine wp_sx ?_|refine wp_ret' ?_|refine wp_skip' ?_|refine wp_exit' ?_)
  simp [zi206]
set_option maxHeartbeats 4000000 in
theorem ev_TreeOfCode_Z:Ev tb zl519 [] [Z] [] ⟨.tup [OG 2 (codeT []),Bo true],[],[],[]⟩:=by
  have e1:=ev_lim (ev_allIn_Z 0 1)
  have e2:=fun M=>ev_lim (ev_count_Z zl520 [.bptr 0 1 0] M)
  have e3:=fun M=>ev_lim (ev_count_Z zl520 [.bptr 0 2 0] M)
  have i1:=fun cc=>ev_lim (ev_Index [1,1] cc 1 (by simp))
  have i2:=fun cc=>ev_lim (ev_Index [1] cc 1 (by simp))
  rw [show idx (fun x=>decide (1=x)) 0 [1,1]=0 from rfl] at i1
  rw [show idx (fun x=>decide (1=x)) 0 [1]=0 from rfl] at i2
  have hc0:Code7 []:=⟨by simp,fun x hx=>by cases hx⟩
  have hL:=tocLaw hc0
  have hD:dcE 2 [] []=[(0,1)]:=rfl
  have hs:=hL.dc
  have hnd:=hL.nd
  simp only [List.length_nil,Nat.zero_add,hD] at hs hnd
  have i3:=fun cc=>ev_lim (ev_made 2 2 [(0,1)] cc (.inl rfl) (fun e he=>by simp only [List.mem_singleton] at he;subst he;exact ⟨by decide,by decide,by decide,by decide⟩) hnd (by simp))
  rw [hs] at i3
  simp only [eds,ints,List.map_cons,List.map_nil] at i1 i2 i3
  generalize codeT []=R at *
  have w0:IntKind.i64.wrap 0=0:=rfl
  have w1:IntKind.i64.wrap 1=1:=rfl
  have w2:IntKind.i64.wrap 2=2:=rfl
  have n2:natOf (.sc (.int .i64 2))=some 2:=rfl
  have n1:natOf (.sc (.int .i64 1))=some 1:=rfl
  refine call_of_wp zt519 rfl ?_
  repeat (first|apply wp_as|apply wp_ss|refine wr (by simp [e1,w0,w1,w2,n2];with_reducible rfl) ?_|refine wq (by simp [e1,w0,w1,w2,n2];with_reducible rfl) ?_|refine wt (by simpa [e1,w0,w1,w2,n2]) ?_|refine wf (by simpa [e1,w0,w1,w2,n2]) ?_|refine xt (by simpa [e1,w0,w1,w2,n2]) ?_|refine xf (by simpa [e1,w0,w1,w2,n2]) ?_|apply wp_bs|apply wp_b|refine wp_sr ?_|refine wp_sx ?_|refine wp_ret' ?_|refine wp_skip' ?_|refine wp_exit' ?_)
  refine wp_loop ?_
  repeat (first|apply wp_as|apply wp_ss|refine wr (by simp [w0,w1,w2];with_reducible rfl) ?_|refine wq (by simp [w0,w1,w2];with_reducible rfl) ?_|refine wt (by simpa [w0,w1,w2]) ?_|refine wf (by simpa [w0,w1,w2]) ?_|refine xt (by simpa [w0,w1,w2]) ?_|refine xf (by simpa [w0,w1,w2]) ?_|apply wp_bs|apply wp_b|refine wp_sr ?_|refine wp_sx ?_|refine wp_ret' ?_|refine wp_skip' ?_|refine wp_exit' ?_)
  refine wp_ra (by simp [e2,w1];with_reducible rfl) (by simp;with_reducible rfl) ?_ ?_
  · intro p hp
    simp only [List.mem_cons,List.not_mem_nil,or_false] at hp
    subst hp
    exact ⟨_,by simp [e2,w1];with_reducible rfl,by simp⟩
  repeat (first|apply wp_as|apply wp_ss|refine wr (by simp [w0,w1,w2];with_reducible rfl) ?_|refine wq (by simp [w0,w1,w2];with_reducible rfl) ?_|refine wt (by simpa [w0,w1,w2]) ?_|refine wf (by simpa [w0,w1,w2]) ?_|refine xt (by simpa [w0,w1,w2]) ?_|refine xf (by simpa [w0,w1,w2]) ?_|apply wp_bs|apply wp_b|refine wp_sr ?_|refine wp_sx ?_|refine wp_ret' ?_|refine wp_skip' ?_|refine wp_exit' ?_)
  refine wp_loop ?_
  repeat (first|apply wp_as|apply wp_ss|refine wr (by simp [w0,w1,w2];with_reducible rfl) ?_|refine wq (by simp [w0,w1,w2];with_reducible rfl) ?_|refine wt (by simpa [w0,w1,w2]) ?_|refine wf (by simpa [w0,w1,w2]) ?_|refine xt (by simpa [w0,w1,w2]) ?_|refine xf (by simpa [w0,w1,w2]) ?_|apply wp_bs|apply wp_b|refine wp_sr ?_|refine wp_sx ?_|refine wp_ret' ?_|refine wp_skip' ?_|refine wp_exit' ?_)
  refine wp_ra (by simp [e3,w1];with_reducible rfl) (by simp;with_reducible rfl) ?_ ?_
  · intro p hp
    simp only [List.mem_cons,List.not_mem_nil,or_false] at hp
    subst hp
    exact ⟨_,by simp [e3,w1];with_reducible rfl,by simp⟩
  repeat (first|apply wp_as|apply wp_ss|refine wr (by simp [w0,w1,w2];with_reducible rfl) ?_|refine wq (by simp [w0,w1,w2];with_reducible rfl) ?_|refine wt (by simpa [w0,w1,w2]) ?_|refine wf (by simpa [w0,w1,w2]) ?_|refine xt (by simpa [w0,w1,w2]) ?_|refine xf (by simpa [w0,w1,w2]) ?_|apply wp_bs|apply wp_b|refine wp_sr ?_|refine wp_sx ?_|refine wp_ret' ?_|refine wp_skip' ?_|refine wp_exit' ?_)
  refine wp_loop ?_
  repeat (first|apply wp_as|apply wp_ss|refine wr (by simp [w0,w1,w2];with_reducible rfl) ?_|refine wq (by simp [w0,w1,w2];with_reducible rfl) ?_|refine wt (by simpa [w0,w1,w2]) ?_|refine wf (by simpa [w0,w1,w2]) ?_|refine xt (by simpa [w0,w1,w2]) ?_|refine xf (by simpa [w0,w1,w2]) ?_|apply wp_bs|apply wp_b|refine wp_sr ?_|refine wp_sx ?_|refine wp_ret' ?_|refine wp_skip' ?_|refine wp_exit' ?_)
  refine wp_loop ?_
  repeat (first|apply wp_as|apply wp_ss|refine wr (by simp [i1,w0,w1,w2];with_reducible rfl) ?_|refine wq (by simp [i1,w0,w1,w2];with_reducible rfl) ?_|refine wt (by simpa [i1,w0,w1,w2]) ?_|refine wf (by simpa [i1,w0,w1,w2]) ?_|refine xt (by simpa [i1,w0,w1,w2]) ?_|refine xf (by simpa [i1,w0,w1,w2]) ?_|apply wp_bs|apply wp_b|refine wp_sr ?_|refine wp_sx ?_|refine wp_ret' ?_|refine wp_skip' ?_|refine wp_exit' ?_)
  have ht:List.take 1 (ints [1,1]).tail=ints [1]:=rfl
  refine wr (by simp [ht,i2,w0,w1,w2,n1];with_reducible rfl) ?_
  repeat (first|apply wp_as|apply wp_ss|refine wr (by simp [i3];with_reducible rfl) ?_|refine wq (by simp [i3];with_reducible rfl) ?_|refine wt (by simpa [i3]) ?_|refine wf (by simpa [i3]) ?_|refine xt (by simpa [i3]) ?_|refine xf (by simpa [i3]) ?_|apply wp_bs|apply wp_b|refine wp_sr ?_|refine wp_sx ?_|refine wp_ret' ?_|refine wp_skip' ?_|refine wp_exit' ?_)
  simp [zi519]
theorem dtc_loop (code:List Int) (c:Bool) (hc:CodeOk code) (n:Nat) (hn:n≤6):∀ (m i cnt:Nat) (acc:List Int),i+m=n→acc.length=i→(∀ x ∈ acc,0≤x∧x < (n:Int)+2)→cnt+m≤900000 →
    wp tb (.loop z570l10) { T:=[(2,.bptr 0 0 0),(3,.bptr 0 1 0),(4,O acc),(5,I n),(6,I i)],loc:=[[I 0,Z],R code c cnt],M:=[] }
      (fun ex st=>ex=.exit 0∧∃ (acc:List Int) (k:Nat),(acc.length=n∧(∀ x ∈ acc,0≤x∧x < (n:Int)+2))∧st={ T:=[(2,.bptr 0 0 0),(3,.bptr 0 1 0),(4,O acc),(5,I n),(6,I n),(19,Bo false)],loc:=[[I 0,Z],R code c k],M:=[] }):=by
  intro m
  induction m with
  | zero =>
    intro i cnt acc hi hl hb hk
    have h3:i=n:=hi
    subst h3
    refine wp_loop ?_
    repeat (first|apply wp_as|apply wp_ss|refine wr (by simp;with_reducible rfl) ?_|refine wq (by simp;with_reducible rfl) ?_|refine wt (by simpa) ?_|refine wf (by simpa) ?_|refine xt (by simpa) ?_|refine xf (by simpa) ?_|apply wp_bs|apply wp_b|refine wp_sr ?_|refine wp_sx ?_|refine wp_ret' ?_|refine wp_skip' ?_|refine wp_exit' ?_)
    exact ⟨rfl,acc,cnt,⟨hl,hb⟩,rfl⟩
  | succ m ih =>
    intro i cnt acc hi hl hb hk
    have hi2:i < n:=by omega
    have w1:IntKind.i64.wrap ((n:Int)+2)=(n:Int)+2:=wrap64 (by omega) (by omega)
    have w2:IntKind.i64.wrap ((i:Int)+1)=((i+1:Nat):Int):=wrapS (by omega)
    obtain ⟨v,k,hv,hk2,e1⟩:=pickA code c hc cnt (by omega) ((n:Int)+2) (by omega) [[I 0,Z]] [] []
    have hv:=hv (by omega)
    simp only [List.length_cons,List.length_nil,List.cons_append,List.nil_append,Nat.zero_add] at e1
    have hal:acc.length+1≤274877906944:=by omega
    have hat:acc.take acc.length=acc:=List.take_of_length_le (Nat.le_refl _)
    refine wp_loop ?_
    repeat (first|apply wp_as|apply wp_ss|refine wr (by simp [hi2,w1,w2,e1,hal,hat];with_reducible rfl) ?_|refine wq (by simp [hi2,w1,w2,e1,hal,hat];with_reducible rfl) ?_|refine wt (by simpa [hi2,w1,w2,e1,hal,hat]) ?_|refine wf (by simpa [hi2,w1,w2,e1,hal,hat]) ?_|refine xt (by simpa [hi2,w1,w2,e1,hal,hat]) ?_|refine xf (by simpa [hi2,w1,w2,e1,hal,hat]) ?_|apply wp_bs|apply wp_b|refine wp_sr ?_|refine wp_sx ?_|refine wp_ret' ?_|refine wp_skip' ?_|refine wp_exit' ?_)
    refine ih (i+1) k (acc++[(v:Int)]) (by omega) (by simp [hl]) (fun x hx=>?_) (by omega)
    rcases List.mem_append.1 hx with hx | hx
    · exact hb x hx
    · simp at hx;omega
theorem ev_DrawTreeCode (code:List Int) (c:Bool) (h:∀ x ∈ code,0≤x∧x≤255) (hl:code.length≤10000000) :
    ∃ (n:Int) (es:List (Int×Int)),SmallG n es∧limF tb zl570 [] [.lst 1 (bytes code) c] []=some ⟨Gr n es false,[],[],[]⟩:=by
  obtain ⟨c',e⟩:=ev_newReader code c [[[I 0,Z]]] (by omega)
  have e1:=ev_lim e
  obtain ⟨v,k,hv,hk,e2⟩:=pickA (code.take 2000) c' (code_ok h) 0 (by omega) 4 (by omega) [[I 0,Z]] [] []
  rw [show ((0:Nat):Int)=0 from rfl] at e2
  simp only [List.length_cons,List.length_nil,List.cons_append,List.nil_append,Nat.zero_add] at e2
  cases v with
  | zero =>
    obtain ⟨n,es,k2,h1,h2,e3⟩:=ev_someGraph (code.take 2000) c' (code_ok h) k (by omega) [[I 0,Z]] [] []
    simp only [List.length_cons,List.length_nil,List.cons_append,List.nil_append,Nat.zero_add] at e3
    refine ⟨n,es,h1,ev_lim ?_⟩
    refine call_of_wp zt570 rfl ?_
    repeat (first|apply wp_as|apply wp_ss|refine wr (by simp [e1,e2,e3];with_reducible rfl) ?_|refine wq (by simp [e1,e2,e3];with_reducible rfl) ?_|refine wt (by simpa [e1,e2,e3]) ?_|refine wf (by simpa [e1,e2,e3]) ?_|refine xt (by simpa [e1,e2,e3]) ?_|refine xf (by simpa [e1,e2,e3]) ?_|apply wp_bs|apply wp_b|refine wp_sr ?_|refine wp_sx ?_|refine wp_ret' ?_|refine wp_skip' ?_|refine wp_exit' ?_)
    simp [zi570]
  | succ v =>
    have hp:¬ (v:Int)+1=0:=by omega
    obtain ⟨n,k2,hn,hk2,e3⟩:=pickA (code.take 2000) c' (code_ok h) k (by omega) 6 (by omega) [[I 0,Z]] [] []
    have hn:=hn (by omega)
    simp only [List.length_cons,List.length_nil,List.cons_append,List.nil_append,Nat.zero_add] at e3
    have loop:=dtc_loop (code.take 2000) c' (code_ok h) n (by omega) n 0 k2 [] (by omega) rfl (by simp) (by omega)
    rw [show ((0:Nat):Int)=0 from rfl] at loop
    have e4:=fun (acc:List Int) (h1:Code7 acc) c=>ev_lim (ev_codeTree acc c h1)
    suffices hh:∃ r,(∃ (n:Int) (es:List (Int×Int)),SmallG n es∧r=⟨Gr n es false,[],[],[]⟩)∧Ev tb zl570 [] [.lst 1 (bytes code) c] [] r by
      obtain ⟨r,⟨n,es,q1,rfl⟩,q4⟩:=hh
      exact ⟨n,es,q1,ev_lim q4⟩
    refine call_ex zt570 rfl ?_
    repeat (first|apply wp_as|apply wp_ss|refine wr (by simp [e1,e2,e3,hp];with_reducible rfl) ?_|refine wq (by simp [e1,e2,e3,hp];with_reducible rfl) ?_|refine wt (by simpa [e1,e2,e3,hp]) ?_|refine wf (by simpa [e1,e2,e3,hp]) ?_|refine xt (by simpa [e1,e2,e3,hp]) ?_|refine xf (by simpa [e1,e2,e3,hp]) ?_|apply wp_bs|apply wp_b|refine wp_sr ?_|refine wp_sx ?_|refine wp_ret' ?_|refine wp_skip' ?_|refine wp_exit' ?_)
    refine wp_imp loop ?_
    rintro ex st ⟨rfl,acc,k',⟨q1,q2⟩,rfl⟩
    simp only [if_true]
    have hc7:Code7 acc:=⟨by omega,fun x hx=>by have:=q2 x hx;omega⟩
    have e4:=fun c=>e4 acc hc7 c
    have hin:=codeT_in hc7
    have hcl:=codeT_len acc
    repeat (first|apply wp_as|apply wp_ss|refine wr (by simp [e4];with_reducible rfl) ?_|refine wq (by simp [e4];with_reducible rfl) ?_|refine wt (by simpa [e4]) ?_|refine wf (by simpa [e4]) ?_|refine xt (by simpa [e4]) ?_|refine xf (by simpa [e4]) ?_|apply wp_bs|apply wp_b|refine wp_sr ?_|refine wp_sx ?_|refine wp_ret' ?_|refine wp_skip' ?_|refine wp_exit' ?_)
    refine ⟨.inr rfl,_,⟨(acc.length:Int)+2,codeT acc,⟨by omega,by omega,by omega,fun e he=>by have:=hin e he;omega⟩,rfl⟩,?_⟩
    simp [zi570]
theorem tl_in (N:Nat) (es:List (Int×Int)) (C:List Int) (hC:C.length≤1000) (D:List Int) (v:Nat) (Q:IV) (hQ:(Q=Z∧C=[]) ∨ Q=O C) (B8 B:Boxes):∀ (m k cnt:Nat),k+m=C.length→cnt≤k →
    wp tb (.loop z540l18) { T:=[(3,.bptr 0 0 0),(4,Q),(8,.bptr 0 1 0),(9,Bo true),(10,O D),(11,I v),(12,I cnt),(13,I k)],loc:=B,M:=[] }
      (fun ex st=>ex=.exit 2∧st={ T:=[(3,.bptr 0 0 0),(4,Q),(8,.bptr 0 1 0),(9,Bo true),(10,O D),(11,I v),(12,I ((cnt+(C.drop k).count (v:Int):Nat):Int)),(13,I C.length),(66,Bo false)],loc:=B,M:=[] }):=by
  intro m
  induction m with
  | zero =>
    intro k cnt hk hcn
    have h3:k=C.length:=hk
    subst h3
    rw [List.drop_length,List.count_nil,Nat.add_zero]
    rcases hQ with ⟨rfl,rfl⟩ | rfl
    · refine wp_loop ?_
      repeat (first|apply wp_as|apply wp_ss|refine wr (by simp;with_reducible rfl) ?_|refine wq (by simp;with_reducible rfl) ?_|refine wt (by simpa) ?_|refine wf (by simpa) ?_|refine xt (by simpa) ?_|refine xf (by simpa) ?_|apply wp_bs|apply wp_b|refine wp_sr ?_|refine wp_sx ?_|refine wp_ret' ?_|refine wp_skip' ?_|refine wp_exit' ?_)
      exact ⟨rfl,rfl⟩
    · refine wp_loop ?_
      repeat (first|apply wp_as|apply wp_ss|refine wr (by simp;with_reducible rfl) ?_|refine wq (by simp;with_reducible rfl) ?_|refine wt (by simpa) ?_|refine wf (by simpa) ?_|refine xt (by simpa) ?_|refine xf (by simpa) ?_|apply wp_bs|apply wp_b|refine wp_sr ?_|refine wp_sx ?_|refine wp_ret' ?_|refine wp_skip' ?_|refine wp_exit' ?_)
      exact ⟨rfl,rfl⟩
  | succ m ih =>
    intro k cnt hk hcn
    have hk2:k < C.length:=by omega
    have hd:C.drop k=C[k]::C.drop (k+1):=List.drop_eq_getElem_cons hk2
    have w1:IntKind.i64.wrap ((k:Int)+1)=((k+1:Nat):Int):=wrapS (by omega)
    have w2:IntKind.i64.wrap ((cnt:Int)+1)=((cnt+1:Nat):Int):=wrapS (by omega)
    rcases hQ with ⟨rfl,rfl⟩ | rfl
    · simp at hk2
    rw [hd]
    by_cases hx:C[k]=(v:Int)
    · have hn:=ih (k+1) (cnt+1) (by omega) (by omega)
      rw [hx,List.count_cons_self,show cnt+((C.drop (k+1)).count (v:Int)+1)=cnt+1+(C.drop (k+1)).count (v:Int) by omega]
      refine wp_loop ?_
      repeat (first|apply wp_as|apply wp_ss|refine wr (by simp [hk2,hx,w1,w2];with_reducible rfl) ?_|refine wq (by simp [hk2,hx,w1,w2];with_reducible rfl) ?_|refine wt (by simpa [hk2,hx,w1,w2]) ?_|refine wf (by simpa [hk2,hx,w1,w2]) ?_|refine xt (by simpa [hk2,hx,w1,w2]) ?_|refine xf (by simpa [hk2,hx,w1,w2]) ?_|apply wp_bs|apply wp_b|refine wp_sr ?_|refine wp_sx ?_|refine wp_ret' ?_|refine wp_skip' ?_|refine wp_exit' ?_)
      exact hn
    · have hn:=ih (k+1) cnt (by omega) (by omega)
      rw [List.count_cons_of_ne hx]
      refine wp_loop ?_
      repeat (first|apply wp_as|apply wp_ss|refine wr (by simp [hk2,hx,w1,w2];with_reducible rfl) ?_|refine wq (by simp [hk2,hx,w1,w2];with_reducible rfl) ?_|refine wt (by simpa [hk2,hx,w1,w2]) ?_|refine wf (by simpa [hk2,hx,w1,w2]) ?_|refine xt (by simpa [hk2,hx,w1,w2]) ?_|refine xf (by simpa [hk2,hx,w1,w2]) ?_|apply wp_bs|apply wp_b|refine wp_sr ?_|refine wp_sx ?_|refine wp_ret' ?_|refine wp_skip' ?_|refine wp_exit' ?_)
      exact hn
theorem tl_out (N:Nat) (es:List (Int×Int)) (C:List Int) (hC:C.length≤1000) (D:List Int) (hD:D.length=N) (hN:N≤7) (hd:∀ v,v < N→D.getD v 0=1+(C.count (v:Int):Nat)) (Q:IV) (hQ:(Q=Z∧C=[]) ∨ Q=O C) (B:Boxes):∀ (m v:Nat),v+m=N →
    wp tb (.loop z540l22) { T:=[(3,.bptr 0 0 0),(4,Q),(8,.bptr 0 1 0),(9,Bo true),(10,O D),(11,I v)],loc:=[I N,L2 es false]::B,M:=[] }
      (fun ex st=>ex=.exit 0∧st={ T:=[(3,.bptr 0 0 0),(4,Q),(8,.bptr 0 1 0),(9,Bo true),(10,O D),(11,I N),(60,Bo false)],loc:=[I N,L2 es false]::B,M:=[] }):=by
  intro m
  induction m with
  | zero =>
    intro v hv
    have h3:v=N:=hv
    subst h3
    rcases hQ with ⟨rfl,rfl⟩ | rfl
    · refine wp_loop ?_
      repeat (first|apply wp_as|apply wp_ss|refine wr (by simp;with_reducible rfl) ?_|refine wq (by simp;with_reducible rfl) ?_|refine wt (by simpa) ?_|refine wf (by simpa) ?_|refine xt (by simpa) ?_|refine xf (by simpa) ?_|apply wp_bs|apply wp_b|refine wp_sr ?_|refine wp_sx ?_|refine wp_ret' ?_|refine wp_skip' ?_|refine wp_exit' ?_)
      exact ⟨rfl,rfl⟩
    · refine wp_loop ?_
      repeat (first|apply wp_as|apply wp_ss|refine wr (by simp;with_reducible rfl) ?_|refine wq (by simp;with_reducible rfl) ?_|refine wt (by simpa) ?_|refine wf (by simpa) ?_|refine xt (by simpa) ?_|refine xf (by simpa) ?_|apply wp_bs|apply wp_b|refine wp_sr ?_|refine wp_sx ?_|refine wp_ret' ?_|refine wp_skip' ?_|refine wp_exit' ?_)
      exact ⟨rfl,rfl⟩
  | succ m ih =>
    intro v hv
    have hv2:v < N:=by omega
    have hvl:v < D.length:=by omega
    have w1:IntKind.i64.wrap ((v:Int)+1)=((v+1:Nat):Int):=wrapS (by omega)
    have g:=hd v hv2
    rw [List.getD_eq_getElem?_getD,List.getElem?_eq_getElem hvl,Option.getD_some] at g
    have hle:C.count (v:Int)≤C.length:=List.count_le_length
    have inner:=tl_in N es C hC D v Q hQ [] ([I N,L2 es false]::B) C.length 0 0 (by omega) (by omega)
    rw [List.drop_zero,Nat.zero_add,show ((0:Nat):Int)=0 from rfl] at inner
    have w2:IntKind.i64.wrap (1+((C.count (v:Int):Nat):Int) - 1)=((C.count (v:Int):Nat):Int):=by rw [wrap64 (by omega) (by omega)];omega
    have hn:=ih (v+1) (by omega)
    generalize C.count (v:Int)=q at *
    rcases hQ with ⟨rfl,rfl⟩ | rfl
    · refine wp_loop ?_
      repeat (first|apply wp_as|apply wp_ss|refine wr (by simp [hv2];with_reducible rfl) ?_|refine wq (by simp [hv2];with_reducible rfl) ?_|refine wt (by simpa [hv2]) ?_|refine wf (by simpa [hv2]) ?_|refine xt (by simpa [hv2]) ?_|refine xf (by simpa [hv2]) ?_|apply wp_bs|apply wp_b|refine wp_sr ?_|refine wp_sx ?_|refine wp_ret' ?_|refine wp_skip' ?_|refine wp_exit' ?_)
      refine wp_imp inner ?_
      rintro ex st ⟨rfl,rfl⟩
      simp only [if_true]
      repeat (first|apply wp_as|apply wp_ss|refine wr (by simp [hvl,g,w2,w1,hD,hv2];with_reducible rfl) ?_|refine wq (by simp [hvl,g,w2,w1,hD,hv2];with_reducible rfl) ?_|refine wt (by simpa [hvl,g,w2,w1,hD,hv2]) ?_|refine wf (by simpa [hvl,g,w2,w1,hD,hv2]) ?_|refine xt (by simpa [hvl,g,w2,w1,hD,hv2]) ?_|refine xf (by simpa [hvl,g,w2,w1,hD,hv2]) ?_|apply wp_bs|apply wp_b|refine wp_sr ?_|refine wp_sx ?_|refine wp_ret' ?_|refine wp_skip' ?_|refine wp_exit' ?_)
      exact hn
    · refine wp_loop ?_
      repeat (first|apply wp_as|apply wp_ss|refine wr (by simp [hv2];with_reducible rfl) ?_|refine wq (by simp [hv2];with_reducible rfl) ?_|refine wt (by simpa [hv2]) ?_|refine wf (by simpa [hv2]) ?_|refine xt (by simpa [hv2]) ?_|refine xf (by simpa [hv2]) ?_|apply wp_bs|apply wp_b|refine wp_sr ?_|refine wp_sx ?_|refine wp_ret' ?_|refine wp_skip' ?_|refine wp_exit' ?_)
      refine wp_imp inner ?_
      rintro ex st ⟨rfl,rfl⟩
      simp only [if_true]
      repeat (first|apply wp_as|apply wp_ss|refine wr (by simp [hvl,g,w2,w1,hD,hv2];with_reducible rfl) ?_|refine wq (by simp [hvl,g,w2,w1,hD,hv2];with_reducible rfl) ?_|refine wt (by simpa [hvl,g,w2,w1,hD,hv2]) ?_|refine wf (by simpa [hvl,g,w2,w1,hD,hv2]) ?_|refine xt (by simpa [hvl,g,w2,w1,hD,hv2]) ?_|refine xf (by simpa [hvl,g,w2,w1,hD,hv2]) ?_|apply wp_bs|apply wp_b|refine wp_sr ?_|refine wp_sx ?_|refine wp_ret' ?_|refine wp_skip' ?_|refine wp_exit' ?_)
      exact hn
set_option maxHeartbeats 4000000 in
theorem ev_FnTreeCode (code:List Int) (cl:Bool) (h:∀ x ∈ code,0≤x∧x≤255) :
    Ev tb zl540 [] [.lst 1 (bytes code) cl] [] ⟨Bo true,[],[],[]⟩:=by
  by_cases hc:(1048576:Int) < code.length
  · refine call_of_wp zt540 rfl ?_
    repeat (first|apply wp_as|apply wp_ss|refine wr (by simp [hc];with_reducible rfl) ?_|refine wq (by simp [hc];with_reducible rfl) ?_|refine wt (by simpa [hc]) ?_|refine wf (by simpa [hc]) ?_|refine xt (by simpa [hc]) ?_|refine xf (by simpa [hc]) ?_|apply wp_bs|apply wp_b|refine wp_sr ?_|refine wp_sx ?_|refine wp_ret' ?_|refine wp_skip' ?_|refine wp_exit' ?_)
    simp [zi540]
  obtain ⟨n,es,hS,e1⟩:=ev_DrawTreeCode code cl h (by omega)
  have hlen:=hS.len
  have ez:=ev_lim ev_equalInts_Z
  cases hv:vGraph n es with
  | false =>
    have e2:=ev_lim (ev_TreeCode_no n es false hS.fit (by omega) hv)
    have e3:=ev_lim (ev_spec_TreeCode_no n es false (by omega) hv)
    refine call_of_wp zt540 rfl ?_
    repeat (first|apply wp_as|apply wp_ss|refine wr (by simp [hc,e1,e2,e3,ez];with_reducible rfl) ?_|refine wq (by simp [hc,e1,e2,e3,ez];with_reducible rfl) ?_|refine wt (by simpa [hc,e1,e2,e3,ez]) ?_|refine wf (by simpa [hc,e1,e2,e3,ez]) ?_|refine xt (by simpa [hc,e1,e2,e3,ez]) ?_|refine xf (by simpa [hc,e1,e2,e3,ez]) ?_|apply wp_bs|apply wp_b|refine wp_sr ?_|refine wp_sx ?_|refine wp_ret' ?_|refine wp_skip' ?_|refine wp_exit' ?_)
    simp [zi540]
  | true =>
  have hn:=vG_n hv
  obtain ⟨n,rfl⟩:=Int.eq_ofNat_of_zero_le hn.1
  have hn7:=(vG_iff.1 hv).2.2
  have e2:=ev_lim (ev_TreeCode n es false hv)
  have e3:=ev_lim (ev_spec_TreeCode n es false hv)
  cases hT:isTr n es with
  | false =>
    simp only [TCR,TCS,hT,Bool.false_eq_true,if_false] at e2 e3
    refine call_of_wp zt540 rfl ?_
    repeat (first|apply wp_as|apply wp_ss|refine wr (by simp [hc,e1,e2,e3,ez];with_reducible rfl) ?_|refine wq (by simp [hc,e1,e2,e3,ez];with_reducible rfl) ?_|refine wt (by simpa [hc,e1,e2,e3,ez]) ?_|refine wf (by simpa [hc,e1,e2,e3,ez]) ?_|refine xt (by simpa [hc,e1,e2,e3,ez]) ?_|refine xf (by simpa [hc,e1,e2,e3,ez]) ?_|apply wp_bs|apply wp_b|refine wp_sr ?_|refine wp_sx ?_|refine wp_ret' ?_|refine wp_skip' ?_|refine wp_exit' ?_)
    simp [zi540]
  | true =>
    obtain ⟨t1,t2,t3,t4⟩:=isTr_tre hv hT
    have hL:=tcLaw hv t4 t3 t2
    simp only [TCR,TCS,hT,if_true] at e2 e3
    obtain ⟨l1,l2,l3,l4⟩:=hL
    generalize tcE n n es=C at *
    have hC7:=l1.len
    have e4:=ev_lim (ev_equalInts C C false false (by omega) (by omega))
    rw [decide_eq_true rfl] at e4
    have e5:=ev_lim (ev_TreeOfCode C false l1)
    have hCn:(C.length:Int)+2=(n:Int):=by omega
    rw [hCn,l3] at e5
    have e6:=ev_lim (ev_impl_DegreesOf n es false hS.fit (by omega) hv)
    have e7:=fun c1 c2=>ev_lim (ev_equalGraph n n es es (L2 es c1) (L2 es c2) (.inl ⟨_,rfl⟩) (.inl ⟨_,rfl⟩) (by omega) (by omega))
    have hdl:(degs n es).length=n:=degs_len n es
    have hdg:∀ v,v < n→(degs n es).getD v 0=1+(C.count (v:Int):Nat):=fun v hvn=>by rw [stp_degs t1 hvn];exact l4 v hvn
    have w1:IntKind.i64.wrap ((n:Int) - 2)=(C.length:Int):=by rw [wrap64 (by omega) (by omega)];omega
    cases C with
    | nil =>
      clear e4 e5
      have e4:=ev_lim (ev_equalInts_ZL false)
      have e5:=ev_lim ev_TreeOfCode_Z
      have hn2:n=2:=by simpa using l2.symm
      rw [l3] at e5
      simp only [nlI] at e2
      simp only [ints_nil,L,O] at e3 e4
      have loop:=fun B=>tl_out n es [] (by simp) (degs n es) hdl hn7 hdg Z (.inl ⟨rfl,rfl⟩) B n 0 (by omega)
      rw [show ((0:Nat):Int)=0 from rfl] at loop
      generalize degs n es=D at *
      subst hn2
      rw [show ((2:Nat):Int)=2 from rfl] at e1 e2 e3 e6 e7 loop
      refine call_of_wp zt540 rfl ?_
      repeat (first|apply wp_as|apply wp_ss|refine wr (by simp [hc,e1,e2,e3,e4];with_reducible rfl) ?_|refine wq (by simp [hc,e1,e2,e3,e4];with_reducible rfl) ?_|refine wt (by simpa [hc,e1,e2,e3,e4]) ?_|refine wf (by simpa [hc,e1,e2,e3,e4]) ?_|refine xt (by simpa [hc,e1,e2,e3,e4]) ?_|refine xf (by simpa [hc,e1,e2,e3,e4]) ?_|apply wp_bs|apply wp_b|refine wp_sr ?_|refine wp_sx ?_|refine wp_ret' ?_|refine wp_skip' ?_|refine wp_exit' ?_)
      refine wr (by simp [e5];with_reducible rfl) ?_
      repeat (first|apply wp_as|apply wp_ss|refine wr (by simp [e6];with_reducible rfl) ?_|refine wq (by simp [e6];with_reducible rfl) ?_|refine wt (by simpa [e6]) ?_|refine wf (by simpa [e6]) ?_|refine xt (by simpa [e6]) ?_|refine xf (by simpa [e6]) ?_|apply wp_bs|apply wp_b|refine wp_sr ?_|refine wp_sx ?_|refine wp_ret' ?_|refine wp_skip' ?_|refine wp_exit' ?_)
      refine wp_imp (loop _) ?_
      rintro ex st ⟨rfl,rfl⟩
      simp only [if_true]
      repeat (first|apply wp_as|apply wp_ss|refine wr (by simp [e7];with_reducible rfl) ?_|refine wq (by simp [e7];with_reducible rfl) ?_|refine wt (by simpa [e7]) ?_|refine wf (by simpa [e7]) ?_|refine xt (by simpa [e7]) ?_|refine xf (by simpa [e7]) ?_|apply wp_bs|apply wp_b|refine wp_sr ?_|refine wp_sx ?_|refine wp_ret' ?_|refine wp_skip' ?_|refine wp_exit' ?_)
      simp [zi540]
      rfl
    | cons x r =>
      simp only [nlI] at e2
      have loop:=fun B=>tl_out n es (x::r) (by omega) (degs n es) hdl hn7 hdg (O (x::r)) (.inr rfl) B n 0 (by omega)
      rw [show ((0:Nat):Int)=0 from rfl] at loop
      generalize hCC:x::r=C at *
      generalize degs n es=D at *
      refine call_of_wp zt540 rfl ?_
      repeat (first|apply wp_as|apply wp_ss|refine wr (by simp [hc,e1,e2,e3,e4,e5,e6];with_reducible rfl) ?_|refine wq (by simp [hc,e1,e2,e3,e4,e5,e6];with_reducible rfl) ?_|refine wt (by simpa [hc,e1,e2,e3,e4,e5,e6]) ?_|refine wf (by simpa [hc,e1,e2,e3,e4,e5,e6]) ?_|refine xt (by simpa [hc,e1,e2,e3,e4,e5,e6]) ?_|refine xf (by simpa [hc,e1,e2,e3,e4,e5,e6]) ?_|apply wp_bs|apply wp_b|refine wp_sr ?_|refine wp_sx ?_|refine wp_ret' ?_|refine wp_skip' ?_|refine wp_exit' ?_)
      refine wp_imp (loop _) ?_
      rintro ex st ⟨rfl,rfl⟩
      simp only [if_true]
      repeat (first|apply wp_as|apply wp_ss|refine wr (by simp [e7,w1];with_reducible rfl) ?_|refine wq (by simp [e7,w1];with_reducible rfl) ?_|refine wt (by simpa [e7,w1]) ?_|refine wf (by simpa [e7,w1]) ?_|refine xt (by simpa [e7,w1]) ?_|refine xf (by simpa [e7,w1]) ?_|apply wp_bs|apply wp_b|refine wp_sr ?_|refine wp_sx ?_|refine wp_ret' ?_|refine wp_skip' ?_|refine wp_exit' ?_)
      simp [zi540]
end Go.Idl
