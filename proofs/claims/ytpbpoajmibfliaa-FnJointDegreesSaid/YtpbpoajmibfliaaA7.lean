/- Part 7 of a proof by an ideal interpreter of the code: its definitions and lemmas. Conditions: none. -/
import Derived.KernelRfl
import Derived.Test.YtpbpoajmibfliaaA6
set_option linter.all false
set_option linter.unusedVariables false
set_option linter.unusedSimpArgs false
namespace Go.Idl
open Go
theorem wp_extj {g:CF→List IV→Option IV} {st:St} {Q:Ex→St→Prop} {v:IV} (h:∃ N,∀ n,N≤n→g (callN tb n) (st.T.map (·.2))=some v) (q:Q .ret { st with T:=[(0,v)] }):wp tb (.ext g) st Q:=⟨v,h,q⟩
theorem uniN {α:Type} {P:α→Nat→Prop}:∀ (C:List α),(∀ x ∈ C,∃ N,∀ n,N≤n→P x n)→∃ N,∀ n,N≤n→∀ x ∈ C,P x n
  | [],_=>⟨0,fun _ _ _ h=>nomatch h⟩
  | x::C,h=>by
    obtain ⟨N1,h1⟩:=h x (by simp)
    obtain ⟨N2,h2⟩:=uniN C fun y hy=>h y (by simp [hy])
    refine ⟨max N1 N2,fun n hn y hy=>?_⟩
    rcases List.mem_cons.1 hy with rfl | hy
    · exact h1 n (by omega)
    · exact h2 n (by omega) y hy
def allLs {α:Type} (l:List α):Nat→List (List α)
  | 0=>[[]]
  | k+1=>l.flatMap fun x=>(allLs l k).map (x::·)
theorem mem_allLs {α:Type} {l:List α}:∀ (p:List α),(∀ x ∈ p,x ∈ l)→p ∈ allLs l p.length
  | [],_=>by simp [allLs]
  | x::p,h=>by
    rw [List.length_cons,allLs,List.mem_flatMap]
    exact ⟨x,h x (by simp),List.mem_map.2 ⟨p,mem_allLs p fun y hy=>h y (by simp [hy]),rfl⟩⟩
theorem rowsJ_inj:∀ {a b:List (Int×Int×Int)},rowsJ a=rowsJ b→a=b
  | [],[],_=>rfl
  | [],_::_,h=>by simp [rowsJ] at h
  | _::_,[],h=>by simp [rowsJ] at h
  | x::a,y::b,h=>by
    simp only [rowsJ,List.map_cons,List.cons.injEq,IV.sc.injEq,Value.int.injEq,true_and,and_true] at h
    obtain ⟨⟨h1,h2,h3⟩,h4⟩:=h
    rw [rowsJ_inj (a:=a) (b:=b) h4,Prod.ext h1 (Prod.ext h2 h3)]
theorem sort_uni (L:List (Int×Int×Int)) (h12:L.length≤12):∃ N,∀ n,N≤n→∀ π:List (Int×Int×Int),π.Perm L→callN tb n zl77 [0] [.own 3 (rowsJ π),.fn zl14 []] []=some ⟨.tup [],[.own 3 (rowsJ (srtJ π))],[],[]⟩:=by
  obtain ⟨N,hN⟩:=uniN (P:=fun π n=>π.Perm L→callN tb n zl77 [0] [.own 3 (rowsJ π),.fn zl14 []] []=some ⟨.tup [],[.own 3 (rowsJ (srtJ π))],[],[]⟩) (allLs L L.length) (fun π _=>by
    by_cases hp:π.Perm L
    · obtain ⟨N,hN⟩:=ev_SortJ π (by rw [hp.length_eq];exact h12) []
      exact ⟨N,fun n hn _=>hN n hn⟩
    · exact ⟨0,fun _ _ h=>absurd h hp⟩)
  exact ⟨N,fun n hn π hp=>hN n hn π (by have:=mem_allLs (l:=L) π fun x hx=>hp.mem_iff.1 hx;rwa [hp.length_eq] at this) hp⟩
theorem extKeys_ok {D:List Int}:∀ {es:List (Int×Int)},(∀ x ∈ es,0≤x.1∧x.1.toNat < D.length∧0≤x.2∧x.2.toNat < D.length)→extKeys D (eds es)=some (keysJ D es)
  | [],_=>rfl
  | x::es,h=>by
    have h1:=h x (by simp)
    have h2:=extKeys_ok (es:=es) fun y hy=>h y (by simp [hy])
    show (if 0≤x.1∧x.1.toNat < D.length∧0≤x.2∧x.2.toNat < D.length then (match extKeys D (eds es) with
      | some ks=>some ((min (D.getD x.1.toNat 0) (D.getD x.2.toNat 0),max (D.getD x.1.toNat 0) (D.getD x.2.toNat 0))::ks)
      | none=>none) else none)=_
    rw [if_pos h1,h2];rfl
theorem intsOf_ok:∀ (D:List Int),intsOf (ints D)=some D
  | []=>rfl
  | x::D=>by
    show (match intsOf (ints D) with | some xs=>some (x::xs) | none=>none)=_
    rw [intsOf_ok D]
theorem prsJ21:∀ n,n≤7→(prs n).length≤21:=by decide +kernel
theorem vJ_len {n:Nat} {es:List (Int×Int)} (h:vGraph n es=true):es.length≤21:=by
  obtain ⟨h1,h2,hn⟩:=vG_iff.1 h
  refine Nat.le_trans (subLenJ es (prs n) ?_ h2) (prsJ21 n hn)
  refine List.Pairwise.imp (fun {a b} hab e=>?_) h1
  subst e
  have:=below_asymm hab
  rw [hab] at this;cases this
theorem ev_impl_JointOf (n:Nat) (es:List (Int×Int)) (c:Bool) (h:vGraph n es=true):Ev tb zl190 [] [Gr n es c] [] ⟨O3 (jS n es),[],[],[]⟩:=by
  obtain ⟨h1,h2,hn⟩:=vG_iff.1 h
  have hE:EdgesIn n es:=fun e he=>by have:=mem_prs.1 (h2 e he);omega
  have hlen:es.length≤1000:=by
    have:=vJ_len h
    omega
  have hfit:Fit es:=fun e he=>by have:=mem_prs.1 (h2 e he);omega
  obtain ⟨N1,hN1⟩:=ev_ValidGraph n es c hfit (by omega)
  obtain ⟨N2,hN2⟩:=ev_Graph_degrees n es c (by omega) hlen hE
  obtain ⟨N3,hN3⟩:=sort_uni (cntK (keysJ (degs n es) es)) (keys_few h)
  refine call_of_wp zt190 rfl ?_
  refine wp_extj (v:=O3 (jS n es)) ⟨max N1 (max N2 N3),fun k hk=>?_⟩ ⟨.inr rfl,?_⟩
  · show ext_impl_JointOf zl26 zl9 zl77 zl14 (callN tb k) [.agg [.sc (.int .i64 n),.lst 2 (eds es) c]]=_
    have q1:=hN1 k (by omega)
    have q2:=hN2 k (by omega)
    have q3:=hN3 k (by omega)
    have hg:=degs_graphic h
    have hv:valid (degs n es)=true:=by simp only [graphic,Bool.and_eq_true] at hg;exact hg.1.1
    have hm:=valid_mem hv
    rw [degs_len] at hm
    rw [h] at q1
    have hdl:=degs_len n es
    have hx:=extKeys_ok (D:=degs n es) (es:=es) (fun x hx=>by have:=hE x hx;rw [hdl];omega)
    have hlim:(eds es).length≤1000∧∀ x ∈ degs n es,0≤x∧x≤1000:=⟨by rw [eds_len];exact hlen,fun x hx=>by have:=hm x hx;omega⟩
    have hex:∃ R:List (Int×Int×Int),∀ π:List (Int×Int×Int),π.Perm (cntK (keysJ (degs n es) es))→callN tb k zl77 [0] [.own 3 (rowsJ π),.fn zl14 []] []=some ⟨.tup [],[.own 3 (rowsJ R)],[],[]⟩ :=
      ⟨jS n es,fun π hp=>by rw [q3 π hp,srtJ_jS h hp]⟩
    have hR:Classical.choose hex=jS n es:=by
      have:=Classical.choose_spec hex _ (List.Perm.refl _)
      rw [q3 _ (List.Perm.refl _),srtJ_jS h (List.Perm.refl _)] at this
      simp only [Option.some.injEq,Ret.mk.injEq,List.cons.injEq,IV.own.injEq,true_and,and_true] at this
      exact (rowsJ_inj this).symm
    unfold ext_impl_JointOf
    simp only [q1,q2,intsOf_ok,hx]
    rw [if_pos hlim,dif_pos hex,hR]
  · simp [finish,zi190]
theorem ev_impl_JointOf_no (n:Int) (es:List (Int×Int)) (c:Bool) (hf:Fit es) (hl:es.length≤100000000) (h:vGraph n es=false):Ev tb zl190 [] [Gr n es c] [] ⟨O3 [],[],[],[]⟩:=by
  obtain ⟨N1,hN1⟩:=ev_ValidGraph n es c hf hl
  refine call_of_wp zt190 rfl ?_
  refine wp_extj (v:=O3 []) ⟨N1,fun k hk=>?_⟩ ⟨.inr rfl,?_⟩
  · show ext_impl_JointOf zl26 zl9 zl77 zl14 (callN tb k) [.agg [.sc (.int .i64 n),.lst 2 (eds es) c]]=_
    have q1:=hN1 k hk
    rw [h] at q1
    unfold ext_impl_JointOf
    simp only [q1]
    rfl
  · simp [finish,zi190]
end Go.Idl
namespace Go.Idl
open Go
theorem ints_replicate (k:Nat) (x:Int):ints (List.replicate k x)=List.replicate k [I x]:=by simp [ints]
theorem ev_Repeat (x:Int) (k:Nat) (hk:k≤1000) (c:Bool) (M:List Boxes):Ev tb zl271 [] [L [x] c,I k] M ⟨O (List.replicate k x),[],M,[]⟩:=by
  refine call_of_wp zt271 rfl ?_
  refine wp_extj (v:=O (List.replicate k x)) ⟨0,fun n _=>?_⟩ ⟨.inr rfl,?_⟩
  · show ext_slices_Repeat_Sint_int_ (callN tb n) [.lst 1 [[.sc (.int .i64 x)]] c,.sc (.int .i64 k)]=_
    unfold ext_slices_Repeat_Sint_int_
    simp only
    rw [if_pos (by omega),Int.toNat_natCast,O,ints_replicate]
  · simp [finish,zi271]
def endR (k:Int) (x:Int×Int×Int):Int:=(if x.1=k then x.2.2 else 0)+(if x.2.1=k then x.2.2 else 0)
def endsR (R:List (Int×Int×Int)) (k:Int):Int:=S R (endR k)
def jdL (R:List (Int×Int×Int)):Nat→List Int
  | 0=>[]
  | k+1=>List.replicate (endsR R ((k+1:Nat):Int) / ((k+1:Nat):Int)).toNat ((k+1:Nat):Int)++jdL R k
theorem endsR_take {R:List (Int×Int×Int)} {i:Nat} (hi:i < R.length) (k:Int):endsR (R.take (i+1)) k=endsR (R.take i) k+endR k R[i]:=by
  rw [List.take_succ_eq_append_getElem hi,endsR,S_app,endsR];simp
theorem endsR_bound {R:List (Int×Int×Int)} (hR:∀ x ∈ R,0≤x.2.2∧x.2.2≤1000) (k:Int):0≤endsR R k∧endsR R k≤2000 * R.length:=by
  induction R with
  | nil=>simp [endsR]
  | cons x R ih =>
    have h1:=hR x (by simp)
    have h2:=ih fun y hy=>hR y (by simp [hy])
    simp only [endsR,S_cons,List.length_cons,endR] at h2 ⊢
    split <;> split <;> omega
set_option maxHeartbeats 4000000 in
theorem ev_impl_JointDegrees_of (n:Int) (es:List (Int×Int)) (c:Bool) (R:List (Int×Int×Int)) (hJ:Ev tb zl190 [] [Gr n es c] [] ⟨O3 R,[],[],[]⟩)
    (hR:∀ x ∈ R,0≤x.2.2∧x.2.2≤1000) (hl:R.length≤1000) (he:∀ k:Nat,endsR R k≤900):Ev tb zl189 [] [Gr n es c] [] ⟨O (jdL R 6),[],[],[]⟩:=by
  have e0:=ev_lim hJ
  have loop1A:∀ (m i:Nat) (k:Int) (A:List Int) (bs:Boxes),i+m=R.length →
      wp tb (.loop z189l14) { T:=[(3,(O A)),(4,O3 R),(5,I k),(6,I (endsR (R.take i) k)),(15,.arr (.S 4) 0 [] 3 0 R.length false),(16,I R.length),(17,I i)],loc:=[I n,L2 es c]::bs,M:=[] }
      (fun ex st=>ex=.exit 2∧∃ bs',st={ T:=[(3,(O A)),(4,O3 R),(5,I k),(6,I (endsR R k)),(15,.arr (.S 4) 0 [] 3 0 R.length false),(16,I R.length),(17,I R.length),(18,Bo false)],loc:=[I n,L2 es c]::bs',M:=[] }):=by
    intro m
    induction m with
    | zero =>
      intro i k A bs hi
      have h3:i=R.length:=hi
      subst h3
      rw [List.take_length]
      refine wp_loop ?_
      repeat (first|apply wp_as|apply wp_ss|refine wr (by simp;with_reducible rfl) ?_|refine wq (by simp;with_reducible rfl) ?_|refine wt (by simpa) ?_|refine wf (by simpa) ?_|refine xt (by simpa) ?_|refine xf (by simpa) ?_|apply wp_bs|apply wp_b|refine wp_sr ?_|refine wp_sx ?_|refine wp_ret' ?_|refine wp_skip' ?_|refine wp_exit' ?_)
      exact ⟨rfl,bs,rfl⟩
    | succ m ih =>
      intro i k A bs hi
      have hi2:i < R.length:=by omega
      have w1:IntKind.i64.wrap ((i:Int)+1)=((i+1:Nat):Int):=wrapS (by omega)
      have hs:=endsR_take hi2 k
      obtain ⟨hb1,hb2⟩:=endsR_bound (R:=R.take i) (fun x hx=>hR x (List.mem_of_mem_take hx)) k
      rw [List.length_take] at hb2
      have hx:=hR R[i] (List.getElem_mem hi2)
      obtain ⟨⟨p,q,s⟩,hpq⟩:∃ x,x=R[i]:=⟨_,rfl⟩
      have hpq:=hpq.symm
      rw [hpq] at hs hx
      simp only [endR] at hs hx
      have hn:=fun bs=>ih (i+1) k A bs (by omega)
      rw [hs] at hn
      generalize endsR (R.take i) k=E at hs hb1 hb2 hn
      have w2:IntKind.i64.wrap (E+s)=E+s:=wrap64 (by omega) (by omega)
      have w3:IntKind.i64.wrap (E+s+s)=E+s+s:=wrap64 (by omega) (by omega)
      by_cases h1:p=k
      · by_cases h2:q=k
        · rw [if_pos h1,if_pos h2,show E+(s+s)=E+s+s by omega] at hn
          refine wp_loop ?_
          repeat (first|apply wp_as|apply wp_ss|refine wr (by simp [hi2,w1,w2,w3,hpq,h1,h2];with_reducible rfl) ?_|refine wq (by simp [hi2,w1,w2,w3,hpq,h1,h2];with_reducible rfl) ?_|refine wt (by simpa [hi2,w1,w2,w3,hpq,h1,h2]) ?_|refine wf (by simpa [hi2,w1,w2,w3,hpq,h1,h2]) ?_|refine xt (by simpa [hi2,w1,w2,w3,hpq,h1,h2]) ?_|refine xf (by simpa [hi2,w1,w2,w3,hpq,h1,h2]) ?_|apply wp_bs|apply wp_b|refine wp_sr ?_|refine wp_sx ?_|refine wp_ret' ?_|refine wp_skip' ?_|refine wp_exit' ?_)
          exact hn _
        · rw [if_pos h1,if_neg h2,show E+(s+0)=E+s by omega] at hn
          refine wp_loop ?_
          repeat (first|apply wp_as|apply wp_ss|refine wr (by simp [hi2,w1,w2,w3,hpq,h1,h2];with_reducible rfl) ?_|refine wq (by simp [hi2,w1,w2,w3,hpq,h1,h2];with_reducible rfl) ?_|refine wt (by simpa [hi2,w1,w2,w3,hpq,h1,h2]) ?_|refine wf (by simpa [hi2,w1,w2,w3,hpq,h1,h2]) ?_|refine xt (by simpa [hi2,w1,w2,w3,hpq,h1,h2]) ?_|refine xf (by simpa [hi2,w1,w2,w3,hpq,h1,h2]) ?_|apply wp_bs|apply wp_b|refine wp_sr ?_|refine wp_sx ?_|refine wp_ret' ?_|refine wp_skip' ?_|refine wp_exit' ?_)
          exact hn _
      · by_cases h2:q=k
        · rw [if_neg h1,if_pos h2,show E+(0+s)=E+s by omega] at hn
          refine wp_loop ?_
          repeat (first|apply wp_as|apply wp_ss|refine wr (by simp [hi2,w1,w2,w3,hpq,h1,h2];with_reducible rfl) ?_|refine wq (by simp [hi2,w1,w2,w3,hpq,h1,h2];with_reducible rfl) ?_|refine wt (by simpa [hi2,w1,w2,w3,hpq,h1,h2]) ?_|refine wf (by simpa [hi2,w1,w2,w3,hpq,h1,h2]) ?_|refine xt (by simpa [hi2,w1,w2,w3,hpq,h1,h2]) ?_|refine xf (by simpa [hi2,w1,w2,w3,hpq,h1,h2]) ?_|apply wp_bs|apply wp_b|refine wp_sr ?_|refine wp_sx ?_|refine wp_ret' ?_|refine wp_skip' ?_|refine wp_exit' ?_)
          exact hn _
        · rw [if_neg h1,if_neg h2,show E+(0+0)=E by omega] at hn
          refine wp_loop ?_
          repeat (first|apply wp_as|apply wp_ss|refine wr (by simp [hi2,w1,w2,w3,hpq,h1,h2];with_reducible rfl) ?_|refine wq (by simp [hi2,w1,w2,w3,hpq,h1,h2];with_reducible rfl) ?_|refine wt (by simpa [hi2,w1,w2,w3,hpq,h1,h2]) ?_|refine wf (by simpa [hi2,w1,w2,w3,hpq,h1,h2]) ?_|refine xt (by simpa [hi2,w1,w2,w3,hpq,h1,h2]) ?_|refine xf (by simpa [hi2,w1,w2,w3,hpq,h1,h2]) ?_|apply wp_bs|apply wp_b|refine wp_sr ?_|refine wp_sx ?_|refine wp_ret' ?_|refine wp_skip' ?_|refine wp_exit' ?_)
          exact hn _
  have loop1Z:∀ (m i:Nat) (k:Int) (A:List Int) (bs:Boxes),i+m=R.length →
      wp tb (.loop z189l14) { T:=[(3,Z),(4,O3 R),(5,I k),(6,I (endsR (R.take i) k)),(15,.arr (.S 4) 0 [] 3 0 R.length false),(16,I R.length),(17,I i)],loc:=[I n,L2 es c]::bs,M:=[] }
      (fun ex st=>ex=.exit 2∧∃ bs',st={ T:=[(3,Z),(4,O3 R),(5,I k),(6,I (endsR R k)),(15,.arr (.S 4) 0 [] 3 0 R.length false),(16,I R.length),(17,I R.length),(18,Bo false)],loc:=[I n,L2 es c]::bs',M:=[] }):=by
    intro m
    induction m with
    | zero =>
      intro i k A bs hi
      have h3:i=R.length:=hi
      subst h3
      rw [List.take_length]
      refine wp_loop ?_
      repeat (first|apply wp_as|apply wp_ss|refine wr (by simp;with_reducible rfl) ?_|refine wq (by simp;with_reducible rfl) ?_|refine wt (by simpa) ?_|refine wf (by simpa) ?_|refine xt (by simpa) ?_|refine xf (by simpa) ?_|apply wp_bs|apply wp_b|refine wp_sr ?_|refine wp_sx ?_|refine wp_ret' ?_|refine wp_skip' ?_|refine wp_exit' ?_)
      exact ⟨rfl,bs,rfl⟩
    | succ m ih =>
      intro i k A bs hi
      have hi2:i < R.length:=by omega
      have w1:IntKind.i64.wrap ((i:Int)+1)=((i+1:Nat):Int):=wrapS (by omega)
      have hs:=endsR_take hi2 k
      obtain ⟨hb1,hb2⟩:=endsR_bound (R:=R.take i) (fun x hx=>hR x (List.mem_of_mem_take hx)) k
      rw [List.length_take] at hb2
      have hx:=hR R[i] (List.getElem_mem hi2)
      obtain ⟨⟨p,q,s⟩,hpq⟩:∃ x,x=R[i]:=⟨_,rfl⟩
      have hpq:=hpq.symm
      rw [hpq] at hs hx
      simp only [endR] at hs hx
      have hn:=fun bs=>ih (i+1) k A bs (by omega)
      rw [hs] at hn
      generalize endsR (R.take i) k=E at hs hb1 hb2 hn
      have w2:IntKind.i64.wrap (E+s)=E+s:=wrap64 (by omega) (by omega)
      have w3:IntKind.i64.wrap (E+s+s)=E+s+s:=wrap64 (by omega) (by omega)
      by_cases h1:p=k
      · by_cases h2:q=k
        · rw [if_pos h1,if_pos h2,show E+(s+s)=E+s+s by omega] at hn
          refine wp_loop ?_
          repeat (first|apply wp_as|apply wp_ss|refine wr (by simp [hi2,w1,w2,w3,hpq,h1,h2];with_reducible rfl) ?_|refine wq (by simp [hi2,w1,w2,w3,hpq,h1,h2];with_reducible rfl) ?_|refine wt (by simpa [hi2,w1,w2,w3,hpq,h1,h2]) ?_|refine wf (by simpa [hi2,w1,w2,w3,hpq,h1,h2]) ?_|refine xt (by simpa [hi2,w1,w2,w3,hpq,h1,h2]) ?_|refine xf (by simpa [hi2,w1,w2,w3,hpq,h1,h2]) ?_|apply wp_bs|apply wp_b|refine wp_sr ?_|refine wp_sx ?_|refine wp_ret' ?_|refine wp_skip' ?_|refine wp_exit' ?_)
          exact hn _
        · rw [if_pos h1,if_neg h2,show E+(s+0)=E+s by omega] at hn
          refine wp_loop ?_
          repeat (first|apply wp_as|apply wp_ss|refine wr (by simp [hi2,w1,w2,w3,hpq,h1,h2];with_reducible rfl) ?_|refine wq (by simp [hi2,w1,w2,w3,hpq,h1,h2];with_reducible rfl) ?_|refine wt (by simpa [hi2,w1,w2,w3,hpq,h1,h2]) ?_|refine wf (by simpa [hi2,w1,w2,w3,hpq,h1,h2]) ?_|refine xt (by simpa [hi2,w1,w2,w3,hpq,h1,h2]) ?_|refine xf (by simpa [hi2,w1,w2,w3,hpq,h1,h2]) ?_|apply wp_bs|apply wp_b|refine wp_sr ?_|refine wp_sx ?_|refine wp_ret' ?_|refine wp_skip' ?_|refine wp_exit' ?_)
          exact hn _
      · by_cases h2:q=k
        · rw [if_neg h1,if_pos h2,show E+(0+s)=E+s by omega] at hn
          refine wp_loop ?_
          repeat (first|apply wp_as|apply wp_ss|refine wr (by simp [hi2,w1,w2,w3,hpq,h1,h2];with_reducible rfl) ?_|refine wq (by simp [hi2,w1,w2,w3,hpq,h1,h2];with_reducible rfl) ?_|refine wt (by simpa [hi2,w1,w2,w3,hpq,h1,h2]) ?_|refine wf (by simpa [hi2,w1,w2,w3,hpq,h1,h2]) ?_|refine xt (by simpa [hi2,w1,w2,w3,hpq,h1,h2]) ?_|refine xf (by simpa [hi2,w1,w2,w3,hpq,h1,h2]) ?_|apply wp_bs|apply wp_b|refine wp_sr ?_|refine wp_sx ?_|refine wp_ret' ?_|refine wp_skip' ?_|refine wp_exit' ?_)
          exact hn _
        · rw [if_neg h1,if_neg h2,show E+(0+0)=E by omega] at hn
          refine wp_loop ?_
          repeat (first|apply wp_as|apply wp_ss|refine wr (by simp [hi2,w1,w2,w3,hpq,h1,h2];with_reducible rfl) ?_|refine wq (by simp [hi2,w1,w2,w3,hpq,h1,h2];with_reducible rfl) ?_|refine wt (by simpa [hi2,w1,w2,w3,hpq,h1,h2]) ?_|refine wf (by simpa [hi2,w1,w2,w3,hpq,h1,h2]) ?_|refine xt (by simpa [hi2,w1,w2,w3,hpq,h1,h2]) ?_|refine xf (by simpa [hi2,w1,w2,w3,hpq,h1,h2]) ?_|apply wp_bs|apply wp_b|refine wp_sr ?_|refine wp_sx ?_|refine wp_ret' ?_|refine wp_skip' ?_|refine wp_exit' ?_)
          exact hn _
  have jdl_len:∀ k:Nat,(jdL R k).length≤900 * k:=by
    intro k
    induction k with
    | zero=>simp [jdL]
    | succ k ih =>
      have h1:=he (k+1)
      have h2:(endsR R ((k+1:Nat):Int) / ((k+1:Nat):Int)).toNat≤900:=by
        have:=Int.ediv_le_self (b:=((k+1:Nat):Int)) (endsR_bound (R:=R) hR ((k+1:Nat):Int)).1
        omega
      rw [jdL,List.length_append,List.length_replicate]
      omega
  have loop2:∀ (k:Nat) (A:List Int) (bs:Boxes),k≤6→A.length+900 * k≤10000 →
      wp tb (.loop z189l17) { T:=[(3,O A),(4,O3 R),(5,I k)],loc:=[I n,L2 es c]::bs,M:=[] }
      (fun ex st=>ex=.exit 0∧∃ bs',st={ T:=[(3,O (A++jdL R k)),(4,O3 R),(5,I 0),(12,Bo false)],loc:=[I n,L2 es c]::bs',M:=[] }):=by
    intro k
    induction k with
    | zero =>
      intro A bs hk hA
      refine wp_loop ?_
      repeat (first|apply wp_as|apply wp_ss|refine wr (by simp;with_reducible rfl) ?_|refine wq (by simp;with_reducible rfl) ?_|refine wt (by simpa) ?_|refine wf (by simpa) ?_|refine xt (by simpa) ?_|refine xf (by simpa) ?_|apply wp_bs|apply wp_b|refine wp_sr ?_|refine wp_sx ?_|refine wp_ret' ?_|refine wp_skip' ?_|refine wp_exit' ?_)
      exact ⟨rfl,bs,by simp [jdL]⟩
    | succ k ih =>
      intro A bs hk hA
      have w1:IntKind.i64.wrap (k:Int)=(k:Int):=wrap64 (by omega) (by omega)
      have h0:(0:Int) < (k:Int)+1:=by omega
      have hin:=loop1A R.length 0 ((k:Int)+1) A bs (by omega)
      rw [List.take_zero] at hin
      have hz:endsR [] ((k:Int)+1)=0:=rfl
      rw [hz] at hin
      have hq1:=he (k+1)
      have hq0:=(endsR_bound (R:=R) hR ((k:Int)+1)).1
      have hjd:jdL R (k+1)=List.replicate (endsR R ((k:Int)+1) / ((k:Int)+1)).toNat ((k:Int)+1)++jdL R k:=rfl
      rw [show (((k+1:Nat):Int))=(k:Int)+1 by omega] at hq1
      generalize endsR R ((k:Int)+1)=E at hin hq1 hq0 hjd
      have hdiv0:0≤E / ((k:Int)+1):=Int.ediv_nonneg hq0 (by omega)
      have hdiv1:E / ((k:Int)+1)≤E:=Int.ediv_le_self _ hq0
      have htd:E.tdiv ((k:Int)+1)=E / ((k:Int)+1):=Int.tdiv_eq_ediv_of_nonneg hq0
      obtain ⟨q,hq⟩:∃ q:Nat,E / ((k:Int)+1)=q:=⟨_,(Int.toNat_of_nonneg hdiv0).symm⟩
      rw [hq] at hdiv1 htd hjd
      have w2:IntKind.i64.wrap (q:Int)=(q:Int):=wrap64 (by omega) (by omega)
      have hk0:¬ ((k:Int)+1=0):=by omega
      have e1:limF tb zl271 [] [.lst 1 [[I ((k:Int)+1)]] false,I q] []=some ⟨O (List.replicate q ((k:Int)+1)),[],[],[]⟩:=ev_lim (ev_Repeat ((k:Int)+1) q (by omega) false [])
      have e1':limF tb zl271 [] [.lst 1 (ints [(k:Int)+1]) false,I q] []=some ⟨O (List.replicate q ((k:Int)+1)),[],[],[]⟩:=e1
      have hn:=fun bs=>ih (A++List.replicate q ((k:Int)+1)) bs (by omega) (by rw [List.length_append,List.length_replicate];omega)
      rw [Int.toNat_natCast] at hjd
      rw [List.append_assoc,← hjd] at hn
      have hcap:A.length+q≤274877906944:=by omega
      refine wp_loop ?_
      repeat (first|apply wp_as|apply wp_ss|refine wr (by simp [h0];with_reducible rfl) ?_|refine wq (by simp [h0];with_reducible rfl) ?_|refine wt (by simpa [h0]) ?_|refine wf (by simpa [h0]) ?_|refine xt (by simpa [h0]) ?_|refine xf (by simpa [h0]) ?_|apply wp_bs|apply wp_b|refine wp_sr ?_|refine wp_sx ?_|refine wp_ret' ?_|refine wp_skip' ?_|refine wp_exit' ?_)
      refine wp_imp hin ?_
      rintro ex st ⟨rfl,bs',rfl⟩
      simp only [if_true]
      repeat (first|apply wp_as|apply wp_ss|refine wr (by simp [w1,w2,htd,hk0,e1,e1',hcap];with_reducible rfl) ?_|refine wq (by simp [w1,w2,htd,hk0,e1,e1',hcap];with_reducible rfl) ?_|refine wt (by simpa [w1,w2,htd,hk0,e1,e1',hcap]) ?_|refine wf (by simpa [w1,w2,htd,hk0,e1,e1',hcap]) ?_|refine xt (by simpa [w1,w2,htd,hk0,e1,e1',hcap]) ?_|refine xf (by simpa [w1,w2,htd,hk0,e1,e1',hcap]) ?_|apply wp_bs|apply wp_b|refine wp_sr ?_|refine wp_sx ?_|refine wp_ret' ?_|refine wp_skip' ?_|refine wp_exit' ?_)
      exact hn _
  have hjl:=jdl_len 6
  have e2:=ev_lim (ev_clone (jdL R 6) false (by omega))
  have w1:IntKind.i64.wrap (5:Int)=5:=wrap64 (by omega) (by omega)
  have hin:=loop1Z R.length 0 6 [] [] (by omega)
  rw [List.take_zero] at hin
  have hz:endsR [] 6=0:=rfl
  rw [hz] at hin
  have hq1:=he 6
  have hq0:=(endsR_bound (R:=R) hR 6).1
  have hjd:jdL R 6=List.replicate (endsR R 6 / 6).toNat 6++jdL R 5:=rfl
  rw [show ((6:Nat):Int)=6 from rfl] at hq1
  generalize endsR R 6=E at hin hq1 hq0 hjd
  have hdiv0:0≤E / 6:=Int.ediv_nonneg hq0 (by omega)
  have hdiv1:E / 6≤E:=Int.ediv_le_self _ hq0
  have htd:E.tdiv 6=E / 6:=Int.tdiv_eq_ediv_of_nonneg hq0
  obtain ⟨q,hq⟩:∃ q:Nat,E / 6=q:=⟨_,(Int.toNat_of_nonneg hdiv0).symm⟩
  rw [hq] at hdiv1 htd hjd
  have w2:IntKind.i64.wrap (q:Int)=(q:Int):=wrap64 (by omega) (by omega)
  have e1:limF tb zl271 [] [.lst 1 [[I 6]] false,I q] []=some ⟨O (List.replicate q 6),[],[],[]⟩:=ev_lim (ev_Repeat 6 q (by omega) false [])
  have e1':limF tb zl271 [] [.lst 1 (ints [6]) false,I q] []=some ⟨O (List.replicate q 6),[],[],[]⟩:=e1
  have hn:=fun bs=>loop2 5 (List.replicate q 6) bs (by omega) (by rw [List.length_replicate];omega)
  rw [Int.toNat_natCast] at hjd
  rw [← hjd] at hn
  have hcap:q≤274877906944:=by omega
  refine call_of_wp zt189 rfl ?_
  repeat (first|apply wp_as|apply wp_ss|refine wr (by simp [e0];with_reducible rfl) ?_|refine wq (by simp [e0];with_reducible rfl) ?_|refine wt (by simpa [e0]) ?_|refine wf (by simpa [e0]) ?_|refine xt (by simpa [e0]) ?_|refine xf (by simpa [e0]) ?_|apply wp_bs|apply wp_b|refine wp_sr ?_|refine wp_sx ?_|refine wp_ret' ?_|refine wp_skip' ?_|refine wp_exit' ?_)
  refine wp_loop ?_
  repeat (first|apply wp_as|apply wp_ss|refine wr (by simp;with_reducible rfl) ?_|refine wq (by simp;with_reducible rfl) ?_|refine wt (by simpa) ?_|refine wf (by simpa) ?_|refine xt (by simpa) ?_|refine xf (by simpa) ?_|apply wp_bs|apply wp_b|refine wp_sr ?_|refine wp_sx ?_|refine wp_ret' ?_|refine wp_skip' ?_|refine wp_exit' ?_)
  refine wp_imp hin ?_
  rintro ex st ⟨rfl,bs',rfl⟩
  simp only [if_true]
  repeat (first|apply wp_as|apply wp_ss|refine wr (by simp [w1,w2,htd,e1,e1',hcap];with_reducible rfl) ?_|refine wq (by simp [w1,w2,htd,e1,e1',hcap];with_reducible rfl) ?_|refine wt (by simpa [w1,w2,htd,e1,e1',hcap]) ?_|refine wf (by simpa [w1,w2,htd,e1,e1',hcap]) ?_|refine xt (by simpa [w1,w2,htd,e1,e1',hcap]) ?_|refine xf (by simpa [w1,w2,htd,e1,e1',hcap]) ?_|apply wp_bs|apply wp_b|refine wp_sr ?_|refine wp_sx ?_|refine wp_ret' ?_|refine wp_skip' ?_|refine wp_exit' ?_)
  refine wp_imp (hn _) ?_
  rintro ex st ⟨rfl,bs',rfl⟩
  try simp only [if_true]
  repeat (first|apply wp_as|apply wp_ss|refine wr (by simp [e2];with_reducible rfl) ?_|refine wq (by simp [e2];with_reducible rfl) ?_|refine wt (by simpa [e2]) ?_|refine wf (by simpa [e2]) ?_|refine xt (by simpa [e2]) ?_|refine xf (by simpa [e2]) ?_|apply wp_bs|apply wp_b|refine wp_sr ?_|refine wp_sx ?_|refine wp_ret' ?_|refine wp_skip' ?_|refine wp_exit' ?_)
  simp [zi189]
end Go.Idl
namespace Go.Idl
open Go
set_option maxHeartbeats 4000000 in
theorem ev_spec_JointDegrees_of (n:Nat) (es:List (Int×Int)) (c:Bool) (h:vGraph n es=true) (hk:∀ k:Nat,∃ q:Nat,endsR (jS n es) ((k+1:Nat):Int)=((q * (k+1):Nat):Int)∧q≤900)
    (hR:∀ x ∈ jS n es,0≤x.2.2∧x.2.2≤1000) (hl:(jS n es).length≤1000):Ev tb zl322 [] [Gr n es c] [] ⟨O (jdL (jS n es) (n - 1)),[],[],[]⟩:=by
  obtain ⟨h1,h2,hn⟩:=vG_iff.1 h
  have hE:EdgesIn n es:=fun e he=>by have:=mem_prs.1 (h2 e he);omega
  have hlen:=vJ_len h
  have e1:=ev_lim (ev_validGraph n es c (by omega))
  have e2:=ev_lim (ev_jointOf n es c (by omega) (by omega) hE)
  rw [h] at e1
  generalize jS n es=R at hk hR hl e2
  have loop1:∀ (m i:Nat) (k:Int) (A:List Int),i+m=R.length →
      wp tb (.loop z322l15) { T:=[(3,O3 R),(4,O A),(5,I k),(6,I (endsR (R.take i) k)),(7,I i)],loc:=[[I n,L2 es c]],M:=[] }
      (fun ex st=>ex=.exit 2∧st={ T:=[(3,O3 R),(4,O A),(5,I k),(6,I (endsR R k)),(7,I R.length),(24,Bo false)],loc:=[[I n,L2 es c]],M:=[] }):=by
    intro m
    induction m with
    | zero =>
      intro i k A hi
      have h3:i=R.length:=hi
      subst h3
      rw [List.take_length]
      refine wp_loop ?_
      repeat (first|apply wp_as|apply wp_ss|refine wr (by simp;with_reducible rfl) ?_|refine wq (by simp;with_reducible rfl) ?_|refine wt (by simpa) ?_|refine wf (by simpa) ?_|refine xt (by simpa) ?_|refine xf (by simpa) ?_|apply wp_bs|apply wp_b|refine wp_sr ?_|refine wp_sx ?_|refine wp_ret' ?_|refine wp_skip' ?_|refine wp_exit' ?_)
      exact ⟨rfl,rfl⟩
    | succ m ih =>
      intro i k A hi
      have hi2:i < R.length:=by omega
      have w1:IntKind.i64.wrap ((i:Int)+1)=((i+1:Nat):Int):=wrapS (by omega)
      have hs:=endsR_take hi2 k
      obtain ⟨hb1,hb2⟩:=endsR_bound (R:=R.take i) (fun x hx=>hR x (List.mem_of_mem_take hx)) k
      rw [List.length_take] at hb2
      have hx:=hR R[i] (List.getElem_mem hi2)
      obtain ⟨⟨p,q,s⟩,hpq⟩:∃ x,x=R[i]:=⟨_,rfl⟩
      have hpq:=hpq.symm
      rw [hpq] at hs hx
      simp only [endR] at hs hx
      have hn:=ih (i+1) k A (by omega)
      rw [hs] at hn
      generalize endsR (R.take i) k=E at hs hb1 hb2 hn
      have w2:IntKind.i64.wrap (E+s)=E+s:=wrap64 (by omega) (by omega)
      have w3:IntKind.i64.wrap (E+s+s)=E+s+s:=wrap64 (by omega) (by omega)
      by_cases h1:p=k
      · by_cases h2:q=k
        · rw [if_pos h1,if_pos h2,show E+(s+s)=E+s+s by omega] at hn
          refine wp_loop ?_
          repeat (first|apply wp_as|apply wp_ss|refine wr (by simp [hi2,w1,w2,w3,hpq,h1,h2];with_reducible rfl) ?_|refine wq (by simp [hi2,w1,w2,w3,hpq,h1,h2];with_reducible rfl) ?_|refine wt (by simpa [hi2,w1,w2,w3,hpq,h1,h2]) ?_|refine wf (by simpa [hi2,w1,w2,w3,hpq,h1,h2]) ?_|refine xt (by simpa [hi2,w1,w2,w3,hpq,h1,h2]) ?_|refine xf (by simpa [hi2,w1,w2,w3,hpq,h1,h2]) ?_|apply wp_bs|apply wp_b|refine wp_sr ?_|refine wp_sx ?_|refine wp_ret' ?_|refine wp_skip' ?_|refine wp_exit' ?_)
          exact hn
        · rw [if_pos h1,if_neg h2,show E+(s+0)=E+s by omega] at hn
          refine wp_loop ?_
          repeat (first|apply wp_as|apply wp_ss|refine wr (by simp [hi2,w1,w2,w3,hpq,h1,h2];with_reducible rfl) ?_|refine wq (by simp [hi2,w1,w2,w3,hpq,h1,h2];with_reducible rfl) ?_|refine wt (by simpa [hi2,w1,w2,w3,hpq,h1,h2]) ?_|refine wf (by simpa [hi2,w1,w2,w3,hpq,h1,h2]) ?_|refine xt (by simpa [hi2,w1,w2,w3,hpq,h1,h2]) ?_|refine xf (by simpa [hi2,w1,w2,w3,hpq,h1,h2]) ?_|apply wp_bs|apply wp_b|refine wp_sr ?_|refine wp_sx ?_|refine wp_ret' ?_|refine wp_skip' ?_|refine wp_exit' ?_)
          exact hn
      · by_cases h2:q=k
        · rw [if_neg h1,if_pos h2,show E+(0+s)=E+s by omega] at hn
          refine wp_loop ?_
          repeat (first|apply wp_as|apply wp_ss|refine wr (by simp [hi2,w1,w2,w3,hpq,h1,h2];with_reducible rfl) ?_|refine wq (by simp [hi2,w1,w2,w3,hpq,h1,h2];with_reducible rfl) ?_|refine wt (by simpa [hi2,w1,w2,w3,hpq,h1,h2]) ?_|refine wf (by simpa [hi2,w1,w2,w3,hpq,h1,h2]) ?_|refine xt (by simpa [hi2,w1,w2,w3,hpq,h1,h2]) ?_|refine xf (by simpa [hi2,w1,w2,w3,hpq,h1,h2]) ?_|apply wp_bs|apply wp_b|refine wp_sr ?_|refine wp_sx ?_|refine wp_ret' ?_|refine wp_skip' ?_|refine wp_exit' ?_)
          exact hn
        · rw [if_neg h1,if_neg h2,show E+(0+0)=E by omega] at hn
          refine wp_loop ?_
          repeat (first|apply wp_as|apply wp_ss|refine wr (by simp [hi2,w1,w2,w3,hpq,h1,h2];with_reducible rfl) ?_|refine wq (by simp [hi2,w1,w2,w3,hpq,h1,h2];with_reducible rfl) ?_|refine wt (by simpa [hi2,w1,w2,w3,hpq,h1,h2]) ?_|refine wf (by simpa [hi2,w1,w2,w3,hpq,h1,h2]) ?_|refine xt (by simpa [hi2,w1,w2,w3,hpq,h1,h2]) ?_|refine xf (by simpa [hi2,w1,w2,w3,hpq,h1,h2]) ?_|apply wp_bs|apply wp_b|refine wp_sr ?_|refine wp_sx ?_|refine wp_ret' ?_|refine wp_skip' ?_|refine wp_exit' ?_)
          exact hn
  have loop3:∀ (q k:Nat) (A:List Int) (f:Bool),A.length+q≤100000→k≤10→q≤900 →
      wp tb (.loop z322l19) { T:=[(3,O3 R),(4,O A),(5,I ((k+1:Nat):Int)),(6,I ((q * (k+1):Nat):Int))]++(if f then [(7,I R.length),(24,Bo false)] else []),loc:=[[I n,L2 es c]],M:=[] }
      (fun ex st=>ex=.exit 4∧st={ T:=[(3,O3 R),(4,O (A++List.replicate q ((k+1:Nat):Int))),(5,I ((k+1:Nat):Int)),(6,I 0),(56,Bo false)],loc:=[[I n,L2 es c]],M:=[] }):=by
    intro q
    induction q with
    | zero =>
      intro k A f hA hk hq
      rw [Nat.zero_mul]
      cases f <;> simp only [if_true,Bool.false_eq_true,if_false,List.append_nil,List.cons_append,List.nil_append]
      · refine wp_loop ?_
        repeat (first|apply wp_as|apply wp_ss|refine wr (by simp;with_reducible rfl) ?_|refine wq (by simp;with_reducible rfl) ?_|refine wt (by simpa) ?_|refine wf (by simpa) ?_|refine xt (by simpa) ?_|refine xf (by simpa) ?_|apply wp_bs|apply wp_b|refine wp_sr ?_|refine wp_sx ?_|refine wp_ret' ?_|refine wp_skip' ?_|refine wp_exit' ?_)
        exact ⟨rfl,by simp⟩
      · refine wp_loop ?_
        repeat (first|apply wp_as|apply wp_ss|refine wr (by simp;with_reducible rfl) ?_|refine wq (by simp;with_reducible rfl) ?_|refine wt (by simpa) ?_|refine wf (by simpa) ?_|refine xt (by simpa) ?_|refine xf (by simpa) ?_|apply wp_bs|apply wp_b|refine wp_sr ?_|refine wp_sx ?_|refine wp_ret' ?_|refine wp_skip' ?_|refine wp_exit' ?_)
        exact ⟨rfl,by simp⟩
    | succ q ih =>
      intro k A f hA hk hq
      have hmul:(q+1) * (k+1)=q * (k+1)+(k+1):=Nat.succ_mul q (k+1)
      have hle:q * (k+1)≤900 * 11:=Nat.mul_le_mul (by omega) (by omega)
      have hg:=ih k (A++[((k+1:Nat):Int)]) false (by simp;omega) hk (by omega)
      simp only [Bool.false_eq_true,if_false,List.append_nil] at hg
      rw [List.append_assoc,show [((k+1:Nat):Int)]++List.replicate q ((k+1:Nat):Int)=List.replicate (q+1) ((k+1:Nat):Int) from rfl] at hg
      rw [hmul]
      generalize q * (k+1)=z at hle hg
      have hcap:A.length≤274877906943:=by omega
      have h0:(0:Int) < ((z+(k+1):Nat):Int):=by omega
      have w1:IntKind.i64.wrap (((z+(k+1):Nat):Int) - ((k+1:Nat):Int))=(z:Int):=by rw [wrap64 (by omega) (by omega)];omega
      generalize ((z+(k+1):Nat):Int)=y at h0 w1
      generalize ((k+1:Nat):Int)=x at w1 hg
      cases f <;> simp only [if_true,Bool.false_eq_true,if_false,List.append_nil,List.cons_append,List.nil_append]
      · refine wp_loop ?_
        repeat (first|apply wp_as|apply wp_ss|refine wr (by simp [hcap,h0,w1];with_reducible rfl) ?_|refine wq (by simp [hcap,h0,w1];with_reducible rfl) ?_|refine wt (by simpa [hcap,h0,w1]) ?_|refine wf (by simpa [hcap,h0,w1]) ?_|refine xt (by simpa [hcap,h0,w1]) ?_|refine xf (by simpa [hcap,h0,w1]) ?_|apply wp_bs|apply wp_b|refine wp_sr ?_|refine wp_sx ?_|refine wp_ret' ?_|refine wp_skip' ?_|refine wp_exit' ?_)
        exact hg
      · refine wp_loop ?_
        repeat (first|apply wp_as|apply wp_ss|refine wr (by simp [hcap,h0,w1];with_reducible rfl) ?_|refine wq (by simp [hcap,h0,w1];with_reducible rfl) ?_|refine wt (by simpa [hcap,h0,w1]) ?_|refine wf (by simpa [hcap,h0,w1]) ?_|refine xt (by simpa [hcap,h0,w1]) ?_|refine xf (by simpa [hcap,h0,w1]) ?_|apply wp_bs|apply wp_b|refine wp_sr ?_|refine wp_sx ?_|refine wp_ret' ?_|refine wp_skip' ?_|refine wp_exit' ?_)
        exact hg
  have jd_succ:∀ (k q:Nat),endsR R ((k+1:Nat):Int)=((q * (k+1):Nat):Int)→jdL R (k+1)=List.replicate q ((k+1:Nat):Int)++jdL R k:=fun k q hq=>by
    have hd:((q * (k+1):Nat):Int) / ((k+1:Nat):Int)=(q:Int):=by
      rw [← Int.natCast_ediv,Nat.mul_div_cancel _ (Nat.succ_pos k)]
    rw [jdL,hq,hd,Int.toNat_natCast]
  have loop2:∀ (k:Nat) (A:List Int),k≤10→A.length+900 * k≤20000 →
      wp tb (.loop z322l21) { T:=[(3,O3 R),(4,O A),(5,I (k:Nat))],loc:=[[I n,L2 es c]],M:=[] }
      (fun ex st=>ex=.exit 0∧st={ T:=[(3,O3 R),(4,O (A++jdL R k)),(5,I 0),(18,Bo false)],loc:=[[I n,L2 es c]],M:=[] }):=by
    intro k
    induction k with
    | zero =>
      intro A hk2 hA
      refine wp_loop ?_
      repeat (first|apply wp_as|apply wp_ss|refine wr (by simp;with_reducible rfl) ?_|refine wq (by simp;with_reducible rfl) ?_|refine wt (by simpa) ?_|refine wf (by simpa) ?_|refine xt (by simpa) ?_|refine xf (by simpa) ?_|apply wp_bs|apply wp_b|refine wp_sr ?_|refine wp_sx ?_|refine wp_ret' ?_|refine wp_skip' ?_|refine wp_exit' ?_)
      simp [jdL]
    | succ k ih =>
      intro A hk2 hA
      obtain ⟨q,hq,hq9⟩:=hk k
      have hin:=loop1 R.length 0 ((k+1:Nat):Int) A (by omega)
      rw [List.take_zero] at hin
      have hz:endsR [] ((k+1:Nat):Int)=0:=rfl
      rw [hz,hq] at hin
      have hin3:=loop3 q k A true (by omega) (by omega) hq9
      simp only [if_true,List.cons_append,List.nil_append] at hin3
      have hn:=ih (A++List.replicate q ((k+1:Nat):Int)) (by omega) (by rw [List.length_append,List.length_replicate];omega)
      rw [List.append_assoc,← jd_succ k q hq] at hn
      have h0:(0:Int) < ((k+1:Nat):Int):=by omega
      have w1:IntKind.i64.wrap (((k+1:Nat):Int) - 1)=(k:Int):=by rw [wrap64 (by omega) (by omega)];omega
      generalize ((q * (k+1):Nat):Int)=y at hin hin3
      generalize ((k+1:Nat):Int)=x at hin hin3 hn h0 w1
      refine wp_loop ?_
      repeat (first|apply wp_as|apply wp_ss|refine wr (by simp [h0];with_reducible rfl) ?_|refine wq (by simp [h0];with_reducible rfl) ?_|refine wt (by simpa [h0]) ?_|refine wf (by simpa [h0]) ?_|refine xt (by simpa [h0]) ?_|refine xf (by simpa [h0]) ?_|apply wp_bs|apply wp_b|refine wp_sr ?_|refine wp_sx ?_|refine wp_ret' ?_|refine wp_skip' ?_|refine wp_exit' ?_)
      refine wp_imp hin ?_
      rintro ex st ⟨rfl,rfl⟩
      simp only [if_true]
      repeat (first|apply wp_as|apply wp_ss|refine wr (by simp;with_reducible rfl) ?_|refine wq (by simp;with_reducible rfl) ?_|refine wt (by simpa) ?_|refine wf (by simpa) ?_|refine xt (by simpa) ?_|refine xf (by simpa) ?_|apply wp_bs|apply wp_b|refine wp_sr ?_|refine wp_sx ?_|refine wp_ret' ?_|refine wp_skip' ?_|refine wp_exit' ?_)
      refine wp_imp hin3 ?_
      rintro ex st ⟨rfl,rfl⟩
      simp only [if_true]
      repeat (first|apply wp_as|apply wp_ss|refine wr (by simp [w1];with_reducible rfl) ?_|refine wq (by simp [w1];with_reducible rfl) ?_|refine wt (by simpa [w1]) ?_|refine wf (by simpa [w1]) ?_|refine xt (by simpa [w1]) ?_|refine xf (by simpa [w1]) ?_|apply wp_bs|apply wp_b|refine wp_sr ?_|refine wp_sx ?_|refine wp_ret' ?_|refine wp_skip' ?_|refine wp_exit' ?_)
      exact hn
  have hlo:=fun k hk=>loop2 k [] hk (by simp;omega)
  simp only [List.nil_append] at hlo
  have wn:IntKind.i64.wrap ((n:Int) - 1)=(n:Int) - 1:=wrap64 (by omega) (by omega)
  by_cases hn0:n=0
  · subst hn0
    simp only [Int.natCast_zero] at e1 e2
    refine call_of_wp zt322 rfl ?_
    repeat (first|apply wp_as|apply wp_ss|refine wr (by simp [e1,e2];with_reducible rfl) ?_|refine wq (by simp [e1,e2];with_reducible rfl) ?_|refine wt (by simpa [e1,e2]) ?_|refine wf (by simpa [e1,e2]) ?_|refine xt (by simpa [e1,e2]) ?_|refine xf (by simpa [e1,e2]) ?_|apply wp_bs|apply wp_b|refine wp_sr ?_|refine wp_sx ?_|refine wp_ret' ?_|refine wp_skip' ?_|refine wp_exit' ?_)
    refine wp_loop ?_
    repeat (first|apply wp_as|apply wp_ss|refine wr (by simp;with_reducible rfl) ?_|refine wq (by simp;with_reducible rfl) ?_|refine wt (by simpa) ?_|refine wf (by simpa) ?_|refine xt (by simpa) ?_|refine xf (by simpa) ?_|apply wp_bs|apply wp_b|refine wp_sr ?_|refine wp_sx ?_|refine wp_ret' ?_|refine wp_skip' ?_|refine wp_exit' ?_)
    simp [zi322,jdL]
  · have hnn:(n:Int) - 1=((n - 1:Nat):Int):=by omega
    rw [hnn] at wn
    refine call_of_wp zt322 rfl ?_
    repeat (first|apply wp_as|apply wp_ss|refine wr (by simp [e1,e2,hnn,wn];with_reducible rfl) ?_|refine wq (by simp [e1,e2,hnn,wn];with_reducible rfl) ?_|refine wt (by simpa [e1,e2,hnn,wn]) ?_|refine wf (by simpa [e1,e2,hnn,wn]) ?_|refine xt (by simpa [e1,e2,hnn,wn]) ?_|refine xf (by simpa [e1,e2,hnn,wn]) ?_|apply wp_bs|apply wp_b|refine wp_sr ?_|refine wp_sx ?_|refine wp_ret' ?_|refine wp_skip' ?_|refine wp_exit' ?_)
    refine wp_imp (hlo (n - 1) (by omega)) ?_
    rintro ex st ⟨rfl,rfl⟩
    try simp only [if_true]
    repeat (first|apply wp_as|apply wp_ss|refine wr (by simp;with_reducible rfl) ?_|refine wq (by simp;with_reducible rfl) ?_|refine wt (by simpa) ?_|refine wf (by simpa) ?_|refine xt (by simpa) ?_|refine xf (by simpa) ?_|apply wp_bs|apply wp_b|refine wp_sr ?_|refine wp_sx ?_|refine wp_ret' ?_|refine wp_skip' ?_|refine wp_exit' ?_)
    simp [zi322]
end Go.Idl
namespace Go.Idl
theorem S_dups (f:Int×Int→Int):∀ (n:Nat) (l:List (Int×Int)),l.length≤n→S l.eraseDups (fun q=>(l.count q:Int) * f q)=S l f
  | 0,l,h=>by
    have:l=[]:=List.length_eq_zero_iff.1 (by omega)
    subst this;simp
  | n+1,[],_=>by simp
  | n+1,a::l,h=>by
    rw [List.eraseDups_cons,S_cons,S_cons]
    have hlen:(l.filter fun b=>!b == a).length≤n:=Nat.le_trans (List.length_filter_le _ _) (by simp at h;omega)
    have ih:=S_dups f n (l.filter fun b=>!b == a) hlen
    have h1:S (l.filter fun b=>!b == a).eraseDups (fun q=>((a::l).count q:Int) * f q)=S (l.filter fun b=>!b == a).eraseDups (fun q=>((l.filter fun b=>!b == a).count q:Int) * f q):=by
      refine S_congr fun q hq=>?_
      have hq':=List.mem_eraseDups.1 hq
      rw [List.mem_filter] at hq'
      have hne:q ≠ a:=by
        intro e
        subst e
        simp at hq'
      rw [List.count_cons_of_ne (fun e=>hne e.symm),List.count_filter (by simpa using hne)]
    rw [h1,ih]
    have h2:S l f=(l.count a:Int) * f a+S (l.filter fun b=>!b == a) f:=by
      clear ih h1 hlen h
      induction l with
      | nil=>simp
      | cons b l ihl =>
        by_cases hb:b=a
        · subst hb
          rw [List.count_cons_self,List.filter_cons_of_neg (by simp),S_cons,ihl]
          rw [Int.natCast_add,Int.add_mul]
          simp only [Int.natCast_one,Int.one_mul]
          omega
        · rw [List.count_cons_of_ne hb,List.filter_cons_of_pos (by simpa using hb),S_cons,S_cons,ihl]
          omega
    rw [h2,List.count_cons_self,Int.natCast_add,Int.add_mul]
    simp only [Int.natCast_one,Int.one_mul]
    omega
theorem jS_perm {n:Nat} {es:List (Int×Int)} (h:vGraph n es=true):(jS n es).Perm (cntK (keysJ (degs n es) es)):=by
  have:=srtJ_jS h (List.Perm.refl _)
  rw [← this]
  obtain ⟨-,hsp⟩:=srtC_ok (lt:=jlt) jlt_ht (fun a b h=>jlt_asymm h) (cntK (keysJ (degs n es) es)) [] .nil
  rw [List.nil_append] at hsp
  exact hsp
theorem S_pickJ {n j:Nat} (hj:j < n) (g:Nat→Int):S (List.range n) (fun u=>if u=j then g u else 0)=g j:=by
  have h1:S (List.range n) (fun u=>if u=j then g u else 0)=S (List.range n) (fun u=>(if j=u then 1 else 0) * g j):=S_congr fun u _=>by
    by_cases h:u=j
    · subst h;simp
    · have h':¬ j=u:=fun e=>h e.symm
      simp [h,h']
  rw [h1,S_mulr,S_one List.nodup_range,if_pos (List.mem_range.2 hj),Int.one_mul]
theorem count_S (l:List Int) (k:Int):S l (fun x=>if x=k then 1 else 0)=(l.count k:Int):=by
  induction l with
  | nil=>rfl
  | cons a l ih =>
    rw [S_cons,ih]
    by_cases h:a=k
    · subst h;rw [if_pos rfl,List.count_cons_self];omega
    · rw [if_neg h,List.count_cons_of_ne h];omega
theorem ends_deg {n:Nat} {es:List (Int×Int)} (h:vGraph n es=true) (k:Int):endsR (jS n es) k=k * ((degs n es).count k:Int):=by
  obtain ⟨h1,h2,hn⟩:=vG_iff.1 h
  have hE:EdgesIn n es:=fun e he=>by have:=mem_prs.1 (h2 e he);omega
  have hde:=degs_eq hE
  have hD:∀ v,v < n→(degs n es).getD v 0=deg es v:=fun v hv=>by
    rw [hde,List.getD_eq_getElem?_getD,List.getElem?_map,List.getElem?_range hv];rfl
  rw [endsR,S_perm (jS_perm h),cntK,S_map]
  have e1:S (keysJ (degs n es) es).eraseDups (fun c=>endR k (c.1,c.2,((keysJ (degs n es) es).count c:Int)))=S (keysJ (degs n es) es).eraseDups (fun c=>((keysJ (degs n es) es).count c:Int) * ((if c.1=k then 1 else 0)+(if c.2=k then 1 else 0))):=by
    refine S_congr fun c _=>?_
    simp only [endR]
    generalize ((keysJ (degs n es) es).count c:Int)=m
    by_cases h1:c.1=k <;> by_cases h2:c.2=k <;> simp [h1,h2] <;> omega
  rw [e1,S_dups _ _ _ (Nat.le_refl _),keysJ,S_map]
  have e2:S es (fun c=>(if (min ((degs n es).getD c.1.toNat 0) ((degs n es).getD c.2.toNat 0),max ((degs n es).getD c.1.toNat 0) ((degs n es).getD c.2.toNat 0)).1=k then (1:Int) else 0)+(if (min ((degs n es).getD c.1.toNat 0) ((degs n es).getD c.2.toNat 0),max ((degs n es).getD c.1.toNat 0) ((degs n es).getD c.2.toNat 0)).2=k then 1 else 0))
      = S es (fun e=>S (List.range n) (fun v=>inc v e * (if (degs n es).getD v 0=k then 1 else 0))):=by
    refine S_congr fun e he=>?_
    have hp:=mem_prs.1 (h2 e he)
    have e3:S (List.range n) (fun v=>inc v e * (if (degs n es).getD v 0=k then (1:Int) else 0))=S (List.range n) (fun v=>if v=e.1.toNat then (if (degs n es).getD v 0=k then 1 else 0) else 0)+S (List.range n) (fun v=>if v=e.2.toNat then (if (degs n es).getD v 0=k then 1 else 0) else 0):=by
      rw [← S_add]
      refine S_congr fun v _=>?_
      simp only [inc]
      generalize (if (degs n es).getD v 0=k then (1:Int) else 0)=g
      by_cases q1:v=e.1.toNat
      · rw [if_pos q1,if_pos (by omega),if_neg (by omega),if_neg (by omega)];omega
      · by_cases q2:v=e.2.toNat
        · rw [if_neg q1,if_pos q2,if_neg (by omega),if_pos (by omega)];omega
        · rw [if_neg q1,if_neg q2,if_neg (by omega),if_neg (by omega)];omega
    rw [e3,S_pickJ (by omega),S_pickJ (by omega)]
    generalize (degs n es).getD e.1.toNat 0=x
    generalize (degs n es).getD e.2.toNat 0=y
    simp only
    by_cases hxy:x≤y
    · rw [Int.min_eq_left hxy,Int.max_eq_right hxy]
    · rw [Int.min_eq_right (by omega),Int.max_eq_left (by omega)];omega
  rw [e2,S_swap]
  have e4:S (List.range n) (fun v=>S es (fun e=>inc v e * (if (degs n es).getD v 0=k then (1:Int) else 0)))=S (List.range n) (fun v=>k * (if (degs n es).getD v 0=k then 1 else 0)):=by
    refine S_congr fun v hv=>?_
    rw [S_mulr]
    have:S es (fun e=>inc v e)=(degs n es).getD v 0:=(hD v (List.mem_range.1 hv)).symm
    rw [this]
    by_cases hk:(degs n es).getD v 0=k
    · rw [if_pos hk,hk]
    · rw [if_neg hk];omega
  rw [e4,S_mul,← count_S]
  have hl:=degs_len n es
  have e5:S (degs n es) (fun x=>if x=k then (1:Int) else 0)=S (List.range n) (fun v=>if (degs n es).getD v 0=k then 1 else 0):=by
    have hm:degs n es=(List.range n).map fun v=>(degs n es).getD v 0:=by
      refine List.ext_getElem (by simp [hl]) fun i k1 k2=>?_
      simp [List.getD_eq_getElem?_getD,List.getElem?_eq_getElem k1]
    conv=>lhs;rw [hm]
    rw [S_map]
  rw [e5]
end Go.Idl
namespace Go.Idl
open Go
theorem jS_rows {n:Nat} {es:List (Int×Int)} (h:vGraph n es=true):(∀ x ∈ jS n es,0≤x.2.2∧x.2.2≤1000)∧(jS n es).length≤1000:=by
  have hp:=jS_perm h
  have h21:=vJ_len h
  refine ⟨fun x hx=>?_,?_⟩
  · obtain ⟨k,-,rfl⟩:=mem_cntK.1 (hp.mem_iff.1 hx)
    have h1:=List.count_le_length (a:=k) (l:=keysJ (degs n es) es)
    have h2:(keysJ (degs n es) es).length=es.length:=List.length_map _
    simp only
    omega
  · have:=keys_few h
    rw [hp.length_eq]
    omega
theorem ends_q {n:Nat} {es:List (Int×Int)} (h:vGraph n es=true) (k:Nat):endsR (jS n es) ((k+1:Nat):Int)=(((degs n es).count ((k+1:Nat):Int) * (k+1):Nat):Int)∧(degs n es).count ((k+1:Nat):Int)≤n:=by
  refine ⟨?_,?_⟩
  · rw [ends_deg h,Int.natCast_mul,Int.mul_comm]
  · have:=List.count_le_length (a:=((k+1:Nat):Int)) (l:=degs n es)
    rw [degs_len] at this
    exact this
theorem cnt_great {n:Nat} {es:List (Int×Int)} (h:vGraph n es=true) {k:Nat} (hk:n≤k):(degs n es).count (k:Int)=0:=by
  refine List.count_eq_zero.2 fun hm=>?_
  have hg:=degs_graphic h
  have hv:valid (degs n es)=true:=by simp only [graphic,Bool.and_eq_true] at hg;exact hg.1.1
  have:=valid_mem hv _ hm
  rw [degs_len] at this
  omega
theorem ends_few {n:Nat} {es:List (Int×Int)} (h:vGraph n es=true) (k:Nat):endsR (jS n es) (k:Int)≤900:=by
  have hn:=(vG_iff.1 h).2.2
  rw [ends_deg h]
  by_cases hk:n≤k
  · rw [cnt_great h hk];simp
  · have h1:=List.count_le_length (a:=(k:Int)) (l:=degs n es)
    rw [degs_len] at h1
    have:k * (degs n es).count (k:Int)≤7 * 7:=Nat.mul_le_mul (by omega) (by omega)
    have h2:((k * (degs n es).count (k:Int):Nat):Int)≤49:=by omega
    rw [Int.natCast_mul] at h2
    omega
theorem jdL_count {n:Nat} {es:List (Int×Int)} (h:vGraph n es=true) (m:Nat):jdL (jS n es) (m+1)=List.replicate ((degs n es).count ((m+1:Nat):Int)) ((m+1:Nat):Int)++jdL (jS n es) m:=by
  rw [jdL,(ends_q h m).1]
  have hd:(((degs n es).count ((m+1:Nat):Int) * (m+1):Nat):Int) / ((m+1:Nat):Int)=((degs n es).count ((m+1:Nat):Int):Int):=by
    rw [← Int.natCast_ediv,Nat.mul_div_cancel _ (Nat.succ_pos m)]
  rw [hd,Int.toNat_natCast]
theorem jdL_up {n:Nat} {es:List (Int×Int)} (h:vGraph n es=true):∀ d:Nat,jdL (jS n es) (n - 1+d)=jdL (jS n es) (n - 1)
  | 0=>rfl
  | d+1=>by
    rw [show n - 1+(d+1)=(n - 1+d)+1 by omega,jdL_count h,cnt_great h (by omega),List.replicate_zero,List.nil_append,jdL_up h d]
theorem jdL_six {n:Nat} {es:List (Int×Int)} (h:vGraph n es=true):jdL (jS n es) 6=jdL (jS n es) (n - 1):=by
  have hn:=(vG_iff.1 h).2.2
  have:=jdL_up h (6 - (n - 1))
  rw [show n - 1+(6 - (n - 1))=6 by omega] at this
  exact this
theorem ev_impl_JointDegrees (n:Nat) (es:List (Int×Int)) (c:Bool) (h:vGraph n es=true):Ev tb zl189 [] [Gr n es c] [] ⟨O (jdL (jS n es) (n - 1)),[],[],[]⟩:=by
  rw [← jdL_six h]
  obtain ⟨h1,h2⟩:=jS_rows h
  exact ev_impl_JointDegrees_of n es c _ (ev_impl_JointOf n es c h) h1 h2 (ends_few h)
theorem ev_spec_JointDegrees (n:Nat) (es:List (Int×Int)) (c:Bool) (h:vGraph n es=true):Ev tb zl322 [] [Gr n es c] [] ⟨O (jdL (jS n es) (n - 1)),[],[],[]⟩:=by
  obtain ⟨h1,h2⟩:=jS_rows h
  have hn:=(vG_iff.1 h).2.2
  exact ev_spec_JointDegrees_of n es c h (fun k=>⟨_,(ends_q h k).1,by have:=(ends_q h k).2;omega⟩) h1 h2
theorem ev_spec_JointDegrees_no (n:Int) (es:List (Int×Int)) (c:Bool) (hl:es.length≤100000000) (h:vGraph n es=false):Ev tb zl322 [] [Gr n es c] [] ⟨Z,[],[],[]⟩:=by
  have e1:=ev_lim (ev_validGraph n es c hl)
  rw [h] at e1
  refine call_of_wp zt322 rfl ?_
  repeat (first|apply wp_as|apply wp_ss|refine wr (by simp [e1];with_reducible rfl) ?_|refine wq (by simp [e1];with_reducible rfl) ?_|refine wt (by simpa [e1]) ?_|refine wf (by simpa [e1]) ?_|refine xt (by simpa [e1]) ?_|refine xf (by simpa [e1]) ?_|apply wp_bs|apply wp_b|refine wp_sr ?_|refine wp_sx ?_|refine wp_ret' ?_|refine wp_skip' ?_|refine wp_exit' ?_)
  simp [zi322]
end Go.Idl
namespace Go.Idl
open Go
@[simp] theorem fi_cons (p:IV→Bool) (x:IV) (xs:List IV):(x::xs).findIdx? p=if p x then some 0 else (xs.findIdx? p).map (·+1):=List.findIdx?_cons
@[simp] theorem eds_rep (n:Nat):List.replicate n [IV.sc (.int .i64 0),IV.sc (.int .i64 0)]=eds (List.replicate n (0,0)):=by simp [eds]
end Go.Idl
namespace Go.Idl
open Go
def srtE (X:List (Int×Int)):List (Int×Int):=srtC below [] X
end Go.Idl
namespace Go.Idl
open Go
def apart (a b c d:Int):Bool:=decide (a ≠ b) && decide (a ≠ c) && decide (a ≠ d) && decide (b ≠ c) && decide (b ≠ d) && decide (c ≠ d)
def gone (a b c d:Int) (x:Int×Int):Bool:=decide (x=(min a b,max a b)) || decide (x=(min c d,max c d))
end Go.Idl
namespace Go.Idl
open Go
def swX (es:List (Int×Int)) (a b c d:Int):List (Int×Int):=es.filter (fun x=>!gone a b c d x)++[(min a c,max a c),(min b d,max b d)]
def sw (es:List (Int×Int)) (a b c d:Int):List (Int×Int):=srtE (swX es a b c d)
end Go.Idl
namespace Go.Idl
open Go
abbrev Q4:=Int×Int×Int×Int
def sws (xs:List Q4):List (List IV):=xs.map fun s=>[I s.1,I s.2.1,I s.2.2.1,I s.2.2.2]
@[simp] theorem sws_len (xs:List Q4):(sws xs).length=xs.length:=by simp [sws]
@[simp] theorem sws_nil:sws []=[]:=rfl
@[simp] theorem sws_take (xs:List Q4) (n:Nat):(sws xs).take n=sws (xs.take n):=by simp [sws,List.map_take]
@[simp] theorem sws_drop (xs:List Q4) (n:Nat):(sws xs).drop n=sws (xs.drop n):=by simp [sws,List.map_drop]
@[simp] theorem sws_one (xs:List Q4) (a b c d:Int):sws xs++[[IV.sc (.int .i64 a),IV.sc (.int .i64 b),IV.sc (.int .i64 c),IV.sc (.int .i64 d)]]=sws (xs++[(a,b,c,d)]):=by simp [sws]
@[simp] theorem sws_get (xs:List Q4) (i:Nat) (h:i < (sws xs).length):(sws xs)[i]=[IV.sc (.int .i64 (xs[i]'(by simpa [sws] using h)).1),IV.sc (.int .i64 (xs[i]'(by simpa [sws] using h)).2.1),IV.sc (.int .i64 (xs[i]'(by simpa [sws] using h)).2.2.1),IV.sc (.int .i64 (xs[i]'(by simpa [sws] using h)).2.2.2)]:=by simp [sws]
@[simp] theorem sws_get? (xs:List Q4) (i:Nat):(sws xs)[i]? = xs[i]?.map fun s=>[IV.sc (.int .i64 s.1),IV.sc (.int .i64 s.2.1),IV.sc (.int .i64 s.2.2.1),IV.sc (.int .i64 s.2.2.2)]:=by simp [sws]
@[simp] theorem sws_all1 (xs:List Q4):((sws xs).all fun x=>x.all IV.plain1)=true:=by
  induction xs with
  | nil=>rfl
  | cons x xs ih=>simp only [sws,List.map_cons,List.all_cons] at *;rw [ih];rfl
@[simp] theorem sws_all2 (xs:List Q4):((sws xs).all fun x=>x.all IV.isData)=true:=by
  induction xs with
  | nil=>rfl
  | cons x xs ih=>simp only [sws,List.map_cons,List.all_cons] at *;rw [ih];rfl
@[simp] theorem sws_noLst (xs:List Q4):noLstLL (sws xs)=true:=by
  induction xs with
  | nil=>rfl
  | cons x xs ih=>simp only [sws,List.map_cons,noLstLL,noLstL,noLstV] at *;rw [ih];rfl
@[simp] theorem frz_sws (xs:List Q4):frzLL (sws xs)=sws xs:=by
  induction xs with
  | nil=>rfl
  | cons x xs ih=>simp only [sws,List.map_cons,frzLL,frzL,frzV] at *;rw [ih]
end Go.Idl
namespace Go.Idl
open Go
def tab (t:List (List Int)):List (List IV):=t.map fun r=>[.lst 1 (ints r) false]
def oab (t:List (List Int)):List (List IV):=t.map fun r=>[.own 1 (ints r)]
@[simp] theorem tab_len (t:List (List Int)):(tab t).length=t.length:=by simp [tab]
@[simp] theorem oab_len (t:List (List Int)):(oab t).length=t.length:=by simp [oab]
@[simp] theorem oab_nil:oab []=[]:=rfl
@[simp] theorem tab_get? (t:List (List Int)) (i:Nat):(tab t)[i]? = t[i]?.map fun r=>[IV.lst 1 (ints r) false]:=by simp [tab]
@[simp] theorem tab_get (t:List (List Int)) (i:Nat) (h:i < (tab t).length):(tab t)[i]=[IV.lst 1 (ints (t[i]'(by simpa [tab] using h))) false]:=by simp [tab]
@[simp] theorem oab_get? (t:List (List Int)) (i:Nat):(oab t)[i]? = t[i]?.map fun r=>[IV.own 1 (ints r)]:=by simp [oab]
@[simp] theorem oab_get (t:List (List Int)) (i:Nat) (h:i < (oab t).length):(oab t)[i]=[IV.own 1 (ints (t[i]'(by simpa [oab] using h)))]:=by simp [oab]
@[simp] theorem oab_one (t:List (List Int)) (r:List Int):oab t++[[IV.own 1 (ints r)]]=oab (t++[r]):=by simp [oab]
@[simp] theorem oab_set (t:List (List Int)) (i:Nat) (r:List Int):(oab t).set i [IV.own 1 (ints r)]=oab (t.set i r):=by simp [oab,List.map_set]
@[simp] theorem oab_take (t:List (List Int)) (n:Nat):(oab t).take n=oab (t.take n):=by simp [oab,List.map_take]
@[simp] theorem frz_oab (t:List (List Int)):frzLL (oab t)=tab t:=by
  induction t with
  | nil=>rfl
  | cons x xs ih =>
    simp only [oab,tab,List.map_cons,frzLL,frzL,frzV] at *
    rw [ih]
    have:frzLL (ints x)=ints x:=by
      clear ih
      induction x with
      | nil=>rfl
      | cons y ys ih=>simp only [ints,List.map_cons,frzLL,frzL,frzV] at *;rw [ih]
    rw [this]
@[simp] theorem tab_all1 (t:List (List Int)):((tab t).all fun x=>x.all IV.plain1)=true:=by
  induction t with
  | nil=>rfl
  | cons x xs ih=>simp only [tab,List.map_cons,List.all_cons] at *;rw [ih];rfl
@[simp] theorem oab_noLst (t:List (List Int)):noLstLL (oab t)=true:=by
  induction t with
  | nil=>rfl
  | cons x xs ih =>
    simp only [oab,List.map_cons,noLstLL,noLstL,noLstV] at *
    rw [ih,ints_noLst];rfl
def g2 (t:List (List Int)) (a b:Nat):Int:=(t.getD a []).getD b 0
end Go.Idl
namespace Go.Idl
open Go
def asc0 (s:List Int):List Int:=(fall s).reverse
def overT (s:List Int) (i:Nat):Int:=((asc0 s).take (i+1)).sum - ((i:Int)+1) * i / 2
def over (s:List Int):List Int:=mapR s.length (overT s)
end Go.Idl
namespace Go.Idl
open Go
theorem sum01 (r:List Int) (h:∀ x ∈ r,0≤x∧x≤1):0≤r.sum∧r.sum≤r.length:=by
  induction r with
  | nil=>simp
  | cons x xs ih =>
    have h1:=h x (by simp)
    have h2:=ih fun y hy=>h y (by simp [hy])
    simp only [List.sum_cons,List.length_cons];omega
end Go.Idl
namespace Go.Idl
open Go
def busy (rest gone:List Int) (v:Nat):Bool:=decide ((v:Int) ∈ rest) || decide ((v:Int) ∈ gone)
end Go.Idl
namespace Go.Idl
open Go
abbrev Str (s:ByteArray):IV:=.sc (.string s)
def strs (l:List ByteArray):List (List IV):=l.map fun s=>[Str s]
@[simp] theorem strs_len (l:List ByteArray):(strs l).length=l.length:=by simp [strs]
@[simp] theorem strs_get (l:List ByteArray) (i:Nat) (h:i < (strs l).length):(strs l)[i]=[IV.sc (.string (l[i]'(by simpa [strs] using h)))]:=by simp [strs]
@[simp] theorem strs_get? (l:List ByteArray) (i:Nat):(strs l)[i]? = l[i]?.map fun s=>[IV.sc (.string s)]:=by simp [strs]
end Go.Idl
namespace Go.Idl
open Go
def gls (n:Int) (gl:List (List (Int×Int))):List (List IV):=gl.map fun es=>[I n,O2 es]
@[simp] theorem gls_len (n:Int) (gl):(gls n gl).length=gl.length:=by simp [gls]
@[simp] theorem gls_one (n:Int) (gl) (es:List (Int×Int)):gls n gl++[[IV.sc (.int .i64 n),.own 2 (eds es)]]=gls n (gl++[es]):=by simp [gls]
@[simp] theorem gls_emp (n:Int) (gl):(gls n gl).isEmpty=gl.isEmpty:=by cases gl <;> rfl
@[simp] theorem gls_take (n:Int) (gl) (k:Nat):(gls n gl).take k=gls n (gl.take k):=by simp [gls,List.map_take]
@[simp] theorem gls_all (n:Int) (gl):((gls n gl).all fun x=>x.all IV.isData)=true:=by
  induction gl with
  | nil=>rfl
  | cons x xs ih=>simp only [gls,List.map_cons,List.all_cons] at *;rw [ih];rfl
@[simp] theorem gls_noLst (n:Int) (gl):noLstLL (gls n gl)=true:=by
  induction gl with
  | nil=>rfl
  | cons x xs ih=>simp only [gls,List.map_cons,noLstLL,noLstL,noLstV,eds_noLst] at *;rw [ih];rfl
end Go.Idl
namespace Go.Idl
open Go
abbrev GF:=List (List (Int×Int)×Bool)
def glf (n:Int) (R:GF):List (List IV):=R.map fun x=>[I n,L2 x.1 x.2]
@[simp] theorem glf_len (n:Int) (R:GF):(glf n R).length=R.length:=by simp [glf]
@[simp] theorem glf_nil (n:Int):glf n []=[]:=rfl
@[simp] theorem glf_app (n:Int) (R S:GF):glf n R++glf n S=glf n (R++S):=by simp [glf]
@[simp] theorem glf_take (n:Int) (R:GF) (k:Nat):(glf n R).take k=glf n (R.take k):=by simp [glf,List.map_take]
@[simp] theorem glf_all (n:Int) (R:GF):((glf n R).all fun x=>x.all IV.isData)=true:=by
  induction R with
  | nil=>rfl
  | cons x xs ih=>simp only [glf,List.map_cons,List.all_cons] at *;rw [ih];rfl
end Go.Idl
namespace Go.Idl
open Go
@[simp] theorem un_neg (n:Int):Op.unary .neg (.int .i64 n)=.pure (.int .i64 (IntKind.i64.wrap (-n))):=by
  rw [← Int.zero_sub];rfl
def gs (r c:List Int) (i:Nat):Int:=-((fall r).take (i+1)).sum+(c.map fun x:Int=>min x ((i:Int)+1)).sum
end Go.Idl
namespace Go.Idl
open Go
def TT (n:Nat) (t:List (List Int)):Prop:=t.length=n∧∀ r ∈ t,r.length=n∧∀ x ∈ r,0≤x∧x≤1
theorem TT.set {n:Nat} {t:List (List Int)} (h:TT n t) {a b:Nat} {v:Int} (ha:a < t.length) (hv:0≤v∧v≤1):TT n (t.set a (t[a].set b v)):=by
  refine ⟨by simpa using h.1,fun r hr=>?_⟩
  have h1:=h.2 _ (List.getElem_mem ha)
  rcases List.mem_or_eq_of_mem_set hr with hr | rfl
  · exact h.2 r hr
  · refine ⟨by simpa using h1.1,fun x hx=>?_⟩
    rcases List.mem_or_eq_of_mem_set hx with hx | rfl
    · exact h1.2 x hx
    · exact hv
end Go.Idl
namespace Go.Idl
open Go
def MM (h w:Nat) (t:List (List Int)):Prop:=t.length=h∧∀ r ∈ t,r.length=w∧∀ x ∈ r,0≤x∧x≤1
end Go.Idl
namespace Go.Idl
open Go
theorem MM.sums {h w:Nat} {t:List (List Int)} (ht:MM h w t) (hw:w≤5):∀ x ∈ t.map List.sum,0≤x∧x≤5:=by
  intro x hx
  obtain ⟨r,hr,rfl⟩:=List.mem_map.1 hx
  have h1:=ht.2 r hr
  have:=sum01 r h1.2
  omega
end Go.Idl
namespace Go.Idl
open Go
@[simp] theorem sws_rep (n:Nat):List.replicate n [IV.sc (.int .i64 0),IV.sc (.int .i64 0),IV.sc (.int .i64 0),IV.sc (.int .i64 0)]=sws (List.replicate n (0,0,0,0)):=by simp [sws]
@[simp] theorem sws_set (xs:List Q4) (i:Nat) (a b c d:Int):(sws xs).set i [IV.sc (.int .i64 a),IV.sc (.int .i64 b),IV.sc (.int .i64 c),IV.sc (.int .i64 d)]=sws (xs.set i (a,b,c,d)):=by
  simp [sws,List.map_set]
end Go.Idl
namespace Go.Idl
open Go
theorem ev_impl_JointDegrees_no (n:Int) (es:List (Int×Int)) (c:Bool) (hf:Fit es) (hl:es.length≤100000000) (h:vGraph n es=false):Ev tb zl189 [] [Gr n es c] [] ⟨O [],[],[],[]⟩ :=
  ev_impl_JointDegrees_of n es c [] (ev_impl_JointOf_no n es c hf hl h) (by simp) (by simp) (fun _=>by simp [endsR])
theorem jdL_len {n:Nat} {es:List (Int×Int)} (h:vGraph n es=true):∀ m:Nat,(jdL (jS n es) m).length≤n * m
  | 0=>by simp [jdL]
  | m+1=>by
    rw [jdL_count h,List.length_append,List.length_replicate,Nat.mul_succ]
    have h1:=(ends_q h m).2
    have h2:=jdL_len h m
    omega
end Go.Idl
namespace Go.Idl
open Go
theorem ev_DrawJointDegrees (code:List Int) (c:Bool) (h:∀ x ∈ code,0≤x∧x≤255) (hl:code.length≤10000000) :
    ∃ (n:Int) (es:List (Int×Int)),SmallG n es∧limF tb zl564 [] [.lst 1 (bytes code) c] []=some ⟨Gr n es false,[],[],[]⟩:=by
  obtain ⟨c',e⟩:=ev_newReader code c [[[I 0,Z]]] (by omega)
  have e1:=ev_lim e
  obtain ⟨n,es,k,h1,h2,e2⟩:=ev_someGraph (code.take 2000) c' (code_ok h) 0 (by omega) [[I 0,Z]] [] []
  refine ⟨n,es,h1,ev_lim ?_⟩
  rw [show ((0:Nat):Int)=0 from rfl] at e2
  simp only [List.length_cons,List.length_nil,List.cons_append,List.nil_append,Nat.zero_add] at e2
  refine call_of_wp zt564 rfl ?_
  repeat (first|apply wp_as|apply wp_ss|refine wr (by simp [e1,e2];with_reducible rfl) ?_|refine wq (by simp [e1,e2];with_reducible rfl) ?_|refine wt (by simpa [e1,e2]) ?_|refine wf (by simpa [e1,e2]) ?_|refine xt (by simpa [e1,e2]) ?_|refine xf (by simpa [e1,e2]) ?_|apply wp_bs|apply wp_b|refine wp_sr ?_|refine wp_sx ?_|refine wp_ret' ?_|refine wp_skip' ?_|refine wp_exit' ?_)
  simp [zi564]
theorem eqI_no (xs:List Int) (c:Bool):Ev tb zl53 [] [.lst 1 [] c,Z] [] ⟨Bo true,[],[],[]⟩:=by
  refine call_of_wp zt53 rfl ?_
  repeat (first|apply wp_as|apply wp_ss|refine wr (by simp;with_reducible rfl) ?_|refine wq (by simp;with_reducible rfl) ?_|refine wt (by simpa) ?_|refine wf (by simpa) ?_|refine xt (by simpa) ?_|refine xf (by simpa) ?_|apply wp_bs|apply wp_b|refine wp_sr ?_|refine wp_sx ?_|refine wp_ret' ?_|refine wp_skip' ?_|refine wp_exit' ?_)
  refine wp_loop ?_
  repeat (first|apply wp_as|apply wp_ss|refine wr (by simp;with_reducible rfl) ?_|refine wq (by simp;with_reducible rfl) ?_|refine wt (by simpa) ?_|refine wf (by simpa) ?_|refine xt (by simpa) ?_|refine xf (by simpa) ?_|apply wp_bs|apply wp_b|refine wp_sr ?_|refine wp_sx ?_|refine wp_ret' ?_|refine wp_skip' ?_|refine wp_exit' ?_)
  simp [zi53]
def posN (l:List Int):Nat:=(l.takeWhile fun x=>decide (0 < x)).length
theorem posN_lt {l:List Int} {i:Nat} (h:i < posN l):∃ hi:i < l.length,0 < l[i]:=by
  have h1:posN l≤l.length:=(List.takeWhile_prefix _).length_le
  refine ⟨by omega,?_⟩
  have h2:(l.takeWhile fun x=>decide (0 < x))[i]'h ∈ l.takeWhile fun x=>decide (0 < x):=List.getElem_mem _
  have h3:=List.all_eq_true.1 (List.all_takeWhile (p:=fun x:Int=>decide (0 < x)) (l:=l)) _ h2
  have h4:(l.takeWhile fun x=>decide (0 < x))[i]'h=l[i]:=(List.takeWhile_prefix _).getElem h
  rw [h4] at h3
  exact of_decide_eq_true h3
theorem posN_end:∀ {l:List Int} (h:posN l < l.length),¬ 0 < l[posN l]
  | [],h=>by simp at h
  | x::l,h=>by
    by_cases hx:0 < x
    · have e:posN (x::l)=posN l+1:=by simp [posN,List.takeWhile_cons,hx]
      have h':posN l < l.length:=by rw [e] at h;simpa using h
      have:=posN_end h'
      simp only [e,List.getElem_cons_succ]
      exact this
    · have e:posN (x::l)=0:=by simp [posN,List.takeWhile_cons,hx]
      simp only [e,List.getElem_cons_zero]
      exact hx
theorem ev_FnJointDegrees (law:∀ (n:Nat) es,vGraph n es=true→jdL (jS n es) (n - 1)=(fall (degs n es)).take (posN (fall (degs n es)))) (code:List Int) (c:Bool) (h:∀ x ∈ code,0≤x∧x≤255) :
    Ev tb zl535 [] [.lst 1 (bytes code) c] [] ⟨Bo true,[],[],[]⟩:=by
  by_cases hc:(1048576:Int) < code.length
  · refine call_of_wp zt535 rfl ?_
    repeat (first|apply wp_as|apply wp_ss|refine wr (by simp [hc];with_reducible rfl) ?_|refine wq (by simp [hc];with_reducible rfl) ?_|refine wt (by simpa [hc]) ?_|refine wf (by simpa [hc]) ?_|refine xt (by simpa [hc]) ?_|refine xf (by simpa [hc]) ?_|apply wp_bs|apply wp_b|refine wp_sr ?_|refine wp_sx ?_|refine wp_ret' ?_|refine wp_skip' ?_|refine wp_exit' ?_)
    simp [zi535]
  obtain ⟨n,es,hS,e1⟩:=ev_DrawJointDegrees code c h (by omega)
  have hlen:=hS.len
  have v1:=ev_lim (ev_ValidGraph n es false hS.fit (by omega))
  cases hv:vGraph n es with
  | false =>
    have e2:limF tb zl189 [] [Gr n es false] []=some ⟨.own 1 [],[],[],[]⟩:=ev_lim (ev_impl_JointDegrees_no n es false hS.fit (by omega) hv)
    have e3:=ev_lim (ev_spec_JointDegrees_no n es false (by omega) hv)
    have e4:=fun c=>ev_lim (eqI_no [] c)
    refine call_of_wp zt535 rfl ?_
    repeat (first|apply wp_as|apply wp_ss|refine wr (by simp [hc,e1,e2,e3,e4,v1,hv];with_reducible rfl) ?_|refine wq (by simp [hc,e1,e2,e3,e4,v1,hv];with_reducible rfl) ?_|refine wt (by simpa [hc,e1,e2,e3,e4,v1,hv]) ?_|refine wf (by simpa [hc,e1,e2,e3,e4,v1,hv]) ?_|refine xt (by simpa [hc,e1,e2,e3,e4,v1,hv]) ?_|refine xf (by simpa [hc,e1,e2,e3,e4,v1,hv]) ?_|apply wp_bs|apply wp_b|refine wp_sr ?_|refine wp_sx ?_|refine wp_ret' ?_|refine wp_skip' ?_|refine wp_exit' ?_)
    simp [zi535]
  | true =>
  have hn:=vG_n hv
  obtain ⟨n,rfl⟩:=Int.eq_ofNat_of_zero_le hn.1
  have hn7:=(vG_iff.1 hv).2.2
  have hdl:=degs_len n es
  have hgr:=degs_graphic hv
  have hvd:valid (degs n es)=true:=by simp only [graphic,Bool.and_eq_true] at hgr;exact hgr.1.1
  have hl:=law n es hv
  have hGl:=jdL_len hv (n - 1)
  have hGm:n * (n - 1)≤7 * 7:=Nat.mul_le_mul hn7 (by omega)
  have e2:=ev_lim (ev_impl_JointDegrees n es false hv)
  have e3:=ev_lim (ev_spec_JointDegrees n es false hv)
  have e5:=ev_lim (ev_impl_DegreesOf n es false hS.fit (by omega) hv)
  have e6:=ev_lim (ev_SortDegrees (degs n es) false hvd)
  have hFl:=fall_len (degs n es)
  generalize jdL (jS n es) (n - 1)=G at *
  generalize fall (degs n es)=F at *
  have e4:=fun c d=>ev_lim (ev_equalInts G G c d (by omega) (by omega))
  have hpl:posN F≤F.length:=(List.takeWhile_prefix _).length_le
  have loop:∀ (m i:Nat) (bs:Boxes),i+m=posN F→wp tb (.loop z535l11) { T:=[(4,O G),(5,O F),(6,I i)],loc:=bs,M:=[] }
      (fun ex st=>ex=.exit 0∧st={ T:=[(4,O G),(5,O F),(6,I (posN F)),(41,Bo false)],loc:=bs,M:=[] }):=by
    intro m
    induction m with
    | zero =>
      intro i bs hi
      have h3:i=posN F:=hi
      subst h3
      by_cases hp:posN F < F.length
      · have h0:=posN_end hp
        refine wp_loop ?_
        repeat (first|apply wp_as|apply wp_ss|refine wr (by simp [hp,h0];with_reducible rfl) ?_|refine wq (by simp [hp,h0];with_reducible rfl) ?_|refine wt (by simpa [hp,h0]) ?_|refine wf (by simpa [hp,h0]) ?_|refine xt (by simpa [hp,h0]) ?_|refine xf (by simpa [hp,h0]) ?_|apply wp_bs|apply wp_b|refine wp_sr ?_|refine wp_sx ?_|refine wp_ret' ?_|refine wp_skip' ?_|refine wp_exit' ?_)
        simp
      · refine wp_loop ?_
        repeat (first|apply wp_as|apply wp_ss|refine wr (by simp [hp];with_reducible rfl) ?_|refine wq (by simp [hp];with_reducible rfl) ?_|refine wt (by simpa [hp]) ?_|refine wf (by simpa [hp]) ?_|refine xt (by simpa [hp]) ?_|refine xf (by simpa [hp]) ?_|apply wp_bs|apply wp_b|refine wp_sr ?_|refine wp_sx ?_|refine wp_ret' ?_|refine wp_skip' ?_|refine wp_exit' ?_)
        simp
    | succ m ih =>
      intro i bs hi
      obtain ⟨hi2,hi3⟩:=posN_lt (l:=F) (i:=i) (by omega)
      have hg:=ih (i+1) bs (by omega)
      have w1:IntKind.i64.wrap ((i:Int)+1)=((i+1:Nat):Int):=wrapS (by omega)
      refine wp_loop ?_
      repeat (first|apply wp_as|apply wp_ss|refine wr (by simp [hi2,hi3,w1];with_reducible rfl) ?_|refine wq (by simp [hi2,hi3,w1];with_reducible rfl) ?_|refine wt (by simpa [hi2,hi3,w1]) ?_|refine wf (by simpa [hi2,hi3,w1]) ?_|refine xt (by simpa [hi2,hi3,w1]) ?_|refine xf (by simpa [hi2,hi3,w1]) ?_|apply wp_bs|apply wp_b|refine wp_sr ?_|refine wp_sx ?_|refine wp_ret' ?_|refine wp_skip' ?_|refine wp_exit' ?_)
      exact hg
  have hlo:=fun bs=>loop (posN F) 0 bs (by omega)
  refine call_of_wp zt535 rfl ?_
  repeat (first|apply wp_as|apply wp_ss|refine wr (by simp [hc,e1,e2,e3,e4,v1,hv,e5,e6];with_reducible rfl) ?_|refine wq (by simp [hc,e1,e2,e3,e4,v1,hv,e5,e6];with_reducible rfl) ?_|refine wt (by simpa [hc,e1,e2,e3,e4,v1,hv,e5,e6]) ?_|refine wf (by simpa [hc,e1,e2,e3,e4,v1,hv,e5,e6]) ?_|refine xt (by simpa [hc,e1,e2,e3,e4,v1,hv,e5,e6]) ?_|refine xf (by simpa [hc,e1,e2,e3,e4,v1,hv,e5,e6]) ?_|apply wp_bs|apply wp_b|refine wp_sr ?_|refine wp_sx ?_|refine wp_ret' ?_|refine wp_skip' ?_|refine wp_exit' ?_)
  refine wp_imp (hlo _) ?_
  rintro ex st ⟨rfl,rfl⟩
  try simp only [if_true]
  repeat (first|apply wp_as|apply wp_ss|refine wr (by simp [hpl,← hl,e4];with_reducible rfl) ?_|refine wq (by simp [hpl,← hl,e4];with_reducible rfl) ?_|refine wt (by simpa [hpl,← hl,e4]) ?_|refine wf (by simpa [hpl,← hl,e4]) ?_|refine xt (by simpa [hpl,← hl,e4]) ?_|refine xf (by simpa [hpl,← hl,e4]) ?_|apply wp_bs|apply wp_b|refine wp_sr ?_|refine wp_sx ?_|refine wp_ret' ?_|refine wp_skip' ?_|refine wp_exit' ?_)
  simp [zi535]
end Go.Idl
namespace Go.Idl
theorem tw_filter:∀ {l:List Int},Desc l→(l.takeWhile fun x=>decide (0 < x))=l.filter fun x=>decide (0 < x)
  | [],_=>rfl
  | x::l,h=>by
    have h':=List.pairwise_cons.1 h
    by_cases hx:0 < x
    · rw [List.takeWhile_cons,List.filter_cons,if_pos (by simpa using hx),if_pos (by simpa using hx),tw_filter h'.2]
    · rw [List.takeWhile_cons,List.filter_cons,if_neg (by simpa using hx),if_neg (by simpa using hx)]
      symm
      rw [List.filter_eq_nil_iff]
      intro y hy
      have:=h'.1 y hy
      simp only [decide_eq_true_eq]
      omega
theorem jdL_cnt {n:Nat} {es:List (Int×Int)} (h:vGraph n es=true) (a:Int):∀ m:Nat,(jdL (jS n es) m).count a=if 1≤a∧a≤m then (degs n es).count a else 0
  | 0=>by rw [if_neg (by omega)];rfl
  | m+1=>by
    rw [jdL_count h,List.count_append,jdL_cnt h a m,List.count_replicate]
    by_cases ha:a=((m+1:Nat):Int)
    · subst ha
      rw [if_pos (by simp),if_neg (by omega),if_pos (by omega)]
      omega
    · rw [if_neg (by simpa using fun e=>ha e.symm)]
      by_cases hb:1≤a∧a≤(m:Int)
      · rw [if_pos hb,if_pos (by omega)];omega
      · rw [if_neg hb,if_neg (by omega)]
theorem jdL_desc {n:Nat} {es:List (Int×Int)} (h:vGraph n es=true):∀ m:Nat,Desc (jdL (jS n es) m)∧∀ x ∈ jdL (jS n es) m,x≤m
  | 0=>⟨.nil,by simp [jdL]⟩
  | m+1=>by
    obtain ⟨h1,h2⟩:=jdL_desc h m
    rw [jdL_count h]
    refine ⟨?_,fun x hx=>?_⟩
    · show List.Pairwise _ _
      rw [List.pairwise_append]
      refine ⟨List.pairwise_replicate.2 (.inr (Int.le_refl _)),h1,fun x hx y hy=>?_⟩
      have:=(List.mem_replicate.1 hx).2
      have:=h2 y hy
      omega
    · rw [List.mem_append] at hx
      rcases hx with hx | hx
      · rw [(List.mem_replicate.1 hx).2];exact Int.le_refl _
      · have:=h2 x hx;omega
theorem jdLaw (n:Nat) (es:List (Int×Int)) (h:vGraph n es=true):jdL (jS n es) (n - 1)=(fall (degs n es)).take (posN (fall (degs n es))):=by
  have ht:(fall (degs n es)).take (posN (fall (degs n es)))=(fall (degs n es)).filter fun x=>decide (0 < x):=by
    rw [← tw_filter (fall_desc _)]
    exact (List.prefix_iff_eq_take.1 (List.takeWhile_prefix _)).symm
  rw [ht]
  refine desc_unique (jdL_desc h _).1 ((fall_desc (degs n es)).filter _) ?_
  rw [List.perm_iff_count]
  intro a
  rw [jdL_cnt h]
  by_cases ha:0 < a
  · rw [List.count_filter (by simpa using ha),(fall_perm (degs n es)).count_eq]
    by_cases hb:a≤((n - 1:Nat):Int)
    · rw [if_pos (by omega)]
    · rw [if_neg (by omega)]
      obtain ⟨k,rfl⟩:=Int.eq_ofNat_of_zero_le (Int.le_of_lt ha)
      exact (cnt_great h (by omega)).symm
  · rw [if_neg (by omega)]
    symm
    rw [List.count_eq_zero]
    intro hm
    have:=(List.mem_filter.1 hm).2
    simp only [decide_eq_true_eq] at this
    omega
end Go.Idl
