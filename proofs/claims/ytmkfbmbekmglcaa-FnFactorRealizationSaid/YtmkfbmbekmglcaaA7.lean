/- Part 7 of a proof by an ideal interpreter of the code: its definitions and lemmas. Conditions: none. -/
import Derived.KernelRfl
import Derived.Test.YtmkfbmbekmglcaaA6
set_option linter.all false
set_option linter.unusedVariables false
set_option linter.unusedSimpArgs false
namespace Go.Idl
open Go
theorem subs_len:∀ (r:List (Int×Int)) (left:List Int) (ch:List (Int×Int)),(subs r left ch).length≤2 ^ r.length
  | [],left,ch=>by rw [subs];split <;> simp
  | e::r,left,ch=>by
    have h1:=subs_len r (decAt (decAt left e.1.toNat) e.2.toNat) (ch++[e])
    have h2:=subs_len r left ch
    rw [subs,List.length_append,List.length_cons,Nat.pow_succ]
    split
    · omega
    · simp;omega
theorem upTo_true (l:List (List (Int×Int))):upTo (fun _=>true) l=(l,true):=by
  induction l with
  | nil=>rfl
  | cons g r ih=>simp [upTo,ih]
theorem upTo_len (more):∀ l:List (List (Int×Int)),(upTo more l).1.length≤l.length
  | []=>by simp [upTo]
  | g::r=>by
    have:=upTo_len more r
    rw [upTo]
    split
    · simp;exact this
    · simp
theorem decAt_len (o:List Int) (i:Nat):(decAt o i).length=o.length:=by simp [decAt]
theorem sg_walk (n:Int) (e0:Nat) (from_:List (Int×Int)) (c:Bool) (F:Lab) (caps:List IV) (more:List (Int×Int)→Bool) (P:List (List (Int×Int))→Boxes→Prop) (hcb:CallsBack n F caps more P) (N:Nat)
    (hfr:∀ e ∈ from_,0≤e.1∧e.1 < e.2∧e.2 < N) (hfl:from_.length≤900) (hN:N≤1000) (he0:e0=2 ∨ from_=[]):∀ (m i:Nat) (left:List Int) (ch:IV) (chosen:List (Int×Int)) (gl:List (List (Int×Int))) (bs:Boxes) (Es:List Boxes),i+m=from_.length→P gl bs→EdRep ch chosen →
    left.length=N→(∀ x ∈ left,x≤1000)→chosen.length+m≤950→gl.length+2 ^ m≤10000000 →
    ∃ ch' bs',EdRep ch' chosen∧P (gl++(upTo more (subs (from_.drop i) left chosen)).1) bs' ∧
      Ev tb zl219 [] (I i::capsW) (bs::boxW n e0 from_ c F caps left ch::Es) ⟨Bo (upTo more (subs (from_.drop i) left chosen)).2,[],bs'::boxW n e0 from_ c F caps left ch'::Es,[]⟩:=by
  intro m
  induction m with
  | zero =>
    intro i left ch chosen gl bs Es hi hP hch hl hlb hcl hgl
    have h3:i=from_.length:=hi
    subst h3
    rw [List.drop_length]
    exact sg_end n e0 from_ c F caps more P hcb N hN hfl left ch chosen gl bs Es hP (by omega) hch hl (by omega)
  | succ m ih =>
    intro i left ch chosen gl bs Es hi hP hch hl hlb hcl hgl
    have hi2:i < from_.length:=by omega
    have he2:e0=2:=he0.resolve_right fun h=>by rw [h] at hi2;simp at hi2
    subst he2
    have hd:from_.drop i=from_[i]::from_.drop (i+1):=List.drop_eq_getElem_cons hi2
    rw [Nat.pow_succ] at hgl
    obtain ⟨hf1,hf2,hf3⟩:=hfr _ (List.getElem_mem hi2)
    obtain ⟨p,hp⟩:=Int.eq_ofNat_of_zero_le hf1
    obtain ⟨q,hq⟩:=Int.eq_ofNat_of_zero_le (show 0≤from_[i].2 by omega)
    have hpl:p < left.length:=by omega
    have hql:q < left.length:=by omega
    have hpq:p ≠ q:=by omega
    have gp:left.getD p 0=left[p]:=by simp [List.getD_eq_getElem?_getD,List.getElem?_eq_getElem hpl]
    have gq:left.getD q 0=left[q]:=by simp [List.getD_eq_getElem?_getD,List.getElem?_eq_getElem hql]
    have he:from_[i]=((p:Int),(q:Int)):=Prod.ext hp hq
    rw [hd,subs]
    have tp:from_[i].1.toNat=p:=by omega
    have tq:from_[i].2.toNat=q:=by omega
    rw [tp,tq,gp,gq]
    by_cases hpos:0 < left[p]∧0 < left[q]
    rotate_left
    · rw [if_neg hpos,List.nil_append]
      obtain ⟨ch',bs',k1,k2,k3⟩:=ih (i+1) left ch chosen gl bs (Es++[[[I p,I q]]]) (by omega) hP hch hl hlb (by omega) (by omega)
      exact ⟨ch',bs',k1,k2,sg_skip n from_ c F caps i p q N hi2 hfl hp hq left hl (by omega) (by omega) hpos ch ch' bs bs' Es _ k3⟩
    · rw [if_pos hpos,he]
      have hD:=dec_ok hpl hql hpq
      have hlb2:∀ x ∈ decAt (decAt left p) q,x≤1000:=fun x hx=>by
        have one:∀ (o:List Int) (k:Nat),(∀ x ∈ o,x≤1000)→∀ x ∈ decAt o k,x≤1000:=fun o k ho x hx=>by
          rcases List.mem_or_eq_of_mem_set hx with hx | rfl
          · exact ho x hx
          · rw [List.getD_eq_getElem?_getD]
            cases ho2:o[k]? with
            | none=>simp
            | some y=>have:=ho y (List.mem_of_getElem? ho2);simp;omega
        exact one _ q (one _ p hlb) x hx
      obtain ⟨ch1,bs1,k1,k2,k3⟩:=ih (i+1) (decAt (decAt left p) q) (O2 (chosen++[((p:Int),(q:Int))])) (chosen++[((p:Int),(q:Int))]) gl bs (Es++[[[I p,I q]]]) (by omega) hP (.inl rfl) (by rw [decAt_len,decAt_len];exact hl) hlb2 (by simp;omega) (by omega)
      have hc1:ch1=O2 (chosen++[((p:Int),(q:Int))]):=by
        rcases k1 with k1 | ⟨k1,_⟩
        · exact k1
        · simp at k1
      subst hc1
      rw [upTo_app]
      obtain ⟨b1,hb1⟩:∃ b1,b1=(upTo more (subs (from_.drop (i+1)) (decAt (decAt left p) q) (chosen++[((p:Int),(q:Int))]))).2:=⟨_,rfl⟩
      rw [← hb1] at k3 ⊢
      have bp:=hlb _ (List.getElem_mem hpl)
      have bq:=hlb _ (List.getElem_mem hql)
      cases b1 with
      | false =>
        simp only [Bool.false_eq_true,if_false]
        rw [← hb1]
        refine ⟨O2 chosen,bs1,.inl rfl,k2,?_⟩
        exact sg_take n from_ c F caps i p q N hi2 hfl hp hq left _ _ _ hl (by omega) (by omega) hpl hql hD bp bq hpos.1 hpos.2 ch (O2 chosen) chosen hch (by omega) bs bs1 bs1 Es false false k3 (fun h=>by cases h) (fun _=>⟨rfl,rfl,rfl⟩)
      | true =>
        simp only [if_true]
        have hgl2:(gl++(upTo more (subs (from_.drop (i+1)) (decAt (decAt left p) q) (chosen++[((p:Int),(q:Int))]))).1).length+2 ^ m≤10000000:=by
          have h1:=upTo_len more (subs (from_.drop (i+1)) (decAt (decAt left p) q) (chosen++[((p:Int),(q:Int))]))
          have h2:=subs_len (from_.drop (i+1)) (decAt (decAt left p) q) (chosen++[((p:Int),(q:Int))])
          rw [List.length_drop,show from_.length - (i+1)=m by omega] at h2
          rw [List.length_append];omega
        obtain ⟨ch2,bs2,j1,j2,j3⟩:=ih (i+1) left (O2 chosen) chosen _ bs1 (Es++[[[I p,I q]]]) (by omega) k2 (.inl rfl) hl hlb (by omega) hgl2
        refine ⟨ch2,bs2,j1,by rw [← List.append_assoc];exact j2,?_⟩
        exact sg_take n from_ c F caps i p q N hi2 hfl hp hq left _ _ _ hl (by omega) (by omega) hpl hql hD bp bq hpos.1 hpos.2 ch ch2 chosen hch (by omega) bs bs1 bs2 Es true _ k3 (fun _=>j3) (fun h=>by cases h)
theorem ev_subgraphs (n:Int) (e0:Nat) (from_:List (Int×Int)) (c:Bool) (d:List Int) (cd:Bool) (F:Lab) (caps:List IV) (more:List (Int×Int)→Bool) (P:List (List (Int×Int))→Boxes→Prop) (hcb:CallsBack n F caps more P)
    (he0:e0=2 ∨ from_=[]) (hfr:∀ e ∈ from_,0≤e.1∧e.1 < e.2∧e.2 < d.length) (hfl:from_.length≤21) (hN:d.length≤1000) (hd:∀ x ∈ d,x≤1000) (bs:Boxes) (hP:P [] bs) :
    ∃ bs',P (upTo more (subs from_ d [])).1 bs'∧Ev tb zl218 [] [I n,.lst e0 (eds from_) c,L d cd,.fn F caps] [bs] ⟨.tup [],[],[bs'],[]⟩:=by
  obtain ⟨ch',bs',k1,k2,k3⟩:=sg_walk n e0 from_ c F caps more P hcb d.length hfr (by omega) hN he0 from_.length 0 d Z [] [] bs [] (by simp) hP (.inr ⟨rfl,rfl⟩) rfl hd (by simp;omega) (by
    have:=Nat.pow_le_pow_right (show 0 < 2 by decide) hfl
    simp only [List.length_nil];omega)
  refine ⟨bs',by simpa using k2,?_⟩
  have e1:=ev_lim k3
  have e2:=ev_lim (ev_clone d cd (by omega))
  simp only [boxW,capsW] at e1
  rw [show ((0:Nat):Int)=0 from rfl] at e1
  refine call_of_wp zt218 rfl ?_
  repeat (first|apply wp_as|apply wp_ss|refine wr (by simp [e1,e2];with_reducible rfl) ?_|refine wq (by simp [e1,e2];with_reducible rfl) ?_|refine wt (by simpa [e1,e2]) ?_|refine wf (by simpa [e1,e2]) ?_|refine xt (by simpa [e1,e2]) ?_|refine xf (by simpa [e1,e2]) ?_|apply wp_bs|apply wp_b|refine wp_sr ?_|refine wp_sx ?_|refine wp_ret' ?_|refine wp_skip' ?_|refine wp_exit' ?_)
  simp [zi218]
end Go.Idl
namespace Go.Idl
open Go
def gls (n:Int) (gl:List (List (Int×Int))):List (List IV):=gl.map fun es=>[I n,O2 es]
@[simp] theorem gls_len (n:Int) (gl):(gls n gl).length=gl.length:=by simp [gls]
@[simp] theorem gls_one (n:Int) (gl) (es:List (Int×Int)):gls n gl++[[IV.sc (.int .i64 n),.own 2 (eds es)]]=gls n (gl++[es]):=by simp [gls]
@[simp] theorem gls_emp (n:Int) (gl):(gls n gl).isEmpty=gl.isEmpty:=by cases gl <;> rfl
@[simp] theorem gls_take (n:Int) (gl) (k:Nat):(gls n gl).take k=gls n (gl.take k):=by simp [gls,List.map_take]
@[simp] theorem gls_all (n:Int) (gl):((gls n gl).all fun x=>x.all IV.isData)=true:=by
  induction gl with
  | nil=>rfl
  | cons x xs ih=>simp only [gls,List.map_cons,List.all_cons] at *;rw [ih];rfl
@[simp] theorem gls_noLst (n:Int) (gl):noLstLL (gls n gl)=true:=by
  induction gl with
  | nil=>rfl
  | cons x xs ih=>simp only [gls,List.map_cons,noLstLL,noLstL,noLstV,eds_noLst] at *;rw [ih];rfl
def ngl (n:Int):List (List (Int×Int))→IV
  | []=>Z
  | g::gl=>.own 2 (gls n (g::gl))
theorem all_F1 (n:Int) (gl:List (List (Int×Int))) (es:List (Int×Int)) (B:Boxes) (Es:List Boxes) (hl:gl.length≤100000000) :
    Ev tb zl148 [] [.agg [I n,O2 es],.bptr 0 0 0] ([[ngl n gl]]::B::Es) ⟨Bo true,[],[[ngl n (gl++[es])]]::B::Es,[]⟩:=by
  cases gl with
  | nil =>
    simp only [ngl,List.nil_append]
    refine call_of_wp zt148 rfl ?_
    repeat (first|apply wp_as|apply wp_ss|refine wr (by simp;with_reducible rfl) ?_|refine wq (by simp;with_reducible rfl) ?_|refine wt (by simpa) ?_|refine wf (by simpa) ?_|refine xt (by simpa) ?_|refine xf (by simpa) ?_|apply wp_bs|apply wp_b|refine wp_sr ?_|refine wp_sx ?_|refine wp_ret' ?_|refine wp_skip' ?_|refine wp_exit' ?_)
    simp [zi148,gls]
  | cons g gl =>
    simp only [ngl,List.cons_append]
    rw [← List.cons_append]
    have h1:gl.length+1+1≤274877906944:=by simp at hl;omega
    have h2:(gls n (g::gl)).take (gl.length+1)=gls n (g::gl):=List.take_of_length_le (by simp)
    refine call_of_wp zt148 rfl ?_
    repeat (first|apply wp_as|apply wp_ss|refine wr (by simp [h1,h2];with_reducible rfl) ?_|refine wq (by simp [h1,h2];with_reducible rfl) ?_|refine wt (by simpa [h1,h2]) ?_|refine wf (by simpa [h1,h2]) ?_|refine xt (by simpa [h1,h2]) ?_|refine xf (by simpa [h1,h2]) ?_|apply wp_bs|apply wp_b|refine wp_sr ?_|refine wp_sx ?_|refine wp_ret' ?_|refine wp_skip' ?_|refine wp_exit' ?_)
    simp [zi148]
theorem calls_all (n:Int):CallsBack n zl148 [.bptr 0 0 0] (fun _=>true) (fun gl bs=>bs=[[ngl n gl]]):=by
  intro gl bs es hP hl he
  exact ⟨[[ngl n (gl++[es])]],rfl,fun B Es=>by rw [hP];exact all_F1 n gl es B Es (by omega)⟩
theorem ev_listed (d:List Int) (c:Bool) (k:Int) (hl:d.length≤2000000):Ev tb zl213 [] [L d c,I k] [] ⟨Bo (valid d && decide ((d.length:Int)≤k)),[],[],[]⟩:=by
  have e1:=ev_lim (ev_ValidDegrees d c hl)
  cases hv:valid d with
  | false =>
    rw [hv] at e1
    refine call_of_wp zt213 rfl ?_
    repeat (first|apply wp_as|apply wp_ss|refine wr (by simp [e1];with_reducible rfl) ?_|refine wq (by simp [e1];with_reducible rfl) ?_|refine wt (by simpa [e1]) ?_|refine wf (by simpa [e1]) ?_|refine xt (by simpa [e1]) ?_|refine xf (by simpa [e1]) ?_|apply wp_bs|apply wp_b|refine wp_sr ?_|refine wp_sx ?_|refine wp_ret' ?_|refine wp_skip' ?_|refine wp_exit' ?_)
    simp [zi213]
  | true =>
    rw [hv] at e1
    refine call_of_wp zt213 rfl ?_
    repeat (first|apply wp_as|apply wp_ss|refine wr (by simp [e1];with_reducible rfl) ?_|refine wq (by simp [e1];with_reducible rfl) ?_|refine wt (by simpa [e1]) ?_|refine wf (by simpa [e1]) ?_|refine xt (by simpa [e1]) ?_|refine xf (by simpa [e1]) ?_|apply wp_bs|apply wp_b|refine wp_sr ?_|refine wp_sx ?_|refine wp_ret' ?_|refine wp_skip' ?_|refine wp_exit' ?_)
    simp [zi213]
theorem ev_ClipG (n:Int) (gl:List (List (Int×Int))):Ev tb zl259 [] [ngl n gl] [] ⟨ngl n gl,[],[],[]⟩:=by
  cases gl with
  | nil =>
    simp only [ngl]
    refine call_of_wp zt259 rfl ?_
    repeat (first|apply wp_as|apply wp_ss|refine wr (by simp;with_reducible rfl) ?_|refine wq (by simp;with_reducible rfl) ?_|refine wt (by simpa) ?_|refine wf (by simpa) ?_|refine xt (by simpa) ?_|refine xf (by simpa) ?_|apply wp_bs|apply wp_b|refine wp_sr ?_|refine wp_sx ?_|refine wp_ret' ?_|refine wp_skip' ?_|refine wp_exit' ?_)
    simp [zi259]
  | cons g gl =>
    simp only [ngl]
    have h2:(gls n (g::gl)).take (gl.length+1)=gls n (g::gl):=List.take_of_length_le (by simp)
    refine call_of_wp zt259 rfl ?_
    repeat (first|apply wp_as|apply wp_ss|refine wr (by simp [h2];with_reducible rfl) ?_|refine wq (by simp [h2];with_reducible rfl) ?_|refine wt (by simpa [h2]) ?_|refine wf (by simpa [h2]) ?_|refine xt (by simpa [h2]) ?_|refine xf (by simpa [h2]) ?_|apply wp_bs|apply wp_b|refine wp_sr ?_|refine wp_sx ?_|refine wp_ret' ?_|refine wp_skip' ?_|refine wp_exit' ?_)
    simp [zi259,h2]
theorem prs21:∀ n,n≤7→(prs n).length≤21:=by decide +kernel
def reals (d:List Int):List (List (Int×Int)):=subs (prs d.length) d []
theorem ev_AllRealizations (d:List Int) (c:Bool) (hv:valid d=true) (h5:d.length≤5):Ev tb zl147 [] [L d c] [] ⟨ngl d.length (reals d),[],[],[]⟩:=by
  have hf:=valid_few hv
  have e1:=ev_lim (ev_listed d c 5 (by omega))
  rw [hv,decide_eq_true (by omega:(d.length:Int)≤5),Bool.true_and] at e1
  have e2:=ev_lim (ev_impl_pairs d.length (by omega))
  have hpl:=prs21 d.length (by omega)
  have hin:∀ e ∈ prs d.length,0≤e.1∧e.1 < e.2∧e.2 < d.length:=fun e he=>mem_prs.1 he
  obtain ⟨bs',k1,k2⟩:∃ bs',(fun gl bs=>bs=[[ngl d.length gl]]) (upTo (fun _=>true) (reals d)).1 bs'∧Ev tb zl218 [] [I d.length,match nl2 (prs d.length) with | .own e x=>.lst e x false | x=>x,L d c,.fn zl148 [.bptr 0 0 0]] [[[Z]]] ⟨.tup [],[],[bs'],[]⟩:=by
    unfold reals
    cases hq:prs d.length with
    | nil=>exact ev_subgraphs d.length 0 [] true d c _ _ _ _ (calls_all d.length) (.inr rfl) (by simp) (by simp) (by omega) (fun x hx=>by have:=hf.2 x hx;omega) [[Z]] rfl
    | cons e r =>
      rw [hq] at hin hpl
      exact ev_subgraphs d.length 2 (e::r) false d c _ _ _ _ (calls_all d.length) (.inl rfl) hin hpl (by omega) (fun x hx=>by have:=hf.2 x hx;omega) [[Z]] rfl
  rw [upTo_true] at k1
  simp only at k1
  subst k1
  have e3:=ev_lim k2
  have e4:=ev_lim (ev_ClipG d.length (reals d))
  generalize reals d=gl at *
  cases hq:prs d.length with
  | nil =>
    rw [hq] at e2 e3
    simp only [nl2_nil] at e2 e3
    cases gl with
    | nil =>
      simp only [ngl] at e3 e4 ⊢
      refine call_of_wp zt147 rfl ?_
      repeat (first|apply wp_as|apply wp_ss|refine wr (by simp [e1,e2,e3,e4];with_reducible rfl) ?_|refine wq (by simp [e1,e2,e3,e4];with_reducible rfl) ?_|refine wt (by simpa [e1,e2,e3,e4]) ?_|refine wf (by simpa [e1,e2,e3,e4]) ?_|refine xt (by simpa [e1,e2,e3,e4]) ?_|refine xf (by simpa [e1,e2,e3,e4]) ?_|apply wp_bs|apply wp_b|refine wp_sr ?_|refine wp_sx ?_|refine wp_ret' ?_|refine wp_skip' ?_|refine wp_exit' ?_)
      simp [zi147]
    | cons g gl =>
      simp only [ngl] at e3 e4 ⊢
      refine call_of_wp zt147 rfl ?_
      repeat (first|apply wp_as|apply wp_ss|refine wr (by simp [e1,e2,e3,e4];with_reducible rfl) ?_|refine wq (by simp [e1,e2,e3,e4];with_reducible rfl) ?_|refine wt (by simpa [e1,e2,e3,e4]) ?_|refine wf (by simpa [e1,e2,e3,e4]) ?_|refine xt (by simpa [e1,e2,e3,e4]) ?_|refine xf (by simpa [e1,e2,e3,e4]) ?_|apply wp_bs|apply wp_b|refine wp_sr ?_|refine wp_sx ?_|refine wp_ret' ?_|refine wp_skip' ?_|refine wp_exit' ?_)
      simp [zi147]
  | cons e r =>
    rw [hq] at e2 e3
    simp only [nl2_cons] at e2 e3
    have hT:(e::r).take (r.length+1)=e::r:=List.take_of_length_le (by simp)
    cases gl with
    | nil =>
      simp only [ngl] at e3 e4 ⊢
      refine call_of_wp zt147 rfl ?_
      repeat (first|apply wp_as|apply wp_ss|refine wr (by simp [e1,e2,e3,e4,hT];with_reducible rfl) ?_|refine wq (by simp [e1,e2,e3,e4,hT];with_reducible rfl) ?_|refine wt (by simpa [e1,e2,e3,e4,hT]) ?_|refine wf (by simpa [e1,e2,e3,e4,hT]) ?_|refine xt (by simpa [e1,e2,e3,e4,hT]) ?_|refine xf (by simpa [e1,e2,e3,e4,hT]) ?_|apply wp_bs|apply wp_b|refine wp_sr ?_|refine wp_sx ?_|refine wp_ret' ?_|refine wp_skip' ?_|refine wp_exit' ?_)
      simp [zi147]
    | cons g gl =>
      simp only [ngl] at e3 e4 ⊢
      refine call_of_wp zt147 rfl ?_
      repeat (first|apply wp_as|apply wp_ss|refine wr (by simp [e1,e2,e3,e4,hT];with_reducible rfl) ?_|refine wq (by simp [e1,e2,e3,e4,hT];with_reducible rfl) ?_|refine wt (by simpa [e1,e2,e3,e4,hT]) ?_|refine wf (by simpa [e1,e2,e3,e4,hT]) ?_|refine xt (by simpa [e1,e2,e3,e4,hT]) ?_|refine xf (by simpa [e1,e2,e3,e4,hT]) ?_|apply wp_bs|apply wp_b|refine wp_sr ?_|refine wp_sx ?_|refine wp_ret' ?_|refine wp_skip' ?_|refine wp_exit' ?_)
      simp [zi147]
end Go.Idl
namespace Go.Idl
open Go
theorem ev_smallGraph (code:List Int) (c:Bool) (hc:CodeOk code) (cnt:Nat) (hn:cnt≤90000) (bs:Boxes) (Ms:List Boxes) :
    ∃ (n:Nat) (es:List (Int×Int)) (k:Nat),n≤5∧es.Sublist (prs n)∧k≤cnt+101 ∧
      limF tb zl375 [] [.bptr 0 0 0] ((R code c cnt::bs)::Ms)=some ⟨OG n es,[],(R code c k::bs)::Ms,[]⟩:=by
  obtain ⟨x,k1,hx,hk1,e1⟩:=one2 code c hc cnt (by omega) [5,4,5,3,2,1] (by simp) bs (Ms++[[[I 0,.lst 0 [] true]]])
  obtain ⟨n,rfl,hn7⟩:∃ n:Nat,x=(n:Int)∧n≤5:=by
    simp at hx
    exact ⟨x.toNat,by omega,by omega⟩
  obtain ⟨es,k,hs,hk,ea⟩:=ev_aGraph code c hc k1 (by omega) n (by omega) bs (Ms++[[[I 0,.lst 0 [] true]]])
  have e2:=ev_lim ea
  refine ⟨n,es,k,hn7,hs,by omega,ev_lim ?_⟩
  refine call_of_wp zt375 rfl ?_
  repeat (first|apply wp_as|apply wp_ss|refine wr (by simp [e1,e2];with_reducible rfl) ?_|refine wq (by simp [e1,e2];with_reducible rfl) ?_|refine wt (by simpa [e1,e2]) ?_|refine wf (by simpa [e1,e2]) ?_|refine xt (by simpa [e1,e2]) ?_|refine xf (by simpa [e1,e2]) ?_|apply wp_bs|apply wp_b|refine wp_sr ?_|refine wp_sx ?_|refine wp_ret' ?_|refine wp_skip' ?_|refine wp_exit' ?_)
  simp [zi375]
end Go.Idl
namespace Go.Idl
def insP (x:Nat×Nat):List (Nat×Nat)→List (Nat×Nat)
  | []=>[x]
  | y::r=>if Nat.ble y.1 x.1 then x::y::r else y::insP x r
def hh:Nat→List (Nat×Nat)→List (Nat×Nat)
  | 0,_=>[]
  | _+1,[]=>[]
  | m+1,x::r=>(r.take x.1).map (fun y:Nat×Nat=>(x.2,y.2))++hh m ((((r.take x.1).map (fun y:Nat×Nat=>(y.1 - 1,y.2))++r.drop x.1:List (Nat×Nat))).foldr insP [])
theorem getD_zero_all {left:List Int} {N:Nat} (hl:left.length=N):left.all (fun x=>decide (x=0))=true ↔ ∀ v,v < N→(0:Int)=left.getD v 0:=by
  rw [List.all_eq_true]
  constructor
  · intro h v hv
    rw [List.getD_eq_getElem?_getD,List.getElem?_eq_getElem (by omega)]
    have:=of_decide_eq_true (h _ (List.getElem_mem (show v < left.length by omega)))
    simp [this]
  · intro h x hx
    obtain ⟨v,hv,rfl⟩:=List.getElem_of_mem hx
    have:=h v (by omega)
    rw [List.getD_eq_getElem?_getD,List.getElem?_eq_getElem hv] at this
    simpa using this.symm
theorem decAt_get {o:List Int} {i v:Nat} (hv:v < o.length):(decAt o i).getD v 0=o.getD v 0 - (if i=v then 1 else 0):=by
  rw [decAt,List.getD_eq_getElem?_getD,List.getElem?_set]
  by_cases h:i=v
  · subst h;simp [hv,List.getD_eq_getElem?_getD]
  · simp [h,List.getD_eq_getElem?_getD]
theorem inc_nonneg (v:Nat) (e:Int×Int):0≤inc v e:=by simp only [inc];split <;> split <;> decide
theorem mem_subs {N:Nat}:∀ (r:List (Int×Int)) (left:List Int) (ch g:List (Int×Int)),(∀ e ∈ r,0≤e.1∧e.1 < e.2∧e.2 < N)→left.length=N →
    (g ∈ subs r left ch ↔ ∃ s:List (Int×Int),s.Sublist r∧g=ch++s∧∀ v,v < N→deg s v=left.getD v 0)
  | [],left,ch,g,_,hl=>by
    rw [subs]
    constructor
    · intro h
      split at h
      · rename_i hz
        simp at h
        subst h
        exact ⟨[],List.Sublist.refl _,by simp,fun v hv=>(getD_zero_all hl).1 hz v hv⟩
      · simp at h
    · rintro ⟨s,hs,rfl,hd⟩
      have:s=[]:=by simpa using hs
      subst this
      rw [if_pos ((getD_zero_all hl).2 fun v hv=>hd v hv)]
      simp
  | e::r,left,ch,g,hr,hl=>by
    have he:=hr e (by simp)
    have hr':∀ x ∈ r,0≤x.1∧x.1 < x.2∧x.2 < N:=fun x hx=>hr x (by simp [hx])
    have hdl:(decAt (decAt left e.1.toNat) e.2.toNat).length=N:=by simp [decAt,hl]
    have hget:∀ v,v < N→(decAt (decAt left e.1.toNat) e.2.toNat).getD v 0=left.getD v 0 - inc v e:=fun v hv=>by
      rw [decAt_get (by simp [decAt];omega),decAt_get (by omega),inc]
      have c1:(e.1.toNat=v)=(e.1=(v:Int)):=by rw [eq_iff_iff];omega
      have c2:(e.2.toNat=v)=(e.2=(v:Int)):=by rw [eq_iff_iff];omega
      simp only [c1,c2];omega
    rw [subs,List.mem_append]
    constructor
    · rintro (h | h)
      · split at h
        rotate_left
        · simp at h
        obtain ⟨s,hs,rfl,hd⟩:=(mem_subs r _ _ g hr' hdl).1 h
        refine ⟨e::s,hs.cons_cons e,by simp,fun v hv=>?_⟩
        have h1:=hd v hv
        rw [hget v hv] at h1
        rw [deg,S_cons]
        have h2:S s (inc v)=left.getD v 0 - inc v e:=h1
        rw [h2];omega
      · obtain ⟨s,hs,rfl,hd⟩:=(mem_subs r _ _ g hr' hl).1 h
        exact ⟨s,hs.cons e,rfl,hd⟩
    · rintro ⟨s,hs,rfl,hd⟩
      rcases List.sublist_cons_iff.1 hs with hs2 | ⟨s',rfl,hs2⟩
      · exact .inr ((mem_subs r _ _ _ hr' hl).2 ⟨s,hs2,rfl,hd⟩)
      · refine .inl ?_
        have hd':∀ v,v < N→inc v e+deg s' v=left.getD v 0:=fun v hv=>by
          rw [← hd v hv,deg,deg,S_cons]
        have pos:∀ x:Int,0≤x→x < N→(e.1=x ∨ e.2=x)→0 < left.getD x.toNat 0:=fun x h0 h1 h2=>by
          have h3:=hd' x.toNat (by omega)
          have h4:0≤deg s' x.toNat:=S_nonneg fun y _=>inc_nonneg _ y
          have h5:1≤inc x.toNat e:=by
            simp only [inc,show ((x.toNat:Nat):Int)=x by omega]
            rcases h2 with h2 | h2
            · rw [if_pos h2];split <;> decide
            · rw [if_pos h2];split <;> decide
          omega
        rw [if_pos ⟨pos e.1 (by omega) (by omega) (.inl rfl),pos e.2 (by omega) (by omega) (.inr rfl)⟩]
        refine (mem_subs r _ _ _ hr' hdl).2 ⟨s',hs2,by simp,fun v hv=>?_⟩
        rw [hget v hv,← hd' v hv];omega
theorem ite_iff {α:Type} {p q:Prop} [Decidable p] [Decidable q] (h:p ↔ q) (a b:α):(if p then a else b)=if q then a else b:=by
  by_cases hp:p
  · rw [if_pos hp,if_pos (h.1 hp)]
  · rw [if_neg hp,if_neg fun hq=>hp (h.2 hq)]
def mk (u v:Nat):Int×Int:=(min (u:Int) v,max (u:Int) v)
theorem inc_mk_all:(List.range 8).all (fun n=>(prs n).all fun e=>(List.range n).all fun v=>decide (inc v e=S (List.range n) (fun u=>if u=v then 0 else if e=mk u v then 1 else 0)))=true:=by decide +kernel
theorem inc_mk {n:Nat} (hn:n≤7) {e:Int×Int} (he:e ∈ prs n) {v:Nat} (hv:v < n):inc v e=S (List.range n) (fun u=>if u=v then 0 else if e=mk u v then 1 else 0):=by
  have:=List.all_eq_true.1 (List.all_eq_true.1 (List.all_eq_true.1 inc_mk_all n (List.mem_range.2 (by omega))) e he) v (List.mem_range.2 hv)
  exact of_decide_eq_true this
theorem S_ite {α:Type} (l:List α) (p:α→Bool) (f:α→Int):S (l.filter p) f=S l (fun a=>if p a then f a else 0):=by
  induction l with
  | nil=>rfl
  | cons a l ih =>
    rw [List.filter_cons,S_cons]
    split <;> rename_i h
    · rw [S_cons,ih]
    · rw [ih];omega
theorem mk_mem {n u v:Nat} (hu:u < n) (hv:v < n) (h:u ≠ v):mk u v ∈ prs n:=mem_prs.2 (by simp only [mk];omega)
theorem deg_filter {n:Nat} (hn:n≤7) (p:Int×Int→Bool) {v:Nat} (hv:v < n):deg ((prs n).filter p) v=S (List.range n) (fun u=>if u=v then 0 else if p (mk u v) then 1 else 0):=by
  rw [deg,S_ite,S_congr (g:=fun e=>S (List.range n) (fun u=>if u=v then 0 else if e=mk u v then (if p (mk u v) then 1 else 0) else 0)) fun e he=>?_,S_swap]
  · refine S_congr fun u hu=>?_
    have hu:=List.mem_range.1 hu
    by_cases huv:u=v
    · simp only [huv,if_true];exact S_zero _
    · simp only [if_neg huv]
      have hm:=mk_mem hu hv huv
      have h1:=S_one (pw_nodup (prs_pw n)) (mk u v)
      rw [if_pos hm] at h1
      by_cases hp:p (mk u v)=true
      · simp only [hp,if_true]
        exact Eq.trans (S_congr fun e _=>ite_iff eq_comm _ _) h1
      · simp only [if_neg hp,ite_self];exact S_zero _
  · rw [inc_mk hn he hv]
    by_cases hp:p e=true
    · rw [if_pos hp]
      refine S_congr fun u _=>?_
      by_cases huv:u=v
      · simp [huv]
      · simp only [if_neg huv]
        by_cases hem:e=mk u v
        · rw [if_pos hem,if_pos hem,← hem,if_pos hp]
        · rw [if_neg hem,if_neg hem]
    · rw [if_neg hp]
      symm
      rw [S_congr (g:=fun _=>0),S_zero]
      intro u _
      by_cases huv:u=v
      · simp [huv]
      · simp only [if_neg huv]
        by_cases hem:e=mk u v
        · rw [if_pos hem,← hem,if_neg hp]
        · rw [if_neg hem]
theorem mk_comm (u v:Nat):mk u v=mk v u:=Prod.ext (by simp only [mk];omega) (by simp only [mk];omega)
end Go.Idl
namespace Go.Idl
theorem deg_degs {n:Nat} {s:List (Int×Int)} (hs:s.Sublist (prs n)) {d:List Int} (hl:d.length=n):(∀ v,v < n→deg s v=d.getD v 0) ↔ degs n s=d:=by
  rw [degs_eq (prs_in hs)]
  constructor
  · intro h
    refine List.ext_getElem (by simp [hl]) fun v h1 h2=>?_
    rw [List.getElem_map,List.getElem_range,h v (by omega),List.getD_eq_getElem?_getD,List.getElem?_eq_getElem h2];rfl
  · intro h v hv
    rw [← h,List.getD_eq_getElem?_getD,List.getElem?_map,List.getElem?_range hv];rfl
theorem mem_reals {d:List Int} (h7:d.length≤7) (g:List (Int×Int)):g ∈ reals d ↔ vGraph d.length g=true∧degs d.length g=d:=by
  rw [reals,mem_subs (N:=d.length) _ _ _ _ (fun e he=>mem_prs.1 he) rfl]
  constructor
  · rintro ⟨s,hs,rfl,hd⟩
    exact ⟨vG_iff.2 ⟨(prs_pw _).sublist hs,fun e he=>hs.mem he,h7⟩,(deg_degs hs rfl).1 hd⟩
  · rintro ⟨h1,h2⟩
    exact ⟨g,vG_sub h1,rfl,(deg_degs (vG_sub h1) rfl).2 h2⟩
end Go.Idl
namespace Go.Idl
def insC {α:Type} (lt:α→α→Bool) (x:α):List α→List α→List α
  | [],B=>x::B
  | a::r,B=>if lt x a then insC lt x r (a::B) else r.reverse++a::x::B
def srtC {α:Type} (lt:α→α→Bool):List α→List α→List α
  | S,[]=>S
  | S,x::r=>srtC lt (insC lt x S.reverse []) r
end Go.Idl
namespace Go.Idl
structure Seg {α:Type} (X X':List α) (a b:Nat):Prop where
  perm:X'.Perm X
  out:∀ k,k < a ∨ b≤k→X'[k]? = X[k]?
theorem Seg.len {α:Type} {X X':List α} {a b:Nat} (h:Seg X X' a b):X'.length=X.length:=h.perm.length_eq
theorem Seg.refl {α:Type} (X:List α) (a b:Nat):Seg X X a b:=⟨.refl _,fun _ _=>rfl⟩
theorem Seg.trans {α:Type} {X Y Z:List α} {a b:Nat} (h:Seg X Y a b) (k:Seg Y Z a b):Seg X Z a b:=⟨k.perm.trans h.perm,fun i hi=>(k.out i hi).trans (h.out i hi)⟩
theorem Seg.mono {α:Type} {X Y:List α} {a b a' b':Nat} (h:Seg X Y a b) (h1:a'≤a) (h2:b≤b'):Seg X Y a' b':=⟨h.perm,fun i hi=>h.out i (by omega)⟩
theorem Seg.nodup {α:Type} {X Y:List α} {a b:Nat} (h:Seg X Y a b) (hn:X.Nodup):Y.Nodup:=h.perm.nodup_iff.2 hn
def swapL {α:Type} (X:List α) (i j:Nat) (hi:i < X.length) (hj:j < X.length):List α:=(X.set i X[j]).set j X[i]
theorem swapL_len {α:Type} (X:List α) (i j:Nat) (hi hj):(swapL X i j hi hj).length=X.length:=by simp [swapL]
theorem swapL_get {α:Type} (X:List α) (i j:Nat) (hi:i < X.length) (hj:j < X.length) (k:Nat):(swapL X i j hi hj)[k]? = if k=j then some X[i] else if k=i then some X[j] else X[k]?:=by
  rw [swapL,List.getElem?_set,List.getElem?_set]
  by_cases h1:k=j
  · subst h1;simp [hj]
  · by_cases h2:k=i
    · subst h2;simp [hi,h1,Ne.symm h1]
    · simp [h1,h2,Ne.symm h1,Ne.symm h2]
theorem swapL_perm {α:Type} (X:List α) (i j:Nat) (hi:i < X.length) (hj:j < X.length):(swapL X i j hi hj).Perm X:=by
  exact List.set_set_perm hi hj
theorem swapL_seg {α:Type} (X:List α) (i j a b:Nat) (hi:i < X.length) (hj:j < X.length) (h1:a≤i∧i < b) (h2:a≤j∧j < b):Seg X (swapL X i j hi hj) a b :=
  ⟨swapL_perm X i j hi hj,fun k hk=>by rw [swapL_get,if_neg (by omega),if_neg (by omega)]⟩
theorem Seg.back {α:Type} {X Y:List α} {a b:Nat} (h:Seg X Y a b) (hn:X.Nodup) {k:Nat} (hk:a≤k∧k < b) {e:α} (he:Y[k]? = some e):∃ l,(a≤l∧l < b)∧X[l]? = some e:=by
  have hm:e ∈ X:=h.perm.mem_iff.1 (List.mem_of_getElem? he)
  obtain ⟨l,hl,rfl⟩:=List.getElem_of_mem hm
  by_cases hlb:a≤l∧l < b
  · exact ⟨l,hlb,List.getElem?_eq_getElem hl⟩
  · have h1:=h.out l (by omega)
    rw [List.getElem?_eq_getElem hl] at h1
    have hny:=h.nodup hn
    have hkl:k < Y.length:=(List.getElem?_eq_some_iff.1 he).1
    have hll:l < Y.length:=by rw [h.len];exact hl
    have h2:=(List.getElem?_eq_some_iff.1 he).2
    have h3:=(List.getElem?_eq_some_iff.1 h1).2
    have h4:k=l:=(List.getElem_inj hny).1 (h2.trans h3.symm)
    omega
end Go.Idl
namespace Go.Idl
open Go
def BelowOn (X:List (Int×Int)) (lo hi:Nat) (x:Int×Int):Prop:=∀ k e,lo≤k→k < hi→X[k]? = some e→below e x=true
def AboveOn (X:List (Int×Int)) (lo hi:Nat) (x:Int×Int):Prop:=∀ k e,lo≤k→k < hi→X[k]? = some e→below e x=false
theorem AboveOn.cons {X:List (Int×Int)} {lo hi:Nat} {x:Int×Int} (h:AboveOn X (lo+1) hi x) (hl:lo < X.length) (hb:below X[lo] x=false):AboveOn X lo hi x:=fun k e h1 h2 he=>by
  by_cases hk:k=lo
  · subst hk
    rw [List.getElem?_eq_getElem hl] at he
    cases he;exact hb
  · exact h k e (by omega) h2 he
structure PInv (X0 X:List (Int×Int)) (a b i j:Nat) (x:Int×Int):Prop where
  seg:Seg X0 X a b
  piv:X[a]? = some x
  lo:BelowOn X (a+1) i x
  hi:AboveOn X (j+1) b x
  ai:a+1≤i
  ij:i≤j+1
  jb:j < b
  bl:b≤X.length
theorem PInv.al {X0 X a b i j x} (h:PInv X0 X a b i j x):a < X.length:=(List.getElem?_eq_some_iff.1 h.piv).1
theorem PInv.xa {X0 X a b i j x} (h:PInv X0 X a b i j x):X[a]'h.al=x:=(List.getElem?_eq_some_iff.1 h.piv).2
theorem PInv.swap {X0 X a b i j x} (h:PInv X0 X a b i j x) (hi:i < X.length) (hj:j < X.length) (hij:i≤j) (h1:below X[i] x=false) (h2:below X[j] x=true) :
    ∃ q,j=q+1∧i < j∧PInv X0 (swapL X i j hi hj) a b (i+1) q x:=by
  have hne:i ≠ j:=by rintro rfl;rw [h1] at h2;cases h2
  have hb:=h.bl
  have hjb:=h.jb
  have hai:=h.ai
  refine ⟨j - 1,by omega,by omega,h.seg.trans (swapL_seg X i j a b hi hj (by omega) (by omega)),?_,?_,?_,by omega,by omega,by omega,by rw [swapL_len];exact hb⟩
  · rw [swapL_get,if_neg (by omega),if_neg (by omega)];exact h.piv
  · intro k e k1 k2 he
    rw [swapL_get,if_neg (by omega)] at he
    by_cases hk:k=i
    · rw [if_pos hk] at he
      cases he;exact h2
    · rw [if_neg hk] at he
      exact h.lo k e k1 (by omega) he
  · intro k e k1 k2 he
    rw [swapL_get] at he
    by_cases hk:k=j
    · rw [if_pos hk] at he
      cases he;exact h1
    · rw [if_neg hk,if_neg (by omega)] at he
      exact h.hi k e (by omega) k2 he
theorem PInv.fin {X0 X a b j x} (h:PInv X0 X a b (j+1) j x) (hj:j < X.length):Seg X0 (swapL X j a hj h.al) a b∧(swapL X j a hj h.al)[j]? = some x∧BelowOn (swapL X j a hj h.al) a j x∧AboveOn (swapL X j a hj h.al) (j+1) b x:=by
  have hb:=h.bl
  have hjb:=h.jb
  have hai:=h.ai
  have hxa:=h.xa
  refine ⟨h.seg.trans (swapL_seg X j a a b hj h.al (by omega) (by omega)),?_,fun k e k1 k2 he=>?_,fun k e k1 k2 he=>?_⟩
  · rw [swapL_get]
    by_cases hja:j=a
    · subst hja;rw [if_pos rfl,hxa]
    · rw [if_neg hja,if_pos rfl,hxa]
  · rw [swapL_get] at he
    by_cases hka:k=a
    · rw [if_pos hka] at he
      cases he
      exact h.lo j _ (by omega) (by omega) (List.getElem?_eq_getElem hj)
    · rw [if_neg hka,if_neg (by omega)] at he
      exact h.lo k e (by omega) (by omega) he
  · rw [swapL_get,if_neg (by omega),if_neg (by omega)] at he
    exact h.hi k e k1 k2 he
end Go.Idl
namespace Go.Idl
open Go
def srtE (X:List (Int×Int)):List (Int×Int):=srtC below [] X
end Go.Idl
namespace Go.Idl
open Go
def idxE (p:Int×Int→Bool) (i:Int):List (Int×Int)→Int
  | []=>-1
  | x::xs=>if p x then i else idxE p (i+1) xs
theorem idxE_spec (p:Int×Int→Bool):∀ (xs:List (Int×Int)) (i:Nat),(idxE p i xs=-1∧∀ x ∈ xs,p x=false) ∨ ∃ k:Nat,∃ h:k < xs.length,idxE p i xs=((i+k:Nat):Int)∧p xs[k]=true∧∀ x ∈ xs.take k,p x=false
  | [],i=>.inl ⟨rfl,by simp⟩
  | x::r,i=>by
    cases hp:p x with
    | true=>exact .inr ⟨0,by simp,by simp [idxE,hp],hp,by simp⟩
    | false =>
      rcases idxE_spec p r (i+1) with ⟨h1,h2⟩ | ⟨k,hk,h1,h2,h3⟩
      · refine .inl ⟨?_,fun y hy=>?_⟩
        · simp only [idxE,hp,Bool.false_eq_true,if_false];exact h1
        · rcases List.mem_cons.1 hy with rfl | hy
          · exact hp
          · exact h2 y hy
      · refine .inr ⟨k+1,by simp;exact hk,?_,h2,fun y hy=>?_⟩
        · simp only [idxE,hp,Bool.false_eq_true,if_false]
          rw [show ((i:Int)+1)=((i+1:Nat):Int) by omega,h1];omega
        · rw [List.take_succ_cons] at hy
          rcases List.mem_cons.1 hy with rfl | hy
          · exact hp
          · exact h3 y hy
end Go.Idl
namespace Go.Idl
open Go
def apart (a b c d:Int):Bool:=decide (a ≠ b) && decide (a ≠ c) && decide (a ≠ d) && decide (b ≠ c) && decide (b ≠ d) && decide (c ≠ d)
def gone (a b c d:Int) (x:Int×Int):Bool:=decide (x=(min a b,max a b)) || decide (x=(min c d,max c d))
end Go.Idl
namespace Go.Idl
open Go
def swX (es:List (Int×Int)) (a b c d:Int):List (Int×Int):=es.filter (fun x=>!gone a b c d x)++[(min a c,max a c),(min b d,max b d)]
def sw (es:List (Int×Int)) (a b c d:Int):List (Int×Int):=srtE (swX es a b c d)
theorem vG21 {n:Nat} (hn:n≤7) {es:List (Int×Int)} (h:vGraph n es=true):es.length≤21:=by
  have h1:=(vG_sub h).length_le
  have h2:∀ n,n≤7→(prs n).length≤21:=by decide +kernel
  have:=h2 _ hn
  omega
end Go.Idl
namespace Go.Idl
open Go
def insE (e:Int×Int):List (Int×Int)→List (Int×Int)
  | []=>[e]
  | x::r=>if below x e then x::insE e r else e::x::r
theorem insE_at (e:Int×Int) (es:List (Int×Int)) (k:Nat) (hk:k≤es.length) (h:∀ x ∈ es.take k,below x e=true) (hs:∀ h:k < es.length,below es[k] e=false) :
    insE e es=es.take k++[e]++es.drop k:=by
  induction es generalizing k with
  | nil=>simp at hk;subst hk;rfl
  | cons x r ih =>
    cases k with
    | zero =>
      have:=hs (by simp)
      simp only [List.getElem_cons_zero] at this
      simp [insE,this]
    | succ k =>
      have h1:=h x (by simp)
      rw [insE,if_pos h1,ih k (by simpa using hk) (fun y hy=>h y (by simp [hy])) (fun hh=>hs (by simpa using hh))]
      simp
theorem insE_len (e:Int×Int) (es:List (Int×Int)):(insE e es).length=es.length+1:=by
  induction es with
  | nil=>rfl
  | cons x r ih=>rw [insE];split <;> simp [ih]
theorem ev_addEdge (n:Int) (es:List (Int×Int)) (c:Bool) (a b:Int) (hl:es.length≤2000000) :
    Ev tb zl335 [] [Gr n es c,I a,I b] [] ⟨OG n (insE (min a b,max a b) es),[],[],[]⟩:=by
  obtain ⟨e,he⟩:∃ e:Int×Int,e=(min a b,max a b):=⟨_,rfl⟩
  have he1:(if b < a then b else a)=e.1:=by rw [he];simp only;split <;> omega
  have he2:(if a < b then b else a)=e.2:=by rw [he];simp only;split <;> omega
  rw [← he]
  have loop:∀ (m k:Nat),k+m=es.length→(∀ x ∈ es.take k,below x e=true)→wp tb (.loop z335l5) { T:=[(3,.bptr 0 0 0),(6,.bptr 0 1 0),(7,.bptr 0 2 0),(8,I k)],loc:=[[I n,L2 es c],[I 0,Z],[I e.1,I e.2]],M:=[] }
      (fun ex st=>ex=.exit 0∧∃ k:Nat,(k≤es.length∧(∀ x ∈ es.take k,below x e=true)∧(∀ h:k < es.length,below es[k] e=false)) ∧
        st={ T:=[(3,.bptr 0 0 0),(6,.bptr 0 1 0),(7,.bptr 0 2 0),(8,I k),(30,Bo false)],loc:=[[I n,L2 es c],[I 0,Z],[I e.1,I e.2]],M:=[] }):=by
    intro m
    induction m with
    | zero =>
      intro k hk hb
      have h3:k=es.length:=hk
      subst h3
      refine wp_loop ?_
      repeat (first|apply wp_as|apply wp_ss|refine wr (by simp;with_reducible rfl) ?_|refine wq (by simp;with_reducible rfl) ?_|refine wt (by simpa) ?_|refine wf (by simpa) ?_|refine xt (by simpa) ?_|refine xf (by simpa) ?_|apply wp_bs|apply wp_b|refine wp_sr ?_|refine wp_sx ?_|refine wp_ret' ?_|refine wp_skip' ?_|refine wp_exit' ?_)
      exact ⟨rfl,es.length,⟨Nat.le_refl _,hb,fun h=>absurd h (by omega)⟩,rfl⟩
    | succ m ih =>
      intro k hk hb
      have hi2:k < es.length:=by omega
      have w2:IntKind.i64.wrap ((k:Int)+1)=((k+1:Nat):Int):=wrapS (by omega)
      have e1:=ev_lim (ev_edgeBelow es[k] e)
      cases hq:below es[k] e with
      | true =>
        refine wp_loop ?_
        repeat (first|apply wp_as|apply wp_ss|refine wr (by simp [hi2,e1,hq,w2];with_reducible rfl) ?_|refine wq (by simp [hi2,e1,hq,w2];with_reducible rfl) ?_|refine wt (by simpa [hi2,e1,hq,w2]) ?_|refine wf (by simpa [hi2,e1,hq,w2]) ?_|refine xt (by simpa [hi2,e1,hq,w2]) ?_|refine xf (by simpa [hi2,e1,hq,w2]) ?_|apply wp_bs|apply wp_b|refine wp_sr ?_|refine wp_sx ?_|refine wp_ret' ?_|refine wp_skip' ?_|refine wp_exit' ?_)
        refine ih (k+1) (by omega) fun x hx=>?_
        rw [List.take_succ_eq_append_getElem hi2] at hx
        rcases List.mem_append.1 hx with hx | hx
        · exact hb x hx
        · simp at hx;subst hx;exact hq
      | false =>
        refine wp_loop ?_
        repeat (first|apply wp_as|apply wp_ss|refine wr (by simp [hi2,e1,hq];with_reducible rfl) ?_|refine wq (by simp [hi2,e1,hq];with_reducible rfl) ?_|refine wt (by simpa [hi2,e1,hq]) ?_|refine wf (by simpa [hi2,e1,hq]) ?_|refine xt (by simpa [hi2,e1,hq]) ?_|refine xf (by simpa [hi2,e1,hq]) ?_|apply wp_bs|apply wp_b|refine wp_sr ?_|refine wp_sx ?_|refine wp_ret' ?_|refine wp_skip' ?_|refine wp_exit' ?_)
        exact ⟨rfl,k,⟨by omega,hb,fun _=>hq⟩,rfl⟩
  refine call_of_wp zt335 rfl ?_
  repeat (first|apply wp_as|apply wp_ss|refine wr (by simp [he1,he2];with_reducible rfl) ?_|refine wq (by simp [he1,he2];with_reducible rfl) ?_|refine wt (by simpa [he1,he2]) ?_|refine wf (by simpa [he1,he2]) ?_|refine xt (by simpa [he1,he2]) ?_|refine xf (by simpa [he1,he2]) ?_|apply wp_bs|apply wp_b|refine wp_sr ?_|refine wp_sx ?_|refine wp_ret' ?_|refine wp_skip' ?_|refine wp_exit' ?_)
  refine wp_imp (loop es.length 0 (by simp) (by simp)) ?_
  rintro ex st ⟨rfl,k,⟨hk,hb,hs⟩,rfl⟩
  rw [insE_at e es k hk hb hs]
  try simp only [if_true]
  have hT:es.take es.length=es:=List.take_of_length_le (Nat.le_refl _)
  have hT2:(es.drop k).take (es.length - k)=es.drop k:=List.take_of_length_le (by simp)
  have hT3:(es.take k).take k=es.take k:=by rw [List.take_take,Nat.min_self]
  have hl1:k≤274877906943:=by omega
  have hl2:k≤274877906944:=by omega
  have hl3:k+1≤274877906944:=by omega
  have hl4:k+1+(es.length - k)≤274877906944:=by omega
  have hT4:(es.take k++[(e.1,e.2)]).take (k+1)=es.take k++[(e.1,e.2)]:=List.take_of_length_le (by simp;omega)
  have hmin:min k es.length=k:=by omega
  repeat (first|apply wp_as|apply wp_ss|refine wr (by simp [hk,hT,hT2,hT3,hl1,hl2,hl3,hl4,hT4,hmin];with_reducible rfl) ?_|refine wq (by simp [hk,hT,hT2,hT3,hl1,hl2,hl3,hl4,hT4,hmin];with_reducible rfl) ?_|refine wt (by simpa [hk,hT,hT2,hT3,hl1,hl2,hl3,hl4,hT4,hmin]) ?_|refine wf (by simpa [hk,hT,hT2,hT3,hl1,hl2,hl3,hl4,hT4,hmin]) ?_|refine xt (by simpa [hk,hT,hT2,hT3,hl1,hl2,hl3,hl4,hT4,hmin]) ?_|refine xf (by simpa [hk,hT,hT2,hT3,hl1,hl2,hl3,hl4,hT4,hmin]) ?_|apply wp_bs|apply wp_b|refine wp_sr ?_|refine wp_sx ?_|refine wp_ret' ?_|refine wp_skip' ?_|refine wp_exit' ?_)
  refine wp_ra (by simp [hk,hT,hT2,hT3,hl1,hl2,hl3,hl4,hT4,hmin];with_reducible rfl) (by simp;with_reducible rfl) ?_ ?_
  · intro p hp
    simp only [List.mem_cons,List.not_mem_nil,or_false] at hp
    rcases hp with rfl | rfl | rfl | rfl | rfl | rfl | rfl | rfl | rfl | rfl | rfl
    · exact ⟨_,by simp [hk,hT,hT2,hT3,hl1,hl2,hl3,hl4,hT4,hmin];with_reducible rfl,by simp⟩
    · exact ⟨_,by simp [hk,hT,hT2,hT3,hl1,hl2,hl3,hl4,hT4,hmin];with_reducible rfl,by simp⟩
    · exact ⟨_,by simp [hk,hT,hT2,hT3,hl1,hl2,hl3,hl4,hT4,hmin];with_reducible rfl,by simp⟩
    · exact ⟨_,by simp [hk,hT,hT2,hT3,hl1,hl2,hl3,hl4,hT4,hmin];with_reducible rfl,by simp⟩
    · exact ⟨_,by simp [hk,hT,hT2,hT3,hl1,hl2,hl3,hl4,hT4,hmin];with_reducible rfl,by simp⟩
    · exact ⟨_,by simp [hk,hT,hT2,hT3,hl1,hl2,hl3,hl4,hT4,hmin];with_reducible rfl,by simp⟩
    · exact ⟨_,by simp [hk,hT,hT2,hT3,hl1,hl2,hl3,hl4,hT4,hmin];with_reducible rfl,by simp⟩
    · exact ⟨_,by simp [hk,hT,hT2,hT3,hl1,hl2,hl3,hl4,hT4,hmin];with_reducible rfl,by simp⟩
    · exact ⟨_,by simp [hk,hT,hT2,hT3,hl1,hl2,hl3,hl4,hT4,hmin];with_reducible rfl,by simp⟩
    · exact ⟨_,by simp [hk,hT,hT2,hT3,hl1,hl2,hl3,hl4,hT4,hmin];with_reducible rfl,by simp⟩
    · exact ⟨_,by simp [hk,hT,hT2,hT3,hl1,hl2,hl3,hl4,hT4,hmin];with_reducible rfl,by simp⟩
  repeat (first|apply wp_as|apply wp_ss|refine wr (by simp;with_reducible rfl) ?_|refine wq (by simp;with_reducible rfl) ?_|refine wt (by simpa) ?_|refine wf (by simpa) ?_|refine xt (by simpa) ?_|refine xf (by simpa) ?_|apply wp_bs|apply wp_b|refine wp_sr ?_|refine wp_sx ?_|refine wp_ret' ?_|refine wp_skip' ?_|refine wp_exit' ?_)
  simp [zi335]
end Go.Idl
namespace Go.Idl
open Go
def srS (n:Nat) (es:List (Int×Int)) (left:List Int):List (Int×Int)→List (List (Int×Int))
  | []=>if left.sum=0 then [es] else []
  | e::r=>(if 0 < left.getD e.1.toNat 0∧0 < left.getD e.2.toNat 0 then srS n (insE e es) (decAt (decAt left e.1.toNat) e.2.toNat) r else []) ++
     (if e.2+1 < n ∨ left.getD e.1.toNat 0=0 then srS n es left r else [])
theorem srS_len (n:Nat):∀ (r:List (Int×Int)) (es:List (Int×Int)) (left:List Int),(srS n es left r).length≤2 ^ r.length
  | [],es,left=>by rw [srS];split <;> simp
  | e::r,es,left=>by
    have h1:=srS_len n r (insE e es) (decAt (decAt left e.1.toNat) e.2.toNat)
    have h2:=srS_len n r es left
    rw [srS,List.length_append,List.length_cons,Nat.pow_succ]
    split <;> split <;> simp <;> omega
abbrev GF:=List (List (Int×Int)×Bool)
def glf (n:Int) (R:GF):List (List IV):=R.map fun x=>[I n,L2 x.1 x.2]
@[simp] theorem glf_len (n:Int) (R:GF):(glf n R).length=R.length:=by simp [glf]
@[simp] theorem glf_nil (n:Int):glf n []=[]:=rfl
@[simp] theorem glf_app (n:Int) (R S:GF):glf n R++glf n S=glf n (R++S):=by simp [glf]
@[simp] theorem glf_take (n:Int) (R:GF) (k:Nat):(glf n R).take k=glf n (R.take k):=by simp [glf,List.map_take]
@[simp] theorem glf_all (n:Int) (R:GF):((glf n R).all fun x=>x.all IV.isData)=true:=by
  induction R with
  | nil=>rfl
  | cons x xs ih=>simp only [glf,List.map_cons,List.all_cons] at *;rw [ih];rfl
set_option maxHeartbeats 4000000 in
theorem ev_search (n:Nat) (hn:n≤7) (all:List (Int×Int)) (hal:all.length≤21) (hall:∀ e ∈ all,0≤e.1∧e.1 < e.2∧e.2 < n) :
    ∀ (m k:Nat) (es:List (Int×Int)) (c c2 c3:Bool) (left:List Int),k+m=all.length→es.length≤k→left.length=n→(∀ x ∈ left,0≤x∧x≤6) →
    ∃ R:GF,R.map Prod.fst=srS n es left (all.drop k)∧Ev tb zl373 [] [Gr n es c,L left c2,L2 all c3,I k] [] ⟨.own 2 (glf n R),[],[],[]⟩:=by
  intro m
  induction m with
  | zero =>
    intro k es c c2 c3 left hk hes hl hb
    have h3:k=all.length:=hk
    subst h3
    have hss:SmallSum left:=Few.small ⟨by omega,fun x hx=>by have:=hb x hx;omega⟩
    have e1:=fun c=>ev_lim (ev_spec_sum left c hss)
    rw [List.drop_length,srS]
    by_cases h0:left.sum=0
    · rw [if_pos h0]
      refine ⟨[(es,c)],rfl,?_⟩
      refine call_of_wp zt373 rfl ?_
      repeat (first|apply wp_as|apply wp_ss|refine wr (by simp [e1,h0];with_reducible rfl) ?_|refine wq (by simp [e1,h0];with_reducible rfl) ?_|refine wt (by simpa [e1,h0]) ?_|refine wf (by simpa [e1,h0]) ?_|refine xt (by simpa [e1,h0]) ?_|refine xf (by simpa [e1,h0]) ?_|apply wp_bs|apply wp_b|refine wp_sr ?_|refine wp_sx ?_|refine wp_ret' ?_|refine wp_skip' ?_|refine wp_exit' ?_)
      simp [zi373,glf]
    · rw [if_neg h0]
      refine ⟨[],rfl,?_⟩
      refine call_of_wp zt373 rfl ?_
      repeat (first|apply wp_as|apply wp_ss|refine wr (by simp [e1,h0];with_reducible rfl) ?_|refine wq (by simp [e1,h0];with_reducible rfl) ?_|refine wt (by simpa [e1,h0]) ?_|refine wf (by simpa [e1,h0]) ?_|refine xt (by simpa [e1,h0]) ?_|refine xf (by simpa [e1,h0]) ?_|apply wp_bs|apply wp_b|refine wp_sr ?_|refine wp_sx ?_|refine wp_ret' ?_|refine wp_skip' ?_|refine wp_exit' ?_)
      simp [zi373]
  | succ m ih =>
    intro k es c c2 c3 left hk hes hl hb
    have hk2:k < all.length:=by omega
    have hkn:¬ k=all.length:=by omega
    have hd:all.drop k=all[k]::all.drop (k+1):=List.drop_eq_getElem_cons hk2
    obtain ⟨⟨x,y⟩,he⟩:∃ e,e=all[k]:=⟨_,rfl⟩
    have hxy:=hall _ (List.getElem_mem hk2)
    rw [← he] at hxy
    obtain ⟨a,rfl⟩:=Int.eq_ofNat_of_zero_le hxy.1
    obtain ⟨b,rfl⟩:=Int.eq_ofNat_of_zero_le (show 0≤y by simp only at hxy;omega)
    simp only at hxy
    have he2:=he.symm
    have hal2:a < left.length:=by omega
    have hbl2:b < left.length:=by omega
    have ga:left.getD a 0=left[a]:=by simp [List.getD_eq_getElem?_getD,List.getElem?_eq_getElem hal2]
    have gb:left.getD b 0=left[b]:=by simp [List.getD_eq_getElem?_getD,List.getElem?_eq_getElem hbl2]
    have ba:=hb _ (List.getElem_mem hal2)
    have bb:=hb _ (List.getElem_mem hbl2)
    have hab:¬ a=b:=by omega
    have w1:IntKind.i64.wrap ((k:Int)+1)=((k+1:Nat):Int):=wrapS (by omega)
    have w2:IntKind.i64.wrap ((b:Int)+1)=(b:Int)+1:=wrap64 (by omega) (by omega)
    have w3:IntKind.i64.wrap (left[a] - 1)=left[a] - 1:=wrap64 (by omega) (by omega)
    have w4:IntKind.i64.wrap (left[b] - 1)=left[b] - 1:=wrap64 (by omega) (by omega)
    have e2:=fun c=>ev_lim (ev_copyInts left c (by omega))
    have e3:=fun c=>ev_lim (ev_addEdge n es c a b (by omega))
    have hmn:((min (a:Int) b,max (a:Int) b):Int×Int)=((a:Int),(b:Int)):=by
      rw [Int.min_eq_left (by omega),Int.max_eq_right (by omega)]
    rw [hmn] at e3
    have hd2:decAt (decAt left a) b=(left.set a (left[a] - 1)).set b (left[b] - 1):=by
      have h1:decAt left a=left.set a (left[a] - 1):=by rw [decAt,ga]
      have h2:(left.set a (left[a] - 1)).getD b 0=left[b]:=by
        rw [List.getD_eq_getElem?_getD,List.getElem?_set_ne hab,List.getElem?_eq_getElem hbl2];rfl
      rw [h1,decAt,h2]
    rw [hd,← he,srS,Int.toNat_natCast,Int.toNat_natCast,ga,gb,hd2]
    have h2p:(2:Nat) ^ (all.drop (k+1)).length≤2 ^ 21:=Nat.pow_le_pow_right (by omega) (by simp;omega)
    have hL1:=srS_len n (all.drop (k+1)) (insE ((a:Int),(b:Int)) es) ((left.set a (left[a] - 1)).set b (left[b] - 1))
    have hL2:=srS_len n (all.drop (k+1)) es left
    by_cases h1:0 < left[a]
    · by_cases h2:0 < left[b]
      · rw [if_pos ⟨h1,h2⟩]
        obtain ⟨R1,hR1,E1⟩:=ih (k+1) (insE ((a:Int),(b:Int)) es) false false c3 ((left.set a (left[a] - 1)).set b (left[b] - 1)) (by omega) (by rw [insE_len];omega) (by simp [hl]) (fun x hx=>by
          rcases List.mem_or_eq_of_mem_set hx with hx | rfl
          · rcases List.mem_or_eq_of_mem_set hx with hx | rfl
            · exact hb x hx
            · omega
          · omega)
        have l1:R1.length≤2097152:=by rw [← List.length_map (f:=Prod.fst),hR1];omega
        have E1:=ev_lim E1
        rw [show ((k+1:Nat):Int)=(k:Int)+1 by omega] at E1
        by_cases h3:(b:Int)+1 < n ∨ left[a]=0
        · rw [if_pos h3]
          have h3':(b:Int)+1 < n:=by omega
          obtain ⟨R2,hR2,E2⟩:=ih (k+1) es c c2 c3 left (by omega) (by omega) hl hb
          have l2:R2.length≤2097152:=by rw [← List.length_map (f:=Prod.fst),hR2];omega
          have E2:=ev_lim E2
          rw [show ((k+1:Nat):Int)=(k:Int)+1 by omega] at E2
          refine ⟨R1++R2,by rw [List.map_append,hR1,hR2],?_⟩
          have q1:R1.length≤274877906944:=by omega
          have q2:R1.length+R2.length≤274877906944:=by omega
          have t1:R1.take R1.length=R1:=List.take_of_length_le (Nat.le_refl _)
          have t2:(R1++R2).take (R1.length+R2.length)=R1++R2:=List.take_of_length_le (by simp)
          refine call_of_wp zt373 rfl ?_
          repeat (first|apply wp_as|apply wp_ss|refine wr (by simp [hk2,hkn,Int.ofNat_inj,he2,hal2,hbl2,h1,h2,e2,e3,w1,w2,w3,w4,hab,E1,E2,h3',q1,q2,t1,t2];with_reducible rfl) ?_|refine wq (by simp [hk2,hkn,Int.ofNat_inj,he2,hal2,hbl2,h1,h2,e2,e3,w1,w2,w3,w4,hab,E1,E2,h3',q1,q2,t1,t2];with_reducible rfl) ?_|refine wt (by simpa [hk2,hkn,Int.ofNat_inj,he2,hal2,hbl2,h1,h2,e2,e3,w1,w2,w3,w4,hab,E1,E2,h3',q1,q2,t1,t2]) ?_|refine wf (by simpa [hk2,hkn,Int.ofNat_inj,he2,hal2,hbl2,h1,h2,e2,e3,w1,w2,w3,w4,hab,E1,E2,h3',q1,q2,t1,t2]) ?_|refine xt (by simpa [hk2,hkn,Int.ofNat_inj,he2,hal2,hbl2,h1,h2,e2,e3,w1,w2,w3,w4,hab,E1,E2,h3',q1,q2,t1,t2]) ?_|refine xf (by simpa [hk2,hkn,Int.ofNat_inj,he2,hal2,hbl2,h1,h2,e2,e3,w1,w2,w3,w4,hab,E1,E2,h3',q1,q2,t1,t2]) ?_|apply wp_bs|apply wp_b|refine wp_sr ?_|refine wp_sx ?_|refine wp_ret' ?_|refine wp_skip' ?_|refine wp_exit' ?_)
          simp [zi373]
        · rw [if_neg h3]
          have h3':¬ (b:Int)+1 < n:=by omega
          have h3'':¬ left[a]=0:=by omega
          refine ⟨R1,by rw [hR1,List.append_nil],?_⟩
          have q1:R1.length≤274877906944:=by omega
          have t1:R1.take R1.length=R1:=List.take_of_length_le (Nat.le_refl _)
          refine call_of_wp zt373 rfl ?_
          repeat (first|apply wp_as|apply wp_ss|refine wr (by simp [hk2,hkn,Int.ofNat_inj,he2,hal2,hbl2,h1,h2,e2,e3,w1,w2,w3,w4,hab,E1,h3',h3'',q1,t1];with_reducible rfl) ?_|refine wq (by simp [hk2,hkn,Int.ofNat_inj,he2,hal2,hbl2,h1,h2,e2,e3,w1,w2,w3,w4,hab,E1,h3',h3'',q1,t1];with_reducible rfl) ?_|refine wt (by simpa [hk2,hkn,Int.ofNat_inj,he2,hal2,hbl2,h1,h2,e2,e3,w1,w2,w3,w4,hab,E1,h3',h3'',q1,t1]) ?_|refine wf (by simpa [hk2,hkn,Int.ofNat_inj,he2,hal2,hbl2,h1,h2,e2,e3,w1,w2,w3,w4,hab,E1,h3',h3'',q1,t1]) ?_|refine xt (by simpa [hk2,hkn,Int.ofNat_inj,he2,hal2,hbl2,h1,h2,e2,e3,w1,w2,w3,w4,hab,E1,h3',h3'',q1,t1]) ?_|refine xf (by simpa [hk2,hkn,Int.ofNat_inj,he2,hal2,hbl2,h1,h2,e2,e3,w1,w2,w3,w4,hab,E1,h3',h3'',q1,t1]) ?_|apply wp_bs|apply wp_b|refine wp_sr ?_|refine wp_sx ?_|refine wp_ret' ?_|refine wp_skip' ?_|refine wp_exit' ?_)
          simp [zi373]
      · rw [if_neg (fun h=>h2 h.2)]
        by_cases h3:(b:Int)+1 < n ∨ left[a]=0
        · rw [if_pos h3]
          have h3':(b:Int)+1 < n:=by omega
          obtain ⟨R2,hR2,E2⟩:=ih (k+1) es c c2 c3 left (by omega) (by omega) hl hb
          have l2:R2.length≤2097152:=by rw [← List.length_map (f:=Prod.fst),hR2];omega
          have E2:=ev_lim E2
          rw [show ((k+1:Nat):Int)=(k:Int)+1 by omega] at E2
          refine ⟨R2,by rw [hR2,List.nil_append],?_⟩
          have q1:R2.length≤274877906944:=by omega
          have t1:R2.take R2.length=R2:=List.take_of_length_le (Nat.le_refl _)
          refine call_of_wp zt373 rfl ?_
          repeat (first|apply wp_as|apply wp_ss|refine wr (by simp [hk2,hkn,Int.ofNat_inj,he2,hal2,hbl2,h1,h2,w1,w2,E2,h3',q1,t1];with_reducible rfl) ?_|refine wq (by simp [hk2,hkn,Int.ofNat_inj,he2,hal2,hbl2,h1,h2,w1,w2,E2,h3',q1,t1];with_reducible rfl) ?_|refine wt (by simpa [hk2,hkn,Int.ofNat_inj,he2,hal2,hbl2,h1,h2,w1,w2,E2,h3',q1,t1]) ?_|refine wf (by simpa [hk2,hkn,Int.ofNat_inj,he2,hal2,hbl2,h1,h2,w1,w2,E2,h3',q1,t1]) ?_|refine xt (by simpa [hk2,hkn,Int.ofNat_inj,he2,hal2,hbl2,h1,h2,w1,w2,E2,h3',q1,t1]) ?_|refine xf (by simpa [hk2,hkn,Int.ofNat_inj,he2,hal2,hbl2,h1,h2,w1,w2,E2,h3',q1,t1]) ?_|apply wp_bs|apply wp_b|refine wp_sr ?_|refine wp_sx ?_|refine wp_ret' ?_|refine wp_skip' ?_|refine wp_exit' ?_)
          simp [zi373]
        · rw [if_neg h3]
          have h3':¬ (b:Int)+1 < n:=by omega
          have h3'':¬ left[a]=0:=by omega
          refine ⟨[],rfl,?_⟩
          refine call_of_wp zt373 rfl ?_
          repeat (first|apply wp_as|apply wp_ss|refine wr (by simp [hk2,hkn,Int.ofNat_inj,he2,hal2,hbl2,h1,h2,w1,w2,h3',h3''];with_reducible rfl) ?_|refine wq (by simp [hk2,hkn,Int.ofNat_inj,he2,hal2,hbl2,h1,h2,w1,w2,h3',h3''];with_reducible rfl) ?_|refine wt (by simpa [hk2,hkn,Int.ofNat_inj,he2,hal2,hbl2,h1,h2,w1,w2,h3',h3'']) ?_|refine wf (by simpa [hk2,hkn,Int.ofNat_inj,he2,hal2,hbl2,h1,h2,w1,w2,h3',h3'']) ?_|refine xt (by simpa [hk2,hkn,Int.ofNat_inj,he2,hal2,hbl2,h1,h2,w1,w2,h3',h3'']) ?_|refine xf (by simpa [hk2,hkn,Int.ofNat_inj,he2,hal2,hbl2,h1,h2,w1,w2,h3',h3'']) ?_|apply wp_bs|apply wp_b|refine wp_sr ?_|refine wp_sx ?_|refine wp_ret' ?_|refine wp_skip' ?_|refine wp_exit' ?_)
          simp [zi373]
    · rw [if_neg (fun h=>h1 h.1)]
      have h0:left[a]=0:=by omega
      rw [if_pos (.inr h0)]
      obtain ⟨R2,hR2,E2⟩:=ih (k+1) es c c2 c3 left (by omega) (by omega) hl hb
      have l2:R2.length≤2097152:=by rw [← List.length_map (f:=Prod.fst),hR2];omega
      have E2:=ev_lim E2
      rw [show ((k+1:Nat):Int)=(k:Int)+1 by omega] at E2
      refine ⟨R2,by rw [hR2,List.nil_append],?_⟩
      have q1:R2.length≤274877906944:=by omega
      have t1:R2.take R2.length=R2:=List.take_of_length_le (Nat.le_refl _)
      by_cases h3:(b:Int)+1 < n
      · refine call_of_wp zt373 rfl ?_
        repeat (first|apply wp_as|apply wp_ss|refine wr (by simp [hk2,hkn,Int.ofNat_inj,he2,hal2,hbl2,h0,w1,w2,E2,h3,q1,t1];with_reducible rfl) ?_|refine wq (by simp [hk2,hkn,Int.ofNat_inj,he2,hal2,hbl2,h0,w1,w2,E2,h3,q1,t1];with_reducible rfl) ?_|refine wt (by simpa [hk2,hkn,Int.ofNat_inj,he2,hal2,hbl2,h0,w1,w2,E2,h3,q1,t1]) ?_|refine wf (by simpa [hk2,hkn,Int.ofNat_inj,he2,hal2,hbl2,h0,w1,w2,E2,h3,q1,t1]) ?_|refine xt (by simpa [hk2,hkn,Int.ofNat_inj,he2,hal2,hbl2,h0,w1,w2,E2,h3,q1,t1]) ?_|refine xf (by simpa [hk2,hkn,Int.ofNat_inj,he2,hal2,hbl2,h0,w1,w2,E2,h3,q1,t1]) ?_|apply wp_bs|apply wp_b|refine wp_sr ?_|refine wp_sx ?_|refine wp_ret' ?_|refine wp_skip' ?_|refine wp_exit' ?_)
        simp [zi373]
      · refine call_of_wp zt373 rfl ?_
        repeat (first|apply wp_as|apply wp_ss|refine wr (by simp [hk2,hkn,Int.ofNat_inj,he2,hal2,hbl2,h0,w1,w2,E2,h3,q1,t1];with_reducible rfl) ?_|refine wq (by simp [hk2,hkn,Int.ofNat_inj,he2,hal2,hbl2,h0,w1,w2,E2,h3,q1,t1];with_reducible rfl) ?_|refine wt (by simpa [hk2,hkn,Int.ofNat_inj,he2,hal2,hbl2,h0,w1,w2,E2,h3,q1,t1]) ?_|refine wf (by simpa [hk2,hkn,Int.ofNat_inj,he2,hal2,hbl2,h0,w1,w2,E2,h3,q1,t1]) ?_|refine xt (by simpa [hk2,hkn,Int.ofNat_inj,he2,hal2,hbl2,h0,w1,w2,E2,h3,q1,t1]) ?_|refine xf (by simpa [hk2,hkn,Int.ofNat_inj,he2,hal2,hbl2,h0,w1,w2,E2,h3,q1,t1]) ?_|apply wp_bs|apply wp_b|refine wp_sr ?_|refine wp_sx ?_|refine wp_ret' ?_|refine wp_skip' ?_|refine wp_exit' ?_)
        simp [zi373]
end Go.Idl
namespace Go.Idl
open Go
theorem ev_realizations (d:List Int) (c:Bool) (hv:valid d=true) :
    ∃ R:GF,R.map Prod.fst=srS d.length [] d (prs d.length)∧Ev tb zl369 [] [L d c] [] ⟨.own 2 (glf d.length R),[],[],[]⟩:=by
  have hf:=valid_few hv
  have hd7:=hf.1
  have hpl:=prs21 d.length (by omega)
  have hin:∀ e ∈ prs d.length,0≤e.1∧e.1 < e.2∧e.2 < d.length:=fun e he=>mem_prs.1 he
  obtain ⟨R,hR,E⟩:=ev_search d.length hf.1 (prs d.length) hpl hin (prs d.length).length 0 [] false c false d (by omega) (by simp) rfl (fun x hx=>by have:=hf.2 x hx;omega)
  rw [List.drop_zero] at hR
  refine ⟨R,hR,?_⟩
  have e1:=ev_lim (ev_pairs d.length (by omega))
  have e2:=ev_lim E
  rw [show ((0:Nat):Int)=0 from rfl] at e2
  simp only [Gr,L2,eds_nil] at e2
  generalize prs d.length=P at *
  refine call_of_wp zt369 rfl ?_
  repeat (first|apply wp_as|apply wp_ss|refine wr (by simp [e1,e2];with_reducible rfl) ?_|refine wq (by simp [e1,e2];with_reducible rfl) ?_|refine wt (by simpa [e1,e2]) ?_|refine wf (by simpa [e1,e2]) ?_|refine xt (by simpa [e1,e2]) ?_|refine xf (by simpa [e1,e2]) ?_|apply wp_bs|apply wp_b|refine wp_sr ?_|refine wp_sx ?_|refine wp_ret' ?_|refine wp_skip' ?_|refine wp_exit' ?_)
  simp [zi369]
end Go.Idl
namespace Go.Idl
open Go
def tab (t:List (List Int)):List (List IV):=t.map fun r=>[.lst 1 (ints r) false]
def oab (t:List (List Int)):List (List IV):=t.map fun r=>[.own 1 (ints r)]
@[simp] theorem tab_len (t:List (List Int)):(tab t).length=t.length:=by simp [tab]
@[simp] theorem oab_len (t:List (List Int)):(oab t).length=t.length:=by simp [oab]
@[simp] theorem oab_nil:oab []=[]:=rfl
@[simp] theorem tab_get? (t:List (List Int)) (i:Nat):(tab t)[i]? = t[i]?.map fun r=>[IV.lst 1 (ints r) false]:=by simp [tab]
@[simp] theorem tab_get (t:List (List Int)) (i:Nat) (h:i < (tab t).length):(tab t)[i]=[IV.lst 1 (ints (t[i]'(by simpa [tab] using h))) false]:=by simp [tab]
@[simp] theorem oab_get? (t:List (List Int)) (i:Nat):(oab t)[i]? = t[i]?.map fun r=>[IV.own 1 (ints r)]:=by simp [oab]
@[simp] theorem oab_get (t:List (List Int)) (i:Nat) (h:i < (oab t).length):(oab t)[i]=[IV.own 1 (ints (t[i]'(by simpa [oab] using h)))]:=by simp [oab]
@[simp] theorem oab_one (t:List (List Int)) (r:List Int):oab t++[[IV.own 1 (ints r)]]=oab (t++[r]):=by simp [oab]
@[simp] theorem oab_set (t:List (List Int)) (i:Nat) (r:List Int):(oab t).set i [IV.own 1 (ints r)]=oab (t.set i r):=by simp [oab,List.map_set]
@[simp] theorem oab_take (t:List (List Int)) (n:Nat):(oab t).take n=oab (t.take n):=by simp [oab,List.map_take]
@[simp] theorem frz_oab (t:List (List Int)):frzLL (oab t)=tab t:=by
  induction t with
  | nil=>rfl
  | cons x xs ih =>
    simp only [oab,tab,List.map_cons,frzLL,frzL,frzV] at *
    rw [ih]
    have:frzLL (ints x)=ints x:=by
      clear ih
      induction x with
      | nil=>rfl
      | cons y ys ih=>simp only [ints,List.map_cons,frzLL,frzL,frzV] at *;rw [ih]
    rw [this]
@[simp] theorem tab_all1 (t:List (List Int)):((tab t).all fun x=>x.all IV.plain1)=true:=by
  induction t with
  | nil=>rfl
  | cons x xs ih=>simp only [tab,List.map_cons,List.all_cons] at *;rw [ih];rfl
@[simp] theorem oab_noLst (t:List (List Int)):noLstLL (oab t)=true:=by
  induction t with
  | nil=>rfl
  | cons x xs ih =>
    simp only [oab,List.map_cons,noLstLL,noLstL,noLstV] at *
    rw [ih,ints_noLst];rfl
def g2 (t:List (List Int)) (a b:Nat):Int:=(t.getD a []).getD b 0
end Go.Idl
namespace Go.Idl
open Go
def Sq (t:List (List Int)):Prop:=∀ r ∈ t,r.length=t.length∧∀ x ∈ r,0≤x∧x≤1
def tAt (t:List (List Int)) (a b:Nat):Prop:=if a=b then g2 t a b=0 else g2 t a b+g2 t b a=1
def Tour (t:List (List Int)):Prop:=(1≤t.length∧t.length≤5)∧Sq t∧∀ a b:Nat,a < t.length→b < t.length→tAt t a b
end Go.Idl
namespace Go.Idl
open Go
def Small2 (t:List (List Int)):Prop:=t.length≤1000∧∀ r ∈ t,r.length≤1000∧∀ x ∈ r,-1000≤x∧x≤1000
end Go.Idl
namespace Go.Idl
open Go
def asc0 (s:List Int):List Int:=(fall s).reverse
def overT (s:List Int) (i:Nat):Int:=((asc0 s).take (i+1)).sum - ((i:Int)+1) * i / 2
def over (s:List Int):List Int:=mapR s.length (overT s)
end Go.Idl
namespace Go.Idl
open Go
theorem sum01 (r:List Int) (h:∀ x ∈ r,0≤x∧x≤1):0≤r.sum∧r.sum≤r.length:=by
  induction r with
  | nil=>simp
  | cons x xs ih =>
    have h1:=h x (by simp)
    have h2:=ih fun y hy=>h y (by simp [hy])
    simp only [List.sum_cons,List.length_cons];omega
end Go.Idl
namespace Go.Idl
open Go
structure SmallG (n:Int) (es:List (Int×Int)):Prop where
  n1:-1≤n
  n2:n≤8
  len:es.length≤60
  el:∀ e ∈ es,-1≤e.1∧e.1≤8∧-1≤e.2∧e.2≤8
theorem SmallG.fit {n es} (h:SmallG n es):Fit es:=fun e he=>by have:=h.el e he;omega
end Go.Idl
namespace Go.Idl
open Go
theorem degs_len (n:Nat) (es:List (Int×Int)):(degs n es).length=n:=by rw [degs,dfold_len];simp
end Go.Idl
namespace Go.Idl
open Go
def VE (es:List (Int×Int)) (x:IV):Prop:=(∃ c,x=L2 es c) ∨ (es=[]∧x=Z)
theorem ev_equalEdges_L (xs ys:List (Int×Int)) (c d:Bool) (hl:xs.length≤2000000) (hm:ys.length≤2000000):Ev tb zl237 [] [L2 xs c,L2 ys d] [] ⟨Bo (decide (xs=ys)),[],[],[]⟩:=by
  by_cases he:xs.length=ys.length
  · have loop:∀ (m i:Nat),i+m=xs.length→wp tb (.loop z237l8) { T:=[(0,L2 xs c),(1,L2 ys d),(5,I i)],loc:=[],M:=[] }
      (fun ex st=>(ex=.exit 0∧xs.drop i=ys.drop i∧st={ T:=[(0,L2 xs c),(1,L2 ys d),(5,I xs.length),(14,Bo false)],loc:=[],M:=[] }) ∨
        ex=.ret∧xs.drop i ≠ ys.drop i∧st={ T:=[(4,Bo false)],loc:=[],M:=[] }):=by
      intro m
      induction m with
      | zero =>
        intro i hi
        have h2:xs.drop i=[]:=List.drop_of_length_le (by omega)
        have h3:i=xs.length:=hi
        subst h3
        have hf:¬ xs.length < ys.length:=by omega
        refine wp_loop ?_
        repeat (first|apply wp_as|apply wp_ss|refine wr (by simp [he];with_reducible rfl) ?_|refine wq (by simp [he];with_reducible rfl) ?_|refine wt (by simpa [he]) ?_|refine wf (by simpa [he]) ?_|refine xt (by simpa [he]) ?_|refine xf (by simpa [he]) ?_|apply wp_bs|apply wp_b|refine wp_sr ?_|refine wp_sx ?_|refine wp_ret' ?_|refine wp_skip' ?_|refine wp_exit' ?_)
        refine .inl ⟨rfl,?_,by simp [he]⟩
        rw [h2,he,List.drop_length]
      | succ m ih =>
        intro i hi
        have hix:i < xs.length:=by omega
        have hiy:i < ys.length:=by omega
        have w2:IntKind.i64.wrap ((i:Int)+1)=((i+1:Nat):Int):=wrapS (by omega)
        rw [List.drop_eq_getElem_cons hix,List.drop_eq_getElem_cons hiy]
        generalize hx:xs[i]=a
        generalize hy:ys[i]=b
        obtain ⟨a1,a2⟩:=a
        obtain ⟨b1,b2⟩:=b
        have gx:(eds xs)[i]'(by simpa using hix)=[I a1,I a2]:=by simp [eds,hx]
        have gy:(eds ys)[i]'(by simpa using hiy)=[I b1,I b2]:=by simp [eds,hy]
        by_cases h1:a1=b1
        · by_cases h2:a2=b2
          · refine wp_loop ?_
            repeat (first|apply wp_as|apply wp_ss|refine wr (by simp [hix,hiy,gx,gy,h1,h2,w2];with_reducible rfl) ?_|refine wq (by simp [hix,hiy,gx,gy,h1,h2,w2];with_reducible rfl) ?_|refine wt (by simpa [hix,hiy,gx,gy,h1,h2,w2]) ?_|refine wf (by simpa [hix,hiy,gx,gy,h1,h2,w2]) ?_|refine xt (by simpa [hix,hiy,gx,gy,h1,h2,w2]) ?_|refine xf (by simpa [hix,hiy,gx,gy,h1,h2,w2]) ?_|apply wp_bs|apply wp_b|refine wp_sr ?_|refine wp_sx ?_|refine wp_ret' ?_|refine wp_skip' ?_|refine wp_exit' ?_)
            refine wp_imp (ih (i+1) (by omega)) ?_
            rintro ex st (⟨rfl,h5,rfl⟩ | ⟨rfl,h5,rfl⟩)
            · exact .inl ⟨rfl,by rw [h1,h2,h5],rfl⟩
            · exact .inr ⟨rfl,by simp [h1,h2,h5],rfl⟩
          · refine wp_loop ?_
            repeat (first|apply wp_as|apply wp_ss|refine wr (by simp [hix,hiy,gx,gy,h1,h2,w2];with_reducible rfl) ?_|refine wq (by simp [hix,hiy,gx,gy,h1,h2,w2];with_reducible rfl) ?_|refine wt (by simpa [hix,hiy,gx,gy,h1,h2,w2]) ?_|refine wf (by simpa [hix,hiy,gx,gy,h1,h2,w2]) ?_|refine xt (by simpa [hix,hiy,gx,gy,h1,h2,w2]) ?_|refine xf (by simpa [hix,hiy,gx,gy,h1,h2,w2]) ?_|apply wp_bs|apply wp_b|refine wp_sr ?_|refine wp_sx ?_|refine wp_ret' ?_|refine wp_skip' ?_|refine wp_exit' ?_)
            exact .inr ⟨rfl,by simp [h1,h2],rfl⟩
        · refine wp_loop ?_
          repeat (first|apply wp_as|apply wp_ss|refine wr (by simp [hix,hiy,gx,gy,h1,w2];with_reducible rfl) ?_|refine wq (by simp [hix,hiy,gx,gy,h1,w2];with_reducible rfl) ?_|refine wt (by simpa [hix,hiy,gx,gy,h1,w2]) ?_|refine wf (by simpa [hix,hiy,gx,gy,h1,w2]) ?_|refine xt (by simpa [hix,hiy,gx,gy,h1,w2]) ?_|refine xf (by simpa [hix,hiy,gx,gy,h1,w2]) ?_|apply wp_bs|apply wp_b|refine wp_sr ?_|refine wp_sx ?_|refine wp_ret' ?_|refine wp_skip' ?_|refine wp_exit' ?_)
          exact .inr ⟨rfl,by simp [h1],rfl⟩
    refine call_of_wp zt237 rfl ?_
    repeat (first|apply wp_as|apply wp_ss|refine wr (by simp [he];with_reducible rfl) ?_|refine wq (by simp [he];with_reducible rfl) ?_|refine wt (by simpa [he]) ?_|refine wf (by simpa [he]) ?_|refine xt (by simpa [he]) ?_|refine xf (by simpa [he]) ?_|apply wp_bs|apply wp_b|refine wp_sr ?_|refine wp_sx ?_|refine wp_ret' ?_|refine wp_skip' ?_|refine wp_exit' ?_)
    refine wp_imp (loop xs.length 0 (by simp)) ?_
    rintro ex st (⟨rfl,h5,rfl⟩ | ⟨rfl,h5,rfl⟩)
    · simp only [if_true]
      repeat (first|apply wp_as|apply wp_ss|refine wr (by simp;with_reducible rfl) ?_|refine wq (by simp;with_reducible rfl) ?_|refine wt (by simpa) ?_|refine wf (by simpa) ?_|refine xt (by simpa) ?_|refine xf (by simpa) ?_|apply wp_bs|apply wp_b|refine wp_sr ?_|refine wp_sx ?_|refine wp_ret' ?_|refine wp_skip' ?_|refine wp_exit' ?_)
      simp only [List.drop_zero] at h5
      simp [zi237,h5]
    · simp only [List.drop_zero] at h5
      simp [zi237,h5]
  · have h5:xs ≠ ys:=fun h=>he (by rw [h])
    have he':((xs.length:Int) != ys.length)=true:=by simp;omega
    refine call_of_wp zt237 rfl ?_
    repeat (first|apply wp_as|apply wp_ss|refine wr (by simp [he,he'];with_reducible rfl) ?_|refine wq (by simp [he,he'];with_reducible rfl) ?_|refine wt (by simpa [he,he']) ?_|refine wf (by simpa [he,he']) ?_|refine xt (by simpa [he,he']) ?_|refine xf (by simpa [he,he']) ?_|apply wp_bs|apply wp_b|refine wp_sr ?_|refine wp_sx ?_|refine wp_ret' ?_|refine wp_skip' ?_|refine wp_exit' ?_)
    simp [zi237,h5]
theorem ev_equalEdges (xs ys:List (Int×Int)) (x y:IV) (hx:VE xs x) (hy:VE ys y) (hl:xs.length≤2000000) (hm:ys.length≤2000000):Ev tb zl237 [] [x,y] [] ⟨Bo (decide (xs=ys)),[],[],[]⟩:=by
  rcases hx with ⟨c,rfl⟩ | ⟨rfl,rfl⟩
  · rcases hy with ⟨d,rfl⟩ | ⟨rfl,rfl⟩
    · exact ev_equalEdges_L xs ys c d hl hm
    · cases xs with
      | nil =>
        refine call_of_wp zt237 rfl ?_
        repeat (first|apply wp_as|apply wp_ss|refine wr (by simp;with_reducible rfl) ?_|refine wq (by simp;with_reducible rfl) ?_|refine wt (by simpa) ?_|refine wf (by simpa) ?_|refine xt (by simpa) ?_|refine xf (by simpa) ?_|apply wp_bs|apply wp_b|refine wp_sr ?_|refine wp_sx ?_|refine wp_ret' ?_|refine wp_skip' ?_|refine wp_exit' ?_)
        refine wp_loop ?_
        repeat (first|apply wp_as|apply wp_ss|refine wr (by simp;with_reducible rfl) ?_|refine wq (by simp;with_reducible rfl) ?_|refine wt (by simpa) ?_|refine wf (by simpa) ?_|refine xt (by simpa) ?_|refine xf (by simpa) ?_|apply wp_bs|apply wp_b|refine wp_sr ?_|refine wp_sx ?_|refine wp_ret' ?_|refine wp_skip' ?_|refine wp_exit' ?_)
        simp [zi237]
      | cons a xs =>
        have h0:¬ (xs.length:Int)+1=0:=by omega
        refine call_of_wp zt237 rfl ?_
        repeat (first|apply wp_as|apply wp_ss|refine wr (by simp [h0];with_reducible rfl) ?_|refine wq (by simp [h0];with_reducible rfl) ?_|refine wt (by simpa [h0]) ?_|refine wf (by simpa [h0]) ?_|refine xt (by simpa [h0]) ?_|refine xf (by simpa [h0]) ?_|apply wp_bs|apply wp_b|refine wp_sr ?_|refine wp_sx ?_|refine wp_ret' ?_|refine wp_skip' ?_|refine wp_exit' ?_)
        simp [zi237]
  · rcases hy with ⟨d,rfl⟩ | ⟨rfl,rfl⟩
    · cases ys with
      | nil =>
        refine call_of_wp zt237 rfl ?_
        repeat (first|apply wp_as|apply wp_ss|refine wr (by simp;with_reducible rfl) ?_|refine wq (by simp;with_reducible rfl) ?_|refine wt (by simpa) ?_|refine wf (by simpa) ?_|refine xt (by simpa) ?_|refine xf (by simpa) ?_|apply wp_bs|apply wp_b|refine wp_sr ?_|refine wp_sx ?_|refine wp_ret' ?_|refine wp_skip' ?_|refine wp_exit' ?_)
        refine wp_loop ?_
        repeat (first|apply wp_as|apply wp_ss|refine wr (by simp;with_reducible rfl) ?_|refine wq (by simp;with_reducible rfl) ?_|refine wt (by simpa) ?_|refine wf (by simpa) ?_|refine xt (by simpa) ?_|refine xf (by simpa) ?_|apply wp_bs|apply wp_b|refine wp_sr ?_|refine wp_sx ?_|refine wp_ret' ?_|refine wp_skip' ?_|refine wp_exit' ?_)
        simp [zi237]
      | cons a ys =>
        have h0:¬ (0:Int)=(ys.length:Int)+1:=by omega
        refine call_of_wp zt237 rfl ?_
        repeat (first|apply wp_as|apply wp_ss|refine wr (by simp [h0];with_reducible rfl) ?_|refine wq (by simp [h0];with_reducible rfl) ?_|refine wt (by simpa [h0]) ?_|refine wf (by simpa [h0]) ?_|refine xt (by simpa [h0]) ?_|refine xf (by simpa [h0]) ?_|apply wp_bs|apply wp_b|refine wp_sr ?_|refine wp_sx ?_|refine wp_ret' ?_|refine wp_skip' ?_|refine wp_exit' ?_)
        simp [zi237]
    · refine call_of_wp zt237 rfl ?_
      repeat (first|apply wp_as|apply wp_ss|refine wr (by simp;with_reducible rfl) ?_|refine wq (by simp;with_reducible rfl) ?_|refine wt (by simpa) ?_|refine wf (by simpa) ?_|refine xt (by simpa) ?_|refine xf (by simpa) ?_|apply wp_bs|apply wp_b|refine wp_sr ?_|refine wp_sx ?_|refine wp_ret' ?_|refine wp_skip' ?_|refine wp_exit' ?_)
      refine wp_loop ?_
      repeat (first|apply wp_as|apply wp_ss|refine wr (by simp;with_reducible rfl) ?_|refine wq (by simp;with_reducible rfl) ?_|refine wt (by simpa) ?_|refine wf (by simpa) ?_|refine xt (by simpa) ?_|refine xf (by simpa) ?_|apply wp_bs|apply wp_b|refine wp_sr ?_|refine wp_sx ?_|refine wp_ret' ?_|refine wp_skip' ?_|refine wp_exit' ?_)
      simp [zi237]
theorem ev_equalGraph (n m:Int) (xs ys:List (Int×Int)) (x y:IV) (hx:VE xs x) (hy:VE ys y) (hl:xs.length≤2000000) (hm:ys.length≤2000000):Ev tb zl238 [] [.agg [I n,x],.agg [I m,y]] [] ⟨Bo (decide (n=m) && decide (xs=ys)),[],[],[]⟩:=by
  have e1:=ev_lim (ev_equalEdges xs ys x y hx hy hl hm)
  by_cases hnm:n=m
  · subst hnm
    rcases hx with ⟨c,rfl⟩ | ⟨rfl,rfl⟩
    · rcases hy with ⟨d,rfl⟩ | ⟨rfl,rfl⟩
      · refine call_of_wp zt238 rfl ?_
        repeat (first|apply wp_as|apply wp_ss|refine wr (by simp [e1];with_reducible rfl) ?_|refine wq (by simp [e1];with_reducible rfl) ?_|refine wt (by simpa [e1]) ?_|refine wf (by simpa [e1]) ?_|refine xt (by simpa [e1]) ?_|refine xf (by simpa [e1]) ?_|apply wp_bs|apply wp_b|refine wp_sr ?_|refine wp_sx ?_|refine wp_ret' ?_|refine wp_skip' ?_|refine wp_exit' ?_)
        simp [zi238]
      · refine call_of_wp zt238 rfl ?_
        repeat (first|apply wp_as|apply wp_ss|refine wr (by simp [e1];with_reducible rfl) ?_|refine wq (by simp [e1];with_reducible rfl) ?_|refine wt (by simpa [e1]) ?_|refine wf (by simpa [e1]) ?_|refine xt (by simpa [e1]) ?_|refine xf (by simpa [e1]) ?_|apply wp_bs|apply wp_b|refine wp_sr ?_|refine wp_sx ?_|refine wp_ret' ?_|refine wp_skip' ?_|refine wp_exit' ?_)
        simp [zi238]
    · rcases hy with ⟨d,rfl⟩ | ⟨rfl,rfl⟩
      · refine call_of_wp zt238 rfl ?_
        repeat (first|apply wp_as|apply wp_ss|refine wr (by simp [e1];with_reducible rfl) ?_|refine wq (by simp [e1];with_reducible rfl) ?_|refine wt (by simpa [e1]) ?_|refine wf (by simpa [e1]) ?_|refine xt (by simpa [e1]) ?_|refine xf (by simpa [e1]) ?_|apply wp_bs|apply wp_b|refine wp_sr ?_|refine wp_sx ?_|refine wp_ret' ?_|refine wp_skip' ?_|refine wp_exit' ?_)
        simp [zi238]
      · refine call_of_wp zt238 rfl ?_
        repeat (first|apply wp_as|apply wp_ss|refine wr (by simp [e1];with_reducible rfl) ?_|refine wq (by simp [e1];with_reducible rfl) ?_|refine wt (by simpa [e1]) ?_|refine wf (by simpa [e1]) ?_|refine xt (by simpa [e1]) ?_|refine xf (by simpa [e1]) ?_|apply wp_bs|apply wp_b|refine wp_sr ?_|refine wp_sx ?_|refine wp_ret' ?_|refine wp_skip' ?_|refine wp_exit' ?_)
        simp [zi238]
  · rcases hx with ⟨c,rfl⟩ | ⟨rfl,rfl⟩
    · rcases hy with ⟨d,rfl⟩ | ⟨rfl,rfl⟩
      · refine call_of_wp zt238 rfl ?_
        repeat (first|apply wp_as|apply wp_ss|refine wr (by simp [hnm];with_reducible rfl) ?_|refine wq (by simp [hnm];with_reducible rfl) ?_|refine wt (by simpa [hnm]) ?_|refine wf (by simpa [hnm]) ?_|refine xt (by simpa [hnm]) ?_|refine xf (by simpa [hnm]) ?_|apply wp_bs|apply wp_b|refine wp_sr ?_|refine wp_sx ?_|refine wp_ret' ?_|refine wp_skip' ?_|refine wp_exit' ?_)
        simp [zi238,hnm]
      · refine call_of_wp zt238 rfl ?_
        repeat (first|apply wp_as|apply wp_ss|refine wr (by simp [hnm];with_reducible rfl) ?_|refine wq (by simp [hnm];with_reducible rfl) ?_|refine wt (by simpa [hnm]) ?_|refine wf (by simpa [hnm]) ?_|refine xt (by simpa [hnm]) ?_|refine xf (by simpa [hnm]) ?_|apply wp_bs|apply wp_b|refine wp_sr ?_|refine wp_sx ?_|refine wp_ret' ?_|refine wp_skip' ?_|refine wp_exit' ?_)
        simp [zi238,hnm]
    · rcases hy with ⟨d,rfl⟩ | ⟨rfl,rfl⟩
      · refine call_of_wp zt238 rfl ?_
        repeat (first|apply wp_as|apply wp_ss|refine wr (by simp [hnm];with_reducible rfl) ?_|refine wq (by simp [hnm];with_reducible rfl) ?_|refine wt (by simpa [hnm]) ?_|refine wf (by simpa [hnm]) ?_|refine xt (by simpa [hnm]) ?_|refine xf (by simpa [hnm]) ?_|apply wp_bs|apply wp_b|refine wp_sr ?_|refine wp_sx ?_|refine wp_ret' ?_|refine wp_skip' ?_|refine wp_exit' ?_)
        simp [zi238,hnm]
      · refine call_of_wp zt238 rfl ?_
        repeat (first|apply wp_as|apply wp_ss|refine wr (by simp [hnm];with_reducible rfl) ?_|refine wq (by simp [hnm];with_reducible rfl) ?_|refine wt (by simpa [hnm]) ?_|refine wf (by simpa [hnm]) ?_|refine xt (by simpa [hnm]) ?_|refine xf (by simpa [hnm]) ?_|apply wp_bs|apply wp_b|refine wp_sr ?_|refine wp_sx ?_|refine wp_ret' ?_|refine wp_skip' ?_|refine wp_exit' ?_)
        simp [zi238,hnm]
end Go.Idl
namespace Go.Idl
open Go
@[simp] theorem glf_get (n:Int) (R:GF) (i:Nat) (h:i < (glf n R).length):(glf n R)[i]=[IV.sc (.int .i64 n),.lst 2 (eds (R[i]'(by simpa [glf] using h)).1) (R[i]'(by simpa [glf] using h)).2]:=by simp [glf]
@[simp] theorem glf_get? (n:Int) (R:GF) (i:Nat):(glf n R)[i]? = R[i]?.map fun x=>[IV.sc (.int .i64 n),.lst 2 (eds x.1) x.2]:=by simp [glf]
@[simp] theorem frz_glf (n:Int) (R:GF):frzLL (glf n R)=glf n R:=by
  induction R with
  | nil=>rfl
  | cons x xs ih=>simp only [glf,List.map_cons,frzLL,frzL,frzV] at *;rw [ih]
@[simp] theorem frz_gls (n:Int) (gl:List (List (Int×Int))):frzLL (gls n gl)=glf n (gl.map fun es=>(es,false)):=by
  induction gl with
  | nil=>rfl
  | cons x xs ih=>simp only [gls,glf,List.map_cons,frzLL,frzL,frzV,frz_eds] at *;rw [ih]
end Go.Idl
namespace Go.Idl
open Go
theorem upTo_false (l:List (List (Int×Int))):upTo (fun _=>false) l=(l.take 1,l.isEmpty):=by cases l <;> simp [upTo]
theorem fa_F1z (n:Int) (es:List (Int×Int)) (b0 b1:List IV) (B:Boxes) (Es:List Boxes) :
    Ev tb zl507 [] [.agg [I n,O2 es],.bptr 0 2 0,.bptr 0 3 0] ([b0,b1,[I 0,Z],[Bo false]]::B::Es) ⟨Bo false,[],[b0,b1,[I n,O2 es],[Bo true]]::B::Es,[]⟩:=by
  refine call_of_wp zt507 rfl ?_
  repeat (first|apply wp_as|apply wp_ss|refine wr (by simp;with_reducible rfl) ?_|refine wq (by simp;with_reducible rfl) ?_|refine wt (by simpa) ?_|refine wf (by simpa) ?_|refine xt (by simpa) ?_|refine xf (by simpa) ?_|apply wp_bs|apply wp_b|refine wp_sr ?_|refine wp_sx ?_|refine wp_ret' ?_|refine wp_skip' ?_|refine wp_exit' ?_)
  simp [zi507]
theorem fa_F1o (n m:Int) (es xs:List (Int×Int)) (b0 b1:List IV) (B:Boxes) (Es:List Boxes) :
    Ev tb zl507 [] [.agg [I n,O2 es],.bptr 0 2 0,.bptr 0 3 0] ([b0,b1,[I m,O2 xs],[Bo true]]::B::Es) ⟨Bo false,[],[b0,b1,[I n,O2 es],[Bo true]]::B::Es,[]⟩:=by
  refine call_of_wp zt507 rfl ?_
  repeat (first|apply wp_as|apply wp_ss|refine wr (by simp;with_reducible rfl) ?_|refine wq (by simp;with_reducible rfl) ?_|refine wt (by simpa) ?_|refine wf (by simpa) ?_|refine xt (by simpa) ?_|refine xf (by simpa) ?_|apply wp_bs|apply wp_b|refine wp_sr ?_|refine wp_sx ?_|refine wp_ret' ?_|refine wp_skip' ?_|refine wp_exit' ?_)
  simp [zi507]
def boxFa (n:Int) (b0 b1:List IV):Option (List (Int×Int))→Boxes
  | none=>[b0,b1,[I 0,Z],[Bo false]]
  | some es=>[b0,b1,[I n,O2 es],[Bo true]]
theorem calls_fa (n:Int) (b0 b1:List IV):CallsBack n zl507 [.bptr 0 2 0,.bptr 0 3 0] (fun _=>false) (fun gl bs=>bs=boxFa n b0 b1 gl.getLast?):=by
  intro gl bs es hP hl he
  refine ⟨boxFa n b0 b1 (some es),by simp,fun B Es=>?_⟩
  rw [hP]
  cases gl.getLast? with
  | none=>exact fa_F1z n es b0 b1 B Es
  | some xs=>exact fa_F1o n n es xs b0 b1 B Es
theorem ev_factor (n:Int) (es:List (Int×Int)) (c:Bool) (f:List Int) (cf:Bool) (hfr:∀ e ∈ es,0≤e.1∧e.1 < e.2∧e.2 < f.length) (hl:es.length≤21) (hN:f.length≤1000) (hf:∀ x ∈ f,x≤1000) :
    Ev tb zl506 [] [Gr n es c,L f cf] [] ⟨match subs es f [] with | []=>.tup [.agg [I 0,Z],Bo false] | h::_=>.tup [OG n h,Bo true],[],[],[]⟩:=by
  obtain ⟨bs',k1,k2⟩:=ev_subgraphs n 2 es c f cf _ _ _ _ (calls_fa n [I n,L2 es c] [I 0,Z]) (.inl rfl) hfr hl hN hf _ rfl
  rw [upTo_false] at k1
  cases hs:subs es f [] with
  | nil =>
    rw [hs] at k1
    have k1:bs'=boxFa n [I n,L2 es c] [I 0,Z] none:=k1
    subst k1
    have e1:=ev_lim k2
    simp only [boxFa,List.getLast?_nil] at e1
    refine call_of_wp zt506 rfl ?_
    repeat (first|apply wp_as|apply wp_ss|refine wr (by simp [e1];with_reducible rfl) ?_|refine wq (by simp [e1];with_reducible rfl) ?_|refine wt (by simpa [e1]) ?_|refine wf (by simpa [e1]) ?_|refine xt (by simpa [e1]) ?_|refine xf (by simpa [e1]) ?_|apply wp_bs|apply wp_b|refine wp_sr ?_|refine wp_sx ?_|refine wp_ret' ?_|refine wp_skip' ?_|refine wp_exit' ?_)
    refine wp_ra (by simp;with_reducible rfl) (by simp;with_reducible rfl) ?_ ?_
    · intro p hp
      simp only [List.mem_cons,List.not_mem_nil,or_false] at hp
      subst hp
      exact ⟨_,by simp ;with_reducible rfl,by simp⟩
    repeat (first|apply wp_as|apply wp_ss|refine wr (by simp;with_reducible rfl) ?_|refine wq (by simp;with_reducible rfl) ?_|refine wt (by simpa) ?_|refine wf (by simpa) ?_|refine xt (by simpa) ?_|refine xf (by simpa) ?_|apply wp_bs|apply wp_b|refine wp_sr ?_|refine wp_sx ?_|refine wp_ret' ?_|refine wp_skip' ?_|refine wp_exit' ?_)
    simp [zi506]
  | cons h r =>
    rw [hs] at k1
    have k1:bs'=boxFa n [I n,L2 es c] [I 0,Z] (some h):=k1
    subst k1
    have e1:=ev_lim k2
    simp only [boxFa,List.getLast?_nil] at e1
    refine call_of_wp zt506 rfl ?_
    repeat (first|apply wp_as|apply wp_ss|refine wr (by simp [e1];with_reducible rfl) ?_|refine wq (by simp [e1];with_reducible rfl) ?_|refine wt (by simpa [e1]) ?_|refine wf (by simpa [e1]) ?_|refine xt (by simpa [e1]) ?_|refine xf (by simpa [e1]) ?_|apply wp_bs|apply wp_b|refine wp_sr ?_|refine wp_sx ?_|refine wp_ret' ?_|refine wp_skip' ?_|refine wp_exit' ?_)
    refine wp_ra (by simp;with_reducible rfl) (by simp;with_reducible rfl) ?_ ?_
    · intro p hp
      simp only [List.mem_cons,List.not_mem_nil,or_false] at hp
      subst hp
      exact ⟨_,by simp ;with_reducible rfl,by simp⟩
    repeat (first|apply wp_as|apply wp_ss|refine wr (by simp;with_reducible rfl) ?_|refine wq (by simp;with_reducible rfl) ?_|refine wt (by simpa) ?_|refine wf (by simpa) ?_|refine xt (by simpa) ?_|refine xf (by simpa) ?_|apply wp_bs|apply wp_b|refine wp_sr ?_|refine wp_sx ?_|refine wp_ret' ?_|refine wp_skip' ?_|refine wp_exit' ?_)
    simp [zi506]
def facF (f:List Int):List (List (Int×Int))→Option (List (Int×Int)×List (Int×Int))
  | []=>none
  | g::r=>match subs g f [] with
    | []=>facF f r
    | h::_=>some (g,h)
theorem ev_FR_F1 (n:Int) (es:List (Int×Int)) (c:Bool) (M:List Boxes):Ev tb zl503 [] [Gr n es c] M ⟨Gr n es c,[],M,[]⟩:=by
  refine call_of_wp zt503 rfl ?_
  repeat (first|apply wp_as|apply wp_ss|refine wr (by simp;with_reducible rfl) ?_|refine wq (by simp;with_reducible rfl) ?_|refine wt (by simpa) ?_|refine wf (by simpa) ?_|refine xt (by simpa) ?_|refine xf (by simpa) ?_|apply wp_bs|apply wp_b|refine wp_sr ?_|refine wp_sx ?_|refine wp_ret' ?_|refine wp_skip' ?_|refine wp_exit' ?_)
  simp [zi503]
set_option maxHeartbeats 4000000 in
theorem re_loop (n:Int) (f:List Int) (cf:Bool) (gl:List (List (Int×Int))) (hgl:gl.length≤2000000) (B0:Boxes) (hfr:∀ g ∈ gl,(∀ e ∈ g,0≤e.1∧e.1 < e.2∧e.2 < f.length)∧g.length≤21) (hN:f.length≤1000) (hf:∀ x ∈ f,x≤1000) :
    ∀ (m k:Nat) (A:List (List IV)) (Bx:Boxes),k+m=gl.length→A.length=gl.length→(∀ j,k≤j→A[j]? = gl[j]?.map fun es=>[I n,O2 es]) →
    wp tb (.loop z524l10) { T:=[(1,L f cf),(2,.fn zl503 []),(6,.bptr 1 0 0),(7,.bptr 1 1 0),(31,.own 2 A),(32,I gl.length),(33,I k)],loc:=[I 0,Z]::[I 0,Z]::Bx,M:=[B0] }
      (fun ex st=>match facF f (gl.drop k) with
        | none=>ex=.exit 0∧∃ A' Bx',st={ T:=[(1,L f cf),(2,.fn zl503 []),(6,.bptr 1 0 0),(7,.bptr 1 1 0),(31,.own 2 A'),(32,I gl.length),(33,I gl.length),(34,Bo false)],loc:=[I 0,Z]::[I 0,Z]::Bx',M:=[B0] }
        | some (g,h)=>ex=.ret∧∃ Bx',st={ T:=[(6,.bptr 1 0 0),(7,.bptr 1 1 0),(8,Bo true)],loc:=[I n,L2 g false]::[I n,L2 h false]::Bx',M:=[B0] }):=by
  intro m
  induction m with
  | zero =>
    intro k A Bx hk hA hAj
    have h3:k=gl.length:=hk
    subst h3
    rw [List.drop_length]
    refine wp_loop ?_
    repeat (first|apply wp_as|apply wp_ss|refine wr (by simp;with_reducible rfl) ?_|refine wq (by simp;with_reducible rfl) ?_|refine wt (by simpa) ?_|refine wf (by simpa) ?_|refine xt (by simpa) ?_|refine xf (by simpa) ?_|apply wp_bs|apply wp_b|refine wp_sr ?_|refine wp_sx ?_|refine wp_ret' ?_|refine wp_skip' ?_|refine wp_exit' ?_)
    exact ⟨rfl,A,Bx,rfl⟩
  | succ m ih =>
    intro k A Bx hk hA hAj
    have hk2:k < gl.length:=by omega
    have hk3:k < A.length:=by omega
    have hd:gl.drop k=gl[k]::gl.drop (k+1):=List.drop_eq_getElem_cons hk2
    obtain ⟨h1,h2⟩:=hfr _ (List.getElem_mem hk2)
    obtain ⟨g,hg⟩:∃ g,g=gl[k]:=⟨_,rfl⟩
    have hAk:A[k]? = some [I n,O2 g]:=by rw [hAj k (Nat.le_refl _),List.getElem?_eq_getElem hk2,hg];rfl
    have hAk':A[k]=[I n,O2 g]:=by
      rw [List.getElem?_eq_getElem hk3] at hAk
      exact Option.some.inj hAk
    rw [← hg] at h1 h2
    have w1:IntKind.i64.wrap ((k:Int)+1)=((k+1:Nat):Int):=wrapS (by omega)
    have e1:=fun c M=>ev_lim (ev_FR_F1 n g c M)
    have e2:=fun c=>ev_lim (ev_factor n g c f cf h1 h2 hN hf)
    have hn:=fun Bx=>ih (k+1) (A.set k [I n,.un]) Bx (by omega) (by simp [hA]) (fun j hj=>by
      rw [List.getElem?_set_ne (by omega)];exact hAj j (by omega))
    rw [hd,← hg]
    have ht:g.take g.length=g:=List.take_of_length_le (Nat.le_refl _)
    cases hs:subs g f [] with
    | nil =>
      simp only [hs] at e2
      simp only [facF,hs]
      refine wp_loop ?_
      repeat (first|apply wp_as|apply wp_ss|refine wr (by simp [hk2,hk3,hA,hAk,hAk',e1,e2,w1,ht];with_reducible rfl) ?_|refine wq (by simp [hk2,hk3,hA,hAk,hAk',e1,e2,w1,ht];with_reducible rfl) ?_|refine wt (by simpa [hk2,hk3,hA,hAk,hAk',e1,e2,w1,ht]) ?_|refine wf (by simpa [hk2,hk3,hA,hAk,hAk',e1,e2,w1,ht]) ?_|refine xt (by simpa [hk2,hk3,hA,hAk,hAk',e1,e2,w1,ht]) ?_|refine xf (by simpa [hk2,hk3,hA,hAk,hAk',e1,e2,w1,ht]) ?_|apply wp_bs|apply wp_b|refine wp_sr ?_|refine wp_sx ?_|refine wp_ret' ?_|refine wp_skip' ?_|refine wp_exit' ?_)
      exact hn _
    | cons h r =>
      simp only [hs] at e2
      simp only [facF,hs]
      refine wp_loop ?_
      repeat (first|apply wp_as|apply wp_ss|refine wr (by simp [hk2,hk3,hA,hAk,hAk',e1,e2,w1,ht];with_reducible rfl) ?_|refine wq (by simp [hk2,hk3,hA,hAk,hAk',e1,e2,w1,ht];with_reducible rfl) ?_|refine wt (by simpa [hk2,hk3,hA,hAk,hAk',e1,e2,w1,ht]) ?_|refine wf (by simpa [hk2,hk3,hA,hAk,hAk',e1,e2,w1,ht]) ?_|refine xt (by simpa [hk2,hk3,hA,hAk,hAk',e1,e2,w1,ht]) ?_|refine xf (by simpa [hk2,hk3,hA,hAk,hAk',e1,e2,w1,ht]) ?_|apply wp_bs|apply wp_b|refine wp_sr ?_|refine wp_sx ?_|refine wp_ret' ?_|refine wp_skip' ?_|refine wp_exit' ?_)
      refine wp_ra (by simp;with_reducible rfl) (by simp;with_reducible rfl) ?_ ?_
      · intro p hp
        simp only [List.mem_cons,List.not_mem_nil,or_false] at hp
        subst hp
        exact ⟨_,by simp ;with_reducible rfl,by simp⟩
      repeat (first|apply wp_as|apply wp_ss|refine wr (by simp;with_reducible rfl) ?_|refine wq (by simp;with_reducible rfl) ?_|refine wt (by simpa) ?_|refine wf (by simpa) ?_|refine xt (by simpa) ?_|refine xf (by simpa) ?_|apply wp_bs|apply wp_b|refine wp_sr ?_|refine wp_sx ?_|refine wp_ret' ?_|refine wp_skip' ?_|refine wp_exit' ?_)
      exact ⟨rfl,_,rfl⟩
def facV (n:Int):Option (List (Int×Int)×List (Int×Int))→IV
  | none=>.tup [.agg [I 0,Z],.agg [I 0,Z],Bo false]
  | some (g,h)=>.tup [Gr n g false,Gr n h false,Bo true]
theorem reals_few {d:List Int} (hv:valid d=true):(∀ g ∈ reals d,(∀ e ∈ g,0≤e.1∧e.1 < e.2∧e.2 < (d.length:Int))∧g.length≤21):=by
  intro g hg
  have h7:=(valid_few hv).1
  obtain ⟨h1,-⟩:=(mem_reals (by omega) g).1 hg
  have h2:=vG21 (by omega) h1
  exact ⟨fun e he=>mem_prs.1 ((vG_iff.1 h1).2.1 e he),h2⟩
set_option maxHeartbeats 4000000 in
theorem ev_realized (d f:List Int) (cd cf:Bool) (hd:valid d=true) (hf:valid f=true) (h5:d.length≤5) (hl:f.length=d.length) (B0:Boxes) :
    Ev tb zl524 [] [L d cd,L f cf,.fn zl503 []] [B0] ⟨facV d.length (facF f (reals d)),[],[B0],[]⟩:=by
  have hfd:=valid_few hd
  have hff:=valid_few hf
  have e1:=ev_lim (ev_listed d cd 5 (by omega))
  rw [hd,decide_eq_true (by omega:(d.length:Int)≤5),Bool.true_and] at e1
  have e2:=ev_lim (ev_listed f cf 5 (by omega))
  rw [hf,decide_eq_true (by omega:(f.length:Int)≤5),Bool.true_and] at e2
  have e3:=ev_lim (ev_AllRealizations d cd hd h5)
  have hrl:(reals d).length≤2000000:=by
    have h1:=subs_len (prs d.length) d []
    have h2:=prs21 d.length (by omega)
    have h3:2 ^ (prs d.length).length≤2 ^ 21:=Nat.pow_le_pow_right (by omega) h2
    have h4:(2:Nat) ^ 21=2097152:=by decide
    have h5:(prs d.length).length≤10:=by
      have:∀ n,n≤5→(prs n).length≤10:=by decide +kernel
      exact this _ h5
    have h6:2 ^ (prs d.length).length≤2 ^ 10:=Nat.pow_le_pow_right (by omega) h5
    have h7:(2:Nat) ^ 10=1024:=by decide
    show (subs (prs d.length) d []).length≤_
    omega
  have hfr:=reals_few hd
  rw [← hl] at hfr
  have loop:=fun A=>re_loop d.length f cf (reals d) hrl B0 hfr (by omega) (fun x hx=>by have:=hff.2 x hx;omega) (reals d).length 0 A [] (by omega)
  generalize reals d=G at *
  cases G with
  | nil =>
    simp only [ngl] at e3
    simp only [facF,facV]
    refine call_of_wp zt524 rfl ?_
    repeat (first|apply wp_as|apply wp_ss|refine wr (by simp [e1,e2,hl,e3];with_reducible rfl) ?_|refine wq (by simp [e1,e2,hl,e3];with_reducible rfl) ?_|refine wt (by simpa [e1,e2,hl,e3]) ?_|refine wf (by simpa [e1,e2,hl,e3]) ?_|refine xt (by simpa [e1,e2,hl,e3]) ?_|refine xf (by simpa [e1,e2,hl,e3]) ?_|apply wp_bs|apply wp_b|refine wp_sr ?_|refine wp_sx ?_|refine wp_ret' ?_|refine wp_skip' ?_|refine wp_exit' ?_)
    refine wp_loop ?_
    repeat (first|apply wp_as|apply wp_ss|refine wr (by simp;with_reducible rfl) ?_|refine wq (by simp;with_reducible rfl) ?_|refine wt (by simpa) ?_|refine wf (by simpa) ?_|refine xt (by simpa) ?_|refine xf (by simpa) ?_|apply wp_bs|apply wp_b|refine wp_sr ?_|refine wp_sx ?_|refine wp_ret' ?_|refine wp_skip' ?_|refine wp_exit' ?_)
    simp [zi524]
  | cons g G =>
    simp only [ngl] at e3
    have loop:=loop (gls d.length (g::G)) (by simp [gls]) (fun j _=>by rw [gls,List.getElem?_map])
    rw [List.drop_zero,show ((0:Nat):Int)=0 from rfl] at loop
    generalize g::G=G at *
    cases hF:facF f G with
    | none =>
      simp only [hF] at loop
      simp only [facV]
      refine call_of_wp zt524 rfl ?_
      repeat (first|apply wp_as|apply wp_ss|refine wr (by simp [e1,e2,hl,e3];with_reducible rfl) ?_|refine wq (by simp [e1,e2,hl,e3];with_reducible rfl) ?_|refine wt (by simpa [e1,e2,hl,e3]) ?_|refine wf (by simpa [e1,e2,hl,e3]) ?_|refine xt (by simpa [e1,e2,hl,e3]) ?_|refine xf (by simpa [e1,e2,hl,e3]) ?_|apply wp_bs|apply wp_b|refine wp_sr ?_|refine wp_sx ?_|refine wp_ret' ?_|refine wp_skip' ?_|refine wp_exit' ?_)
      refine wp_imp loop ?_
      rintro ex st ⟨rfl,A',Bx',rfl⟩
      simp only [if_true]
      repeat (first|apply wp_as|apply wp_ss|refine wr (by simp;with_reducible rfl) ?_|refine wq (by simp;with_reducible rfl) ?_|refine wt (by simpa) ?_|refine wf (by simpa) ?_|refine xt (by simpa) ?_|refine xf (by simpa) ?_|apply wp_bs|apply wp_b|refine wp_sr ?_|refine wp_sx ?_|refine wp_ret' ?_|refine wp_skip' ?_|refine wp_exit' ?_)
      simp [zi524]
    | some p =>
      obtain ⟨a,b⟩:=p
      simp only [hF] at loop
      simp only [facV]
      refine call_of_wp zt524 rfl ?_
      repeat (first|apply wp_as|apply wp_ss|refine wr (by simp [e1,e2,hl,e3];with_reducible rfl) ?_|refine wq (by simp [e1,e2,hl,e3];with_reducible rfl) ?_|refine wt (by simpa [e1,e2,hl,e3]) ?_|refine wf (by simpa [e1,e2,hl,e3]) ?_|refine xt (by simpa [e1,e2,hl,e3]) ?_|refine xf (by simpa [e1,e2,hl,e3]) ?_|apply wp_bs|apply wp_b|refine wp_sr ?_|refine wp_sx ?_|refine wp_ret' ?_|refine wp_skip' ?_|refine wp_exit' ?_)
      refine wp_imp loop ?_
      rintro ex st ⟨rfl,Bx',rfl⟩
      simp [zi524]
theorem ev_FactorRealization (d f:List Int) (cd cf:Bool) (hd:valid d=true) (hf:valid f=true) (h5:d.length≤5) (hl:f.length=d.length) :
    Ev tb zl502 [] [L d cd,L f cf] [] ⟨facV d.length (facF f (reals d)),[],[],[]⟩:=by
  have e1:=ev_lim (ev_realized d f cd cf hd hf h5 hl [[I 0,Z],[I 0,Z]])
  cases hF:facF f (reals d) with
  | none =>
    rw [hF] at e1
    simp only [facV] at e1 ⊢
    refine call_of_wp zt502 rfl ?_
    repeat (first|apply wp_as|apply wp_ss|refine wr (by simp [e1];with_reducible rfl) ?_|refine wq (by simp [e1];with_reducible rfl) ?_|refine wt (by simpa [e1]) ?_|refine wf (by simpa [e1]) ?_|refine xt (by simpa [e1]) ?_|refine xf (by simpa [e1]) ?_|apply wp_bs|apply wp_b|refine wp_sr ?_|refine wp_sx ?_|refine wp_ret' ?_|refine wp_skip' ?_|refine wp_exit' ?_)
    simp [zi502]
  | some p =>
    obtain ⟨a,b⟩:=p
    rw [hF] at e1
    simp only [facV] at e1 ⊢
    refine call_of_wp zt502 rfl ?_
    repeat (first|apply wp_as|apply wp_ss|refine wr (by simp [e1];with_reducible rfl) ?_|refine wq (by simp [e1];with_reducible rfl) ?_|refine wt (by simpa [e1]) ?_|refine wf (by simpa [e1]) ?_|refine xt (by simpa [e1]) ?_|refine xf (by simpa [e1]) ?_|apply wp_bs|apply wp_b|refine wp_sr ?_|refine wp_sx ?_|refine wp_ret' ?_|refine wp_skip' ?_|refine wp_exit' ?_)
    simp [zi502]
set_option maxHeartbeats 4000000 in
theorem ev_FactorRealization_no (d f:List Int) (cd cf:Bool) (hdl:d.length≤2000000) (hfl:f.length≤2000000) (h:¬ (valid d=true∧valid f=true∧d.length=f.length∧d.length≤5)) :
    Ev tb zl502 [] [L d cd,L f cf] [] ⟨.tup [.agg [I 0,Z],.agg [I 0,Z],Bo false],[],[],[]⟩:=by
  have e1:=ev_lim (ev_listed d cd 5 hdl)
  have e2:=ev_lim (ev_listed f cf 5 hfl)
  have hr:limF tb zl524 [] [L d cd,L f cf,.fn zl503 []] [[[I 0,Z],[I 0,Z]]]=some ⟨.tup [.agg [I 0,Z],.agg [I 0,Z],Bo false],[],[[[I 0,Z],[I 0,Z]]],[]⟩:=by
    refine ev_lim ?_
    cases h1:(valid d && decide ((d.length:Int)≤5)) with
    | false =>
      rw [h1] at e1
      refine call_of_wp zt524 rfl ?_
      repeat (first|apply wp_as|apply wp_ss|refine wr (by simp [e1];with_reducible rfl) ?_|refine wq (by simp [e1];with_reducible rfl) ?_|refine wt (by simpa [e1]) ?_|refine wf (by simpa [e1]) ?_|refine xt (by simpa [e1]) ?_|refine xf (by simpa [e1]) ?_|apply wp_bs|apply wp_b|refine wp_sr ?_|refine wp_sx ?_|refine wp_ret' ?_|refine wp_skip' ?_|refine wp_exit' ?_)
      simp [zi524]
    | true =>
      rw [h1] at e1
      cases h2:(valid f && decide ((f.length:Int)≤5)) with
      | false =>
        rw [h2] at e2
        refine call_of_wp zt524 rfl ?_
        repeat (first|apply wp_as|apply wp_ss|refine wr (by simp [e1,e2];with_reducible rfl) ?_|refine wq (by simp [e1,e2];with_reducible rfl) ?_|refine wt (by simpa [e1,e2]) ?_|refine wf (by simpa [e1,e2]) ?_|refine xt (by simpa [e1,e2]) ?_|refine xf (by simpa [e1,e2]) ?_|apply wp_bs|apply wp_b|refine wp_sr ?_|refine wp_sx ?_|refine wp_ret' ?_|refine wp_skip' ?_|refine wp_exit' ?_)
        simp [zi524]
      | true =>
        rw [h2] at e2
        simp only [Bool.and_eq_true,decide_eq_true_eq] at h1 h2
        have h3:¬ d.length=f.length:=fun q=>h ⟨h1.1,h2.1,q,by omega⟩
        have h4:¬ (d.length:Int)=(f.length:Int):=by omega
        refine call_of_wp zt524 rfl ?_
        repeat (first|apply wp_as|apply wp_ss|refine wr (by simp [e1,e2,h3,h4];with_reducible rfl) ?_|refine wq (by simp [e1,e2,h3,h4];with_reducible rfl) ?_|refine wt (by simpa [e1,e2,h3,h4]) ?_|refine wf (by simpa [e1,e2,h3,h4]) ?_|refine xt (by simpa [e1,e2,h3,h4]) ?_|refine xf (by simpa [e1,e2,h3,h4]) ?_|apply wp_bs|apply wp_b|refine wp_sr ?_|refine wp_sx ?_|refine wp_ret' ?_|refine wp_skip' ?_|refine wp_exit' ?_)
        simp [zi524]
  refine call_of_wp zt502 rfl ?_
  repeat (first|apply wp_as|apply wp_ss|refine wr (by simp [hr];with_reducible rfl) ?_|refine wq (by simp [hr];with_reducible rfl) ?_|refine wt (by simpa [hr]) ?_|refine wf (by simpa [hr]) ?_|refine xt (by simpa [hr]) ?_|refine xf (by simpa [hr]) ?_|apply wp_bs|apply wp_b|refine wp_sr ?_|refine wp_sx ?_|refine wp_ret' ?_|refine wp_skip' ?_|refine wp_exit' ?_)
  simp [zi502]
end Go.Idl
namespace Go.Idl
def hv:Nat→List Int→Bool
  | 0,_=>true
  | _+1,[]=>true
  | m+1,x::r=>decide (x≤r.length) && (r.take x.toNat).all (fun y=>!decide (y=0)) && hv m (fall ((r.take x.toNat).map (fun y=>y - 1)++r.drop x.toNat))
end Go.Idl
namespace Go.Idl
def rel (n:Nat) (σ:Nat→Nat) (g:List (Int×Int)):List (Int×Int):=(prs n).filter fun e=>decide (mk (σ e.1.toNat) (σ e.2.toNat) ∈ g)
theorem rel_deg {n:Nat} (hn:n≤7) {σ:Nat→Nat} (hσ:∀ u,u < n→σ u < n) (hi:∀ u v,u < n→v < n→(σ u=σ v ↔ u=v)) (hp:((List.range n).map σ).Perm (List.range n)) {g:List (Int×Int)} (hg:vGraph n g=true) {v:Nat} (hv:v < n) :
    deg (rel n σ g) v=deg g (σ v):=by
  conv=>rhs;rw [vG_filter hg]
  rw [rel,deg_filter hn _ hv,deg_filter hn _ (hσ v hv)]
  conv=>rhs;rw [← S_perm hp,S_map]
  refine S_congr fun u hu=>?_
  have hu:=List.mem_range.1 hu
  have hm:mk (σ (mk u v).1.toNat) (σ (mk u v).2.toNat)=mk (σ u) (σ v):=by
    rcases Nat.le_total u v with h | h
    · rw [show (mk u v).1.toNat=u by simp only [mk];omega,show (mk u v).2.toNat=v by simp only [mk];omega]
    · rw [show (mk u v).1.toNat=v by simp only [mk];omega,show (mk u v).2.toNat=u by simp only [mk];omega,mk_comm]
  rw [hm]
  exact ite_iff (hi u v hu hv).symm _ _
theorem insE_end {e:Int×Int}:∀ {es:List (Int×Int)},(∀ x ∈ es,below x e=true)→insE e es=es++[e]
  | [],_=>rfl
  | x::es,h=>by rw [insE,if_pos (h x (by simp)),insE_end fun y hy=>h y (by simp [hy])];rfl
theorem sum_zero:∀ {l:List Int},(∀ x ∈ l,0≤x)→(l.sum=0 ↔ l.all (fun x=>decide (x=0))=true)
  | [],_=>by simp
  | x::l,h=>by
    have h1:=h x (by simp)
    have h2:0≤l.sum:=by
      have:∀ {l:List Int},(∀ x ∈ l,0≤x)→0≤l.sum:=by
        intro l
        induction l with
        | nil=>intro _;simp
        | cons y l ih=>intro h;have:=ih fun z hz=>h z (by simp [hz]);have:=h y (by simp);simp only [List.sum_cons];omega
      exact this fun y hy=>h y (by simp [hy])
    rw [List.sum_cons,List.all_cons,Bool.and_eq_true,← sum_zero fun y hy=>h y (by simp [hy]),decide_eq_true_eq]
    omega
theorem srS_subs {n:Nat}:∀ (r:List (Int×Int)) (left:List Int) (es:List (Int×Int)),PW r→(∀ e ∈ r,e ∈ prs n)→left.length=n→(∀ x ∈ left,0≤x)→(∀ x ∈ es,∀ e ∈ r,below x e=true) →
    srS n es left r=subs r left es
  | [],left,es,_,_,_,hb,_=>by rw [srS,subs];exact ite_iff (sum_zero hb) _ _
  | e::r,left,es,hp,hr,hl,hb,hes=>by
    have hp':=List.pairwise_cons.1 hp
    have he:=mem_prs.1 (hr e (by simp))
    have hr':∀ x ∈ r,x ∈ prs n:=fun x hx=>hr x (by simp [hx])
    have hes':∀ x ∈ es,∀ y ∈ r,below x y=true:=fun x hx y hy=>hes x hx y (by simp [hy])
    have h2:=srS_subs r left es hp'.2 hr' hl hb hes'
    rw [srS,subs,insE_end fun x hx=>hes x hx e (by simp)]
    congr 1
    · split
      · rename_i hq
        refine srS_subs r _ _ hp'.2 hr' (by simp [decAt,hl]) (fun x hx=>?_) fun x hx y hy=>?_
        · obtain ⟨i,hi,rfl⟩:=List.mem_iff_getElem.1 hx
          have hi2:i < left.length:=by simpa [decAt] using hi
          have g1:=decAt_get (o:=decAt left e.1.toNat) (i:=e.2.toNat) (v:=i) (by simpa [decAt] using hi2)
          have g2:=decAt_get (o:=left) (i:=e.1.toNat) (v:=i) hi2
          rw [List.getD_eq_getElem?_getD,List.getElem?_eq_getElem hi] at g1
          have g3:=hb left[i] (List.getElem_mem hi2)
          have g4:left.getD i 0=left[i]:=by rw [List.getD_eq_getElem?_getD,List.getElem?_eq_getElem hi2];rfl
          simp only [Option.getD_some] at g1
          rw [g1,g2,g4]
          by_cases k1:e.1.toNat=i
          · rw [k1] at hq
            have:¬ e.2.toNat=i:=by omega
            rw [if_pos k1,if_neg this];omega
          · by_cases k2:e.2.toNat=i
            · rw [k2] at hq
              rw [if_neg k1,if_pos k2];omega
            · rw [if_neg k1,if_neg k2];omega
        · rcases List.mem_append.1 hx with hx | hx
          · exact hes' x hx y hy
          · simp at hx;subst hx;exact hp'.1 y hy
      · rfl
    · by_cases hq:e.2+1 < n ∨ left.getD e.1.toNat 0=0
      · rw [if_pos hq,h2]
      · rw [if_neg hq]
        cases hs:subs r left es with
        | nil=>rfl
        | cons g gl =>
          exfalso
          have hg:g ∈ subs r left es:=by rw [hs];simp
          obtain ⟨s,hsr,-,hd⟩:=(mem_subs r left es g (fun x hx=>mem_prs.1 (hr' x hx)) hl).1 hg
          have h3:=hd e.1.toNat (by omega)
          have h4:deg s e.1.toNat=0:=by
            rw [deg,S_congr (g:=fun _=>0),S_zero]
            intro x hx
            have hx1:=hp'.1 x (hsr.mem hx)
            have hx2:=mem_prs.1 (hr' x (hsr.mem hx))
            rw [below_iff] at hx1
            rw [inc,if_neg (by omega),if_neg (by omega)];rfl
          omega
theorem srS_reals {d:List Int} (hv:valid d=true):srS d.length [] d (prs d.length)=reals d :=
  srS_subs _ _ _ (prs_pw _) (fun _ h=>h) rfl (fun x hx=>(valid_mem hv x hx).1) (by simp)
end Go.Idl
namespace Go.Idl
open Go
def ffS:List (Int×Int)→List Int→List (Int×Int)→Option (List (Int×Int))
  | es,left,[]=>if left.sum=0 then some es else none
  | es,left,e::r=>if left.sum=0 then some es else if 0 < (left.take e.1.toNat).sum then none else
      if 0 < left.getD e.1.toNat 0∧0 < left.getD e.2.toNat 0 then
        match ffS (insE e es) (decAt (decAt left e.1.toNat) e.2.toNat) r with
        | some x=>some x
        | none=>ffS es left r
      else ffS es left r
def ffV (n:Int):Option (List (Int×Int))→IV
  | none=>.tup [.agg [I 0,Z],Bo false]
  | some h=>.tup [OG n h,Bo true]
set_option maxHeartbeats 8000000 in
theorem ev_findFactor (n:Nat) (hn:n≤7) (all:List (Int×Int)) (hal:all.length≤21) (hall:∀ e ∈ all,0≤e.1∧e.1 < e.2∧e.2 < n) :
    ∀ (m k:Nat) (es:List (Int×Int)) (c2 c3:Bool) (left:List Int),k+m=all.length→es.length≤k→left.length=n→(∀ x ∈ left,0≤x∧x≤6) →
    Ev tb zl585 [] [OG n es,L left c2,L2 all c3,I k] [] ⟨ffV n (ffS es left (all.drop k)),[],[],[]⟩:=by
  intro m
  induction m with
  | zero =>
    intro k es c2 c3 left hk hes hl hb
    have h3:k=all.length:=hk
    subst h3
    have hss:SmallSum left:=Few.small ⟨by omega,fun x hx=>by have:=hb x hx;omega⟩
    have e1:=fun c=>ev_lim (ev_spec_sum left c hss)
    have ht:es.take es.length=es:=List.take_of_length_le (Nat.le_refl _)
    rw [List.drop_length,ffS]
    by_cases h0:left.sum=0
    · rw [if_pos h0]
      simp only [ffV]
      refine call_of_wp zt585 rfl ?_
      repeat (first|apply wp_as|apply wp_ss|refine wr (by simp [e1,h0,ht];with_reducible rfl) ?_|refine wq (by simp [e1,h0,ht];with_reducible rfl) ?_|refine wt (by simpa [e1,h0,ht]) ?_|refine wf (by simpa [e1,h0,ht]) ?_|refine xt (by simpa [e1,h0,ht]) ?_|refine xf (by simpa [e1,h0,ht]) ?_|apply wp_bs|apply wp_b|refine wp_sr ?_|refine wp_sx ?_|refine wp_ret' ?_|refine wp_skip' ?_|refine wp_exit' ?_)
      simp [zi585,ht]
    · rw [if_neg h0]
      simp only [ffV]
      refine call_of_wp zt585 rfl ?_
      repeat (first|apply wp_as|apply wp_ss|refine wr (by simp [e1,h0];with_reducible rfl) ?_|refine wq (by simp [e1,h0];with_reducible rfl) ?_|refine wt (by simpa [e1,h0]) ?_|refine wf (by simpa [e1,h0]) ?_|refine xt (by simpa [e1,h0]) ?_|refine xf (by simpa [e1,h0]) ?_|apply wp_bs|apply wp_b|refine wp_sr ?_|refine wp_sx ?_|refine wp_ret' ?_|refine wp_skip' ?_|refine wp_exit' ?_)
      simp [zi585]
  | succ m ih =>
    intro k es c2 c3 left hk hes hl hb
    have hk2:k < all.length:=by omega
    have hkn:¬ k=all.length:=by omega
    have hkn2:¬ (k:Int)=(all.length:Int):=by omega
    have hd:all.drop k=all[k]::all.drop (k+1):=List.drop_eq_getElem_cons hk2
    obtain ⟨⟨x,y⟩,he⟩:∃ e,e=all[k]:=⟨_,rfl⟩
    have hxy:=hall _ (List.getElem_mem hk2)
    rw [← he] at hxy
    obtain ⟨a,rfl⟩:=Int.eq_ofNat_of_zero_le hxy.1
    obtain ⟨b,rfl⟩:=Int.eq_ofNat_of_zero_le (show 0≤y by simp only at hxy;omega)
    simp only at hxy
    have he2:=he.symm
    have hal2:a < left.length:=by omega
    have hbl2:b < left.length:=by omega
    have ga:left.getD a 0=left[a]:=by simp [List.getD_eq_getElem?_getD,List.getElem?_eq_getElem hal2]
    have gb:left.getD b 0=left[b]:=by simp [List.getD_eq_getElem?_getD,List.getElem?_eq_getElem hbl2]
    have ba:=hb _ (List.getElem_mem hal2)
    have bb:=hb _ (List.getElem_mem hbl2)
    have hab:¬ a=b:=by omega
    have w1:IntKind.i64.wrap ((k:Int)+1)=((k+1:Nat):Int):=wrapS (by omega)
    have w3:IntKind.i64.wrap (left[a] - 1)=left[a] - 1:=wrap64 (by omega) (by omega)
    have w4:IntKind.i64.wrap (left[b] - 1)=left[b] - 1:=wrap64 (by omega) (by omega)
    have hss:SmallSum left:=Few.small ⟨by omega,fun x hx=>by have:=hb x hx;omega⟩
    have hss2:SmallSum (left.take a):=Few.small ⟨by simp;omega,fun x hx=>by have:=hb x (List.mem_of_mem_take hx);omega⟩
    have e1:=fun c=>ev_lim (ev_spec_sum left c hss)
    have e12:=fun c=>ev_lim (ev_spec_sum (left.take a) c hss2)
    have e2:=fun c=>ev_lim (ev_copyInts left c (by omega))
    have e3:=fun c=>ev_lim (ev_addEdge n es c a b (by omega))
    have hmn:((min (a:Int) b,max (a:Int) b):Int×Int)=((a:Int),(b:Int)):=by
      rw [Int.min_eq_left (by omega),Int.max_eq_right (by omega)]
    rw [hmn] at e3
    have hd2:decAt (decAt left a) b=(left.set a (left[a] - 1)).set b (left[b] - 1):=by
      have h1:decAt left a=left.set a (left[a] - 1):=by rw [decAt,ga]
      have h2:(left.set a (left[a] - 1)).getD b 0=left[b]:=by
        rw [List.getD_eq_getElem?_getD,List.getElem?_set_ne hab,List.getElem?_eq_getElem hbl2];rfl
      rw [h1,decAt,h2]
    have hset:(left.set a (left[a] - 1))[b]? = some left[b]:=by rw [List.getElem?_set_ne hab,List.getElem?_eq_getElem hbl2]
    have hset':∀ h:b < (left.set a (left[a] - 1)).length,(left.set a (left[a] - 1))[b]'h=left[b]:=fun h=>List.getElem_set_ne hab _
    have ht:es.take es.length=es:=List.take_of_length_le (Nat.le_refl _)
    have htl:((left.set a (left[a] - 1)).set b (left[b] - 1)).take left.length=(left.set a (left[a] - 1)).set b (left[b] - 1):=List.take_of_length_le (by simp)
    rw [hd,← he,ffS]
    simp only [Int.toNat_natCast,ga,gb,hd2]
    by_cases h0:left.sum=0
    · rw [if_pos h0]
      simp only [ffV]
      refine call_of_wp zt585 rfl ?_
      repeat (first|apply wp_as|apply wp_ss|refine wr (by simp [e1,h0,ht];with_reducible rfl) ?_|refine wq (by simp [e1,h0,ht];with_reducible rfl) ?_|refine wt (by simpa [e1,h0,ht]) ?_|refine wf (by simpa [e1,h0,ht]) ?_|refine xt (by simpa [e1,h0,ht]) ?_|refine xf (by simpa [e1,h0,ht]) ?_|apply wp_bs|apply wp_b|refine wp_sr ?_|refine wp_sx ?_|refine wp_ret' ?_|refine wp_skip' ?_|refine wp_exit' ?_)
      simp [zi585,ht]
    rw [if_neg h0]
    by_cases hp:0 < (left.take a).sum
    · rw [if_pos hp]
      simp only [ffV]
      refine call_of_wp zt585 rfl ?_
      repeat (first|apply wp_as|apply wp_ss|refine wr (by simp [e1,h0,hkn,hkn2,hk2,he2,hal2,e12,hp,show a≤left.length by omega];with_reducible rfl) ?_|refine wq (by simp [e1,h0,hkn,hkn2,hk2,he2,hal2,e12,hp,show a≤left.length by omega];with_reducible rfl) ?_|refine wt (by simpa [e1,h0,hkn,hkn2,hk2,he2,hal2,e12,hp,show a≤left.length by omega]) ?_|refine wf (by simpa [e1,h0,hkn,hkn2,hk2,he2,hal2,e12,hp,show a≤left.length by omega]) ?_|refine xt (by simpa [e1,h0,hkn,hkn2,hk2,he2,hal2,e12,hp,show a≤left.length by omega]) ?_|refine xf (by simpa [e1,h0,hkn,hkn2,hk2,he2,hal2,e12,hp,show a≤left.length by omega]) ?_|apply wp_bs|apply wp_b|refine wp_sr ?_|refine wp_sx ?_|refine wp_ret' ?_|refine wp_skip' ?_|refine wp_exit' ?_)
      simp [zi585]
    rw [if_neg hp]
    have hr:=fun c c3=>ev_lim (ih (k+1) es c c3 left (by omega) (by omega) hl hb)
    rw [show ((k+1:Nat):Int)=(k:Int)+1 by omega] at hr w1
    have hle:a≤left.length:=by omega
    by_cases htk:0 < left[a]∧0 < left[b]
    · rw [if_pos htk]
      have hb2:∀ x ∈ (left.set a (left[a] - 1)).set b (left[b] - 1),0≤x∧x≤6:=fun x hx=>by
        rcases List.mem_or_eq_of_mem_set hx with hx | rfl
        · rcases List.mem_or_eq_of_mem_set hx with hx | rfl
          · exact hb x hx
          · omega
        · omega
      have hq:=fun c c3=>ev_lim (ih (k+1) (insE ((a:Int),(b:Int)) es) c c3 ((left.set a (left[a] - 1)).set b (left[b] - 1)) (by omega) (by rw [insE_len];omega) (by simp [hl]) hb2)
      rw [show ((k+1:Nat):Int)=(k:Int)+1 by omega] at hq
      cases hF:ffS (insE ((a:Int),(b:Int)) es) ((left.set a (left[a] - 1)).set b (left[b] - 1)) (all.drop (k+1)) with
      | some z =>
        rw [hF] at hq
        simp only [ffV] at hq ⊢
        have htz:z.take z.length=z:=List.take_of_length_le (Nat.le_refl _)
        refine call_of_wp zt585 rfl ?_
        repeat (first|apply wp_as|apply wp_ss|refine wr (by simp [e1,h0,hkn,hkn2,hk2,he2,hal2,hbl2,e12,hp,htk.1,htk.2,e2,hle,w1,w3,w4,hset,hset',e3,ht,htl,hq];with_reducible rfl) ?_|refine wq (by simp [e1,h0,hkn,hkn2,hk2,he2,hal2,hbl2,e12,hp,htk.1,htk.2,e2,hle,w1,w3,w4,hset,hset',e3,ht,htl,hq];with_reducible rfl) ?_|refine wt (by simpa [e1,h0,hkn,hkn2,hk2,he2,hal2,hbl2,e12,hp,htk.1,htk.2,e2,hle,w1,w3,w4,hset,hset',e3,ht,htl,hq]) ?_|refine wf (by simpa [e1,h0,hkn,hkn2,hk2,he2,hal2,hbl2,e12,hp,htk.1,htk.2,e2,hle,w1,w3,w4,hset,hset',e3,ht,htl,hq]) ?_|refine xt (by simpa [e1,h0,hkn,hkn2,hk2,he2,hal2,hbl2,e12,hp,htk.1,htk.2,e2,hle,w1,w3,w4,hset,hset',e3,ht,htl,hq]) ?_|refine xf (by simpa [e1,h0,hkn,hkn2,hk2,he2,hal2,hbl2,e12,hp,htk.1,htk.2,e2,hle,w1,w3,w4,hset,hset',e3,ht,htl,hq]) ?_|apply wp_bs|apply wp_b|refine wp_sr ?_|refine wp_sx ?_|refine wp_ret' ?_|refine wp_skip' ?_|refine wp_exit' ?_)
        simp [zi585,htz]
      | none =>
        rw [hF] at hq
        simp only [ffV] at hq
        simp only
        cases hG:ffS es left (all.drop (k+1)) with
        | some z =>
          rw [hG] at hr
          simp only [ffV] at hr ⊢
          have htz:z.take z.length=z:=List.take_of_length_le (Nat.le_refl _)
          refine call_of_wp zt585 rfl ?_
          repeat (first|apply wp_as|apply wp_ss|refine wr (by simp [e1,h0,hkn,hkn2,hk2,he2,hal2,hbl2,e12,hp,htk.1,htk.2,e2,hle,w1,w3,w4,hset,hset',e3,ht,htl,hq,hr];with_reducible rfl) ?_|refine wq (by simp [e1,h0,hkn,hkn2,hk2,he2,hal2,hbl2,e12,hp,htk.1,htk.2,e2,hle,w1,w3,w4,hset,hset',e3,ht,htl,hq,hr];with_reducible rfl) ?_|refine wt (by simpa [e1,h0,hkn,hkn2,hk2,he2,hal2,hbl2,e12,hp,htk.1,htk.2,e2,hle,w1,w3,w4,hset,hset',e3,ht,htl,hq,hr]) ?_|refine wf (by simpa [e1,h0,hkn,hkn2,hk2,he2,hal2,hbl2,e12,hp,htk.1,htk.2,e2,hle,w1,w3,w4,hset,hset',e3,ht,htl,hq,hr]) ?_|refine xt (by simpa [e1,h0,hkn,hkn2,hk2,he2,hal2,hbl2,e12,hp,htk.1,htk.2,e2,hle,w1,w3,w4,hset,hset',e3,ht,htl,hq,hr]) ?_|refine xf (by simpa [e1,h0,hkn,hkn2,hk2,he2,hal2,hbl2,e12,hp,htk.1,htk.2,e2,hle,w1,w3,w4,hset,hset',e3,ht,htl,hq,hr]) ?_|apply wp_bs|apply wp_b|refine wp_sr ?_|refine wp_sx ?_|refine wp_ret' ?_|refine wp_skip' ?_|refine wp_exit' ?_)
          simp [zi585,htz]
        | none =>
          rw [hG] at hr
          simp only [ffV] at hr ⊢
          refine call_of_wp zt585 rfl ?_
          repeat (first|apply wp_as|apply wp_ss|refine wr (by simp [e1,h0,hkn,hkn2,hk2,he2,hal2,hbl2,e12,hp,htk.1,htk.2,e2,hle,w1,w3,w4,hset,hset',e3,ht,htl,hq,hr];with_reducible rfl) ?_|refine wq (by simp [e1,h0,hkn,hkn2,hk2,he2,hal2,hbl2,e12,hp,htk.1,htk.2,e2,hle,w1,w3,w4,hset,hset',e3,ht,htl,hq,hr];with_reducible rfl) ?_|refine wt (by simpa [e1,h0,hkn,hkn2,hk2,he2,hal2,hbl2,e12,hp,htk.1,htk.2,e2,hle,w1,w3,w4,hset,hset',e3,ht,htl,hq,hr]) ?_|refine wf (by simpa [e1,h0,hkn,hkn2,hk2,he2,hal2,hbl2,e12,hp,htk.1,htk.2,e2,hle,w1,w3,w4,hset,hset',e3,ht,htl,hq,hr]) ?_|refine xt (by simpa [e1,h0,hkn,hkn2,hk2,he2,hal2,hbl2,e12,hp,htk.1,htk.2,e2,hle,w1,w3,w4,hset,hset',e3,ht,htl,hq,hr]) ?_|refine xf (by simpa [e1,h0,hkn,hkn2,hk2,he2,hal2,hbl2,e12,hp,htk.1,htk.2,e2,hle,w1,w3,w4,hset,hset',e3,ht,htl,hq,hr]) ?_|apply wp_bs|apply wp_b|refine wp_sr ?_|refine wp_sx ?_|refine wp_ret' ?_|refine wp_skip' ?_|refine wp_exit' ?_)
          simp [zi585]
    · rw [if_neg htk]
      have hfin:∀ (P:Prop),(0 < left[a]→¬ 0 < left[b]→P)→(¬ 0 < left[a]→P)→P:=fun P h1 h2=>by
        by_cases q:0 < left[a]
        · exact h1 q fun q2=>htk ⟨q,q2⟩
        · exact h2 q
      cases hG:ffS es left (all.drop (k+1)) with
      | some z =>
        rw [hG] at hr
        simp only [ffV] at hr ⊢
        have htz:z.take z.length=z:=List.take_of_length_le (Nat.le_refl _)
        refine hfin _ (fun q1 q2=>?_) (fun q1=>?_)
        · refine call_of_wp zt585 rfl ?_
          repeat (first|apply wp_as|apply wp_ss|refine wr (by simp [e1,h0,hkn,hkn2,hk2,he2,hal2,hbl2,e12,hp,q1,q2,hle,w1,ht,hr];with_reducible rfl) ?_|refine wq (by simp [e1,h0,hkn,hkn2,hk2,he2,hal2,hbl2,e12,hp,q1,q2,hle,w1,ht,hr];with_reducible rfl) ?_|refine wt (by simpa [e1,h0,hkn,hkn2,hk2,he2,hal2,hbl2,e12,hp,q1,q2,hle,w1,ht,hr]) ?_|refine wf (by simpa [e1,h0,hkn,hkn2,hk2,he2,hal2,hbl2,e12,hp,q1,q2,hle,w1,ht,hr]) ?_|refine xt (by simpa [e1,h0,hkn,hkn2,hk2,he2,hal2,hbl2,e12,hp,q1,q2,hle,w1,ht,hr]) ?_|refine xf (by simpa [e1,h0,hkn,hkn2,hk2,he2,hal2,hbl2,e12,hp,q1,q2,hle,w1,ht,hr]) ?_|apply wp_bs|apply wp_b|refine wp_sr ?_|refine wp_sx ?_|refine wp_ret' ?_|refine wp_skip' ?_|refine wp_exit' ?_)
          simp [zi585,htz]
        · refine call_of_wp zt585 rfl ?_
          repeat (first|apply wp_as|apply wp_ss|refine wr (by simp [e1,h0,hkn,hkn2,hk2,he2,hal2,hbl2,e12,hp,q1,hle,w1,ht,hr];with_reducible rfl) ?_|refine wq (by simp [e1,h0,hkn,hkn2,hk2,he2,hal2,hbl2,e12,hp,q1,hle,w1,ht,hr];with_reducible rfl) ?_|refine wt (by simpa [e1,h0,hkn,hkn2,hk2,he2,hal2,hbl2,e12,hp,q1,hle,w1,ht,hr]) ?_|refine wf (by simpa [e1,h0,hkn,hkn2,hk2,he2,hal2,hbl2,e12,hp,q1,hle,w1,ht,hr]) ?_|refine xt (by simpa [e1,h0,hkn,hkn2,hk2,he2,hal2,hbl2,e12,hp,q1,hle,w1,ht,hr]) ?_|refine xf (by simpa [e1,h0,hkn,hkn2,hk2,he2,hal2,hbl2,e12,hp,q1,hle,w1,ht,hr]) ?_|apply wp_bs|apply wp_b|refine wp_sr ?_|refine wp_sx ?_|refine wp_ret' ?_|refine wp_skip' ?_|refine wp_exit' ?_)
          simp [zi585,htz]
      | none =>
        rw [hG] at hr
        simp only [ffV] at hr ⊢
        refine hfin _ (fun q1 q2=>?_) (fun q1=>?_)
        · refine call_of_wp zt585 rfl ?_
          repeat (first|apply wp_as|apply wp_ss|refine wr (by simp [e1,h0,hkn,hkn2,hk2,he2,hal2,hbl2,e12,hp,q1,q2,hle,w1,ht,hr];with_reducible rfl) ?_|refine wq (by simp [e1,h0,hkn,hkn2,hk2,he2,hal2,hbl2,e12,hp,q1,q2,hle,w1,ht,hr];with_reducible rfl) ?_|refine wt (by simpa [e1,h0,hkn,hkn2,hk2,he2,hal2,hbl2,e12,hp,q1,q2,hle,w1,ht,hr]) ?_|refine wf (by simpa [e1,h0,hkn,hkn2,hk2,he2,hal2,hbl2,e12,hp,q1,q2,hle,w1,ht,hr]) ?_|refine xt (by simpa [e1,h0,hkn,hkn2,hk2,he2,hal2,hbl2,e12,hp,q1,q2,hle,w1,ht,hr]) ?_|refine xf (by simpa [e1,h0,hkn,hkn2,hk2,he2,hal2,hbl2,e12,hp,q1,q2,hle,w1,ht,hr]) ?_|apply wp_bs|apply wp_b|refine wp_sr ?_|refine wp_sx ?_|refine wp_ret' ?_|refine wp_skip' ?_|refine wp_exit' ?_)
          simp [zi585]
        · refine call_of_wp zt585 rfl ?_
          repeat (first|apply wp_as|apply wp_ss|refine wr (by simp [e1,h0,hkn,hkn2,hk2,he2,hal2,hbl2,e12,hp,q1,hle,w1,ht,hr];with_reducible rfl) ?_|refine wq (by simp [e1,h0,hkn,hkn2,hk2,he2,hal2,hbl2,e12,hp,q1,hle,w1,ht,hr];with_reducible rfl) ?_|refine wt (by simpa [e1,h0,hkn,hkn2,hk2,he2,hal2,hbl2,e12,hp,q1,hle,w1,ht,hr]) ?_|refine wf (by simpa [e1,h0,hkn,hkn2,hk2,he2,hal2,hbl2,e12,hp,q1,hle,w1,ht,hr]) ?_|refine xt (by simpa [e1,h0,hkn,hkn2,hk2,he2,hal2,hbl2,e12,hp,q1,hle,w1,ht,hr]) ?_|refine xf (by simpa [e1,h0,hkn,hkn2,hk2,he2,hal2,hbl2,e12,hp,q1,hle,w1,ht,hr]) ?_|apply wp_bs|apply wp_b|refine wp_sr ?_|refine wp_sx ?_|refine wp_ret' ?_|refine wp_skip' ?_|refine wp_exit' ?_)
          simp [zi585]
theorem ev_factorOf (n:Nat) (hn:n≤7) (g:List (Int×Int)) (c:Bool) (f:List Int) (cf:Bool) (hal:g.length≤21) (hall:∀ e ∈ g,0≤e.1∧e.1 < e.2∧e.2 < n) (hl:f.length=n) (hb:∀ x ∈ f,0≤x∧x≤6) :
    Ev tb zl583 [] [Gr n g c,L f cf] [] ⟨ffV n (ffS [] f g),[],[],[]⟩:=by
  have e1:=fun c2 c3=>ev_lim (ev_findFactor n hn g hal hall g.length 0 [] c2 c3 f (by omega) (by simp) hl hb)
  rw [List.drop_zero,show ((0:Nat):Int)=0 from rfl] at e1
  simp only [OG,O2,eds_nil] at e1
  cases hF:ffS [] f g with
  | none =>
    rw [hF] at e1
    simp only [ffV] at e1 ⊢
    refine call_of_wp zt583 rfl ?_
    repeat (first|apply wp_as|apply wp_ss|refine wr (by simp [e1];with_reducible rfl) ?_|refine wq (by simp [e1];with_reducible rfl) ?_|refine wt (by simpa [e1]) ?_|refine wf (by simpa [e1]) ?_|refine xt (by simpa [e1]) ?_|refine xf (by simpa [e1]) ?_|apply wp_bs|apply wp_b|refine wp_sr ?_|refine wp_sx ?_|refine wp_ret' ?_|refine wp_skip' ?_|refine wp_exit' ?_)
    simp [zi583]
  | some h =>
    rw [hF] at e1
    simp only [ffV] at e1 ⊢
    refine call_of_wp zt583 rfl ?_
    repeat (first|apply wp_as|apply wp_ss|refine wr (by simp [e1];with_reducible rfl) ?_|refine wq (by simp [e1];with_reducible rfl) ?_|refine wt (by simpa [e1]) ?_|refine wf (by simpa [e1]) ?_|refine xt (by simpa [e1]) ?_|refine xf (by simpa [e1]) ?_|apply wp_bs|apply wp_b|refine wp_sr ?_|refine wp_sx ?_|refine wp_ret' ?_|refine wp_skip' ?_|refine wp_exit' ?_)
    simp [zi583]
def facS (f:List Int):GF→Option ((List (Int×Int)×Bool)×List (Int×Int))
  | []=>none
  | g::r=>match ffS [] f g.1 with
    | none=>facS f r
    | some h=>some (g,h)
set_option maxHeartbeats 4000000 in
theorem sf_loop (n:Nat) (hn:n≤7) (f:List Int) (cf:Bool) (R:GF) (hR:R.length≤2000000) (hall:∀ g ∈ R,g.1.length≤21∧∀ e ∈ g.1,0≤e.1∧e.1 < e.2∧e.2 < n) (hl:f.length=n) (hb:∀ x ∈ f,0≤x∧x≤6) :
    ∀ (m k:Nat) (Bx:Boxes),k+m=R.length →
    wp tb (.loop z572l10) { T:=[(1,L f cf),(4,.bptr 0 0 0),(5,.bptr 0 1 0),(7,.own 2 (glf n R)),(8,I k)],loc:=[I 0,Z]::[I 0,Z]::Bx,M:=[] }
      (fun ex st=>match facS f (R.drop k) with
        | none=>ex=.exit 0∧∃ Bx',st={ T:=[(1,L f cf),(4,.bptr 0 0 0),(5,.bptr 0 1 0),(7,.own 2 (glf n R)),(8,I R.length),(38,Bo false)],loc:=[I 0,Z]::[I 0,Z]::Bx',M:=[] }
        | some (g,h)=>ex=.ret∧∃ Bx',st={ T:=[(4,.bptr 0 0 0),(5,.bptr 0 1 0),(6,Bo true)],loc:=[I n,L2 g.1 g.2]::[I n,O2 h]::Bx',M:=[] }):=by
  intro m
  induction m with
  | zero =>
    intro k Bx hk
    have h3:k=R.length:=hk
    subst h3
    rw [List.drop_length]
    refine wp_loop ?_
    repeat (first|apply wp_as|apply wp_ss|refine wr (by simp;with_reducible rfl) ?_|refine wq (by simp;with_reducible rfl) ?_|refine wt (by simpa) ?_|refine wf (by simpa) ?_|refine xt (by simpa) ?_|refine xf (by simpa) ?_|apply wp_bs|apply wp_b|refine wp_sr ?_|refine wp_sx ?_|refine wp_ret' ?_|refine wp_skip' ?_|refine wp_exit' ?_)
    exact ⟨rfl,Bx,rfl⟩
  | succ m ih =>
    intro k Bx hk
    have hk2:k < R.length:=by omega
    have hd:R.drop k=R[k]::R.drop (k+1):=List.drop_eq_getElem_cons hk2
    obtain ⟨h1,h2⟩:=hall _ (List.getElem_mem hk2)
    obtain ⟨⟨g,cg⟩,hg⟩:∃ g,g=R[k]:=⟨_,rfl⟩
    have hg2:=hg.symm
    rw [← hg] at h1 h2
    simp only at h1 h2
    have w1:IntKind.i64.wrap ((k:Int)+1)=((k+1:Nat):Int):=wrapS (by omega)
    have e1:=ev_lim (ev_factorOf n hn g cg f cf h1 h2 hl hb)
    have hnx:=fun Bx=>ih (k+1) Bx (by omega)
    rw [hd,← hg]
    cases hF:ffS [] f g with
    | none =>
      rw [hF] at e1
      simp only [ffV] at e1
      simp only [facS,hF]
      refine wp_loop ?_
      repeat (first|apply wp_as|apply wp_ss|refine wr (by simp [hk2,hg2,e1,w1];with_reducible rfl) ?_|refine wq (by simp [hk2,hg2,e1,w1];with_reducible rfl) ?_|refine wt (by simpa [hk2,hg2,e1,w1]) ?_|refine wf (by simpa [hk2,hg2,e1,w1]) ?_|refine xt (by simpa [hk2,hg2,e1,w1]) ?_|refine xf (by simpa [hk2,hg2,e1,w1]) ?_|apply wp_bs|apply wp_b|refine wp_sr ?_|refine wp_sx ?_|refine wp_ret' ?_|refine wp_skip' ?_|refine wp_exit' ?_)
      exact hnx _
    | some h =>
      rw [hF] at e1
      simp only [ffV] at e1
      simp only [facS,hF]
      have ht:h.take h.length=h:=List.take_of_length_le (Nat.le_refl _)
      refine wp_loop ?_
      repeat (first|apply wp_as|apply wp_ss|refine wr (by simp [hk2,hg2,e1,w1];with_reducible rfl) ?_|refine wq (by simp [hk2,hg2,e1,w1];with_reducible rfl) ?_|refine wt (by simpa [hk2,hg2,e1,w1]) ?_|refine wf (by simpa [hk2,hg2,e1,w1]) ?_|refine xt (by simpa [hk2,hg2,e1,w1]) ?_|refine xf (by simpa [hk2,hg2,e1,w1]) ?_|apply wp_bs|apply wp_b|refine wp_sr ?_|refine wp_sx ?_|refine wp_ret' ?_|refine wp_skip' ?_|refine wp_exit' ?_)
      refine wp_ra (by simp [hk2,hg2,ht];with_reducible rfl) (by simp [ht];with_reducible rfl) ?_ ?_
      · intro p hp
        simp only [List.mem_cons,List.not_mem_nil,or_false] at hp
        subst hp
        exact ⟨_,by simp [hk2,hg2,ht];with_reducible rfl,by simp⟩
      repeat (first|apply wp_as|apply wp_ss|refine wr (by simp [ht];with_reducible rfl) ?_|refine wq (by simp [ht];with_reducible rfl) ?_|refine wt (by simpa [ht]) ?_|refine wf (by simpa [ht]) ?_|refine xt (by simpa [ht]) ?_|refine xf (by simpa [ht]) ?_|apply wp_bs|apply wp_b|refine wp_sr ?_|refine wp_sx ?_|refine wp_ret' ?_|refine wp_skip' ?_|refine wp_exit' ?_)
      exact ⟨rfl,_,rfl⟩
def facW (n:Int):Option ((List (Int×Int)×Bool)×List (Int×Int))→IV
  | none=>.tup [.agg [I 0,Z],.agg [I 0,Z],Bo false]
  | some (g,h)=>.tup [Gr n g.1 g.2,OG n h,Bo true]
set_option maxHeartbeats 4000000 in
theorem ev_spec_FactorRealization (d f:List Int) (cd cf:Bool) (hd:valid d=true) (hf:valid f=true) (h5:d.length≤5) (hl:f.length=d.length) :
    ∃ R:GF,R.map Prod.fst=srS d.length [] d (prs d.length)∧Ev tb zl572 [] [L d cd,L f cf] [] ⟨facW d.length (facS f R),[],[],[]⟩:=by
  obtain ⟨R,hR,E⟩:=ev_realizations d cd hd
  refine ⟨R,hR,?_⟩
  have hfd:=valid_few hd
  have hff:=valid_few hf
  have e1:=ev_lim (ev_validDegrees d cd (by omega))
  rw [hd] at e1
  have e2:=ev_lim (ev_validDegrees f cf (by omega))
  rw [hf] at e2
  have e3:=ev_lim E
  have h6:¬ (5:Int) < d.length:=by omega
  have hRr:R.map Prod.fst=reals d:=by rw [hR];exact srS_reals hd
  have hRl:R.length≤2000000:=by
    have h1:=srS_len d.length (prs d.length) [] d
    rw [← hR,List.length_map] at h1
    have h2:(prs d.length).length≤10:=by
      have:∀ n,n≤5→(prs n).length≤10:=by decide +kernel
      exact this _ h5
    have h6:2 ^ (prs d.length).length≤2 ^ 10:=Nat.pow_le_pow_right (by omega) h2
    have h7:(2:Nat) ^ 10=1024:=by decide
    omega
  have hall:∀ g ∈ R,g.1.length≤21∧∀ e ∈ g.1,0≤e.1∧e.1 < e.2∧e.2 < (d.length:Int):=fun g hg=>by
    have:=reals_few hd g.1 (by rw [← hRr];exact List.mem_map_of_mem hg)
    exact ⟨this.2,this.1⟩
  have hfb:∀ x ∈ f,0≤x∧x≤6:=fun x hx=>by have:=valid_mem hf x hx;omega
  have loop:=sf_loop d.length (by omega) f cf R hRl hall hl hfb R.length 0 [] (by omega)
  rw [List.drop_zero,show ((0:Nat):Int)=0 from rfl] at loop
  have hl':d.length=f.length:=hl.symm
  cases hF:facS f R with
  | none =>
    simp only [hF] at loop
    simp only [facW]
    refine call_of_wp zt572 rfl ?_
    repeat (first|apply wp_as|apply wp_ss|refine wr (by simp [e1,e2,hl,h6,e3];with_reducible rfl) ?_|refine wq (by simp [e1,e2,hl,h6,e3];with_reducible rfl) ?_|refine wt (by simpa [e1,e2,hl,h6,e3]) ?_|refine wf (by simpa [e1,e2,hl,h6,e3]) ?_|refine xt (by simpa [e1,e2,hl,h6,e3]) ?_|refine xf (by simpa [e1,e2,hl,h6,e3]) ?_|apply wp_bs|apply wp_b|refine wp_sr ?_|refine wp_sx ?_|refine wp_ret' ?_|refine wp_skip' ?_|refine wp_exit' ?_)
    refine wp_imp loop ?_
    rintro ex st ⟨rfl,Bx',rfl⟩
    simp only [if_true]
    repeat (first|apply wp_as|apply wp_ss|refine wr (by simp;with_reducible rfl) ?_|refine wq (by simp;with_reducible rfl) ?_|refine wt (by simpa) ?_|refine wf (by simpa) ?_|refine xt (by simpa) ?_|refine xf (by simpa) ?_|apply wp_bs|apply wp_b|refine wp_sr ?_|refine wp_sx ?_|refine wp_ret' ?_|refine wp_skip' ?_|refine wp_exit' ?_)
    simp [zi572]
  | some p =>
    obtain ⟨g,h⟩:=p
    simp only [hF] at loop
    simp only [facW]
    refine call_of_wp zt572 rfl ?_
    repeat (first|apply wp_as|apply wp_ss|refine wr (by simp [e1,e2,hl,h6,e3];with_reducible rfl) ?_|refine wq (by simp [e1,e2,hl,h6,e3];with_reducible rfl) ?_|refine wt (by simpa [e1,e2,hl,h6,e3]) ?_|refine wf (by simpa [e1,e2,hl,h6,e3]) ?_|refine xt (by simpa [e1,e2,hl,h6,e3]) ?_|refine xf (by simpa [e1,e2,hl,h6,e3]) ?_|apply wp_bs|apply wp_b|refine wp_sr ?_|refine wp_sx ?_|refine wp_ret' ?_|refine wp_skip' ?_|refine wp_exit' ?_)
    refine wp_imp loop ?_
    rintro ex st ⟨rfl,Bx',rfl⟩
    simp [zi572]
set_option maxHeartbeats 4000000 in
theorem ev_spec_FactorRealization_no (d f:List Int) (cd cf:Bool) (hdl:d.length≤2000000) (hfl:f.length≤2000000) (h:¬ (valid d=true∧valid f=true∧d.length=f.length∧d.length≤5)) :
    Ev tb zl572 [] [L d cd,L f cf] [] ⟨.tup [.agg [I 0,Z],.agg [I 0,Z],Bo false],[],[],[]⟩:=by
  have e1:=ev_lim (ev_validDegrees d cd hdl)
  have e2:=ev_lim (ev_validDegrees f cf hfl)
  cases h1:valid d with
  | false =>
    rw [h1] at e1
    refine call_of_wp zt572 rfl ?_
    repeat (first|apply wp_as|apply wp_ss|refine wr (by simp [e1];with_reducible rfl) ?_|refine wq (by simp [e1];with_reducible rfl) ?_|refine wt (by simpa [e1]) ?_|refine wf (by simpa [e1]) ?_|refine xt (by simpa [e1]) ?_|refine xf (by simpa [e1]) ?_|apply wp_bs|apply wp_b|refine wp_sr ?_|refine wp_sx ?_|refine wp_ret' ?_|refine wp_skip' ?_|refine wp_exit' ?_)
    simp [zi572]
  | true =>
    rw [h1] at e1
    cases h2:valid f with
    | false =>
      rw [h2] at e2
      refine call_of_wp zt572 rfl ?_
      repeat (first|apply wp_as|apply wp_ss|refine wr (by simp [e1,e2];with_reducible rfl) ?_|refine wq (by simp [e1,e2];with_reducible rfl) ?_|refine wt (by simpa [e1,e2]) ?_|refine wf (by simpa [e1,e2]) ?_|refine xt (by simpa [e1,e2]) ?_|refine xf (by simpa [e1,e2]) ?_|apply wp_bs|apply wp_b|refine wp_sr ?_|refine wp_sx ?_|refine wp_ret' ?_|refine wp_skip' ?_|refine wp_exit' ?_)
      simp [zi572]
    | true =>
      rw [h2] at e2
      by_cases h3:d.length=f.length
      · have h4:(5:Int) < d.length:=by
          refine Int.not_le.1 fun q=>h ⟨h1,h2,h3,by omega⟩
        have h4':(5:Int) < f.length:=by omega
        refine call_of_wp zt572 rfl ?_
        repeat (first|apply wp_as|apply wp_ss|refine wr (by simp [e1,e2,h3,h4,h4'];with_reducible rfl) ?_|refine wq (by simp [e1,e2,h3,h4,h4'];with_reducible rfl) ?_|refine wt (by simpa [e1,e2,h3,h4,h4']) ?_|refine wf (by simpa [e1,e2,h3,h4,h4']) ?_|refine xt (by simpa [e1,e2,h3,h4,h4']) ?_|refine xf (by simpa [e1,e2,h3,h4,h4']) ?_|apply wp_bs|apply wp_b|refine wp_sr ?_|refine wp_sx ?_|refine wp_ret' ?_|refine wp_skip' ?_|refine wp_exit' ?_)
        simp [zi572]
      · have h4:¬ (d.length:Int)=(f.length:Int):=by omega
        refine call_of_wp zt572 rfl ?_
        repeat (first|apply wp_as|apply wp_ss|refine wr (by simp [e1,e2,h3,h4];with_reducible rfl) ?_|refine wq (by simp [e1,e2,h3,h4];with_reducible rfl) ?_|refine wt (by simpa [e1,e2,h3,h4]) ?_|refine wf (by simpa [e1,e2,h3,h4]) ?_|refine xt (by simpa [e1,e2,h3,h4]) ?_|refine xf (by simpa [e1,e2,h3,h4]) ?_|apply wp_bs|apply wp_b|refine wp_sr ?_|refine wp_sx ?_|refine wp_ret' ?_|refine wp_skip' ?_|refine wp_exit' ?_)
        simp [zi572]
end Go.Idl
namespace Go.Idl
open Go
set_option maxHeartbeats 4000000 in
theorem pd_loop (code:List Int) (c:Bool) (hc:CodeOk code) (n:Nat) (hn5:n≤5) (es:List (Int×Int)) (cg:Bool) (hel:es.length≤21) :
    ∀ (m i cnt:Nat) (hs:List (Int×Int)),i+m=es.length→cnt+m≤60000→hs.length≤i→(∀ e ∈ hs,e ∈ es) →
    wp tb (.loop z592l9) { T:=[(0,.bptr 0 0 0),(3,.bptr 1 0 0),(4,.bptr 1 1 0),(6,.bptr 1 2 0),(7,I i)],loc:=[[I n,L2 es cg],[I 0,Z],[I n,O2 hs]],M:=[[R code c cnt]] }
      (fun ex st=>ex=.exit 0∧∃ (hs':List (Int×Int)) (k:Nat),(hs'.length≤21∧k≤60000∧∀ e ∈ hs',e ∈ es) ∧
        st={ T:=[(0,.bptr 0 0 0),(3,.bptr 1 0 0),(4,.bptr 1 1 0),(6,.bptr 1 2 0),(7,I es.length),(23,Bo false)],loc:=[[I n,L2 es cg],[I 0,Z],[I n,O2 hs']],M:=[[R code c k]] }):=by
  intro m
  induction m with
  | zero =>
    intro i cnt hs hi hcn hl hh
    have h3:i=es.length:=hi
    subst h3
    refine wp_loop ?_
    repeat (first|apply wp_as|apply wp_ss|refine wr (by simp;with_reducible rfl) ?_|refine wq (by simp;with_reducible rfl) ?_|refine wt (by simpa) ?_|refine wf (by simpa) ?_|refine xt (by simpa) ?_|refine xf (by simpa) ?_|apply wp_bs|apply wp_b|refine wp_sr ?_|refine wp_sx ?_|refine wp_ret' ?_|refine wp_skip' ?_|refine wp_exit' ?_)
    exact ⟨rfl,hs,cnt,⟨by omega,by omega,hh⟩,rfl⟩
  | succ m ih =>
    intro i cnt hs hi hcn hl hh
    have hi2:i < es.length:=by omega
    have w1:IntKind.i64.wrap ((i:Int)+1)=((i+1:Nat):Int):=wrapS (by omega)
    obtain ⟨v,k,hv,hk,e1⟩:=pick' code c hc cnt (by omega) 2 (by omega) [] [[[I n,L2 es cg],[I 0,Z],[I n,O2 hs]]]
    obtain ⟨⟨a,b⟩,hab⟩:∃ e,e=es[i]:=⟨_,rfl⟩
    have hab2:=hab.symm
    have hlm:hs.length+1≤274877906944:=by omega
    have ht:hs.take hs.length=hs:=List.take_of_length_le (Nat.le_refl _)
    have hA:=ih (i+1) k hs (by omega) (by omega) (by omega) hh
    have hB:=ih (i+1) k (hs++[(a,b)]) (by omega) (by omega) (by simp;omega) (fun e he=>by
      rcases List.mem_append.1 he with he | he
      · exact hh e he
      · simp only [List.mem_singleton] at he;rw [he,hab];exact List.getElem_mem hi2)
    cases v with
    | zero =>
      rw [show ((0:Nat):Int)=0 from rfl] at e1
      refine wp_loop ?_
      repeat (first|apply wp_as|apply wp_ss|refine wr (by simp [hi2,e1,w1];with_reducible rfl) ?_|refine wq (by simp [hi2,e1,w1];with_reducible rfl) ?_|refine wt (by simpa [hi2,e1,w1]) ?_|refine wf (by simpa [hi2,e1,w1]) ?_|refine xt (by simpa [hi2,e1,w1]) ?_|refine xf (by simpa [hi2,e1,w1]) ?_|apply wp_bs|apply wp_b|refine wp_sr ?_|refine wp_sx ?_|refine wp_ret' ?_|refine wp_skip' ?_|refine wp_exit' ?_)
      refine wp_ra (by simp [hi2,hab2,hlm,ht];with_reducible rfl) (by simp [hi2,hab2,hlm,ht];with_reducible rfl) ?_ ?_
      · intro p hp
        simp only [List.mem_cons,List.not_mem_nil,or_false] at hp
        subst hp
        exact ⟨_,by simp [hi2,hab2,hlm,ht];with_reducible rfl,by simp⟩
      repeat (first|apply wp_as|apply wp_ss|refine wr (by simp [w1];with_reducible rfl) ?_|refine wq (by simp [w1];with_reducible rfl) ?_|refine wt (by simpa [w1]) ?_|refine wf (by simpa [w1]) ?_|refine xt (by simpa [w1]) ?_|refine xf (by simpa [w1]) ?_|apply wp_bs|apply wp_b|refine wp_sr ?_|refine wp_sx ?_|refine wp_ret' ?_|refine wp_skip' ?_|refine wp_exit' ?_)
      exact hB
    | succ v =>
      have hp:¬ (v:Int)+1=0:=by omega
      refine wp_loop ?_
      repeat (first|apply wp_as|apply wp_ss|refine wr (by simp [hi2,e1,w1,hp];with_reducible rfl) ?_|refine wq (by simp [hi2,e1,w1,hp];with_reducible rfl) ?_|refine wt (by simpa [hi2,e1,w1,hp]) ?_|refine wf (by simpa [hi2,e1,w1,hp]) ?_|refine xt (by simpa [hi2,e1,w1,hp]) ?_|refine xf (by simpa [hi2,e1,w1,hp]) ?_|apply wp_bs|apply wp_b|refine wp_sr ?_|refine wp_sx ?_|refine wp_ret' ?_|refine wp_skip' ?_|refine wp_exit' ?_)
      exact hA
theorem pd_min (n:Nat) (loc M:Boxes):∀ (m i:Nat) (d:List Int),i+m=d.length→d.length≤1000 →
    wp tb (.loop z592l19) { T:=[(3,.bptr 1 0 0),(4,.bptr 1 1 0),(8,O d),(9,I i)],loc:=loc,M:=M::[] }
      (fun ex st=>ex=.exit 3∧∃ d':List Int,d'.length=d.length∧st={ T:=[(3,.bptr 1 0 0),(4,.bptr 1 1 0),(8,O d'),(9,I d.length),(54,Bo false)],loc:=loc,M:=M::[] }):=by
  intro m
  induction m with
  | zero =>
    intro i d hi hd
    have h3:i=d.length:=hi
    subst h3
    refine wp_loop ?_
    repeat (first|apply wp_as|apply wp_ss|refine wr (by simp;with_reducible rfl) ?_|refine wq (by simp;with_reducible rfl) ?_|refine wt (by simpa) ?_|refine wf (by simpa) ?_|refine xt (by simpa) ?_|refine xf (by simpa) ?_|apply wp_bs|apply wp_b|refine wp_sr ?_|refine wp_sx ?_|refine wp_ret' ?_|refine wp_skip' ?_|refine wp_exit' ?_)
    exact ⟨rfl,d,rfl,rfl⟩
  | succ m ih =>
    intro i d hi hd
    have hi2:i < d.length:=by omega
    have w1:IntKind.i64.wrap ((i:Int)+1)=((i+1:Nat):Int):=wrapS (by omega)
    have w2:IntKind.i64.wrap ((d.length:Int) - 1)=(d.length:Int) - 1:=wrap64 (by omega) (by omega)
    have hq:=fun v=>ih (i+1) (d.set i v) (by simp;omega) (by simp;omega)
    simp only [List.length_set] at hq
    refine wp_loop ?_
    repeat (first|apply wp_as|apply wp_ss|refine wr (by simp [hi2,w1,w2];with_reducible rfl) ?_|refine wq (by simp [hi2,w1,w2];with_reducible rfl) ?_|refine wt (by simpa [hi2,w1,w2]) ?_|refine wf (by simpa [hi2,w1,w2]) ?_|refine xt (by simpa [hi2,w1,w2]) ?_|refine xf (by simpa [hi2,w1,w2]) ?_|apply wp_bs|apply wp_b|refine wp_sr ?_|refine wp_sx ?_|refine wp_ret' ?_|refine wp_skip' ?_|refine wp_exit' ?_)
    exact hq _
set_option maxHeartbeats 8000000 in
theorem ev_partDegrees (code:List Int) (c:Bool) (hc:CodeOk code) (cnt:Nat) (hn:cnt≤50000) (n:Nat) (hn5:n≤5) (es:List (Int×Int)) (cg:Bool) (hs:es.Sublist (prs n)) :
    ∃ (f:List Int) (k:Nat),f.length≤10∧limF tb zl592 [] [.bptr 0 0 0,Gr n es cg] [[R code c cnt]]=some ⟨.tup [Gr n es cg,O f],[],[[R code c k]],[]⟩:=by
  have hel:es.length≤21:=by
    have h1:=hs.length_le
    have:=prs21 n (by omega)
    omega
  have hin:=prs_in hs
  suffices hh:∃ r,(∃ (f:List Int) (k:Nat),f.length≤10∧r=⟨.tup [Gr n es cg,O f],[],[[R code c k]],[]⟩)∧Ev tb zl592 [] [.bptr 0 0 0,Gr n es cg] [[R code c cnt]] r by
    obtain ⟨r,⟨f,k,h1,rfl⟩,h⟩:=hh
    exact ⟨f,k,h1,ev_lim h⟩
  have v1:=ev_lim (ev_validGraph n es cg (by omega))
  refine call_ex zt592 rfl ?_
  cases hv:vGraph n es with
  | false =>
    rw [hv] at v1
    repeat (first|apply wp_as|apply wp_ss|refine wr (by simp [v1];with_reducible rfl) ?_|refine wq (by simp [v1];with_reducible rfl) ?_|refine wt (by simpa [v1]) ?_|refine wf (by simpa [v1]) ?_|refine xt (by simpa [v1]) ?_|refine xf (by simpa [v1]) ?_|apply wp_bs|apply wp_b|refine wp_sr ?_|refine wp_sx ?_|refine wp_ret' ?_|refine wp_skip' ?_|refine wp_exit' ?_)
    exact ⟨.inr rfl,_,⟨[],cnt,by simp,rfl⟩,by simp [zi592]⟩
  | true =>
    rw [hv] at v1
    have loop:=pd_loop code c hc n hn5 es cg hel es.length 0 cnt [] (by omega) (by omega) (by simp) (by simp)
    rw [show ((0:Nat):Int)=0 from rfl] at loop
    simp only [O2,eds_nil] at loop
    repeat (first|apply wp_as|apply wp_ss|refine wr (by simp [v1];with_reducible rfl) ?_|refine wq (by simp [v1];with_reducible rfl) ?_|refine wt (by simpa [v1]) ?_|refine wf (by simpa [v1]) ?_|refine xt (by simpa [v1]) ?_|refine xf (by simpa [v1]) ?_|apply wp_bs|apply wp_b|refine wp_sr ?_|refine wp_sx ?_|refine wp_ret' ?_|refine wp_skip' ?_|refine wp_exit' ?_)
    refine wp_imp loop ?_
    rintro ex st ⟨rfl,hs',k,⟨hl',hk,hmem⟩,rfl⟩
    simp only [if_true]
    have hin':EdgesIn n hs':=fun e he=>hin e (hmem e he)
    have e2:=ev_lim (ev_degrees n hs' false (by omega) (by omega) hin')
    have hdl:(degs n hs').length=n:=by rw [degs,dfold_len];simp
    have hlo:Low 1000 (degs n hs'):=by
      intro x hx
      have:=dfold_bound hs' (List.replicate n 0) 0 (by intro x hx;have:=List.eq_of_mem_replicate hx;omega) (by omega) x hx
      omega
    have ht:(eds hs').take (eds hs').length=eds hs':=List.take_of_length_le (Nat.le_refl _)
    generalize degs n hs'=d at *
    obtain ⟨v,k2,hv2,hk2,e3⟩:=pick' code c hc k (by omega) 6 (by omega) [] [[[I n,L2 es cg],[I 0,Z],[I n,O2 hs']]]
    have hdt:d.take d.length=d:=List.take_of_length_le (Nat.le_refl _)
    by_cases v0:v=0
    · subst v0
      rw [show ((0:Nat):Int)=0 from rfl] at e3
      obtain ⟨f,k3,hf,-,hk3,e4⟩:=ev_lifted code c hc k2 (by omega) d (by omega) hlo [] [[[I n,L2 es cg],[I 0,Z],[I n,O2 hs']]]
      repeat (first|apply wp_as|apply wp_ss|refine wr (by simp [e2,e3];with_reducible rfl) ?_|refine wq (by simp [e2,e3];with_reducible rfl) ?_|refine wt (by simpa [e2,e3]) ?_|refine wf (by simpa [e2,e3]) ?_|refine xt (by simpa [e2,e3]) ?_|refine xf (by simpa [e2,e3]) ?_|apply wp_bs|apply wp_b|refine wp_sr ?_|refine wp_sx ?_|refine wp_ret' ?_|refine wp_skip' ?_|refine wp_exit' ?_)
      refine wp_ra (by simp [e4];with_reducible rfl) (by simp;with_reducible rfl) ?_ ?_
      · intro p hp
        simp only [List.mem_cons,List.not_mem_nil,or_false] at hp
        subst hp
        exact ⟨_,by simp [e4];with_reducible rfl,by simp⟩
      repeat (first|apply wp_as|apply wp_ss|refine wr (by simp;with_reducible rfl) ?_|refine wq (by simp;with_reducible rfl) ?_|refine wt (by simpa) ?_|refine wf (by simpa) ?_|refine xt (by simpa) ?_|refine xf (by simpa) ?_|apply wp_bs|apply wp_b|refine wp_sr ?_|refine wp_sx ?_|refine wp_ret' ?_|refine wp_skip' ?_|refine wp_exit' ?_)
      exact ⟨.inr rfl,_,⟨f,k3,by omega,rfl⟩,by simp [zi592]⟩
    by_cases v1':v=1
    · subst v1'
      rw [show ((1:Nat):Int)=1 from rfl] at e3
      have lm:=pd_min n [[I n,L2 es cg],[I 0,Z],[I n,O2 hs']] [R code c k2] d.length 0 d (by omega) (by omega)
      rw [show ((0:Nat):Int)=0 from rfl] at lm
      repeat (first|apply wp_as|apply wp_ss|refine wr (by simp [e2,e3];with_reducible rfl) ?_|refine wq (by simp [e2,e3];with_reducible rfl) ?_|refine wt (by simpa [e2,e3]) ?_|refine wf (by simpa [e2,e3]) ?_|refine xt (by simpa [e2,e3]) ?_|refine xf (by simpa [e2,e3]) ?_|apply wp_bs|apply wp_b|refine wp_sr ?_|refine wp_sx ?_|refine wp_ret' ?_|refine wp_skip' ?_|refine wp_exit' ?_)
      refine wp_imp lm ?_
      rintro ex st ⟨rfl,d',hd',rfl⟩
      simp only [if_true]
      repeat (first|apply wp_as|apply wp_ss|refine wr (by simp;with_reducible rfl) ?_|refine wq (by simp;with_reducible rfl) ?_|refine wt (by simpa) ?_|refine wf (by simpa) ?_|refine xt (by simpa) ?_|refine xf (by simpa) ?_|apply wp_bs|apply wp_b|refine wp_sr ?_|refine wp_sx ?_|refine wp_ret' ?_|refine wp_skip' ?_|refine wp_exit' ?_)
      exact ⟨.inr rfl,_,⟨d',k2,by omega,rfl⟩,by simp [zi592]⟩
    by_cases v2:v=2
    · subst v2
      rw [show ((2:Nat):Int)=2 from rfl] at e3
      obtain ⟨f,k3,hf,-,hk3,e4⟩:=ev_bent code c hc k2 (by omega) d (by omega) hlo [] [[[I n,L2 es cg],[I 0,Z],[I n,O2 hs']]]
      repeat (first|apply wp_as|apply wp_ss|refine wr (by simp [e2,e3];with_reducible rfl) ?_|refine wq (by simp [e2,e3];with_reducible rfl) ?_|refine wt (by simpa [e2,e3]) ?_|refine wf (by simpa [e2,e3]) ?_|refine xt (by simpa [e2,e3]) ?_|refine xf (by simpa [e2,e3]) ?_|apply wp_bs|apply wp_b|refine wp_sr ?_|refine wp_sx ?_|refine wp_ret' ?_|refine wp_skip' ?_|refine wp_exit' ?_)
      refine wp_ra (by simp [e4];with_reducible rfl) (by simp;with_reducible rfl) ?_ ?_
      · intro p hp
        simp only [List.mem_cons,List.not_mem_nil,or_false] at hp
        subst hp
        exact ⟨_,by simp [e4];with_reducible rfl,by simp⟩
      repeat (first|apply wp_as|apply wp_ss|refine wr (by simp;with_reducible rfl) ?_|refine wq (by simp;with_reducible rfl) ?_|refine wt (by simpa) ?_|refine wf (by simpa) ?_|refine xt (by simpa) ?_|refine xf (by simpa) ?_|apply wp_bs|apply wp_b|refine wp_sr ?_|refine wp_sx ?_|refine wp_ret' ?_|refine wp_skip' ?_|refine wp_exit' ?_)
      exact ⟨.inr rfl,_,⟨f,k3,by omega,rfl⟩,by simp [zi592]⟩
    have u1:¬ (v:Int)=1:=by omega
    have u2:¬ (v:Int)=2:=by omega
    repeat (first|apply wp_as|apply wp_ss|refine wr (by simp [e2,e3,v0,u1,u2,v1',v2];with_reducible rfl) ?_|refine wq (by simp [e2,e3,v0,u1,u2,v1',v2];with_reducible rfl) ?_|refine wt (by simpa [e2,e3,v0,u1,u2,v1',v2]) ?_|refine wf (by simpa [e2,e3,v0,u1,u2,v1',v2]) ?_|refine xt (by simpa [e2,e3,v0,u1,u2,v1',v2]) ?_|refine xf (by simpa [e2,e3,v0,u1,u2,v1',v2]) ?_|apply wp_bs|apply wp_b|refine wp_sr ?_|refine wp_sx ?_|refine wp_ret' ?_|refine wp_skip' ?_|refine wp_exit' ?_)
    exact ⟨.inr rfl,_,⟨d,k2,by omega,rfl⟩,by simp [zi592]⟩
theorem ev_DrawFactorRealization (code:List Int) (c:Bool) (h:∀ x ∈ code,0≤x∧x≤255) (hl:code.length≤10000000) :
    ∃ d f:List Int,d.length≤5∧f.length≤10∧limF tb zl561 [] [.lst 1 (bytes code) c] []=some ⟨.tup [O d,O f],[],[],[]⟩:=by
  obtain ⟨c',e⟩:=ev_newReader code c [[]] (by omega)
  have e1:=ev_lim e
  obtain ⟨n,es,k,hn5,hs,hk,e2⟩:=ev_smallGraph (code.take 2000) c' (code_ok h) 0 (by omega) [] []
  obtain ⟨f,k2,hf,e3⟩:=ev_partDegrees (code.take 2000) c' (code_ok h) k (by omega) n hn5 es false hs
  have hel:es.length≤21:=by
    have h1:=hs.length_le
    have:=prs21 n (by omega)
    omega
  have e4:=ev_lim (ev_degrees n es false (by omega) (by omega) (prs_in hs))
  have hdl:(degs n es).length=n:=by rw [degs,dfold_len];simp
  refine ⟨degs n es,f,by omega,hf,ev_lim ?_⟩
  rw [show ((0:Nat):Int)=0 from rfl] at e2
  refine call_of_wp zt561 rfl ?_
  repeat (first|apply wp_as|apply wp_ss|refine wr (by simp [e1,e2,e3,e4];with_reducible rfl) ?_|refine wq (by simp [e1,e2,e3,e4];with_reducible rfl) ?_|refine wt (by simpa [e1,e2,e3,e4]) ?_|refine wf (by simpa [e1,e2,e3,e4]) ?_|refine xt (by simpa [e1,e2,e3,e4]) ?_|refine xf (by simpa [e1,e2,e3,e4]) ?_|apply wp_bs|apply wp_b|refine wp_sr ?_|refine wp_sx ?_|refine wp_ret' ?_|refine wp_skip' ?_|refine wp_exit' ?_)
  simp [zi561]
end Go.Idl
namespace Go.Idl
open Go
abbrev Str (s:ByteArray):IV:=.sc (.string s)
def strs (l:List ByteArray):List (List IV):=l.map fun s=>[Str s]
@[simp] theorem strs_len (l:List ByteArray):(strs l).length=l.length:=by simp [strs]
@[simp] theorem strs_get (l:List ByteArray) (i:Nat) (h:i < (strs l).length):(strs l)[i]=[IV.sc (.string (l[i]'(by simpa [strs] using h)))]:=by simp [strs]
@[simp] theorem strs_get? (l:List ByteArray) (i:Nat):(strs l)[i]? = l[i]?.map fun s=>[IV.sc (.string s)]:=by simp [strs]
end Go.Idl
namespace Go.Idl
open Go
@[simp] theorem un_neg (n:Int):Op.unary .neg (.int .i64 n)=.pure (.int .i64 (IntKind.i64.wrap (-n))):=by
  rw [← Int.zero_sub];rfl
def gs (r c:List Int) (i:Nat):Int:=-((fall r).take (i+1)).sum+(c.map fun x:Int=>min x ((i:Int)+1)).sum
end Go.Idl
namespace Go.Idl
open Go
def TT (n:Nat) (t:List (List Int)):Prop:=t.length=n∧∀ r ∈ t,r.length=n∧∀ x ∈ r,0≤x∧x≤1
theorem TT.set {n:Nat} {t:List (List Int)} (h:TT n t) {a b:Nat} {v:Int} (ha:a < t.length) (hv:0≤v∧v≤1):TT n (t.set a (t[a].set b v)):=by
  refine ⟨by simpa using h.1,fun r hr=>?_⟩
  have h1:=h.2 _ (List.getElem_mem ha)
  rcases List.mem_or_eq_of_mem_set hr with hr | rfl
  · exact h.2 r hr
  · refine ⟨by simpa using h1.1,fun x hx=>?_⟩
    rcases List.mem_or_eq_of_mem_set hx with hx | rfl
    · exact h1.2 x hx
    · exact hv
end Go.Idl
namespace Go.Idl
open Go
def MM (h w:Nat) (t:List (List Int)):Prop:=t.length=h∧∀ r ∈ t,r.length=w∧∀ x ∈ r,0≤x∧x≤1
end Go.Idl
namespace Go.Idl
open Go
theorem MM.sums {h w:Nat} {t:List (List Int)} (ht:MM h w t) (hw:w≤5):∀ x ∈ t.map List.sum,0≤x∧x≤5:=by
  intro x hx
  obtain ⟨r,hr,rfl⟩:=List.mem_map.1 hx
  have h1:=ht.2 r hr
  have:=sum01 r h1.2
  omega
end Go.Idl
namespace Go.Idl
def gS (s:List Int):Bool:=s.all (fun x=>decide (0≤x) && decide (x < s.length)) && decide (s.sum % 2=0) && noneNeg (slS s)
theorem all_perm' {xs ys:List Int} (h:xs.Perm ys) (p:Int→Bool):xs.all p=ys.all p:=by
  rw [Bool.eq_iff_iff,List.all_eq_true,List.all_eq_true]
  exact ⟨fun k x hx=>k x (h.mem_iff.2 hx),fun k x hx=>k x (h.mem_iff.1 hx)⟩
theorem graphic_gS {d:List Int} (hl:d.length≤7):graphic d=gS (fall d):=by
  rw [graphic,gS,valid,slacks_S,fall_len,fall_sum,all_perm' (fall_perm d),decide_eq_true hl,Bool.true_and]
  rfl
end Go.Idl
namespace Go.Idl
def encI:List Int→Nat
  | []=>0
  | x::r=>x.toNat+8 * encI r
theorem dig_enc:∀ (l:List Int) (i:Nat),(∀ x ∈ l,0≤x∧x < 8)→encI l / 8 ^ i % 8=(l.getD i 0).toNat
  | [],i,_=>by simp [encI]
  | x::r,0,h=>by
    have:=h x (by simp)
    simp only [encI,Nat.pow_zero,Nat.div_one,List.getD_cons_zero];omega
  | x::r,i+1,h=>by
    have h1:=h x (by simp)
    have h2:=dig_enc r i fun y hy=>h y (by simp [hy])
    rw [encI,Nat.pow_succ,Nat.mul_comm (8 ^ i),← Nat.div_div_eq_div_mul,show (x.toNat+8 * encI r) / 8=encI r by omega,h2,List.getD_cons_succ]
theorem enc_dec:∀ (l:List Int) (i:Nat),(∀ x ∈ l,0≤x∧x < 8)→0 < l.getD i 0→encI (decAt l i)+8 ^ i=encI l
  | [],i,_,h=>by simp at h
  | x::r,0,h,hp=>by
    simp only [List.getD_cons_zero] at hp
    simp only [decAt,List.getD_cons_zero,List.set_cons_zero,encI,Nat.pow_zero];omega
  | x::r,i+1,h,hp=>by
    rw [List.getD_cons_succ] at hp
    have h2:=enc_dec r i (fun y hy=>h y (by simp [hy])) hp
    rw [decAt] at h2
    rw [decAt,List.getD_cons_succ,List.set_cons_succ,encI,encI,Nat.pow_succ];omega
theorem enc_zero:∀ l:List Int,(∀ x ∈ l,0≤x∧x < 8)→(encI l=0 ↔ l.sum=0)
  | [],_=>by simp [encI]
  | x::r,h=>by
    have h1:=h x (by simp)
    have h2:=enc_zero r fun y hy=>h y (by simp [hy])
    have h3:0≤r.sum:=by
      have:∀ {l:List Int},(∀ x ∈ l,0≤x∧x < 8)→0≤l.sum:=by
        intro l
        induction l with
        | nil=>intro _;simp
        | cons y l ih=>intro h;have:=ih fun z hz=>h z (by simp [hz]);have:=h y (by simp);simp only [List.sum_cons];omega
      exact this fun y hy=>h y (by simp [hy])
    rw [encI,List.sum_cons];omega
theorem dec_bound {l:List Int} {i:Nat} (h:∀ x ∈ l,0≤x∧x < 8) (hp:0 < l.getD i 0):∀ x ∈ decAt l i,0≤x∧x < 8:=by
  intro x hx
  rcases List.mem_or_eq_of_mem_set hx with hx | rfl
  · exact h x hx
  · have:l.getD i 0 < 8:=by
      rw [List.getD_eq_getElem?_getD] at hp ⊢
      cases hq:l[i]? with
      | none=>rw [hq] at hp;simp at hp
      | some y=>have:=h y (List.mem_of_getElem? hq);simpa using this.2
    omega
theorem dec_other {l:List Int} {i j:Nat} (h:i ≠ j):(decAt l i).getD j 0=l.getD j 0:=by
  rw [decAt,List.getD_eq_getElem?_getD,List.getElem?_set_ne h,List.getD_eq_getElem?_getD]
end Go.Idl
namespace Go.Idl
noncomputable def fcN (n:Nat) (P:List (Nat×Nat)):Nat→Nat→Bool :=
  List.rec (motive:=fun _=>Nat→Nat→Bool) (fun p q=>Bool.rec false (Nat.beq q 0) (Nat.beq p 0))
    (fun e _ ih p q =>
      Bool.rec
        (Bool.rec
          (Bool.rec (Bool.rec false (ih p q) (Nat.beq (Nat.add (Nat.mod (Nat.div p (Nat.pow 8 e.1)) 8) (Nat.mod (Nat.div q (Nat.pow 8 e.1)) 8)) 0)) (ih p q) (Nat.ble (e.2+2) n))
          true
          (Bool.rec false (Bool.rec false (ih p (Nat.sub (Nat.sub q (Nat.pow 8 e.1)) (Nat.pow 8 e.2))) (Nat.ble 1 (Nat.mod (Nat.div q (Nat.pow 8 e.2)) 8))) (Nat.ble 1 (Nat.mod (Nat.div q (Nat.pow 8 e.1)) 8))))
        true
        (Bool.rec false (Bool.rec false (ih (Nat.sub (Nat.sub p (Nat.pow 8 e.1)) (Nat.pow 8 e.2)) q) (Nat.ble 1 (Nat.mod (Nat.div p (Nat.pow 8 e.2)) 8))) (Nat.ble 1 (Nat.mod (Nat.div p (Nat.pow 8 e.1)) 8)))) P
theorem rec_iteB (b x y:Bool):(Bool.rec x y b:Bool)=if b=true then y else x:=by cases b <;> rfl
theorem boolF (A1 A2 X B1 B2 Y C D Z:Bool) (h:(Bool.rec (Bool.rec (Bool.rec (Bool.rec false Z D) Z C) true (Bool.rec false (Bool.rec false Y B2) B1)) true (Bool.rec false (Bool.rec false X A2) A1):Bool)=true) :
    (A1=true∧A2=true∧X=true) ∨ (B1=true∧B2=true∧Y=true) ∨ Z=true:=by
  cases A1 <;> cases A2 <;> cases X <;> cases B1 <;> cases B2 <;> cases Y <;> cases Z <;> cases C <;> cases D <;> first | exact .inl ⟨rfl,rfl,rfl⟩ | exact .inr (.inl ⟨rfl,rfl,rfl⟩) | exact .inr (.inr rfl) | cases h
theorem fcN_cons (n:Nat) (a b:Nat) (P:List (Nat×Nat)) (p q:Nat) (h:fcN n ((a,b)::P) p q=true) :
    (1≤p / 8 ^ a % 8∧1≤p / 8 ^ b % 8∧fcN n P (p - 8 ^ a - 8 ^ b) q=true) ∨ (1≤q / 8 ^ a % 8∧1≤q / 8 ^ b % 8∧fcN n P p (q - 8 ^ a - 8 ^ b)=true) ∨ fcN n P p q=true:=by
  have h2:(Bool.rec
        (Bool.rec
          (Bool.rec (Bool.rec false (fcN n P p q) (Nat.beq (Nat.add (Nat.mod (Nat.div p (Nat.pow 8 a)) 8) (Nat.mod (Nat.div q (Nat.pow 8 a)) 8)) 0)) (fcN n P p q) (Nat.ble (b+2) n))
          true
          (Bool.rec false (Bool.rec false (fcN n P p (Nat.sub (Nat.sub q (Nat.pow 8 a)) (Nat.pow 8 b))) (Nat.ble 1 (Nat.mod (Nat.div q (Nat.pow 8 b)) 8))) (Nat.ble 1 (Nat.mod (Nat.div q (Nat.pow 8 a)) 8))))
        true
        (Bool.rec false (Bool.rec false (fcN n P (Nat.sub (Nat.sub p (Nat.pow 8 a)) (Nat.pow 8 b)) q) (Nat.ble 1 (Nat.mod (Nat.div p (Nat.pow 8 b)) 8))) (Nat.ble 1 (Nat.mod (Nat.div p (Nat.pow 8 a)) 8))):Bool)=true:=h
  have h3:=boolF _ _ _ _ _ _ _ _ _ h2
  simp only [Nat.ble_eq] at h3
  exact h3
def colr (c:Int×Int→Nat) (k:Nat) (r:List (Int×Int)):List (Int×Int):=r.filter fun e=>decide (c e=k)
theorem colr_congr {c c':Int×Int→Nat} {k:Nat} {r:List (Int×Int)} (h:∀ e ∈ r,c e=c' e):colr c k r=colr c' k r :=
  List.filter_congr fun e he=>by rw [h e he]
theorem deg_cons (e:Int×Int) (r:List (Int×Int)) (v:Nat):deg (e::r) v=inc v e+deg r v:=S_cons _ _ _
theorem fcN_ok {N:Nat} (n:Nat):∀ (r:List (Int×Int)) (l1 l2:List Int),r.Nodup→(∀ e ∈ r,0≤e.1∧e.1 < e.2∧e.2 < (N:Int))→l1.length=N→l2.length=N→(∀ x ∈ l1,0≤x∧x < 8)→(∀ x ∈ l2,0≤x∧x < 8) →
    fcN n (r.map fun e=>(e.1.toNat,e.2.toNat)) (encI l1) (encI l2)=true →
    ∃ c:Int×Int→Nat,(∀ v,v < N→deg (colr c 1 r) v=l1.getD v 0)∧(∀ v,v < N→deg (colr c 2 r) v=l2.getD v 0)
  | [],l1,l2,_,_,h1,h2,b1,b2,h=>by
    have h':(Bool.rec false (Nat.beq (encI l2) 0) (Nat.beq (encI l1) 0):Bool)=true:=h
    rw [rec_iteB] at h'
    simp only [Nat.beq_eq] at h'
    split at h'
    · rename_i q1
      have q2:encI l2=0:=by simpa using h'
      have z:∀ {l:List Int},(∀ x ∈ l,0≤x∧x < 8)→encI l=0→∀ v,l.getD v 0=0:=fun {l} hl hq v=>by
        have hs:=(enc_zero l hl).1 hq
        rw [List.getD_eq_getElem?_getD]
        cases hv:l[v]? with
        | none=>rfl
        | some x =>
          have hx:=List.mem_of_getElem? hv
          have:∀ {l:List Int},(∀ x ∈ l,0≤x∧x < 8)→l.sum=0→∀ x ∈ l,x=0:=by
            intro l
            induction l with
            | nil=>intro _ _ x hx;cases hx
            | cons y l ih =>
              intro hb hs x hx
              have h0:∀ {l:List Int},(∀ x ∈ l,0≤x∧x < 8)→0≤l.sum:=by
                intro l
                induction l with
                | nil=>intro _;simp
                | cons z l ih=>intro hb;have:=ih fun w hw=>hb w (by simp [hw]);have:=hb z (by simp);rw [List.sum_cons];omega
              have a1:=hb y (by simp)
              have a2:=h0 (l:=l) fun w hw=>hb w (by simp [hw])
              rw [List.sum_cons] at hs
              rcases List.mem_cons.1 hx with rfl | hx
              · omega
              · exact ih (fun w hw=>hb w (by simp [hw])) (by omega) x hx
          simpa using this hl hs x hx
      exact ⟨fun _=>0,fun v _=>by rw [z b1 q1];rfl,fun v _=>by rw [z b2 q2];rfl⟩
    · cases h'
  | e::r,l1,l2,hn,hr,h1,h2,b1,b2,h=>by
    obtain ⟨hn1,hn2⟩:=List.nodup_cons.1 hn
    have he:=hr e (by simp)
    have hr':∀ x ∈ r,0≤x.1∧x.1 < x.2∧x.2 < (N:Int):=fun x hx=>hr x (by simp [hx])
    have hne:e.1.toNat ≠ e.2.toNat:=by omega
    have hi1:e.1.toNat < N:=by omega
    have hi2:e.2.toNat < N:=by omega
    have hinc:∀ v:Nat,inc v e=(if e.1.toNat=v then 1 else 0)+(if e.2.toNat=v then 1 else 0):=fun v=>by
      rw [inc]
      congr 1
      · exact ite_iff ⟨fun h=>by omega,fun h=>by omega⟩ _ _
      · exact ite_iff ⟨fun h=>by omega,fun h=>by omega⟩ _ _
    have dec2:∀ {l:List Int},l.length=N→∀ v,v < N→(decAt (decAt l e.1.toNat) e.2.toNat).getD v 0+inc v e=l.getD v 0:=fun {l} hl v hv=>by
      rw [decAt_get (by rw [decAt_len];omega),decAt_get (by omega),hinc];omega
    rw [List.map_cons] at h
    rcases fcN_cons n _ _ _ _ _ h with ⟨p1,p2,p3⟩ | ⟨p1,p2,p3⟩ | p3
    · rw [dig_enc l1 _ b1] at p1 p2
      have q1:0 < l1.getD e.1.toNat 0:=by omega
      have q2:0 < l1.getD e.2.toNat 0:=by omega
      have q2':0 < (decAt l1 e.1.toNat).getD e.2.toNat 0:=by rw [dec_other hne];exact q2
      have k1:=enc_dec l1 e.1.toNat b1 q1
      have b1':=dec_bound b1 q1
      have k2:=enc_dec _ e.2.toNat b1' q2'
      have b1'':=dec_bound b1' q2'
      rw [show encI l1 - 8 ^ e.1.toNat - 8 ^ e.2.toNat=encI (decAt (decAt l1 e.1.toNat) e.2.toNat) by omega] at p3
      obtain ⟨c,c1,c2⟩:=fcN_ok n r _ l2 hn2 hr' (by rw [decAt_len,decAt_len];exact h1) h2 b1'' b2 p3
      have hc:∀ k,colr (fun x=>if x=e then 1 else c x) k r=colr c k r:=fun k=>colr_congr fun x hx=>by
        have:x ≠ e:=fun h=>hn1 (h ▸ hx)
        simp [this]
      refine ⟨fun x=>if x=e then 1 else c x,fun v hv=>?_,fun v hv=>?_⟩
      · rw [colr,List.filter_cons_of_pos (by simp),deg_cons]
        have:=hc 1
        rw [colr] at this
        rw [this,c1 v hv]
        have:=dec2 h1 v hv
        omega
      · rw [colr,List.filter_cons_of_neg (by simp)]
        have:=hc 2
        rw [colr] at this
        rw [this];exact c2 v hv
    · rw [dig_enc l2 _ b2] at p1 p2
      have q1:0 < l2.getD e.1.toNat 0:=by omega
      have q2:0 < l2.getD e.2.toNat 0:=by omega
      have q2':0 < (decAt l2 e.1.toNat).getD e.2.toNat 0:=by rw [dec_other hne];exact q2
      have k1:=enc_dec l2 e.1.toNat b2 q1
      have b2':=dec_bound b2 q1
      have k2:=enc_dec _ e.2.toNat b2' q2'
      have b2'':=dec_bound b2' q2'
      rw [show encI l2 - 8 ^ e.1.toNat - 8 ^ e.2.toNat=encI (decAt (decAt l2 e.1.toNat) e.2.toNat) by omega] at p3
      obtain ⟨c,c1,c2⟩:=fcN_ok n r l1 _ hn2 hr' h1 (by rw [decAt_len,decAt_len];exact h2) b1 b2'' p3
      have hc:∀ k,colr (fun x=>if x=e then 2 else c x) k r=colr c k r:=fun k=>colr_congr fun x hx=>by
        have:x ≠ e:=fun h=>hn1 (h ▸ hx)
        simp [this]
      refine ⟨fun x=>if x=e then 2 else c x,fun v hv=>?_,fun v hv=>?_⟩
      · rw [colr,List.filter_cons_of_neg (by simp)]
        have:=hc 1
        rw [colr] at this
        rw [this];exact c1 v hv
      · rw [colr,List.filter_cons_of_pos (by simp),deg_cons]
        have:=hc 2
        rw [colr] at this
        rw [this,c2 v hv]
        have:=dec2 h2 v hv
        omega
    · obtain ⟨c,c1,c2⟩:=fcN_ok n r l1 l2 hn2 hr' h1 h2 b1 b2 p3
      have hc:∀ k,colr (fun x=>if x=e then 0 else c x) k r=colr c k r:=fun k=>colr_congr fun x hx=>by
        have:x ≠ e:=fun h=>hn1 (h ▸ hx)
        simp [this]
      refine ⟨fun x=>if x=e then 0 else c x,fun v hv=>?_,fun v hv=>?_⟩
      · rw [colr,List.filter_cons_of_neg (by simp)]
        have:=hc 1
        rw [colr] at this
        rw [this];exact c1 v hv
      · rw [colr,List.filter_cons_of_neg (by simp)]
        have:=hc 2
        rw [colr] at this
        rw [this];exact c2 v hv
noncomputable def fcChk (s:List Int):Bool:=(List.range s.length).all fun k=>!(gS s && gS (List.replicate s.length (k:Int)) && gS (s.map fun x=>x - (k:Int))) ||
  fcN s.length ((prs s.length).map fun e=>(e.1.toNat,e.2.toNat)) (encI (s.map fun x=>x - (k:Int))) (encI (List.replicate s.length (k:Int)))
set_option maxRecDepth 100000 in
theorem fcChk_all:(List.range 6).all (fun n=>allD fcChk n (n - 1) [])=true:=by kernel_rfl
theorem fall_ren (d:List Int):∃ σ:Nat→Nat,(∀ u,u < d.length→σ u < d.length)∧(∀ u v,u < d.length→v < d.length→(σ u=σ v ↔ u=v))∧((List.range d.length).map σ).Perm (List.range d.length) ∧
    ∀ u,u < d.length→d.getD u 0=(fall d).getD (σ u) 0:=by
  obtain ⟨n,hn⟩:∃ n,n=d.length:=⟨_,rfl⟩
  have hd:d=(List.range n).map fun v=>d.getD v 0:=by
    refine List.ext_getElem (by simp [hn]) fun i k1 k2=>?_
    simp [List.getD_eq_getElem?_getD,List.getElem?_eq_getElem k1]
  obtain ⟨π,hπ,hfp⟩:=perm_map_inv (f:=fun v=>d.getD v 0) (fall_perm d) hd
  have hπn:π.Nodup:=hπ.nodup_iff.2 List.nodup_range
  have hπl:π.length=n:=by rw [hπ.length_eq,List.length_range]
  have hσ:∀ v,v < n→π.idxOf v < n:=fun v hv=>by
    have hm:v ∈ π:=hπ.mem_iff.2 (List.mem_range.2 hv)
    have:=List.idxOf_lt_length_of_mem hm
    omega
  have hτσ:∀ v,v < n→π.getD (π.idxOf v) 0=v:=fun v hv=>by
    have hm:v ∈ π:=hπ.mem_iff.2 (List.mem_range.2 hv)
    have:=List.idxOf_lt_length_of_mem hm
    rw [List.getD_eq_getElem?_getD,List.getElem?_eq_getElem this,List.getElem_idxOf];rfl
  have hp2:((List.range n).map (π.idxOf ·)).Perm (List.range n):=by
    have hmap:π.map (π.idxOf ·)=List.range n:=by
      refine List.ext_getElem (by simp [hπl]) fun i k1 k2=>?_
      rw [List.getElem_map,List.getElem_range]
      exact hπn.idxOf_getElem i (by simpa using k1)
    have:=hπ.symm.map (π.idxOf ·)
    rwa [hmap] at this
  have hf:∀ i,i < n→(fall d).getD i 0=d.getD (π.getD i 0) 0:=fun i hi=>by
    rw [hfp,List.getD_eq_getElem?_getD,List.getElem?_map,List.getD_eq_getElem?_getD (l:=π),List.getElem?_eq_getElem (by omega:i < π.length)];rfl
  rw [← hn]
  exact ⟨(π.idxOf ·),hσ,fun u v hu hv=>⟨fun h=>by
    have h:π.idxOf u=π.idxOf v:=h
    rw [← hτσ u hu,h,hτσ v hv],fun h=>by rw [h]⟩,hp2,fun u hu=>by rw [hf _ (hσ u hu),hτσ u hu]⟩
theorem S_two (c:Int×Int→Nat) (f:Int×Int→Int):∀ l:List (Int×Int),S (l.filter fun e=>decide (c e=1 ∨ c e=2)) f=S (colr c 1 l) f+S (colr c 2 l) f
  | []=>rfl
  | e::l=>by
    have ih:=S_two c f l
    simp only [colr] at ih ⊢
    by_cases h1:c e=1
    · rw [List.filter_cons_of_pos (by simp [h1]),List.filter_cons_of_pos (by simp [h1]),List.filter_cons_of_neg (by simp [h1]),S_cons,S_cons,ih];omega
    · by_cases h2:c e=2
      · rw [List.filter_cons_of_pos (by simp [h2]),List.filter_cons_of_neg (by simp [h2]),List.filter_cons_of_pos (by simp [h2]),S_cons,S_cons,ih];omega
      · rw [List.filter_cons_of_neg (by simp [h1,h2]),List.filter_cons_of_neg (by simp [h1]),List.filter_cons_of_neg (by simp [h2]),ih]
theorem getD_rep {n v:Nat} {k:Int} (hv:v < n):(List.replicate n k).getD v 0=k:=by
  simp [List.getD_eq_getElem?_getD,hv]
theorem graphic_in {d:List Int} (h:graphic d=true):valid d=true:=by
  simp only [graphic,Bool.and_eq_true] at h;exact h.1.1
theorem fc_ex {d:List Int} {k:Int} (h5:d.length≤5) (g1:graphic d=true) (g2:graphic (List.replicate d.length k)=true) (g3:graphic (d.map fun x=>x - k)=true) :
    ∃ g h:List (Int×Int),vGraph d.length g=true∧degs d.length g=d∧vGraph d.length h=true∧degs d.length h=List.replicate d.length k∧∀ e ∈ h,e ∈ g:=by
  obtain ⟨n,hn⟩:∃ n,n=d.length:=⟨_,rfl⟩
  rw [← hn] at h5 g2 ⊢
  by_cases h0:n=0
  · have hd:d=[]:=List.length_eq_zero_iff.1 (by omega)
    subst h0 hd
    exact ⟨[],[],rfl,rfl,rfl,rfl,by simp⟩
  have v1:=graphic_in g1
  have v2:=graphic_in g2
  have v3:=graphic_in g3
  have hkm:k ∈ List.replicate n k:=List.mem_replicate.2 ⟨h0,rfl⟩
  have hkb:=valid_mem v2 k hkm
  rw [List.length_replicate] at hkb
  obtain ⟨kn,rfl⟩:=Int.eq_ofNat_of_zero_le hkb.1
  have hkn:kn < n:=by omega
  have hsl:(fall d).length=n:=by rw [fall_len,hn]
  have hb:∀ x ∈ fall d,0≤x∧x≤((n - 1:Nat):Int):=fun x hx=>by
    have:=valid_mem v1 x (fall_mem.1 hx)
    omega
  have hc:=List.all_eq_true.1 fcChk_all n (List.mem_range.2 (by omega))
  have h3:=allD_ok fcChk n (n - 1) [] (fall d) hc hsl (fall_desc d) hb
  simp only [List.reverse_nil,List.nil_append,fcChk,List.all_eq_true,List.mem_range,hsl] at h3
  have h4:=h3 kn hkn
  have e1:gS (fall d)=true:=by rw [← graphic_gS (by omega)];exact g1
  have hdr:Desc (List.replicate n (kn:Int)):=by
    rw [Desc,List.pairwise_iff_forall_sublist]
    intro a b hab
    have ha:=(List.mem_replicate.1 (hab.subset (by simp:a ∈ [a,b]))).2
    have hbb:=(List.mem_replicate.1 (hab.subset (by simp:b ∈ [a,b]))).2
    rw [ha,hbb];exact Int.le_refl _
  have e2:gS (List.replicate n (kn:Int))=true:=by
    rw [← fall_of_desc hdr,← graphic_gS (by simp;omega)];exact g2
  have hdm:Desc ((fall d).map fun x=>x - (kn:Int)):=by
    have:=fall_desc d
    rw [Desc] at this ⊢
    rw [List.pairwise_map]
    exact this.imp fun h=>by omega
  have e3:gS ((fall d).map fun x=>x - (kn:Int))=true:=by
    rw [fall_unique (xs:=d.map fun x=>x - (kn:Int)) hdm ((fall_perm d).map _),← graphic_gS (by simp;omega)];exact g3
  rw [e1,e2,e3] at h4
  simp only [Bool.and_self,Bool.not_true,Bool.false_or] at h4
  have b1:∀ x ∈ (fall d).map fun x=>x - (kn:Int),0≤x∧x < 8:=fun x hx=>by
    obtain ⟨y,hy,rfl⟩:=List.mem_map.1 hx
    have:=valid_mem v3 (y - kn) (List.mem_map_of_mem (fall_mem.1 hy))
    simp only [List.length_map] at this
    omega
  have b2:∀ x ∈ List.replicate n (kn:Int),0≤x∧x < 8:=fun x hx=>by
    have:=(List.mem_replicate.1 hx).2
    omega
  obtain ⟨c,c1,c2⟩:=fcN_ok (N:=n) n (prs n) _ _ (pw_nodup (prs_pw n)) (fun e he=>mem_prs.1 he) (by simp [hsl]) (by simp) b1 b2 h4
  obtain ⟨σ,s1,s2,s3,s4⟩:=fall_ren d
  rw [← hn] at s1 s2 s3 s4
  have hvg:vGraph n ((prs n).filter fun e=>decide (c e=1 ∨ c e=2))=true:=filter_vG (by omega) _
  have hvh:vGraph n (colr c 2 (prs n))=true:=filter_vG (by omega) _
  have dg:∀ v,v < n→deg ((prs n).filter fun e=>decide (c e=1 ∨ c e=2)) v=(fall d).getD v 0:=fun v hv=>by
    rw [deg,S_two]
    have a1:=c1 v hv
    have a2:=c2 v hv
    rw [deg] at a1 a2
    rw [a1,a2,getD_rep hv,List.getD_eq_getElem?_getD,List.getElem?_map,List.getD_eq_getElem?_getD,List.getElem?_eq_getElem (by omega:v < (fall d).length)]
    simp
  have hsb:∀ g,(rel n σ g).Sublist (prs n):=fun g=>List.filter_sublist ..
  refine ⟨rel n σ ((prs n).filter fun e=>decide (c e=1 ∨ c e=2)),rel n σ (colr c 2 (prs n)),filter_vG (by omega) _,?_,filter_vG (by omega) _,?_,fun e he=>?_⟩
  · refine (deg_degs (hsb _) hn.symm).1 fun v hv=>?_
    rw [rel_deg (by omega) s1 s2 s3 hvg hv,dg _ (s1 v hv),s4 v hv]
  · refine (deg_degs (hsb _) (by simp)).1 fun v hv=>?_
    rw [rel_deg (by omega) s1 s2 s3 hvh hv,c2 _ (s1 v hv),getD_rep (s1 v hv),getD_rep hv]
  · rw [rel,List.mem_filter,decide_eq_true_eq] at he ⊢
    refine ⟨he.1,?_⟩
    have:=List.mem_filter.1 he.2
    exact List.mem_filter.2 ⟨this.1,by have:=this.2;rw [decide_eq_true_eq] at this ⊢;exact .inr this⟩
theorem facF_some {f:List Int}:∀ {G:List (List (Int×Int))} {g h:List (Int×Int)},facF f G=some (g,h)→g ∈ G∧h ∈ subs g f []
  | [],g,h,hh=>by simp [facF] at hh
  | x::G,g,h,hh=>by
    rw [facF] at hh
    split at hh
    · obtain ⟨a,b⟩:=facF_some hh
      exact ⟨by simp [a],b⟩
    · rename_i y r hs
      simp only [Option.some.injEq,Prod.mk.injEq] at hh
      obtain ⟨rfl,rfl⟩:=hh
      exact ⟨by simp,by rw [hs];simp⟩
theorem facF_none {f:List Int}:∀ {G:List (List (Int×Int))},facF f G=none→∀ g ∈ G,subs g f []=[]
  | [],_,g,hg=>by cases hg
  | x::G,hh,g,hg=>by
    rw [facF] at hh
    split at hh
    · rename_i hs
      rcases List.mem_cons.1 hg with rfl | hg
      · exact hs
      · exact facF_none hh g hg
    · cases hh
theorem vG_of_sub {n:Nat} {g h:List (Int×Int)} (hg:vGraph n g=true) (hs:h.Sublist g):vGraph n h=true:=by
  obtain ⟨a,b,c⟩:=vG_iff.1 hg
  exact vG_iff.2 ⟨a.sublist hs,fun e he=>b e (hs.subset he),c⟩
theorem fac_ok {d f:List Int} (h7:d.length≤7) (hl:f.length=d.length) {g h:List (Int×Int)} (hF:facF f (reals d)=some (g,h)) :
    vGraph d.length g=true∧degs d.length g=d∧vGraph d.length h=true∧degs d.length h=f∧h.Sublist g:=by
  obtain ⟨a,b⟩:=facF_some hF
  obtain ⟨a1,a2⟩:=(mem_reals h7 g).1 a
  obtain ⟨s,b1,b2,b3⟩:=(mem_subs (N:=d.length) g f [] h (fun e he=>mem_prs.1 ((vG_iff.1 a1).2.1 e he)) hl).1 b
  rw [List.nil_append] at b2
  subst b2
  have hv:=vG_of_sub a1 b1
  exact ⟨a1,a2,hv,(deg_degs (vG_sub hv) hl).1 b3,b1⟩
def leftL (d f:List Int):List Int:=(List.range d.length).map fun v=>d.getD v 0 - f.getD v 0
theorem sub_filter {g h:List (Int×Int)} {n:Nat} (hg:vGraph n g=true) (hs:h.Sublist g):h=g.filter fun e=>decide (e ∈ h):=by
  have hh:=vG_of_sub hg hs
  refine pw_ext (vG_iff.1 hh).1 ((vG_iff.1 hg).1.sublist (List.filter_sublist ..)) fun e=>?_
  rw [List.mem_filter,decide_eq_true_eq]
  exact ⟨fun he=>⟨hs.subset he,he⟩,fun he=>he.2⟩
theorem left_graphic {n:Nat} {g h:List (Int×Int)} (hg:vGraph n g=true) (hs:h.Sublist g):graphic (leftL (degs n g) (degs n h))=true:=by
  have hk:vGraph n (g.filter fun e=>!decide (e ∈ h))=true:=vG_of_sub hg (List.filter_sublist ..)
  have hh:=vG_of_sub hg hs
  have he:degs n (g.filter fun e=>!decide (e ∈ h))=leftL (degs n g) (degs n h):=by
    have hlen:=degs_len n g
    refine (deg_degs (vG_sub hk) (by simp [leftL,hlen])).1 fun v hv=>?_
    have a1:=(deg_degs (vG_sub hg) (degs_len n g)).2 rfl v hv
    have a2:=(deg_degs (vG_sub hh) (degs_len n h)).2 rfl v hv
    have a3:=S_filter g (fun e=>decide (e ∈ h)) (inc v)
    rw [← sub_filter hg hs] at a3
    have a4:S h (inc v)=deg h v:=rfl
    have a5:S g (inc v)=deg g v:=rfl
    have a6:S (g.filter fun e=>!decide (e ∈ h)) (inc v)=deg (g.filter fun e=>!decide (e ∈ h)) v:=rfl
    rw [a4,a5,a6] at a3
    rw [leftL,List.getD_eq_getElem?_getD,List.getElem?_map,List.getElem?_range (by omega)]
    simp only [Option.map_some,Option.getD_some]
    omega
  rw [← he];exact degs_graphic hk
theorem fac_law {d f:List Int} (h5:d.length≤5) (hl:f.length=d.length) (hr:∀ x ∈ f,x=f.getD 0 0) :
    (facF f (reals d)).isSome=(graphic d && (graphic f && graphic (leftL d f))):=by
  have hf:f=List.replicate d.length (f.getD 0 0):=by rw [← hl];exact List.eq_replicate_iff.2 ⟨rfl,hr⟩
  have hleft:leftL d f=d.map fun x=>x - f.getD 0 0:=by
    refine List.ext_getElem (by simp [leftL]) fun i k1 k2=>?_
    have hi:i < d.length:=by simpa using k2
    have h2:f.getD i 0=f.getD 0 0:=by
      have hif:i < f.length:=by omega
      rw [List.getD_eq_getElem?_getD (i:=i),List.getElem?_eq_getElem hif]
      exact hr _ (List.getElem_mem hif)
    have h2':f[i]?.getD 0=f[0]?.getD 0:=by simpa [List.getD_eq_getElem?_getD] using h2
    simp [leftL,h2',List.getElem?_eq_getElem hi]
  rw [Bool.eq_iff_iff]
  constructor
  · intro h
    cases hF:facF f (reals d) with
    | none=>rw [hF] at h;cases h
    | some p =>
      obtain ⟨g,k⟩:=p
      obtain ⟨a1,a2,a3,a4,a5⟩:=fac_ok (by omega) hl hF
      have b1:=degs_graphic a1
      have b2:=degs_graphic a3
      have b3:=left_graphic a1 a5
      rw [a2] at b1 b3
      rw [a4] at b2 b3
      rw [b1,b2,b3];rfl
  · intro h
    simp only [Bool.and_eq_true] at h
    obtain ⟨g1,g2,g3⟩:=h
    rw [hleft] at g3
    generalize hk:f.getD 0 0=k at *
    rw [hf] at g2
    obtain ⟨g,h,a1,a2,a3,a4,a5⟩:=fc_ex h5 g1 g2 g3
    cases hF:facF f (reals d) with
    | some p=>rfl
    | none =>
      exfalso
      have hg:=(mem_reals (by omega) g).2 ⟨a1,a2⟩
      have hn:=facF_none hF g hg
      have hm:g.filter (fun e=>decide (e ∈ h)) ∈ subs g f []:=by
        refine (mem_subs (N:=d.length) g f [] _ (fun e he=>mem_prs.1 ((vG_iff.1 a1).2.1 e he)) hl).2 ⟨g.filter (fun e=>decide (e ∈ h)),List.filter_sublist ..,by simp,fun v hv=>?_⟩
        have hhh:h=g.filter fun e=>decide (e ∈ h):=by
          refine pw_ext (vG_iff.1 a3).1 ((vG_iff.1 a1).1.sublist (List.filter_sublist ..)) fun e=>?_
          rw [List.mem_filter,decide_eq_true_eq]
          exact ⟨fun he=>⟨a5 e he,he⟩,fun he=>he.2⟩
        rw [← hhh,hf]
        exact (deg_degs (vG_sub a3) (by simp)).2 a4 v hv
      rw [hn] at hm
      cases hm
theorem subs_zero:∀ (r:List (Int×Int)) (left:List Int) (ch:List (Int×Int)),(∀ x ∈ left,x=0)→subs r left ch=[ch]
  | [],left,ch,h=>by rw [subs,if_pos (List.all_eq_true.2 fun x hx=>decide_eq_true (h x hx))]
  | e::r,left,ch,h=>by
    have h0:∀ i:Nat,left.getD i 0=0:=fun i=>by
      rw [List.getD_eq_getElem?_getD]
      cases hv:left[i]? with
      | none=>rfl
      | some x=>exact h x (List.mem_of_getElem? hv)
    rw [subs,if_neg (by rw [h0];omega),List.nil_append,subs_zero r left ch h]
theorem sum_all_zero {l:List Int} (hb:∀ x ∈ l,0≤x) (hs:l.sum=0):∀ x ∈ l,x=0:=by
  have:=(sum_zero hb).1 hs
  intro x hx
  simpa using List.all_eq_true.1 this x hx
theorem ff_subs {n:Nat}:∀ (r es:List (Int×Int)) (left:List Int),PW r→(∀ x ∈ es,∀ e ∈ r,below x e=true)→(∀ e ∈ r,0≤e.1∧e.1 < e.2∧e.2 < (n:Int))→left.length=n→(∀ x ∈ left,0≤x) →
    ffS es left r=(subs r left es).head?
  | [],es,left,_,_,_,hl,hb=>by
    rw [ffS,subs]
    by_cases h:left.sum=0
    · rw [if_pos h,if_pos (List.all_eq_true.2 fun x hx=>decide_eq_true (sum_all_zero hb h x hx))];rfl
    · rw [if_neg h,if_neg fun q=>h ((sum_zero hb).2 q)];rfl
  | e::r,es,left,hp,hbl,hr,hl,hb=>by
    obtain ⟨hp1,hp2⟩:=List.pairwise_cons.1 hp
    have he:=hr e (by simp)
    have hr':∀ x ∈ r,0≤x.1∧x.1 < x.2∧x.2 < (n:Int):=fun x hx=>hr x (by simp [hx])
    rw [ffS]
    by_cases h:left.sum=0
    · rw [if_pos h,subs_zero _ _ _ (sum_all_zero hb h)];rfl
    rw [if_neg h]
    by_cases h2:0 < (left.take e.1.toNat).sum
    · rw [if_pos h2]
      cases hs:subs (e::r) left es with
      | nil=>rfl
      | cons g G =>
        exfalso
        have hg:g ∈ subs (e::r) left es:=by rw [hs];simp
        obtain ⟨s,s1,s2,s3⟩:=(mem_subs (N:=n) (e::r) left es g hr hl).1 hg
        have hz:(left.take e.1.toNat).sum=0:=by
          have:∀ x ∈ left.take e.1.toNat,x=0:=fun x hx=>by
            obtain ⟨v,hv,rfl⟩:=List.mem_iff_getElem.1 hx
            have hva:v < e.1.toNat:=by simp at hv;omega
            have hvl:v < left.length:=by simp at hv;omega
            have h3:=s3 v (by omega)
            rw [List.getElem_take]
            have h4:deg s v=0:=by
              rw [deg]
              have:∀ x ∈ s,inc v x=0:=fun x hx=>by
                have hx2:=s1.subset hx
                have h5:=hr x hx2
                have h6:e.1≤x.1:=by
                  rcases List.mem_cons.1 hx2 with rfl | hx2
                  · exact Int.le_refl _
                  · rcases (below_iff _ _).1 (hp1 x hx2) with h | h
                    · omega
                    · omega
                rw [inc,if_neg (by omega),if_neg (by omega)];rfl
              rw [S_congr this,S_zero]
            rw [h4,List.getD_eq_getElem?_getD,List.getElem?_eq_getElem hvl] at h3
            simpa using h3.symm
          have key:∀ {l:List Int},(∀ x ∈ l,x=0)→l.sum=0:=by
            intro l
            induction l with
            | nil=>intro _;rfl
            | cons y l ih=>intro h;rw [List.sum_cons,h y (by simp),ih fun z hz=>h z (by simp [hz])];rfl
          exact key this
        omega
    rw [if_neg h2,subs]
    have ih1:=ff_subs r es left hp2 (fun x hx y hy=>hbl x hx y (by simp [hy])) hr' hl hb
    by_cases h3:0 < left.getD e.1.toNat 0∧0 < left.getD e.2.toNat 0
    · rw [if_pos h3,if_pos h3]
      have hne:e.1.toNat ≠ e.2.toNat:=by omega
      have hdec:∀ {l:List Int} {i:Nat},(∀ x ∈ l,0≤x)→0 < l.getD i 0→∀ x ∈ decAt l i,0≤x:=fun {l i} hl h0 x hx=>by
        rcases List.mem_or_eq_of_mem_set hx with hx | rfl
        · exact hl x hx
        · omega
      have ih2:=ff_subs r (es++[e]) (decAt (decAt left e.1.toNat) e.2.toNat) hp2 (fun x hx y hy=>by
        rcases List.mem_append.1 hx with hx | hx
        · exact hbl x hx y (by simp [hy])
        · rw [List.mem_singleton] at hx;subst hx;exact hp1 y hy) hr' (by simp [decAt,hl]) (hdec (hdec hb h3.1) (by rw [dec_other hne];exact h3.2))
      rw [insE_end fun x hx=>hbl x hx e (by simp),ih2,ih1,List.head?_append]
      cases (subs r (decAt (decAt left e.1.toNat) e.2.toNat) (es++[e])).head? <;> rfl
    · rw [if_neg h3,if_neg h3,List.nil_append,ih1]
theorem facS_facF {n:Nat} {f:List Int} (hl:f.length=n) (hb:∀ x ∈ f,0≤x):∀ (R:GF),(∀ g ∈ R,vGraph n g.1=true) →
    (facS f R).map (fun p=>(p.1.1,p.2))=facF f (R.map Prod.fst)
  | [],_=>rfl
  | (g,c)::R,h=>by
    have hg:=h (g,c) (by simp)
    have ih:=facS_facF hl hb R fun x hx=>h x (by simp [hx])
    have hff:=ff_subs (n:=n) g [] f (vG_iff.1 hg).1 (by simp) (fun e he=>mem_prs.1 ((vG_iff.1 hg).2.1 e he)) hl hb
    rw [facS,List.map_cons,facF,hff]
    cases hs:subs g f [] with
    | nil=>exact ih
    | cons y r=>rfl
end Go.Idl
namespace Go.Idl
open Go
theorem ev_IndexFuncE (e0:Nat) (xs:List (Int×Int)) (c:Bool) (he0:e0=2 ∨ xs=[]) (F:Lab) (caps:List IV) (M:List Boxes) (p:Int×Int→Bool) (hl:xs.length≤2000000)
    (hp:∀ x ∈ xs,Ev tb F [] (.agg [I x.1,I x.2]::caps) (M++[[]]) ⟨Bo (p x),[],M++[[]],[]⟩) :
    Ev tb zl268 [] [.lst e0 (eds xs) c,.fn F caps] M ⟨I (idxE p 0 xs),[],M,[]⟩:=by
  have loop:∀ (m i:Nat),i+m=xs.length→wp tb (.loop z268l7) { T:=[(0,.lst e0 (eds xs) c),(1,.fn F caps),(7,I xs.length),(8,I i)],loc:=[],M:=M }
      (fun ex st=>(ex=.exit 0∧idxE p i (xs.drop i)=-1∧st={ T:=[(0,.lst e0 (eds xs) c),(1,.fn F caps),(7,I xs.length),(8,I xs.length),(9,Bo false)],loc:=[],M:=M }) ∨
        ex=.ret∧st={ T:=[(4,I (idxE p i (xs.drop i)))],loc:=[],M:=M }):=by
    intro m
    induction m with
    | zero =>
      intro i hi
      have h2:xs.drop i=[]:=List.drop_of_length_le (by omega)
      have h3:i=xs.length:=hi
      subst h3
      refine wp_loop ?_
      repeat (first|apply wp_as|apply wp_ss|refine wr (by simp;with_reducible rfl) ?_|refine wq (by simp;with_reducible rfl) ?_|refine wt (by simpa) ?_|refine wf (by simpa) ?_|refine xt (by simpa) ?_|refine xf (by simpa) ?_|apply wp_bs|apply wp_b|refine wp_sr ?_|refine wp_sx ?_|refine wp_ret' ?_|refine wp_skip' ?_|refine wp_exit' ?_)
      refine .inl ⟨rfl,by rw [h2];rfl,rfl⟩
    | succ m ih =>
      intro i hi
      have hi2:i < xs.length:=by omega
      have he2:e0=2:=by
        rcases he0 with h | h
        · exact h
        · rw [h] at hi2;cases hi2
      subst he2
      have h2:xs.drop i=xs[i]::xs.drop (i+1):=List.drop_eq_getElem_cons hi2
      have e1:=ev_lim (hp _ (List.getElem_mem hi2))
      have w1:IntKind.i64.wrap ((i:Int)+1)=((i+1:Nat):Int):=wrapS (by omega)
      have gx:(eds xs)[i]'(by simpa using hi2)=[I xs[i].1,I xs[i].2]:=by simp [eds]
      rw [h2]
      cases hpx:p xs[i] with
      | true =>
        refine wp_loop ?_
        repeat (first|apply wp_as|apply wp_ss|refine wr (by simp [e1,hi2,w1,hpx,gx];with_reducible rfl) ?_|refine wq (by simp [e1,hi2,w1,hpx,gx];with_reducible rfl) ?_|refine wt (by simpa [e1,hi2,w1,hpx,gx]) ?_|refine wf (by simpa [e1,hi2,w1,hpx,gx]) ?_|refine xt (by simpa [e1,hi2,w1,hpx,gx]) ?_|refine xf (by simpa [e1,hi2,w1,hpx,gx]) ?_|apply wp_bs|apply wp_b|refine wp_sr ?_|refine wp_sx ?_|refine wp_ret' ?_|refine wp_skip' ?_|refine wp_exit' ?_)
        refine .inr ⟨rfl,by simp [idxE,hpx]⟩
      | false =>
        refine wp_loop ?_
        repeat (first|apply wp_as|apply wp_ss|refine wr (by simp [e1,hi2,w1,hpx,gx];with_reducible rfl) ?_|refine wq (by simp [e1,hi2,w1,hpx,gx];with_reducible rfl) ?_|refine wt (by simpa [e1,hi2,w1,hpx,gx]) ?_|refine wf (by simpa [e1,hi2,w1,hpx,gx]) ?_|refine xt (by simpa [e1,hi2,w1,hpx,gx]) ?_|refine xf (by simpa [e1,hi2,w1,hpx,gx]) ?_|apply wp_bs|apply wp_b|refine wp_sr ?_|refine wp_sx ?_|refine wp_ret' ?_|refine wp_skip' ?_|refine wp_exit' ?_)
        have:=ih (i+1) (by omega)
        simp only [idxE,hpx] at this ⊢
        exact this
  refine call_of_wp zt268 rfl ?_
  repeat (first|apply wp_as|apply wp_ss|refine wr (by simp;with_reducible rfl) ?_|refine wq (by simp;with_reducible rfl) ?_|refine wt (by simpa) ?_|refine wf (by simpa) ?_|refine xt (by simpa) ?_|refine xf (by simpa) ?_|apply wp_bs|apply wp_b|refine wp_sr ?_|refine wp_sx ?_|refine wp_ret' ?_|refine wp_skip' ?_|refine wp_exit' ?_)
  refine wp_imp (loop xs.length 0 (by simp)) ?_
  rintro ex st (⟨rfl,h,rfl⟩ | ⟨rfl,rfl⟩)
  · simp only [if_true]
    repeat (first|apply wp_as|apply wp_ss|refine wr (by simp;with_reducible rfl) ?_|refine wq (by simp;with_reducible rfl) ?_|refine wt (by simpa) ?_|refine wf (by simpa) ?_|refine xt (by simpa) ?_|refine xf (by simpa) ?_|apply wp_bs|apply wp_b|refine wp_sr ?_|refine wp_sx ?_|refine wp_ret' ?_|refine wp_skip' ?_|refine wp_exit' ?_)
    simp at h
    simp [zi268,h]
  · simp [zi268]
theorem idxE_any (p:Int×Int→Bool) (xs:List (Int×Int)):decide (0≤idxE p 0 xs)=xs.any p:=by
  rcases idxE_spec p xs 0 with ⟨h1,h2⟩ | ⟨k,hk,h1,h2,-⟩
  · rw [show ((0:Nat):Int)=0 from rfl] at h1
    rw [h1]
    symm
    rw [show decide ((0:Int)≤-1)=false from rfl,List.any_eq_false]
    exact fun x hx=>by rw [h2 x hx];simp
  · rw [show ((0:Nat):Int)=0 from rfl] at h1
    rw [h1,decide_eq_true (by omega)]
    exact (List.any_eq_true.2 ⟨_,List.getElem_mem hk,h2⟩).symm
theorem ev_ContainsFuncE (e0:Nat) (xs:List (Int×Int)) (c:Bool) (he0:e0=2 ∨ xs=[]) (F:Lab) (caps:List IV) (M:List Boxes) (p:Int×Int→Bool) (hl:xs.length≤2000000)
    (hp:∀ x ∈ xs,Ev tb F [] (.agg [I x.1,I x.2]::caps) (M++[[]]++[[]]) ⟨Bo (p x),[],M++[[]]++[[]],[]⟩) :
    Ev tb zl262 [] [.lst e0 (eds xs) c,.fn F caps] M ⟨Bo (xs.any p),[],M,[]⟩:=by
  have e1:=ev_lim (ev_IndexFuncE e0 xs c he0 F caps (M++[[]]) p hl hp)
  rw [← idxE_any]
  generalize idxE p 0 xs=r at *
  refine call_of_wp zt262 rfl ?_
  repeat (first|apply wp_as|apply wp_ss|refine wr (by simp [e1];with_reducible rfl) ?_|refine wq (by simp [e1];with_reducible rfl) ?_|refine wt (by simpa [e1]) ?_|refine wf (by simpa [e1]) ?_|refine xt (by simpa [e1]) ?_|refine xf (by simpa [e1]) ?_|apply wp_bs|apply wp_b|refine wp_sr ?_|refine wp_sx ?_|refine wp_ret' ?_|refine wp_skip' ?_|refine wp_exit' ?_)
  simp [zi262]
end Go.Idl
namespace Go.Idl
open Go
abbrev Q4:=Int×Int×Int×Int
def sws (xs:List Q4):List (List IV):=xs.map fun s=>[I s.1,I s.2.1,I s.2.2.1,I s.2.2.2]
@[simp] theorem sws_len (xs:List Q4):(sws xs).length=xs.length:=by simp [sws]
@[simp] theorem sws_nil:sws []=[]:=rfl
@[simp] theorem sws_take (xs:List Q4) (n:Nat):(sws xs).take n=sws (xs.take n):=by simp [sws,List.map_take]
@[simp] theorem sws_drop (xs:List Q4) (n:Nat):(sws xs).drop n=sws (xs.drop n):=by simp [sws,List.map_drop]
@[simp] theorem sws_one (xs:List Q4) (a b c d:Int):sws xs++[[IV.sc (.int .i64 a),IV.sc (.int .i64 b),IV.sc (.int .i64 c),IV.sc (.int .i64 d)]]=sws (xs++[(a,b,c,d)]):=by simp [sws]
@[simp] theorem sws_get (xs:List Q4) (i:Nat) (h:i < (sws xs).length):(sws xs)[i]=[IV.sc (.int .i64 (xs[i]'(by simpa [sws] using h)).1),IV.sc (.int .i64 (xs[i]'(by simpa [sws] using h)).2.1),IV.sc (.int .i64 (xs[i]'(by simpa [sws] using h)).2.2.1),IV.sc (.int .i64 (xs[i]'(by simpa [sws] using h)).2.2.2)]:=by simp [sws]
@[simp] theorem sws_get? (xs:List Q4) (i:Nat):(sws xs)[i]? = xs[i]?.map fun s=>[IV.sc (.int .i64 s.1),IV.sc (.int .i64 s.2.1),IV.sc (.int .i64 s.2.2.1),IV.sc (.int .i64 s.2.2.2)]:=by simp [sws]
@[simp] theorem sws_all1 (xs:List Q4):((sws xs).all fun x=>x.all IV.plain1)=true:=by
  induction xs with
  | nil=>rfl
  | cons x xs ih=>simp only [sws,List.map_cons,List.all_cons] at *;rw [ih];rfl
@[simp] theorem sws_all2 (xs:List Q4):((sws xs).all fun x=>x.all IV.isData)=true:=by
  induction xs with
  | nil=>rfl
  | cons x xs ih=>simp only [sws,List.map_cons,List.all_cons] at *;rw [ih];rfl
@[simp] theorem sws_noLst (xs:List Q4):noLstLL (sws xs)=true:=by
  induction xs with
  | nil=>rfl
  | cons x xs ih=>simp only [sws,List.map_cons,noLstLL,noLstL,noLstV] at *;rw [ih];rfl
@[simp] theorem frz_sws (xs:List Q4):frzLL (sws xs)=sws xs:=by
  induction xs with
  | nil=>rfl
  | cons x xs ih=>simp only [sws,List.map_cons,frzLL,frzL,frzV] at *;rw [ih]
end Go.Idl
namespace Go.Idl
open Go
theorem ev_both (n:Nat) (es fs:List (Int×Int)) (c1 c2:Bool) (h1:vGraph n es=true) (h2:vGraph n fs=true) (f1:Fit es) (f2:Fit fs) (l1:es.length≤1000) (l2:fs.length≤1000) :
    Ev tb zl203 [] [Gr n es c1,Gr n fs c2] [] ⟨Bo true,[],[],[]⟩:=by
  have e1:=fun c=>ev_lim (ev_ValidGraph n es c f1 (by omega))
  have e2:=fun c=>ev_lim (ev_ValidGraph n fs c f2 (by omega))
  rw [h1] at e1
  rw [h2] at e2
  refine call_of_wp zt203 rfl ?_
  repeat (first|apply wp_as|apply wp_ss|refine wr (by simp [e1,e2];with_reducible rfl) ?_|refine wq (by simp [e1,e2];with_reducible rfl) ?_|refine wt (by simpa [e1,e2]) ?_|refine wf (by simpa [e1,e2]) ?_|refine xt (by simpa [e1,e2]) ?_|refine xf (by simpa [e1,e2]) ?_|apply wp_bs|apply wp_b|refine wp_sr ?_|refine wp_sx ?_|refine wp_ret' ?_|refine wp_skip' ?_|refine wp_exit' ?_)
  simp [zi203]
end Go.Idl
namespace Go.Idl
open Go
def TS (t:List (List Int)):Prop:=(1≤t.length∧t.length≤5)∧∀ r ∈ t,r.length≤5∧∀ x ∈ r,0≤x∧x≤1
theorem TS.small {t:List (List Int)} (h:TS t):Small2 t:=⟨by have:=h.1;omega,fun r hr=>⟨by have:=(h.2 r hr).1;omega,fun x hx=>by have:=(h.2 r hr).2 x hx;omega⟩⟩
theorem TT.ts {n:Nat} {t:List (List Int)} (h:TT n t) (h1:1≤n) (h5:n≤5):TS t:=⟨by have:=h.1;omega,fun r hr=>⟨by have:=(h.2 r hr).1;omega,(h.2 r hr).2⟩⟩
end Go.Idl
namespace Go.Idl
open Go
def sN (l:List Nat) (f:Nat→Int):Int:=(l.map f).sum
theorem sN_cons (x:Nat) (r:List Nat) (f:Nat→Int):sN (x::r) f=f x+sN r f:=by simp [sN]
theorem sN_add (l:List Nat) (f g:Nat→Int):sN l (fun a=>f a+g a)=sN l f+sN l g:=by
  induction l with
  | nil=>simp [sN]
  | cons x r ih=>simp only [sN_cons,ih];omega
theorem sN_congr {l:List Nat} {f g:Nat→Int} (h:∀ a ∈ l,f a=g a):sN l f=sN l g:=by
  unfold sN;rw [List.map_congr_left h]
theorem sN_one (l:List Nat):sN l (fun _=>1)=l.length:=by
  induction l with
  | nil=>simp [sN]
  | cons y r ih=>rw [sN_cons,ih];simp;omega
theorem within {g:Nat→Nat→Int}:∀ (X:List Nat),X.Nodup→(∀ a ∈ X,g a a=0)→(∀ a ∈ X,∀ b ∈ X,a ≠ b→g a b+g b a=1) →
    2 * sN X (fun a=>sN X (g a))=(X.length:Int) * ((X.length:Int) - 1)
  | [],_,_,_=>by simp [sN]
  | x::r,hd,h0,h1=>by
    have hd':=List.nodup_cons.1 hd
    have ih:=within r hd'.2 (fun a ha=>h0 a (by simp [ha])) (fun a ha b hb=>h1 a (by simp [ha]) b (by simp [hb]))
    have e1:sN r (fun a=>sN (x::r) (g a))=sN r (fun a=>g a x)+sN r (fun a=>sN r (g a)):=by
      rw [← sN_add];exact sN_congr fun a _=>sN_cons x r (g a)
    have e2:sN r (g x)+sN r (fun a=>g a x)=r.length:=by
      rw [← sN_add,sN_congr (g:=fun _=>1) (fun a ha=>h1 x (by simp) a (by simp [ha]) (fun e=>hd'.1 (by rw [e];exact ha))),sN_one]
    have e3:=h0 x (by simp)
    rw [sN_cons,sN_cons,e1,e3]
    simp only [List.length_cons]
    have:((r.length+1:Nat):Int) * (((r.length+1:Nat):Int) - 1)=(r.length:Int) * ((r.length:Int) - 1)+2 * r.length:=by
      rw [Int.natCast_add,Int.natCast_one,Int.add_sub_cancel,Int.add_mul,Int.mul_sub];omega
    rw [this,← ih];omega
end Go.Idl
namespace Go.Idl
open Go
theorem Tour.small {t:List (List Int)} (ht:Tour t):Small2 t :=
  ⟨by have:=ht.1;omega,fun r hr=>⟨by have:=(ht.2.1 r hr).1;have:=ht.1;omega,fun x hx=>by have:=(ht.2.1 r hr).2 x hx;omega⟩⟩
end Go.Idl
namespace Go.Idl
open Go
def Lil (xs:List Int):Prop:=∀ x ∈ xs,0≤x∧x≤1000
theorem Lil.sum {xs:List Int} (h:Lil xs):0≤xs.sum∧xs.sum≤1000 * xs.length:=by
  induction xs with
  | nil=>simp
  | cons x r ih =>
    have h1:=h x (by simp)
    have h2:=ih fun y hy=>h y (by simp [hy])
    simp only [List.sum_cons,List.length_cons];omega
theorem Lil.small {xs:List Int} (h:Lil xs) (hl:xs.length≤1000):SmallSum xs:=⟨by omega,fun k=>by
  have h1:Lil (xs.take k):=fun x hx=>h x (List.mem_of_mem_take hx)
  have h2:=h1.sum
  have h3:(xs.take k).length≤xs.length:=by simp;omega
  omega⟩
end Go.Idl
namespace Go.Idl
open Go
structure Cel (w h k i j:Nat):Prop where
  w5:w≤5
  h5:h≤5
  lt:k < w * h
  iw:i < w
  jh:j < h
  q1:(k:Int).tdiv (h:Int)=(i:Int)
  q2:(k:Int).tmod (h:Int)=(j:Int)
theorem Cel.n {w h k i j:Nat} (c:Cel w h k i j):IntKind.i64.wrap ((w:Int) * (h:Int))=((w * h:Nat):Int):=by
  have h1:w * h≤5 * 5:=Nat.mul_le_mul c.w5 c.h5
  rw [show ((w:Int) * (h:Int))=((w * h:Nat):Int) by omega]
  exact wrap64 (by omega) (by omega)
section
variable (w h:Nat) (rows cols:List Int) (cr cc:Bool) (A F:Lab) (caps:List IV) (hrl:rows.length=w) (hcl:cols.length=h) (may:Nat→Nat→Bool)
  (k i j:Nat) (hC:Cel w h k i j) (l r:List Int) (hll:l.length=w) (hrr:r.length=h) (t:List (List Int)) (il:i < l.length) (jr:j < r.length)
include hrl hcl hC hll hrr in
end
end Go.Idl
namespace Go.Idl
open Go
theorem getD_get {xs:List Int} {i:Nat} (h:i < xs.length):xs.getD i 0=xs[i]:=by simp [List.getD_eq_getElem?_getD,List.getElem?_eq_getElem h]
def Zf (w h k:Nat) (t:List (List Int)):Prop:=∀ i j,i < w→j < h→k≤i * h+j→g2 t i j=0
theorem Zf.succ {w h k:Nat} {t:List (List Int)} (hz:Zf w h k t):Zf w h (k+1) t:=fun i j hi hj hk=>hz i j hi hj (by omega)
end Go.Idl
namespace Go.Idl
open Go
theorem ev_IsPart (n:Nat) (h g:List (Int×Int)) (ch cg:Bool) (hh:vGraph n h=true) (hg:vGraph n g=true) (hn:n≤7) (hsub:∀ e ∈ h,e ∈ g) :
    Ev tb zl509 [] [Gr n h ch,Gr n g cg] [] ⟨Bo true,[],[],[]⟩:=by
  have h1:=vG21 hn hh
  have h2:=vG21 hn hg
  have f1:Fit h:=fun e he=>by have:=mem_prs.1 ((vG_iff.1 hh).2.1 e he);omega
  have f2:Fit g:=fun e he=>by have:=mem_prs.1 ((vG_iff.1 hg).2.1 e he);omega
  have e1:=ev_lim (ev_both n g h cg ch hg hh f2 f1 (by omega) (by omega))
  have e2:=ev_lim (ev_ContainsFuncE 2 h ch (.inl rfl) zl510 [.bptr 0 1 0] [[[I n,L2 h ch],[I n,L2 g cg]]] (fun e=>!g.any fun x=>decide (x=e)) (by omega) (fun x hx=>by
    refine call_of_wp zt510 rfl ?_
    have e1:=fun M=>ev_lim (ev_Contains2 2 g cg x (.inl rfl) (by omega) M)
    generalize (g.any fun y=>decide (y=x))=b at *
    repeat (first|apply wp_as|apply wp_ss|refine wr (by simp [e1];with_reducible rfl) ?_|refine wq (by simp [e1];with_reducible rfl) ?_|refine wt (by simpa [e1]) ?_|refine wf (by simpa [e1]) ?_|refine xt (by simpa [e1]) ?_|refine xf (by simpa [e1]) ?_|apply wp_bs|apply wp_b|refine wp_sr ?_|refine wp_sx ?_|refine wp_ret' ?_|refine wp_skip' ?_|refine wp_exit' ?_)
    simp [zi510]))
  have hany:(h.any fun e=>!g.any fun x=>decide (x=e))=false:=by
    rw [List.any_eq_false]
    intro e he
    have:(g.any fun x=>decide (x=e))=true:=List.any_eq_true.2 ⟨e,hsub e he,by simp⟩
    rw [this];simp
  rw [hany] at e2
  refine call_of_wp zt509 rfl ?_
  repeat (first|apply wp_as|apply wp_ss|refine wr (by simp [e1,e2];with_reducible rfl) ?_|refine wq (by simp [e1,e2];with_reducible rfl) ?_|refine wt (by simpa [e1,e2]) ?_|refine wf (by simpa [e1,e2]) ?_|refine xt (by simpa [e1,e2]) ?_|refine xf (by simpa [e1,e2]) ?_|apply wp_bs|apply wp_b|refine wp_sr ?_|refine wp_sx ?_|refine wp_ret' ?_|refine wp_skip' ?_|refine wp_exit' ?_)
  simp [zi509]
def regF (f:List Int) (i:Nat):Bool:=(f.take i).all fun x=>decide (x=f.getD 0 0)
theorem regF_succ (f:List Int) (i:Nat) (h:i < f.length):regF f (i+1)=(regF f i && decide (f[i]=f.getD 0 0)):=by
  rw [regF,List.take_succ_eq_append_getElem h,List.all_append];simp [regF]
theorem regF_all {f:List Int} (h:regF f f.length=true):∀ x ∈ f,x=f.getD 0 0:=by
  rw [regF,List.take_length] at h
  intro x hx
  simpa using List.all_eq_true.1 h x hx
theorem frt (d f:List Int) (hd:d.length≤5) (hl:f.length=d.length) (hdb:∀ x ∈ d,0≤x∧x≤6) (hfb:∀ x ∈ f,0≤x∧x≤6) (loc:Boxes):∀ (m i:Nat),i+m=d.length →
    wp tb (.loop z531l17) { T:=[(3,L d false),(4,L f false),(7,Bo true),(11,O ((List.range i).map fun v=>d.getD v 0 - f.getD v 0)),(12,Bo (regF f i)),(13,I i)],loc:=loc,M:=[] }
      (fun ex st=>ex=.exit 0∧st={ T:=[(3,L d false),(4,L f false),(7,Bo true),(11,O (leftL d f)),(12,Bo (regF f f.length)),(13,I d.length),(111,Bo false)],loc:=loc,M:=[] }):=by
  intro m
  induction m with
  | zero =>
    intro i hi
    have h3:i=d.length:=hi
    subst h3
    refine wp_loop ?_
    repeat (first|apply wp_as|apply wp_ss|refine wr (by simp;with_reducible rfl) ?_|refine wq (by simp;with_reducible rfl) ?_|refine wt (by simpa) ?_|refine wf (by simpa) ?_|refine xt (by simpa) ?_|refine xf (by simpa) ?_|apply wp_bs|apply wp_b|refine wp_sr ?_|refine wp_sx ?_|refine wp_ret' ?_|refine wp_skip' ?_|refine wp_exit' ?_)
    exact ⟨rfl,by rw [hl];rfl⟩
  | succ m ih =>
    intro i hi
    have hi2:i < d.length:=by omega
    have hi3:i < f.length:=by omega
    have h0:0 < f.length:=by omega
    have b1:=hdb _ (List.getElem_mem hi2)
    have b2:=hfb _ (List.getElem_mem hi3)
    have w1:IntKind.i64.wrap ((i:Int)+1)=((i+1:Nat):Int):=wrapS (by omega)
    have w2:IntKind.i64.wrap (d[i] - f[i])=d[i] - f[i]:=wrap64 (by omega) (by omega)
    have hih:=ih (i+1) (by omega)
    rw [List.range_succ,List.map_append,regF_succ f i hi3] at hih
    have g1:d.getD i 0=d[i]:=getD_get hi2
    have g2:f.getD i 0=f[i]:=getD_get hi3
    have g0:f.getD 0 0=f[0]:=getD_get h0
    simp only [List.map_cons,List.map_nil,g1,g2,g0] at hih
    have hA:((List.range i).map fun v=>d.getD v 0 - f.getD v 0).length=i:=by simp
    generalize ((List.range i).map fun v=>d.getD v 0 - f.getD v 0)=A at *
    have hT:A.take i=A:=List.take_of_length_le (by omega)
    have hi5:i+1≤274877906944:=by omega
    have hi6:i≤274877906943:=by omega
    cases hr:regF f i with
    | true =>
      rw [hr,Bool.true_and] at hih
      refine wp_loop ?_
      repeat (first|apply wp_as|apply wp_ss|refine wr (by simp [hi2,hi3,h0,w1,w2,hA,hT,hi5,hi6];with_reducible rfl) ?_|refine wq (by simp [hi2,hi3,h0,w1,w2,hA,hT,hi5,hi6];with_reducible rfl) ?_|refine wt (by simpa [hi2,hi3,h0,w1,w2,hA,hT,hi5,hi6]) ?_|refine wf (by simpa [hi2,hi3,h0,w1,w2,hA,hT,hi5,hi6]) ?_|refine xt (by simpa [hi2,hi3,h0,w1,w2,hA,hT,hi5,hi6]) ?_|refine xf (by simpa [hi2,hi3,h0,w1,w2,hA,hT,hi5,hi6]) ?_|apply wp_bs|apply wp_b|refine wp_sr ?_|refine wp_sx ?_|refine wp_ret' ?_|refine wp_skip' ?_|refine wp_exit' ?_)
      exact hih
    | false =>
      rw [hr,Bool.false_and] at hih
      refine wp_loop ?_
      repeat (first|apply wp_as|apply wp_ss|refine wr (by simp [hi2,hi3,h0,w1,w2,hA,hT,hi5,hi6];with_reducible rfl) ?_|refine wq (by simp [hi2,hi3,h0,w1,w2,hA,hT,hi5,hi6];with_reducible rfl) ?_|refine wt (by simpa [hi2,hi3,h0,w1,w2,hA,hT,hi5,hi6]) ?_|refine wf (by simpa [hi2,hi3,h0,w1,w2,hA,hT,hi5,hi6]) ?_|refine xt (by simpa [hi2,hi3,h0,w1,w2,hA,hT,hi5,hi6]) ?_|refine xf (by simpa [hi2,hi3,h0,w1,w2,hA,hT,hi5,hi6]) ?_|apply wp_bs|apply wp_b|refine wp_sr ?_|refine wp_sx ?_|refine wp_ret' ?_|refine wp_skip' ?_|refine wp_exit' ?_)
      exact hih
theorem frf (d f:List Int) (hd:d.length≤5) (hl:f.length=d.length) (hdb:∀ x ∈ d,0≤x∧x≤6) (hfb:∀ x ∈ f,0≤x∧x≤6) (loc:Boxes):∀ (m i:Nat),i+m=d.length →
    wp tb (.loop z531l17) { T:=[(3,L d false),(4,L f false),(7,Bo false),(11,O ((List.range i).map fun v=>d.getD v 0 - f.getD v 0)),(12,Bo (regF f i)),(13,I i)],loc:=loc,M:=[] }
      (fun ex st=>ex=.exit 0∧st={ T:=[(3,L d false),(4,L f false),(7,Bo false),(11,O (leftL d f)),(12,Bo (regF f f.length)),(13,I d.length),(111,Bo false)],loc:=loc,M:=[] }):=by
  intro m
  induction m with
  | zero =>
    intro i hi
    have h3:i=d.length:=hi
    subst h3
    refine wp_loop ?_
    repeat (first|apply wp_as|apply wp_ss|refine wr (by simp;with_reducible rfl) ?_|refine wq (by simp;with_reducible rfl) ?_|refine wt (by simpa) ?_|refine wf (by simpa) ?_|refine xt (by simpa) ?_|refine xf (by simpa) ?_|apply wp_bs|apply wp_b|refine wp_sr ?_|refine wp_sx ?_|refine wp_ret' ?_|refine wp_skip' ?_|refine wp_exit' ?_)
    exact ⟨rfl,by rw [hl];rfl⟩
  | succ m ih =>
    intro i hi
    have hi2:i < d.length:=by omega
    have hi3:i < f.length:=by omega
    have h0:0 < f.length:=by omega
    have b1:=hdb _ (List.getElem_mem hi2)
    have b2:=hfb _ (List.getElem_mem hi3)
    have w1:IntKind.i64.wrap ((i:Int)+1)=((i+1:Nat):Int):=wrapS (by omega)
    have w2:IntKind.i64.wrap (d[i] - f[i])=d[i] - f[i]:=wrap64 (by omega) (by omega)
    have hih:=ih (i+1) (by omega)
    rw [List.range_succ,List.map_append,regF_succ f i hi3] at hih
    have g1:d.getD i 0=d[i]:=getD_get hi2
    have g2:f.getD i 0=f[i]:=getD_get hi3
    have g0:f.getD 0 0=f[0]:=getD_get h0
    simp only [List.map_cons,List.map_nil,g1,g2,g0] at hih
    have hA:((List.range i).map fun v=>d.getD v 0 - f.getD v 0).length=i:=by simp
    generalize ((List.range i).map fun v=>d.getD v 0 - f.getD v 0)=A at *
    have hT:A.take i=A:=List.take_of_length_le (by omega)
    have hi5:i+1≤274877906944:=by omega
    have hi6:i≤274877906943:=by omega
    cases hr:regF f i with
    | true =>
      rw [hr,Bool.true_and] at hih
      refine wp_loop ?_
      repeat (first|apply wp_as|apply wp_ss|refine wr (by simp [hi2,hi3,h0,w1,w2,hA,hT,hi5,hi6];with_reducible rfl) ?_|refine wq (by simp [hi2,hi3,h0,w1,w2,hA,hT,hi5,hi6];with_reducible rfl) ?_|refine wt (by simpa [hi2,hi3,h0,w1,w2,hA,hT,hi5,hi6]) ?_|refine wf (by simpa [hi2,hi3,h0,w1,w2,hA,hT,hi5,hi6]) ?_|refine xt (by simpa [hi2,hi3,h0,w1,w2,hA,hT,hi5,hi6]) ?_|refine xf (by simpa [hi2,hi3,h0,w1,w2,hA,hT,hi5,hi6]) ?_|apply wp_bs|apply wp_b|refine wp_sr ?_|refine wp_sx ?_|refine wp_ret' ?_|refine wp_skip' ?_|refine wp_exit' ?_)
      exact hih
    | false =>
      rw [hr,Bool.false_and] at hih
      refine wp_loop ?_
      repeat (first|apply wp_as|apply wp_ss|refine wr (by simp [hi2,hi3,h0,w1,w2,hA,hT,hi5,hi6];with_reducible rfl) ?_|refine wq (by simp [hi2,hi3,h0,w1,w2,hA,hT,hi5,hi6];with_reducible rfl) ?_|refine wt (by simpa [hi2,hi3,h0,w1,w2,hA,hT,hi5,hi6]) ?_|refine wf (by simpa [hi2,hi3,h0,w1,w2,hA,hT,hi5,hi6]) ?_|refine xt (by simpa [hi2,hi3,h0,w1,w2,hA,hT,hi5,hi6]) ?_|refine xf (by simpa [hi2,hi3,h0,w1,w2,hA,hT,hi5,hi6]) ?_|apply wp_bs|apply wp_b|refine wp_sr ?_|refine wp_sx ?_|refine wp_ret' ?_|refine wp_skip' ?_|refine wp_exit' ?_)
      exact hih
set_option maxHeartbeats 8000000 in
theorem ev_FnFactorRealization (code:List Int) (cl:Bool) (h:∀ x ∈ code,0≤x∧x≤255) :
    Ev tb zl531 [] [.lst 1 (bytes code) cl] [] ⟨Bo true,[],[],[]⟩:=by
  by_cases hc:(1048576:Int) < code.length
  · refine call_of_wp zt531 rfl ?_
    repeat (first|apply wp_as|apply wp_ss|refine wr (by simp [hc];with_reducible rfl) ?_|refine wq (by simp [hc];with_reducible rfl) ?_|refine wt (by simpa [hc]) ?_|refine wf (by simpa [hc]) ?_|refine xt (by simpa [hc]) ?_|refine xf (by simpa [hc]) ?_|apply wp_bs|apply wp_b|refine wp_sr ?_|refine wp_sx ?_|refine wp_ret' ?_|refine wp_skip' ?_|refine wp_exit' ?_)
    simp [zi531]
  obtain ⟨d,f,hd5,hf10,e1⟩:=ev_DrawFactorRealization code cl h (by omega)
  have ez:=ev_lim (ev_equalGraph 0 0 [] [] Z Z (.inr ⟨rfl,rfl⟩) (.inr ⟨rfl,rfl⟩) (by simp) (by simp))
  have v1:=ev_lim (ev_ValidDegrees d false (by omega))
  have v2:=ev_lim (ev_ValidDegrees f false (by omega))
  have hdt:d.take d.length=d:=List.take_of_length_le (Nat.le_refl _)
  have hft:f.take f.length=f:=List.take_of_length_le (Nat.le_refl _)
  by_cases hall:valid d=true∧valid f=true∧d.length=f.length∧d.length≤5
  rotate_left
  · have e2:=ev_lim (ev_FactorRealization_no d f false false (by omega) (by omega) hall)
    have e3:=ev_lim (ev_spec_FactorRealization_no d f false false (by omega) (by omega) hall)
    cases h1:valid d with
    | false =>
      rw [h1] at v1
      refine call_of_wp zt531 rfl ?_
      repeat (first|apply wp_as|apply wp_ss|refine wr (by simp [hc,e1,e2,e3,ez,v1,v2,hdt,hft];with_reducible rfl) ?_|refine wq (by simp [hc,e1,e2,e3,ez,v1,v2,hdt,hft];with_reducible rfl) ?_|refine wt (by simpa [hc,e1,e2,e3,ez,v1,v2,hdt,hft]) ?_|refine wf (by simpa [hc,e1,e2,e3,ez,v1,v2,hdt,hft]) ?_|refine xt (by simpa [hc,e1,e2,e3,ez,v1,v2,hdt,hft]) ?_|refine xf (by simpa [hc,e1,e2,e3,ez,v1,v2,hdt,hft]) ?_|apply wp_bs|apply wp_b|refine wp_sr ?_|refine wp_sx ?_|refine wp_ret' ?_|refine wp_skip' ?_|refine wp_exit' ?_)
      simp [zi531]
    | true =>
      rw [h1] at v1
      cases h2:valid f with
      | false =>
        rw [h2] at v2
        refine call_of_wp zt531 rfl ?_
        repeat (first|apply wp_as|apply wp_ss|refine wr (by simp [hc,e1,e2,e3,ez,v1,v2,hdt,hft];with_reducible rfl) ?_|refine wq (by simp [hc,e1,e2,e3,ez,v1,v2,hdt,hft];with_reducible rfl) ?_|refine wt (by simpa [hc,e1,e2,e3,ez,v1,v2,hdt,hft]) ?_|refine wf (by simpa [hc,e1,e2,e3,ez,v1,v2,hdt,hft]) ?_|refine xt (by simpa [hc,e1,e2,e3,ez,v1,v2,hdt,hft]) ?_|refine xf (by simpa [hc,e1,e2,e3,ez,v1,v2,hdt,hft]) ?_|apply wp_bs|apply wp_b|refine wp_sr ?_|refine wp_sx ?_|refine wp_ret' ?_|refine wp_skip' ?_|refine wp_exit' ?_)
        simp [zi531]
      | true =>
        rw [h2] at v2
        have h3:¬ d.length=f.length:=fun q=>hall ⟨h1,h2,q,hd5⟩
        have h4:¬ (d.length:Int)=(f.length:Int):=by omega
        refine call_of_wp zt531 rfl ?_
        repeat (first|apply wp_as|apply wp_ss|refine wr (by simp [hc,e1,e2,e3,ez,v1,v2,hdt,hft,h3,h4];with_reducible rfl) ?_|refine wq (by simp [hc,e1,e2,e3,ez,v1,v2,hdt,hft,h3,h4];with_reducible rfl) ?_|refine wt (by simpa [hc,e1,e2,e3,ez,v1,v2,hdt,hft,h3,h4]) ?_|refine wf (by simpa [hc,e1,e2,e3,ez,v1,v2,hdt,hft,h3,h4]) ?_|refine xt (by simpa [hc,e1,e2,e3,ez,v1,v2,hdt,hft,h3,h4]) ?_|refine xf (by simpa [hc,e1,e2,e3,ez,v1,v2,hdt,hft,h3,h4]) ?_|apply wp_bs|apply wp_b|refine wp_sr ?_|refine wp_sx ?_|refine wp_ret' ?_|refine wp_skip' ?_|refine wp_exit' ?_)
        simp [zi531]
  obtain ⟨hvd,hvf,hl,h5⟩:=hall
  have hl:=hl.symm
  have hl2:¬ (5:Int) < (d.length:Int):=by omega
  have hl3:¬ 5 < d.length:=by omega
  rw [hvd] at v1
  rw [hvf] at v2
  have e2:=ev_lim (ev_FactorRealization d f false false hvd hvf h5 hl)
  obtain ⟨R,hR,E3⟩:=ev_spec_FactorRealization d f false false hvd hvf h5 hl
  have e3:=ev_lim E3
  rw [srS_reals hvd] at hR
  have hRv:∀ g ∈ R,vGraph d.length g.1=true:=fun g hg=>((mem_reals (by omega) g.1).1 (by rw [← hR];exact List.mem_map_of_mem hg)).1
  have hS:=facS_facF hl (fun x hx=>(valid_mem hvf x hx).1) R hRv
  rw [hR] at hS
  have hlaw:=@fac_law d f h5 hl
  have hok:=@fac_ok d f (by omega) hl
  have hdb:∀ x ∈ d,0≤x∧x≤6:=fun x hx=>by have:=valid_mem hvd x hx;omega
  have hfb:∀ x ∈ f,0≤x∧x≤6:=fun x hx=>by have:=valid_mem hvf x hx;omega
  have hll:(leftL d f).length=d.length:=by simp [leftL]
  have g1:=ev_lim (ev_IsGraphic d false (by omega))
  have g2:=ev_lim (ev_IsGraphic f false (by omega))
  have g3:=ev_lim (ev_IsGraphic (leftL d f) false (by omega))
  have hlt:(leftL d f).take d.length=leftL d f:=List.take_of_length_le (by omega)
  cases hF:facF f (reals d) with
  | none =>
    have hG:facS f R=none:=by
      rw [hF] at hS
      cases hq:facS f R with
      | none=>rfl
      | some p=>rw [hq] at hS;cases hS
    rw [hF] at e2
    rw [hG] at e3
    simp only [facV] at e2
    simp only [facW] at e3
    have loop:=frf d f h5 hl hdb hfb [[I 0,Z],[I 0,Z],[I 0,Z],[I 0,Z]] d.length 0 (by omega)
    simp only [List.range_zero,List.map_nil] at loop
    rw [show ((0:Nat):Int)=0 from rfl,show regF f 0=true from rfl] at loop
    refine call_of_wp zt531 rfl ?_
    repeat (first|apply wp_as|apply wp_ss|refine wr (by simp [hc,e1,e2,e3,ez,v1,v2,hdt,hft,hl,hl2,hl3];with_reducible rfl) ?_|refine wq (by simp [hc,e1,e2,e3,ez,v1,v2,hdt,hft,hl,hl2,hl3];with_reducible rfl) ?_|refine wt (by simpa [hc,e1,e2,e3,ez,v1,v2,hdt,hft,hl,hl2,hl3]) ?_|refine wf (by simpa [hc,e1,e2,e3,ez,v1,v2,hdt,hft,hl,hl2,hl3]) ?_|refine xt (by simpa [hc,e1,e2,e3,ez,v1,v2,hdt,hft,hl,hl2,hl3]) ?_|refine xf (by simpa [hc,e1,e2,e3,ez,v1,v2,hdt,hft,hl,hl2,hl3]) ?_|apply wp_bs|apply wp_b|refine wp_sr ?_|refine wp_sx ?_|refine wp_ret' ?_|refine wp_skip' ?_|refine wp_exit' ?_)
    refine wp_imp loop ?_
    rintro ex st ⟨rfl,rfl⟩
    simp only [if_true]
    cases hreg:regF f f.length with
    | false =>
      repeat (first|apply wp_as|apply wp_ss|refine wr (by simp;with_reducible rfl) ?_|refine wq (by simp;with_reducible rfl) ?_|refine wt (by simpa) ?_|refine wf (by simpa) ?_|refine xt (by simpa) ?_|refine xf (by simpa) ?_|apply wp_bs|apply wp_b|refine wp_sr ?_|refine wp_sx ?_|refine wp_ret' ?_|refine wp_skip' ?_|refine wp_exit' ?_)
      simp [zi531]
    | true =>
      have hq:=hlaw (regF_all hreg)
      rw [hF] at hq
      have hq:false=(graphic d && (graphic f && graphic (leftL d f))):=hq
      cases q1:graphic d with
      | false =>
        rw [q1] at g1
        repeat (first|apply wp_as|apply wp_ss|refine wr (by simp [g1];with_reducible rfl) ?_|refine wq (by simp [g1];with_reducible rfl) ?_|refine wt (by simpa [g1]) ?_|refine wf (by simpa [g1]) ?_|refine xt (by simpa [g1]) ?_|refine xf (by simpa [g1]) ?_|apply wp_bs|apply wp_b|refine wp_sr ?_|refine wp_sx ?_|refine wp_ret' ?_|refine wp_skip' ?_|refine wp_exit' ?_)
        simp [zi531]
      | true =>
        rw [q1] at g1 hq
        cases q2:graphic f with
        | false =>
          rw [q2] at g2
          repeat (first|apply wp_as|apply wp_ss|refine wr (by simp [g1,g2];with_reducible rfl) ?_|refine wq (by simp [g1,g2];with_reducible rfl) ?_|refine wt (by simpa [g1,g2]) ?_|refine wf (by simpa [g1,g2]) ?_|refine xt (by simpa [g1,g2]) ?_|refine xf (by simpa [g1,g2]) ?_|apply wp_bs|apply wp_b|refine wp_sr ?_|refine wp_sx ?_|refine wp_ret' ?_|refine wp_skip' ?_|refine wp_exit' ?_)
          simp [zi531]
        | true =>
          rw [q2] at g2 hq
          simp only [Bool.true_and] at hq
          rw [← hq] at g3
          generalize leftL d f=D at *
          repeat (first|apply wp_as|apply wp_ss|refine wr (by simp [g1,g2,g3,hlt,hll];with_reducible rfl) ?_|refine wq (by simp [g1,g2,g3,hlt,hll];with_reducible rfl) ?_|refine wt (by simpa [g1,g2,g3,hlt,hll]) ?_|refine wf (by simpa [g1,g2,g3,hlt,hll]) ?_|refine xt (by simpa [g1,g2,g3,hlt,hll]) ?_|refine xf (by simpa [g1,g2,g3,hlt,hll]) ?_|apply wp_bs|apply wp_b|refine wp_sr ?_|refine wp_sx ?_|refine wp_ret' ?_|refine wp_skip' ?_|refine wp_exit' ?_)
          simp [zi531]
  | some p =>
    obtain ⟨g,k⟩:=p
    obtain ⟨a1,a2,a3,a4,a5⟩:=hok hF
    obtain ⟨cg,hG⟩:∃ cg,facS f R=some ((g,cg),k):=by
      rw [hF] at hS
      cases hq:facS f R with
      | none=>rw [hq] at hS;cases hS
      | some p =>
        obtain ⟨⟨g',cg⟩,k'⟩:=p
        rw [hq] at hS
        simp only [Option.map_some,Option.some.injEq,Prod.mk.injEq] at hS
        obtain ⟨rfl,rfl⟩:=hS
        exact ⟨cg,rfl⟩
    rw [hF] at e2
    rw [hG] at e3
    simp only [facV] at e2
    simp only [facW] at e3
    have b1:=vG21 (by omega) a1
    have b2:=vG21 (by omega) a3
    have f1:Fit g:=fun e he=>by have:=mem_prs.1 ((vG_iff.1 a1).2.1 e he);omega
    have f2:Fit k:=fun e he=>by have:=mem_prs.1 ((vG_iff.1 a3).2.1 e he);omega
    have q1:=fun c1 c2=>ev_lim (ev_equalGraph d.length d.length g g (L2 g c1) (L2 g c2) (.inl ⟨_,rfl⟩) (.inl ⟨_,rfl⟩) (by omega) (by omega))
    have q2:=fun c1 c2=>ev_lim (ev_equalGraph d.length d.length k k (L2 k c1) (L2 k c2) (.inl ⟨_,rfl⟩) (.inl ⟨_,rfl⟩) (by omega) (by omega))
    simp only [decide_true,Bool.and_true] at q1 q2
    have d1:=ev_lim (ev_impl_DegreesOf d.length g false f1 (by omega) a1)
    rw [a2] at d1
    have d2:=ev_lim (ev_impl_DegreesOf d.length k false f2 (by omega) a3)
    rw [a4] at d2
    have i1:=fun c1 c2=>ev_lim (ev_equalInts d d c1 c2 (by omega) (by omega))
    have i2:=fun c1 c2=>ev_lim (ev_equalInts f f c1 c2 (by omega) (by omega))
    simp only [decide_true] at i1 i2
    have ip:=fun c1 c2=>ev_lim (ev_IsPart d.length k g c1 c2 a3 a1 (by omega) fun e he=>a5.subset he)
    have loop:=frt d f h5 hl hdb hfb [[I d.length,L2 g false],[I d.length,L2 k false],[I d.length,L2 g cg],[I d.length,L2 k false]] d.length 0 (by omega)
    simp only [List.range_zero,List.map_nil] at loop
    rw [show ((0:Nat):Int)=0 from rfl,show regF f 0=true from rfl] at loop
    refine call_of_wp zt531 rfl ?_
    repeat (first|apply wp_as|apply wp_ss|refine wr (by simp [hc,e1,e2,e3,v1,v2,hdt,hft,hl,hl2,hl3,q1,q2,d1,d2,i1,i2,ip];with_reducible rfl) ?_|refine wq (by simp [hc,e1,e2,e3,v1,v2,hdt,hft,hl,hl2,hl3,q1,q2,d1,d2,i1,i2,ip];with_reducible rfl) ?_|refine wt (by simpa [hc,e1,e2,e3,v1,v2,hdt,hft,hl,hl2,hl3,q1,q2,d1,d2,i1,i2,ip]) ?_|refine wf (by simpa [hc,e1,e2,e3,v1,v2,hdt,hft,hl,hl2,hl3,q1,q2,d1,d2,i1,i2,ip]) ?_|refine xt (by simpa [hc,e1,e2,e3,v1,v2,hdt,hft,hl,hl2,hl3,q1,q2,d1,d2,i1,i2,ip]) ?_|refine xf (by simpa [hc,e1,e2,e3,v1,v2,hdt,hft,hl,hl2,hl3,q1,q2,d1,d2,i1,i2,ip]) ?_|apply wp_bs|apply wp_b|refine wp_sr ?_|refine wp_sx ?_|refine wp_ret' ?_|refine wp_skip' ?_|refine wp_exit' ?_)
    refine wp_imp loop ?_
    rintro ex st ⟨rfl,rfl⟩
    simp only [if_true]
    cases hreg:regF f f.length with
    | false =>
      repeat (first|apply wp_as|apply wp_ss|refine wr (by simp;with_reducible rfl) ?_|refine wq (by simp;with_reducible rfl) ?_|refine wt (by simpa) ?_|refine wf (by simpa) ?_|refine xt (by simpa) ?_|refine xf (by simpa) ?_|apply wp_bs|apply wp_b|refine wp_sr ?_|refine wp_sx ?_|refine wp_ret' ?_|refine wp_skip' ?_|refine wp_exit' ?_)
      simp [zi531]
    | true =>
      have hq:=hlaw (regF_all hreg)
      rw [hF] at hq
      have hq:true=(graphic d && (graphic f && graphic (leftL d f))):=hq
      have hq:=hq.symm
      simp only [Bool.and_eq_true] at hq
      rw [hq.1] at g1
      rw [hq.2.1] at g2
      rw [hq.2.2] at g3
      generalize leftL d f=D at *
      repeat (first|apply wp_as|apply wp_ss|refine wr (by simp [g1,g2,g3,hlt,hll];with_reducible rfl) ?_|refine wq (by simp [g1,g2,g3,hlt,hll];with_reducible rfl) ?_|refine wt (by simpa [g1,g2,g3,hlt,hll]) ?_|refine wf (by simpa [g1,g2,g3,hlt,hll]) ?_|refine xt (by simpa [g1,g2,g3,hlt,hll]) ?_|refine xf (by simpa [g1,g2,g3,hlt,hll]) ?_|apply wp_bs|apply wp_b|refine wp_sr ?_|refine wp_sx ?_|refine wp_ret' ?_|refine wp_skip' ?_|refine wp_exit' ?_)
      simp [zi531]
end Go.Idl
