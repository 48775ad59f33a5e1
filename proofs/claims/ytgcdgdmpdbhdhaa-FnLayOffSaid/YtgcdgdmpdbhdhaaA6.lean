/- Part 6 of a proof by an ideal interpreter of the code: its definitions and lemmas. Conditions: none. -/
import Derived.KernelRfl
import Derived.Test.YtgcdgdmpdbhdhaaA5
set_option linter.all false
set_option linter.unusedVariables false
set_option linter.unusedSimpArgs false
namespace Go.Idl
open Go
theorem ev_CloneI_Z:Ev tb zl71 [] [Z] [] ⟨O [],[],[],[]⟩:=by
  refine call_of_wp zt71 rfl ?_
  refine wp_rs (by simp;rfl) (by simp;rfl) ?_
  refine wp_nil2 (b:=([]:List Int).isEmpty) (by simp [z71r1];rfl) (by simp) ?_ ?_ ?_ (ex:=.ret) (st':={ T:=[(2,.own 1 (ints []))],loc:=[],M:=[] })
  · refine wp_ct (t:=false) (by simp) (by simp) fun _=>wp_ss ?_
    refine wp_rs (by simp;rfl) (by simp;rfl) ?_
    refine wp_ret' ?_
    simp
  · intro he
    refine wp_ct (t:=true) (by simp) (fun _=>wp_as ?_) (by simp)
    refine wp_rs (by simp;rfl) (by simp;rfl) ?_
    refine wp_sr ?_
    simp
  · simp [zi71]
theorem ev_clone_Z:Ev tb zl31 [] [Z] [] ⟨O [],[],[],[]⟩:=by
  have e1:=ev_lim ev_CloneI_Z
  have e2:=ev_lim (ev_Clip [])
  simp only [O,ints_nil] at e1 e2 ⊢
  refine call_of_wp zt31 rfl ?_
  repeat (first|refine wp_as ?_|refine wp_ss ?_|refine wr (by simp [e1,e2];with_reducible rfl) ?_|refine wq (by simp [e1,e2];with_reducible rfl) ?_|refine wt (by simpa [e1,e2]) ?_|refine wf (by simpa [e1,e2]) ?_|refine xt (by simpa [e1,e2]) ?_|refine xf (by simpa [e1,e2]) ?_|refine wp_bs ?_|refine wp_b ?_|refine wp_sr ?_|refine wp_sx ?_|refine wp_ret' ?_|refine wp_skip' ?_|refine wp_exit' ?_)
  simp [zi31]
def gtD (d:List Int) (a b:Int):Bool:=decide (d.getD b.toNat 0 < d.getD a.toNat 0)
def topD (d:List Int) (from_:List Int) (k:Nat):List Int:=(srtC (gtD d) [] from_).take k
theorem ev_greatest_F1 (d:List Int) (c:Bool) (hd:∀ x ∈ d,-1000≤x∧x≤1000) (a b:Nat) (ha:a < d.length) (hb:b < d.length) (Es:List Boxes) :
    Ev tb zl211 [] [I a,I b,.bptr 0 0 0] ([[L d c]]::Es) ⟨I (d[b] - d[a]),[],[[L d c]]::Es,[]⟩:=by
  have h1:=hd _ (List.getElem_mem ha)
  have h2:=hd _ (List.getElem_mem hb)
  have w1:IntKind.i64.wrap (d[b] - d[a])=d[b] - d[a]:=wrap64 (by omega) (by omega)
  refine call_of_wp zt211 rfl ?_
  repeat (first|refine wp_as ?_|refine wp_ss ?_|refine wr (by simp [ha,hb,w1];with_reducible rfl) ?_|refine wq (by simp [ha,hb,w1];with_reducible rfl) ?_|refine wt (by simpa [ha,hb,w1]) ?_|refine wf (by simpa [ha,hb,w1]) ?_|refine xt (by simpa [ha,hb,w1]) ?_|refine xf (by simpa [ha,hb,w1]) ?_|refine wp_bs ?_|refine wp_b ?_|refine wp_sr ?_|refine wp_sx ?_|refine wp_ret' ?_|refine wp_skip' ?_|refine wp_exit' ?_)
  simp [zi211]
theorem cmp_greatest (d:List Int) (c:Bool) (hd:∀ x ∈ d,-1000≤x∧x≤1000):CmpOK vI zl211 [.bptr 0 0 0] (gtD d) (fun x=>0≤x∧x < d.length) [[[L d c]],[],[]]:=by
  intro x y hx hy
  obtain ⟨a,rfl⟩:=Int.eq_ofNat_of_zero_le hx.1
  obtain ⟨b,rfl⟩:=Int.eq_ofNat_of_zero_le hy.1
  have ha:a < d.length:=by omega
  have hb:b < d.length:=by omega
  refine ⟨d[b] - d[a],?_,ev_greatest_F1 d c hd a b ha hb [[],[],[]]⟩
  simp only [gtD,Int.toNat_natCast,List.getD_eq_getElem?_getD,List.getElem?_eq_getElem ha,List.getElem?_eq_getElem hb,Option.getD_some]
  rw [decide_eq_decide];omega
theorem topD_len (d from_:List Int) (k:Nat):(srtC (gtD d) [] from_).length=from_.length:=by
  simpa using (srtC_perm (gtD d) from_ []).length_eq
theorem ev_greatest (d:List Int) (c:Bool) (hd:∀ x ∈ d,-1000≤x∧x≤1000) (x:IV) (from_:List Int) (hx:(∃ c',x=L from_ c') ∨ (from_=[]∧x=Z)) (hf:from_.length≤19) (hD:∀ v ∈ from_,0≤v∧v < d.length) (k:Nat) (hk:k≤from_.length) :
    Ev tb zl210 [] [L d c,x,I k] [] ⟨O (topD d from_ k),[],[],[]⟩:=by
  have e1:limF tb zl31 [] [x] []=some ⟨O from_,[],[],[]⟩:=by
    rcases hx with ⟨c',rfl⟩ | ⟨rfl,rfl⟩
    · exact ev_lim (ev_clone from_ c' (by omega))
    · exact ev_lim ev_clone_Z
  have e2:=ev_lim (ev_SortStable zl211 [.bptr 0 0 0] (gtD d) (fun x=>0≤x∧x < d.length) [[[L d c]]] (cmp_greatest d c hd) from_ hf hD)
  have hl:=topD_len d from_ k
  unfold topD
  generalize srtC (gtD d) [] from_=s at *
  have hks:k≤s.length:=by omega
  rcases hx with ⟨c',rfl⟩ | ⟨rfl,rfl⟩
  · refine call_of_wp zt210 rfl ?_
    repeat (first|refine wp_as ?_|refine wp_ss ?_|refine wr (by simp [e1,e2,hks];with_reducible rfl) ?_|refine wq (by simp [e1,e2,hks];with_reducible rfl) ?_|refine wt (by simpa [e1,e2,hks]) ?_|refine wf (by simpa [e1,e2,hks]) ?_|refine xt (by simpa [e1,e2,hks]) ?_|refine xf (by simpa [e1,e2,hks]) ?_|refine wp_bs ?_|refine wp_b ?_|refine wp_sr ?_|refine wp_sx ?_|refine wp_ret' ?_|refine wp_skip' ?_|refine wp_exit' ?_)
    simp [zi210]
  · have hs:s=[]:=List.length_eq_zero_iff.1 (by simpa using hl)
    subst hs
    have hk0:k=0:=by simpa using hk
    subst hk0
    simp only [O,ints_nil] at e1 e2
    refine call_of_wp zt210 rfl ?_
    repeat (first|refine wp_as ?_|refine wp_ss ?_|refine wr (by simp [e1,e2];with_reducible rfl) ?_|refine wq (by simp [e1,e2];with_reducible rfl) ?_|refine wt (by simpa [e1,e2]) ?_|refine wf (by simpa [e1,e2]) ?_|refine xt (by simpa [e1,e2]) ?_|refine xf (by simpa [e1,e2]) ?_|refine wp_bs ?_|refine wp_b ?_|refine wp_sr ?_|refine wp_sx ?_|refine wp_ret' ?_|refine wp_skip' ?_|refine wp_exit' ?_)
    simp [zi210]
end Go.Idl
namespace Go.Idl
open Go
def layI (v:Int):List Int→List Int→List (Int×Int)→Option (List Int×List (Int×Int))
  | [],left,es=>some (left,es)
  | i::r,left,es=>if left.getD i.toNat 0=0 then none else layI v r (decAt left i.toNat) (es++[(min v i,max v i)])
theorem filter_len' {α:Type} (p:α→Bool) (l:List α):(l.filter p).length+(l.filter fun a=>!p a).length=l.length:=by
  induction l with
  | nil=>rfl
  | cons a l ih=>simp only [List.filter_cons];cases p a <;> simp <;> omega
theorem layI_inv (v:Int):∀ (tops left:List Int) (es:List (Int×Int)) (left':List Int) (es':List (Int×Int)),layI v tops left es=some (left',es')→(∀ x ∈ left,0≤x∧x≤1000) →
    left'.length=left.length∧(∀ x ∈ left',0≤x∧x≤1000)∧es'=es++tops.map fun i=>(min v i,max v i)
  | [],left,es,left',es',h,hb=>by
    simp only [layI,Option.some.injEq,Prod.mk.injEq] at h
    obtain ⟨rfl,rfl⟩:=h
    exact ⟨rfl,hb,by simp⟩
  | i::r,left,es,left',es',h,hb=>by
    rw [layI] at h
    split at h
    · cases h
    · rename_i h0
      obtain ⟨k1,k2,k3⟩:=layI_inv v r _ _ _ _ h (by
        intro x hx
        rcases List.mem_or_eq_of_mem_set hx with hx | rfl
        · exact hb x hx
        · have hg:∀ y,left[i.toNat]? = some y→0≤y∧y≤1000:=fun y hy=>hb y (List.mem_of_getElem? hy)
          rw [List.getD_eq_getElem?_getD] at h0 ⊢
          cases hq:left[i.toNat]? with
          | none=>rw [hq] at h0;simp at h0
          | some y =>
            rw [hq] at h0
            have:=hg y hq
            simp only [Option.getD_some] at h0 ⊢
            omega)
      exact ⟨by rw [k1];simp [decAt],k2,by rw [k3];simp⟩
end Go.Idl
namespace Go.Idl
open Go
theorem idxB_all (n:Nat):idxB n (-1)=(List.range n).map fun v:Nat=>(v:Int):=by
  rw [idxB]
  refine List.filter_eq_self.2 fun x hx=>?_
  obtain ⟨v,_,rfl⟩:=List.mem_map.1 hx
  simp
end Go.Idl
namespace Go.Idl
open Go
def tab (t:List (List Int)):List (List IV):=t.map fun r=>[.lst 1 (ints r) false]
def oab (t:List (List Int)):List (List IV):=t.map fun r=>[.own 1 (ints r)]
@[simp] theorem tab_len (t:List (List Int)):(tab t).length=t.length:=by simp [tab]
@[simp] theorem oab_len (t:List (List Int)):(oab t).length=t.length:=by simp [oab]
@[simp] theorem oab_nil:oab []=[]:=rfl
@[simp] theorem tab_get? (t:List (List Int)) (i:Nat):(tab t)[i]? = t[i]?.map fun r=>[IV.lst 1 (ints r) false]:=by simp [tab]
@[simp] theorem tab_get (t:List (List Int)) (i:Nat) (h:i < (tab t).length):(tab t)[i]=[IV.lst 1 (ints (t[i]'(by simpa [tab] using h))) false]:=by simp [tab]
@[simp] theorem oab_get? (t:List (List Int)) (i:Nat):(oab t)[i]? = t[i]?.map fun r=>[IV.own 1 (ints r)]:=by simp [oab]
@[simp] theorem oab_get (t:List (List Int)) (i:Nat) (h:i < (oab t).length):(oab t)[i]=[IV.own 1 (ints (t[i]'(by simpa [oab] using h)))]:=by simp [oab]
@[simp] theorem oab_one (t:List (List Int)) (r:List Int):oab t++[[IV.own 1 (ints r)]]=oab (t++[r]):=by simp [oab]
@[simp] theorem oab_set (t:List (List Int)) (i:Nat) (r:List Int):(oab t).set i [IV.own 1 (ints r)]=oab (t.set i r):=by simp [oab,List.map_set]
@[simp] theorem oab_take (t:List (List Int)) (n:Nat):(oab t).take n=oab (t.take n):=by simp [oab,List.map_take]
@[simp] theorem frz_oab (t:List (List Int)):frzLL (oab t)=tab t:=by
  induction t with
  | nil=>rfl
  | cons x xs ih =>
    simp only [oab,tab,List.map_cons,frzLL,frzL,frzV] at *
    rw [ih]
    have:frzLL (ints x)=ints x:=by
      clear ih
      induction x with
      | nil=>rfl
      | cons y ys ih=>simp only [ints,List.map_cons,frzLL,frzL,frzV] at *;rw [ih]
    rw [this]
@[simp] theorem tab_all1 (t:List (List Int)):((tab t).all fun x=>x.all IV.plain1)=true:=by
  induction t with
  | nil=>rfl
  | cons x xs ih=>simp only [tab,List.map_cons,List.all_cons] at *;rw [ih];rfl
@[simp] theorem oab_noLst (t:List (List Int)):noLstLL (oab t)=true:=by
  induction t with
  | nil=>rfl
  | cons x xs ih =>
    simp only [oab,List.map_cons,noLstLL,noLstL,noLstV] at *
    rw [ih,ints_noLst];rfl
def g2 (t:List (List Int)) (a b:Nat):Int:=(t.getD a []).getD b 0
end Go.Idl
namespace Go.Idl
open Go
def asc0 (s:List Int):List Int:=(fall s).reverse
def overT (s:List Int) (i:Nat):Int:=((asc0 s).take (i+1)).sum - ((i:Int)+1) * i / 2
def over (s:List Int):List Int:=mapR s.length (overT s)
end Go.Idl
namespace Go.Idl
open Go
theorem ev_hasInt (xs:List Int) (c:Bool) (y:Int) (hl:xs.length≤1000000) :
    Ev tb zl131 [] [L xs c,I y] [] ⟨Bo (decide (y ∈ xs)),[],[],[]⟩:=by
  have loop:∀ (m i:Nat),i+m=xs.length→wp tb (.loop z131l6) { T:=[(0,L xs c),(1,I y),(5,I i)],loc:=[],M:=[] }
      (fun ex st=>(ex=.exit 0∧y ∉ xs.drop i∧st={ T:=[(0,L xs c),(1,I y),(5,I xs.length),(9,Bo false)],loc:=[],M:=[] }) ∨
        ex=.ret∧y ∈ xs.drop i∧st={ T:=[(4,Bo true)],loc:=[],M:=[] }):=by
    intro m
    induction m with
    | zero =>
      intro i hi
      obtain ⟨h1,h2⟩:=drop_end hi
      have h3:i=xs.length:=hi
      subst h3
      refine wp_loop ?_
      repeat (first|refine wp_as ?_|refine wp_ss ?_|refine wr (by simp;with_reducible rfl) ?_|refine wq (by simp;with_reducible rfl) ?_|refine wt (by simpa) ?_|refine wf (by simpa) ?_|refine xt (by simpa) ?_|refine xf (by simpa) ?_|refine wp_bs ?_|refine wp_b ?_|refine wp_sr ?_|refine wp_sx ?_|refine wp_ret' ?_|refine wp_skip' ?_|refine wp_exit' ?_)
      exact .inl ⟨rfl,by rw [h2];simp,rfl⟩
    | succ m ih =>
      intro i hi
      obtain ⟨hi2,h2,h3⟩:=drop_get hi
      have w2:IntKind.i64.wrap ((i:Int)+1)=((i+1:Nat):Int):=wrapS (by omega)
      rw [h2]
      by_cases he:xs[i]=y
      · refine wp_loop ?_
        repeat (first|refine wp_as ?_|refine wp_ss ?_|refine wr (by simp [hi2,he];with_reducible rfl) ?_|refine wq (by simp [hi2,he];with_reducible rfl) ?_|refine wt (by simpa [hi2,he]) ?_|refine wf (by simpa [hi2,he]) ?_|refine xt (by simpa [hi2,he]) ?_|refine xf (by simpa [hi2,he]) ?_|refine wp_bs ?_|refine wp_b ?_|refine wp_sr ?_|refine wp_sx ?_|refine wp_ret' ?_|refine wp_skip' ?_|refine wp_exit' ?_)
        exact .inr ⟨rfl,by simp [he],rfl⟩
      · refine wp_loop ?_
        repeat (first|refine wp_as ?_|refine wp_ss ?_|refine wr (by simp [hi2,he,w2];with_reducible rfl) ?_|refine wq (by simp [hi2,he,w2];with_reducible rfl) ?_|refine wt (by simpa [hi2,he,w2]) ?_|refine wf (by simpa [hi2,he,w2]) ?_|refine xt (by simpa [hi2,he,w2]) ?_|refine xf (by simpa [hi2,he,w2]) ?_|refine wp_bs ?_|refine wp_b ?_|refine wp_sr ?_|refine wp_sx ?_|refine wp_ret' ?_|refine wp_skip' ?_|refine wp_exit' ?_)
        refine wp_imp (ih (i+1) (by omega)) ?_
        rintro ex st (⟨rfl,h,rfl⟩ | ⟨rfl,h,rfl⟩)
        · exact .inl ⟨rfl,by rw [List.mem_cons];rintro (h' | h');exact he h'.symm;exact h h',rfl⟩
        · exact .inr ⟨rfl,List.mem_cons_of_mem _ h,rfl⟩
  refine call_of_wp zt131 rfl ?_
  repeat (first|refine wp_as ?_|refine wp_ss ?_|refine wr (by simp;with_reducible rfl) ?_|refine wq (by simp;with_reducible rfl) ?_|refine wt (by simpa) ?_|refine wf (by simpa) ?_|refine xt (by simpa) ?_|refine xf (by simpa) ?_|refine wp_bs ?_|refine wp_b ?_|refine wp_sr ?_|refine wp_sx ?_|refine wp_ret' ?_|refine wp_skip' ?_|refine wp_exit' ?_)
  refine wp_imp (loop xs.length 0 (by omega)) ?_
  rintro ex st (⟨rfl,h,rfl⟩ | ⟨rfl,h,rfl⟩)
  · simp only [if_true]
    simp only [List.drop_zero] at h
    repeat (first|refine wp_as ?_|refine wp_ss ?_|refine wr (by simp;with_reducible rfl) ?_|refine wq (by simp;with_reducible rfl) ?_|refine wt (by simpa) ?_|refine wf (by simpa) ?_|refine xt (by simpa) ?_|refine xf (by simpa) ?_|refine wp_bs ?_|refine wp_b ?_|refine wp_sr ?_|refine wp_sx ?_|refine wp_ret' ?_|refine wp_skip' ?_|refine wp_exit' ?_)
    simp [zi131,h]
  · simp only [List.drop_zero] at h
    simp [zi131,h]
end Go.Idl
namespace Go.Idl
open Go
structure SmallG (n:Int) (es:List (Int×Int)):Prop where
  n1:-1≤n
  n2:n≤8
  len:es.length≤60
  el:∀ e ∈ es,-1≤e.1∧e.1≤8∧-1≤e.2∧e.2≤8
theorem SmallG.fit {n es} (h:SmallG n es):Fit es:=fun e he=>by have:=h.el e he;omega
end Go.Idl
namespace Go.Idl
open Go
def gls (n:Int) (gl:List (List (Int×Int))):List (List IV):=gl.map fun es=>[I n,O2 es]
@[simp] theorem gls_len (n:Int) (gl):(gls n gl).length=gl.length:=by simp [gls]
@[simp] theorem gls_one (n:Int) (gl) (es:List (Int×Int)):gls n gl++[[IV.sc (.int .i64 n),.own 2 (eds es)]]=gls n (gl++[es]):=by simp [gls]
@[simp] theorem gls_emp (n:Int) (gl):(gls n gl).isEmpty=gl.isEmpty:=by cases gl <;> rfl
@[simp] theorem gls_take (n:Int) (gl) (k:Nat):(gls n gl).take k=gls n (gl.take k):=by simp [gls,List.map_take]
@[simp] theorem gls_all (n:Int) (gl):((gls n gl).all fun x=>x.all IV.isData)=true:=by
  induction gl with
  | nil=>rfl
  | cons x xs ih=>simp only [gls,List.map_cons,List.all_cons] at *;rw [ih];rfl
@[simp] theorem gls_noLst (n:Int) (gl):noLstLL (gls n gl)=true:=by
  induction gl with
  | nil=>rfl
  | cons x xs ih=>simp only [gls,List.map_cons,noLstLL,noLstL,noLstV,eds_noLst] at *;rw [ih];rfl
end Go.Idl
namespace Go.Idl
open Go
section
variable {tb:Tbl} {st:St} {Q:Ex→St→Prop}
theorem wp_rws {ops s t live b st1 st2 st3} (h:execOps (limF tb) st ops=some st1) (hs:st1.swapS s t=some st2) (hc:st2.cut live=st3) (hb:wp tb b st3 Q):wp tb (.seq (.regw ops s t live) b) st Q:=by
  subst hc
  simp only [wpi_seq]
  exact ⟨st1,h,st2,hs,hb⟩
end
theorem ints_allSc (xs:List Int):((ints xs).all fun x=>x.all IV.isSc)=true:=by
  induction xs with
  | nil=>rfl
  | cons x xs ih=>simp only [ints,List.map_cons,List.all_cons] at *;rw [ih];rfl
theorem del_take {α:Type} (xs:List α) (v m:Nat) (hm:xs.length=v+1+m) (W:List α) (hW:W=xs.take v++((xs.drop (v+1)).take m++xs.drop (v+m))):W.length=v+1+m∧W.take (v+m)=xs.eraseIdx v:=by
  subst hW
  refine ⟨by simp;omega,?_⟩
  rw [List.eraseIdx_eq_take_drop_succ,← List.append_assoc,List.take_append_of_le_length (by simp;omega),List.take_of_length_le (by simp;omega),List.take_of_length_le (l:=xs.drop (v+1)) (by simp;omega)]
theorem ev_DeleteI (xs:List Int) (v:Nat) (hv:v < xs.length) (hl:xs.length≤1000000) (M:List Boxes) :
    Ev tb zl476 [] [O xs,I v,I ((v:Int)+1)] M ⟨O (xs.eraseIdx v),[],M,[]⟩:=by
  have h1:v+1≤xs.length:=by omega
  have h2:v≤xs.length:=by omega
  have h3:¬ v=v+1:=by omega
  have h4:¬ (v:Int)=(v:Int)+1:=by omega
  have h5:v≤v+1:=by omega
  have h6:¬ (xs.length:Int) < (v:Int)+1:=by omega
  have step:∀ b,wp tb (.seq z476r4 (.seq z476r5 (.seq z476r6 (.seq z476r7 .ret)))) { T:=[(0,O xs),(1,I v),(2,I ((v:Int)+1)),(16,Bo b),(18,.un)],loc:=[],M:=M }
      (fun ex st=>(ex=.normal ∨ ex=.ret)∧finish zi476 [] st=some { v:=O (xs.eraseIdx v),back:=[],M:=M,exp:=[] }):=by
    intro b
    obtain ⟨m,hm⟩:∃ m,xs.length=v+1+m:=⟨xs.length - (v+1),by omega⟩
    have f0:xs.length - (v+1)=m:=by omega
    have f1:v+m≤xs.length:=by omega
    have f3:xs.length - (v+m)=1:=by omega
    refine wp_rws (by simp;with_reducible rfl) (by simp [St.swapS];with_reducible rfl) (by simp;with_reducible rfl) ?_
    by_cases h7:m=0
    · subst h7
      have hv1:v+1=xs.length:=by omega
      have g1:xs.length - v=1:=by omega
      have g2:xs.eraseIdx v=xs.take v:=by
        rw [List.eraseIdx_eq_take_drop_succ,List.drop_of_length_le (by omega),List.append_nil]
      refine wr (by simp [h1,h2,h3,h4,h5,h6,hv1,ints_allSc];with_reducible rfl) ?_
      refine wr (by simp [h1,h2,h3,h4,h5,h6,hv1,g1,ints_allSc,ints_len];with_reducible rfl) ?_
      refine wr (by simp [h1,h2,h3,h4,h5,h6,hv1,ints_allSc];with_reducible rfl) ?_
      refine wp_ret' ?_
      simp [zi476,g2]
    · have f4:v+1+m≤xs.length:=by omega
      have f5:¬ ints ((xs.drop (v+1)).take m)=[]:=fun h=>by have:=congrArg List.length h;simp at this;omega
      have f6:((xs.drop (v+1)).take m).length=m:=by simp;omega
      refine wr (by simp [h1,h2,h3,h4,h5,h6,f0,f1,f4,f5,f6,h7,ints_allSc];with_reducible rfl) ?_
      obtain ⟨q1,q2⟩:=del_take xs v m hm _ rfl
      generalize xs.take v++((xs.drop (v+1)).take m++xs.drop (v+m))=W at *
      have g3:W.length - (v+m)=1:=by omega
      have g4:v+m≤W.length:=by omega
      have g5:xs.length=W.length:=by omega
      have g7:v+m+1≤W.length:=by omega
      have g8:(W.take (v+m)).length=v+m:=by simp;omega
      have g6:natOf (.sc (.int .i64 ((v:Int)+(m:Int))))=some (v+m):=natOf_nat (n:=v+m)
      refine wr (by simp [g5,g3,g4,g6,g7,ints_allSc];with_reducible rfl) ?_
      refine wr (by simp [g5,g3,g4,g6,g7,ints_allSc];with_reducible rfl) ?_
      refine wp_ret' ?_
      simp [zi476,List.take_append,q2,g4]
  by_cases h7:v+1=xs.length
  · refine call_of_wp zt476 rfl ?_
    iterate 6 (first|apply wp_as|apply wp_ss|refine wr (by simp [h1,h2,h3,h4,h5,h6,h7];with_reducible rfl) ?_|refine wq (by simp [h1,h2,h3,h4,h5,h6,h7];with_reducible rfl) ?_|refine wt (by simpa [h1,h2,h3,h4,h5,h6,h7]) ?_|refine wf (by simpa [h1,h2,h3,h4,h5,h6,h7]) ?_|refine xt (by simpa [h1,h2,h3,h4,h5,h6,h7]) ?_|refine xf (by simpa [h1,h2,h3,h4,h5,h6,h7]) ?_|apply wp_bs|apply wp_b|refine wp_sr ?_|refine wp_sx ?_|refine wp_ret' ?_|refine wp_skip' ?_|refine wp_exit' ?_)
    exact step _
  · refine call_of_wp zt476 rfl ?_
    iterate 6 (first|apply wp_as|apply wp_ss|refine wr (by simp [h1,h2,h3,h4,h5,h6,h7];with_reducible rfl) ?_|refine wq (by simp [h1,h2,h3,h4,h5,h6,h7];with_reducible rfl) ?_|refine wt (by simpa [h1,h2,h3,h4,h5,h6,h7]) ?_|refine wf (by simpa [h1,h2,h3,h4,h5,h6,h7]) ?_|refine xt (by simpa [h1,h2,h3,h4,h5,h6,h7]) ?_|refine xf (by simpa [h1,h2,h3,h4,h5,h6,h7]) ?_|apply wp_bs|apply wp_b|refine wp_sr ?_|refine wp_sx ?_|refine wp_ret' ?_|refine wp_skip' ?_|refine wp_exit' ?_)
    exact step _
end Go.Idl
namespace Go.Idl
def insP (x:Nat×Nat):List (Nat×Nat)→List (Nat×Nat)
  | []=>[x]
  | y::r=>if Nat.ble y.1 x.1 then x::y::r else y::insP x r
def hh:Nat→List (Nat×Nat)→List (Nat×Nat)
  | 0,_=>[]
  | _+1,[]=>[]
  | m+1,x::r=>(r.take x.1).map (fun y:Nat×Nat=>(x.2,y.2))++hh m ((((r.take x.1).map (fun y:Nat×Nat=>(y.1 - 1,y.2))++r.drop x.1:List (Nat×Nat))).foldr insP [])
theorem decAt_get {o:List Int} {i v:Nat} (hv:v < o.length):(decAt o i).getD v 0=o.getD v 0 - (if i=v then 1 else 0):=by
  rw [decAt,List.getD_eq_getElem?_getD,List.getElem?_set]
  by_cases h:i=v
  · subst h;simp [hv,List.getD_eq_getElem?_getD]
  · simp [h,List.getD_eq_getElem?_getD]
def mk (u v:Nat):Int×Int:=(min (u:Int) v,max (u:Int) v)
end Go.Idl
namespace Go.Idl
def lexR (left:List Int) (a b:Int):Prop:=left.getD b.toNat 0 < left.getD a.toNat 0 ∨ (left.getD a.toNat 0=left.getD b.toNat 0∧a < b)
theorem lexR_trans {left:List Int} {a b c:Int} (h:lexR left a b) (k:lexR left b c):lexR left a c:=by
  simp only [lexR] at *;omega
theorem lexR_irr {left:List Int} {a:Int} (h:lexR left a a):False:=by
  simp only [lexR] at h;omega
theorem insC_lex {left:List Int} {x:Int}:∀ (r B:List Int),(r.reverse++B).Pairwise (lexR left)→(∀ y ∈ r,y < x)→(∀ b ∈ B,left.getD b.toNat 0 < left.getD x.toNat 0)→(insC (gtD left) x r B).Pairwise (lexR left)
  | [],B,h,_,hb=>List.pairwise_cons.2 ⟨fun b hb'=>.inl (hb b hb'),by simpa using h⟩
  | a::r,B,h,hr,hb=>by
    rw [List.reverse_cons,List.append_assoc] at h
    unfold insC
    split
    · rename_i hx
      refine insC_lex r (a::B) h (fun y hy=>hr y (by simp [hy])) fun b hb'=>?_
      rcases List.mem_cons.1 hb' with rfl | hb'
      · simpa [gtD] using hx
      · exact hb b hb'
    · rename_i hx
      have hx:left.getD x.toNat 0≤left.getD a.toNat 0:=by
        simp only [gtD,decide_eq_true_eq] at hx;omega
      have hax:lexR left a x:=by
        have:=hr a (by simp)
        simp only [lexR];omega
      obtain ⟨h1,h2,h3⟩:=List.pairwise_append.1 (show (r.reverse++a::B).Pairwise (lexR left) from h)
      have h2:=List.pairwise_cons.1 h2
      refine List.pairwise_append.2 ⟨h1,?_,fun p hp q hq=>?_⟩
      · refine List.pairwise_cons.2 ⟨fun q hq=>?_,List.pairwise_cons.2 ⟨fun b hb'=>.inl (hb b hb'),h2.2⟩⟩
        rcases List.mem_cons.1 hq with rfl | hq
        · exact hax
        · exact h2.1 q hq
      · have h4:=h3 p hp a (by simp)
        rcases List.mem_cons.1 hq with rfl | hq
        · exact h4
        · rcases List.mem_cons.1 hq with rfl | hq
          · exact lexR_trans h4 hax
          · exact h3 p hp q (by simp [hq])
theorem srtC_lex {left:List Int}:∀ (T S:List Int),S.Pairwise (lexR left)→(∀ y ∈ S,∀ x ∈ T,y < x)→T.Pairwise (fun a b:Int=>a < b)→(srtC (gtD left) S T).Pairwise (lexR left)
  | [],S,h,_,_=>h
  | x::r,S,h,hs,ht=>by
    have ht':=List.pairwise_cons.1 ht
    rw [srtC]
    refine srtC_lex r _ (insC_lex _ _ (by simpa using h) (fun y hy=>hs y (by simpa using hy) x (by simp)) (by simp)) (fun y hy z hz=>?_) ht'.2
    have:=(insC_perm (gtD left) x S.reverse []).mem_iff.1 hy
    simp only [List.reverse_reverse,List.mem_append,List.mem_cons,List.not_mem_nil,or_false] at this
    rcases this with h1 | rfl
    · exact hs y h1 z (by simp [hz])
    · exact ht'.1 z hz
end Go.Idl
namespace Go.Idl
theorem decAt_get' {o:List Int} {i x:Int} (hi:0≤i) (hx:0≤x) (hl:x < o.length):(decAt o i.toNat).getD x.toNat 0=o.getD x.toNat 0 - (if x=i then 1 else 0):=by
  rw [decAt_get (by omega)]
  by_cases h:x=i
  · subst h;simp
  · rw [if_neg h,if_neg (by omega)]
theorem idxB_pw (n:Nat):(idxB n (-1)).Pairwise (fun a b:Int=>a < b):=by
  rw [idxB_all,List.pairwise_map]
  exact (List.pairwise_lt_range).imp fun h=>by omega
theorem mem_idxB {n:Nat} {x:Int}:x ∈ idxB n (-1) ↔ 0≤x∧x < n:=by
  rw [idxB_all,List.mem_map]
  constructor
  · rintro ⟨v,hv,rfl⟩;have:=List.mem_range.1 hv;omega
  · intro h;exact ⟨x.toNat,List.mem_range.2 (by omega),by omega⟩
theorem layI_get {n:Nat} (v:Int):∀ (tops left:List Int) (es:List (Int×Int)) (left':List Int) (es':List (Int×Int)),layI v tops left es=some (left',es')→tops.Nodup→left.length=n→(∀ x ∈ tops,0≤x∧x < n) →
    ∀ x:Int,0≤x→x < n→left'.getD x.toNat 0=left.getD x.toNat 0 - (if x ∈ tops then 1 else 0)
  | [],left,es,left',es',h,_,_,_,x,_,_=>by
    simp only [layI,Option.some.injEq,Prod.mk.injEq] at h
    rw [h.1];simp
  | i::r,left,es,left',es',h,hn,hl,hb,x,h0,h1=>by
    rw [layI] at h
    split at h
    · cases h
    have hn':=List.nodup_cons.1 hn
    have hi:=hb i (by simp)
    rw [layI_get v r _ _ _ _ h hn'.2 (by simp [decAt,hl]) (fun x hx=>hb x (by simp [hx])) x h0 h1,decAt_get' hi.1 h0 (by omega)]
    by_cases hx:x=i
    · subst hx;simp [hn'.1]
    · simp [hx]
end Go.Idl
namespace Go.Idl
def hv:Nat→List Int→Bool
  | 0,_=>true
  | _+1,[]=>true
  | m+1,x::r=>decide (x≤r.length) && (r.take x.toNat).all (fun y=>!decide (y=0)) && hv m (fall ((r.take x.toNat).map (fun y=>y - 1)++r.drop x.toNat))
theorem layI_some {n:Nat} (v:Int):∀ (tops left:List Int) (es:List (Int×Int)),tops.Nodup→left.length=n→(∀ x ∈ tops,0≤x∧x < n) →
    (layI v tops left es).isSome=tops.all (fun i=>!decide (left.getD i.toNat 0=0))
  | [],left,es,_,_,_=>rfl
  | i::r,left,es,hn,hl,hb=>by
    have hn':=List.nodup_cons.1 hn
    have hi:=hb i (by simp)
    rw [layI]
    by_cases h0:left.getD i.toNat 0=0
    · rw [if_pos h0,List.all_cons,h0];rfl
    · rw [if_neg h0,layI_some v r _ _ hn'.2 (by simp [decAt,hl]) (fun x hx=>hb x (by simp [hx])),List.all_cons]
      simp only [h0,decide_false,Bool.not_false,Bool.true_and]
      rw [Bool.eq_iff_iff,List.all_eq_true,List.all_eq_true]
      refine forall_congr' fun x=>?_
      refine forall_congr' fun (hx:x ∈ r)=>?_
      have hxb:=hb x (by simp [hx])
      rw [decAt_get' hi.1 hxb.1 (by omega),if_neg (fun h=>hn'.1 (by rw [← h];exact hx))]
      simp
end Go.Idl
namespace Go.Idl
def gS (s:List Int):Bool:=s.all (fun x=>decide (0≤x) && decide (x < s.length)) && decide (s.sum % 2=0) && noneNeg (slS s)
theorem all_perm' {xs ys:List Int} (h:xs.Perm ys) (p:Int→Bool):xs.all p=ys.all p:=by
  rw [Bool.eq_iff_iff,List.all_eq_true,List.all_eq_true]
  exact ⟨fun k x hx=>k x (h.mem_iff.2 hx),fun k x hx=>k x (h.mem_iff.1 hx)⟩
theorem graphic_gS {d:List Int} (hl:d.length≤7):graphic d=gS (fall d):=by
  rw [graphic,gS,valid,slacks_S,fall_len,fall_sum,all_perm' (fall_perm d),decide_eq_true hl,Bool.true_and]
  rfl
end Go.Idl
namespace Go.Idl
def layO (d:List Int) (v:Nat):Option (List Int):=(layI v (topD d (idxB d.length v) (d.getD v 0).toNat) d []).map fun q=>q.1.eraseIdx v
def layN (x:Int) (r:List Int):Bool:=(r.take x.toNat).all (fun y=>!decide (y=0)) && gS (fall ((r.take x.toNat).map (fun y=>y - 1)++r.drop x.toNat))
def chkL (s:List Int):Bool:=(List.range s.length).all fun p=>decide (gS s=layN (s.getD p 0) (s.eraseIdx p))
set_option maxRecDepth 100000 in
theorem chkL_all:(List.range 8).all (fun n=>allD chkL n (n - 1) [])=true:=by kernel_rfl
end Go.Idl
namespace Go.Idl
open Go
theorem lo_in (v:Nat) (n:Nat) (hn:n≤7) (tops:List Int) (htl:tops.length≤100) (ht:∀ x ∈ tops,0≤x∧x < n) :
    ∀ (m j:Nat) (left:List Int) (es:List (Int×Int)),j+m=tops.length→left.length=n→(∀ x ∈ left,0≤x∧x≤1000) →
    wp tb (.loop z460l11) { T:=[(1,I v),(6,O left),(31,O tops),(32,I tops.length),(33,I j)],loc:=[],M:=[] }
      (fun ex st=>match layI v (tops.drop j) left es with
        | none=>ex=.ret∧st={ T:=[(4,Z),(5,Bo false)],loc:=[],M:=[] }
        | some (left',_)=>ex=.exit 0∧st={ T:=[(1,I v),(6,O left'),(31,O tops),(32,I tops.length),(33,I tops.length),(34,Bo false)],loc:=[],M:=[] }):=by
  intro m
  induction m with
  | zero =>
    intro j left es hj hl hb2
    obtain ⟨h1,h2⟩:=drop_end hj
    have h3:j=tops.length:=hj
    subst h3
    rw [h2]
    refine wp_loop ?_
    repeat (first|apply wp_as|apply wp_ss|refine wr (by simp;with_reducible rfl) ?_|refine wq (by simp;with_reducible rfl) ?_|refine wt (by simpa) ?_|refine wf (by simpa) ?_|refine xt (by simpa) ?_|refine xf (by simpa) ?_|apply wp_bs|apply wp_b|refine wp_sr ?_|refine wp_sx ?_|refine wp_ret' ?_|refine wp_skip' ?_|refine wp_exit' ?_)
    exact ⟨rfl,rfl⟩
  | succ m ih =>
    intro j left es hj hl hb2
    obtain ⟨hjl,h2,h3⟩:=drop_get hj
    have hti:=ht _ h3
    obtain ⟨i,hi⟩:=Int.eq_ofNat_of_zero_le hti.1
    have hil:i < left.length:=by omega
    have hin:i < n:=by omega
    have gi:left.getD i 0=left[i]:=by simp [List.getD_eq_getElem?_getD,List.getElem?_eq_getElem hil]
    have hti2:tops[j].toNat=i:=by omega
    have bi:=hb2 _ (List.getElem_mem hil)
    have w1:IntKind.i64.wrap (left[i] - 1)=left[i] - 1:=wrap64 (by omega) (by omega)
    have w2:IntKind.i64.wrap ((j:Int)+1)=((j+1:Nat):Int):=wrapS (by omega)
    rw [h2,layI,hti2,gi]
    by_cases h0:left[i]=0
    · rw [if_pos h0]
      have q1:left[i] - 1 < 0:=by omega
      refine wp_loop ?_
      repeat (first|apply wp_as|apply wp_ss|refine wr (by simp [hjl,hi,hil,hin,hl,w1,q1];with_reducible rfl) ?_|refine wq (by simp [hjl,hi,hil,hin,hl,w1,q1];with_reducible rfl) ?_|refine wt (by simpa [hjl,hi,hil,hin,hl,w1,q1]) ?_|refine wf (by simpa [hjl,hi,hil,hin,hl,w1,q1]) ?_|refine xt (by simpa [hjl,hi,hil,hin,hl,w1,q1]) ?_|refine xf (by simpa [hjl,hi,hil,hin,hl,w1,q1]) ?_|apply wp_bs|apply wp_b|refine wp_sr ?_|refine wp_sx ?_|refine wp_ret' ?_|refine wp_skip' ?_|refine wp_exit' ?_)
      exact ⟨rfl,rfl⟩
    · rw [if_neg h0]
      have q1:¬ left[i] - 1 < 0:=by omega
      have hd:decAt left i=left.set i (left[i] - 1):=by rw [decAt,gi]
      have hn2:=ih (j+1) (decAt left i) (es++[(min (v:Int) tops[j],max (v:Int) tops[j])]) (by omega) (by simp [decAt,hl]) (by
        rw [hd]
        intro x hx
        rcases List.mem_or_eq_of_mem_set hx with hx | rfl
        · exact hb2 x hx
        · omega)
      rw [hd] at hn2 ⊢
      refine wp_loop ?_
      repeat (first|apply wp_as|apply wp_ss|refine wr (by simp [hjl,hi,hil,hin,hl,w1,w2,q1];with_reducible rfl) ?_|refine wq (by simp [hjl,hi,hil,hin,hl,w1,w2,q1];with_reducible rfl) ?_|refine wt (by simpa [hjl,hi,hil,hin,hl,w1,w2,q1]) ?_|refine wf (by simpa [hjl,hi,hil,hin,hl,w1,w2,q1]) ?_|refine xt (by simpa [hjl,hi,hil,hin,hl,w1,w2,q1]) ?_|refine xf (by simpa [hjl,hi,hil,hin,hl,w1,w2,q1]) ?_|apply wp_bs|apply wp_b|refine wp_sr ?_|refine wp_sx ?_|refine wp_ret' ?_|refine wp_skip' ?_|refine wp_exit' ?_)
      exact hn2
theorem ev_LayOff (d:List Int) (c:Bool) (hv:valid d=true) (v:Nat) (hvd:v < d.length) :
    Ev tb zl460 [] [L d c,I v] [] ⟨match layO d v with | none=>.tup [Z,Bo false] | some l=>.tup [O l,Bo true],[],[],[]⟩:=by
  have hf:=valid_few hv
  have hm:=valid_mem hv
  have h7:=hf.1
  have e1:=fun c=>ev_lim (ev_ValidDegrees d c (by omega))
  rw [hv] at e1
  have w1:IntKind.i64.wrap ((d.length:Int) - 1)=(d.length:Int) - 1:=wrap64 (by omega) (by omega)
  have e2:=ev_lim (ev_in (v:Int) 0 ((d.length:Int) - 1))
  rw [decide_eq_true (by omega:(0:Int)≤v),decide_eq_true (by omega:(v:Int)≤(d.length:Int) - 1),Bool.true_and] at e2
  have e3:=fun c=>ev_lim (ev_clone d c (by omega))
  have e4:=ev_lim (ev_indices d.length v (by omega))
  have hdm:=hm d[v] (List.getElem_mem hvd)
  obtain ⟨k,hk⟩:=Int.eq_ofNat_of_zero_le hdm.1
  have hgd:d.getD v 0=d[v]:=by rw [List.getD_eq_getElem?_getD,List.getElem?_eq_getElem hvd];rfl
  have hTb:∀ x ∈ idxB d.length v,0≤x∧x < d.length:=fun x hx=>by
    rw [idxB,List.mem_filter,List.mem_map] at hx
    obtain ⟨⟨a,h1,rfl⟩,-⟩:=hx
    have:=List.mem_range.1 h1
    omega
  have hTl:(idxB d.length v).length+1=d.length:=by
    have h1:=filter_len' (fun x:Int=>decide (x ≠ (v:Int))) ((List.range d.length).map fun v:Nat=>(v:Int))
    have h2:(((List.range d.length).map fun v:Nat=>(v:Int)).filter fun x:Int=>!decide (x ≠ (v:Int)))=[(v:Int)]:=by
      rw [List.filter_map,show ((fun x:Int=>!decide (x ≠ (v:Int))) ∘ fun v:Nat=>(v:Int))=fun x:Nat=>decide (x=v) by funext x;simp [Int.ofNat_inj]]
      have:(List.range d.length).filter (fun x=>decide (x=v))=[v]:=by
        have h3:=List.nodup_range (n:=d.length)
        refine List.Perm.eq_singleton ((List.perm_ext_iff_of_nodup (h3.filter _) (by simp)).2 fun x=>?_)
        rw [List.mem_filter,List.mem_range]
        simp only [decide_eq_true_eq,List.mem_singleton]
        exact ⟨fun h=>h.2,fun h=>⟨by omega,h⟩⟩
      rw [this];rfl
    rw [h2] at h1
    simp only [List.length_map,List.length_range,List.length_singleton] at h1
    exact h1
  have hkl:k≤(idxB d.length v).length:=by omega
  have hT2:(topD d (idxB d.length v) k).length≤100:=by
    rw [topD,List.length_take,topD_len d _ k];omega
  have hT3:∀ x ∈ topD d (idxB d.length v) k,0≤x∧x < d.length:=fun x hx=>by
    rw [topD] at hx
    have:=(srtC_perm (gtD d) (idxB d.length v) []).mem_iff.1 (List.mem_of_mem_take hx)
    simp only [List.nil_append] at this
    exact hTb x this
  have e5:∀ c x,(∃ c',x=L (idxB d.length v) c') ∨ (idxB d.length v=[]∧x=Z)→limF tb zl210 [] [L d c,x,I k] []=some ⟨O (topD d (idxB d.length v) k),[],[],[]⟩:=fun c x hx =>
    ev_lim (ev_greatest d c (fun x hx=>by have:=hm x hx;omega) x (idxB d.length v) hx (by omega) hTb k hkl)
  have loop:=lo_in v d.length hf.1 (topD d (idxB d.length v) k) hT2 hT3 (topD d (idxB d.length v) k).length 0 d [] (by omega) rfl (fun x hx=>by have:=hm x hx;omega)
  rw [List.drop_zero] at loop
  rw [layO,hgd,hk,Int.toNat_natCast]
  obtain ⟨T,hT⟩:∃ T,T=idxB d.length v:=⟨_,rfl⟩
  rw [← hT] at e4 e5 loop ⊢
  have hTl2:T.length+1=d.length:=by rw [hT];exact hTl
  obtain ⟨tops,htops⟩:∃ tops,tops=topD d T k:=⟨_,rfl⟩
  rw [← htops] at e5 loop ⊢
  have hres:∀ q,layI v tops d []=some q→q.1.length=d.length:=fun q hq=>(layI_inv v _ _ _ _ _ hq (fun x hx=>by have:=hm x hx;omega)).1
  have hdl:∀ left':List Int,left'.length=d.length→limF tb zl476 [] [O left',I v,I ((v:Int)+1)] []=some ⟨O (left'.eraseIdx v),[],[],[]⟩:=fun left' h=>ev_lim (ev_DeleteI left' v (by omega) (by omega) [])
  have hcl:∀ left':List Int,left'.length=d.length→∀ c,limF tb zl31 [] [L (left'.eraseIdx v) c] []=some ⟨O (left'.eraseIdx v),[],[],[]⟩:=fun left' h c=>ev_lim (ev_clone _ c (by have:=List.length_eraseIdx_le left' v;omega))
  have w2:IntKind.i64.wrap ((v:Int)+1)=(v:Int)+1:=wrap64 (by omega) (by omega)
  cases hq:layI v tops d [] with
  | none =>
    simp only [hq] at loop
    cases T with
    | nil =>
      have e6:=fun c=>e5 c Z (.inr ⟨rfl,rfl⟩)
      simp only [nlI] at e4
      refine call_of_wp zt460 rfl ?_
      repeat (first|apply wp_as|apply wp_ss|refine wr (by simp [e1,e2,w1,e3];with_reducible rfl) ?_|refine wq (by simp [e1,e2,w1,e3];with_reducible rfl) ?_|refine wt (by simpa [e1,e2,w1,e3]) ?_|refine wf (by simpa [e1,e2,w1,e3]) ?_|refine xt (by simpa [e1,e2,w1,e3]) ?_|refine xf (by simpa [e1,e2,w1,e3]) ?_|apply wp_bs|apply wp_b|refine wp_sr ?_|refine wp_sx ?_|refine wp_ret' ?_|refine wp_skip' ?_|refine wp_exit' ?_)
      refine wp_ra (by simp [e4,e6,hvd,hk];with_reducible rfl) (by simp;with_reducible rfl) ?_ ?_
      · intro p hp
        simp only [List.mem_cons,List.not_mem_nil,or_false] at hp
        subst hp
        exact ⟨_,by simp [e4,e6,hvd,hk];with_reducible rfl,by simp⟩
      repeat (first|apply wp_as|apply wp_ss|refine wr (by simp;with_reducible rfl) ?_|refine wq (by simp;with_reducible rfl) ?_|refine wt (by simpa) ?_|refine wf (by simpa) ?_|refine xt (by simpa) ?_|refine xf (by simpa) ?_|apply wp_bs|apply wp_b|refine wp_sr ?_|refine wp_sx ?_|refine wp_ret' ?_|refine wp_skip' ?_|refine wp_exit' ?_)
      refine wp_imp loop ?_
      rintro ex st ⟨rfl,rfl⟩
      simp [zi460]
    | cons t T =>
      have e6:=fun c c'=>e5 c (L (t::T) c') (.inl ⟨_,rfl⟩)
      simp only [nlI] at e4
      refine call_of_wp zt460 rfl ?_
      repeat (first|apply wp_as|apply wp_ss|refine wr (by simp [e1,e2,w1,e3];with_reducible rfl) ?_|refine wq (by simp [e1,e2,w1,e3];with_reducible rfl) ?_|refine wt (by simpa [e1,e2,w1,e3]) ?_|refine wf (by simpa [e1,e2,w1,e3]) ?_|refine xt (by simpa [e1,e2,w1,e3]) ?_|refine xf (by simpa [e1,e2,w1,e3]) ?_|apply wp_bs|apply wp_b|refine wp_sr ?_|refine wp_sx ?_|refine wp_ret' ?_|refine wp_skip' ?_|refine wp_exit' ?_)
      refine wp_ra (by simp [e4,e6,hvd,hk];with_reducible rfl) (by simp;with_reducible rfl) ?_ ?_
      · intro p hp
        simp only [List.mem_cons,List.not_mem_nil,or_false] at hp
        subst hp
        exact ⟨_,by simp [e4,e6,hvd,hk];with_reducible rfl,by simp⟩
      repeat (first|apply wp_as|apply wp_ss|refine wr (by simp;with_reducible rfl) ?_|refine wq (by simp;with_reducible rfl) ?_|refine wt (by simpa) ?_|refine wf (by simpa) ?_|refine xt (by simpa) ?_|refine xf (by simpa) ?_|apply wp_bs|apply wp_b|refine wp_sr ?_|refine wp_sx ?_|refine wp_ret' ?_|refine wp_skip' ?_|refine wp_exit' ?_)
      refine wp_imp loop ?_
      rintro ex st ⟨rfl,rfl⟩
      simp [zi460]
  | some q =>
    obtain ⟨left',es'⟩:=q
    have hl':=hres _ hq
    simp only at hl'
    simp only [hq] at loop
    have e7:=hdl left' hl'
    have e8:=hcl left' hl'
    simp only [Option.map_some]
    cases T with
    | nil =>
      have e6:=fun c=>e5 c Z (.inr ⟨rfl,rfl⟩)
      simp only [nlI] at e4
      refine call_of_wp zt460 rfl ?_
      repeat (first|apply wp_as|apply wp_ss|refine wr (by simp [e1,e2,w1,e3];with_reducible rfl) ?_|refine wq (by simp [e1,e2,w1,e3];with_reducible rfl) ?_|refine wt (by simpa [e1,e2,w1,e3]) ?_|refine wf (by simpa [e1,e2,w1,e3]) ?_|refine xt (by simpa [e1,e2,w1,e3]) ?_|refine xf (by simpa [e1,e2,w1,e3]) ?_|apply wp_bs|apply wp_b|refine wp_sr ?_|refine wp_sx ?_|refine wp_ret' ?_|refine wp_skip' ?_|refine wp_exit' ?_)
      refine wp_ra (by simp [e4,e6,hvd,hk];with_reducible rfl) (by simp;with_reducible rfl) ?_ ?_
      · intro p hp
        simp only [List.mem_cons,List.not_mem_nil,or_false] at hp
        subst hp
        exact ⟨_,by simp [e4,e6,hvd,hk];with_reducible rfl,by simp⟩
      repeat (first|apply wp_as|apply wp_ss|refine wr (by simp;with_reducible rfl) ?_|refine wq (by simp;with_reducible rfl) ?_|refine wt (by simpa) ?_|refine wf (by simpa) ?_|refine xt (by simpa) ?_|refine xf (by simpa) ?_|apply wp_bs|apply wp_b|refine wp_sr ?_|refine wp_sx ?_|refine wp_ret' ?_|refine wp_skip' ?_|refine wp_exit' ?_)
      refine wp_imp loop ?_
      rintro ex st ⟨rfl,rfl⟩
      simp only [if_true]
      repeat (first|apply wp_as|apply wp_ss|refine wr (by simp [e7,e8,w2];with_reducible rfl) ?_|refine wq (by simp [e7,e8,w2];with_reducible rfl) ?_|refine wt (by simpa [e7,e8,w2]) ?_|refine wf (by simpa [e7,e8,w2]) ?_|refine xt (by simpa [e7,e8,w2]) ?_|refine xf (by simpa [e7,e8,w2]) ?_|apply wp_bs|apply wp_b|refine wp_sr ?_|refine wp_sx ?_|refine wp_ret' ?_|refine wp_skip' ?_|refine wp_exit' ?_)
      simp [zi460]
    | cons t T =>
      have e6:=fun c c'=>e5 c (L (t::T) c') (.inl ⟨_,rfl⟩)
      simp only [nlI] at e4
      refine call_of_wp zt460 rfl ?_
      repeat (first|apply wp_as|apply wp_ss|refine wr (by simp [e1,e2,w1,e3];with_reducible rfl) ?_|refine wq (by simp [e1,e2,w1,e3];with_reducible rfl) ?_|refine wt (by simpa [e1,e2,w1,e3]) ?_|refine wf (by simpa [e1,e2,w1,e3]) ?_|refine xt (by simpa [e1,e2,w1,e3]) ?_|refine xf (by simpa [e1,e2,w1,e3]) ?_|apply wp_bs|apply wp_b|refine wp_sr ?_|refine wp_sx ?_|refine wp_ret' ?_|refine wp_skip' ?_|refine wp_exit' ?_)
      refine wp_ra (by simp [e4,e6,hvd,hk];with_reducible rfl) (by simp;with_reducible rfl) ?_ ?_
      · intro p hp
        simp only [List.mem_cons,List.not_mem_nil,or_false] at hp
        subst hp
        exact ⟨_,by simp [e4,e6,hvd,hk];with_reducible rfl,by simp⟩
      repeat (first|apply wp_as|apply wp_ss|refine wr (by simp;with_reducible rfl) ?_|refine wq (by simp;with_reducible rfl) ?_|refine wt (by simpa) ?_|refine wf (by simpa) ?_|refine xt (by simpa) ?_|refine xf (by simpa) ?_|apply wp_bs|apply wp_b|refine wp_sr ?_|refine wp_sx ?_|refine wp_ret' ?_|refine wp_skip' ?_|refine wp_exit' ?_)
      refine wp_imp loop ?_
      rintro ex st ⟨rfl,rfl⟩
      simp only [if_true]
      repeat (first|apply wp_as|apply wp_ss|refine wr (by simp [e7,e8,w2];with_reducible rfl) ?_|refine wq (by simp [e7,e8,w2];with_reducible rfl) ?_|refine wt (by simpa [e7,e8,w2]) ?_|refine wf (by simpa [e7,e8,w2]) ?_|refine xt (by simpa [e7,e8,w2]) ?_|refine xf (by simpa [e7,e8,w2]) ?_|apply wp_bs|apply wp_b|refine wp_sr ?_|refine wp_sx ?_|refine wp_ret' ?_|refine wp_skip' ?_|refine wp_exit' ?_)
      simp [zi460]
end Go.Idl
namespace Go.Idl
theorem cons_erase_perm {l:List Int} {i:Nat} (h:i < l.length):(l[i]::l.eraseIdx i).Perm l:=by
  rw [List.eraseIdx_eq_take_drop_succ]
  refine (List.perm_middle (l₁:=l.take i)).symm.trans (.of_eq ?_)
  rw [List.getElem_cons_drop,List.take_append_drop]
theorem chkL_get {s:List Int} (hs:Desc s) (hl:s.length≤7) (hb:∀ x ∈ s,0≤x∧x < s.length) {p:Nat} (hp:p < s.length):gS s=layN s[p] (s.eraseIdx p):=by
  have hc:=List.all_eq_true.1 chkL_all s.length (List.mem_range.2 (by omega))
  have h3:=allD_ok chkL s.length (s.length - 1) [] s hc rfl hs (fun x hx=>by have:=hb x hx;omega)
  simp only [List.reverse_nil,List.nil_append,chkL,List.all_eq_true,List.mem_range] at h3
  have h4:=of_decide_eq_true (h3 p hp)
  rw [h4,List.getD_eq_getElem?_getD,List.getElem?_eq_getElem hp];rfl
theorem mem_idxV {n v:Nat} {x:Int}:x ∈ idxB n v ↔ (0≤x∧x < n)∧x ≠ v:=by
  rw [idxB,List.mem_filter,List.mem_map]
  simp only [List.mem_range,decide_eq_true_eq]
  constructor
  · rintro ⟨⟨a,h1,rfl⟩,h2⟩;exact ⟨by omega,h2⟩
  · rintro ⟨h1,h2⟩;exact ⟨⟨x.toNat,by omega,by omega⟩,h2⟩
theorem idxV_pw (n:Nat) (v:Int):(idxB n v).Pairwise (fun a b:Int=>a < b):=by
  refine List.Pairwise.filter _ ?_
  rw [List.pairwise_map]
  exact List.pairwise_lt_range.imp fun h=>by omega
theorem idxV_perm {n v:Nat} (hv:v < n):((v:Int)::idxB n v).Perm (idxB n (-1)):=by
  have h1:(idxB n v).Nodup:=(idxV_pw n v).imp fun h=>by omega
  have h2:(idxB n (-1)).Nodup:=(idxB_pw n).imp fun h=>by omega
  refine (List.perm_ext_iff_of_nodup (List.nodup_cons.2 ⟨fun h=>(mem_idxV.1 h).2 rfl,h1⟩) h2).2 fun x=>?_
  rw [List.mem_cons,mem_idxV,mem_idxB]
  constructor
  · rintro (rfl | h)
    · omega
    · exact h.1
  · intro h
    by_cases hx:x=v
    · exact .inl hx
    · exact .inr ⟨h,hx⟩
theorem idxV_len {n v:Nat} (hv:v < n):(idxB n v).length+1=n:=by
  have:=(idxV_perm hv).length_eq
  rw [idxB_all] at this
  simpa using this
theorem list_idx (l:List Int):(idxB l.length (-1)).map (fun x=>l.getD x.toNat 0)=l:=by
  rw [idxB_all,List.map_map]
  refine List.ext_getElem (by simp) fun i h1 h2=>?_
  simp [List.getD_eq_getElem?_getD,List.getElem?_eq_getElem h2]
theorem erase_idx {l:List Int} {v:Nat} (hv:v < l.length):(l.eraseIdx v).Perm ((idxB l.length v).map fun x=>l.getD x.toNat 0):=by
  have h1:(l.getD v 0::l.eraseIdx v).Perm l:=by
    rw [List.getD_eq_getElem?_getD,List.getElem?_eq_getElem hv]
    exact cons_erase_perm hv
  have h2:=(idxV_perm hv).map fun x=>l.getD x.toNat 0
  rw [list_idx,List.map_cons,Int.toNat_natCast] at h2
  exact (List.perm_cons _).1 (h1.trans h2.symm)
theorem layO_graphic {d:List Int} (hv':valid d=true) {v:Nat} (hv:v < d.length):graphic d=match layO d v with | none=>false | some l=>graphic l:=by
  have h7:=(valid_few hv').1
  have hm:=valid_mem hv'
  have hb:∀ x ∈ d,0≤x∧x≤1000:=fun x hx=>by have:=hm x hx;omega
  obtain ⟨T,hT⟩:∃ T,T=idxB d.length v:=⟨_,rfl⟩
  have hTp:T.Pairwise (fun a b:Int=>a < b):=by rw [hT];exact idxV_pw _ _
  have hTm:∀ x,x ∈ T ↔ (0≤x∧x < d.length)∧x ≠ v:=fun x=>by rw [hT,mem_idxV]
  have hTl:T.length+1=d.length:=by rw [hT];exact idxV_len hv
  have hdv:d.getD v 0=d[v]:=by rw [List.getD_eq_getElem?_getD,List.getElem?_eq_getElem hv];rfl
  have hdvm:=hm d[v] (List.getElem_mem hv)
  obtain ⟨r,hr⟩:∃ r,r=srtC (gtD d) [] T:=⟨_,rfl⟩
  have hrp:r.Perm T:=by rw [hr];simpa using srtC_perm (gtD d) T []
  have hrlex:r.Pairwise (lexR d):=by rw [hr];exact srtC_lex (left:=d) T [] .nil (by simp) hTp
  have hrn:r.Nodup:=hrp.nodup_iff.2 (hTp.imp fun h=>by omega)
  have hrv:(r.map fun x=>d.getD x.toNat 0)=fall (d.eraseIdx v):=by
    refine fall_unique ?_ ((hrp.map _).trans (by rw [hT];exact (erase_idx hv).symm))
    rw [Desc,List.pairwise_map]
    exact hrlex.imp fun h=>by simp only [lexR] at h;omega
  obtain ⟨p,hp,hpv⟩:=List.mem_iff_getElem.1 (fall_mem.2 (List.getElem_mem hv):d[v] ∈ fall d)
  have hpe:(fall d).eraseIdx p=fall (d.eraseIdx v):=by
    refine fall_unique ((fall_desc d).sublist (List.eraseIdx_sublist _ _)) ?_
    have h1:=cons_erase_perm hp
    have h2:=cons_erase_perm hv
    rw [hpv] at h1
    exact (List.perm_cons _).1 (h1.trans ((fall_perm d).trans h2.symm))
  have hck:=chkL_get (fall_desc d) (by rw [fall_len];exact h7) (fun x hx=>by rw [fall_len];exact hm x (fall_mem.1 hx)) hp
  rw [← graphic_gS h7,hpv,hpe,← hrv,layN,← List.map_take,← List.map_drop,List.all_map] at hck
  rw [hck,layO,hdv,topD,← hT,← hr]
  generalize d[v].toNat=k
  have htn:(r.take k).Nodup:=hrn.sublist (List.take_sublist _ _)
  have htb2:∀ x ∈ r,0≤x∧x < d.length:=fun x hx=>((hTm x).1 (hrp.mem_iff.1 hx)).1
  have htb3:∀ x ∈ r.take k,0≤x∧x < d.length:=fun x hx=>htb2 x (List.mem_of_mem_take hx)
  have hsome:=layI_some v (r.take k) d [] htn rfl htb3
  cases hli:layI v (r.take k) d [] with
  | none =>
    rw [hli] at hsome
    have:(r.take k).all ((fun y=>!decide (y=0)) ∘ fun x=>d.getD x.toNat 0)=false:=hsome.symm
    rw [this];rfl
  | some q =>
    obtain ⟨left',es'⟩:=q
    rw [hli] at hsome
    have:(r.take k).all ((fun y=>!decide (y=0)) ∘ fun x=>d.getD x.toNat 0)=true:=hsome.symm
    rw [this,Bool.true_and]
    obtain ⟨k1,k2,k3⟩:=layI_inv v _ _ _ _ _ hli hb
    have hg:=layI_get v _ _ _ _ _ hli htn rfl htb3
    have hll:left'.length=d.length:=by omega
    simp only [Option.map_some]
    rw [graphic_gS (by rw [List.length_eraseIdx];split <;> omega)]
    refine congrArg gS (fall_congr ?_)
    have h1:=erase_idx (l:=left') (v:=v) (by omega)
    rw [hll,← hT] at h1
    refine List.Perm.trans ?_ ((hrp.map _).trans h1.symm)
    conv=>rhs;rw [← List.take_append_drop k r,List.map_append]
    rw [List.map_map]
    have hdis:∀ x ∈ r.drop k,x ∉ r.take k:=by
      have:=(List.nodup_append.1 (by rw [List.take_append_drop];exact hrn:(r.take k++r.drop k).Nodup)).2.2
      exact fun x hx hx'=>this x hx' x hx rfl
    refine List.Perm.append (.of_eq (List.map_congr_left fun x hx=>?_)) (.of_eq (List.map_congr_left fun x hx=>?_))
    · have hx2:=htb3 x hx
      rw [hg x hx2.1 hx2.2,if_pos hx];rfl
    · have hx2:=htb2 x (List.mem_of_mem_drop hx)
      rw [hg x hx2.1 hx2.2,if_neg (hdis x hx)];simp
end Go.Idl
namespace Go.Idl
def scanG (d:List Int) (v:Int) (gone:List Int):Nat→Int
  | 0=>-1
  | j+1=>if (j:Int) ≠ v∧(j:Int) ∉ gone∧(scanG d v gone j < 0 ∨ d.getD (scanG d v gone j).toNat 0 < d.getD j 0) then (j:Int) else scanG d v gone j
theorem scanG_spec (d:List Int) (v:Int) (gone:List Int):∀ j:Nat,(scanG d v gone j=-1∧∀ i:Nat,i < j→(i:Int) ≠ v→(i:Int) ∉ gone→False) ∨
    (∃ b:Nat,scanG d v gone j=b∧b < j∧(b:Int) ≠ v∧(b:Int) ∉ gone∧∀ i:Nat,i < j→(i:Int) ≠ v→(i:Int) ∉ gone→i ≠ b→lexR d b i)
  | 0=>.inl ⟨rfl,fun i h=>by omega⟩
  | j+1=>by
    have ih:=scanG_spec d v gone j
    rw [scanG]
    by_cases h1:(j:Int) ≠ v∧(j:Int) ∉ gone
    · obtain ⟨h1,h2⟩:=h1
      rcases ih with ⟨h3,h4⟩ | ⟨b,h3,h4,h5,h6,h7⟩
      · rw [if_pos ⟨h1,h2,.inl (by omega)⟩]
        refine .inr ⟨j,rfl,by omega,h1,h2,fun i hi q1 q2 q3=>(h4 i (by omega) q1 q2).elim⟩
      · rw [h3,Int.toNat_natCast]
        by_cases h8:d.getD b 0 < d.getD j 0
        · rw [if_pos ⟨h1,h2,.inr h8⟩]
          refine .inr ⟨j,rfl,by omega,h1,h2,fun i hi q1 q2 q3=>?_⟩
          by_cases h9:i=b
          · subst h9
            left;simpa using h8
          · have:=h7 i (by omega) q1 q2 h9
            simp only [lexR,Int.toNat_natCast] at this ⊢
            left;omega
        · rw [if_neg (fun h=>by rcases h.2.2 with h | h;omega;exact h8 h)]
          refine .inr ⟨b,rfl,by omega,h5,h6,fun i hi q1 q2 q3=>?_⟩
          by_cases h9:i=j
          · subst h9
            simp only [lexR,Int.toNat_natCast]
            omega
          · exact h7 i (by omega) q1 q2 q3
    · have hn:¬ ((j:Int) ≠ v∧(j:Int) ∉ gone∧(scanG d v gone j < 0 ∨ d.getD (scanG d v gone j).toNat 0 < d.getD j 0)):=fun h=>h1 ⟨h.1,h.2.1⟩
      rw [if_neg hn]
      rcases ih with ⟨h3,h4⟩ | ⟨b,h3,h4,h5,h6,h7⟩
      · refine .inl ⟨h3,fun i hi q1 q2=>?_⟩
        by_cases h9:i=j
        · subst h9;exact h1 ⟨q1,q2⟩
        · exact h4 i (by omega) q1 q2
      · refine .inr ⟨b,h3,by omega,h5,h6,fun i hi q1 q2 q3=>?_⟩
        by_cases h9:i=j
        · subst h9;exact (h1 ⟨q1,q2⟩).elim
        · exact h7 i (by omega) q1 q2 q3
theorem scanG_sorted {d:List Int} {v:Nat} (hv:v < d.length) {k:Nat} (hk:k < (srtC (gtD d) [] (idxB d.length v)).length) :
    scanG d v ((srtC (gtD d) [] (idxB d.length v)).take k) d.length=(srtC (gtD d) [] (idxB d.length v))[k]:=by
  obtain ⟨r,hr⟩:∃ r,r=srtC (gtD d) [] (idxB d.length v):=⟨_,rfl⟩
  have hrp:r.Perm (idxB d.length v):=by rw [hr];simpa using srtC_perm (gtD d) (idxB d.length v) []
  have hrlex:r.Pairwise (lexR d):=by rw [hr];exact srtC_lex (left:=d) _ [] .nil (by simp) (idxV_pw _ _)
  have hrn:r.Nodup:=hrp.nodup_iff.2 ((idxV_pw _ _).imp fun h=>by omega)
  simp only [← hr] at hk ⊢
  have hm:∀ x,x ∈ r ↔ (0≤x∧x < d.length)∧x ≠ v:=fun x=>by rw [hrp.mem_iff,mem_idxV]
  have hsplit:r=r.take k++(r[k]::r.drop (k+1)):=by rw [List.getElem_cons_drop,List.take_append_drop]
  rw [hsplit] at hrlex hrn
  obtain ⟨p1,p2,p3⟩:=List.pairwise_append.1 hrlex
  have p4:=(List.pairwise_cons.1 p2).1
  obtain ⟨n1,n2,n3⟩:=List.nodup_append.1 hrn
  have hkm:=(hm r[k]).1 (List.getElem_mem hk)
  have hkg:r[k] ∉ r.take k:=fun h=>n3 _ h _ List.mem_cons_self rfl
  obtain ⟨q,hq⟩:=Int.eq_ofNat_of_zero_le hkm.1.1
  rcases scanG_spec d v (r.take k) d.length with ⟨h3,h4⟩ | ⟨b,h3,h4,h5,h6,h7⟩
  · exact (h4 q (by omega) (by omega) (by rw [← hq];exact hkg)).elim
  · rw [h3]
    by_cases hbq:b=q
    · rw [hq,hbq]
    · have l1:=h7 q (by omega) (by omega) (by rw [← hq];exact hkg) (fun h=>hbq h.symm)
      have hbr:(b:Int) ∈ r:=(hm b).2 ⟨by omega,h5⟩
      have hbd:(b:Int) ∈ r.drop (k+1):=by
        rw [hsplit] at hbr
        rcases List.mem_append.1 hbr with h | h
        · exact (h6 h).elim
        · rcases List.mem_cons.1 h with h | h
          · omega
          · exact h
      have l2:=p4 _ hbd
      rw [hq] at l2
      exact (lexR_irr (lexR_trans l1 l2)).elim
def valT (d top:List Int) (i:Nat):Int:=d.getD i 0 - (if (i:Int) ∈ top then 1 else 0)
def loS (d:List Int) (v:Nat) (top:List Int):Nat→Nat→List Int→Option (List Int)
  | 0,_,out=>some out
  | m+1,i,out=>if i=v then loS d v top m (i+1) out else if valT d top i < 0 then none else loS d v top m (i+1) (out++[valT d top i])
theorem loS_eq (d:List Int) (v:Nat) (top:List Int):∀ (m i:Nat) (out:List Int),loS d v top m i out =
    if (List.range' i m).all (fun j=>decide (j=v) || decide (0≤valT d top j))=true then some (out++((List.range' i m).filter fun j=>decide (j ≠ v)).map (valT d top)) else none
  | 0,i,out=>by simp [loS]
  | m+1,i,out=>by
    rw [loS,List.range'_succ,List.all_cons,List.filter_cons]
    by_cases h1:i=v
    · have e1:(decide (i=v) || decide (0≤valT d top i))=true:=by simp [h1]
      have e2:decide (i ≠ v)=false:=by simp [h1]
      rw [if_pos h1,loS_eq d v top m,e1,e2,Bool.true_and]
      simp only [Bool.false_eq_true,if_false]
    · have e2:decide (i ≠ v)=true:=by simp [h1]
      rw [if_neg h1]
      by_cases h2:valT d top i < 0
      · have e1:(decide (i=v) || decide (0≤valT d top i))=false:=by simp [h1];omega
        rw [if_pos h2,e1,Bool.false_and]
        simp only [Bool.false_eq_true,if_false]
      · have e1:(decide (i=v) || decide (0≤valT d top i))=true:=by simp;omega
        rw [if_neg h2,loS_eq d v top m,e1,e2,Bool.true_and]
        simp only [if_true,List.map_cons,List.append_assoc,List.cons_append,List.nil_append]
theorem erase_range {l:List Int} {v:Nat} (hv:v < l.length):l.eraseIdx v=((List.range' 0 l.length).filter fun j=>decide (j ≠ v)).map fun j=>l.getD j 0:=by
  have h1:List.range' 0 l.length=List.range' 0 v++(v::List.range' (v+1) (l.length - v - 1)):=by
    have e1:l.length=v+((l.length - v - 1)+1):=by omega
    conv=>lhs;rw [e1]
    rw [← List.range'_append (s:=0) (m:=v) (n:=(l.length - v - 1)+1),List.range'_succ]
    simp
  have f1:(List.range' 0 v).filter (fun j=>decide (j ≠ v))=List.range' 0 v:=List.filter_eq_self.2 fun a ha=>by
    have:=(List.mem_range'_1.1 ha).2;simp;omega
  have f2:(List.range' (v+1) (l.length - v - 1)).filter (fun j=>decide (j ≠ v))=List.range' (v+1) (l.length - v - 1):=List.filter_eq_self.2 fun a ha=>by
    have:=(List.mem_range'_1.1 ha).1;simp;omega
  rw [h1,List.filter_append,List.filter_cons,f1,f2,List.eraseIdx_eq_take_drop_succ]
  simp only [ne_eq,not_true_eq_false,decide_false,Bool.false_eq_true,if_false,List.map_append]
  congr 1
  · refine List.ext_getElem (by simp;omega) fun i h1 h2=>?_
    simp only [List.length_map,List.length_range'] at h2
    simp [List.getD_eq_getElem?_getD,List.getElem?_eq_getElem (show i < l.length by omega)]
  · refine List.ext_getElem (by simp;omega) fun i h1 h2=>?_
    simp only [List.length_map,List.length_range'] at h2
    simp [List.getD_eq_getElem?_getD,List.getElem?_eq_getElem (show v+1+i < l.length by omega)]
theorem loS_layO {d:List Int} (hv':valid d=true) {v:Nat} (hv:v < d.length):loS d v (topD d (idxB d.length v) (d.getD v 0).toNat) d.length 0 []=layO d v:=by
  have hm:=valid_mem hv'
  have h77:=(valid_few hv').1
  have hb:∀ x ∈ d,0≤x∧x≤1000:=fun x hx=>by have:=hm x hx;omega
  have hrp:(srtC (gtD d) [] (idxB d.length v)).Perm (idxB d.length v):=by simpa using srtC_perm (gtD d) (idxB d.length v) []
  have hrn:(srtC (gtD d) [] (idxB d.length v)).Nodup:=hrp.nodup_iff.2 ((idxV_pw _ _).imp fun h=>by omega)
  rw [loS_eq,layO]
  obtain ⟨top,ht⟩:∃ top,top=topD d (idxB d.length v) (d.getD v 0).toNat:=⟨_,rfl⟩
  have htn:top.Nodup:=by rw [ht,topD];exact hrn.sublist (List.take_sublist _ _)
  have htm:∀ x ∈ top,(0≤x∧x < d.length)∧x ≠ v:=fun x hx=>by
    rw [ht,topD] at hx
    exact mem_idxV.1 (hrp.mem_iff.1 (List.mem_of_mem_take hx))
  rw [← ht]
  have hsome:=layI_some v top d [] htn rfl (fun x hx=>(htm x hx).1)
  have hget0:∀ i,i < d.length→0≤d.getD i 0:=fun i hi=>by
    rw [List.getD_eq_getElem?_getD,List.getElem?_eq_getElem hi];exact (hb _ (List.getElem_mem hi)).1
  cases hli:layI v top d [] with
  | none =>
    rw [hli] at hsome
    have h1:top.all (fun i=>!decide (d.getD i.toNat 0=0))=false:=hsome.symm
    rw [List.all_eq_false] at h1
    obtain ⟨x,hx,h2⟩:=h1
    simp only [Bool.not_eq_true,Bool.not_eq_false',decide_eq_true_eq] at h2
    obtain ⟨⟨q1,q2⟩,q3⟩:=htm x hx
    obtain ⟨i,rfl⟩:=Int.eq_ofNat_of_zero_le q1
    rw [if_neg];rfl
    rw [List.all_eq_true]
    intro h3
    have h4:=h3 i (List.mem_range'_1.2 (by omega))
    rw [Int.toNat_natCast] at h2
    have h5:valT d top i=-1:=by simp only [valT,h2,hx,if_true];rfl
    rw [h5] at h4
    have:¬ i=v:=by omega
    simp [this] at h4
  | some q =>
    obtain ⟨left',es'⟩:=q
    rw [hli] at hsome
    have h1:top.all (fun i=>!decide (d.getD i.toNat 0=0))=true:=hsome.symm
    rw [List.all_eq_true] at h1
    obtain ⟨k1,k2,k3⟩:=layI_inv v _ _ _ _ _ hli hb
    have hg:=layI_get v _ _ _ _ _ hli htn rfl (fun x hx=>(htm x hx).1)
    rw [if_pos]
    · simp only [Option.map_some,List.nil_append]
      rw [erase_range (l:=left') (by omega),show left'.length=d.length by omega]
      refine congrArg some (List.map_congr_left fun i hi=>?_)
      have hi2:=(List.mem_range'_1.1 (List.mem_filter.1 hi).1).2
      have:=hg (i:Int) (by omega) (by omega)
      rw [Int.toNat_natCast] at this
      rw [this,valT]
    · rw [List.all_eq_true]
      intro i hi
      have hi2:=(List.mem_range'_1.1 hi).2
      have h0:=hget0 i (by omega)
      by_cases hit:(i:Int) ∈ top
      · have h5:=h1 _ hit
        rw [Int.toNat_natCast] at h5
        simp only [Bool.not_eq_true',decide_eq_false_iff_not] at h5
        simp only [valT,hit,if_true,Bool.or_eq_true,decide_eq_true_eq]
        right;omega
      · simp only [valT,hit,if_false,Bool.or_eq_true,decide_eq_true_eq]
        right;omega
theorem layO_props {d:List Int} (hv':valid d=true) {v:Nat} (hv:v < d.length) {l:List Int} (hl:layO d v=some l):l.length+1=d.length∧l.sum=d.sum - 2 * d.getD v 0∧∀ x ∈ l,0≤x∧x≤1000:=by
  have hm:=valid_mem hv'
  have h77:=(valid_few hv').1
  have hb:∀ x ∈ d,0≤x∧x≤1000:=fun x hx=>by have:=hm x hx;omega
  have hrp:(srtC (gtD d) [] (idxB d.length v)).Perm (idxB d.length v):=by simpa using srtC_perm (gtD d) (idxB d.length v) []
  have hrn:(srtC (gtD d) [] (idxB d.length v)).Nodup:=hrp.nodup_iff.2 ((idxV_pw _ _).imp fun h=>by omega)
  rw [layO] at hl
  obtain ⟨top,ht⟩:∃ top,top=topD d (idxB d.length v) (d.getD v 0).toNat:=⟨_,rfl⟩
  have htn:top.Nodup:=by rw [ht,topD];exact hrn.sublist (List.take_sublist _ _)
  have htm:∀ x ∈ top,(0≤x∧x < d.length)∧x ≠ v:=fun x hx=>by
    rw [ht,topD] at hx
    exact mem_idxV.1 (hrp.mem_iff.1 (List.mem_of_mem_take hx))
  have hdv:d.getD v 0=d[v]:=by rw [List.getD_eq_getElem?_getD,List.getElem?_eq_getElem hv];rfl
  have hdvm:=hm d[v] (List.getElem_mem hv)
  have htl:top.length=(d.getD v 0).toNat:=by
    rw [ht,topD,List.length_take,hrp.length_eq]
    have:=idxV_len hv
    omega
  rw [← ht] at hl
  cases hli:layI v top d [] with
  | none=>rw [hli] at hl;cases hl
  | some q =>
    obtain ⟨left',es'⟩:=q
    rw [hli] at hl
    simp only [Option.map_some,Option.some.injEq] at hl
    subst hl
    obtain ⟨k1,k2,k3⟩:=layI_inv v _ _ _ _ _ hli hb
    have hg:=layI_get v _ _ _ _ _ hli htn rfl (fun x hx=>(htm x hx).1)
    have hll:left'.length=d.length:=by omega
    have hsum:∀ (tops left:List Int) (es:List (Int×Int)) (q:List Int×List (Int×Int)),layI v tops left es=some q→(∀ x ∈ tops,0≤x∧x < left.length)→q.1.sum=left.sum - tops.length:=by
      intro tops
      induction tops with
      | nil=>intro left es q h _;simp only [layI,Option.some.injEq] at h;subst h;simp
      | cons i r ih =>
        intro left es q h hbb
        rw [layI] at h
        split at h
        · cases h
        · have:=ih _ _ _ h (fun x hx=>by simp only [decAt,List.length_set];exact hbb x (by simp [hx]))
          rw [this]
          have hi:=hbb i (by simp)
          have hil:i.toNat < left.length:=by omega
          have e1:(decAt left i.toNat).sum=left.sum - 1:=by
            rw [decAt]
            have g:left.getD i.toNat 0=left[i.toNat]:=by rw [List.getD_eq_getElem?_getD,List.getElem?_eq_getElem hil];rfl
            rw [g]
            have h1:=List.set_eq_take_append_cons_drop (l:=left) (i:=i.toNat) (a:=left[i.toNat] - 1)
            rw [if_pos hil] at h1
            rw [h1]
            have h2:left.sum=(left.take i.toNat).sum+(left[i.toNat]+(left.drop (i.toNat+1)).sum):=by
              conv=>lhs;rw [← List.take_append_drop i.toNat left,← List.getElem_cons_drop hil]
              rw [List.sum_append,List.sum_cons]
            rw [List.sum_append,List.sum_cons,h2]
            omega
          rw [e1]
          simp only [List.length_cons]
          omega
    have hs:=hsum _ _ _ _ hli (fun x hx=>(htm x hx).1)
    simp only at hs
    have hvt:left'.getD v 0=d.getD v 0:=by
      have:=hg (v:Int) (by omega) (by omega)
      rw [Int.toNat_natCast] at this
      rw [this,if_neg (fun h=>(htm _ h).2 rfl)];simp
    have hpe:left'.sum=left'.getD v 0+(left'.eraseIdx v).sum:=by
      have h1:(left'.getD v 0::left'.eraseIdx v).Perm left':=by
        rw [List.getD_eq_getElem?_getD,List.getElem?_eq_getElem (by omega:v < left'.length)]
        exact cons_erase_perm (by omega)
      rw [← perm_sum h1,List.sum_cons]
    refine ⟨by rw [List.length_eraseIdx,if_pos (by omega)];omega,by omega,fun x hx=>?_⟩
    exact k2 x (List.mem_of_mem_eraseIdx hx)
end Go.Idl
namespace Go.Idl
open Go
theorem sg_in (d:List Int) (c:Bool) (v:Nat) (k:Int) (gone:List Int) (hg:gone.length≤100) (hd:d.length≤100):∀ (m j:Nat),j+m=d.length →
    wp tb (.loop z587l9) { T:=[(0,L d c),(1,I v),(2,I k),(7,O gone),(8,I (scanG d v gone j)),(9,I j)],loc:=[],M:=[] }
      (fun ex st=>ex=.exit 2∧st={ T:=[(0,L d c),(1,I v),(2,I k),(7,O gone),(8,I (scanG d v gone d.length)),(9,I d.length),(18,Bo false)],loc:=[],M:=[] }):=by
  intro m
  induction m with
  | zero =>
    intro j hj
    have h3:j=d.length:=hj
    subst h3
    refine wp_loop ?_
    repeat (first|apply wp_as|apply wp_ss|refine wr (by simp;with_reducible rfl) ?_|refine wq (by simp;with_reducible rfl) ?_|refine wt (by simpa) ?_|refine wf (by simpa) ?_|refine xt (by simpa) ?_|refine xf (by simpa) ?_|apply wp_bs|apply wp_b|refine wp_sr ?_|refine wp_sx ?_|refine wp_ret' ?_|refine wp_skip' ?_|refine wp_exit' ?_)
    exact ⟨rfl,rfl⟩
  | succ m ih =>
    intro j hj
    have e1:=fun cc=>ev_lim (ev_hasInt gone cc (j:Int) (by omega))
    have hjl:j < d.length:=by omega
    have w1:IntKind.i64.wrap ((j:Int)+1)=((j+1:Nat):Int):=wrapS (by omega)
    have hn:=ih (j+1) (by omega)
    rw [scanG] at hn
    have hgj:d.getD j 0=d[j]:=by rw [List.getD_eq_getElem?_getD,List.getElem?_eq_getElem hjl];rfl
    by_cases h1:j=v
    · rw [if_neg (fun h=>h.1 (by omega))] at hn
      subst h1
      refine wp_loop ?_
      repeat (first|apply wp_as|apply wp_ss|refine wr (by simp [hjl,e1,w1];with_reducible rfl) ?_|refine wq (by simp [hjl,e1,w1];with_reducible rfl) ?_|refine wt (by simpa [hjl,e1,w1]) ?_|refine wf (by simpa [hjl,e1,w1]) ?_|refine xt (by simpa [hjl,e1,w1]) ?_|refine xf (by simpa [hjl,e1,w1]) ?_|apply wp_bs|apply wp_b|refine wp_sr ?_|refine wp_sx ?_|refine wp_ret' ?_|refine wp_skip' ?_|refine wp_exit' ?_)
      exact hn
    by_cases h2:(j:Int) ∈ gone
    · rw [if_neg (fun h=>h.2.1 h2)] at hn
      refine wp_loop ?_
      repeat (first|apply wp_as|apply wp_ss|refine wr (by simp [hjl,h1,e1,h2,w1,Int.ofNat_inj];with_reducible rfl) ?_|refine wq (by simp [hjl,h1,e1,h2,w1,Int.ofNat_inj];with_reducible rfl) ?_|refine wt (by simpa [hjl,h1,e1,h2,w1,Int.ofNat_inj]) ?_|refine wf (by simpa [hjl,h1,e1,h2,w1,Int.ofNat_inj]) ?_|refine xt (by simpa [hjl,h1,e1,h2,w1,Int.ofNat_inj]) ?_|refine xf (by simpa [hjl,h1,e1,h2,w1,Int.ofNat_inj]) ?_|apply wp_bs|apply wp_b|refine wp_sr ?_|refine wp_sx ?_|refine wp_ret' ?_|refine wp_skip' ?_|refine wp_exit' ?_)
      exact hn
    have h1':(j:Int) ≠ v:=by omega
    rcases scanG_spec d v gone j with ⟨h3,h4⟩ | ⟨b,h3,h4,h5,h6,h7⟩
    · rw [if_pos ⟨h1',h2,.inl (by omega)⟩] at hn
      rw [h3]
      refine wp_loop ?_
      repeat (first|apply wp_as|apply wp_ss|refine wr (by simp [hjl,h1,e1,h2,w1,Int.ofNat_inj];with_reducible rfl) ?_|refine wq (by simp [hjl,h1,e1,h2,w1,Int.ofNat_inj];with_reducible rfl) ?_|refine wt (by simpa [hjl,h1,e1,h2,w1,Int.ofNat_inj]) ?_|refine wf (by simpa [hjl,h1,e1,h2,w1,Int.ofNat_inj]) ?_|refine xt (by simpa [hjl,h1,e1,h2,w1,Int.ofNat_inj]) ?_|refine xf (by simpa [hjl,h1,e1,h2,w1,Int.ofNat_inj]) ?_|apply wp_bs|apply wp_b|refine wp_sr ?_|refine wp_sx ?_|refine wp_ret' ?_|refine wp_skip' ?_|refine wp_exit' ?_)
      exact hn
    · have hbl:b < d.length:=by omega
      have hgb:d.getD b 0=d[b]:=by rw [List.getD_eq_getElem?_getD,List.getElem?_eq_getElem hbl];rfl
      rw [h3,Int.toNat_natCast,hgj,hgb] at hn
      have hb0:¬ (b:Int) < 0:=by omega
      rw [h3]
      by_cases h8:d[b] < d[j]
      · rw [if_pos ⟨h1',h2,.inr h8⟩] at hn
        refine wp_loop ?_
        repeat (first|apply wp_as|apply wp_ss|refine wr (by simp [hjl,hbl,h1,e1,h2,w1,Int.ofNat_inj,hb0,h8];with_reducible rfl) ?_|refine wq (by simp [hjl,hbl,h1,e1,h2,w1,Int.ofNat_inj,hb0,h8];with_reducible rfl) ?_|refine wt (by simpa [hjl,hbl,h1,e1,h2,w1,Int.ofNat_inj,hb0,h8]) ?_|refine wf (by simpa [hjl,hbl,h1,e1,h2,w1,Int.ofNat_inj,hb0,h8]) ?_|refine xt (by simpa [hjl,hbl,h1,e1,h2,w1,Int.ofNat_inj,hb0,h8]) ?_|refine xf (by simpa [hjl,hbl,h1,e1,h2,w1,Int.ofNat_inj,hb0,h8]) ?_|apply wp_bs|apply wp_b|refine wp_sr ?_|refine wp_sx ?_|refine wp_ret' ?_|refine wp_skip' ?_|refine wp_exit' ?_)
        exact hn
      · rw [if_neg (fun h=>by rcases h.2.2 with h | h;exact hb0 h;exact h8 h)] at hn
        refine wp_loop ?_
        repeat (first|apply wp_as|apply wp_ss|refine wr (by simp [hjl,hbl,h1,e1,h2,w1,Int.ofNat_inj,hb0,h8];with_reducible rfl) ?_|refine wq (by simp [hjl,hbl,h1,e1,h2,w1,Int.ofNat_inj,hb0,h8];with_reducible rfl) ?_|refine wt (by simpa [hjl,hbl,h1,e1,h2,w1,Int.ofNat_inj,hb0,h8]) ?_|refine wf (by simpa [hjl,hbl,h1,e1,h2,w1,Int.ofNat_inj,hb0,h8]) ?_|refine xt (by simpa [hjl,hbl,h1,e1,h2,w1,Int.ofNat_inj,hb0,h8]) ?_|refine xf (by simpa [hjl,hbl,h1,e1,h2,w1,Int.ofNat_inj,hb0,h8]) ?_|apply wp_bs|apply wp_b|refine wp_sr ?_|refine wp_sx ?_|refine wp_ret' ?_|refine wp_skip' ?_|refine wp_exit' ?_)
        exact hn
theorem sg_out (d:List Int) (c:Bool) (v:Nat) (hv:v < d.length) (hd:d.length≤100) (k:Nat):∀ (m j:Nat),j+m=k→k≤(srtC (gtD d) [] (idxB d.length v)).length →
    wp tb (.loop z587l11) { T:=[(0,L d c),(1,I v),(2,I k),(7,O ((srtC (gtD d) [] (idxB d.length v)).take j))],loc:=[],M:=[] }
      (fun ex st=>ex=.exit 0∧st={ T:=[(0,L d c),(1,I v),(2,I k),(7,O ((srtC (gtD d) [] (idxB d.length v)).take k)),(14,Bo false)],loc:=[],M:=[] }):=by
  have hrl:(srtC (gtD d) [] (idxB d.length v)).length+1=d.length:=by rw [topD_len d _ 0];exact idxV_len hv
  intro m
  induction m with
  | zero =>
    intro j hj hk
    have h3:j=k:=hj
    subst h3
    have hl:((srtC (gtD d) [] (idxB d.length v)).take j).length=j:=by rw [List.length_take];omega
    generalize (srtC (gtD d) [] (idxB d.length v)).take j=t at *
    refine wp_loop ?_
    repeat (first|apply wp_as|apply wp_ss|refine wr (by simp [hl];with_reducible rfl) ?_|refine wq (by simp [hl];with_reducible rfl) ?_|refine wt (by simpa [hl]) ?_|refine wf (by simpa [hl]) ?_|refine xt (by simpa [hl]) ?_|refine xf (by simpa [hl]) ?_|apply wp_bs|apply wp_b|refine wp_sr ?_|refine wp_sx ?_|refine wp_ret' ?_|refine wp_skip' ?_|refine wp_exit' ?_)
    exact ⟨rfl,rfl⟩
  | succ m ih =>
    intro j hj hk
    have hjr:j < (srtC (gtD d) [] (idxB d.length v)).length:=by omega
    have hs:=scanG_sorted hv hjr
    have ht:(srtC (gtD d) [] (idxB d.length v)).take j++[(srtC (gtD d) [] (idxB d.length v))[j]]=(srtC (gtD d) [] (idxB d.length v)).take (j+1):=by
      rw [List.take_succ,List.getElem?_eq_getElem hjr];rfl
    have hn:=ih (j+1) (by omega) hk
    have hl:((srtC (gtD d) [] (idxB d.length v)).take j).length=j:=by rw [List.length_take];omega
    have hin:=sg_in d c v k ((srtC (gtD d) [] (idxB d.length v)).take j) (by omega) hd d.length 0 (by omega)
    rw [hs,scanG] at hin
    rw [← ht] at hn
    generalize (srtC (gtD d) [] (idxB d.length v))[j]=x at *
    generalize (srtC (gtD d) [] (idxB d.length v)).take j=t at *
    have hjk:(j:Int) < k:=by omega
    have hjk2:j < k:=by omega
    have hlim:j+1≤274877906944:=by omega
    have hT:t.take j=t:=List.take_of_length_le (by omega)
    refine wp_loop ?_
    repeat (first|apply wp_as|apply wp_ss|refine wr (by simp [hl,hjk,hjk2];with_reducible rfl) ?_|refine wq (by simp [hl,hjk,hjk2];with_reducible rfl) ?_|refine wt (by simpa [hl,hjk,hjk2]) ?_|refine wf (by simpa [hl,hjk,hjk2]) ?_|refine xt (by simpa [hl,hjk,hjk2]) ?_|refine xf (by simpa [hl,hjk,hjk2]) ?_|apply wp_bs|apply wp_b|refine wp_sr ?_|refine wp_sx ?_|refine wp_ret' ?_|refine wp_skip' ?_|refine wp_exit' ?_)
    refine wp_imp hin ?_
    rintro ex st ⟨rfl,rfl⟩
    try simp only [if_true]
    repeat (first|apply wp_as|apply wp_ss|refine wr (by simp [hl,hlim,hT];with_reducible rfl) ?_|refine wq (by simp [hl,hlim,hT];with_reducible rfl) ?_|refine wt (by simpa [hl,hlim,hT]) ?_|refine wf (by simpa [hl,hlim,hT]) ?_|refine xt (by simpa [hl,hlim,hT]) ?_|refine xf (by simpa [hl,hlim,hT]) ?_|apply wp_bs|apply wp_b|refine wp_sr ?_|refine wp_sx ?_|refine wp_ret' ?_|refine wp_skip' ?_|refine wp_exit' ?_)
    exact hn
theorem ev_spec_greatest (d:List Int) (c:Bool) (v:Nat) (hv:v < d.length) (hd:d.length≤100) (k:Nat) (hk:k < d.length) :
    Ev tb zl587 [] [L d c,I v,I k] [] ⟨O (topD d (idxB d.length v) k),[],[],[]⟩:=by
  have hrl:(srtC (gtD d) [] (idxB d.length v)).length+1=d.length:=by rw [topD_len d _ 0];exact idxV_len hv
  have loop:=sg_out d c v hv hd k k 0 (by omega) (by omega)
  rw [List.take_zero] at loop
  have ht3:((srtC (gtD d) [] (idxB d.length v)).take k).take (min k (srtC (gtD d) [] (idxB d.length v)).length)=(srtC (gtD d) [] (idxB d.length v)).take k:=List.take_of_length_le (by rw [List.length_take];omega)
  refine call_of_wp zt587 rfl ?_
  repeat (first|apply wp_as|apply wp_ss|refine wr (by simp;with_reducible rfl) ?_|refine wq (by simp;with_reducible rfl) ?_|refine wt (by simpa) ?_|refine wf (by simpa) ?_|refine xt (by simpa) ?_|refine xf (by simpa) ?_|apply wp_bs|apply wp_b|refine wp_sr ?_|refine wp_sx ?_|refine wp_ret' ?_|refine wp_skip' ?_|refine wp_exit' ?_)
  refine wp_imp loop ?_
  rintro ex st ⟨rfl,rfl⟩
  try simp only [if_true]
  repeat (first|apply wp_as|apply wp_ss|refine wr (by simp;with_reducible rfl) ?_|refine wq (by simp;with_reducible rfl) ?_|refine wt (by simpa) ?_|refine wf (by simpa) ?_|refine xt (by simpa) ?_|refine xf (by simpa) ?_|apply wp_bs|apply wp_b|refine wp_sr ?_|refine wp_sx ?_|refine wp_ret' ?_|refine wp_skip' ?_|refine wp_exit' ?_)
  simp [zi587,topD,ht3]
theorem sl_loop (d:List Int) (c:Bool) (v:Nat) (top:List Int) (hd:d.length≤100) (ht:top.length≤100) (hb:∀ x ∈ d,0≤x∧x≤1000):∀ (m i:Nat) (out:List Int),i+m=d.length→out.length≤i →
    wp tb (.loop z591l13) { T:=[(0,L d c),(1,I v),(6,O top),(7,O out),(8,I i)],loc:=[],M:=[] }
      (fun ex st=>match loS d v top m i out with
        | none=>ex=.ret∧∃ o,st={ T:=[(4,Z),(5,Bo false),(7,O o)],loc:=[],M:=[] }
        | some o=>ex=.exit 0∧st={ T:=[(0,L d c),(1,I v),(6,O top),(7,O o),(8,I d.length),(21,Bo false)],loc:=[],M:=[] }):=by
  intro m
  induction m with
  | zero =>
    intro i out hi ho
    have h3:i=d.length:=hi
    subst h3
    refine wp_loop ?_
    repeat (first|apply wp_as|apply wp_ss|refine wr (by simp;with_reducible rfl) ?_|refine wq (by simp;with_reducible rfl) ?_|refine wt (by simpa) ?_|refine wf (by simpa) ?_|refine xt (by simpa) ?_|refine xf (by simpa) ?_|apply wp_bs|apply wp_b|refine wp_sr ?_|refine wp_sx ?_|refine wp_ret' ?_|refine wp_skip' ?_|refine wp_exit' ?_)
    exact ⟨rfl,rfl⟩
  | succ m ih =>
    intro i out hi ho
    have hil:i < d.length:=by omega
    have w1:IntKind.i64.wrap ((i:Int)+1)=((i+1:Nat):Int):=wrapS (by omega)
    have hgi:d.getD i 0=d[i]:=by rw [List.getD_eq_getElem?_getD,List.getElem?_eq_getElem hil];rfl
    have hbi:=hb _ (List.getElem_mem hil)
    have e1:=fun cc=>ev_lim (ev_hasInt top cc (i:Int) (by omega))
    have w2:IntKind.i64.wrap (d[i] - 1)=d[i] - 1:=wrap64 (by omega) (by omega)
    have hlim:out.length+1≤274877906944:=by omega
    rw [loS,valT,hgi]
    by_cases h1:i=v
    · rw [if_pos h1]
      have hn:=ih (i+1) out (by omega) (by omega)
      subst h1
      refine wp_loop ?_
      repeat (first|apply wp_as|apply wp_ss|refine wr (by simp [hil,w1];with_reducible rfl) ?_|refine wq (by simp [hil,w1];with_reducible rfl) ?_|refine wt (by simpa [hil,w1]) ?_|refine wf (by simpa [hil,w1]) ?_|refine xt (by simpa [hil,w1]) ?_|refine xf (by simpa [hil,w1]) ?_|apply wp_bs|apply wp_b|refine wp_sr ?_|refine wp_sx ?_|refine wp_ret' ?_|refine wp_skip' ?_|refine wp_exit' ?_)
      exact hn
    rw [if_neg h1]
    by_cases h2:(i:Int) ∈ top
    · rw [if_pos h2]
      by_cases h3:d[i] - 1 < 0
      · rw [if_pos h3]
        refine wp_loop ?_
        repeat (first|apply wp_as|apply wp_ss|refine wr (by simp [hil,h1,e1,h2,w2,Int.ofNat_inj,h3];with_reducible rfl) ?_|refine wq (by simp [hil,h1,e1,h2,w2,Int.ofNat_inj,h3];with_reducible rfl) ?_|refine wt (by simpa [hil,h1,e1,h2,w2,Int.ofNat_inj,h3]) ?_|refine wf (by simpa [hil,h1,e1,h2,w2,Int.ofNat_inj,h3]) ?_|refine xt (by simpa [hil,h1,e1,h2,w2,Int.ofNat_inj,h3]) ?_|refine xf (by simpa [hil,h1,e1,h2,w2,Int.ofNat_inj,h3]) ?_|apply wp_bs|apply wp_b|refine wp_sr ?_|refine wp_sx ?_|refine wp_ret' ?_|refine wp_skip' ?_|refine wp_exit' ?_)
        exact ⟨rfl,_,rfl⟩
      · rw [if_neg h3]
        have hn:=ih (i+1) (out++[d[i] - 1]) (by omega) (by simp;omega)
        refine wp_loop ?_
        repeat (first|apply wp_as|apply wp_ss|refine wr (by simp [hil,h1,e1,h2,w2,Int.ofNat_inj,h3,w1,hlim];with_reducible rfl) ?_|refine wq (by simp [hil,h1,e1,h2,w2,Int.ofNat_inj,h3,w1,hlim];with_reducible rfl) ?_|refine wt (by simpa [hil,h1,e1,h2,w2,Int.ofNat_inj,h3,w1,hlim]) ?_|refine wf (by simpa [hil,h1,e1,h2,w2,Int.ofNat_inj,h3,w1,hlim]) ?_|refine xt (by simpa [hil,h1,e1,h2,w2,Int.ofNat_inj,h3,w1,hlim]) ?_|refine xf (by simpa [hil,h1,e1,h2,w2,Int.ofNat_inj,h3,w1,hlim]) ?_|apply wp_bs|apply wp_b|refine wp_sr ?_|refine wp_sx ?_|refine wp_ret' ?_|refine wp_skip' ?_|refine wp_exit' ?_)
        exact hn
    · rw [if_neg h2]
      have h3:¬ d[i] - 0 < 0:=by omega
      have h3':¬ d[i] < 0:=by omega
      rw [if_neg h3]
      have hn:=ih (i+1) (out++[d[i] - 0]) (by omega) (by simp;omega)
      rw [Int.sub_zero] at hn
      refine wp_loop ?_
      repeat (first|apply wp_as|apply wp_ss|refine wr (by simp [hil,h1,e1,h2,w2,Int.ofNat_inj,h3',w1,hlim];with_reducible rfl) ?_|refine wq (by simp [hil,h1,e1,h2,w2,Int.ofNat_inj,h3',w1,hlim];with_reducible rfl) ?_|refine wt (by simpa [hil,h1,e1,h2,w2,Int.ofNat_inj,h3',w1,hlim]) ?_|refine wf (by simpa [hil,h1,e1,h2,w2,Int.ofNat_inj,h3',w1,hlim]) ?_|refine xt (by simpa [hil,h1,e1,h2,w2,Int.ofNat_inj,h3',w1,hlim]) ?_|refine xf (by simpa [hil,h1,e1,h2,w2,Int.ofNat_inj,h3',w1,hlim]) ?_|apply wp_bs|apply wp_b|refine wp_sr ?_|refine wp_sx ?_|refine wp_ret' ?_|refine wp_skip' ?_|refine wp_exit' ?_)
      rw [Int.sub_zero]
      exact hn
theorem ev_layOff (d:List Int) (c:Bool) (hv':valid d=true) (v:Nat) (hv:v < d.length) :
    Ev tb zl591 [] [L d c,I v] [] ⟨match layO d v with | none=>.tup [Z,Bo false] | some l=>.tup [O l,Bo true],[],[],[]⟩:=by
  have h7:=(valid_few hv').1
  have hm:=valid_mem hv'
  have hdv:d.getD v 0=d[v]:=by rw [List.getD_eq_getElem?_getD,List.getElem?_eq_getElem hv];rfl
  have hdvm:=hm d[v] (List.getElem_mem hv)
  obtain ⟨k,hk⟩:=Int.eq_ofNat_of_zero_le hdvm.1
  have e1:=fun cc=>ev_lim (ev_spec_greatest d cc v hv (by omega) k (by omega))
  have htl:(topD d (idxB d.length v) k).length≤100:=by
    rw [topD,List.length_take,topD_len d _ 0];have:=idxV_len hv;omega
  have loop:=sl_loop d c v (topD d (idxB d.length v) k) (by omega) htl (fun x hx=>by have:=hm x hx;omega) d.length 0 [] (by omega) (by simp)
  have hlo:=loS_layO hv' hv
  rw [hdv,hk,Int.toNat_natCast] at hlo
  rw [hlo] at loop
  generalize layO d v=r at *
  generalize topD d (idxB d.length v) k=t at *
  refine call_of_wp zt591 rfl ?_
  repeat (first|apply wp_as|apply wp_ss|refine wr (by simp [e1,hv,hk];with_reducible rfl) ?_|refine wq (by simp [e1,hv,hk];with_reducible rfl) ?_|refine wt (by simpa [e1,hv,hk]) ?_|refine wf (by simpa [e1,hv,hk]) ?_|refine xt (by simpa [e1,hv,hk]) ?_|refine xf (by simpa [e1,hv,hk]) ?_|apply wp_bs|apply wp_b|refine wp_sr ?_|refine wp_sx ?_|refine wp_ret' ?_|refine wp_skip' ?_|refine wp_exit' ?_)
  refine wp_imp loop ?_
  intro ex st h
  cases r with
  | none =>
    obtain ⟨rfl,o,rfl⟩:=h
    try simp only [if_true]
    repeat (first|apply wp_as|apply wp_ss|refine wr (by simp;with_reducible rfl) ?_|refine wq (by simp;with_reducible rfl) ?_|refine wt (by simpa) ?_|refine wf (by simpa) ?_|refine xt (by simpa) ?_|refine xf (by simpa) ?_|apply wp_bs|apply wp_b|refine wp_sr ?_|refine wp_sx ?_|refine wp_ret' ?_|refine wp_skip' ?_|refine wp_exit' ?_)
    simp [zi591]
  | some o =>
    obtain ⟨rfl,rfl⟩:=h
    try simp only [if_true]
    repeat (first|apply wp_as|apply wp_ss|refine wr (by simp;with_reducible rfl) ?_|refine wq (by simp;with_reducible rfl) ?_|refine wt (by simpa) ?_|refine wf (by simpa) ?_|refine xt (by simpa) ?_|refine xf (by simpa) ?_|apply wp_bs|apply wp_b|refine wp_sr ?_|refine wp_sx ?_|refine wp_ret' ?_|refine wp_skip' ?_|refine wp_exit' ?_)
    simp [zi591]
def layV (d:List Int) (v:Int):Option (List Int):=if valid d=true∧0≤v∧v < d.length then layO d v.toNat else none
abbrev layR (r:Option (List Int)):IV:=match r with | none=>.tup [Z,Bo false] | some l=>.tup [O l,Bo true]
theorem ev_LayOffV (d:List Int) (c:Bool) (hl:d.length≤1000) (v:Int):Ev tb zl460 [] [L d c,I v] [] ⟨layR (layV d v),[],[],[]⟩:=by
  by_cases h:valid d=true∧0≤v∧v < d.length
  · obtain ⟨n,rfl⟩:=Int.eq_ofNat_of_zero_le h.2.1
    rw [layV,if_pos h,Int.toNat_natCast]
    exact ev_LayOff d c h.1 n (by omega)
  · rw [layV,if_neg h]
    have e1:=fun c=>ev_lim (ev_ValidDegrees d c (by omega))
    cases hv:valid d with
    | false =>
      rw [hv] at e1
      refine call_of_wp zt460 rfl ?_
      repeat (first|apply wp_as|apply wp_ss|refine wr (by simp [e1];with_reducible rfl) ?_|refine wq (by simp [e1];with_reducible rfl) ?_|refine wt (by simpa [e1]) ?_|refine wf (by simpa [e1]) ?_|refine xt (by simpa [e1]) ?_|refine xf (by simpa [e1]) ?_|apply wp_bs|apply wp_b|refine wp_sr ?_|refine wp_sx ?_|refine wp_ret' ?_|refine wp_skip' ?_|refine wp_exit' ?_)
      simp [zi460]
    | true =>
      rw [hv] at e1
      have w1:IntKind.i64.wrap ((d.length:Int) - 1)=(d.length:Int) - 1:=wrap64 (by omega) (by omega)
      have e2:=ev_lim (ev_in v 0 ((d.length:Int) - 1))
      have hb:(decide ((0:Int)≤v) && decide (v≤(d.length:Int) - 1))=false:=by
        simp only [hv,true_and,Bool.and_eq_false_iff,decide_eq_false_iff_not] at h ⊢;omega
      rw [hb] at e2
      refine call_of_wp zt460 rfl ?_
      repeat (first|apply wp_as|apply wp_ss|refine wr (by simp [e1,e2,w1];with_reducible rfl) ?_|refine wq (by simp [e1,e2,w1];with_reducible rfl) ?_|refine wt (by simpa [e1,e2,w1]) ?_|refine wf (by simpa [e1,e2,w1]) ?_|refine xt (by simpa [e1,e2,w1]) ?_|refine xf (by simpa [e1,e2,w1]) ?_|apply wp_bs|apply wp_b|refine wp_sr ?_|refine wp_sx ?_|refine wp_ret' ?_|refine wp_skip' ?_|refine wp_exit' ?_)
      simp [zi460]
theorem ev_spec_LayOff (d:List Int) (c:Bool) (hl:d.length≤1000) (v:Int):Ev tb zl575 [] [L d c,I v] [] ⟨layR (layV d v),[],[],[]⟩:=by
  have e1:=fun c=>ev_lim (ev_validDegrees d c (by omega))
  have w1:IntKind.i64.wrap ((d.length:Int) - 1)=(d.length:Int) - 1:=wrap64 (by omega) (by omega)
  have e2:=ev_lim (ev_inRange v 0 ((d.length:Int) - 1))
  by_cases h:valid d=true∧0≤v∧v < d.length
  · obtain ⟨n,rfl⟩:=Int.eq_ofNat_of_zero_le h.2.1
    rw [layV,if_pos h,Int.toNat_natCast]
    rw [h.1] at e1
    have hb:(decide ((0:Int)≤n) && decide ((n:Int)≤(d.length:Int) - 1))=true:=by
      simp only [Bool.and_eq_true,decide_eq_true_eq];omega
    rw [hb] at e2
    have e3:=fun c=>ev_lim (ev_layOff d c h.1 n (by omega))
    cases hr:layO d n with
    | none =>
      simp only [hr] at e3
      refine call_of_wp zt575 rfl ?_
      repeat (first|apply wp_as|apply wp_ss|refine wr (by simp [e1,e2,w1,e3];with_reducible rfl) ?_|refine wq (by simp [e1,e2,w1,e3];with_reducible rfl) ?_|refine wt (by simpa [e1,e2,w1,e3]) ?_|refine wf (by simpa [e1,e2,w1,e3]) ?_|refine xt (by simpa [e1,e2,w1,e3]) ?_|refine xf (by simpa [e1,e2,w1,e3]) ?_|apply wp_bs|apply wp_b|refine wp_sr ?_|refine wp_sx ?_|refine wp_ret' ?_|refine wp_skip' ?_|refine wp_exit' ?_)
      simp [zi575]
    | some l =>
      simp only [hr] at e3
      refine call_of_wp zt575 rfl ?_
      repeat (first|apply wp_as|apply wp_ss|refine wr (by simp [e1,e2,w1,e3];with_reducible rfl) ?_|refine wq (by simp [e1,e2,w1,e3];with_reducible rfl) ?_|refine wt (by simpa [e1,e2,w1,e3]) ?_|refine wf (by simpa [e1,e2,w1,e3]) ?_|refine xt (by simpa [e1,e2,w1,e3]) ?_|refine xf (by simpa [e1,e2,w1,e3]) ?_|apply wp_bs|apply wp_b|refine wp_sr ?_|refine wp_sx ?_|refine wp_ret' ?_|refine wp_skip' ?_|refine wp_exit' ?_)
      simp [zi575]
  · rw [layV,if_neg h]
    cases hv:valid d with
    | false =>
      rw [hv] at e1
      refine call_of_wp zt575 rfl ?_
      repeat (first|apply wp_as|apply wp_ss|refine wr (by simp [e1];with_reducible rfl) ?_|refine wq (by simp [e1];with_reducible rfl) ?_|refine wt (by simpa [e1]) ?_|refine wf (by simpa [e1]) ?_|refine xt (by simpa [e1]) ?_|refine xf (by simpa [e1]) ?_|apply wp_bs|apply wp_b|refine wp_sr ?_|refine wp_sx ?_|refine wp_ret' ?_|refine wp_skip' ?_|refine wp_exit' ?_)
      simp [zi575]
    | true =>
      rw [hv] at e1
      have hb:(decide ((0:Int)≤v) && decide (v≤(d.length:Int) - 1))=false:=by
        simp only [hv,true_and,Bool.and_eq_false_iff,decide_eq_false_iff_not] at h ⊢;omega
      rw [hb] at e2
      refine call_of_wp zt575 rfl ?_
      repeat (first|apply wp_as|apply wp_ss|refine wr (by simp [e1,e2,w1];with_reducible rfl) ?_|refine wq (by simp [e1,e2,w1];with_reducible rfl) ?_|refine wt (by simpa [e1,e2,w1]) ?_|refine wf (by simpa [e1,e2,w1]) ?_|refine xt (by simpa [e1,e2,w1]) ?_|refine xf (by simpa [e1,e2,w1]) ?_|apply wp_bs|apply wp_b|refine wp_sr ?_|refine wp_sx ?_|refine wp_ret' ?_|refine wp_skip' ?_|refine wp_exit' ?_)
      simp [zi575]
theorem ev_DrawLayOff (code:List Int) (c:Bool) (h:∀ x ∈ code,0≤x∧x≤255) (hl:code.length≤10000000) :
    ∃ (d:List Int) (v:Int),d.length≤8∧Low 1000 d∧limF tb zl565 [] [.lst 1 (bytes code) c] []=some ⟨.tup [O d,I v],[],[],[]⟩:=by
  obtain ⟨c',e⟩:=ev_newReader code c [[]] (by omega)
  have e1:=ev_lim e
  obtain ⟨d,k,h1,h2,h3,e2⟩:=ev_someDegrees (code.take 2000) c' (code_ok h) 0 (by omega) [] []
  obtain ⟨a,k2,ha,hk2,e3⟩:=pickA (code.take 2000) c' (code_ok h) k (by omega) 12 (by omega) [] [] []
  suffices hh:∃ r,(∃ (v:Int),r=⟨.tup [O d,I v],[],[],[]⟩)∧Ev tb zl565 [] [.lst 1 (bytes code) c] [] r by
    obtain ⟨r,⟨v,rfl⟩,q⟩:=hh
    exact ⟨d,v,h1,h2,ev_lim q⟩
  rw [show ((0:Nat):Int)=0 from rfl] at e2
  simp only [List.length_nil,List.nil_append] at e3
  cases a with
  | zero =>
    obtain ⟨x,k3,hx,hk3,e4⟩:=oneA (code.take 2000) c' (code_ok h) k2 (by omega) [-1,7] (by simp) [] [] []
    simp only [List.length_nil,List.nil_append] at e4
    refine call_ex zt565 rfl ?_
    repeat (first|apply wp_as|apply wp_ss|refine wr (by simp [e1,e2,e3,e4];with_reducible rfl) ?_|refine wq (by simp [e1,e2,e3,e4];with_reducible rfl) ?_|refine wt (by simpa [e1,e2,e3,e4]) ?_|refine wf (by simpa [e1,e2,e3,e4]) ?_|refine xt (by simpa [e1,e2,e3,e4]) ?_|refine xf (by simpa [e1,e2,e3,e4]) ?_|apply wp_bs|apply wp_b|refine wp_sr ?_|refine wp_sx ?_|refine wp_ret' ?_|refine wp_skip' ?_|refine wp_exit' ?_)
    refine ⟨.inr rfl,_,⟨x,rfl⟩,?_⟩
    simp [zi565]
  | succ a =>
    have w1:IntKind.i64.wrap ((d.length:Int)+1)=(d.length:Int)+1:=wrap64 (by omega) (by omega)
    obtain ⟨x,k3,hx,hk3,e4⟩:=pickA (code.take 2000) c' (code_ok h) k2 (by omega) ((d.length:Int)+1) (by omega) [] [] []
    simp only [List.length_nil,List.nil_append] at e4
    have ha0:¬ (a:Int)+1=0:=by omega
    refine call_ex zt565 rfl ?_
    repeat (first|apply wp_as|apply wp_ss|refine wr (by simp [e1,e2,e3,e4,w1,ha0];with_reducible rfl) ?_|refine wq (by simp [e1,e2,e3,e4,w1,ha0];with_reducible rfl) ?_|refine wt (by simpa [e1,e2,e3,e4,w1,ha0]) ?_|refine wf (by simpa [e1,e2,e3,e4,w1,ha0]) ?_|refine xt (by simpa [e1,e2,e3,e4,w1,ha0]) ?_|refine xf (by simpa [e1,e2,e3,e4,w1,ha0]) ?_|apply wp_bs|apply wp_b|refine wp_sr ?_|refine wp_sx ?_|refine wp_ret' ?_|refine wp_skip' ?_|refine wp_exit' ?_)
    refine ⟨.inr rfl,_,⟨(x:Int),rfl⟩,?_⟩
    simp [zi565]
end Go.Idl
namespace Go.Idl
open Go
theorem ev_FnLayOff (code:List Int) (c:Bool) (h:∀ x ∈ code,0≤x∧x≤255) :
    Ev tb zl536 [] [.lst 1 (bytes code) c] [] ⟨Bo true,[],[],[]⟩:=by
  by_cases hc:(1048576:Int) < code.length
  · refine call_of_wp zt536 rfl ?_
    repeat (first|apply wp_as|apply wp_ss|refine wr (by simp [hc];with_reducible rfl) ?_|refine wq (by simp [hc];with_reducible rfl) ?_|refine wt (by simpa [hc]) ?_|refine wf (by simpa [hc]) ?_|refine xt (by simpa [hc]) ?_|refine xf (by simpa [hc]) ?_|apply wp_bs|apply wp_b|refine wp_sr ?_|refine wp_sx ?_|refine wp_ret' ?_|refine wp_skip' ?_|refine wp_exit' ?_)
    simp [zi536]
  obtain ⟨d,v,hd,hlo,e1⟩:=ev_DrawLayOff code c h (by omega)
  have e2:=fun c=>ev_lim (ev_LayOffV d c (by omega) v)
  have e3:=fun c=>ev_lim (ev_spec_LayOff d c (by omega) v)
  by_cases hv:valid d=true∧0≤v∧v < d.length
  · obtain ⟨n,rfl⟩:=Int.eq_ofNat_of_zero_le hv.2.1
    rw [layV,if_pos hv,Int.toNat_natCast] at e2 e3
    cases hr:layO d n with
    | none =>
      simp only [hr] at e2 e3
      have e4:=ev_lim ev_equalInts_Z
      refine call_of_wp zt536 rfl ?_
      repeat (first|apply wp_as|apply wp_ss|refine wr (by simp [hc,e1,e2,e3,e4];with_reducible rfl) ?_|refine wq (by simp [hc,e1,e2,e3,e4];with_reducible rfl) ?_|refine wt (by simpa [hc,e1,e2,e3,e4]) ?_|refine wf (by simpa [hc,e1,e2,e3,e4]) ?_|refine xt (by simpa [hc,e1,e2,e3,e4]) ?_|refine xf (by simpa [hc,e1,e2,e3,e4]) ?_|apply wp_bs|apply wp_b|refine wp_sr ?_|refine wp_sx ?_|refine wp_ret' ?_|refine wp_skip' ?_|refine wp_exit' ?_)
      simp [zi536]
    | some l =>
      simp only [hr] at e2 e3
      have hnl:n < d.length:=by omega
      obtain ⟨q1,q2,q3⟩:=layO_props hv.1 hnl hr
      have hg:=layO_graphic hv.1 hnl
      rw [hr] at hg
      simp only at hg
      have h7:=(valid_few hv.1).1
      have hm:=valid_mem hv.1
      have e4:=ev_lim (ev_equalInts l l false false (by omega) (by omega))
      have e5:=fun c=>ev_lim (ev_total l c ⟨by omega,fun k=>by
        have h1:=sumB (B:=1000) (by omega) (xs:=l.take k) (fun x hx=>q3 x (List.mem_of_mem_take hx))
        have h2:(l.take k).length≤7:=by simp;omega
        omega⟩)
      have e6:=fun c=>ev_lim (ev_total d c ((valid_few hv.1).small))
      have e7:=fun c=>ev_lim (ev_laws_none l c (by omega))
      have e8:=fun c=>ev_lim (ev_IsGraphic d c (by omega))
      have e9:=fun c=>ev_lim (ev_IsGraphic l c (by omega))
      rw [hg] at e8
      have hdn:d.getD n 0=d[n]:=by rw [List.getD_eq_getElem?_getD,List.getElem?_eq_getElem hnl];rfl
      have hdm:=hm d[n] (List.getElem_mem hnl)
      have w1:IntKind.i64.wrap ((d.length:Int) - 1)=(l.length:Int):=by rw [wrap64 (by omega) (by omega)];omega
      have w2:IntKind.i64.wrap (2 * d[n])=2 * d[n]:=wrap64 (by omega) (by omega)
      have hs:=(valid_few hv.1).sum
      have w3:IntKind.i64.wrap (d.sum - 2 * d[n])=l.sum:=by rw [wrap64 (by omega) (by omega),q2,hdn]
      have hnn:noneNeg l=true:=by
        simp only [noneNeg,List.all_eq_true,decide_eq_true_eq];exact fun x hx=>(q3 x hx).1
      rw [hnn] at e7
      generalize graphic l=b at *
      refine call_of_wp zt536 rfl ?_
      repeat (first|apply wp_as|apply wp_ss|refine wr (by simp [hc,e1,e2,e3,e4];with_reducible rfl) ?_|refine wq (by simp [hc,e1,e2,e3,e4];with_reducible rfl) ?_|refine wt (by simpa [hc,e1,e2,e3,e4]) ?_|refine wf (by simpa [hc,e1,e2,e3,e4]) ?_|refine xt (by simpa [hc,e1,e2,e3,e4]) ?_|refine xf (by simpa [hc,e1,e2,e3,e4]) ?_|apply wp_bs|apply wp_b|refine wp_sr ?_|refine wp_sx ?_|refine wp_ret' ?_|refine wp_skip' ?_|refine wp_exit' ?_)
      refine wp_ra (by simp [e5,e6,e7,e8,e9,w1,w2,w3,hnl];with_reducible rfl) (by simp;with_reducible rfl) ?_ ?_
      · intro p hp
        simp only [List.mem_cons,List.not_mem_nil,or_false] at hp
        rcases hp with rfl | rfl
        · exact ⟨_,by simp [e5,e6,e7,e8,e9,w1,w2,w3,hnl];with_reducible rfl,by simp⟩
        · exact ⟨_,by simp [e5,e6,e7,e8,e9,w1,w2,w3,hnl];with_reducible rfl,by simp⟩
      repeat (first|apply wp_as|apply wp_ss|refine wr (by simp;with_reducible rfl) ?_|refine wq (by simp;with_reducible rfl) ?_|refine wt (by simpa) ?_|refine wf (by simpa) ?_|refine xt (by simpa) ?_|refine xf (by simpa) ?_|apply wp_bs|apply wp_b|refine wp_sr ?_|refine wp_sx ?_|refine wp_ret' ?_|refine wp_skip' ?_|refine wp_exit' ?_)
      simp [zi536]
  · rw [layV,if_neg hv] at e2 e3
    have e4:=ev_lim ev_equalInts_Z
    refine call_of_wp zt536 rfl ?_
    repeat (first|apply wp_as|apply wp_ss|refine wr (by simp [hc,e1,e2,e3,e4];with_reducible rfl) ?_|refine wq (by simp [hc,e1,e2,e3,e4];with_reducible rfl) ?_|refine wt (by simpa [hc,e1,e2,e3,e4]) ?_|refine wf (by simpa [hc,e1,e2,e3,e4]) ?_|refine xt (by simpa [hc,e1,e2,e3,e4]) ?_|refine xf (by simpa [hc,e1,e2,e3,e4]) ?_|apply wp_bs|apply wp_b|refine wp_sr ?_|refine wp_sx ?_|refine wp_ret' ?_|refine wp_skip' ?_|refine wp_exit' ?_)
    simp [zi536]
end Go.Idl
