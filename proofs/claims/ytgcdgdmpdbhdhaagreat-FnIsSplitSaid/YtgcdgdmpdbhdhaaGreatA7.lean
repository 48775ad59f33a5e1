/- Part 7 of a proof by an ideal interpreter of the code: its definitions and lemmas. Conditions: none. -/
import Derived.KernelRfl
import Derived.Test.YtgcdgdmpdbhdhaaGreatA6
set_option linter.all false
set_option linter.unusedVariables false
set_option linter.unusedSimpArgs false
namespace Go.Idl
open Go
theorem ev_stable (F:Lab) (caps:List IV) (lt:Int→Int→Bool) (D:Int→Prop) (M:List Boxes) (hc:CmpOK vI F caps lt D (M++[[]])) (xs:List Int) (hl:xs.length≤19) (hD:∀ x ∈ xs,D x) :
    Ev tb zl289 [0] [O xs,I xs.length,.fn F caps] M ⟨.tup [],[O (srtC lt [] xs)],M,[]⟩:=by
  have e1:=ev_lim (ev_insCi F caps lt D (M++[[]]) hc [] [] xs (by simp;omega) hD)
  simp only [List.nil_append,List.append_nil,List.length_nil,Nat.zero_add] at e1
  rw [show ((0:Nat):Int)=0 from rfl] at e1
  have h1:¬ (20:Int)≤xs.length:=by omega
  have h2:¬ (20:Int) < xs.length:=by omega
  have h3:¬ 20≤xs.length:=by omega
  have h4:¬ 20 < xs.length:=by omega
  refine call_of_wp zt289 rfl ?_
  repeat (first|refine wp_as ?_|refine wp_ss ?_|refine wr (by simp;with_reducible rfl) ?_|refine wq (by simp;with_reducible rfl) ?_|refine wt (by simpa) ?_|refine wf (by simpa) ?_|refine xt (by simpa) ?_|refine xf (by simpa) ?_|refine wp_bs ?_|refine wp_b ?_|refine wp_sr ?_|refine wp_sx ?_|refine wp_ret' ?_|refine wp_skip' ?_|refine wp_exit' ?_)
  refine wp_loop ?_
  repeat (first|refine wp_as ?_|refine wp_ss ?_|refine wr (by simp [h1,h2,h3,h4,e1];with_reducible rfl) ?_|refine wq (by simp [h1,h2,h3,h4,e1];with_reducible rfl) ?_|refine wt (by simpa [h1,h2,h3,h4,e1]) ?_|refine wf (by simpa [h1,h2,h3,h4,e1]) ?_|refine xt (by simpa [h1,h2,h3,h4,e1]) ?_|refine xf (by simpa [h1,h2,h3,h4,e1]) ?_|refine wp_bs ?_|refine wp_b ?_|refine wp_sr ?_|refine wp_sx ?_|refine wp_ret' ?_|refine wp_skip' ?_|refine wp_exit' ?_)
  refine wp_loop ?_
  repeat (first|refine wp_as ?_|refine wp_ss ?_|refine wr (by simp [h1,h2,h3,h4,e1];with_reducible rfl) ?_|refine wq (by simp [h1,h2,h3,h4,e1];with_reducible rfl) ?_|refine wt (by simpa [h1,h2,h3,h4,e1]) ?_|refine wf (by simpa [h1,h2,h3,h4,e1]) ?_|refine xt (by simpa [h1,h2,h3,h4,e1]) ?_|refine xf (by simpa [h1,h2,h3,h4,e1]) ?_|refine wp_bs ?_|refine wp_b ?_|refine wp_sr ?_|refine wp_sx ?_|refine wp_ret' ?_|refine wp_skip' ?_|refine wp_exit' ?_)
  simp [zi289]
theorem ev_SortStable (F:Lab) (caps:List IV) (lt:Int→Int→Bool) (D:Int→Prop) (M:List Boxes) (hc:CmpOK vI F caps lt D (M++[[],[]])) (xs:List Int) (hl:xs.length≤19) (hD:∀ x ∈ xs,D x) :
    Ev tb zl273 [0] [O xs,.fn F caps] M ⟨.tup [],[O (srtC lt [] xs)],M,[]⟩:=by
  have e1:=ev_lim (ev_stable F caps lt D (M++[[]]) (by rw [List.append_assoc];exact hc) xs hl hD)
  refine call_of_wp zt273 rfl ?_
  repeat (first|refine wp_as ?_|refine wp_ss ?_|refine wr (by simp [e1];with_reducible rfl) ?_|refine wq (by simp [e1];with_reducible rfl) ?_|refine wt (by simpa [e1]) ?_|refine wf (by simpa [e1]) ?_|refine xt (by simpa [e1]) ?_|refine xf (by simpa [e1]) ?_|refine wp_bs ?_|refine wp_b ?_|refine wp_sr ?_|refine wp_sx ?_|refine wp_ret' ?_|refine wp_skip' ?_|refine wp_exit' ?_)
  simp [zi273]
def idxB (n:Nat) (but:Int):List Int:=((List.range n).map fun v:Nat=>(v:Int)).filter fun v=>decide (v ≠ but)
def nlI:List Int→IV
  | []=>Z
  | x::r=>O (x::r)
theorem ev_indices (n:Nat) (but:Int) (hn:n≤1000):Ev tb zl212 [] [I n,I but] [] ⟨nlI (idxB n but),[],[],[]⟩:=by
  have loop:∀ (m i:Nat),i+m=n→wp tb (.loop z212l8) { T:=[(1,I but),(5,nlI (idxB i but)),(7,I n),(8,I i)],loc:=[],M:=[] }
      (fun ex st=>ex=.exit 0∧st={ T:=[(1,I but),(5,nlI (idxB n but)),(7,I n),(8,I n),(9,Bo false)],loc:=[],M:=[] }):=by
    intro m
    induction m with
    | zero =>
      intro i hi
      have h3:i=n:=hi
      subst h3
      cases idxB i but with
      | nil =>
        simp only [nlI]
        refine wp_loop ?_
        repeat (first|refine wp_as ?_|refine wp_ss ?_|refine wr (by simp;with_reducible rfl) ?_|refine wq (by simp;with_reducible rfl) ?_|refine wt (by simpa) ?_|refine wf (by simpa) ?_|refine xt (by simpa) ?_|refine xf (by simpa) ?_|refine wp_bs ?_|refine wp_b ?_|refine wp_sr ?_|refine wp_sx ?_|refine wp_ret' ?_|refine wp_skip' ?_|refine wp_exit' ?_)
        exact ⟨rfl,rfl⟩
      | cons x r =>
        simp only [nlI]
        refine wp_loop ?_
        repeat (first|refine wp_as ?_|refine wp_ss ?_|refine wr (by simp;with_reducible rfl) ?_|refine wq (by simp;with_reducible rfl) ?_|refine wt (by simpa) ?_|refine wf (by simpa) ?_|refine xt (by simpa) ?_|refine xf (by simpa) ?_|refine wp_bs ?_|refine wp_b ?_|refine wp_sr ?_|refine wp_sx ?_|refine wp_ret' ?_|refine wp_skip' ?_|refine wp_exit' ?_)
        exact ⟨rfl,rfl⟩
    | succ m ih =>
      intro i hi
      have hi2:i < n:=by omega
      have w2:IntKind.i64.wrap ((i:Int)+1)=((i+1:Nat):Int):=wrapS (by omega)
      have hn2:=ih (i+1) (by omega)
      have hs:idxB (i+1) but=idxB i but++if (i:Int)=but then [] else [(i:Int)]:=by
        simp only [idxB,List.range_succ,List.map_append,List.map_cons,List.map_nil,List.filter_append,List.filter_cons,List.filter_nil]
        congr 1
        by_cases h:(i:Int)=but <;> simp [h]
      rw [hs] at hn2
      have hal:(idxB i but).length≤i:=Nat.le_trans (List.length_filter_le _ _) (by simp)
      generalize idxB i but=A at *
      by_cases hb:but=(i:Int)
      · subst hb
        rw [if_pos rfl,List.append_nil] at hn2
        cases A with
        | nil =>
          rw [show nlI []=Z from rfl] at hn2 ⊢
          refine wp_loop ?_
          repeat (first|refine wp_as ?_|refine wp_ss ?_|refine wr (by simp [hi2,w2];with_reducible rfl) ?_|refine wq (by simp [hi2,w2];with_reducible rfl) ?_|refine wt (by simpa [hi2,w2]) ?_|refine wf (by simpa [hi2,w2]) ?_|refine xt (by simpa [hi2,w2]) ?_|refine xf (by simpa [hi2,w2]) ?_|refine wp_bs ?_|refine wp_b ?_|refine wp_sr ?_|refine wp_sx ?_|refine wp_ret' ?_|refine wp_skip' ?_|refine wp_exit' ?_)
          exact hn2
        | cons x r =>
          rw [show nlI (x::r)=O (x::r) from rfl] at hn2 ⊢
          refine wp_loop ?_
          repeat (first|refine wp_as ?_|refine wp_ss ?_|refine wr (by simp [hi2,w2];with_reducible rfl) ?_|refine wq (by simp [hi2,w2];with_reducible rfl) ?_|refine wt (by simpa [hi2,w2]) ?_|refine wf (by simpa [hi2,w2]) ?_|refine xt (by simpa [hi2,w2]) ?_|refine xf (by simpa [hi2,w2]) ?_|refine wp_bs ?_|refine wp_b ?_|refine wp_sr ?_|refine wp_sx ?_|refine wp_ret' ?_|refine wp_skip' ?_|refine wp_exit' ?_)
          exact hn2
      · have hb':¬ (i:Int)=but:=fun h=>hb h.symm
        rw [if_neg hb'] at hn2
        cases A with
        | nil =>
          rw [List.nil_append,show nlI [(i:Int)]=O [(i:Int)] from rfl] at hn2
          rw [show nlI []=Z from rfl]
          refine wp_loop ?_
          repeat (first|refine wp_as ?_|refine wp_ss ?_|refine wr (by simp [hi2,w2,hb'];with_reducible rfl) ?_|refine wq (by simp [hi2,w2,hb'];with_reducible rfl) ?_|refine wt (by simpa [hi2,w2,hb']) ?_|refine wf (by simpa [hi2,w2,hb']) ?_|refine xt (by simpa [hi2,w2,hb']) ?_|refine xf (by simpa [hi2,w2,hb']) ?_|refine wp_bs ?_|refine wp_b ?_|refine wp_sr ?_|refine wp_sx ?_|refine wp_ret' ?_|refine wp_skip' ?_|refine wp_exit' ?_)
          exact hn2
        | cons x r =>
          rw [show nlI (x::r++[(i:Int)])=O (x::r++[(i:Int)]) from rfl] at hn2
          rw [show nlI (x::r)=O (x::r) from rfl]
          have hal1:r.length+1+1≤274877906944:=by simp at hal;omega
          have hat:(x::r).take (r.length+1)=x::r:=List.take_of_length_le (by simp)
          refine wp_loop ?_
          repeat (first|refine wp_as ?_|refine wp_ss ?_|refine wr (by simp [hi2,w2,hb',hal1,hat];with_reducible rfl) ?_|refine wq (by simp [hi2,w2,hb',hal1,hat];with_reducible rfl) ?_|refine wt (by simpa [hi2,w2,hb',hal1,hat]) ?_|refine wf (by simpa [hi2,w2,hb',hal1,hat]) ?_|refine xt (by simpa [hi2,w2,hb',hal1,hat]) ?_|refine xf (by simpa [hi2,w2,hb',hal1,hat]) ?_|refine wp_bs ?_|refine wp_b ?_|refine wp_sr ?_|refine wp_sx ?_|refine wp_ret' ?_|refine wp_skip' ?_|refine wp_exit' ?_)
          exact hn2
  refine call_of_wp zt212 rfl ?_
  repeat (first|refine wp_as ?_|refine wp_ss ?_|refine wr (by simp;with_reducible rfl) ?_|refine wq (by simp;with_reducible rfl) ?_|refine wt (by simpa) ?_|refine wf (by simpa) ?_|refine xt (by simpa) ?_|refine xf (by simpa) ?_|refine wp_bs ?_|refine wp_b ?_|refine wp_sr ?_|refine wp_sx ?_|refine wp_ret' ?_|refine wp_skip' ?_|refine wp_exit' ?_)
  refine wp_imp (loop n 0 (by simp)) ?_
  rintro ex st ⟨rfl,rfl⟩
  try simp only [if_true]
  cases idxB n but with
  | nil =>
    simp only [nlI]
    repeat (first|refine wp_as ?_|refine wp_ss ?_|refine wr (by simp;with_reducible rfl) ?_|refine wq (by simp;with_reducible rfl) ?_|refine wt (by simpa) ?_|refine wf (by simpa) ?_|refine xt (by simpa) ?_|refine xf (by simpa) ?_|refine wp_bs ?_|refine wp_b ?_|refine wp_sr ?_|refine wp_sx ?_|refine wp_ret' ?_|refine wp_skip' ?_|refine wp_exit' ?_)
    simp [zi212]
  | cons x r =>
    simp only [nlI]
    repeat (first|refine wp_as ?_|refine wp_ss ?_|refine wr (by simp;with_reducible rfl) ?_|refine wq (by simp;with_reducible rfl) ?_|refine wt (by simpa) ?_|refine wf (by simpa) ?_|refine xt (by simpa) ?_|refine xf (by simpa) ?_|refine wp_bs ?_|refine wp_b ?_|refine wp_sr ?_|refine wp_sx ?_|refine wp_ret' ?_|refine wp_skip' ?_|refine wp_exit' ?_)
    simp [zi212]
end Go.Idl
namespace Go.Idl
open Go
theorem ev_CloneI_Z:Ev tb zl71 [] [Z] [] ⟨O [],[],[],[]⟩:=by
  refine call_of_wp zt71 rfl ?_
  refine wp_rs (by simp;rfl) (by simp;rfl) ?_
  refine wp_nil2 (b:=([]:List Int).isEmpty) (by simp [z71r1];rfl) (by simp) ?_ ?_ ?_ (ex:=.ret) (st':={ T:=[(2,.own 1 (ints []))],loc:=[],M:=[] })
  · refine wp_ct (t:=false) (by simp) (by simp) fun _=>wp_ss ?_
    refine wp_rs (by simp;rfl) (by simp;rfl) ?_
    refine wp_ret' ?_
    simp
  · intro he
    refine wp_ct (t:=true) (by simp) (fun _=>wp_as ?_) (by simp)
    refine wp_rs (by simp;rfl) (by simp;rfl) ?_
    refine wp_sr ?_
    simp
  · simp [zi71]
theorem ev_clone_Z:Ev tb zl31 [] [Z] [] ⟨O [],[],[],[]⟩:=by
  have e1:=ev_lim ev_CloneI_Z
  have e2:=ev_lim (ev_Clip [])
  simp only [O,ints_nil] at e1 e2 ⊢
  refine call_of_wp zt31 rfl ?_
  repeat (first|refine wp_as ?_|refine wp_ss ?_|refine wr (by simp [e1,e2];with_reducible rfl) ?_|refine wq (by simp [e1,e2];with_reducible rfl) ?_|refine wt (by simpa [e1,e2]) ?_|refine wf (by simpa [e1,e2]) ?_|refine xt (by simpa [e1,e2]) ?_|refine xf (by simpa [e1,e2]) ?_|refine wp_bs ?_|refine wp_b ?_|refine wp_sr ?_|refine wp_sx ?_|refine wp_ret' ?_|refine wp_skip' ?_|refine wp_exit' ?_)
  simp [zi31]
def gtD (d:List Int) (a b:Int):Bool:=decide (d.getD b.toNat 0 < d.getD a.toNat 0)
def topD (d:List Int) (from_:List Int) (k:Nat):List Int:=(srtC (gtD d) [] from_).take k
theorem ev_greatest_F1 (d:List Int) (c:Bool) (hd:∀ x ∈ d,-1000≤x∧x≤1000) (a b:Nat) (ha:a < d.length) (hb:b < d.length) (Es:List Boxes) :
    Ev tb zl211 [] [I a,I b,.bptr 0 0 0] ([[L d c]]::Es) ⟨I (d[b] - d[a]),[],[[L d c]]::Es,[]⟩:=by
  have h1:=hd _ (List.getElem_mem ha)
  have h2:=hd _ (List.getElem_mem hb)
  have w1:IntKind.i64.wrap (d[b] - d[a])=d[b] - d[a]:=wrap64 (by omega) (by omega)
  refine call_of_wp zt211 rfl ?_
  repeat (first|refine wp_as ?_|refine wp_ss ?_|refine wr (by simp [ha,hb,w1];with_reducible rfl) ?_|refine wq (by simp [ha,hb,w1];with_reducible rfl) ?_|refine wt (by simpa [ha,hb,w1]) ?_|refine wf (by simpa [ha,hb,w1]) ?_|refine xt (by simpa [ha,hb,w1]) ?_|refine xf (by simpa [ha,hb,w1]) ?_|refine wp_bs ?_|refine wp_b ?_|refine wp_sr ?_|refine wp_sx ?_|refine wp_ret' ?_|refine wp_skip' ?_|refine wp_exit' ?_)
  simp [zi211]
theorem cmp_greatest (d:List Int) (c:Bool) (hd:∀ x ∈ d,-1000≤x∧x≤1000):CmpOK vI zl211 [.bptr 0 0 0] (gtD d) (fun x=>0≤x∧x < d.length) [[[L d c]],[],[]]:=by
  intro x y hx hy
  obtain ⟨a,rfl⟩:=Int.eq_ofNat_of_zero_le hx.1
  obtain ⟨b,rfl⟩:=Int.eq_ofNat_of_zero_le hy.1
  have ha:a < d.length:=by omega
  have hb:b < d.length:=by omega
  refine ⟨d[b] - d[a],?_,ev_greatest_F1 d c hd a b ha hb [[],[],[]]⟩
  simp only [gtD,Int.toNat_natCast,List.getD_eq_getElem?_getD,List.getElem?_eq_getElem ha,List.getElem?_eq_getElem hb,Option.getD_some]
  rw [decide_eq_decide];omega
theorem topD_len (d from_:List Int) (k:Nat):(srtC (gtD d) [] from_).length=from_.length:=by
  simpa using (srtC_perm (gtD d) from_ []).length_eq
theorem ev_greatest (d:List Int) (c:Bool) (hd:∀ x ∈ d,-1000≤x∧x≤1000) (x:IV) (from_:List Int) (hx:(∃ c',x=L from_ c') ∨ (from_=[]∧x=Z)) (hf:from_.length≤19) (hD:∀ v ∈ from_,0≤v∧v < d.length) (k:Nat) (hk:k≤from_.length) :
    Ev tb zl210 [] [L d c,x,I k] [] ⟨O (topD d from_ k),[],[],[]⟩:=by
  have e1:limF tb zl31 [] [x] []=some ⟨O from_,[],[],[]⟩:=by
    rcases hx with ⟨c',rfl⟩ | ⟨rfl,rfl⟩
    · exact ev_lim (ev_clone from_ c' (by omega))
    · exact ev_lim ev_clone_Z
  have e2:=ev_lim (ev_SortStable zl211 [.bptr 0 0 0] (gtD d) (fun x=>0≤x∧x < d.length) [[[L d c]]] (cmp_greatest d c hd) from_ hf hD)
  have hl:=topD_len d from_ k
  unfold topD
  generalize srtC (gtD d) [] from_=s at *
  have hks:k≤s.length:=by omega
  rcases hx with ⟨c',rfl⟩ | ⟨rfl,rfl⟩
  · refine call_of_wp zt210 rfl ?_
    repeat (first|refine wp_as ?_|refine wp_ss ?_|refine wr (by simp [e1,e2,hks];with_reducible rfl) ?_|refine wq (by simp [e1,e2,hks];with_reducible rfl) ?_|refine wt (by simpa [e1,e2,hks]) ?_|refine wf (by simpa [e1,e2,hks]) ?_|refine xt (by simpa [e1,e2,hks]) ?_|refine xf (by simpa [e1,e2,hks]) ?_|refine wp_bs ?_|refine wp_b ?_|refine wp_sr ?_|refine wp_sx ?_|refine wp_ret' ?_|refine wp_skip' ?_|refine wp_exit' ?_)
    simp [zi210]
  · have hs:s=[]:=List.length_eq_zero_iff.1 (by simpa using hl)
    subst hs
    have hk0:k=0:=by simpa using hk
    subst hk0
    simp only [O,ints_nil] at e1 e2
    refine call_of_wp zt210 rfl ?_
    repeat (first|refine wp_as ?_|refine wp_ss ?_|refine wr (by simp [e1,e2];with_reducible rfl) ?_|refine wq (by simp [e1,e2];with_reducible rfl) ?_|refine wt (by simpa [e1,e2]) ?_|refine wf (by simpa [e1,e2]) ?_|refine xt (by simpa [e1,e2]) ?_|refine xf (by simpa [e1,e2]) ?_|refine wp_bs ?_|refine wp_b ?_|refine wp_sr ?_|refine wp_sx ?_|refine wp_ret' ?_|refine wp_skip' ?_|refine wp_exit' ?_)
    simp [zi210]
end Go.Idl
namespace Go.Idl
open Go
def layI (v:Int):List Int→List Int→List (Int×Int)→Option (List Int×List (Int×Int))
  | [],left,es=>some (left,es)
  | i::r,left,es=>if left.getD i.toNat 0=0 then none else layI v r (decAt left i.toNat) (es++[(min v i,max v i)])
def realI:Nat→List Int→List Int→List (Int×Int)→Option (List (Int×Int))
  | 0,_,_,es=>some es
  | m+1,left,todo,es=>match srtC (gtD left) [] todo with
    | []=>some es
    | v::_ =>
      if (((todo.filter fun x=>!decide (x=v)).length:Nat):Int) < left.getD v.toNat 0 then none else
      match layI v (topD left (todo.filter fun x=>!decide (x=v)) (left.getD v.toNat 0).toNat) left es with
      | none=>none
      | some (left',es')=>realI m left' (todo.filter fun x=>!decide (x=v)) es'
theorem ev_Real_F1 (x v:Int) (B:Boxes) (b:Nat) (hb:B[b]? = some [I v]) (Ms:List Boxes):Ev tb zl194 [] [I x,.bptr 0 b 0] (B::Ms) ⟨Bo (decide (x=v)),[],B::Ms,[]⟩:=by
  refine call_of_wp zt194 rfl ?_
  repeat (first|refine wp_as ?_|refine wp_ss ?_|refine wr (by simp [hb];with_reducible rfl) ?_|refine wq (by simp [hb];with_reducible rfl) ?_|refine wt (by simpa [hb]) ?_|refine wf (by simpa [hb]) ?_|refine xt (by simpa [hb]) ?_|refine xf (by simpa [hb]) ?_|refine wp_bs ?_|refine wp_b ?_|refine wp_sr ?_|refine wp_sx ?_|refine wp_ret' ?_|refine wp_skip' ?_|refine wp_exit' ?_)
  simp [zi194]
  rfl
theorem filter_len' {α:Type} (p:α→Bool) (l:List α):(l.filter p).length+(l.filter fun a=>!p a).length=l.length:=by
  induction l with
  | nil=>rfl
  | cons a l ih=>simp only [List.filter_cons];cases p a <;> simp <;> omega
theorem wp_dirty {tb:Tbl} {ops:List IOp} {live:List Nat} {c rest:IC} {s1 s2 t t1 t2:St} {Q:Ex→St→Prop} (h1:execOps (limF tb) s1 ops=some t1) (c1:t1.cut live=t) (h2:execOps (limF tb) s2 ops=some t2) (c2:t2.cut live=t)
    (h:wp tb (.loop (.seq (.seq (.reg ops live []) c) rest)) s1 Q):wp tb (.loop (.seq (.seq (.reg ops live []) c) rest)) s2 Q:=by
  simp only [wp] at h ⊢
  obtain ⟨k,hk⟩:=h
  refine ⟨k,?_⟩
  cases k with
  | zero=>exact hk
  | succ k =>
    simp only [loopN] at hk ⊢
    obtain ⟨st1,q1,q2,q3⟩:=hk
    rw [h1] at q1
    cases q1
    rw [c1,← c2] at q3
    exact ⟨t2,h2,by simp,q3⟩
def FailSt (st:St):Prop:=∃ Bx:Boxes,st={ T:=[(2,.bptr 0 0 0),(3,Bo false)],loc:=[I 0,Z]::Bx,M:=[] }
theorem rl_in (d:List Int) (c:Bool) (n:Nat) (hn:n≤7) (v:Nat) (todo:IV) (htd:∃ t,todo=O t) (tops:List Int) (htl:tops.length≤100) (ht:∀ x ∈ tops,0≤x∧x < n) (B:Boxes) (b:Nat) (hb:B[b]? = some [I v]) :
    ∀ (m j:Nat) (left:List Int) (es:List (Int×Int)),j+m=tops.length→left.length=n→(∀ x ∈ left,0≤x∧x≤1000)→es.length+m≤100000 →
    wp tb (.loop z193l18) { T:=[(0,L d c),(2,.bptr 0 0 0),(4,O left),(5,todo),(6,nl2 es),(7,.bptr 0 (b+1) 0),(44,O tops),(45,I tops.length),(46,I j)],loc:=[I 0,Z]::B,M:=[] }
      (fun ex st=>match layI v (tops.drop j) left es with
        | none=>ex=.ret∧FailSt st
        | some (left',es')=>ex=.exit 2∧st={ T:=[(0,L d c),(2,.bptr 0 0 0),(4,O left'),(5,todo),(6,nl2 es'),(7,.bptr 0 (b+1) 0),(44,O tops),(45,I tops.length),(46,I tops.length),(47,Bo false)],loc:=[I 0,Z]::B,M:=[] }):=by
  obtain ⟨t,rfl⟩:=htd
  intro m
  induction m with
  | zero =>
    intro j left es hj hl hb2 hes
    obtain ⟨h1,h2⟩:=drop_end hj
    have h3:j=tops.length:=hj
    subst h3
    rw [h2]
    cases es with
    | nil =>
      rw [nl2_nil]
      refine wp_loop ?_
      repeat (first|refine wp_as ?_|refine wp_ss ?_|refine wr (by simp;with_reducible rfl) ?_|refine wq (by simp;with_reducible rfl) ?_|refine wt (by simpa) ?_|refine wf (by simpa) ?_|refine xt (by simpa) ?_|refine xf (by simpa) ?_|refine wp_bs ?_|refine wp_b ?_|refine wp_sr ?_|refine wp_sx ?_|refine wp_ret' ?_|refine wp_skip' ?_|refine wp_exit' ?_)
      exact ⟨rfl,rfl⟩
    | cons e es =>
      rw [nl2_cons]
      refine wp_loop ?_
      repeat (first|refine wp_as ?_|refine wp_ss ?_|refine wr (by simp;with_reducible rfl) ?_|refine wq (by simp;with_reducible rfl) ?_|refine wt (by simpa) ?_|refine wf (by simpa) ?_|refine xt (by simpa) ?_|refine xf (by simpa) ?_|refine wp_bs ?_|refine wp_b ?_|refine wp_sr ?_|refine wp_sx ?_|refine wp_ret' ?_|refine wp_skip' ?_|refine wp_exit' ?_)
      exact ⟨rfl,rfl⟩
  | succ m ih =>
    intro j left es hj hl hb2 hes
    obtain ⟨hjl,h2,h3⟩:=drop_get hj
    have hti:=ht _ h3
    obtain ⟨i,hi⟩:=Int.eq_ofNat_of_zero_le hti.1
    have hil:i < left.length:=by omega
    have hin:i < n:=by omega
    have gi:left.getD i 0=left[i]:=by simp [List.getD_eq_getElem?_getD,List.getElem?_eq_getElem hil]
    have hti2:tops[j].toNat=i:=by omega
    have bi:=hb2 _ (List.getElem_mem hil)
    rw [h2,layI,hti2,gi]
    by_cases h0:left[i]=0
    · rw [if_pos h0]
      cases es with
      | nil =>
        rw [nl2_nil]
        refine wp_loop ?_
        repeat (first|refine wp_as ?_|refine wp_ss ?_|refine wr (by simp [hjl,hi,hil,hin,hl,h0];with_reducible rfl) ?_|refine wq (by simp [hjl,hi,hil,hin,hl,h0];with_reducible rfl) ?_|refine wt (by simpa [hjl,hi,hil,hin,hl,h0]) ?_|refine wf (by simpa [hjl,hi,hil,hin,hl,h0]) ?_|refine xt (by simpa [hjl,hi,hil,hin,hl,h0]) ?_|refine xf (by simpa [hjl,hi,hil,hin,hl,h0]) ?_|refine wp_bs ?_|refine wp_b ?_|refine wp_sr ?_|refine wp_sx ?_|refine wp_ret' ?_|refine wp_skip' ?_|refine wp_exit' ?_)
        exact ⟨rfl,_,rfl⟩
      | cons e es =>
        rw [nl2_cons]
        refine wp_loop ?_
        repeat (first|refine wp_as ?_|refine wp_ss ?_|refine wr (by simp [hjl,hi,hil,hin,hl,h0];with_reducible rfl) ?_|refine wq (by simp [hjl,hi,hil,hin,hl,h0];with_reducible rfl) ?_|refine wt (by simpa [hjl,hi,hil,hin,hl,h0]) ?_|refine wf (by simpa [hjl,hi,hil,hin,hl,h0]) ?_|refine xt (by simpa [hjl,hi,hil,hin,hl,h0]) ?_|refine xf (by simpa [hjl,hi,hil,hin,hl,h0]) ?_|refine wp_bs ?_|refine wp_b ?_|refine wp_sr ?_|refine wp_sx ?_|refine wp_ret' ?_|refine wp_skip' ?_|refine wp_exit' ?_)
        exact ⟨rfl,_,rfl⟩
    · rw [if_neg h0]
      have hd:decAt left i=left.set i (left[i] - 1):=by rw [decAt,gi]
      have w1:IntKind.i64.wrap (left[i] - 1)=left[i] - 1:=wrap64 (by omega) (by omega)
      have w2:IntKind.i64.wrap ((j:Int)+1)=((j+1:Nat):Int):=wrapS (by omega)
      have e1:=ev_lim (ev_edge (v:Int) (i:Int) [])
      have hn2:=ih (j+1) (decAt left i) (es++[(min (v:Int) tops[j],max (v:Int) tops[j])]) (by omega) (by simp [decAt,hl]) (by
        rw [hd]
        intro x hx
        rcases List.mem_or_eq_of_mem_set hx with hx | rfl
        · exact hb2 x hx
        · omega) (by simp;omega)
      rw [hd] at hn2 ⊢
      rw [nl2_app,hi] at hn2
      rw [hi]
      cases es with
      | nil =>
        rw [nl2_nil]
        rw [List.nil_append] at hn2
        refine wp_loop ?_
        repeat (first|refine wp_as ?_|refine wp_ss ?_|refine wr (by simp [hjl,hi,hil,hin,hl,h0,w1,w2,e1,hb];with_reducible rfl) ?_|refine wq (by simp [hjl,hi,hil,hin,hl,h0,w1,w2,e1,hb];with_reducible rfl) ?_|refine wt (by simpa [hjl,hi,hil,hin,hl,h0,w1,w2,e1,hb]) ?_|refine wf (by simpa [hjl,hi,hil,hin,hl,h0,w1,w2,e1,hb]) ?_|refine xt (by simpa [hjl,hi,hil,hin,hl,h0,w1,w2,e1,hb]) ?_|refine xf (by simpa [hjl,hi,hil,hin,hl,h0,w1,w2,e1,hb]) ?_|refine wp_bs ?_|refine wp_b ?_|refine wp_sr ?_|refine wp_sx ?_|refine wp_ret' ?_|refine wp_skip' ?_|refine wp_exit' ?_)
        exact hn2
      | cons e es =>
        rw [nl2_cons]
        have hel:es.length+1+1≤274877906944:=by simp at hes;omega
        have het:(e::es).take (es.length+1)=e::es:=List.take_of_length_le (by simp)
        refine wp_loop ?_
        repeat (first|refine wp_as ?_|refine wp_ss ?_|refine wr (by simp [hjl,hi,hil,hin,hl,h0,w1,w2,e1,hb,hel,het];with_reducible rfl) ?_|refine wq (by simp [hjl,hi,hil,hin,hl,h0,w1,w2,e1,hb,hel,het];with_reducible rfl) ?_|refine wt (by simpa [hjl,hi,hil,hin,hl,h0,w1,w2,e1,hb,hel,het]) ?_|refine wf (by simpa [hjl,hi,hil,hin,hl,h0,w1,w2,e1,hb,hel,het]) ?_|refine xt (by simpa [hjl,hi,hil,hin,hl,h0,w1,w2,e1,hb,hel,het]) ?_|refine xf (by simpa [hjl,hi,hil,hin,hl,h0,w1,w2,e1,hb,hel,het]) ?_|refine wp_bs ?_|refine wp_b ?_|refine wp_sr ?_|refine wp_sx ?_|refine wp_ret' ?_|refine wp_skip' ?_|refine wp_exit' ?_)
        exact hn2
theorem layI_inv (v:Int):∀ (tops left:List Int) (es:List (Int×Int)) (left':List Int) (es':List (Int×Int)),layI v tops left es=some (left',es')→(∀ x ∈ left,0≤x∧x≤1000) →
    left'.length=left.length∧(∀ x ∈ left',0≤x∧x≤1000)∧es'=es++tops.map fun i=>(min v i,max v i)
  | [],left,es,left',es',h,hb=>by
    simp only [layI,Option.some.injEq,Prod.mk.injEq] at h
    obtain ⟨rfl,rfl⟩:=h
    exact ⟨rfl,hb,by simp⟩
  | i::r,left,es,left',es',h,hb=>by
    rw [layI] at h
    split at h
    · cases h
    · rename_i h0
      obtain ⟨k1,k2,k3⟩:=layI_inv v r _ _ _ _ h (by
        intro x hx
        rcases List.mem_or_eq_of_mem_set hx with hx | rfl
        · exact hb x hx
        · have hg:∀ y,left[i.toNat]? = some y→0≤y∧y≤1000:=fun y hy=>hb y (List.mem_of_getElem? hy)
          rw [List.getD_eq_getElem?_getD] at h0 ⊢
          cases hq:left[i.toNat]? with
          | none=>rw [hq] at h0;simp at h0
          | some y =>
            rw [hq] at h0
            have:=hg y hq
            simp only [Option.getD_some] at h0 ⊢
            omega)
      exact ⟨by rw [k1];simp [decAt],k2,by rw [k3];simp⟩
theorem rl_out (d:List Int) (c:Bool) (n:Nat) (hn:n≤7):∀ (m:Nat) (left todo:List Int) (es:List (Int×Int)) (Bx:Boxes),todo.length≤m→left.length=n→(∀ x ∈ left,0≤x∧x≤1000)→(∀ x ∈ todo,0≤x∧x < n)→todo.length≤7→es.length+10 * m≤1000 →
    wp tb (.loop z193l19) { T:=[(0,L d c),(2,.bptr 0 0 0),(4,O left),(5,O todo),(6,nl2 es)],loc:=[I 0,Z]::Bx,M:=[] }
      (fun ex st=>match realI m left todo es with
        | none=>ex=.ret∧FailSt st
        | some es'=>ex=.exit 0∧∃ (left' todo':List Int) (Bx':Boxes),st={ T:=[(0,L d c),(2,.bptr 0 0 0),(4,O left'),(5,O todo'),(6,nl2 es'),(21,Bo false)],loc:=[I 0,Z]::Bx',M:=[] }):=by
  have done:∀ (left todo:List Int) (es:List (Int×Int)) (Bx:Boxes),todo.length=0→wp tb (.loop z193l19) { T:=[(0,L d c),(2,.bptr 0 0 0),(4,O left),(5,O todo),(6,nl2 es)],loc:=[I 0,Z]::Bx,M:=[] }
      (fun ex st=>ex=.exit 0∧∃ (left' todo':List Int) (Bx':Boxes),st={ T:=[(0,L d c),(2,.bptr 0 0 0),(4,O left'),(5,O todo'),(6,nl2 es),(21,Bo false)],loc:=[I 0,Z]::Bx',M:=[] }):=by
    intro left todo es Bx h0
    have h0':todo=[]:=List.length_eq_zero_iff.1 h0
    cases es with
    | nil =>
      rw [nl2_nil]
      refine wp_loop ?_
      repeat (first|refine wp_as ?_|refine wp_ss ?_|refine wr (by simp [h0];with_reducible rfl) ?_|refine wq (by simp [h0];with_reducible rfl) ?_|refine wt (by simpa [h0]) ?_|refine wf (by simpa [h0]) ?_|refine xt (by simpa [h0]) ?_|refine xf (by simpa [h0]) ?_|refine wp_bs ?_|refine wp_b ?_|refine wp_sr ?_|refine wp_sx ?_|refine wp_ret' ?_|refine wp_skip' ?_|refine wp_exit' ?_)
      exact ⟨rfl,left,todo,Bx,rfl⟩
    | cons e es =>
      rw [nl2_cons]
      refine wp_loop ?_
      repeat (first|refine wp_as ?_|refine wp_ss ?_|refine wr (by simp [h0];with_reducible rfl) ?_|refine wq (by simp [h0];with_reducible rfl) ?_|refine wt (by simpa [h0]) ?_|refine wf (by simpa [h0]) ?_|refine xt (by simpa [h0]) ?_|refine xf (by simpa [h0]) ?_|refine wp_bs ?_|refine wp_b ?_|refine wp_sr ?_|refine wp_sx ?_|refine wp_ret' ?_|refine wp_skip' ?_|refine wp_exit' ?_)
      exact ⟨rfl,left,todo,Bx,rfl⟩
  intro m
  induction m with
  | zero =>
    intro left todo es Bx hm hl hb ht ht7 hes
    exact done left todo es Bx (by omega)
  | succ m ih =>
    intro left todo es Bx hm hl hb ht ht7 hes
    rw [realI]
    have hsl:=topD_len left todo 1
    cases hs:srtC (gtD left) [] todo with
    | nil =>
      rw [hs] at hsl
      exact done left todo es Bx (by simpa using hsl.symm)
    | cons v r =>
    simp only
    rw [hs] at hsl
    have htl:1≤todo.length:=by simp at hsl;omega
    have hv:v ∈ todo:=by
      have:=(srtC_perm (gtD left) todo []).mem_iff (a:=v)
      rw [hs] at this
      simpa using this.1 (by simp)
    have hvb:=ht v hv
    obtain ⟨p,rfl⟩:=Int.eq_ofNat_of_zero_le hvb.1
    have hpn:p < n:=by omega
    have hpl:p < left.length:=by omega
    have hb':∀ x ∈ left,-1000≤x∧x≤1000:=fun x hx=>by have:=hb x hx;omega
    have g1:=fun cc c1=>ev_lim (ev_greatest left cc hb' (L todo c1) todo (.inl ⟨c1,rfl⟩) (by omega) (fun x hx=>by rw [hl];exact ht x hx) 1 htl)
    have ht1:topD left todo 1=[(p:Int)]:=by rw [topD,hs];rfl
    rw [ht1] at g1
    rw [show ((1:Nat):Int)=1 from rfl] at g1
    obtain ⟨t2,ht2⟩:∃ t2,t2=todo.filter fun x=>!decide (x=(p:Int)):=⟨_,rfl⟩
    have hdel:=ev_lim (ev_DeleteFunc todo zl194 [.bptr 0 (Bx.length+1) 0] [[I 0,Z]::(Bx++[[I p]])] (fun x=>decide (x=(p:Int))) (by omega) (fun M' x _=>by
      rw [show [[I 0,Z]::(Bx++[[I (p:Int)]])]++[[]]++M'=([I 0,Z]::(Bx++[[I (p:Int)]]))::([[]]++M') from rfl]
      exact ev_Real_F1 x p ([I 0,Z]::(Bx++[[I p]])) (Bx.length+1) (by simp) ([[]]++M')))
    rw [← ht2] at hdel ⊢
    have ht2m:∀ x ∈ t2,0≤x∧x < n:=fun x hx=>ht x (by rw [ht2] at hx;exact (List.mem_filter.1 hx).1)
    have ht2l:t2.length < todo.length:=by
      rw [ht2]
      have h1:=filter_len' (fun x=>!decide (x=(p:Int))) todo
      have h2:(p:Int) ∈ todo.filter (fun a=>!!decide (a=(p:Int))):=List.mem_filter.2 ⟨hv,by simp⟩
      have:=List.length_pos_of_mem h2
      omega
    have gp:left.getD p 0=left[p]:=by simp [List.getD_eq_getElem?_getD,List.getElem?_eq_getElem hpl]
    have htp:(p:Int).toNat=p:=by simp
    rw [htp,gp]
    have bp:=hb _ (List.getElem_mem hpl)
    have htot:todo.take todo.length=todo:=List.take_of_length_le (Nat.le_refl _)
    have hlt:left.take n=left:=List.take_of_length_le (by omega)
    have hgt0:(0:Int) < (todo.length:Int):=by omega
    have hgt0':0 < todo.length:=by omega
    by_cases hfew:(t2.length:Int) < left[p]
    · rw [if_pos hfew]
      rcases es with _ | ⟨e,es⟩
      · rw [nl2_nil]
        refine wp_loop ?_
        repeat (first|refine wp_as ?_|refine wp_ss ?_|refine wr (by simp [hgt0,hgt0',g1,hdel,hpl,hpn,hl,hfew,htot,hlt];with_reducible rfl) ?_|refine wq (by simp [hgt0,hgt0',g1,hdel,hpl,hpn,hl,hfew,htot,hlt];with_reducible rfl) ?_|refine wt (by simpa [hgt0,hgt0',g1,hdel,hpl,hpn,hl,hfew,htot,hlt]) ?_|refine wf (by simpa [hgt0,hgt0',g1,hdel,hpl,hpn,hl,hfew,htot,hlt]) ?_|refine xt (by simpa [hgt0,hgt0',g1,hdel,hpl,hpn,hl,hfew,htot,hlt]) ?_|refine xf (by simpa [hgt0,hgt0',g1,hdel,hpl,hpn,hl,hfew,htot,hlt]) ?_|refine wp_bs ?_|refine wp_b ?_|refine wp_sr ?_|refine wp_sx ?_|refine wp_ret' ?_|refine wp_skip' ?_|refine wp_exit' ?_)
        exact ⟨rfl,_,rfl⟩
      · rw [nl2_cons]
        refine wp_loop ?_
        repeat (first|refine wp_as ?_|refine wp_ss ?_|refine wr (by simp [hgt0,hgt0',g1,hdel,hpl,hpn,hl,hfew,htot,hlt];with_reducible rfl) ?_|refine wq (by simp [hgt0,hgt0',g1,hdel,hpl,hpn,hl,hfew,htot,hlt];with_reducible rfl) ?_|refine wt (by simpa [hgt0,hgt0',g1,hdel,hpl,hpn,hl,hfew,htot,hlt]) ?_|refine wf (by simpa [hgt0,hgt0',g1,hdel,hpl,hpn,hl,hfew,htot,hlt]) ?_|refine xt (by simpa [hgt0,hgt0',g1,hdel,hpl,hpn,hl,hfew,htot,hlt]) ?_|refine xf (by simpa [hgt0,hgt0',g1,hdel,hpl,hpn,hl,hfew,htot,hlt]) ?_|refine wp_bs ?_|refine wp_b ?_|refine wp_sr ?_|refine wp_sx ?_|refine wp_ret' ?_|refine wp_skip' ?_|refine wp_exit' ?_)
        exact ⟨rfl,_,rfl⟩
    rw [if_neg hfew]
    obtain ⟨k,hk⟩:=Int.eq_ofNat_of_zero_le bp.1
    have hkl:k≤t2.length:=by omega
    rw [hk] at hfew
    rw [hk,show ((k:Int)).toNat=k by simp]
    have g2:=fun cc c1=>ev_lim (ev_greatest left cc hb' (L t2 c1) t2 (.inl ⟨c1,rfl⟩) (by omega) (fun x hx=>by rw [hl];exact ht2m x hx) k hkl)
    have htopm:∀ x ∈ topD left t2 k,0≤x∧x < n:=fun x hx=>ht2m x (by
      have:=List.mem_of_mem_take hx
      simpa using (srtC_perm (gtD left) t2 []).mem_iff.1 this)
    have htopl:(topD left t2 k).length≤7:=by
      rw [topD,List.length_take,topD_len left t2 k];omega
    have hlo:=rl_in d c n hn p (O t2) ⟨t2,rfl⟩ (topD left t2 k) (by omega) htopm (Bx++[[I p]]) Bx.length (by simp) (topD left t2 k).length 0 left es (by simp) hl hb (by omega)
    rw [List.drop_zero,show ((0:Nat):Int)=0 from rfl] at hlo
    generalize topD left t2 k=tops at *
    have ht2t:t2.take t2.length=t2:=List.take_of_length_le (Nat.le_refl _)
    cases hlay:layI p tops left es with
    | none =>
      simp only [hlay] at hlo
      simp only
      rcases es with _ | ⟨e,es⟩
      · rw [nl2_nil] at hlo ⊢
        refine wp_loop ?_
        repeat (first|refine wp_as ?_|refine wp_ss ?_|refine wr (by simp [hgt0,hgt0',g1,g2,hdel,hpl,hpn,hl,hk,hfew,htot,hlt,ht2t];with_reducible rfl) ?_|refine wq (by simp [hgt0,hgt0',g1,g2,hdel,hpl,hpn,hl,hk,hfew,htot,hlt,ht2t];with_reducible rfl) ?_|refine wt (by simpa [hgt0,hgt0',g1,g2,hdel,hpl,hpn,hl,hk,hfew,htot,hlt,ht2t]) ?_|refine wf (by simpa [hgt0,hgt0',g1,g2,hdel,hpl,hpn,hl,hk,hfew,htot,hlt,ht2t]) ?_|refine xt (by simpa [hgt0,hgt0',g1,g2,hdel,hpl,hpn,hl,hk,hfew,htot,hlt,ht2t]) ?_|refine xf (by simpa [hgt0,hgt0',g1,g2,hdel,hpl,hpn,hl,hk,hfew,htot,hlt,ht2t]) ?_|refine wp_bs ?_|refine wp_b ?_|refine wp_sr ?_|refine wp_sx ?_|refine wp_ret' ?_|refine wp_skip' ?_|refine wp_exit' ?_)
        refine wp_imp hlo ?_
        rintro ex st ⟨rfl,hf⟩
        exact ⟨rfl,hf⟩
      · rw [nl2_cons] at hlo ⊢
        refine wp_loop ?_
        repeat (first|refine wp_as ?_|refine wp_ss ?_|refine wr (by simp [hgt0,hgt0',g1,g2,hdel,hpl,hpn,hl,hk,hfew,htot,hlt,ht2t];with_reducible rfl) ?_|refine wq (by simp [hgt0,hgt0',g1,g2,hdel,hpl,hpn,hl,hk,hfew,htot,hlt,ht2t];with_reducible rfl) ?_|refine wt (by simpa [hgt0,hgt0',g1,g2,hdel,hpl,hpn,hl,hk,hfew,htot,hlt,ht2t]) ?_|refine wf (by simpa [hgt0,hgt0',g1,g2,hdel,hpl,hpn,hl,hk,hfew,htot,hlt,ht2t]) ?_|refine xt (by simpa [hgt0,hgt0',g1,g2,hdel,hpl,hpn,hl,hk,hfew,htot,hlt,ht2t]) ?_|refine xf (by simpa [hgt0,hgt0',g1,g2,hdel,hpl,hpn,hl,hk,hfew,htot,hlt,ht2t]) ?_|refine wp_bs ?_|refine wp_b ?_|refine wp_sr ?_|refine wp_sx ?_|refine wp_ret' ?_|refine wp_skip' ?_|refine wp_exit' ?_)
        refine wp_imp hlo ?_
        rintro ex st ⟨rfl,hf⟩
        exact ⟨rfl,hf⟩
    | some q =>
      obtain ⟨left',es'⟩:=q
      simp only [hlay] at hlo
      simp only
      obtain ⟨q1,q2,q3⟩:=layI_inv p tops left es left' es' hlay hb
      have hn2:=ih left' t2 es' (Bx++[[I p]]) (by omega) (by omega) q2 ht2m (by omega) (by rw [q3];simp;omega)
      rcases es with _ | ⟨e,es⟩
      · rw [nl2_nil] at hlo ⊢
        refine wp_loop ?_
        repeat (first|refine wp_as ?_|refine wp_ss ?_|refine wr (by simp [hgt0,hgt0',g1,g2,hdel,hpl,hpn,hl,hk,hfew,htot,hlt,ht2t];with_reducible rfl) ?_|refine wq (by simp [hgt0,hgt0',g1,g2,hdel,hpl,hpn,hl,hk,hfew,htot,hlt,ht2t];with_reducible rfl) ?_|refine wt (by simpa [hgt0,hgt0',g1,g2,hdel,hpl,hpn,hl,hk,hfew,htot,hlt,ht2t]) ?_|refine wf (by simpa [hgt0,hgt0',g1,g2,hdel,hpl,hpn,hl,hk,hfew,htot,hlt,ht2t]) ?_|refine xt (by simpa [hgt0,hgt0',g1,g2,hdel,hpl,hpn,hl,hk,hfew,htot,hlt,ht2t]) ?_|refine xf (by simpa [hgt0,hgt0',g1,g2,hdel,hpl,hpn,hl,hk,hfew,htot,hlt,ht2t]) ?_|refine wp_bs ?_|refine wp_b ?_|refine wp_sr ?_|refine wp_sx ?_|refine wp_ret' ?_|refine wp_skip' ?_|refine wp_exit' ?_)
        refine wp_imp hlo ?_
        rintro ex st ⟨rfl,rfl⟩
        simp only [if_true]
        cases es' with
        | nil =>
          rw [nl2_nil] at hn2 ⊢
          exact wp_dirty (by simp;with_reducible rfl) rfl (by simp;with_reducible rfl) (by simp) hn2
        | cons e' es' =>
          rw [nl2_cons] at hn2 ⊢
          exact wp_dirty (by simp;with_reducible rfl) rfl (by simp;with_reducible rfl) (by simp) hn2
      · rw [nl2_cons] at hlo ⊢
        refine wp_loop ?_
        repeat (first|refine wp_as ?_|refine wp_ss ?_|refine wr (by simp [hgt0,hgt0',g1,g2,hdel,hpl,hpn,hl,hk,hfew,htot,hlt,ht2t];with_reducible rfl) ?_|refine wq (by simp [hgt0,hgt0',g1,g2,hdel,hpl,hpn,hl,hk,hfew,htot,hlt,ht2t];with_reducible rfl) ?_|refine wt (by simpa [hgt0,hgt0',g1,g2,hdel,hpl,hpn,hl,hk,hfew,htot,hlt,ht2t]) ?_|refine wf (by simpa [hgt0,hgt0',g1,g2,hdel,hpl,hpn,hl,hk,hfew,htot,hlt,ht2t]) ?_|refine xt (by simpa [hgt0,hgt0',g1,g2,hdel,hpl,hpn,hl,hk,hfew,htot,hlt,ht2t]) ?_|refine xf (by simpa [hgt0,hgt0',g1,g2,hdel,hpl,hpn,hl,hk,hfew,htot,hlt,ht2t]) ?_|refine wp_bs ?_|refine wp_b ?_|refine wp_sr ?_|refine wp_sx ?_|refine wp_ret' ?_|refine wp_skip' ?_|refine wp_exit' ?_)
        refine wp_imp hlo ?_
        rintro ex st ⟨rfl,rfl⟩
        simp only [if_true]
        cases es' with
        | nil =>
          rw [nl2_nil] at hn2 ⊢
          exact wp_dirty (by simp;with_reducible rfl) rfl (by simp;with_reducible rfl) (by simp) hn2
        | cons e' es' =>
          rw [nl2_cons] at hn2 ⊢
          exact wp_dirty (by simp;with_reducible rfl) rfl (by simp;with_reducible rfl) (by simp) hn2
end Go.Idl
namespace Go.Idl
open Go
theorem realI_edges (n:Nat):∀ (m:Nat) (left todo:List Int) (es es':List (Int×Int)),realI m left todo es=some es'→todo.Nodup→(∀ x ∈ todo,0≤x∧x < n) →
    ∃ new:List (Int×Int),es'=es++new∧new.Nodup∧∀ e ∈ new,e ∈ prs n∧e.1 ∈ todo∧e.2 ∈ todo
  | 0,left,todo,es,es',h,_,_=>by
    simp only [realI,Option.some.injEq] at h
    exact ⟨[],by simp [h],.nil,by simp⟩
  | m+1,left,todo,es,es',h,hn,hb=>by
    rw [realI] at h
    cases hs:srtC (gtD left) [] todo with
    | nil =>
      rw [hs] at h
      simp only [Option.some.injEq] at h
      exact ⟨[],by simp [h],.nil,by simp⟩
    | cons v r =>
      rw [hs] at h
      simp only at h
      split at h
      · cases h
      obtain ⟨t2,ht2⟩:∃ t2,t2=todo.filter fun x=>!decide (x=v):=⟨_,rfl⟩
      rw [← ht2] at h
      obtain ⟨tops,htops⟩:∃ tops,tops=topD left t2 (left.getD v.toNat 0).toNat:=⟨_,rfl⟩
      rw [← htops] at h
      cases hl:layI v tops left es with
      | none=>rw [hl] at h;cases h
      | some q =>
        obtain ⟨left',es1⟩:=q
        rw [hl] at h
        simp only at h
        have hes1:es1=es++tops.map fun i=>(min v i,max v i):=by
          have:∀ (tops left:List Int) (es:List (Int×Int)) (left':List Int) (es1:List (Int×Int)),layI v tops left es=some (left',es1)→es1=es++tops.map fun i=>(min v i,max v i):=by
            intro tops
            induction tops with
            | nil=>intro left es left' es1 h;simp only [layI,Option.some.injEq,Prod.mk.injEq] at h;simp [h.2]
            | cons i r ih =>
              intro left es left' es1 h
              rw [layI] at h
              split at h
              · cases h
              · rw [ih _ _ _ _ h];simp
          exact this _ _ _ _ _ hl
        have hv:v ∈ todo:=by
          have:=(srtC_perm (gtD left) todo []).mem_iff (a:=v)
          rw [hs] at this
          simpa using this.1 (by simp)
        have ht2n:t2.Nodup:=by rw [ht2];exact hn.filter _
        have ht2m:∀ x ∈ t2,x ∈ todo∧x ≠ v:=fun x hx=>by
          rw [ht2] at hx
          have:=List.mem_filter.1 hx
          exact ⟨this.1,by simpa using this.2⟩
        have htm:∀ x ∈ tops,x ∈ t2:=fun x hx=>by
          rw [htops] at hx
          simpa using (srtC_perm (gtD left) t2 []).mem_iff.1 (List.mem_of_mem_take hx)
        have htn:tops.Nodup:=by
          rw [htops]
          have:(srtC (gtD left) [] t2).Nodup:=(srtC_perm (gtD left) t2 []).nodup_iff.2 (by simpa using ht2n)
          exact this.sublist (List.take_sublist _ _)
        obtain ⟨new,k1,k2,k3⟩:=realI_edges n m left' t2 es1 es' h ht2n (fun x hx=>hb x (ht2m x hx).1)
        have hvb:=hb v hv
        refine ⟨(tops.map fun i=>(min v i,max v i))++new,by rw [k1,hes1];simp,List.nodup_append.2 ⟨?_,k2,?_⟩,?_⟩
        · rw [List.Nodup,List.pairwise_map]
          refine List.Pairwise.imp_of_mem (fun {i j} hi hj hij he=>?_) htn
          have h1:=(ht2m i (htm i hi)).2
          have h2:=(ht2m j (htm j hj)).2
          simp only [Prod.mk.injEq] at he
          omega
        · intro e he e' he' hee
          subst hee
          obtain ⟨i,hi,rfl⟩:=List.mem_map.1 he
          obtain ⟨-,h1,h2⟩:=k3 _ he'
          have h3:=(ht2m _ h1).2
          have h4:=(ht2m _ h2).2
          simp only at h3 h4
          omega
        · intro e he
          rcases List.mem_append.1 he with he | he
          · obtain ⟨i,hi,rfl⟩:=List.mem_map.1 he
            have h1:=ht2m i (htm i hi)
            have h2:=hb i h1.1
            refine ⟨mem_prs.2 ?_,?_,?_⟩
            · simp only;omega
            · simp only
              rcases Int.le_total v i with h | h
              · rw [Int.min_eq_left h];exact hv
              · rw [Int.min_eq_right h];exact h1.1
            · simp only
              rcases Int.le_total v i with h | h
              · rw [Int.max_eq_right h];exact h1.1
              · rw [Int.max_eq_left h];exact hv
          · obtain ⟨h1,h2,h3⟩:=k3 e he
            exact ⟨h1,(ht2m _ h2).1,(ht2m _ h3).1⟩
theorem idxB_all (n:Nat):idxB n (-1)=(List.range n).map fun v:Nat=>(v:Int):=by
  rw [idxB]
  refine List.filter_eq_self.2 fun x hx=>?_
  obtain ⟨v,_,rfl⟩:=List.mem_map.1 hx
  simp
def realD (d:List Int):Option (List (Int×Int)):=realI d.length d (idxB d.length (-1)) []
theorem realD_ok {d:List Int} (h7:d.length≤7) {es:List (Int×Int)} (h:realD d=some es):es.Nodup∧(∀ e ∈ es,e ∈ prs d.length)∧es.length≤21∧vGraph d.length (srtE es)=true:=by
  have hn:(idxB d.length (-1)).Nodup:=by
    rw [idxB_all,List.Nodup,List.pairwise_map]
    exact List.nodup_range.imp fun h e=>h (by omega)
  have hb:∀ x ∈ idxB d.length (-1),0≤x∧x < (d.length:Int):=fun x hx=>by
    rw [idxB_all] at hx
    obtain ⟨v,hv,rfl⟩:=List.mem_map.1 hx
    have:=List.mem_range.1 hv
    omega
  obtain ⟨new,k1,k2,k3⟩:=realI_edges d.length _ _ _ _ _ h hn hb
  rw [List.nil_append] at k1
  subst k1
  have hvg:vGraph d.length (srtE es)=true:=vG_iff.2 ⟨srtE_pw k2,fun e he=>(k3 e ((srtE_perm es).mem_iff.1 he)).1,h7⟩
  refine ⟨k2,fun e he=>(k3 e he).1,?_,hvg⟩
  have h1:=(vG_sub hvg).length_le
  have h2:∀ n,n≤7→(prs n).length≤21:=by decide +kernel
  have h3:=(srtE_perm es).length_eq
  have:=h2 _ h7
  omega
abbrev RR (n:Nat) (o:Option (List (Int×Int))):IV:=match o with
  | none=>.tup [.agg [I 0,Z],Bo false]
  | some es=>.tup [OG n (srtE es),Bo true]
theorem ev_RealizeDegrees (d:List Int) (c:Bool) (hv:valid d=true):Ev tb zl193 [] [L d c] [] ⟨RR d.length (realD d),[],[],[]⟩:=by
  have hf:=valid_few hv
  have h7:=hf.1
  have e1:=ev_lim (ev_ValidDegrees d c (by omega))
  rw [hv] at e1
  have e2:=ev_lim (ev_clone d c (by omega))
  have e3:=ev_lim (ev_indices d.length (-1) (by omega))
  by_cases h0:d.length=0
  · have hd:d=[]:=List.length_eq_zero_iff.1 h0
    subst hd
    have e4:=ev_lim (show Ev tb zl214 [] [I 0,Z] [] ⟨OG 0 (srtE []),[],[],[]⟩ from ev_made 0 0 [] true (.inr rfl) (by simp) .nil (by simp))
    rw [show idxB ([]:List Int).length (-1)=[] from rfl,show nlI []=Z from rfl,show ((([]:List Int).length:Nat):Int)=0 from rfl] at e3
    simp only [L,O,ints_nil] at e1 e2
    show Ev tb zl193 [] [L [] c] [] ⟨.tup [OG 0 (srtE []),Bo true],[],[],[]⟩
    simp only [L,ints_nil]
    refine call_of_wp zt193 rfl ?_
    repeat (first|refine wp_as ?_|refine wp_ss ?_|refine wr (by simp [e1,e2,e3];with_reducible rfl) ?_|refine wq (by simp [e1,e2,e3];with_reducible rfl) ?_|refine wt (by simpa [e1,e2,e3]) ?_|refine wf (by simpa [e1,e2,e3]) ?_|refine xt (by simpa [e1,e2,e3]) ?_|refine xf (by simpa [e1,e2,e3]) ?_|refine wp_bs ?_|refine wp_b ?_|refine wp_sr ?_|refine wp_sx ?_|refine wp_ret' ?_|refine wp_skip' ?_|refine wp_exit' ?_)
    refine wp_loop ?_
    repeat (first|refine wp_as ?_|refine wp_ss ?_|refine wr (by simp [e4];with_reducible rfl) ?_|refine wq (by simp [e4];with_reducible rfl) ?_|refine wt (by simpa [e4]) ?_|refine wf (by simpa [e4]) ?_|refine xt (by simpa [e4]) ?_|refine xf (by simpa [e4]) ?_|refine wp_bs ?_|refine wp_b ?_|refine wp_sr ?_|refine wp_sx ?_|refine wp_ret' ?_|refine wp_skip' ?_|refine wp_exit' ?_)
    simp [zi193]
  · have hil:(idxB d.length (-1)).length=d.length:=by rw [idxB_all];simp
    have hib:∀ x ∈ idxB d.length (-1),0≤x∧x < (d.length:Int):=fun x hx=>by
      rw [idxB_all] at hx
      obtain ⟨v,hv,rfl⟩:=List.mem_map.1 hx
      have:=List.mem_range.1 hv
      omega
    have hnl:nlI (idxB d.length (-1))=O (idxB d.length (-1)):=by
      cases hq:idxB d.length (-1) with
      | nil=>rw [hq] at hil;simp at hil;omega
      | cons x r=>rfl
    rw [hnl] at e3
    have hlo:=rl_out d c d.length h7 d.length d (idxB d.length (-1)) [] [] (by omega) rfl (fun x hx=>by have:=hf.2 x hx;omega) hib (by omega) (by simp;omega)
    rw [nl2_nil] at hlo
    have hok:∀ es,realD d=some es→_:=fun es h=>realD_ok h7 h
    unfold realD at hok ⊢
    cases hr:realI d.length d (idxB d.length (-1)) [] with
    | none =>
      simp only [hr] at hlo
      refine call_of_wp zt193 rfl ?_
      repeat (first|refine wp_as ?_|refine wp_ss ?_|refine wr (by simp [e1,e2,e3];with_reducible rfl) ?_|refine wq (by simp [e1,e2,e3];with_reducible rfl) ?_|refine wt (by simpa [e1,e2,e3]) ?_|refine wf (by simpa [e1,e2,e3]) ?_|refine xt (by simpa [e1,e2,e3]) ?_|refine xf (by simpa [e1,e2,e3]) ?_|refine wp_bs ?_|refine wp_b ?_|refine wp_sr ?_|refine wp_sx ?_|refine wp_ret' ?_|refine wp_skip' ?_|refine wp_exit' ?_)
      refine wp_imp hlo ?_
      rintro ex st ⟨rfl,Bx,rfl⟩
      simp [zi193]
    | some es =>
      obtain ⟨k1,k2,k3,k4⟩:=hok es hr
      simp only [hr] at hlo
      have hDE:∀ x ∈ es,DE x:=fun x hx=>by have:=mem_prs.1 (k2 x hx);simp only [DE];omega
      cases es with
      | nil =>
        have e4:=ev_lim (show Ev tb zl214 [] [I d.length,Z] [] ⟨OG d.length (srtE []),[],[],[]⟩ from ev_made d.length 0 [] true (.inr rfl) (by simp) .nil (by simp))
        rw [nl2_nil] at hlo
        refine call_of_wp zt193 rfl ?_
        repeat (first|refine wp_as ?_|refine wp_ss ?_|refine wr (by simp [e1,e2,e3];with_reducible rfl) ?_|refine wq (by simp [e1,e2,e3];with_reducible rfl) ?_|refine wt (by simpa [e1,e2,e3]) ?_|refine wf (by simpa [e1,e2,e3]) ?_|refine xt (by simpa [e1,e2,e3]) ?_|refine xf (by simpa [e1,e2,e3]) ?_|refine wp_bs ?_|refine wp_b ?_|refine wp_sr ?_|refine wp_sx ?_|refine wp_ret' ?_|refine wp_skip' ?_|refine wp_exit' ?_)
        refine wp_imp hlo ?_
        rintro ex st ⟨rfl,left',todo',Bx',rfl⟩
        simp only [if_true]
        repeat (first|refine wp_as ?_|refine wp_ss ?_|refine wr (by simp [e4];with_reducible rfl) ?_|refine wq (by simp [e4];with_reducible rfl) ?_|refine wt (by simpa [e4]) ?_|refine wf (by simpa [e4]) ?_|refine xt (by simpa [e4]) ?_|refine xf (by simpa [e4]) ?_|refine wp_bs ?_|refine wp_b ?_|refine wp_sr ?_|refine wp_sx ?_|refine wp_ret' ?_|refine wp_skip' ?_|refine wp_exit' ?_)
        simp [zi193]
      | cons e es =>
        have e4:=fun cc=>ev_lim (ev_made d.length 2 (e::es) cc (.inl rfl) hDE k1 k3)
        rw [nl2_cons] at hlo
        have het:(e::es).take (es.length+1)=e::es:=List.take_of_length_le (by simp)
        refine call_of_wp zt193 rfl ?_
        repeat (first|refine wp_as ?_|refine wp_ss ?_|refine wr (by simp [e1,e2,e3];with_reducible rfl) ?_|refine wq (by simp [e1,e2,e3];with_reducible rfl) ?_|refine wt (by simpa [e1,e2,e3]) ?_|refine wf (by simpa [e1,e2,e3]) ?_|refine xt (by simpa [e1,e2,e3]) ?_|refine xf (by simpa [e1,e2,e3]) ?_|refine wp_bs ?_|refine wp_b ?_|refine wp_sr ?_|refine wp_sx ?_|refine wp_ret' ?_|refine wp_skip' ?_|refine wp_exit' ?_)
        refine wp_imp hlo ?_
        rintro ex st ⟨rfl,left',todo',Bx',rfl⟩
        simp only [if_true]
        repeat (first|refine wp_as ?_|refine wp_ss ?_|refine wr (by simp [e4,het];with_reducible rfl) ?_|refine wq (by simp [e4,het];with_reducible rfl) ?_|refine wt (by simpa [e4,het]) ?_|refine wf (by simpa [e4,het]) ?_|refine xt (by simpa [e4,het]) ?_|refine xf (by simpa [e4,het]) ?_|refine wp_bs ?_|refine wp_b ?_|refine wp_sr ?_|refine wp_sx ?_|refine wp_ret' ?_|refine wp_skip' ?_|refine wp_exit' ?_)
        simp [zi193]
end Go.Idl
namespace Go.Idl
open Go
def insE (e:Int×Int):List (Int×Int)→List (Int×Int)
  | []=>[e]
  | x::r=>if below x e then x::insE e r else e::x::r
theorem insE_at (e:Int×Int) (es:List (Int×Int)) (k:Nat) (hk:k≤es.length) (h:∀ x ∈ es.take k,below x e=true) (hs:∀ h:k < es.length,below es[k] e=false) :
    insE e es=es.take k++[e]++es.drop k:=by
  induction es generalizing k with
  | nil=>simp at hk;subst hk;rfl
  | cons x r ih =>
    cases k with
    | zero =>
      have:=hs (by simp)
      simp only [List.getElem_cons_zero] at this
      simp [insE,this]
    | succ k =>
      have h1:=h x (by simp)
      rw [insE,if_pos h1,ih k (by simpa using hk) (fun y hy=>h y (by simp [hy])) (fun hh=>hs (by simpa using hh))]
      simp
theorem insE_len (e:Int×Int) (es:List (Int×Int)):(insE e es).length=es.length+1:=by
  induction es with
  | nil=>rfl
  | cons x r ih=>rw [insE];split <;> simp [ih]
theorem insE_mem (e x:Int×Int) (es:List (Int×Int)):x ∈ insE e es ↔ x=e ∨ x ∈ es:=by
  induction es with
  | nil=>simp [insE]
  | cons y r ih =>
    rw [insE];split
    · rw [List.mem_cons,ih,List.mem_cons]
      constructor
      · rintro (h | h | h) <;> simp [h]
      · rintro (h | h | h) <;> simp [h]
    · simp
theorem ev_addEdge (n:Int) (es:List (Int×Int)) (c:Bool) (a b:Int) (hl:es.length≤1000000) :
    Ev tb zl335 [] [Gr n es c,I a,I b] [] ⟨OG n (insE (min a b,max a b) es),[],[],[]⟩:=by
  obtain ⟨e,he⟩:∃ e:Int×Int,e=(min a b,max a b):=⟨_,rfl⟩
  have he1:(if b < a then b else a)=e.1:=by rw [he];simp only;split <;> omega
  have he2:(if a < b then b else a)=e.2:=by rw [he];simp only;split <;> omega
  rw [← he]
  have loop:∀ (m k:Nat),k+m=es.length→(∀ x ∈ es.take k,below x e=true)→wp tb (.loop z335l5) { T:=[(3,.bptr 0 0 0),(6,.bptr 0 1 0),(7,.bptr 0 2 0),(8,I k)],loc:=[[I n,L2 es c],[I 0,Z],[I e.1,I e.2]],M:=[] }
      (fun ex st=>ex=.exit 0∧∃ k:Nat,(k≤es.length∧(∀ x ∈ es.take k,below x e=true)∧(∀ h:k < es.length,below es[k] e=false)) ∧
        st={ T:=[(3,.bptr 0 0 0),(6,.bptr 0 1 0),(7,.bptr 0 2 0),(8,I k),(30,Bo false)],loc:=[[I n,L2 es c],[I 0,Z],[I e.1,I e.2]],M:=[] }):=by
    intro m
    induction m with
    | zero =>
      intro k hk hb
      have h3:k=es.length:=hk
      subst h3
      refine wp_loop ?_
      repeat (first|refine wp_as ?_|refine wp_ss ?_|refine wr (by simp;with_reducible rfl) ?_|refine wq (by simp;with_reducible rfl) ?_|refine wt (by simpa) ?_|refine wf (by simpa) ?_|refine xt (by simpa) ?_|refine xf (by simpa) ?_|refine wp_bs ?_|refine wp_b ?_|refine wp_sr ?_|refine wp_sx ?_|refine wp_ret' ?_|refine wp_skip' ?_|refine wp_exit' ?_)
      exact ⟨rfl,es.length,⟨Nat.le_refl _,hb,fun h=>absurd h (by omega)⟩,rfl⟩
    | succ m ih =>
      intro k hk hb
      have hi2:k < es.length:=by omega
      have w2:IntKind.i64.wrap ((k:Int)+1)=((k+1:Nat):Int):=wrapS (by omega)
      have e1:=ev_lim (ev_edgeBelow es[k] e)
      cases hq:below es[k] e with
      | true =>
        refine wp_loop ?_
        repeat (first|refine wp_as ?_|refine wp_ss ?_|refine wr (by simp [hi2,e1,hq,w2];with_reducible rfl) ?_|refine wq (by simp [hi2,e1,hq,w2];with_reducible rfl) ?_|refine wt (by simpa [hi2,e1,hq,w2]) ?_|refine wf (by simpa [hi2,e1,hq,w2]) ?_|refine xt (by simpa [hi2,e1,hq,w2]) ?_|refine xf (by simpa [hi2,e1,hq,w2]) ?_|refine wp_bs ?_|refine wp_b ?_|refine wp_sr ?_|refine wp_sx ?_|refine wp_ret' ?_|refine wp_skip' ?_|refine wp_exit' ?_)
        refine ih (k+1) (by omega) fun x hx=>?_
        rw [List.take_succ_eq_append_getElem hi2] at hx
        rcases List.mem_append.1 hx with hx | hx
        · exact hb x hx
        · simp at hx;subst hx;exact hq
      | false =>
        refine wp_loop ?_
        repeat (first|refine wp_as ?_|refine wp_ss ?_|refine wr (by simp [hi2,e1,hq];with_reducible rfl) ?_|refine wq (by simp [hi2,e1,hq];with_reducible rfl) ?_|refine wt (by simpa [hi2,e1,hq]) ?_|refine wf (by simpa [hi2,e1,hq]) ?_|refine xt (by simpa [hi2,e1,hq]) ?_|refine xf (by simpa [hi2,e1,hq]) ?_|refine wp_bs ?_|refine wp_b ?_|refine wp_sr ?_|refine wp_sx ?_|refine wp_ret' ?_|refine wp_skip' ?_|refine wp_exit' ?_)
        exact ⟨rfl,k,⟨by omega,hb,fun _=>hq⟩,rfl⟩
  refine call_of_wp zt335 rfl ?_
  repeat (first|refine wp_as ?_|refine wp_ss ?_|refine wr (by simp [he1,he2];with_reducible rfl) ?_|refine wq (by simp [he1,he2];with_reducible rfl) ?_|refine wt (by simpa [he1,he2]) ?_|refine wf (by simpa [he1,he2]) ?_|refine xt (by simpa [he1,he2]) ?_|refine xf (by simpa [he1,he2]) ?_|refine wp_bs ?_|refine wp_b ?_|refine wp_sr ?_|refine wp_sx ?_|refine wp_ret' ?_|refine wp_skip' ?_|refine wp_exit' ?_)
  refine wp_imp (loop es.length 0 (by simp) (by simp)) ?_
  rintro ex st ⟨rfl,k,⟨hk,hb,hs⟩,rfl⟩
  rw [insE_at e es k hk hb hs]
  try simp only [if_true]
  have hT:es.take es.length=es:=List.take_of_length_le (Nat.le_refl _)
  have hT2:(es.drop k).take (es.length - k)=es.drop k:=List.take_of_length_le (by simp)
  have hT3:(es.take k).take k=es.take k:=by rw [List.take_take,Nat.min_self]
  have hl1:k≤274877906943:=by omega
  have hl2:k≤274877906944:=by omega
  have hl3:k+1≤274877906944:=by omega
  have hl4:k+1+(es.length - k)≤274877906944:=by omega
  have hT4:(es.take k++[(e.1,e.2)]).take (k+1)=es.take k++[(e.1,e.2)]:=List.take_of_length_le (by simp;omega)
  have hmin:min k es.length=k:=by omega
  repeat (first|refine wp_as ?_|refine wp_ss ?_|refine wr (by simp [hk,hT,hT2,hT3,hl1,hl2,hl3,hl4,hT4,hmin];with_reducible rfl) ?_|refine wq (by simp [hk,hT,hT2,hT3,hl1,hl2,hl3,hl4,hT4,hmin];with_reducible rfl) ?_|refine wt (by simpa [hk,hT,hT2,hT3,hl1,hl2,hl3,hl4,hT4,hmin]) ?_|refine wf (by simpa [hk,hT,hT2,hT3,hl1,hl2,hl3,hl4,hT4,hmin]) ?_|refine xt (by simpa [hk,hT,hT2,hT3,hl1,hl2,hl3,hl4,hT4,hmin]) ?_|refine xf (by simpa [hk,hT,hT2,hT3,hl1,hl2,hl3,hl4,hT4,hmin]) ?_|refine wp_bs ?_|refine wp_b ?_|refine wp_sr ?_|refine wp_sx ?_|refine wp_ret' ?_|refine wp_skip' ?_|refine wp_exit' ?_)
  refine wp_ra (by simp [hk,hT,hT2,hT3,hl1,hl2,hl3,hl4,hT4,hmin];with_reducible rfl) (by simp;with_reducible rfl) ?_ ?_
  · intro p hp
    simp only [List.mem_cons,List.not_mem_nil,or_false] at hp
    rcases hp with rfl | rfl | rfl | rfl | rfl | rfl | rfl | rfl | rfl | rfl | rfl
    · exact ⟨_,by simp [hk,hT,hT2,hT3,hl1,hl2,hl3,hl4,hT4,hmin];with_reducible rfl,by simp⟩
    · exact ⟨_,by simp [hk,hT,hT2,hT3,hl1,hl2,hl3,hl4,hT4,hmin];with_reducible rfl,by simp⟩
    · exact ⟨_,by simp [hk,hT,hT2,hT3,hl1,hl2,hl3,hl4,hT4,hmin];with_reducible rfl,by simp⟩
    · exact ⟨_,by simp [hk,hT,hT2,hT3,hl1,hl2,hl3,hl4,hT4,hmin];with_reducible rfl,by simp⟩
    · exact ⟨_,by simp [hk,hT,hT2,hT3,hl1,hl2,hl3,hl4,hT4,hmin];with_reducible rfl,by simp⟩
    · exact ⟨_,by simp [hk,hT,hT2,hT3,hl1,hl2,hl3,hl4,hT4,hmin];with_reducible rfl,by simp⟩
    · exact ⟨_,by simp [hk,hT,hT2,hT3,hl1,hl2,hl3,hl4,hT4,hmin];with_reducible rfl,by simp⟩
    · exact ⟨_,by simp [hk,hT,hT2,hT3,hl1,hl2,hl3,hl4,hT4,hmin];with_reducible rfl,by simp⟩
    · exact ⟨_,by simp [hk,hT,hT2,hT3,hl1,hl2,hl3,hl4,hT4,hmin];with_reducible rfl,by simp⟩
    · exact ⟨_,by simp [hk,hT,hT2,hT3,hl1,hl2,hl3,hl4,hT4,hmin];with_reducible rfl,by simp⟩
    · exact ⟨_,by simp [hk,hT,hT2,hT3,hl1,hl2,hl3,hl4,hT4,hmin];with_reducible rfl,by simp⟩
  repeat (first|refine wp_as ?_|refine wp_ss ?_|refine wr (by simp;with_reducible rfl) ?_|refine wq (by simp;with_reducible rfl) ?_|refine wt (by simpa) ?_|refine wf (by simpa) ?_|refine xt (by simpa) ?_|refine xf (by simpa) ?_|refine wp_bs ?_|refine wp_b ?_|refine wp_sr ?_|refine wp_sx ?_|refine wp_ret' ?_|refine wp_skip' ?_|refine wp_exit' ?_)
  simp [zi335]
end Go.Idl
namespace Go.Idl
open Go
def tab (t:List (List Int)):List (List IV):=t.map fun r=>[.lst 1 (ints r) false]
def oab (t:List (List Int)):List (List IV):=t.map fun r=>[.own 1 (ints r)]
abbrev TL (t:List (List Int)) (c:Bool:=false):IV:=.lst 1 (tab t) c
abbrev OT (t:List (List Int)):IV:=.own 1 (oab t)
@[simp] theorem tab_len (t:List (List Int)):(tab t).length=t.length:=by simp [tab]
@[simp] theorem oab_len (t:List (List Int)):(oab t).length=t.length:=by simp [oab]
@[simp] theorem oab_nil:oab []=[]:=rfl
@[simp] theorem tab_get? (t:List (List Int)) (i:Nat):(tab t)[i]? = t[i]?.map fun r=>[IV.lst 1 (ints r) false]:=by simp [tab]
@[simp] theorem tab_get (t:List (List Int)) (i:Nat) (h:i < (tab t).length):(tab t)[i]=[IV.lst 1 (ints (t[i]'(by simpa [tab] using h))) false]:=by simp [tab]
@[simp] theorem oab_get? (t:List (List Int)) (i:Nat):(oab t)[i]? = t[i]?.map fun r=>[IV.own 1 (ints r)]:=by simp [oab]
@[simp] theorem oab_get (t:List (List Int)) (i:Nat) (h:i < (oab t).length):(oab t)[i]=[IV.own 1 (ints (t[i]'(by simpa [oab] using h)))]:=by simp [oab]
@[simp] theorem oab_one (t:List (List Int)) (r:List Int):oab t++[[IV.own 1 (ints r)]]=oab (t++[r]):=by simp [oab]
@[simp] theorem oab_set (t:List (List Int)) (i:Nat) (r:List Int):(oab t).set i [IV.own 1 (ints r)]=oab (t.set i r):=by simp [oab,List.map_set]
@[simp] theorem oab_take (t:List (List Int)) (n:Nat):(oab t).take n=oab (t.take n):=by simp [oab,List.map_take]
@[simp] theorem frz_oab (t:List (List Int)):frzLL (oab t)=tab t:=by
  induction t with
  | nil=>rfl
  | cons x xs ih =>
    simp only [oab,tab,List.map_cons,frzLL,frzL,frzV] at *
    rw [ih]
    have:frzLL (ints x)=ints x:=by
      clear ih
      induction x with
      | nil=>rfl
      | cons y ys ih=>simp only [ints,List.map_cons,frzLL,frzL,frzV] at *;rw [ih]
    rw [this]
@[simp] theorem tab_all1 (t:List (List Int)):((tab t).all fun x=>x.all IV.plain1)=true:=by
  induction t with
  | nil=>rfl
  | cons x xs ih=>simp only [tab,List.map_cons,List.all_cons] at *;rw [ih];rfl
@[simp] theorem oab_noLst (t:List (List Int)):noLstLL (oab t)=true:=by
  induction t with
  | nil=>rfl
  | cons x xs ih =>
    simp only [oab,List.map_cons,noLstLL,noLstL,noLstV] at *
    rw [ih,ints_noLst];rfl
def g2 (t:List (List Int)) (a b:Nat):Int:=(t.getD a []).getD b 0
end Go.Idl
namespace Go.Idl
open Go
theorem ev_Index (xs:List Int) (c:Bool) (y:Int) (hl:xs.length≤1000000) :
    Ev tb zl74 [] [L xs c,I y] [] ⟨I (idx (fun x=>decide (y=x)) 0 xs),[],[],[]⟩:=by
  have loop:∀ (m i:Nat),i+m=xs.length→wp tb (.loop z74l7) { T:=[(0,L xs c),(1,I y),(7,I xs.length),(8,I i)],loc:=[],M:=[] }
      (fun ex st=>(ex=.exit 0∧idx (fun x=>decide (y=x)) i (xs.drop i)=-1∧st={ T:=[(0,L xs c),(1,I y),(7,I xs.length),(8,I xs.length),(9,Bo false)],loc:=[],M:=[] }) ∨
        ex=.ret∧st={ T:=[(4,I (idx (fun x=>decide (y=x)) i (xs.drop i)))],loc:=[],M:=[] }):=by
    intro m
    induction m with
    | zero =>
      intro i hi
      obtain ⟨h1,h2⟩:=drop_end hi
      have h3:i=xs.length:=hi
      subst h3
      refine wp_loop ?_
      repeat (first|refine wp_as ?_|refine wp_ss ?_|refine wr (by simp;with_reducible rfl) ?_|refine wq (by simp;with_reducible rfl) ?_|refine wt (by simpa) ?_|refine wf (by simpa) ?_|refine xt (by simpa) ?_|refine xf (by simpa) ?_|refine wp_bs ?_|refine wp_b ?_|refine wp_sr ?_|refine wp_sx ?_|refine wp_ret' ?_|refine wp_skip' ?_|refine wp_exit' ?_)
      exact .inl ⟨rfl,by rw [h2];rfl,rfl⟩
    | succ m ih =>
      intro i hi
      obtain ⟨hi2,h2,h3⟩:=drop_get hi
      have w2:IntKind.i64.wrap ((i:Int)+1)=((i+1:Nat):Int):=wrapS (by omega)
      rw [h2]
      by_cases he:y=xs[i]
      · refine wp_loop ?_
        repeat (first|refine wp_as ?_|refine wp_ss ?_|refine wr (by simp [hi2,he];with_reducible rfl) ?_|refine wq (by simp [hi2,he];with_reducible rfl) ?_|refine wt (by simpa [hi2,he]) ?_|refine wf (by simpa [hi2,he]) ?_|refine xt (by simpa [hi2,he]) ?_|refine xf (by simpa [hi2,he]) ?_|refine wp_bs ?_|refine wp_b ?_|refine wp_sr ?_|refine wp_sx ?_|refine wp_ret' ?_|refine wp_skip' ?_|refine wp_exit' ?_)
        exact .inr ⟨rfl,by simp [idx,he]⟩
      · refine wp_loop ?_
        repeat (first|refine wp_as ?_|refine wp_ss ?_|refine wr (by simp [hi2,he,w2];with_reducible rfl) ?_|refine wq (by simp [hi2,he,w2];with_reducible rfl) ?_|refine wt (by simpa [hi2,he,w2]) ?_|refine wf (by simpa [hi2,he,w2]) ?_|refine xt (by simpa [hi2,he,w2]) ?_|refine xf (by simpa [hi2,he,w2]) ?_|refine wp_bs ?_|refine wp_b ?_|refine wp_sr ?_|refine wp_sx ?_|refine wp_ret' ?_|refine wp_skip' ?_|refine wp_exit' ?_)
        have:=ih (i+1) (by omega)
        simp only [idx,he,decide_false,Bool.false_eq_true,if_false] at this ⊢
        exact this
  refine call_of_wp zt74 rfl ?_
  repeat (first|refine wp_as ?_|refine wp_ss ?_|refine wr (by simp;with_reducible rfl) ?_|refine wq (by simp;with_reducible rfl) ?_|refine wt (by simpa) ?_|refine wf (by simpa) ?_|refine xt (by simpa) ?_|refine xf (by simpa) ?_|refine wp_bs ?_|refine wp_b ?_|refine wp_sr ?_|refine wp_sx ?_|refine wp_ret' ?_|refine wp_skip' ?_|refine wp_exit' ?_)
  refine wp_imp (loop xs.length 0 (by omega)) ?_
  rintro ex st (⟨rfl,h,rfl⟩ | ⟨rfl,rfl⟩)
  · simp only [if_true]
    simp only [List.drop_zero] at h
    repeat (first|refine wp_as ?_|refine wp_ss ?_|refine wr (by simp;with_reducible rfl) ?_|refine wq (by simp;with_reducible rfl) ?_|refine wt (by simpa) ?_|refine wf (by simpa) ?_|refine xt (by simpa) ?_|refine xf (by simpa) ?_|refine wp_bs ?_|refine wp_b ?_|refine wp_sr ?_|refine wp_sx ?_|refine wp_ret' ?_|refine wp_skip' ?_|refine wp_exit' ?_)
    simp [zi74]
    exact h.symm
  · simp [zi74]
def asc0 (s:List Int):List Int:=(fall s).reverse
def overT (s:List Int) (i:Nat):Int:=((asc0 s).take (i+1)).sum - ((i:Int)+1) * i / 2
def over (s:List Int):List Int:=mapR s.length (overT s)
end Go.Idl
namespace Go.Idl
open Go
theorem sum01 (r:List Int) (h:∀ x ∈ r,0≤x∧x≤1):0≤r.sum∧r.sum≤r.length:=by
  induction r with
  | nil=>simp
  | cons x xs ih =>
    have h1:=h x (by simp)
    have h2:=ih fun y hy=>h y (by simp [hy])
    simp only [List.sum_cons,List.length_cons];omega
end Go.Idl
namespace Go.Idl
open Go
def fmx (P:Nat→Bool) (left:List Int):Nat→Int
  | 0=>-1
  | k+1=>if P k && (decide (fmx P left k < 0) || decide (left.getD (fmx P left k).toNat 0 < left.getD k 0)) then (k:Int) else fmx P left k
theorem fmx_cases (P:Nat→Bool) (left:List Int):∀ k,fmx P left k=-1 ∨ ∃ q:Nat,q < k∧fmx P left k=q∧P q=true
  | 0=>.inl rfl
  | k+1=>by
    rw [fmx]
    split
    · rename_i h
      simp only [Bool.and_eq_true] at h
      exact .inr ⟨k,by omega,rfl,h.1⟩
    · rcases fmx_cases P left k with h | ⟨q,h1,h2,h3⟩
      · exact .inl h
      · exact .inr ⟨q,by omega,h2,h3⟩
def layS (v:Int) (n:Nat) (done:List Int):Nat→List Int→List (Int×Int)→Option (List Int×List (Int×Int))
  | 0,left,es=>some (left,es)
  | k+1,left,es =>
    let b:=fmx (fun i=>!decide ((i:Int) ∈ done) && !has es v i) left n
    if b < 0 ∨ left.getD b.toNat 0 < 1 then none else layS v n done k (decAt left b.toNat) (insE (min v b,max v b) es)
def realS (n:Nat):Nat→List Int→List Int→List (Int×Int)→Option (List (Int×Int))
  | 0,_,_,es=>some es
  | m+1,left,done,es =>
    let v:=fmx (fun i=>!decide ((i:Int) ∈ done)) left n
    match layS v n (done++[v]) (left.getD v.toNat 0).toNat left es with
    | none=>none
    | some (left',es')=>realS n m left' (done++[v]) es'
end Go.Idl
namespace Go.Idl
open Go
def rI (N:Nat):List Int:=(List.range N).map fun v:Nat=>(v:Int)
theorem rI_len (N:Nat):(rI N).length=N:=by simp [rI]
theorem mem_rI {N:Nat} {x:Int}:x ∈ rI N ↔ 0≤x∧x < N:=by
  simp only [rI,List.mem_map,List.mem_range]
  exact ⟨fun ⟨v,h1,h2⟩=>by omega,fun h=>⟨x.toNat,by omega,by omega⟩⟩
end Go.Idl
namespace Go.Idl
open Go
theorem fmx_neg (P:Nat→Bool) (left:List Int):∀ k,fmx P left k=-1→∀ w,w < k→P w=false
  | 0,_,w,hw=>by omega
  | k+1,h,w,hw=>by
    rw [fmx] at h
    split at h
    · omega
    · rename_i h2
      have h1:=fmx_neg P left k h
      by_cases hwk:w=k
      · subst hwk
        cases hp:P w with
        | false=>rfl
        | true =>
          exfalso
          apply h2
          rw [hp,h]
          rfl
      · exact h1 w (by omega)
def realT (d:List Int):Option (List (Int×Int)):=realS d.length d.length d [] []
end Go.Idl
namespace Go.Idl
open Go
structure SmallG (n:Int) (es:List (Int×Int)):Prop where
  n1:-1≤n
  n2:n≤8
  len:es.length≤60
  el:∀ e ∈ es,-1≤e.1∧e.1≤8∧-1≤e.2∧e.2≤8
theorem SmallG.fit {n es} (h:SmallG n es):Fit es:=fun e he=>by have:=h.el e he;omega
end Go.Idl
namespace Go.Idl
open Go
theorem degs_len (n:Nat) (es:List (Int×Int)):(degs n es).length=n:=by rw [degs,dfold_len];simp
end Go.Idl
namespace Go.Idl
open Go
abbrev RealLaw (d:List Int):Prop:=realT d=(realD d).map srtE∧∀ es,realD d=some es→vGraph d.length (srtE es)=true∧degs d.length (srtE es)=d
end Go.Idl
namespace Go.Idl
open Go
def gls (n:Int) (gl:List (List (Int×Int))):List (List IV):=gl.map fun es=>[I n,O2 es]
@[simp] theorem gls_len (n:Int) (gl):(gls n gl).length=gl.length:=by simp [gls]
@[simp] theorem gls_one (n:Int) (gl) (es:List (Int×Int)):gls n gl++[[IV.sc (.int .i64 n),.own 2 (eds es)]]=gls n (gl++[es]):=by simp [gls]
@[simp] theorem gls_emp (n:Int) (gl):(gls n gl).isEmpty=gl.isEmpty:=by cases gl <;> rfl
@[simp] theorem gls_take (n:Int) (gl) (k:Nat):(gls n gl).take k=gls n (gl.take k):=by simp [gls,List.map_take]
@[simp] theorem gls_all (n:Int) (gl):((gls n gl).all fun x=>x.all IV.isData)=true:=by
  induction gl with
  | nil=>rfl
  | cons x xs ih=>simp only [gls,List.map_cons,List.all_cons] at *;rw [ih];rfl
@[simp] theorem gls_noLst (n:Int) (gl):noLstLL (gls n gl)=true:=by
  induction gl with
  | nil=>rfl
  | cons x xs ih=>simp only [gls,List.map_cons,noLstLL,noLstL,noLstV,eds_noLst] at *;rw [ih];rfl
end Go.Idl
namespace Go.Idl
open Go
abbrev GraphicLaw (d:List Int):Prop:=(realD d).isSome=graphic d∧graphic (comp d)=graphic d∧∀ es,realD d=some es→vGraph d.length (srtE es)=true∧degs d.length (srtE es)=d
end Go.Idl
namespace Go.Idl
def insP (x:Nat×Nat):List (Nat×Nat)→List (Nat×Nat)
  | []=>[x]
  | y::r=>if Nat.ble y.1 x.1 then x::y::r else y::insP x r
def hh:Nat→List (Nat×Nat)→List (Nat×Nat)
  | 0,_=>[]
  | _+1,[]=>[]
  | m+1,x::r=>(r.take x.1).map (fun y:Nat×Nat=>(x.2,y.2))++hh m ((((r.take x.1).map (fun y:Nat×Nat=>(y.1 - 1,y.2))++r.drop x.1:List (Nat×Nat))).foldr insP [])
def inH (h:List (Nat×Nat)) (e:Int×Int):Bool:=h.any fun x=>(Nat.beq x.1 e.1.toNat && Nat.beq x.2 e.2.toNat) || (Nat.beq x.2 e.1.toNat && Nat.beq x.1 e.2.toNat)
def hhG (s:List Int):List (Int×Int):=(prs s.length).filter (inH (hh 8 (s.zipIdx.map fun x=>(x.1.toNat,x.2))))
def chkR (s:List Int):Bool:=!(decide (s.sum % 2=0) && noneNeg (slS s)) || decide (degs s.length (hhG s)=s)
set_option maxRecDepth 100000 in
theorem chkR_all:(List.range 8).all (fun n=>allD chkR n (n - 1) [])=true:=by kernel_rfl
theorem decAt_get {o:List Int} {i v:Nat} (hv:v < o.length):(decAt o i).getD v 0=o.getD v 0 - (if i=v then 1 else 0):=by
  rw [decAt,List.getD_eq_getElem?_getD,List.getElem?_set]
  by_cases h:i=v
  · subst h;simp [hv,List.getD_eq_getElem?_getD]
  · simp [h,List.getD_eq_getElem?_getD]
theorem ite_iff {α:Type} {p q:Prop} [Decidable p] [Decidable q] (h:p ↔ q) (a b:α):(if p then a else b)=if q then a else b:=by
  by_cases hp:p
  · rw [if_pos hp,if_pos (h.1 hp)]
  · rw [if_neg hp,if_neg fun hq=>hp (h.2 hq)]
def mk (u v:Nat):Int×Int:=(min (u:Int) v,max (u:Int) v)
theorem inc_mk_all:(List.range 8).all (fun n=>(prs n).all fun e=>(List.range n).all fun v=>decide (inc v e=S (List.range n) (fun u=>if u=v then 0 else if e=mk u v then 1 else 0)))=true:=by decide +kernel
theorem inc_mk {n:Nat} (hn:n≤7) {e:Int×Int} (he:e ∈ prs n) {v:Nat} (hv:v < n):inc v e=S (List.range n) (fun u=>if u=v then 0 else if e=mk u v then 1 else 0):=by
  have:=List.all_eq_true.1 (List.all_eq_true.1 (List.all_eq_true.1 inc_mk_all n (List.mem_range.2 (by omega))) e he) v (List.mem_range.2 hv)
  exact of_decide_eq_true this
theorem S_ite {α:Type} (l:List α) (p:α→Bool) (f:α→Int):S (l.filter p) f=S l (fun a=>if p a then f a else 0):=by
  induction l with
  | nil=>rfl
  | cons a l ih =>
    rw [List.filter_cons,S_cons]
    split <;> rename_i h
    · rw [S_cons,ih]
    · rw [ih];omega
theorem mk_mem {n u v:Nat} (hu:u < n) (hv:v < n) (h:u ≠ v):mk u v ∈ prs n:=mem_prs.2 (by simp only [mk];omega)
theorem deg_filter {n:Nat} (hn:n≤7) (p:Int×Int→Bool) {v:Nat} (hv:v < n):deg ((prs n).filter p) v=S (List.range n) (fun u=>if u=v then 0 else if p (mk u v) then 1 else 0):=by
  rw [deg,S_ite,S_congr (g:=fun e=>S (List.range n) (fun u=>if u=v then 0 else if e=mk u v then (if p (mk u v) then 1 else 0) else 0)) fun e he=>?_,S_swap]
  · refine S_congr fun u hu=>?_
    have hu:=List.mem_range.1 hu
    by_cases huv:u=v
    · simp only [huv,if_true];exact S_zero _
    · simp only [if_neg huv]
      have hm:=mk_mem hu hv huv
      have h1:=S_one (pw_nodup (prs_pw n)) (mk u v)
      rw [if_pos hm] at h1
      by_cases hp:p (mk u v)=true
      · simp only [hp,if_true]
        exact Eq.trans (S_congr fun e _=>ite_iff eq_comm _ _) h1
      · simp only [if_neg hp,ite_self];exact S_zero _
  · rw [inc_mk hn he hv]
    by_cases hp:p e=true
    · rw [if_pos hp]
      refine S_congr fun u _=>?_
      by_cases huv:u=v
      · simp [huv]
      · simp only [if_neg huv]
        by_cases hem:e=mk u v
        · rw [if_pos hem,if_pos hem,← hem,if_pos hp]
        · rw [if_neg hem,if_neg hem]
    · rw [if_neg hp]
      symm
      rw [S_congr (g:=fun _=>0),S_zero]
      intro u _
      by_cases huv:u=v
      · simp [huv]
      · simp only [if_neg huv]
        by_cases hem:e=mk u v
        · rw [if_pos hem,← hem,if_neg hp]
        · rw [if_neg hem]
theorem mk_comm (u v:Nat):mk u v=mk v u:=Prod.ext (by simp only [mk];omega) (by simp only [mk];omega)
theorem degs_filter {n:Nat} (p:Int×Int→Bool):degs n ((prs n).filter p)=(List.range n).map (deg ((prs n).filter p)) :=
  degs_eq fun e he=>by have:=mem_prs.1 (List.mem_filter.1 he).1;omega
theorem graphic_real {d:List Int} (hg:graphic d=true):∃ p,degs d.length ((prs d.length).filter p)=d:=by
  have hv:valid d=true:=by simp only [graphic,Bool.and_eq_true] at hg;exact hg.1.1
  have h1:=(valid_few hv).1
  have h2:=valid_mem hv
  have hc:=List.all_eq_true.1 chkR_all d.length (List.mem_range.2 (by omega))
  have h3:=allD_ok chkR d.length (d.length - 1) [] (fall d) hc (fall_len d) (fall_desc d) (fun x hx=>by
    have:=h2 x (fall_mem.1 hx)
    omega)
  obtain ⟨n,hn⟩:∃ n,n=d.length:=⟨_,rfl⟩
  simp only [graphic,hv,Bool.true_and,Bool.and_eq_true,decide_eq_true_eq] at hg
  have hg2:noneNeg (slS (fall d))=true:=by rw [← slacks_S];exact hg.2
  simp only [List.reverse_nil,List.nil_append,chkR,fall_sum,hg.1,hg2,decide_true,Bool.and_self,Bool.not_true,Bool.false_or,decide_eq_true_eq,fall_len,hhG] at h3
  generalize inH (hh 8 ((fall d).zipIdx.map fun x=>(x.1.toNat,x.2)))=p0 at h3
  have hd:d=(List.range n).map fun v=>d.getD v 0:=by
    refine List.ext_getElem (by simp [hn]) fun i k1 k2=>?_
    simp [List.getD_eq_getElem?_getD,List.getElem?_eq_getElem k1]
  obtain ⟨π,hπ,hfp⟩:=perm_map_inv (f:=fun v=>d.getD v 0) (fall_perm d) hd
  have hπn:π.Nodup:=hπ.nodup_iff.2 List.nodup_range
  have hπl:π.length=n:=by rw [hπ.length_eq,List.length_range]
  have hσ:∀ v,v < n→π.idxOf v < n∧π[π.idxOf v]? = some v:=fun v hv=>by
    have hm:v ∈ π:=hπ.mem_iff.2 (List.mem_range.2 hv)
    have:=List.idxOf_lt_length_of_mem hm
    exact ⟨by omega,by rw [List.getElem?_eq_getElem this,List.getElem_idxOf]⟩
  have hinj:∀ u v,u < n→v < n→(π.idxOf u=π.idxOf v ↔ u=v):=fun u v hu hv=>by
    constructor
    · intro h
      have h4:=(hσ u hu).2
      rw [h,(hσ v hv).2] at h4
      simpa using h4.symm
    · rintro rfl;rfl
  have hmap:π.map (π.idxOf ·)=List.range n:=by
    refine List.ext_getElem (by simp [hπl]) fun i k1 k2=>?_
    rw [List.getElem_map,List.getElem_range]
    exact hπn.idxOf_getElem i (by simpa using k1)
  refine ⟨fun e=>p0 (mk (π.idxOf e.1.toNat) (π.idxOf e.2.toNat)),?_⟩
  rw [← hn]
  rw [degs_filter]
  conv=>rhs;rw [hd]
  refine List.map_congr_left fun v hv=>?_
  have hv:=List.mem_range.1 hv
  rw [← hn] at h3
  rw [deg_filter (by omega) _ hv]
  have hp:∀ u,p0 (mk (π.idxOf (mk u v).1.toNat) (π.idxOf (mk u v).2.toNat))=p0 (mk (π.idxOf u) (π.idxOf v)):=fun u=>by
    rcases Nat.le_total u v with h | h
    · rw [show (mk u v).1.toNat=u by simp only [mk];omega,show (mk u v).2.toNat=v by simp only [mk];omega]
    · rw [show (mk u v).1.toNat=v by simp only [mk];omega,show (mk u v).2.toNat=u by simp only [mk];omega,mk_comm]
  have e1:S (List.range n) (fun u=>if u=v then 0 else if p0 (mk (π.idxOf (mk u v).1.toNat) (π.idxOf (mk u v).2.toNat))=true then (1:Int) else 0) =
      S (List.range n) (fun u=>(fun i=>if i=π.idxOf v then 0 else if p0 (mk i (π.idxOf v))=true then (1:Int) else 0) (π.idxOf u)):=by
    refine S_congr fun u hu=>?_
    rw [hp u]
    exact ite_iff (hinj u v (List.mem_range.1 hu) hv).symm _ _
  rw [e1,← S_perm hπ]
  have e2:=S_map π (π.idxOf ·) (fun i=>if i=π.idxOf v then 0 else if p0 (mk i (π.idxOf v))=true then (1:Int) else 0)
  rw [hmap] at e2
  refine e2.symm.trans ?_
  rw [← deg_filter (by omega) p0 (hσ v hv).1]
  have h5:(degs n ((prs n).filter p0))[π.idxOf v]? = some (deg ((prs n).filter p0) (π.idxOf v)):=by
    rw [degs_filter,List.getElem?_map,List.getElem?_range (hσ v hv).1];rfl
  rw [h3,hfp,List.getElem?_map,(hσ v hv).2] at h5
  simpa using h5.symm
theorem real_ex {d:List Int} (hg:graphic d=true):∃ es,vGraph d.length es=true∧degs d.length es=d:=by
  obtain ⟨p,hp⟩:=graphic_real hg
  have hv:valid d=true:=by simp only [graphic,Bool.and_eq_true] at hg;exact hg.1.1
  exact ⟨_,filter_vG (valid_few hv).1 p,hp⟩
theorem graphic_iff_real {d:List Int} (h7:d.length≤7):graphic d=true ↔ ∃ es,vGraph d.length es=true∧degs d.length es=d:=by
  refine ⟨real_ex,?_⟩
  rintro ⟨es,h1,h2⟩
  have:=degs_graphic h1
  rwa [h2] at this
end Go.Idl
namespace Go.Idl
def lexR (left:List Int) (a b:Int):Prop:=left.getD b.toNat 0 < left.getD a.toNat 0 ∨ (left.getD a.toNat 0=left.getD b.toNat 0∧a < b)
theorem lexR_trans {left:List Int} {a b c:Int} (h:lexR left a b) (k:lexR left b c):lexR left a c:=by
  simp only [lexR] at *;omega
theorem lexR_irr {left:List Int} {a:Int} (h:lexR left a a):False:=by
  simp only [lexR] at h;omega
theorem insC_lex {left:List Int} {x:Int}:∀ (r B:List Int),(r.reverse++B).Pairwise (lexR left)→(∀ y ∈ r,y < x)→(∀ b ∈ B,left.getD b.toNat 0 < left.getD x.toNat 0)→(insC (gtD left) x r B).Pairwise (lexR left)
  | [],B,h,_,hb=>List.pairwise_cons.2 ⟨fun b hb'=>.inl (hb b hb'),by simpa using h⟩
  | a::r,B,h,hr,hb=>by
    rw [List.reverse_cons,List.append_assoc] at h
    unfold insC
    split
    · rename_i hx
      refine insC_lex r (a::B) h (fun y hy=>hr y (by simp [hy])) fun b hb'=>?_
      rcases List.mem_cons.1 hb' with rfl | hb'
      · simpa [gtD] using hx
      · exact hb b hb'
    · rename_i hx
      have hx:left.getD x.toNat 0≤left.getD a.toNat 0:=by
        simp only [gtD,decide_eq_true_eq] at hx;omega
      have hax:lexR left a x:=by
        have:=hr a (by simp)
        simp only [lexR];omega
      obtain ⟨h1,h2,h3⟩:=List.pairwise_append.1 (show (r.reverse++a::B).Pairwise (lexR left) from h)
      have h2:=List.pairwise_cons.1 h2
      refine List.pairwise_append.2 ⟨h1,?_,fun p hp q hq=>?_⟩
      · refine List.pairwise_cons.2 ⟨fun q hq=>?_,List.pairwise_cons.2 ⟨fun b hb'=>.inl (hb b hb'),h2.2⟩⟩
        rcases List.mem_cons.1 hq with rfl | hq
        · exact hax
        · exact h2.1 q hq
      · have h4:=h3 p hp a (by simp)
        rcases List.mem_cons.1 hq with rfl | hq
        · exact h4
        · rcases List.mem_cons.1 hq with rfl | hq
          · exact lexR_trans h4 hax
          · exact h3 p hp q (by simp [hq])
theorem srtC_lex {left:List Int}:∀ (T S:List Int),S.Pairwise (lexR left)→(∀ y ∈ S,∀ x ∈ T,y < x)→T.Pairwise (fun a b:Int=>a < b)→(srtC (gtD left) S T).Pairwise (lexR left)
  | [],S,h,_,_=>h
  | x::r,S,h,hs,ht=>by
    have ht':=List.pairwise_cons.1 ht
    rw [srtC]
    refine srtC_lex r _ (insC_lex _ _ (by simpa using h) (fun y hy=>hs y (by simpa using hy) x (by simp)) (by simp)) (fun y hy z hz=>?_) ht'.2
    have:=(insC_perm (gtD left) x S.reverse []).mem_iff.1 hy
    simp only [List.reverse_reverse,List.mem_append,List.mem_cons,List.not_mem_nil,or_false] at this
    rcases this with h1 | rfl
    · exact hs y h1 z (by simp [hz])
    · exact ht'.1 z hz
theorem fmx_best (P:Nat→Bool) (left:List Int):∀ (k q:Nat),fmx P left k=(q:Int)→∀ i,i < k→P i=true→i=q ∨ lexR left q i
  | 0,q,h,i,hi,_=>by omega
  | k+1,q,h,i,hi,hp=>by
    rw [fmx] at h
    split at h
    · rename_i hc
      have hkq:k=q:=by omega
      subst hkq
      by_cases hik:i=k
      · exact .inl hik
      · right
        simp only [Bool.and_eq_true,Bool.or_eq_true,decide_eq_true_eq] at hc
        rcases hc.2 with hc2 | hc2
        · rcases fmx_cases P left k with h1 | ⟨q1,_,h1,_⟩
          · have:=fmx_neg P left k h1 i (by omega)
            rw [hp] at this;cases this
          · rw [h1] at hc2;omega
        · rcases fmx_cases P left k with h1 | ⟨q1,_,h1,_⟩
          · have:=fmx_neg P left k h1 i (by omega)
            rw [hp] at this;cases this
          · rw [h1,Int.toNat_natCast] at hc2
            rcases fmx_best P left k q1 h1 i (by omega) hp with rfl | h2
            · left;simpa using hc2
            · simp only [lexR,Int.toNat_natCast] at h2 ⊢
              omega
    · rename_i hc
      by_cases hik:i=k
      · subst hik
        right
        simp only [hp,Bool.true_and,Bool.or_eq_true,decide_eq_true_eq,not_or] at hc
        rw [h,Int.toNat_natCast] at hc
        have hqi:q < i:=by
          rcases fmx_cases P left i with h1 | ⟨q1,h2,h1,_⟩
          · rw [h1] at h;omega
          · rw [h1] at h;omega
        simp only [lexR,Int.toNat_natCast]
        omega
      · exact fmx_best P left k q h i (by omega) hp
theorem fmx_head {P:Nat→Bool} {left:List Int} {n:Nat} {i:Int} {r:List Int} (hpw:(i::r).Pairwise (lexR left)) (hin:∀ x ∈ i::r,0≤x∧x < n) (hP:∀ w:Nat,w < n→(P w=true ↔ (w:Int) ∈ i::r)):fmx P left n=i:=by
  have hi:=hin i (by simp)
  obtain ⟨p,rfl⟩:=Int.eq_ofNat_of_zero_le hi.1
  have hp:P p=true:=(hP p (by omega)).2 (by simp)
  rcases fmx_cases P left n with h | ⟨q,hq,h,hPq⟩
  · have:=fmx_neg P left n h p (by omega)
    rw [hp] at this;cases this
  · rw [h]
    have hm:=(hP q hq).1 hPq
    rcases List.mem_cons.1 hm with h1 | h1
    · exact h1
    · have h2:=(List.pairwise_cons.1 hpw).1 _ h1
      rcases fmx_best P left n q h p (by omega) hp with h3 | h3
      · rw [h3]
      · exact absurd (lexR_trans h2 h3) lexR_irr
theorem fmx_none {P:Nat→Bool} {left:List Int} {n:Nat} (hP:∀ w:Nat,w < n→P w=false):fmx P left n=-1:=by
  rcases fmx_cases P left n with h | ⟨q,hq,h,hPq⟩
  · exact h
  · rw [hP q hq] at hPq;cases hPq
theorem insE_pw {e:Int×Int}:∀ {es:List (Int×Int)},PW es→e ∉ es→PW (insE e es)
  | [],_,_=>by simp [insE,PW]
  | x::r,h,hn=>by
    have h':=List.pairwise_cons.1 h
    rw [insE]
    split
    · rename_i hx
      refine List.pairwise_cons.2 ⟨fun y hy=>?_,insE_pw h'.2 fun hm=>hn (by simp [hm])⟩
      rcases (insE_mem _ _ _).1 hy with rfl | hy
      · exact hx
      · exact h'.1 y hy
    · rename_i hx
      have hxe:below e x=true:=by
        rcases below_total (a:=e) (b:=x) (fun h=>hn (by simp [h])) with q | q
        · exact q
        · exact absurd q hx
      refine List.pairwise_cons.2 ⟨fun y hy=>?_,h⟩
      rcases List.mem_cons.1 hy with rfl | hy
      · exact hxe
      · exact below_trans hxe (h'.1 y hy)
theorem srtE_snoc {e:Int×Int} {es:List (Int×Int)} (hn:es.Nodup) (he:e ∉ es):insE e (srtE es)=srtE (es++[e]):=by
  have hn2:(es++[e]).Nodup:=List.nodup_append.2 ⟨hn,by simp,fun a ha b hb=>by simp at hb;subst hb;exact fun h=>he (h ▸ ha)⟩
  refine pw_ext (insE_pw (srtE_pw hn) fun h=>he ((srtE_perm es).mem_iff.1 h)) (srtE_pw hn2) fun x=>?_
  rw [insE_mem,(srtE_perm es).mem_iff,(srtE_perm _).mem_iff]
  simp [or_comm]
end Go.Idl
namespace Go.Idl
theorem has_srtE (es:List (Int×Int)) (a b:Int):has (srtE es) a b=has es a b:=by
  rw [has,has];exact (srtE_perm es).any_eq
theorem isE_mm {v i a b:Int}:isE a b (min v i,max v i)=true ↔ (a=v∧b=i) ∨ (a=i∧b=v):=by
  simp only [isE,Bool.or_eq_true,Bool.and_eq_true,decide_eq_true_eq]
  omega
theorem has_app (es fs:List (Int×Int)) (a b:Int):has (es++fs) a b=(has es a b || has fs a b):=by simp [has]
theorem has_mm {es:List (Int×Int)} {v i:Int} (h:has es v i=false):(min v i,max v i) ∉ es:=fun hm=>by
  rw [has,List.any_eq_false] at h
  exact h _ hm (isE_mm.2 (.inl ⟨rfl,rfl⟩))
theorem decAt_get' {o:List Int} {i x:Int} (hi:0≤i) (hx:0≤x) (hl:x < o.length):(decAt o i.toNat).getD x.toNat 0=o.getD x.toNat 0 - (if x=i then 1 else 0):=by
  rw [decAt_get (by omega)]
  by_cases h:x=i
  · subst h;simp
  · rw [if_neg h,if_neg (by omega)]
theorem iteQ {p q:Prop} [Decidable p] [Decidable q] (h:p ↔ q):(if p then (1:Int) else 0)=if q then 1 else 0:=by
  by_cases hp:p
  · rw [if_pos hp,if_pos (h.1 hp)]
  · rw [if_neg hp,if_neg fun k=>hp (h.2 k)]
theorem lay_eq {v:Int} {n:Nat} {done:List Int} (hv:0≤v∧v < n):∀ (k:Nat) (rest left:List Int) (es:List (Int×Int)),left.length=n→rest.Pairwise (lexR left)→(∀ x ∈ rest,0≤x∧x < n)→(∀ x ∈ left,0≤x)→es.Nodup →
    (∀ w:Nat,w < n→(((w:Int) ∉ done∧has es v w=false) ↔ (w:Int) ∈ rest)) →
    layS v n done k left (srtE es)=if k≤rest.length then (layI v (rest.take k) left es).map (fun q=>(q.1,srtE q.2)) else none
  | 0,rest,left,es,_,_,_,_,_,_=>by simp [layS,layI]
  | k+1,[],left,es,_,_,_,_,_,hc=>by
    rw [layS]
    have:fmx (fun i=>!decide ((i:Int) ∈ done) && !has (srtE es) v i) left n=-1:=fmx_none fun w hw=>by
      have:¬ ((w:Int) ∉ done∧has es v w=false):=fun h=>by have:=(hc w hw).1 h;cases this
      rw [has_srtE]
      cases h1:has es v w <;> simp [h1] at this ⊢
      exact this
    simp [this]
  | k+1,i::r,left,es,hl,hp,hr,hb,hn,hc=>by
    rw [layS]
    have hi:=hr i (by simp)
    have hm:fmx (fun i=>!decide ((i:Int) ∈ done) && !has (srtE es) v i) left n=i:=fmx_head hp hr fun w hw=>by
      rw [has_srtE,← hc w hw]
      simp
    simp only [hm]
    have hi0:¬ i < 0:=by omega
    have hil:i.toNat < left.length:=by omega
    have g:left.getD i.toNat 0=left[i.toNat]:=by simp [List.getD_eq_getElem?_getD,List.getElem?_eq_getElem hil]
    have g0:0≤left.getD i.toNat 0:=by rw [g];exact hb _ (List.getElem_mem _)
    rw [List.length_cons,List.take_succ_cons,layI]
    by_cases hz:left.getD i.toNat 0=0
    · rw [if_pos (.inr (by omega)),if_pos hz];simp
    · rw [if_neg (by omega),if_neg hz]
      have hhas:has es v i=false:=by
        have:=(hc i.toNat (by omega)).2 (by rw [Int.toNat_of_nonneg hi.1];simp)
        rw [Int.toNat_of_nonneg hi.1] at this
        exact this.2
      have hne:=has_mm hhas
      rw [srtE_snoc hn hne]
      have hp':=List.pairwise_cons.1 hp
      have hri:∀ x ∈ r,x ≠ i:=fun x hx h=>by have:=hp'.1 x hx;rw [h] at this;exact lexR_irr this
      have ih:=lay_eq hv k r (decAt left i.toNat) (es++[(min v i,max v i)]) (by simp [decAt,hl]) ?_ (fun x hx=>hr x (by simp [hx])) ?_ ?_ ?_ (done:=done)
      · rw [ih]
        simp only [Nat.succ_le_succ_iff,Nat.add_le_add_iff_right]
      · refine hp'.2.imp_of_mem fun {a b} ha hb' hab=>?_
        have h1:=hr a (by simp [ha])
        have h2:=hr b (by simp [hb'])
        rw [lexR,decAt_get' hi.1 h1.1 (by omega),decAt_get' hi.1 h2.1 (by omega),if_neg (hri a ha),if_neg (hri b hb')]
        simpa [lexR] using hab
      · intro x hx
        rcases List.mem_or_eq_of_mem_set hx with hx | rfl
        · exact hb x hx
        · omega
      · exact List.nodup_append.2 ⟨hn,by simp,fun a ha b hb=>by simp at hb;subst hb;exact fun h=>hne (h ▸ ha)⟩
      · intro w hw
        have h1:=hc w hw
        have h2:has [(min v i,max v i)] v w=true ↔ (w:Int)=i:=by
          rw [has,List.any_cons,List.any_nil,Bool.or_false,isE_mm];omega
        rw [has_app]
        have h3:(w:Int) ∈ r ↔ (w:Int) ∈ i::r∧(w:Int) ≠ i:=by
          constructor
          · exact fun h=>⟨by simp [h],hri _ h⟩
          · rintro ⟨h,h'⟩
            rcases List.mem_cons.1 h with h | h
            · exact absurd h h'
            · exact h
        rw [h3,← h1]
        cases h4:has [(min v i,max v i)] v w
        · have:¬ (w:Int)=i:=fun h=>by rw [h2.2 h] at h4;cases h4
          simp [this]
        · simp [h2.1 h4]
termination_by k=>k
theorem real_eq (n:Nat):∀ (m:Nat) (left todo done:List Int) (es:List (Int×Int)),left.length=n→(∀ x ∈ left,0≤x∧x≤1000)→todo.length=m→todo.Pairwise (fun a b:Int=>a < b)→(∀ x ∈ todo,0≤x∧x < n) →
    (∀ w:Nat,w < n→((w:Int) ∉ done ↔ (w:Int) ∈ todo))→es.Nodup→(∀ a ∈ todo,∀ b ∈ todo,has es a b=false) →
    realS n m left done (srtE es)=(realI m left todo es).map srtE
  | 0,left,todo,done,es,_,_,_,_,_,_,_,_=>rfl
  | m+1,left,todo,done,es,hl,hb,htl,htp,htb,hd,hn,hh=>by
    rw [realS,realI]
    have hperm:=srtC_perm (gtD left) todo []
    cases hs:srtC (gtD left) [] todo with
    | nil=>rw [hs] at hperm;have:=hperm.length_eq;simp at this;omega
    | cons v r =>
      rw [hs,List.nil_append] at hperm
      have hlex:=srtC_lex (left:=left) todo [] .nil (by simp) htp
      rw [hs] at hlex
      have hv:v ∈ todo:=hperm.mem_iff.1 (by simp)
      have hvb:=htb v hv
      have hmx:fmx (fun i=>!decide ((i:Int) ∈ done)) left n=v:=fmx_head hlex (fun x hx=>htb x (hperm.mem_iff.1 hx)) fun w hw=>by
        rw [hperm.mem_iff,← hd w hw];simp
      simp only [hmx]
      obtain ⟨t2,ht2⟩:∃ t2,t2=todo.filter fun x=>!decide (x=v):=⟨_,rfl⟩
      rw [← ht2]
      have hm2:∀ x,x ∈ t2 ↔ x ∈ todo∧x ≠ v:=fun x=>by rw [ht2,List.mem_filter];simp
      have ht2p:t2.Pairwise (fun a b:Int=>a < b):=by rw [ht2];exact htp.filter _
      have ht2l:t2.length=m:=by
        have h1:=filter_len' (fun x=>decide (x=v)) todo
        have h2:(todo.filter fun x=>decide (x=v)).length=1:=by
          have hnd:todo.Nodup:=htp.imp fun h=>by omega
          have:=List.nodup_iff_count.1 hnd v
          have h3:=List.count_pos_iff.2 hv
          rw [← List.countP_eq_length_filter]
          have h4:todo.countP (fun x=>decide (x=v))=todo.count v:=by
            rw [List.count];exact List.countP_congr fun x _=>by simp
          omega
        rw [← ht2] at h1
        omega
      have hgv:left.getD v.toNat 0=left[v.toNat]'(by omega):=by simp [List.getD_eq_getElem?_getD,List.getElem?_eq_getElem (show v.toNat < left.length by omega)]
      have hk0:0≤left.getD v.toNat 0:=by rw [hgv];exact (hb _ (List.getElem_mem _)).1
      obtain ⟨k,hk⟩:=Int.eq_ofNat_of_zero_le hk0
      have hp2:=srtC_perm (gtD left) t2 []
      rw [List.nil_append] at hp2
      rw [hk,Int.toNat_natCast]
      have hlay:=lay_eq (done:=done++[v]) hvb k (srtC (gtD left) [] t2) left es hl (srtC_lex _ _ .nil (by simp) ht2p) (fun x hx=>htb x ((hm2 x).1 (hp2.mem_iff.1 hx)).1) (fun x hx=>(hb x hx).1) hn (fun w hw=>by
        rw [hp2.mem_iff,hm2,← hd w hw]
        constructor
        · rintro ⟨h1,_⟩
          simp only [List.mem_append,List.mem_singleton,not_or] at h1
          exact h1
        · rintro ⟨h1,h2⟩
          exact ⟨by simp [h1,h2],hh v hv _ ((hd w hw).1 h1)⟩)
      rw [hlay,hp2.length_eq,ht2l]
      by_cases hkm:k≤m
      · rw [if_pos hkm,if_neg (by omega),topD]
        cases hli:layI v ((srtC (gtD left) [] t2).take k) left es with
        | none=>rfl
        | some q =>
          obtain ⟨left',es'⟩:=q
          obtain ⟨k1,k2,k3⟩:=layI_inv v _ _ _ _ _ hli hb
          have htm:∀ x ∈ (srtC (gtD left) [] t2).take k,x ∈ t2:=fun x hx=>hp2.mem_iff.1 (List.mem_of_mem_take hx)
          have htn:((srtC (gtD left) [] t2).take k).Nodup:=(hp2.nodup_iff.2 (ht2p.imp fun h=>by omega)).sublist (List.take_sublist _ _)
          refine real_eq n m left' t2 (done++[v]) es' (by omega) k2 ht2l ht2p (fun x hx=>htb x ((hm2 x).1 hx).1) (fun w hw=>?_) ?_ ?_
          · rw [hm2,← hd w hw];simp
          · rw [k3]
            refine List.nodup_append.2 ⟨hn,?_,?_⟩
            · rw [List.Nodup,List.pairwise_map]
              refine List.Pairwise.imp_of_mem (fun {i j} hi hj hij he=>?_) htn
              have h1:=((hm2 i).1 (htm i hi)).2
              have h2:=((hm2 j).1 (htm j hj)).2
              simp only [Prod.mk.injEq] at he
              omega
            · intro a ha b hb' hab
              subst hab
              obtain ⟨i,hi,rfl⟩:=List.mem_map.1 hb'
              exact has_mm (hh v hv i ((hm2 i).1 (htm i hi)).1) ha
          · intro a ha b hb'
            have h1:=(hm2 a).1 ha
            have h2:=(hm2 b).1 hb'
            rw [k3,has_app,hh a h1.1 b h2.1,Bool.false_or,has,List.any_eq_false]
            intro e he
            obtain ⟨i,hi,rfl⟩:=List.mem_map.1 he
            rw [isE_mm]
            omega
      · rw [if_neg hkm,if_pos (by omega)];rfl
theorem idxB_pw (n:Nat):(idxB n (-1)).Pairwise (fun a b:Int=>a < b):=by
  rw [idxB_all,List.pairwise_map]
  exact (List.pairwise_lt_range).imp fun h=>by omega
theorem mem_idxB {n:Nat} {x:Int}:x ∈ idxB n (-1) ↔ 0≤x∧x < n:=by
  rw [idxB_all,List.mem_map]
  constructor
  · rintro ⟨v,hv,rfl⟩;have:=List.mem_range.1 hv;omega
  · intro h;exact ⟨x.toNat,List.mem_range.2 (by omega),by omega⟩
theorem realT_eq {d:List Int} (hb:∀ x ∈ d,0≤x∧x≤1000):realT d=(realD d).map srtE :=
  real_eq d.length d.length d (idxB d.length (-1)) [] [] rfl hb (by rw [idxB_all];simp) (idxB_pw _) (fun x hx=>mem_idxB.1 hx) (fun w hw=>by rw [mem_idxB];simp;omega) .nil (by simp [has])
theorem layI_get {n:Nat} (v:Int):∀ (tops left:List Int) (es:List (Int×Int)) (left':List Int) (es':List (Int×Int)),layI v tops left es=some (left',es')→tops.Nodup→left.length=n→(∀ x ∈ tops,0≤x∧x < n) →
    ∀ x:Int,0≤x→x < n→left'.getD x.toNat 0=left.getD x.toNat 0 - (if x ∈ tops then 1 else 0)
  | [],left,es,left',es',h,_,_,_,x,_,_=>by
    simp only [layI,Option.some.injEq,Prod.mk.injEq] at h
    rw [h.1];simp
  | i::r,left,es,left',es',h,hn,hl,hb,x,h0,h1=>by
    rw [layI] at h
    split at h
    · cases h
    have hn':=List.nodup_cons.1 hn
    have hi:=hb i (by simp)
    rw [layI_get v r _ _ _ _ h hn'.2 (by simp [decAt,hl]) (fun x hx=>hb x (by simp [hx])) x h0 h1,decAt_get' hi.1 h0 (by omega)]
    by_cases hx:x=i
    · subst hx;simp [hn'.1]
    · simp [hx]
theorem real_deg (n:Nat):∀ (m:Nat) (left todo:List Int) (es es':List (Int×Int)),realI m left todo es=some es'→todo.Nodup→(∀ x ∈ todo,0≤x∧x < n)→left.length=n→(∀ x ∈ left,0≤x∧x≤1000)→todo.length≤m →
    ∀ new,es'=es++new→∀ u:Nat,(u:Int) ∈ todo→deg new u=left.getD u 0
  | 0,left,todo,es,es',h,_,_,_,_,hm,new,_,u,hu=>by
    rw [List.length_eq_zero_iff.1 (by omega:todo.length=0)] at hu;cases hu
  | m+1,left,todo,es,es',h,hn,hb,hl,hle,hm,new,hnew,u,hu=>by
    rw [realI] at h
    have hperm:=srtC_perm (gtD left) todo []
    cases hs:srtC (gtD left) [] todo with
    | nil =>
      rw [hs] at hperm
      rw [List.length_eq_zero_iff.1 (by have:=hperm.length_eq;simp at this;omega:todo.length=0)] at hu;cases hu
    | cons v r =>
      rw [hs] at h
      rw [hs,List.nil_append] at hperm
      have hv:v ∈ todo:=hperm.mem_iff.1 (by simp)
      have hvb:=hb v hv
      simp only at h
      split at h
      · cases h
      rename_i hge
      obtain ⟨t2,ht2⟩:∃ t2,t2=todo.filter fun x=>!decide (x=v):=⟨_,rfl⟩
      rw [← ht2] at h hge
      have hm2:∀ x,x ∈ t2 ↔ x ∈ todo∧x ≠ v:=fun x=>by rw [ht2,List.mem_filter];simp
      have ht2n:t2.Nodup:=by rw [ht2];exact hn.filter _
      have ht2l:t2.length≤m:=by
        have h1:=filter_len' (fun x=>decide (x=v)) todo
        have h2:0 < (todo.filter fun x=>decide (x=v)).length:=List.length_pos_of_mem (List.mem_filter.2 ⟨hv,by simp⟩)
        rw [← ht2] at h1
        omega
      have hp2:=srtC_perm (gtD left) t2 []
      rw [List.nil_append] at hp2
      obtain ⟨tops,htops⟩:∃ tops,tops=topD left t2 (left.getD v.toNat 0).toNat:=⟨_,rfl⟩
      rw [← htops] at h
      have htm:∀ x ∈ tops,x ∈ t2:=fun x hx=>by rw [htops] at hx;exact hp2.mem_iff.1 (List.mem_of_mem_take hx)
      have htn:tops.Nodup:=by rw [htops];exact (hp2.nodup_iff.2 ht2n).sublist (List.take_sublist _ _)
      cases hli:layI v tops left es with
      | none=>rw [hli] at h;cases h
      | some q =>
        obtain ⟨left',es1⟩:=q
        rw [hli] at h
        simp only at h
        obtain ⟨k1,k2,k3⟩:=layI_inv v _ _ _ _ _ hli hle
        obtain ⟨new2,q1,q2,q3⟩:=realI_edges n m left' t2 es1 es' h ht2n (fun x hx=>hb x ((hm2 x).1 hx).1)
        have ih:=real_deg n m left' t2 es1 es' h ht2n (fun x hx=>hb x ((hm2 x).1 hx).1) (by omega) k2 ht2l new2 q1
        have hnn:new=(tops.map fun i=>(min v i,max v i))++new2:=by
          have:es++new=es++((tops.map fun i=>(min v i,max v i))++new2):=by rw [← hnew,q1,k3];simp
          exact List.append_cancel_left this
        rw [hnn,deg,S_app]
        have hvt:v ∉ tops:=fun h=>((hm2 v).1 (htm v h)).2 rfl
        have hinc:∀ i,i ≠ v→inc u (min v i,max v i)=(if (u:Int)=v then 1 else 0)+(if (u:Int)=i then 1 else 0):=by
          intro i hi
          simp only [inc]
          rcases Int.le_total v i with h | h
          · rw [Int.min_eq_left h,Int.max_eq_right h]
            congr 1
            · exact iteQ (by omega)
            · exact iteQ (by omega)
          · rw [Int.min_eq_right h,Int.max_eq_left h,Int.add_comm]
            congr 1
            · exact iteQ (by omega)
            · exact iteQ (by omega)
        have hsum:S (tops.map fun i=>(min v i,max v i)) (inc u)=(if (u:Int)=v then (tops.length:Int) else 0)+(if (u:Int) ∈ tops then 1 else 0):=by
          rw [S_map,S_congr (g:=fun i=>(if (u:Int)=v then 1 else 0)+(if (u:Int)=i then 1 else 0)) fun i hi=>hinc i fun h=>hvt (h ▸ hi),S_add,S_one htn,S_const]
          split <;> simp
        rw [hsum]
        by_cases huv:(u:Int)=v
        · have:S new2 (inc u)=0:=by
            rw [← S_zero new2]
            refine S_congr fun e he=>?_
            obtain ⟨_,a1,a2⟩:=q3 e he
            have b1:=((hm2 _).1 a1).2
            have b2:=((hm2 _).1 a2).2
            rw [inc,if_neg (by omega),if_neg (by omega)];rfl
          rw [this,if_pos huv,if_neg (by rw [huv];exact hvt)]
          have hkl:tops.length=(left.getD v.toNat 0).toNat:=by
            rw [htops,topD,List.length_take,hp2.length_eq];omega
          have hgv:left.getD v.toNat 0=left[v.toNat]'(by omega):=by simp [List.getD_eq_getElem?_getD,List.getElem?_eq_getElem (show v.toNat < left.length by omega)]
          have hk0:0≤left.getD v.toNat 0:=by rw [hgv];exact (hle _ (List.getElem_mem _)).1
          rw [hkl,← huv,Int.toNat_natCast] at *
          omega
        · have h1:=ih u ((hm2 _).2 ⟨hu,huv⟩)
          have h2:=layI_get v _ _ _ _ _ hli htn hl (fun x hx=>hb x ((hm2 x).1 (htm x hx)).1) (u:Int) (by omega) (hb _ hu).2
          rw [Int.toNat_natCast] at h2
          rw [deg] at h1
          rw [h1,h2,if_neg huv]
          omega
theorem realD_degs {d:List Int} (h7:d.length≤7) (hb:∀ x ∈ d,0≤x∧x≤1000) {es:List (Int×Int)} (h:realD d=some es):degs d.length (srtE es)=d:=by
  obtain ⟨k1,k2,k3,k4⟩:=realD_ok h7 h
  have h1:=real_deg d.length _ _ _ _ _ h ((idxB_pw _).imp fun h=>by omega) (fun x hx=>mem_idxB.1 hx) rfl hb (by rw [idxB_all];simp) es (by simp)
  rw [degs_eq (fun e he=>by have:=mem_prs.1 ((vG_iff.1 k4).2.1 e he);omega)]
  refine List.ext_getElem (by simp) fun i hi hj=>?_
  rw [List.getElem_map,List.getElem_range]
  have:=h1 i (mem_idxB.2 (by omega))
  rw [deg,S_perm (srtE_perm es),← deg,this]
  simp [List.getD_eq_getElem?_getD,List.getElem?_eq_getElem hj]
end Go.Idl
namespace Go.Idl
theorem realLaw:∀ d,valid d=true→RealLaw d:=fun d hv=>by
  have hf:=valid_few hv
  have hb:∀ x ∈ d,0≤x∧x≤1000:=fun x hx=>by have:=hf.2 x hx;omega
  exact ⟨realT_eq hb,fun es h=>⟨(realD_ok hf.1 h).2.2.2,realD_degs hf.1 hb h⟩⟩
end Go.Idl
namespace Go.Idl
def hv:Nat→List Int→Bool
  | 0,_=>true
  | _+1,[]=>true
  | m+1,x::r=>decide (x≤r.length) && (r.take x.toNat).all (fun y=>!decide (y=0)) && hv m (fall ((r.take x.toNat).map (fun y=>y - 1)++r.drop x.toNat))
def chkH (s:List Int):Bool:=decide (hv s.length s=(decide (s.sum % 2=0) && noneNeg (slS s)))
set_option maxRecDepth 100000 in
theorem chkH_all:(List.range 8).all (fun n=>allD chkH n (n - 1) [])=true:=by kernel_rfl
theorem hv_graphic {d:List Int} (hv':valid d=true):hv d.length (fall d)=graphic d:=by
  have h1:=(valid_few hv').1
  have h2:=valid_mem hv'
  have hc:=List.all_eq_true.1 chkH_all d.length (List.mem_range.2 (by omega))
  have h3:=allD_ok chkH d.length (d.length - 1) [] (fall d) hc (fall_len d) (fall_desc d) (fun x hx=>by
    have:=h2 x (fall_mem.1 hx)
    omega)
  simp only [List.reverse_nil,List.nil_append,chkH,decide_eq_true_eq,fall_len,fall_sum] at h3
  rw [h3,graphic,hv',slacks_S,Bool.true_and]
  rfl
theorem layI_some {n:Nat} (v:Int):∀ (tops left:List Int) (es:List (Int×Int)),tops.Nodup→left.length=n→(∀ x ∈ tops,0≤x∧x < n) →
    (layI v tops left es).isSome=tops.all (fun i=>!decide (left.getD i.toNat 0=0))
  | [],left,es,_,_,_=>rfl
  | i::r,left,es,hn,hl,hb=>by
    have hn':=List.nodup_cons.1 hn
    have hi:=hb i (by simp)
    rw [layI]
    by_cases h0:left.getD i.toNat 0=0
    · rw [if_pos h0,List.all_cons,h0];rfl
    · rw [if_neg h0,layI_some v r _ _ hn'.2 (by simp [decAt,hl]) (fun x hx=>hb x (by simp [hx])),List.all_cons]
      simp only [h0,decide_false,Bool.not_false,Bool.true_and]
      rw [Bool.eq_iff_iff,List.all_eq_true,List.all_eq_true]
      refine forall_congr' fun x=>?_
      refine forall_congr' fun (hx:x ∈ r)=>?_
      have hxb:=hb x (by simp [hx])
      rw [decAt_get' hi.1 hxb.1 (by omega),if_neg (fun h=>hn'.1 (by rw [← h];exact hx))]
      simp
theorem lex_unique {left xs ys:List Int} (hx:xs.Pairwise (lexR left)) (hy:ys.Pairwise (lexR left)) (h:xs.Perm ys):xs=ys :=
  h.eq_of_pairwise (fun a b _ _ h k=>absurd (lexR_trans h k) lexR_irr) hx hy
theorem realI_hv (n:Nat):∀ (m:Nat) (left todo:List Int) (es:List (Int×Int)),left.length=n→(∀ x ∈ left,0≤x∧x≤1000)→todo.length=m→todo.Pairwise (fun a b:Int=>a < b)→(∀ x ∈ todo,0≤x∧x < n) →
    (realI m left todo es).isSome=hv m (fall (todo.map fun x=>left.getD x.toNat 0))
  | 0,left,todo,es,_,_,_,_,_=>rfl
  | m+1,left,todo,es,hl,hb,htl,htp,htb=>by
    have hsorted:∀ (left' T:List Int),T.Pairwise (fun a b:Int=>a < b)→fall (T.map fun x=>left'.getD x.toNat 0)=(srtC (gtD left') [] T).map fun x=>left'.getD x.toNat 0:=fun left' T hT=>by
      refine (fall_unique ?_ (((srtC_perm (gtD left') T [])).map _)).symm
      rw [Desc,List.pairwise_map]
      exact (srtC_lex (left:=left') T [] .nil (by simp) hT).imp fun h=>by simp only [lexR] at h;omega
    rw [hsorted left todo htp,realI]
    have hperm:=srtC_perm (gtD left) todo []
    have hlex:=srtC_lex (left:=left) todo [] .nil (by simp) htp
    cases hs:srtC (gtD left) [] todo with
    | nil=>rw [hs] at hperm;have:=hperm.length_eq;simp at this;omega
    | cons v r =>
      rw [hs,List.nil_append] at hperm
      rw [hs] at hlex
      have hv0:v ∈ todo:=hperm.mem_iff.1 (by simp)
      have hvb:=htb v hv0
      obtain ⟨t2,ht2⟩:∃ t2,t2=todo.filter fun x=>!decide (x=v):=⟨_,rfl⟩
      simp only [← ht2]
      have ht2p:t2.Pairwise (fun a b:Int=>a < b):=by rw [ht2];exact htp.filter _
      have hnd:todo.Nodup:=htp.imp fun h=>by omega
      have hm2:∀ x,x ∈ t2 ↔ x ∈ todo∧x ≠ v:=fun x=>by rw [ht2,List.mem_filter];simp
      have hrn:(v::r).Nodup:=hperm.nodup_iff.2 hnd
      have hr2:r.Perm t2:=by
        refine (List.perm_ext_iff_of_nodup (List.nodup_cons.1 hrn).2 (ht2p.imp fun h=>by omega)).2 fun x=>?_
        rw [hm2,← hperm.mem_iff,List.mem_cons]
        constructor
        · exact fun h=>⟨.inr h,fun k=>(List.nodup_cons.1 hrn).1 (k ▸ h)⟩
        · rintro ⟨rfl | h,k⟩
          · exact absurd rfl k
          · exact h
      have hsr:srtC (gtD left) [] t2=r:=lex_unique (srtC_lex _ _ .nil (by simp) ht2p) (List.pairwise_cons.1 hlex).2 ((srtC_perm (gtD left) t2 []).trans (by simpa using hr2.symm))
      have hrl:r.length=m:=by have:=hperm.length_eq;simp at this;omega
      rw [List.map_cons,hv,List.length_map,← hr2.length_eq,topD,hsr,← List.map_take,← List.map_drop]
      by_cases hk:left.getD v.toNat 0≤r.length
      · rw [if_neg (by omega)]
        simp only [hk,decide_true,Bool.true_and]
        generalize (left.getD v.toNat 0).toNat=k
        have htn:(r.take k).Nodup:=(List.nodup_cons.1 hrn).2.sublist (List.take_sublist _ _)
        have htb2:∀ x ∈ r,0≤x∧x < n:=fun x hx=>htb x ((hm2 x).1 (hr2.mem_iff.1 hx)).1
        have htb3:∀ x ∈ r.take k,0≤x∧x < n:=fun x hx=>htb2 x (List.mem_of_mem_take hx)
        have hsome:=layI_some v (r.take k) left es htn hl htb3
        rw [List.all_map]
        cases hli:layI v (r.take k) left es with
        | none =>
          rw [hli] at hsome
          have:(r.take k).all ((fun y=>!decide (y=0)) ∘ fun x=>left.getD x.toNat 0)=false:=hsome.symm
          rw [this];rfl
        | some q =>
          obtain ⟨left',es'⟩:=q
          rw [hli] at hsome
          have:(r.take k).all ((fun y=>!decide (y=0)) ∘ fun x=>left.getD x.toNat 0)=true:=hsome.symm
          rw [this,Bool.true_and]
          obtain ⟨k1,k2,k3⟩:=layI_inv v _ _ _ _ _ hli hb
          have hg:=layI_get v _ _ _ _ _ hli htn hl htb3
          simp only
          rw [realI_hv n m left' t2 es' (by omega) k2 (by rw [← hr2.length_eq];exact hrl) ht2p (fun x hx=>htb x ((hm2 x).1 hx).1)]
          refine congrArg (hv m) (fall_congr ((hr2.symm.map _).trans ?_))
          conv=>lhs;rw [← List.take_append_drop k r,List.map_append]
          rw [List.map_map]
          have hdis:∀ x ∈ r.drop k,x ∉ r.take k:=by
            have:=(List.nodup_append.1 (by rw [List.take_append_drop];exact (List.nodup_cons.1 hrn).2:(r.take k++r.drop k).Nodup)).2.2
            exact fun x hx hx'=>this x hx' x hx rfl
          refine List.Perm.append (.of_eq (List.map_congr_left fun x hx=>?_)) (.of_eq (List.map_congr_left fun x hx=>?_))
          · have hx2:=htb3 x hx
            rw [hg x hx2.1 hx2.2,if_pos hx];rfl
          · have hx2:=htb2 x (List.mem_of_mem_drop hx)
            rw [hg x hx2.1 hx2.2,if_neg (hdis x hx)];simp
      · rw [if_pos (by omega),decide_eq_false hk]
        rfl
theorem realD_some {d:List Int} (hv':valid d=true):(realD d).isSome=graphic d:=by
  have hf:=valid_few hv'
  have hb:∀ x ∈ d,0≤x∧x≤1000:=fun x hx=>by have:=hf.2 x hx;omega
  rw [realD,realI_hv d.length d.length d _ [] rfl hb (by rw [idxB_all];simp) (idxB_pw _) (fun x hx=>mem_idxB.1 hx),← hv_graphic hv']
  congr 2
  rw [idxB_all,List.map_map]
  refine List.ext_getElem (by simp) fun i h1 h2=>?_
  simp [List.getD_eq_getElem?_getD,List.getElem?_eq_getElem h2]
end Go.Idl
namespace Go.Idl
theorem comp_twice (d:List Int):comp (comp d)=d:=by
  rw [comp_map,comp_map]
  refine List.ext_getElem (by simp) fun i h1 h2=>?_
  simp only [List.length_map,List.map_map,List.getElem_map,Function.comp_apply]
  omega
theorem graphic_compI {d:List Int} (hl:d.length≤7) (h:graphic d=true):graphic (comp d)=true:=by
  obtain ⟨es,h1,h2⟩:=(graphic_iff_real hl).1 h
  have:=degs_graphic (compM_vG hl es)
  rw [degs_compM h1,h2] at this
  exact this
theorem graphic_comp {d:List Int} (hl:d.length≤7):graphic (comp d)=graphic d:=by
  rw [Bool.eq_iff_iff]
  refine ⟨fun h=>?_,graphic_compI hl⟩
  have:=graphic_compI (d:=comp d) (by simp [comp];omega) h
  rw [comp_twice] at this
  exact this
theorem graphicLaw:∀ d,valid d=true→GraphicLaw d:=fun d hv =>
  ⟨realD_some hv,graphic_comp (valid_few hv).1,(realLaw d hv).2⟩
end Go.Idl
namespace Go.Idl
open Go
@[simp] theorem un_neg (n:Int):Op.unary .neg (.int .i64 n)=.pure (.int .i64 (IntKind.i64.wrap (-n))):=by
  rw [← Int.zero_sub];rfl
def gs (r c:List Int) (i:Nat):Int:=-((fall r).take (i+1)).sum+(c.map fun x:Int=>min x ((i:Int)+1)).sum
end Go.Idl
namespace Go.Idl
open Go
def TT (n:Nat) (t:List (List Int)):Prop:=t.length=n∧∀ r ∈ t,r.length=n∧∀ x ∈ r,0≤x∧x≤1
theorem TT.set {n:Nat} {t:List (List Int)} (h:TT n t) {a b:Nat} {v:Int} (ha:a < t.length) (hv:0≤v∧v≤1):TT n (t.set a (t[a].set b v)):=by
  refine ⟨by simpa using h.1,fun r hr=>?_⟩
  have h1:=h.2 _ (List.getElem_mem ha)
  rcases List.mem_or_eq_of_mem_set hr with hr | rfl
  · exact h.2 r hr
  · refine ⟨by simpa using h1.1,fun x hx=>?_⟩
    rcases List.mem_or_eq_of_mem_set hx with hx | rfl
    · exact h1.2 x hx
    · exact hv
end Go.Idl
namespace Go.Idl
open Go
def MM (h w:Nat) (t:List (List Int)):Prop:=t.length=h∧∀ r ∈ t,r.length=w∧∀ x ∈ r,0≤x∧x≤1
theorem am_in (code:List Int) (c:Bool) (hc:CodeOk code) (h w:Nat) (hw:w≤5) (bs:Boxes) (Ms:List Boxes) (t:List (List Int)) (i:Nat) :
    ∀ (m j cnt:Nat) (r:List Int),j+m=w→cnt+m≤90000→r.length=j→(∀ x ∈ r,0≤x∧x≤1) →
    wp tb (.loop z331l9) { T:=[(0,.bptr 0 0 0),(1,I h),(2,I w),(7,OT t),(8,I i),(9,O r),(10,I j)],loc:=[],M:=(R code c cnt::bs)::Ms }
      (fun ex st=>ex=.exit 2∧∃ (r':List Int) (k:Nat),(r'.length=w∧∀ x ∈ r',0≤x∧x≤1)∧k≤cnt+m ∧
        st={ T:=[(0,.bptr 0 0 0),(1,I h),(2,I w),(7,OT t),(8,I i),(9,O r'),(10,I w),(20,Bo false)],loc:=[],M:=(R code c k::bs)::Ms }):=by
  intro m
  induction m with
  | zero =>
    intro j cnt r hj hcn hr h01
    have h3:j=w:=hj
    subst h3
    refine wp_loop ?_
    repeat (first|refine wp_as ?_|refine wp_ss ?_|refine wr (by simp;with_reducible rfl) ?_|refine wq (by simp;with_reducible rfl) ?_|refine wt (by simpa) ?_|refine wf (by simpa) ?_|refine xt (by simpa) ?_|refine xf (by simpa) ?_|refine wp_bs ?_|refine wp_b ?_|refine wp_sr ?_|refine wp_sx ?_|refine wp_ret' ?_|refine wp_skip' ?_|refine wp_exit' ?_)
    exact ⟨rfl,r,cnt,⟨hr,h01⟩,by omega,rfl⟩
  | succ m ih =>
    intro j cnt r hj hcn hr h01
    have hjw:j < w:=by omega
    have w2:IntKind.i64.wrap ((j:Int)+1)=((j+1:Nat):Int):=wrapS (by omega)
    obtain ⟨v,k,hv,hk,e1⟩:=pick' code c hc cnt (by omega) 2 (by omega) bs (Ms++[[]])
    have hv:=hv (by omega)
    have hrl:r.length≤274877906943:=by omega
    have hrt:r.take r.length=r:=List.take_of_length_le (by omega)
    refine wp_loop ?_
    repeat (first|refine wp_as ?_|refine wp_ss ?_|refine wr (by simp [hjw,e1,w2,hrl,hrt];with_reducible rfl) ?_|refine wq (by simp [hjw,e1,w2,hrl,hrt];with_reducible rfl) ?_|refine wt (by simpa [hjw,e1,w2,hrl,hrt]) ?_|refine wf (by simpa [hjw,e1,w2,hrl,hrt]) ?_|refine xt (by simpa [hjw,e1,w2,hrl,hrt]) ?_|refine xf (by simpa [hjw,e1,w2,hrl,hrt]) ?_|refine wp_bs ?_|refine wp_b ?_|refine wp_sr ?_|refine wp_sx ?_|refine wp_ret' ?_|refine wp_skip' ?_|refine wp_exit' ?_)
    refine wp_imp (ih (j+1) k (r++[(v:Int)]) (by omega) (by omega) (by simp [hr]) (fun x hx=>?_)) ?_
    · rcases List.mem_append.1 hx with hx | hx
      · exact h01 x hx
      · simp at hx;omega
    · rintro ex st ⟨rfl,r',k',h1,h2,rfl⟩
      exact ⟨rfl,r',k',h1,by omega,rfl⟩
theorem am_out (code:List Int) (c:Bool) (hc:CodeOk code) (h w:Nat) (hh:h≤5) (hw:w≤5) (bs:Boxes) (Ms:List Boxes) :
    ∀ (m i cnt:Nat) (t:List (List Int)),i+m=h→cnt+5 * m≤90000→MM i w t →
    wp tb (.loop z331l12) { T:=[(0,.bptr 0 0 0),(1,I h),(2,I w),(7,OT t),(8,I i)],loc:=[],M:=(R code c cnt::bs)::Ms }
      (fun ex st=>ex=.exit 0∧∃ (t':List (List Int)) (k:Nat),MM h w t'∧k≤cnt+5 * m ∧
        st={ T:=[(0,.bptr 0 0 0),(1,I h),(2,I w),(7,OT t'),(8,I h),(14,Bo false)],loc:=[],M:=(R code c k::bs)::Ms }):=by
  intro m
  induction m with
  | zero =>
    intro i cnt t hi hcn ht
    have h3:i=h:=hi
    subst h3
    refine wp_loop ?_
    repeat (first|refine wp_as ?_|refine wp_ss ?_|refine wr (by simp;with_reducible rfl) ?_|refine wq (by simp;with_reducible rfl) ?_|refine wt (by simpa) ?_|refine wf (by simpa) ?_|refine xt (by simpa) ?_|refine xf (by simpa) ?_|refine wp_bs ?_|refine wp_b ?_|refine wp_sr ?_|refine wp_sx ?_|refine wp_ret' ?_|refine wp_skip' ?_|refine wp_exit' ?_)
    exact ⟨rfl,t,cnt,ht,by omega,rfl⟩
  | succ m ih =>
    intro i cnt t hi hcn ht
    have hih:i < h:=by omega
    have w2:IntKind.i64.wrap ((i:Int)+1)=((i+1:Nat):Int):=wrapS (by omega)
    refine wp_loop ?_
    repeat (first|refine wp_as ?_|refine wp_ss ?_|refine wr (by simp [hih];with_reducible rfl) ?_|refine wq (by simp [hih];with_reducible rfl) ?_|refine wt (by simpa [hih]) ?_|refine wf (by simpa [hih]) ?_|refine xt (by simpa [hih]) ?_|refine xf (by simpa [hih]) ?_|refine wp_bs ?_|refine wp_b ?_|refine wp_sr ?_|refine wp_sx ?_|refine wp_ret' ?_|refine wp_skip' ?_|refine wp_exit' ?_)
    have hin:=am_in code c hc h w hw bs Ms t i w 0 cnt [] (by omega) (by omega) rfl (by simp)
    rw [show ((0:Nat):Int)=0 from rfl] at hin
    refine wp_imp hin ?_
    rintro ex st ⟨rfl,r',k',h1,h2,rfl⟩
    simp only [if_true]
    have htl:=ht.1
    have htt:t.length≤274877906943:=by omega
    have hto:t.take t.length=t:=List.take_of_length_le (by omega)
    repeat (first|refine wp_as ?_|refine wp_ss ?_|refine wr (by simp [w2,htt,hto];with_reducible rfl) ?_|refine wq (by simp [w2,htt,hto];with_reducible rfl) ?_|refine wt (by simpa [w2,htt,hto]) ?_|refine wf (by simpa [w2,htt,hto]) ?_|refine xt (by simpa [w2,htt,hto]) ?_|refine xf (by simpa [w2,htt,hto]) ?_|refine wp_bs ?_|refine wp_b ?_|refine wp_sr ?_|refine wp_sx ?_|refine wp_ret' ?_|refine wp_skip' ?_|refine wp_exit' ?_)
    refine wp_imp (ih (i+1) k' (t++[r']) (by omega) (by omega) ⟨by simp [htl],fun r hr=>?_⟩) ?_
    · rcases List.mem_append.1 hr with hr | hr
      · exact ht.2 r hr
      · simp at hr;subst hr;exact h1
    · rintro ex st ⟨rfl,t'',k'',h3,h4,rfl⟩
      exact ⟨rfl,t'',k'',h3,by omega,rfl⟩
theorem ev_aMatrix (code:List Int) (c:Bool) (hc:CodeOk code) (cnt:Nat) (hn:cnt≤80000) (h w:Nat) (hh:h≤5) (hw:w≤5) (bs:Boxes) (Ms:List Boxes) :
    ∃ (t:List (List Int)) (k:Nat),MM h w t∧k≤cnt+25 ∧
      limF tb zl331 [] [.bptr 0 0 0,I h,I w] ((R code c cnt::bs)::Ms)=some ⟨OT t,[],(R code c k::bs)::Ms,[]⟩:=by
  suffices h:∃ r,(∃ (t:List (List Int)) (k:Nat),MM h w t∧k≤cnt+25∧r=⟨OT t,[],(R code c k::bs)::Ms,[]⟩)∧Ev tb zl331 [] [.bptr 0 0 0,I h,I w] ((R code c cnt::bs)::Ms) r by
    obtain ⟨r,⟨t,k,h1,h2,rfl⟩,h⟩:=h
    exact ⟨t,k,h1,h2,ev_lim h⟩
  refine call_ex zt331 rfl ?_
  repeat (first|refine wp_as ?_|refine wp_ss ?_|refine wr (by simp;with_reducible rfl) ?_|refine wq (by simp;with_reducible rfl) ?_|refine wt (by simpa) ?_|refine wf (by simpa) ?_|refine xt (by simpa) ?_|refine xf (by simpa) ?_|refine wp_bs ?_|refine wp_b ?_|refine wp_sr ?_|refine wp_sx ?_|refine wp_ret' ?_|refine wp_skip' ?_|refine wp_exit' ?_)
  have hin:=am_out code c hc h w hh hw bs Ms h 0 cnt [] (by omega) (by omega) ⟨rfl,by simp⟩
  rw [show ((0:Nat):Int)=0 from rfl] at hin
  refine wp_imp hin ?_
  rintro ex st ⟨rfl,t',k',h1,h2,rfl⟩
  simp only [if_true]
  repeat (first|refine wp_as ?_|refine wp_ss ?_|refine wr (by simp;with_reducible rfl) ?_|refine wq (by simp;with_reducible rfl) ?_|refine wt (by simpa) ?_|refine wf (by simpa) ?_|refine xt (by simpa) ?_|refine xf (by simpa) ?_|refine wp_bs ?_|refine wp_b ?_|refine wp_sr ?_|refine wp_sx ?_|refine wp_ret' ?_|refine wp_skip' ?_|refine wp_exit' ?_)
  exact ⟨.inr rfl,_,⟨t',k',h1,by omega,rfl⟩,by simp [zi331]⟩
end Go.Idl
namespace Go.Idl
open Go
theorem MM.sums {h w:Nat} {t:List (List Int)} (ht:MM h w t) (hw:w≤5):∀ x ∈ t.map List.sum,0≤x∧x≤5:=by
  intro x hx
  obtain ⟨r,hr,rfl⟩:=List.mem_map.1 hx
  have h1:=ht.2 r hr
  have:=sum01 r h1.2
  omega
end Go.Idl
namespace Go.Idl
open Go
def durfA:List Int→Nat→Nat→Nat
  | [],_,k=>k
  | x::q,i,k=>durfA q (i+1) (if (i:Int)≤x then i+1 else k)
def durf (s:List Int):Nat:=durfA s 0 0
theorem durfA_le (B:Nat):∀ (s:List Int) (i k:Nat),k≤B→i+s.length≤B→durfA s i k≤B
  | [],_,_,h,_=>h
  | x::q,i,k,h,hb=>by
    simp only [List.length_cons] at hb
    rw [durfA]
    refine durfA_le B q _ _ ?_ (by omega)
    split <;> omega
theorem durfA_ge:∀ (s:List Int) (i k:Nat),1≤k→1≤durfA s i k
  | [],_,_,h=>h
  | x::q,i,k,h=>by
    rw [durfA]
    refine durfA_ge q _ _ ?_
    split <;> omega
theorem durf_le (s:List Int):durf s≤s.length:=durfA_le _ s 0 0 (by omega) (by omega)
theorem durf_ge {s:List Int} (h:s ≠ []) (h0:∀ x ∈ s,0≤x):1≤durf s:=by
  cases s with
  | nil=>exact absurd rfl h
  | cons x q =>
    have:=h0 x (by simp)
    simp only [durf,durfA]
    refine durfA_ge q _ _ ?_
    rw [if_pos (by simpa using this)]
    omega
theorem ev_DurfeeOf (d:List Int) (c:Bool) (hv:valid d=true):Ev tb zl164 [] [L d c] [] ⟨I (durf (fall d)),[],[],[]⟩:=by
  have hl:=(valid_few hv).1
  have e1:=ev_lim (ev_SortDegrees d c hv)
  have hfl:=fall_len d
  generalize fall d=s at *
  have loop:∀ (m i k:Nat),i+m=s.length→k≤i→wp tb (.loop z164l8) { T:=[(3,I k),(7,O s),(8,I s.length),(9,I i)],loc:=[],M:=[] }
      (fun ex st=>ex=.exit 0∧st={ T:=[(3,I (durfA (s.drop i) i k)),(7,O s),(8,I s.length),(9,I s.length),(10,Bo false)],loc:=[],M:=[] }):=by
    intro m
    induction m with
    | zero =>
      intro i k hi hk
      obtain ⟨h1,h2⟩:=drop_end hi
      have h3:i=s.length:=hi
      subst h3
      refine wp_loop ?_
      repeat (first|refine wp_as ?_|refine wp_ss ?_|refine wr (by simp;with_reducible rfl) ?_|refine wq (by simp;with_reducible rfl) ?_|refine wt (by simpa) ?_|refine wf (by simpa) ?_|refine xt (by simpa) ?_|refine xf (by simpa) ?_|refine wp_bs ?_|refine wp_b ?_|refine wp_sr ?_|refine wp_sx ?_|refine wp_ret' ?_|refine wp_skip' ?_|refine wp_exit' ?_)
      rw [h2];exact ⟨rfl,rfl⟩
    | succ m ih =>
      intro i k hi hk
      obtain ⟨hi2,h2,h3⟩:=drop_get hi
      have w2:IntKind.i64.wrap ((i:Int)+1)=((i+1:Nat):Int):=wrapS (by omega)
      rw [h2,durfA]
      by_cases hq:(i:Int)≤s[i]
      · rw [if_pos hq]
        refine wp_loop ?_
        repeat (first|refine wp_as ?_|refine wp_ss ?_|refine wr (by simp [hi2,hq,w2];with_reducible rfl) ?_|refine wq (by simp [hi2,hq,w2];with_reducible rfl) ?_|refine wt (by simpa [hi2,hq,w2]) ?_|refine wf (by simpa [hi2,hq,w2]) ?_|refine xt (by simpa [hi2,hq,w2]) ?_|refine xf (by simpa [hi2,hq,w2]) ?_|refine wp_bs ?_|refine wp_b ?_|refine wp_sr ?_|refine wp_sx ?_|refine wp_ret' ?_|refine wp_skip' ?_|refine wp_exit' ?_)
        exact ih (i+1) (i+1) (by omega) (by omega)
      · rw [if_neg hq]
        refine wp_loop ?_
        repeat (first|refine wp_as ?_|refine wp_ss ?_|refine wr (by simp [hi2,hq,w2];with_reducible rfl) ?_|refine wq (by simp [hi2,hq,w2];with_reducible rfl) ?_|refine wt (by simpa [hi2,hq,w2]) ?_|refine wf (by simpa [hi2,hq,w2]) ?_|refine xt (by simpa [hi2,hq,w2]) ?_|refine xf (by simpa [hi2,hq,w2]) ?_|refine wp_bs ?_|refine wp_b ?_|refine wp_sr ?_|refine wp_sx ?_|refine wp_ret' ?_|refine wp_skip' ?_|refine wp_exit' ?_)
        exact ih (i+1) k (by omega) (by omega)
  refine call_of_wp zt164 rfl ?_
  repeat (first|refine wp_as ?_|refine wp_ss ?_|refine wr (by simp [e1];with_reducible rfl) ?_|refine wq (by simp [e1];with_reducible rfl) ?_|refine wt (by simpa [e1]) ?_|refine wf (by simpa [e1]) ?_|refine xt (by simpa [e1]) ?_|refine xf (by simpa [e1]) ?_|refine wp_bs ?_|refine wp_b ?_|refine wp_sr ?_|refine wp_sx ?_|refine wp_ret' ?_|refine wp_skip' ?_|refine wp_exit' ?_)
  refine wp_imp (loop s.length 0 0 (by simp) (by omega)) ?_
  rintro ex st ⟨rfl,rfl⟩
  try simp only [if_true]
  repeat (first|refine wp_as ?_|refine wp_ss ?_|refine wr (by simp;with_reducible rfl) ?_|refine wq (by simp;with_reducible rfl) ?_|refine wt (by simpa) ?_|refine wf (by simpa) ?_|refine xt (by simpa) ?_|refine xf (by simpa) ?_|refine wp_bs ?_|refine wp_b ?_|refine wp_sr ?_|refine wp_sx ?_|refine wp_ret' ?_|refine wp_skip' ?_|refine wp_exit' ?_)
  simp [zi164,durf]
def splitt (d:List Int):Int:=if graphic d then (if d.length=0 then 0 else ((slacks d).getD (durf (fall d) - 1) 0).tdiv 2) else -1
theorem ev_SplittanceOf (d:List Int) (c:Bool) (hl:d.length≤1000000):Ev tb zl197 [] [L d c] [] ⟨I (splitt d),[],[],[]⟩:=by
  have e1:=ev_lim (ev_IsGraphic d c hl)
  cases hg:graphic d with
  | false =>
    refine call_of_wp zt197 rfl ?_
    repeat (first|refine wp_as ?_|refine wp_ss ?_|refine wr (by simp [e1,hg];with_reducible rfl) ?_|refine wq (by simp [e1,hg];with_reducible rfl) ?_|refine wt (by simpa [e1,hg]) ?_|refine wf (by simpa [e1,hg]) ?_|refine xt (by simpa [e1,hg]) ?_|refine xf (by simpa [e1,hg]) ?_|refine wp_bs ?_|refine wp_b ?_|refine wp_sr ?_|refine wp_sx ?_|refine wp_ret' ?_|refine wp_skip' ?_|refine wp_exit' ?_)
    simp [zi197,splitt,hg]
  | true =>
  by_cases h0:d.length=0
  · refine call_of_wp zt197 rfl ?_
    repeat (first|refine wp_as ?_|refine wp_ss ?_|refine wr (by simp [e1,hg,h0];with_reducible rfl) ?_|refine wq (by simp [e1,hg,h0];with_reducible rfl) ?_|refine wt (by simpa [e1,hg,h0]) ?_|refine wf (by simpa [e1,hg,h0]) ?_|refine xt (by simpa [e1,hg,h0]) ?_|refine xf (by simpa [e1,hg,h0]) ?_|refine wp_bs ?_|refine wp_b ?_|refine wp_sr ?_|refine wp_sx ?_|refine wp_ret' ?_|refine wp_skip' ?_|refine wp_exit' ?_)
    simp [zi197,splitt,hg,h0]
  have hv:valid d=true:=by simp only [graphic,Bool.and_eq_true] at hg;exact hg.1.1
  have hf:=valid_few hv
  have e2:=ev_lim (ev_SlacksOf d c hv)
  have e3:=ev_lim (ev_DurfeeOf d c hv)
  have hd1:=durf_le (fall d)
  have hd2:1≤durf (fall d):=durf_ge (fun h=>h0 (by rw [← fall_len,h];rfl)) (fun x hx=>(hf.fall.2 x hx).1)
  rw [fall_len] at hd1
  have hsl:=slacks_len d
  have hb:∀ x ∈ slacks d,-100≤x∧x≤200:=by
    intro x hx
    simp only [slacks,List.mem_map,List.mem_range] at hx
    obtain ⟨i,hi,rfl⟩:=hx
    exact slk_bound (by have:=hf.1;omega) hf.fall.1 hf.fall.2
  obtain ⟨k,hk⟩:∃ k,durf (fall d)=k+1:=⟨durf (fall d) - 1,by omega⟩
  have w1:IntKind.i64.wrap (k:Int)=(k:Int):=wrap64 (by omega) (by omega)
  have hk2:k < (slacks d).length:=by omega
  have hx:=hb _ (List.getElem_mem hk2)
  have hnn:0≤(slacks d)[k]:=by
    have hg2:=hg
    simp only [graphic,Bool.and_eq_true,List.all_eq_true,decide_eq_true_eq] at hg2
    exact hg2.2 _ (List.getElem_mem hk2)
  have w2:IntKind.i64.wrap (((slacks d)[k]).tdiv 2)=((slacks d)[k]).tdiv 2:=by
    rw [Int.tdiv_eq_ediv_of_nonneg hnn];exact wrap64 (by omega) (by omega)
  have hs:splitt d=((slacks d)[k]).tdiv 2:=by
    rw [splitt,hg,hk,Nat.add_sub_cancel]
    simp only [if_true,h0,if_false,List.getD_eq_getElem?_getD,List.getElem?_eq_getElem hk2,Option.getD_some]
  rw [hk] at e3
  refine call_of_wp zt197 rfl ?_
  repeat (first|refine wp_as ?_|refine wp_ss ?_|refine wr (by simp [e1,hg,h0,e2,e3,w1,hk2,w2];with_reducible rfl) ?_|refine wq (by simp [e1,hg,h0,e2,e3,w1,hk2,w2];with_reducible rfl) ?_|refine wt (by simpa [e1,hg,h0,e2,e3,w1,hk2,w2]) ?_|refine wf (by simpa [e1,hg,h0,e2,e3,w1,hk2,w2]) ?_|refine xt (by simpa [e1,hg,h0,e2,e3,w1,hk2,w2]) ?_|refine xf (by simpa [e1,hg,h0,e2,e3,w1,hk2,w2]) ?_|refine wp_bs ?_|refine wp_b ?_|refine wp_sr ?_|refine wp_sx ?_|refine wp_ret' ?_|refine wp_skip' ?_|refine wp_exit' ?_)
  simp [zi197,hs]
theorem ev_IsSplit (d:List Int) (c:Bool) (hl:d.length≤1000000):Ev tb zl186 [] [L d c] [] ⟨Bo (decide (splitt d=0)),[],[],[]⟩:=by
  have e1:=ev_lim (ev_SplittanceOf d c hl)
  refine call_of_wp zt186 rfl ?_
  repeat (first|refine wp_as ?_|refine wp_ss ?_|refine wr (by simp [e1];with_reducible rfl) ?_|refine wq (by simp [e1];with_reducible rfl) ?_|refine wt (by simpa [e1]) ?_|refine wf (by simpa [e1]) ?_|refine xt (by simpa [e1]) ?_|refine xf (by simpa [e1]) ?_|refine wp_bs ?_|refine wp_b ?_|refine wp_sr ?_|refine wp_sx ?_|refine wp_ret' ?_|refine wp_skip' ?_|refine wp_exit' ?_)
  simp [zi186]
  rfl
end Go.Idl
namespace Go.Idl
def inK (K:List Nat) (x:Int):Int:=S K fun v=>if x=(v:Int) then 1 else 0
theorem inK_mem {K:List Nat} (h:K.Nodup) (k:Nat):inK K k=if k ∈ K then 1 else 0:=by
  have:∀ v ∈ K,(if (k:Int)=(v:Int) then (1:Int) else 0)=if k=v then 1 else 0:=fun v _=>by simp only [Int.ofNat_inj]
  rw [inK,S_congr this,S_one h]
theorem inK_pairs {n:Nat} (hn:n≤7) {K:List Nat} (hK:K.Nodup) (hb:∀ v ∈ K,v < n):S (prs n) (fun e=>2 * (inK K e.1 * inK K e.2))=(K.length:Int) * ((K.length:Int) - 1):=by
  have hw:∀ e:Int×Int,S K (fun a=>S K (fun b=>adj e a b))=2 * (inK K e.1 * inK K e.2):=fun e=>by
    have hwe:S K (fun a=>S K (fun b=>adj e a b))=S K (fun v=>if e.1=(v:Int) then 1 else 0) * S K (fun v=>if e.2=(v:Int) then 1 else 0)+S K (fun v=>if e.2=(v:Int) then 1 else 0) * S K (fun v=>if e.1=(v:Int) then 1 else 0):=by
      rw [← S_mulr,← S_mulr,← S_add]
      refine S_congr fun a _=>?_
      rw [← S_mul,← S_mul,← S_add]
      rfl
    rw [hwe,inK,inK,Int.mul_comm (S K fun v=>if e.2=(v:Int) then 1 else 0)]
    omega
  rw [← S_congr fun e _=>hw e,S_swap]
  have:∀ a ∈ K,S (prs n) (fun e=>S K (fun b=>adj e a b))=(K.length:Int) - 1:=fun a ha=>by
    rw [S_swap,S_congr (g:=fun b=>1 - (if a=b then 1 else 0)) fun b hb'=>by
      rw [adj_prs hn (hb a ha) (hb b hb')];split <;> rfl]
    rw [S_sub,S_const,S_one hK,if_pos ha];omega
  rw [S_congr this,S_const]
def viol (es:List (Int×Int)) (K:List Nat) (e:Int×Int):Int:=inK K e.1 * inK K e.2+if e ∈ es then 1 - inK K e.1 - inK K e.2 else 0
theorem viol_sum {n:Nat} {es:List (Int×Int)} (h:vGraph n es=true) {K:List Nat} (hK:K.Nodup) (hb:∀ v ∈ K,v < n) :
    2 * S (prs n) (viol es K)=(K.length:Int) * ((K.length:Int) - 1)+2 * es.length - 2 * S K (deg es):=by
  have hn:=(vG_iff.1 h).2.2
  have h1:=inK_pairs hn hK hb
  have h2:S (prs n) (fun e=>if e ∈ es then 1 - inK K e.1 - inK K e.2 else 0)=S es fun e=>1 - inK K e.1 - inK K e.2:=by
    conv=>rhs;rw [vG_filter h,S_ite]
    exact S_congr fun e _=>ite_iff (by simp) _ _
  have h3:S K (deg es)=S es fun e=>inK K e.1+inK K e.2:=by
    have sw:S K (deg es)=S es (fun e=>S K (fun v=>inc v e)):=S_swap K es fun v e=>inc v e
    rw [sw]
    refine S_congr fun e _=>?_
    simp only [inc]
    rw [S_add];rfl
  have h4:S (prs n) (viol es K)=S (prs n) (fun e=>inK K e.1 * inK K e.2)+S es fun e=>1 - inK K e.1 - inK K e.2:=by
    rw [← h2,← S_add];rfl
  have h5:S es (fun e=>1 - inK K e.1 - inK K e.2)=es.length - S K (deg es):=by
    rw [h3,S_congr (g:=fun e=>1 - (inK K e.1+inK K e.2)) fun e _=>by omega,S_sub,S_const];omega
  rw [S_mul] at h1
  omega
def ptsOK (n:Nat) (es:List (Int×Int)) (K:List Nat):Bool:=(prs n).all fun e=>decide (e.1.toNat ∈ K) != decide (e.2.toNat ∈ K) || decide (e ∈ es) == decide (e.1.toNat ∈ K)
theorem viol_pair {n:Nat} {es:List (Int×Int)} {K:List Nat} (hK:K.Nodup) {e:Int×Int} (he:e ∈ prs n) :
    0≤viol es K e∧(viol es K e=0 ↔ (decide (e.1.toNat ∈ K) != decide (e.2.toNat ∈ K) || decide (e ∈ es) == decide (e.1.toNat ∈ K))=true):=by
  have hb:=mem_prs.1 he
  have h1:=inK_mem hK e.1.toNat
  have h2:=inK_mem hK e.2.toNat
  rw [Int.toNat_of_nonneg (by omega)] at h1 h2
  rw [viol,h1,h2]
  by_cases a:e.1.toNat ∈ K <;> by_cases b:e.2.toNat ∈ K <;> by_cases x:e ∈ es <;> simp [a,b,x]
theorem S_zero_iff {α:Type}:∀ {l:List α} {f:α→Int},(∀ a ∈ l,0≤f a)→(S l f=0 ↔ ∀ a ∈ l,f a=0)
  | [],f,_=>by simp [S]
  | a::l,f,h=>by
    have h1:=h a (by simp)
    have h2:0≤S l f:=S_nonneg fun b hb=>h b (by simp [hb])
    have h3:=S_zero_iff (l:=l) (f:=f) fun b hb=>h b (by simp [hb])
    rw [S_cons,List.forall_mem_cons,← h3]
    omega
theorem viol_zero {n:Nat} {es:List (Int×Int)} {K:List Nat} (hK:K.Nodup):S (prs n) (viol es K)=0 ↔ ptsOK n es K=true:=by
  rw [S_zero_iff fun e he=>(viol_pair hK he).1,ptsOK,List.all_eq_true]
  exact ⟨fun h e he=>(viol_pair hK he).2.1 (h e he),fun h e he=>(viol_pair hK he).2.2 (h e he)⟩
theorem durfA_mono:∀ (s:List Int) (i k:Nat),k≤i→k≤durfA s i k
  | [],_,_,_=>Nat.le_refl _
  | x::q,i,k,h=>by
    rw [durfA]
    split
    · exact Nat.le_trans (by omega) (durfA_mono q (i+1) (i+1) (by omega))
    · exact durfA_mono q (i+1) k (by omega)
theorem durfA_lt:∀ (s:List Int) (i k j:Nat),k≤i→durfA s i k≤i+j→(h:j < s.length)→s[j] < (i:Int)+j
  | x::q,i,k,0,hk,hd,_=>by
    rw [durfA] at hd
    by_cases hx:(i:Int)≤x
    · rw [if_pos hx] at hd
      have:=durfA_mono q (i+1) (i+1) (by omega)
      omega
    · simpa using hx
  | x::q,i,k,j+1,hk,hd,h=>by
    rw [durfA] at hd
    have:=durfA_lt q (i+1) _ j (by split <;> omega) (Nat.le_trans hd (by omega)) (by simpa using h)
    simp only [List.getElem_cons_succ]
    omega
theorem slk_durf {s:List Int} (hs:Desc s):slk s (durf s)=(durf s:Int) * ((durf s:Int) - 1)+s.sum - 2 * (s.take (durf s)).sum:=by
  have h1:((s.drop (durf s)).map fun x:Int=>min x (durf s:Int))=s.drop (durf s):=by
    refine List.ext_getElem (by simp) fun j h1 h2=>?_
    simp only [List.length_map,List.length_drop] at h1
    rw [List.getElem_map,List.getElem_drop]
    have h3:=durfA_lt s 0 0 (durf s) (by omega) (by rw [durf];omega) (by omega)
    have h4:=desc_get hs (i:=durf s) (j:=durf s+j) (by omega) (by omega)
    omega
  have h2:=sum_take_drop s (durf s)
  rw [slk,h1]
  omega
end Go.Idl
namespace Go.Idl
open Go
def apart (a b c d:Int):Bool:=decide (a ≠ b) && decide (a ≠ c) && decide (a ≠ d) && decide (b ≠ c) && decide (b ≠ d) && decide (c ≠ d)
def gone (a b c d:Int) (x:Int×Int):Bool:=decide (x=(min a b,max a b)) || decide (x=(min c d,max c d))
end Go.Idl
namespace Go.Idl
open Go
def swX (es:List (Int×Int)) (a b c d:Int):List (Int×Int):=es.filter (fun x=>!gone a b c d x)++[(min a c,max a c),(min b d,max b d)]
def sw (es:List (Int×Int)) (a b c d:Int):List (Int×Int):=srtE (swX es a b c d)
theorem hasM_iff {es:List (Int×Int)} {a b:Int}:hasM es a b=true ↔ (min a b,max a b) ∈ es:=by
  simp [hasM]
theorem vG21 {n:Nat} (hn:n≤7) {es:List (Int×Int)} (h:vGraph n es=true):es.length≤21:=by
  have h1:=(vG_sub h).length_le
  have h2:∀ n,n≤7→(prs n).length≤21:=by decide +kernel
  have:=h2 _ hn
  omega
end Go.Idl
namespace Go.Idl
open Go
abbrev Q4:=Int×Int×Int×Int
def sws (xs:List Q4):List (List IV):=xs.map fun s=>[I s.1,I s.2.1,I s.2.2.1,I s.2.2.2]
@[simp] theorem sws_len (xs:List Q4):(sws xs).length=xs.length:=by simp [sws]
@[simp] theorem sws_nil:sws []=[]:=rfl
@[simp] theorem sws_take (xs:List Q4) (n:Nat):(sws xs).take n=sws (xs.take n):=by simp [sws,List.map_take]
@[simp] theorem sws_drop (xs:List Q4) (n:Nat):(sws xs).drop n=sws (xs.drop n):=by simp [sws,List.map_drop]
@[simp] theorem sws_one (xs:List Q4) (a b c d:Int):sws xs++[[IV.sc (.int .i64 a),IV.sc (.int .i64 b),IV.sc (.int .i64 c),IV.sc (.int .i64 d)]]=sws (xs++[(a,b,c,d)]):=by simp [sws]
@[simp] theorem sws_get (xs:List Q4) (i:Nat) (h:i < (sws xs).length):(sws xs)[i]=[IV.sc (.int .i64 (xs[i]'(by simpa [sws] using h)).1),IV.sc (.int .i64 (xs[i]'(by simpa [sws] using h)).2.1),IV.sc (.int .i64 (xs[i]'(by simpa [sws] using h)).2.2.1),IV.sc (.int .i64 (xs[i]'(by simpa [sws] using h)).2.2.2)]:=by simp [sws]
@[simp] theorem sws_get? (xs:List Q4) (i:Nat):(sws xs)[i]? = xs[i]?.map fun s=>[IV.sc (.int .i64 s.1),IV.sc (.int .i64 s.2.1),IV.sc (.int .i64 s.2.2.1),IV.sc (.int .i64 s.2.2.2)]:=by simp [sws]
@[simp] theorem sws_all1 (xs:List Q4):((sws xs).all fun x=>x.all IV.plain1)=true:=by
  induction xs with
  | nil=>rfl
  | cons x xs ih=>simp only [sws,List.map_cons,List.all_cons] at *;rw [ih];rfl
@[simp] theorem sws_all2 (xs:List Q4):((sws xs).all fun x=>x.all IV.isData)=true:=by
  induction xs with
  | nil=>rfl
  | cons x xs ih=>simp only [sws,List.map_cons,List.all_cons] at *;rw [ih];rfl
@[simp] theorem sws_noLst (xs:List Q4):noLstLL (sws xs)=true:=by
  induction xs with
  | nil=>rfl
  | cons x xs ih=>simp only [sws,List.map_cons,noLstLL,noLstL,noLstV] at *;rw [ih];rfl
@[simp] theorem frz_sws (xs:List Q4):frzLL (sws xs)=sws xs:=by
  induction xs with
  | nil=>rfl
  | cons x xs ih=>simp only [sws,List.map_cons,frzLL,frzL,frzV] at *;rw [ih]
end Go.Idl
namespace Go.Idl
open Go
abbrev GF:=List (List (Int×Int)×Bool)
def glf (n:Int) (R:GF):List (List IV):=R.map fun x=>[I n,L2 x.1 x.2]
@[simp] theorem glf_len (n:Int) (R:GF):(glf n R).length=R.length:=by simp [glf]
@[simp] theorem glf_nil (n:Int):glf n []=[]:=rfl
@[simp] theorem glf_app (n:Int) (R S:GF):glf n R++glf n S=glf n (R++S):=by simp [glf]
@[simp] theorem glf_take (n:Int) (R:GF) (k:Nat):(glf n R).take k=glf n (R.take k):=by simp [glf,List.map_take]
@[simp] theorem glf_all (n:Int) (R:GF):((glf n R).all fun x=>x.all IV.isData)=true:=by
  induction R with
  | nil=>rfl
  | cons x xs ih=>simp only [glf,List.map_cons,List.all_cons] at *;rw [ih];rfl
end Go.Idl
namespace Go.Idl
open Go
theorem fall_valid {d:List Int} (hv:valid d=true):valid (fall d)=true:=by
  have hf:=valid_few hv
  have hm:=valid_mem hv
  rw [valid,Bool.and_eq_true,decide_eq_true_eq,List.all_eq_true,fall_len]
  refine ⟨hf.1,fun x hx=>?_⟩
  have:=hm x (fall_mem.1 hx)
  simp only [Bool.and_eq_true,decide_eq_true_eq]
  exact this
end Go.Idl
namespace Go.Idl
theorem gtD_tr (d:List Int) (a b c:Int) (h1:gtD d b a=false) (h2:gtD d c b=false):gtD d c a=false:=by
  simp only [gtD,decide_eq_false_iff_not] at *;omega
theorem gtD_as (d:List Int) (a b:Int) (h:gtD d a b=true):gtD d b a=false:=by
  simp only [gtD,decide_eq_true_eq,decide_eq_false_iff_not] at *;omega
theorem srt_fall (d:List Int):(srtC (gtD d) [] (idxB d.length (-1))).map (fun v=>d.getD v.toNat 0)=fall d:=by
  refine fall_unique ?_ ?_
  · have h:=(srtC_ok (gtD_tr d) (gtD_as d) (idxB d.length (-1)) [] .nil).1
    rw [Desc,List.pairwise_map]
    exact h.imp fun {a b} hab=>by
      simp only [gtD,decide_eq_false_iff_not] at hab;omega
  · have h:=(srtC_perm (gtD d) (idxB d.length (-1)) []).map (fun v=>d.getD v.toNat 0)
    rw [List.nil_append] at h
    refine h.trans ?_
    have:(idxB d.length (-1)).map (fun v=>d.getD v.toNat 0)=d:=by
      rw [idxB_all,List.map_map]
      refine List.ext_getElem (by simp) fun i h1 h2=>?_
      simp only [List.length_map,List.length_range] at h1
      simp [List.getD_eq_getElem?_getD,List.getElem?_eq_getElem h1]
    rw [this]
abbrev spK (d:List Int):List Int:=topD d (idxB d.length (-1)) (durf (fall d))
theorem spK_len (d:List Int):(spK d).length=durf (fall d):=by
  have h1:=durf_le (fall d)
  rw [fall_len] at h1
  have h2:(srtC (gtD d) [] (idxB d.length (-1))).length=d.length:=by rw [topD_len d _ 0,idxB_all];simp
  rw [spK,topD,List.length_take,h2];omega
theorem spK_mem {d:List Int} {x:Int} (h:x ∈ spK d):0≤x∧x < d.length:=by
  have h1:=(srtC_perm (gtD d) (idxB d.length (-1)) []).mem_iff.1 (List.mem_of_mem_take h)
  rw [List.nil_append] at h1
  exact mem_idxB.1 h1
theorem spK_nd (d:List Int):(spK d).Nodup:=by
  have h1:(srtC (gtD d) [] (idxB d.length (-1))).Nodup:=by
    have:=(srtC_perm (gtD d) (idxB d.length (-1)) []).nodup_iff
    rw [this,List.nil_append]
    exact (idxB_pw d.length).imp fun h=>by omega
  exact h1.sublist (List.take_sublist _ _)
theorem spK_sum (d:List Int):S (spK d) (fun v=>d.getD v.toNat 0)=((fall d).take (durf (fall d))).sum:=by
  have h:(((srtC (gtD d) [] (idxB d.length (-1))).map (fun v=>d.getD v.toNat 0)).take (durf (fall d))).sum=((fall d).take (durf (fall d))).sum:=by rw [srt_fall d]
  rw [← h,← List.map_take];rfl
def spP (es:List (Int×Int)) (K:List Int) (e:Int×Int):Bool:=decide (e.1 ∈ K) != decide (e.2 ∈ K) || hasM es e.1 e.2 == decide (e.1 ∈ K)
def spOK (n:Nat) (es:List (Int×Int)):Bool:=(prs n).all (spP es (spK (degs n es)))
theorem spOK_pts {n:Nat} {es:List (Int×Int)} {K:List Int} (hb:∀ x ∈ K,0≤x):(prs n).all (spP es K)=ptsOK n es (K.map Int.toNat):=by
  rw [ptsOK,Bool.eq_iff_iff,List.all_eq_true,List.all_eq_true]
  have key:∀ e ∈ prs n,spP es K e=(decide (e.1.toNat ∈ K.map Int.toNat) != decide (e.2.toNat ∈ K.map Int.toNat) || decide (e ∈ es) == decide (e.1.toNat ∈ K.map Int.toNat)):=fun e he=>by
    have hm:=mem_prs.1 he
    have m:∀ x:Int,0≤x→decide (x.toNat ∈ K.map Int.toNat)=decide (x ∈ K):=fun x hx=>by
      rw [decide_eq_decide,List.mem_map]
      constructor
      · rintro ⟨y,h1,h2⟩
        have:=hb y h1
        rw [show x=y by omega];exact h1
      · intro h;exact ⟨x,h,rfl⟩
    have h3:hasM es e.1 e.2=decide (e ∈ es):=by
      rw [Bool.eq_iff_iff,hasM_iff,decide_eq_true_eq,show min e.1 e.2=e.1 by omega,show max e.1 e.2=e.2 by omega]
    rw [spP,m _ (by omega),m _ (by omega),h3]
  exact ⟨fun h e he=>by rw [← key e he];exact h e he,fun h e he=>by rw [key e he];exact h e he⟩
theorem sp_two (n:Nat) (es:List (Int×Int)) (h:vGraph n es=true) :
    ∃ V:Int,0≤V∧(if (degs n es).length=0 then 0 else (slacks (degs n es)).getD (durf (fall (degs n es)) - 1) 0)=2 * V∧(V=0 ↔ spOK n es=true):=by
  have hdl:(degs n es).length=n:=by rw [degs,dfold_len];simp
  have hs:=degs_sum (vG_iff.1 h).2.1
  have hin:EdgesIn n es:=fun e he=>by have:=mem_prs.1 ((vG_iff.1 h).2.1 e he);omega
  have hdeg:∀ v,v < n→(degs n es).getD v 0=deg es v:=fun v hv=>by
    rw [degs_eq hin,List.getD_eq_getElem?_getD,List.getElem?_map,List.getElem?_range hv];rfl
  rw [spOK]
  by_cases h0:n=0
  · subst h0
    rw [if_pos hdl]
    exact ⟨0,by omega,by omega,by rw [show prs 0=[] from rfl];simp⟩
  rw [if_neg (by omega)]
  have hl:=spK_len (degs n es)
  have hm:∀ x ∈ spK (degs n es),0≤x∧x < n:=fun x hx=>by have:=spK_mem hx;rw [hdl] at this;exact this
  have hsum:=spK_sum (degs n es)
  have hsl:=slk_durf (fall_desc (degs n es))
  rw [fall_sum,hs] at hsl
  have hnn:∀ x ∈ fall (degs n es),0≤x:=fun x hx=>by
    have:=valid_mem (degs_valid h) x ((fall_perm _).mem_iff.1 hx);omega
  have h1:=durf_ge (s:=fall (degs n es)) (fun hh=>by have:=fall_len (degs n es);rw [hh] at this;simp at this;omega) hnn
  have h2:=durf_le (fall (degs n es))
  rw [fall_len,hdl] at h2
  have hget:(slacks (degs n es)).getD (durf (fall (degs n es)) - 1) 0=slk (fall (degs n es)) (durf (fall (degs n es))):=by
    rw [slacks_S,slS,fall_len,hdl,List.getD_eq_getElem?_getD,List.getElem?_map,List.getElem?_range (by omega)]
    simp only [Option.map_some,Option.getD_some]
    rw [show durf (fall (degs n es)) - 1+1=durf (fall (degs n es)) by omega]
  rw [hget]
  have hnd:((spK (degs n es)).map Int.toNat).Nodup:=by
    rw [List.Nodup,List.pairwise_map]
    exact List.Pairwise.imp_of_mem (fun {a b} ha hb hne=>by have:=hm a ha;have:=hm b hb;omega) (spK_nd (degs n es))
  have hb:∀ v ∈ (spK (degs n es)).map Int.toNat,v < n:=fun v hv=>by
    obtain ⟨x,hx,rfl⟩:=List.mem_map.1 hv
    have:=hm x hx;omega
  have hv:=viol_sum h hnd hb
  have hS:S ((spK (degs n es)).map Int.toNat) (deg es)=S (spK (degs n es)) (fun v=>(degs n es).getD v.toNat 0):=by
    rw [S_map]
    exact S_congr fun x hx=>(hdeg _ (by have:=hm x hx;omega)).symm
  rw [hS,hsum,List.length_map,hl] at hv
  rw [spOK_pts (fun x hx=>(hm x hx).1),← viol_zero hnd]
  have hz:0≤S (prs n) (viol es ((spK (degs n es)).map Int.toNat)):=S_nonneg fun e he=>(viol_pair hnd he).1
  refine ⟨S (prs n) (viol es ((spK (degs n es)).map Int.toNat)),hz,?_,Iff.rfl⟩
  rw [hsl]
  omega
theorem sp_split (n:Nat) (es:List (Int×Int)) (h:vGraph n es=true):decide (splitt (degs n es)=0)=spOK n es:=by
  obtain ⟨V,h1,h2,h3⟩:=sp_two n es h
  have hg:=degs_graphic h
  rw [splitt,hg,if_pos rfl,Bool.eq_iff_iff,decide_eq_true_eq,← h3]
  by_cases h0:(degs n es).length=0
  · rw [if_pos h0] at h2 ⊢;omega
  · rw [if_neg h0] at h2 ⊢
    rw [h2,Int.tdiv_eq_ediv_of_nonneg (by omega)]
    omega
theorem splitt_fall (d:List Int) (hv:valid d=true):splitt (fall d)=splitt d:=by
  have hs:slacks (fall d)=slacks d:=by rw [slacks_S,slacks_S,fall_fall]
  have hg:graphic (fall d)=graphic d:=by
    simp only [graphic,fall_valid hv,hv,fall_sum,hs]
  rw [splitt,splitt,hg,fall_len,hs,fall_fall]
end Go.Idl
namespace Go.Idl
open Go
theorem ev_durfee (d:List Int) (c:Bool) (hl:d.length≤7):Ev tb zl349 [] [L d c] [] ⟨I (durf (fall d)),[],[],[]⟩:=by
  have e1:=ev_lim (ev_spec_falling d c (by omega))
  have hfl:=fall_len d
  generalize fall d=s at *
  have loop:∀ (m i k:Nat),i+m=s.length→k≤i→wp tb (.loop z349l8) { T:=[(3,O s),(4,I k),(5,I i)],loc:=[],M:=[] }
      (fun ex st=>ex=.exit 0∧st={ T:=[(3,O s),(4,I (durfA (s.drop i) i k)),(5,I s.length),(11,Bo false)],loc:=[],M:=[] }):=by
    intro m
    induction m with
    | zero =>
      intro i k hi hk
      obtain ⟨h1,h2⟩:=drop_end hi
      have h3:i=s.length:=hi
      subst h3
      refine wp_loop ?_
      repeat (first|apply wp_as|apply wp_ss|refine wr (by simp;with_reducible rfl) ?_|refine wq (by simp;with_reducible rfl) ?_|refine wt (by simpa) ?_|refine wf (by simpa) ?_|refine xt (by simpa) ?_|refine xf (by simpa) ?_|apply wp_bs|apply wp_b|refine wp_sr ?_|refine wp_sx ?_|refine wp_ret' ?_|refine wp_skip' ?_|refine wp_exit' ?_)
      rw [h2];exact ⟨rfl,rfl⟩
    | succ m ih =>
      intro i k hi hk
      obtain ⟨hi2,h2,h3⟩:=drop_get hi
      have w2:IntKind.i64.wrap ((i:Int)+1)=((i+1:Nat):Int):=wrapS (by omega)
      rw [h2,durfA]
      by_cases hq:(i:Int)≤s[i]
      · rw [if_pos hq]
        refine wp_loop ?_
        repeat (first|apply wp_as|apply wp_ss|refine wr (by simp [hi2,hq,w2];with_reducible rfl) ?_|refine wq (by simp [hi2,hq,w2];with_reducible rfl) ?_|refine wt (by simpa [hi2,hq,w2]) ?_|refine wf (by simpa [hi2,hq,w2]) ?_|refine xt (by simpa [hi2,hq,w2]) ?_|refine xf (by simpa [hi2,hq,w2]) ?_|apply wp_bs|apply wp_b|refine wp_sr ?_|refine wp_sx ?_|refine wp_ret' ?_|refine wp_skip' ?_|refine wp_exit' ?_)
        exact ih (i+1) (i+1) (by omega) (by omega)
      · rw [if_neg hq]
        refine wp_loop ?_
        repeat (first|apply wp_as|apply wp_ss|refine wr (by simp [hi2,hq,w2];with_reducible rfl) ?_|refine wq (by simp [hi2,hq,w2];with_reducible rfl) ?_|refine wt (by simpa [hi2,hq,w2]) ?_|refine wf (by simpa [hi2,hq,w2]) ?_|refine xt (by simpa [hi2,hq,w2]) ?_|refine xf (by simpa [hi2,hq,w2]) ?_|apply wp_bs|apply wp_b|refine wp_sr ?_|refine wp_sx ?_|refine wp_ret' ?_|refine wp_skip' ?_|refine wp_exit' ?_)
        exact ih (i+1) k (by omega) (by omega)
  refine call_of_wp zt349 rfl ?_
  repeat (first|apply wp_as|apply wp_ss|refine wr (by simp [e1];with_reducible rfl) ?_|refine wq (by simp [e1];with_reducible rfl) ?_|refine wt (by simpa [e1]) ?_|refine wf (by simpa [e1]) ?_|refine xt (by simpa [e1]) ?_|refine xf (by simpa [e1]) ?_|apply wp_bs|apply wp_b|refine wp_sr ?_|refine wp_sx ?_|refine wp_ret' ?_|refine wp_skip' ?_|refine wp_exit' ?_)
  refine wp_imp (loop s.length 0 0 (by simp) (by omega)) ?_
  rintro ex st ⟨rfl,rfl⟩
  try simp only [if_true]
  repeat (first|apply wp_as|apply wp_ss|refine wr (by simp;with_reducible rfl) ?_|refine wq (by simp;with_reducible rfl) ?_|refine wt (by simpa) ?_|refine wf (by simpa) ?_|refine xt (by simpa) ?_|refine xf (by simpa) ?_|apply wp_bs|apply wp_b|refine wp_sr ?_|refine wp_sx ?_|refine wp_ret' ?_|refine wp_skip' ?_|refine wp_exit' ?_)
  simp [zi349,durf]
theorem ev_splittance (d:List Int) (c:Bool) (hv:valid d=true):Ev tb zl381 [] [L d c] [] ⟨I (if d.length=0 then 0 else (slacks d).getD (durf (fall d) - 1) 0),[],[],[]⟩:=by
  have hf:=valid_few hv
  have e1:=ev_lim (ev_durfee d c hf.1)
  by_cases h0:d.length=0
  · have hd:d=[]:=List.length_eq_zero_iff.1 h0
    subst hd
    have hz:durf (fall [])=0:=rfl
    rw [hz,show ((0:Nat):Int)=0 from rfl] at e1
    rw [if_pos h0]
    refine call_of_wp zt381 rfl ?_
    repeat (first|apply wp_as|apply wp_ss|refine wr (by simp [e1];with_reducible rfl) ?_|refine wq (by simp [e1];with_reducible rfl) ?_|refine wt (by simpa [e1]) ?_|refine wf (by simpa [e1]) ?_|refine xt (by simpa [e1]) ?_|refine xf (by simpa [e1]) ?_|apply wp_bs|apply wp_b|refine wp_sr ?_|refine wp_sx ?_|refine wp_ret' ?_|refine wp_skip' ?_|refine wp_exit' ?_)
    simp [zi381]
  have e2:=ev_lim (ev_slacks d c hf)
  have hd1:=durf_le (fall d)
  have hd2:1≤durf (fall d):=durf_ge (fun h=>h0 (by rw [← fall_len,h];rfl)) (fun x hx=>(hf.fall.2 x hx).1)
  rw [fall_len] at hd1
  have hsl:=slacks_len d
  obtain ⟨k,hk⟩:∃ k,durf (fall d)=k+1:=⟨durf (fall d) - 1,by omega⟩
  have hl:=hf.1
  have w1:IntKind.i64.wrap (k:Int)=(k:Int):=wrap64 (by omega) (by omega)
  have hk2:k < (slacks d).length:=by omega
  have hs:(slacks d).getD (durf (fall d) - 1) 0=(slacks d)[k]:=by
    rw [hk,Nat.add_sub_cancel,List.getD_eq_getElem?_getD,List.getElem?_eq_getElem hk2];rfl
  have hkz:¬ (k:Int)+1=0:=by omega
  rw [if_neg h0,hs]
  rw [hk] at e1
  refine call_of_wp zt381 rfl ?_
  repeat (first|apply wp_as|apply wp_ss|refine wr (by simp [e1,e2,w1,hk2,hkz];with_reducible rfl) ?_|refine wq (by simp [e1,e2,w1,hk2,hkz];with_reducible rfl) ?_|refine wt (by simpa [e1,e2,w1,hk2,hkz]) ?_|refine wf (by simpa [e1,e2,w1,hk2,hkz]) ?_|refine xt (by simpa [e1,e2,w1,hk2,hkz]) ?_|refine xf (by simpa [e1,e2,w1,hk2,hkz]) ?_|apply wp_bs|apply wp_b|refine wp_sr ?_|refine wp_sx ?_|refine wp_ret' ?_|refine wp_skip' ?_|refine wp_exit' ?_)
  simp [zi381]
end Go.Idl
namespace Go.Idl
open Go
theorem edgesIn_ins {N:Nat} {es:List (Int×Int)} (h:EdgesIn N es) {a b:Int} (ha:0≤a∧a < N) (hb:0≤b∧b < N):EdgesIn N (insE (min a b,max a b) es):=fun e he=>by
  rcases (insE_mem _ _ _).1 he with rfl | he
  · simp only;omega
  · exact h e he
end Go.Idl
namespace Go.Idl
open Go
theorem rI_succ (i:Nat):rI (i+1)=rI i++[(i:Int)]:=by simp [rI,List.range_succ]
theorem mv_to (n:Nat) (hn:n≤7) (es:List (Int×Int)) (c:Bool) (B:Boxes) (Ms:List Boxes):∀ (m i:Nat),i+m=n →
    wp tb (.loop z363l6) { T:=[(0,.bptr 0 0 0),(3,.bptr (Ms.length+1) 0 0),(4,.bptr (Ms.length+1) 1 0),(5,O (rI i)),(6,I i)],loc:=[[I n,L2 es c],[I 0,Z]],M:=B::Ms }
      (fun ex st=>ex=.exit 0∧st={ T:=[(0,.bptr 0 0 0),(3,.bptr (Ms.length+1) 0 0),(4,.bptr (Ms.length+1) 1 0),(5,O (rI n)),(6,I n),(16,Bo false)],loc:=[[I n,L2 es c],[I 0,Z]],M:=B::Ms }):=by
  intro m
  induction m with
  | zero =>
    intro i hi
    have h3:i=n:=hi
    subst h3
    refine wp_loop ?_
    repeat (first|refine wp_as ?_|refine wp_ss ?_|refine wr (by simp;with_reducible rfl) ?_|refine wq (by simp;with_reducible rfl) ?_|refine wt (by simpa) ?_|refine wf (by simpa) ?_|refine xt (by simpa) ?_|refine xf (by simpa) ?_|refine wp_bs ?_|refine wp_b ?_|refine wp_sr ?_|refine wp_sx ?_|refine wp_ret' ?_|refine wp_skip' ?_|refine wp_exit' ?_)
    exact ⟨rfl,rfl⟩
  | succ m ih =>
    intro i hi
    have hi2:i < n:=by omega
    have w2:IntKind.i64.wrap ((i:Int)+1)=((i+1:Nat):Int):=wrapS (by omega)
    have hn2:=ih (i+1) (by omega)
    rw [rI_succ] at hn2
    have hal:=rI_len i
    generalize rI i=A at *
    have hl1:i+1≤274877906944:=by omega
    have hT:A.take i=A:=List.take_of_length_le (by omega)
    refine wp_loop ?_
    repeat (first|refine wp_as ?_|refine wp_ss ?_|refine wr (by simp [hi2,w2,hal,hl1,hT];with_reducible rfl) ?_|refine wq (by simp [hi2,w2,hal,hl1,hT];with_reducible rfl) ?_|refine wt (by simpa [hi2,w2,hal,hl1,hT]) ?_|refine wf (by simpa [hi2,w2,hal,hl1,hT]) ?_|refine xt (by simpa [hi2,w2,hal,hl1,hT]) ?_|refine xf (by simpa [hi2,w2,hal,hl1,hT]) ?_|refine wp_bs ?_|refine wp_b ?_|refine wp_sr ?_|refine wp_sx ?_|refine wp_ret' ?_|refine wp_skip' ?_|refine wp_exit' ?_)
    exact hn2
theorem mv_sw (code:List Int) (c0:Bool) (hc:CodeOk code) (n:Nat) (hn:n≤7) (es:List (Int×Int)) (c:Bool) (bs:Boxes) (Ms:List Boxes):∀ (m i cnt:Nat) (to:List Int),i+m=n→to.length=n→(∀ x ∈ to,0≤x∧x < n)→cnt+m≤900000 →
    wp tb (.loop z363l14) { T:=[(0,.bptr 0 0 0),(3,.bptr (Ms.length+1) 0 0),(4,.bptr (Ms.length+1) 1 0),(5,O to),(7,I i)],loc:=[[I n,L2 es c],[I 0,Z]],M:=(R code c0 cnt::bs)::Ms }
      (fun ex st=>ex=.exit 2∧∃ (to:List Int) (k:Nat),(to.length=n∧(∀ x ∈ to,0≤x∧x < n)∧k≤cnt+m)∧st={ T:=[(0,.bptr 0 0 0),(3,.bptr (Ms.length+1) 0 0),(4,.bptr (Ms.length+1) 1 0),(5,O to),(7,I n),(26,Bo false)],loc:=[[I n,L2 es c],[I 0,Z]],M:=(R code c0 k::bs)::Ms }):=by
  intro m
  induction m with
  | zero =>
    intro i cnt to hi hl hb hk
    have h3:i=n:=hi
    subst h3
    refine wp_loop ?_
    repeat (first|refine wp_as ?_|refine wp_ss ?_|refine wr (by simp;with_reducible rfl) ?_|refine wq (by simp;with_reducible rfl) ?_|refine wt (by simpa) ?_|refine wf (by simpa) ?_|refine xt (by simpa) ?_|refine xf (by simpa) ?_|refine wp_bs ?_|refine wp_b ?_|refine wp_sr ?_|refine wp_sx ?_|refine wp_ret' ?_|refine wp_skip' ?_|refine wp_exit' ?_)
    exact ⟨rfl,to,cnt,⟨hl,hb,by omega⟩,rfl⟩
  | succ m ih =>
    intro i cnt to hi hl hb hk
    have hi2:i < n:=by omega
    have hil:i < to.length:=by omega
    obtain ⟨v,k,hv,hk2,e1⟩:=pick' code c0 hc cnt (by omega) (n:Int) (by omega) bs (Ms++[[[I n,L2 es c],[I 0,Z]]])
    have hv:=hv (by omega)
    have hvn:v < n:=by omega
    have hvl:v < to.length:=by omega
    have w2:IntKind.i64.wrap ((i:Int)+1)=((i+1:Nat):Int):=wrapS (by omega)
    have hi3:=hb _ (List.getElem_mem hil)
    have hv3:=hb _ (List.getElem_mem hvl)
    have hn2:=ih (i+1) k ((to.set i to[v]).set v to[i]) (by omega) (by simpa using hl) (fun x hx=>by
      rcases List.mem_or_eq_of_mem_set hx with hx | rfl
      · rcases List.mem_or_eq_of_mem_set hx with hx | rfl
        · exact hb x hx
        · exact hv3
      · exact hi3) (by omega)
    refine wp_loop ?_
    repeat (first|refine wp_as ?_|refine wp_ss ?_|refine wr (by simp [hi2,hil,hvn,hvl,hl,e1,w2];with_reducible rfl) ?_|refine wq (by simp [hi2,hil,hvn,hvl,hl,e1,w2];with_reducible rfl) ?_|refine wt (by simpa [hi2,hil,hvn,hvl,hl,e1,w2]) ?_|refine wf (by simpa [hi2,hil,hvn,hvl,hl,e1,w2]) ?_|refine xt (by simpa [hi2,hil,hvn,hvl,hl,e1,w2]) ?_|refine xf (by simpa [hi2,hil,hvn,hvl,hl,e1,w2]) ?_|refine wp_bs ?_|refine wp_b ?_|refine wp_sr ?_|refine wp_sx ?_|refine wp_ret' ?_|refine wp_skip' ?_|refine wp_exit' ?_)
    refine wp_imp hn2 ?_
    rintro ex st ⟨rfl,to',k',⟨h1,h2,h3⟩,rfl⟩
    exact ⟨rfl,to',k',⟨h1,h2,by omega⟩,rfl⟩
theorem mv_ed (n:Nat) (hn:n≤7) (es:List (Int×Int)) (c:Bool) (hes:EdgesIn n es) (hel:es.length≤100) (to:List Int) (hl:to.length=n) (hb:∀ x ∈ to,0≤x∧x < n) (M:List Boxes) (L:Nat) (hL:L=M.length):∀ (m i:Nat) (out:List (Int×Int)),i+m=es.length→out.length=i→EdgesIn n out →
    wp tb (.loop z363l20) { T:=[(3,.bptr L 0 0),(4,.bptr L 1 0),(5,O to),(10,.bptr L 2 0),(11,I i)],loc:=[[I n,L2 es c],[I 0,Z],[I n,O2 out]],M:=M }
      (fun ex st=>ex=.exit 4∧∃ out:List (Int×Int),(out.length=es.length∧EdgesIn n out)∧st={ T:=[(3,.bptr L 0 0),(4,.bptr L 1 0),(5,O to),(10,.bptr L 2 0),(11,I es.length),(56,Bo false)],loc:=[[I n,L2 es c],[I 0,Z],[I n,O2 out]],M:=M }):=by
  subst hL
  intro m
  induction m with
  | zero =>
    intro i out hi ho hin
    have h3:i=es.length:=hi
    subst h3
    refine wp_loop ?_
    repeat (first|refine wp_as ?_|refine wp_ss ?_|refine wr (by simp;with_reducible rfl) ?_|refine wq (by simp;with_reducible rfl) ?_|refine wt (by simpa) ?_|refine wf (by simpa) ?_|refine xt (by simpa) ?_|refine xf (by simpa) ?_|refine wp_bs ?_|refine wp_b ?_|refine wp_sr ?_|refine wp_sx ?_|refine wp_ret' ?_|refine wp_skip' ?_|refine wp_exit' ?_)
    exact ⟨rfl,out,⟨ho,hin⟩,rfl⟩
  | succ m ih =>
    intro i out hi ho hin
    have hi2:i < es.length:=by omega
    have he:=hes _ (List.getElem_mem hi2)
    obtain ⟨p,hp⟩:=Int.eq_ofNat_of_zero_le he.1
    obtain ⟨q,hq⟩:=Int.eq_ofNat_of_zero_le he.2.2.1
    have hpn:p < n:=by omega
    have hqn:q < n:=by omega
    have hpl:p < to.length:=by omega
    have hql:q < to.length:=by omega
    have w2:IntKind.i64.wrap ((i:Int)+1)=((i+1:Nat):Int):=wrapS (by omega)
    have e1:=fun cc=>ev_lim (ev_addEdge n out cc to[p] to[q] (by omega))
    have hot:out.take out.length=out:=List.take_of_length_le (Nat.le_refl _)
    have hn2:=ih (i+1) (insE (min to[p] to[q],max to[p] to[q]) out) (by omega) (by rw [insE_len,ho]) (edgesIn_ins hin (hb _ (List.getElem_mem hpl)) (hb _ (List.getElem_mem hql)))
    refine wp_loop ?_
    repeat (first|refine wp_as ?_|refine wp_ss ?_|refine wr (by simp [hi2,hp,hq,hpn,hqn,hpl,hql,hl,w2,e1,hot];with_reducible rfl) ?_|refine wq (by simp [hi2,hp,hq,hpn,hqn,hpl,hql,hl,w2,e1,hot];with_reducible rfl) ?_|refine wt (by simpa [hi2,hp,hq,hpn,hqn,hpl,hql,hl,w2,e1,hot]) ?_|refine wf (by simpa [hi2,hp,hq,hpn,hqn,hpl,hql,hl,w2,e1,hot]) ?_|refine xt (by simpa [hi2,hp,hq,hpn,hqn,hpl,hql,hl,w2,e1,hot]) ?_|refine xf (by simpa [hi2,hp,hq,hpn,hqn,hpl,hql,hl,w2,e1,hot]) ?_|refine wp_bs ?_|refine wp_b ?_|refine wp_sr ?_|refine wp_sx ?_|refine wp_ret' ?_|refine wp_skip' ?_|refine wp_exit' ?_)
    exact hn2
theorem ev_moved (code:List Int) (c0:Bool) (hc:CodeOk code) (cnt:Nat) (hcn:cnt≤80000) (n:Nat) (hn:n≤7) (es:List (Int×Int)) (c:Bool) (hes:EdgesIn n es) (hel:es.length≤100) (bs:Boxes) (Ms:List Boxes) :
    ∃ (out:List (Int×Int)) (k:Nat),out.length=es.length∧EdgesIn n out∧k≤cnt+10 ∧
      limF tb zl363 [] [.bptr 0 0 0,Gr n es c] ((R code c0 cnt::bs)::Ms)=some ⟨OG n out,[],(R code c0 k::bs)::Ms,[]⟩:=by
  suffices hh:∃ r,(∃ (out:List (Int×Int)) (k:Nat),out.length=es.length∧EdgesIn n out∧k≤cnt+10∧r=⟨OG n out,[],(R code c0 k::bs)::Ms,[]⟩)∧Ev tb zl363 [] [.bptr 0 0 0,Gr n es c] ((R code c0 cnt::bs)::Ms) r by
    obtain ⟨r,⟨out,k,q1,q2,q3,rfl⟩,q4⟩:=hh
    exact ⟨out,k,q1,q2,q3,ev_lim q4⟩
  refine call_ex zt363 rfl ?_
  repeat (first|refine wp_as ?_|refine wp_ss ?_|refine wr (by simp;with_reducible rfl) ?_|refine wq (by simp;with_reducible rfl) ?_|refine wt (by simpa) ?_|refine wf (by simpa) ?_|refine xt (by simpa) ?_|refine xf (by simpa) ?_|refine wp_bs ?_|refine wp_b ?_|refine wp_sr ?_|refine wp_sx ?_|refine wp_ret' ?_|refine wp_skip' ?_|refine wp_exit' ?_)
  refine wp_imp (mv_to n hn es c (R code c0 cnt::bs) Ms n 0 (by omega)) ?_
  rintro ex st ⟨rfl,rfl⟩
  simp only [if_true]
  repeat (first|refine wp_as ?_|refine wp_ss ?_|refine wr (by simp;with_reducible rfl) ?_|refine wq (by simp;with_reducible rfl) ?_|refine wt (by simpa) ?_|refine wf (by simpa) ?_|refine xt (by simpa) ?_|refine xf (by simpa) ?_|refine wp_bs ?_|refine wp_b ?_|refine wp_sr ?_|refine wp_sx ?_|refine wp_ret' ?_|refine wp_skip' ?_|refine wp_exit' ?_)
  refine wp_imp (mv_sw code c0 hc n hn es c bs Ms n 0 cnt (rI n) (by omega) (rI_len n) (fun x hx=>mem_rI.1 hx) (by omega)) ?_
  rintro ex st ⟨rfl,to,k,⟨h1,h2,h3⟩,rfl⟩
  simp only [if_true]
  repeat (first|refine wp_as ?_|refine wp_ss ?_|refine wr (by simp;with_reducible rfl) ?_|refine wq (by simp;with_reducible rfl) ?_|refine wt (by simpa) ?_|refine wf (by simpa) ?_|refine xt (by simpa) ?_|refine xf (by simpa) ?_|refine wp_bs ?_|refine wp_b ?_|refine wp_sr ?_|refine wp_sx ?_|refine wp_ret' ?_|refine wp_skip' ?_|refine wp_exit' ?_)
  refine wp_imp (mv_ed n hn es c hes hel to h1 h2 ((R code c0 k::bs)::Ms) (Ms.length+1) (by simp) es.length 0 [] (by simp) rfl (fun e he=>by simp at he)) ?_
  rintro ex st ⟨rfl,out,⟨h4,h5⟩,rfl⟩
  simp only [if_true]
  have hot:out.take out.length=out:=List.take_of_length_le (Nat.le_refl _)
  repeat (first|refine wp_as ?_|refine wp_ss ?_|refine wr (by simp [hot];with_reducible rfl) ?_|refine wq (by simp [hot];with_reducible rfl) ?_|refine wt (by simpa [hot]) ?_|refine wf (by simpa [hot]) ?_|refine xt (by simpa [hot]) ?_|refine xf (by simpa [hot]) ?_|refine wp_bs ?_|refine wp_b ?_|refine wp_sr ?_|refine wp_sx ?_|refine wp_ret' ?_|refine wp_skip' ?_|refine wp_exit' ?_)
  refine ⟨.inr rfl,_,⟨out,k,h4,h5,by omega,rfl⟩,?_⟩
  simp [zi363]
end Go.Idl
namespace Go.Idl
open Go
theorem prs_le21:∀ n,n≤7→(prs n).length≤21:=by decide +kernel
theorem sp_in (h w:Nat) (hh:h≤3) (h1:1≤h) (hw:w≤4) (t:List (List Int)) (c:Bool) (ht:MM h w t):∀ (m i:Nat) (acc:List (Int×Int)) (Bx:Boxes),i+m=(prs (h+w)).length→acc.Sublist ((prs (h+w)).take i) →
    wp tb (.loop z380l9) { T:=[(0,TL t c),(2,.bptr 0 0 0),(3,.bptr 0 1 0),(4,O2 (prs (h+w))),(5,I i)],loc:=[I 0,Z]::[I ((h:Int)+w),O2 acc]::Bx,M:=[] }
      (fun ex st=>ex=.exit 0∧∃ (acc:List (Int×Int)) (Bx:Boxes),acc.Sublist (prs (h+w))∧st={ T:=[(0,TL t c),(2,.bptr 0 0 0),(3,.bptr 0 1 0),(4,O2 (prs (h+w))),(5,I (prs (h+w)).length),(22,Bo false)],loc:=[I 0,Z]::[I ((h:Int)+w),O2 acc]::Bx,M:=[] }):=by
  have hpl:=prs_le21 (h+w) (by omega)
  have htl:=ht.1
  intro m
  induction m with
  | zero =>
    intro i acc Bx hi hs
    have h3:i=(prs (h+w)).length:=hi
    subst h3
    rw [List.take_length] at hs
    refine wp_loop ?_
    repeat (first|apply wp_as|apply wp_ss|refine wr (by simp;with_reducible rfl) ?_|refine wq (by simp;with_reducible rfl) ?_|refine wt (by simpa) ?_|refine wf (by simpa) ?_|refine xt (by simpa) ?_|refine xf (by simpa) ?_|apply wp_bs|apply wp_b|refine wp_sr ?_|refine wp_sx ?_|refine wp_ret' ?_|refine wp_skip' ?_|refine wp_exit' ?_)
    exact ⟨rfl,acc,Bx,hs,rfl⟩
  | succ m ih =>
    intro i acc Bx hi hs
    have hi2:i < (prs (h+w)).length:=by omega
    have he:=mem_prs.1 (List.getElem_mem hi2)
    obtain ⟨p,hp⟩:=Int.eq_ofNat_of_zero_le he.1
    obtain ⟨q,hq⟩:=Int.eq_ofNat_of_zero_le (show 0≤((prs (h+w))[i]).2 by omega)
    have hpq:p < q:=by omega
    have hqn:q < h+w:=by omega
    have w2:IntKind.i64.wrap ((i:Int)+1)=((i+1:Nat):Int):=wrapS (by omega)
    have hall:acc.length≤21:=by have:=hs.length_le;simp at this;omega
    have hal1:acc.length+1≤274877906944:=by omega
    have hat:acc.take acc.length=acc:=List.take_of_length_le (Nat.le_refl _)
    have hyes:=ih (i+1) (acc++[(prs (h+w))[i]]) (Bx++[[I p,I q]]) (by omega) (sub_take_succ hi2 hs)
    have hno:=ih (i+1) acc (Bx++[[I p,I q]]) (by omega) (sub_take_skip hs)
    have heq:(prs (h+w))[i]=((p:Int),(q:Int)):=Prod.ext hp hq
    rw [heq] at hyes
    by_cases hqh:q < h
    · have hqh':(q:Int) < (t.length:Int):=by omega
      refine wp_loop ?_
      repeat (first|apply wp_as|apply wp_ss|refine wr (by simp [hi2,hp,hq,htl,hqh,hqh',w2,hal1,hat];with_reducible rfl) ?_|refine wq (by simp [hi2,hp,hq,htl,hqh,hqh',w2,hal1,hat];with_reducible rfl) ?_|refine wt (by simpa [hi2,hp,hq,htl,hqh,hqh',w2,hal1,hat]) ?_|refine wf (by simpa [hi2,hp,hq,htl,hqh,hqh',w2,hal1,hat]) ?_|refine xt (by simpa [hi2,hp,hq,htl,hqh,hqh',w2,hal1,hat]) ?_|refine xf (by simpa [hi2,hp,hq,htl,hqh,hqh',w2,hal1,hat]) ?_|apply wp_bs|apply wp_b|refine wp_sr ?_|refine wp_sx ?_|refine wp_ret' ?_|refine wp_skip' ?_|refine wp_exit' ?_)
      exact hyes
    have hqh':¬ (q:Int) < (t.length:Int):=by omega
    by_cases hph:p < h
    · have hpt:p < t.length:=by omega
      have hrow:=ht.2 _ (List.getElem_mem hpt)
      obtain ⟨j,hj⟩:∃ j,q=h+j:=⟨q - h,by omega⟩
      have hjl:j < t[p].length:=by omega
      have w3:IntKind.i64.wrap ((q:Int) - h)=(j:Int):=by rw [wrap64 (by omega) (by omega)];omega
      have hjw:j < w:=by omega
      have hrl:=hrow.1
      by_cases hone:t[p][j]=1
      · refine wp_loop ?_
        repeat (first|apply wp_as|apply wp_ss|refine wr (by simp [hi2,hp,hq,htl,hqh,hqh',hph,hpt,w3,hjl,hrl,hjw,hone,w2,hal1,hat];with_reducible rfl) ?_|refine wq (by simp [hi2,hp,hq,htl,hqh,hqh',hph,hpt,w3,hjl,hrl,hjw,hone,w2,hal1,hat];with_reducible rfl) ?_|refine wt (by simpa [hi2,hp,hq,htl,hqh,hqh',hph,hpt,w3,hjl,hrl,hjw,hone,w2,hal1,hat]) ?_|refine wf (by simpa [hi2,hp,hq,htl,hqh,hqh',hph,hpt,w3,hjl,hrl,hjw,hone,w2,hal1,hat]) ?_|refine xt (by simpa [hi2,hp,hq,htl,hqh,hqh',hph,hpt,w3,hjl,hrl,hjw,hone,w2,hal1,hat]) ?_|refine xf (by simpa [hi2,hp,hq,htl,hqh,hqh',hph,hpt,w3,hjl,hrl,hjw,hone,w2,hal1,hat]) ?_|apply wp_bs|apply wp_b|refine wp_sr ?_|refine wp_sx ?_|refine wp_ret' ?_|refine wp_skip' ?_|refine wp_exit' ?_)
        exact hyes
      · refine wp_loop ?_
        repeat (first|apply wp_as|apply wp_ss|refine wr (by simp [hi2,hp,hq,htl,hqh,hqh',hph,hpt,w3,hjl,hrl,hjw,hone,w2,hal1,hat];with_reducible rfl) ?_|refine wq (by simp [hi2,hp,hq,htl,hqh,hqh',hph,hpt,w3,hjl,hrl,hjw,hone,w2,hal1,hat];with_reducible rfl) ?_|refine wt (by simpa [hi2,hp,hq,htl,hqh,hqh',hph,hpt,w3,hjl,hrl,hjw,hone,w2,hal1,hat]) ?_|refine wf (by simpa [hi2,hp,hq,htl,hqh,hqh',hph,hpt,w3,hjl,hrl,hjw,hone,w2,hal1,hat]) ?_|refine xt (by simpa [hi2,hp,hq,htl,hqh,hqh',hph,hpt,w3,hjl,hrl,hjw,hone,w2,hal1,hat]) ?_|refine xf (by simpa [hi2,hp,hq,htl,hqh,hqh',hph,hpt,w3,hjl,hrl,hjw,hone,w2,hal1,hat]) ?_|apply wp_bs|apply wp_b|refine wp_sr ?_|refine wp_sx ?_|refine wp_ret' ?_|refine wp_skip' ?_|refine wp_exit' ?_)
        exact hno
    · refine wp_loop ?_
      repeat (first|apply wp_as|apply wp_ss|refine wr (by simp [hi2,hp,hq,htl,hqh,hqh',hph,w2,hal1,hat];with_reducible rfl) ?_|refine wq (by simp [hi2,hp,hq,htl,hqh,hqh',hph,w2,hal1,hat];with_reducible rfl) ?_|refine wt (by simpa [hi2,hp,hq,htl,hqh,hqh',hph,w2,hal1,hat]) ?_|refine wf (by simpa [hi2,hp,hq,htl,hqh,hqh',hph,w2,hal1,hat]) ?_|refine xt (by simpa [hi2,hp,hq,htl,hqh,hqh',hph,w2,hal1,hat]) ?_|refine xf (by simpa [hi2,hp,hq,htl,hqh,hqh',hph,w2,hal1,hat]) ?_|apply wp_bs|apply wp_b|refine wp_sr ?_|refine wp_sx ?_|refine wp_ret' ?_|refine wp_skip' ?_|refine wp_exit' ?_)
      exact hno
theorem ev_splitGraph (h w:Nat) (hh:h≤3) (h1:1≤h) (hw:w≤4) (t:List (List Int)) (c:Bool) (ht:MM h w t) :
    ∃ acc:List (Int×Int),acc.Sublist (prs (h+w))∧Ev tb zl380 [] [TL t c] [] ⟨OG ((h:Int)+w) acc,[],[],[]⟩:=by
  suffices hx:∃ r,(∃ acc:List (Int×Int),acc.Sublist (prs (h+w))∧r=⟨OG ((h:Int)+w) acc,[],[],[]⟩)∧Ev tb zl380 [] [TL t c] [] r by
    obtain ⟨r,⟨acc,q1,rfl⟩,q2⟩:=hx
    exact ⟨acc,q1,q2⟩
  have htl:=ht.1
  have h0:0 < t.length:=by omega
  have hr0:=(ht.2 _ (List.getElem_mem h0)).1
  have h0':0 < h:=h1
  have w1:IntKind.i64.wrap ((h:Int)+w)=(h:Int)+w:=wrap64 (by omega) (by omega)
  have e1:=ev_lim (ev_pairs (h+w) (by omega))
  rw [show ((h+w:Nat):Int)=(h:Int)+w by omega] at e1
  have hlo:=sp_in h w hh h1 hw t c ht (prs (h+w)).length 0 [] [] (by simp) (by simp)
  refine call_ex zt380 rfl ?_
  repeat (first|apply wp_as|apply wp_ss|refine wr (by simp [htl,h0',h0,hr0,w1,e1];with_reducible rfl) ?_|refine wq (by simp [htl,h0',h0,hr0,w1,e1];with_reducible rfl) ?_|refine wt (by simpa [htl,h0',h0,hr0,w1,e1]) ?_|refine wf (by simpa [htl,h0',h0,hr0,w1,e1]) ?_|refine xt (by simpa [htl,h0',h0,hr0,w1,e1]) ?_|refine xf (by simpa [htl,h0',h0,hr0,w1,e1]) ?_|apply wp_bs|apply wp_b|refine wp_sr ?_|refine wp_sx ?_|refine wp_ret' ?_|refine wp_skip' ?_|refine wp_exit' ?_)
  refine wp_imp hlo ?_
  rintro ex st ⟨rfl,acc,Bx,hs,rfl⟩
  simp only [if_true]
  have hat:acc.take acc.length=acc:=List.take_of_length_le (Nat.le_refl _)
  repeat (first|apply wp_as|apply wp_ss|refine wr (by simp [hat];with_reducible rfl) ?_|refine wq (by simp [hat];with_reducible rfl) ?_|refine wt (by simpa [hat]) ?_|refine wf (by simpa [hat]) ?_|refine xt (by simpa [hat]) ?_|refine xf (by simpa [hat]) ?_|apply wp_bs|apply wp_b|refine wp_sr ?_|refine wp_sx ?_|refine wp_ret' ?_|refine wp_skip' ?_|refine wp_exit' ?_)
  refine ⟨.inr rfl,_,⟨acc,hs,rfl⟩,?_⟩
  simp [zi380]
theorem ev_aSplit (code:List Int) (c:Bool) (hc:CodeOk code) (cnt:Nat) (hn:cnt≤60000) (bs:Boxes) (Ms:List Boxes) :
    ∃ (n:Nat) (es:List (Int×Int)) (k:Nat),n≤7∧es.length≤21∧EdgesIn n es∧k≤cnt+100 ∧
      limF tb zl332 [] [.bptr 0 0 0] ((R code c cnt::bs)::Ms)=some ⟨OG n es,[],(R code c k::bs)::Ms,[]⟩:=by
  obtain ⟨v1,k1,hv1,hk1,e1⟩:=pick' code c hc cnt (by omega) 3 (by omega) bs (Ms++[[[I 0,Z]]])
  have hv1:=hv1 (by omega)
  obtain ⟨v2,k2,hv2,hk2,e2⟩:=pick' code c hc k1 (by omega) 4 (by omega) bs (Ms++[[[I 0,Z]]])
  have hv2:=hv2 (by omega)
  obtain ⟨t,k3,ht,hk3,e3⟩:=ev_aMatrix code c hc k2 (by omega) (1+v1) (1+v2) (by omega) (by omega) bs (Ms++[[[I 0,Z]]])
  rw [show ((1+v1:Nat):Int)=1+(v1:Int) by omega,show ((1+v2:Nat):Int)=1+(v2:Int) by omega] at e3
  obtain ⟨acc,hs,hE⟩:=ev_splitGraph (1+v1) (1+v2) (by omega) (by omega) (by omega) t false ht
  have e4:=ev_lim hE
  have hal:=hs.length_le
  have hp21:=prs_le21 (1+v1+(1+v2)) (by omega)
  obtain ⟨out,k4,ho1,ho2,hk4,e5⟩:=ev_moved code c hc k3 (by omega) (1+v1+(1+v2)) (by omega) acc false (prs_in hs) (by omega) bs (Ms++[[[I 0,Z]]])
  rw [show ((1+v1+(1+v2):Nat):Int)=((1+v1:Nat):Int)+((1+v2:Nat):Int) by omega] at e5
  have w1:IntKind.i64.wrap (1+(v1:Int))=1+(v1:Int):=wrap64 (by omega) (by omega)
  have w2:IntKind.i64.wrap (1+(v2:Int))=1+(v2:Int):=wrap64 (by omega) (by omega)
  have hto:t.take t.length=t:=List.take_of_length_le (Nat.le_refl _)
  refine ⟨1+v1+(1+v2),out,k4,by omega,by omega,ho2,by omega,ev_lim ?_⟩
  rw [show ((1+v1+(1+v2):Nat):Int)=((1+v1:Nat):Int)+((1+v2:Nat):Int) by omega]
  generalize ((1+v1:Nat):Int)+((1+v2:Nat):Int)=nn at *
  have hot:out.take out.length=out:=List.take_of_length_le (Nat.le_refl _)
  refine call_of_wp zt332 rfl ?_
  repeat (first|apply wp_as|apply wp_ss|refine wr (by simp [e1,e2,e3,e4,e5,w1,w2,hto,hot];with_reducible rfl) ?_|refine wq (by simp [e1,e2,e3,e4,e5,w1,w2,hto,hot];with_reducible rfl) ?_|refine wt (by simpa [e1,e2,e3,e4,e5,w1,w2,hto,hot]) ?_|refine wf (by simpa [e1,e2,e3,e4,e5,w1,w2,hto,hot]) ?_|refine xt (by simpa [e1,e2,e3,e4,e5,w1,w2,hto,hot]) ?_|refine xf (by simpa [e1,e2,e3,e4,e5,w1,w2,hto,hot]) ?_|apply wp_bs|apply wp_b|refine wp_sr ?_|refine wp_sx ?_|refine wp_ret' ?_|refine wp_skip' ?_|refine wp_exit' ?_)
  simp [zi332]
end Go.Idl
namespace Go.Idl
open Go
theorem ev_ContainsI (xs:List Int) (c:Bool) (y:Int) (hl:xs.length≤1000000):Ev tb zl551 [] [L xs c,I y] [] ⟨Bo (decide (y ∈ xs)),[],[],[]⟩:=by
  have e1:=ev_lim (ev_Index xs c y hl)
  have h1:decide (0≤idx (fun x=>decide (y=x)) 0 xs)=decide (y ∈ xs):=by
    rw [idx_ge _ xs 0 (by omega),Bool.eq_iff_iff,List.any_eq_true,decide_eq_true_eq]
    exact ⟨fun ⟨x,h,h2⟩=>by rw [of_decide_eq_true h2];exact h,fun h=>⟨y,h,by simp⟩⟩
  refine call_of_wp zt551 rfl ?_
  repeat (first|apply wp_as|apply wp_ss|refine wr (by simp [e1];with_reducible rfl) ?_|refine wq (by simp [e1];with_reducible rfl) ?_|refine wt (by simpa [e1]) ?_|refine wf (by simpa [e1]) ?_|refine xt (by simpa [e1]) ?_|refine xf (by simpa [e1]) ?_|apply wp_bs|apply wp_b|refine wp_sr ?_|refine wp_sx ?_|refine wp_ret' ?_|refine wp_skip' ?_|refine wp_exit' ?_)
  simp [zi551,h1]
theorem ev_DeleteFunc_Z (F:Lab) (caps:List IV) (M:List Boxes):Ev tb zl266 [] [Z,.fn F caps] M ⟨Z,[],M,[]⟩:=by
  have e1:=ev_lim (ev_IndexFuncL [] F caps (M++[[]]) (fun _=>false) (by simp) (fun x hx=>by cases hx))
  rw [show idx (fun _=>false) 0 []=-1 from rfl] at e1
  simp only [O,ints_nil] at e1
  refine call_of_wp zt266 rfl ?_
  repeat (first|apply wp_as|apply wp_ss|refine wr (by simp [e1];with_reducible rfl) ?_|refine wq (by simp [e1];with_reducible rfl) ?_|refine wt (by simpa [e1]) ?_|refine wf (by simpa [e1]) ?_|refine xt (by simpa [e1]) ?_|refine xf (by simpa [e1]) ?_|apply wp_bs|apply wp_b|refine wp_sr ?_|refine wp_sx ?_|refine wp_ret' ?_|refine wp_skip' ?_|refine wp_exit' ?_)
  simp [zi266]
theorem ev_sp_F1 (x:Int) (K:List Int) (hl:K.length≤1000000) (B:Boxes) (k:Nat) (hB:B[k]? = some [O K]) (Ms:List Boxes):Ev tb zl516 [] [I x,.bptr 0 k 0] (B::Ms) ⟨Bo (decide (x ∈ K)),[],B::Ms,[]⟩:=by
  have e1:=fun c=>ev_lim (ev_ContainsI K c x hl)
  refine call_of_wp zt516 rfl ?_
  repeat (first|apply wp_as|apply wp_ss|refine wr (by simp [hB,e1];with_reducible rfl) ?_|refine wq (by simp [hB,e1];with_reducible rfl) ?_|refine wt (by simpa [hB,e1]) ?_|refine wf (by simpa [hB,e1]) ?_|refine xt (by simpa [hB,e1]) ?_|refine xf (by simpa [hB,e1]) ?_|apply wp_bs|apply wp_b|refine wp_sr ?_|refine wp_sx ?_|refine wp_ret' ?_|refine wp_skip' ?_|refine wp_exit' ?_)
  simp [zi516]
set_option maxHeartbeats 4000000 in
theorem sp_loop (n:Nat) (es:List (Int×Int)) (c:Bool) (hl:es.length≤1000) (K:List Int) (hK:K.length≤1000) (oth:IV) (hoth:oth=Z ∨ ∃ l,oth=O l) (P:List (Int×Int)) (hP:P.length≤1000):∀ (m k:Nat) (B:Boxes),k+m=P.length →
    wp tb (.loop z515l14) { T:=[(1,.bptr 0 0 0),(6,.bptr 0 1 0),(7,oth),(33,nl2 P),(34,I P.length),(35,I k)],loc:=[I n,L2 es c]::[O K]::B,M:=[] }
      (fun ex st=>(ex=.exit 0∧(P.drop k).all (spP es K)=true∧∃ B',st={ T:=[(1,.bptr 0 0 0),(6,.bptr 0 1 0),(7,oth),(33,nl2 P),(34,I P.length),(35,I P.length),(36,Bo false)],loc:=[I n,L2 es c]::[O K]::B',M:=[] }) ∨
        (ex=.ret∧(P.drop k).all (spP es K)=false∧∃ B',st={ T:=[(2,Z),(3,Z),(4,Bo false)],loc:=B',M:=[] })):=by
  have back:∀ G:List (Int×Int),nl2 G=Z∧G=[] ∨ nl2 G=O2 G:=fun G=>by cases G <;> simp [nl2]
  intro m
  induction m with
  | zero =>
    intro k B hk
    have h3:k=P.length:=hk
    subst h3
    rw [List.drop_length]
    rcases back P with ⟨hb,-⟩ | hb <;> rw [hb]
    · rcases hoth with rfl | ⟨l,rfl⟩
      · refine wp_loop ?_
        repeat (first|apply wp_as|apply wp_ss|refine wr (by simp;with_reducible rfl) ?_|refine wq (by simp;with_reducible rfl) ?_|refine wt (by simpa) ?_|refine wf (by simpa) ?_|refine xt (by simpa) ?_|refine xf (by simpa) ?_|apply wp_bs|apply wp_b|refine wp_sr ?_|refine wp_sx ?_|refine wp_ret' ?_|refine wp_skip' ?_|refine wp_exit' ?_)
        exact .inl ⟨rfl,rfl,B,rfl⟩
      · refine wp_loop ?_
        repeat (first|apply wp_as|apply wp_ss|refine wr (by simp;with_reducible rfl) ?_|refine wq (by simp;with_reducible rfl) ?_|refine wt (by simpa) ?_|refine wf (by simpa) ?_|refine xt (by simpa) ?_|refine xf (by simpa) ?_|apply wp_bs|apply wp_b|refine wp_sr ?_|refine wp_sx ?_|refine wp_ret' ?_|refine wp_skip' ?_|refine wp_exit' ?_)
        exact .inl ⟨rfl,rfl,B,rfl⟩
    · rcases hoth with rfl | ⟨l,rfl⟩
      · refine wp_loop ?_
        repeat (first|apply wp_as|apply wp_ss|refine wr (by simp;with_reducible rfl) ?_|refine wq (by simp;with_reducible rfl) ?_|refine wt (by simpa) ?_|refine wf (by simpa) ?_|refine xt (by simpa) ?_|refine xf (by simpa) ?_|apply wp_bs|apply wp_b|refine wp_sr ?_|refine wp_sx ?_|refine wp_ret' ?_|refine wp_skip' ?_|refine wp_exit' ?_)
        exact .inl ⟨rfl,rfl,B,rfl⟩
      · refine wp_loop ?_
        repeat (first|apply wp_as|apply wp_ss|refine wr (by simp;with_reducible rfl) ?_|refine wq (by simp;with_reducible rfl) ?_|refine wt (by simpa) ?_|refine wf (by simpa) ?_|refine xt (by simpa) ?_|refine xf (by simpa) ?_|apply wp_bs|apply wp_b|refine wp_sr ?_|refine wp_sx ?_|refine wp_ret' ?_|refine wp_skip' ?_|refine wp_exit' ?_)
        exact .inl ⟨rfl,rfl,B,rfl⟩
  | succ m ih =>
    intro k B hk
    have hk2:k < P.length:=by omega
    have hd:P.drop k=P[k]::P.drop (k+1):=List.drop_eq_getElem_cons hk2
    obtain ⟨⟨a,b⟩,hx⟩:∃ s,s=P[k]:=⟨_,rfl⟩
    have hx2:=hx.symm
    have w1:IntKind.i64.wrap ((k:Int)+1)=((k+1:Nat):Int):=wrapS (by omega)
    have e1:=fun c y=>ev_lim (ev_ContainsI K c y (by omega))
    have e2:=fun c=>ev_lim (ev_has n 2 es c a b (.inl rfl) (by omega) [])
    have hn:=fun B=>ih (k+1) B (by omega)
    rw [hd,← hx,List.all_cons]
    have hsp:spP es K (a,b)=(decide (a ∈ K) != decide (b ∈ K) || hasM es a b == decide (a ∈ K)):=rfl
    rw [hsp]
    have hnb:nl2 P=O2 P:=by cases P with | nil=>simp at hk2 | cons x r=>rfl
    rw [hnb] at hn ⊢
    have e1a:=fun c=>e1 c a
    have e1b:=fun c=>e1 c b
    generalize hasM es a b=q at *
    generalize decide (a ∈ K)=p1 at *
    generalize decide (b ∈ K)=p2 at *
    clear hsp
    cases p1 <;> cases p2 <;> cases q <;> rcases hoth with rfl | ⟨l,rfl⟩
    all_goals
      refine wp_loop ?_
      repeat (first|apply wp_as|apply wp_ss|refine wr (by simp [hk2,hx2];with_reducible rfl) ?_|refine wq (by simp [hk2,hx2];with_reducible rfl) ?_|refine wt (by simpa [hk2,hx2]) ?_|refine wf (by simpa [hk2,hx2]) ?_|refine xt (by simpa [hk2,hx2]) ?_|refine xf (by simpa [hk2,hx2]) ?_|apply wp_bs|apply wp_b|refine wp_sr ?_|refine wp_sx ?_|refine wp_ret' ?_|refine wp_skip' ?_|refine wp_exit' ?_)
      refine wp_ra (by simp [e1a,e1b];with_reducible rfl) (by simp;with_reducible rfl) ?_ ?_
      · intro p hp
        simp only [List.mem_cons,List.not_mem_nil,or_false] at hp
        rcases hp with rfl | rfl | rfl
        · exact ⟨_,by simp [e1a,e1b];with_reducible rfl,by simp⟩
        · exact ⟨_,by simp [e1a,e1b];with_reducible rfl,by simp⟩
        · exact ⟨_,by simp [e1a,e1b];with_reducible rfl,by simp⟩
      repeat (first|apply wp_as|apply wp_ss|refine wr (by simp [e2,w1];with_reducible rfl) ?_|refine wq (by simp [e2,w1];with_reducible rfl) ?_|refine wt (by simpa [e2,w1]) ?_|refine wf (by simpa [e2,w1]) ?_|refine xt (by simpa [e2,w1]) ?_|refine xf (by simpa [e2,w1]) ?_|apply wp_bs|apply wp_b|refine wp_sr ?_|refine wp_sx ?_|refine wp_ret' ?_|refine wp_skip' ?_|refine wp_exit' ?_)
      first | exact hn _ | exact .inr ⟨rfl,rfl,_,rfl⟩
abbrev spA (K:List Int):List Int:=asc 0 [] K
abbrev spO (n:Nat) (K:List Int):List Int:=(idxB n (-1)).filter fun x=>!decide (x ∈ K)
theorem spA_mem {K:List Int} {x:Int}:x ∈ spA K ↔ x ∈ K:=by
  have:=(asc_ok K [] .nil).2.mem_iff (a:=x)
  simpa using this
theorem spA_len (K:List Int):(spA K).length=K.length:=by
  have:=(asc_ok K [] .nil).2.length_eq
  simpa using this
abbrev SPR (n:Nat) (es:List (Int×Int)):IV:=if spOK n es=true then .tup [O (spA (spK (degs n es))),O (spO n (spA (spK (degs n es)))),Bo true] else .tup [Z,Z,Bo false]
set_option maxHeartbeats 8000000 in
theorem ev_SplitParts_0 (e0:Nat) (c:Bool) (v1:limF tb zl26 [] [.agg [I 0,.lst e0 [] c]] []=some ⟨Bo true,[],[],[]⟩) (g1:limF tb zl9 [] [.agg [I 0,.lst e0 [] c]] []=some ⟨O (degs 0 []),[],[],[]⟩) :
    Ev tb zl515 [] [.agg [I 0,.lst e0 [] c]] [] ⟨.tup [O [],O [],Bo true],[],[],[]⟩:=by
  rw [show degs 0 []=[] from rfl] at g1
  have e2:=ev_lim (ev_indices 0 (-1) (by omega))
  rw [show idxB 0 (-1)=[] from rfl,show ((0:Nat):Int)=0 from rfl] at e2
  have e3:=fun c=>ev_lim (ev_DurfeeOf [] c rfl)
  rw [show durf (fall [])=0 from rfl,show ((0:Nat):Int)=0 from rfl] at e3
  have e4:=fun c=>ev_lim (ev_greatest [] c (fun x hx=>by cases hx) Z [] (.inr ⟨rfl,rfl⟩) (by simp) (fun v hv=>by cases hv) 0 (by simp))
  rw [show topD [] [] 0=[] from rfl,show ((0:Nat):Int)=0 from rfl] at e4
  have e5:=ev_lim (ev_Sort [] (by simp) [])
  rw [show asc 0 [] []=[] from rfl] at e5
  have e6:=ev_lim (ev_DeleteFunc_Z zl516 [.bptr 0 1 0] [[[I 0,.lst e0 [] c],[O []]]])
  have e7:=ev_lim (ev_impl_pairs 0 (by omega))
  rw [show prs 0=[] from rfl,show ((0:Nat):Int)=0 from rfl] at e7
  have e8:=fun c=>ev_lim (ev_clone [] c (by simp))
  have e9:=ev_lim ev_clone_Z
  simp only [nlI,O,L,ints_nil,nl2_nil] at g1 e2 e3 e4 e5 e6 e7 e8 e9
  refine call_of_wp zt515 rfl ?_
  repeat (first|apply wp_as|apply wp_ss|refine wr (by simp [v1];with_reducible rfl) ?_|refine wq (by simp [v1];with_reducible rfl) ?_|refine wt (by simpa [v1]) ?_|refine wf (by simpa [v1]) ?_|refine xt (by simpa [v1]) ?_|refine xf (by simpa [v1]) ?_|apply wp_bs|apply wp_b|refine wp_sr ?_|refine wp_sx ?_|refine wp_ret' ?_|refine wp_skip' ?_|refine wp_exit' ?_)
  repeat (first|apply wp_as|apply wp_ss|refine wr (by simp [g1];with_reducible rfl) ?_|refine wq (by simp [g1];with_reducible rfl) ?_|refine wt (by simpa [g1]) ?_|refine wf (by simpa [g1]) ?_|refine xt (by simpa [g1]) ?_|refine xf (by simpa [g1]) ?_|apply wp_bs|apply wp_b|refine wp_sr ?_|refine wp_sx ?_|refine wp_ret' ?_|refine wp_skip' ?_|refine wp_exit' ?_)
  repeat (first|apply wp_as|apply wp_ss|refine wr (by simp [e2,e3,e4];with_reducible rfl) ?_|refine wq (by simp [e2,e3,e4];with_reducible rfl) ?_|refine wt (by simpa [e2,e3,e4]) ?_|refine wf (by simpa [e2,e3,e4]) ?_|refine xt (by simpa [e2,e3,e4]) ?_|refine xf (by simpa [e2,e3,e4]) ?_|apply wp_bs|apply wp_b|refine wp_sr ?_|refine wp_sx ?_|refine wp_ret' ?_|refine wp_skip' ?_|refine wp_exit' ?_)
  repeat (first|apply wp_as|apply wp_ss|refine wr (by simp [e5];with_reducible rfl) ?_|refine wq (by simp [e5];with_reducible rfl) ?_|refine wt (by simpa [e5]) ?_|refine wf (by simpa [e5]) ?_|refine xt (by simpa [e5]) ?_|refine xf (by simpa [e5]) ?_|apply wp_bs|apply wp_b|refine wp_sr ?_|refine wp_sx ?_|refine wp_ret' ?_|refine wp_skip' ?_|refine wp_exit' ?_)
  repeat (first|apply wp_as|apply wp_ss|refine wr (by simp [e2,e6];with_reducible rfl) ?_|refine wq (by simp [e2,e6];with_reducible rfl) ?_|refine wt (by simpa [e2,e6]) ?_|refine wf (by simpa [e2,e6]) ?_|refine xt (by simpa [e2,e6]) ?_|refine xf (by simpa [e2,e6]) ?_|apply wp_bs|apply wp_b|refine wp_sr ?_|refine wp_sx ?_|refine wp_ret' ?_|refine wp_skip' ?_|refine wp_exit' ?_)
  repeat (first|apply wp_as|apply wp_ss|refine wr (by simp [e7];with_reducible rfl) ?_|refine wq (by simp [e7];with_reducible rfl) ?_|refine wt (by simpa [e7]) ?_|refine wf (by simpa [e7]) ?_|refine xt (by simpa [e7]) ?_|refine xf (by simpa [e7]) ?_|apply wp_bs|apply wp_b|refine wp_sr ?_|refine wp_sx ?_|refine wp_ret' ?_|refine wp_skip' ?_|refine wp_exit' ?_)
  refine wp_loop ?_
  repeat (first|apply wp_as|apply wp_ss|refine wr (by simp [e8,e9];with_reducible rfl) ?_|refine wq (by simp [e8,e9];with_reducible rfl) ?_|refine wt (by simpa [e8,e9]) ?_|refine wf (by simpa [e8,e9]) ?_|refine xt (by simpa [e8,e9]) ?_|refine xf (by simpa [e8,e9]) ?_|apply wp_bs|apply wp_b|refine wp_sr ?_|refine wp_sx ?_|refine wp_ret' ?_|refine wp_skip' ?_|refine wp_exit' ?_)
  simp [zi515]
set_option maxHeartbeats 8000000 in
theorem ev_SplitParts (n:Nat) (es:List (Int×Int)) (c:Bool) (hv:vGraph n es=true):Ev tb zl515 [] [Gr n es c] [] ⟨SPR n es,[],[],[]⟩:=by
  have hn7:=(vG_iff.1 hv).2.2
  have h21:=vG21 hn7 hv
  have hf:Fit es:=fun e he=>by have:=mem_prs.1 ((vG_iff.1 hv).2.1 e he);omega
  have hin:EdgesIn n es:=fun e he=>by have:=mem_prs.1 ((vG_iff.1 hv).2.1 e he);omega
  have v1:=fun c=>ev_lim (ev_ValidGraph n es c hf (by omega))
  rw [hv] at v1
  have e1:=fun c=>ev_lim (ev_Graph_degrees n es c (by omega) (by omega) hin)
  by_cases h0:n=0
  · have hes:es=[]:=by
      cases es with
      | nil=>rfl
      | cons e r=>have:=mem_prs.1 ((vG_iff.1 hv).2.1 e (by simp));omega
    subst h0 hes
    have v1:=v1 c
    have e1:=e1 c
    rw [show ((0:Nat):Int)=0 from rfl] at v1 e1 ⊢
    exact ev_SplitParts_0 2 c v1 e1
  have hdl:(degs n es).length=n:=degs_len n es
  have hvd:=degs_valid hv
  have hvf:=valid_few hvd
  have hil:(idxB n (-1)).length=n:=by rw [idxB_all];simp
  have hnl:nlI (idxB n (-1))=O (idxB n (-1)):=by
    cases hq:idxB n (-1) with
    | nil=>rw [hq] at hil;simp at hil;omega
    | cons x r=>rfl
  have e2:=ev_lim (ev_indices n (-1) (by omega))
  rw [hnl] at e2
  have e3:=fun c=>ev_lim (ev_DurfeeOf (degs n es) c hvd)
  have hdm:=durf_le (fall (degs n es))
  rw [fall_len,hdl] at hdm
  have e4:=fun c c'=>ev_lim (ev_greatest (degs n es) c (fun x hx=>by have:=hvf.2 x hx;omega) (L (idxB n (-1)) c') (idxB n (-1)) (.inl ⟨_,rfl⟩) (by omega) (fun v hv=>by have:=mem_idxB.1 hv;omega) (durf (fall (degs n es))) (by omega))
  rw [show topD (degs n es) (idxB n (-1)) (durf (fall (degs n es)))=spK (degs n es) by rw [spK,hdl]] at e4
  have hkl:=spK_len (degs n es)
  have e5:=ev_lim (ev_Sort (spK (degs n es)) (by omega) [])
  rw [show asc 0 [] (spK (degs n es))=spA (spK (degs n es)) from rfl] at e5
  have hal:=spA_len (spK (degs n es))
  have e6:=ev_lim (ev_DeleteFunc (idxB n (-1)) zl516 [.bptr 0 1 0] [[[I n,L2 es c],[O (spA (spK (degs n es)))]]] (fun x=>decide (x ∈ spA (spK (degs n es)))) (by omega) (fun M' x _=>by
    rw [show [[[I (n:Int),L2 es c],[O (spA (spK (degs n es)))]]]++[[]]++M'=[[I (n:Int),L2 es c],[O (spA (spK (degs n es)))]]::([[]]++M') from rfl]
    exact ev_sp_F1 x _ (by omega) [[I n,L2 es c],[O (spA (spK (degs n es)))]] 1 rfl ([[]]++M')))
  rw [show ((idxB n (-1)).filter fun x=>!decide (x ∈ spA (spK (degs n es))))=spO n (spA (spK (degs n es))) from rfl] at e6
  have e7:=ev_lim (ev_impl_pairs n (by omega))
  have hpl:(prs n).length≤1000:=by
    have h2:∀ n,n≤7→(prs n).length≤21:=by decide +kernel
    have:=h2 _ hn7
    omega
  have hsp:(prs n).all (spP es (spA (spK (degs n es))))=spOK n es:=by
    rw [spOK]
    congr 1
    funext e
    simp only [spP,spA_mem]
  have e8:=fun c=>ev_lim (ev_clone (spA (spK (degs n es))) c (by omega))
  have hol:(spO n (spA (spK (degs n es)))).length≤n:=by
    have:(spO n (spA (spK (degs n es)))).length≤(idxB n (-1)).length:=List.length_filter_le _ _
    omega
  have e9:=fun c=>ev_lim (ev_clone (spO n (spA (spK (degs n es)))) c (by omega))
  have loop:=sp_loop n es c (by omega) (spA (spK (degs n es))) (by omega) (O (spO n (spA (spK (degs n es))))) (.inr ⟨_,rfl⟩) (prs n) hpl (prs n).length 0 [] (by omega)
  rw [show ((0:Nat):Int)=0 from rfl] at loop
  simp only [List.drop_zero,hsp] at loop
  have back:∀ G:List (Int×Int),nl2 G=Z∧G=[] ∨ nl2 G=O2 G:=fun G=>by cases G <;> simp [nl2]
  simp only [SPR]
  generalize spO n (spA (spK (degs n es)))=Q at *
  generalize spA (spK (degs n es))=K at *
  generalize spK (degs n es)=K0 at *
  generalize durf (fall (degs n es))=dm at *
  generalize idxB n (-1)=ix at *
  generalize degs n es=D at *
  generalize spOK n es=ok at *
  have fin:∀ (ex:Ex) (st:St),((ex=.exit 0∧ok=true∧∃ B',st={ T:=[(1,.bptr 0 0 0),(6,.bptr 0 1 0),(7,O Q),(33,nl2 (prs n)),(34,I (prs n).length),(35,I (prs n).length),(36,Bo false)],loc:=[I n,L2 es c]::[O K]::B',M:=[] }) ∨
        (ex=.ret∧ok=false∧∃ B',st={ T:=[(2,Z),(3,Z),(4,Bo false)],loc:=B',M:=[] }))→True:=fun _ _ _=>trivial
  clear fin
  rcases back (prs n) with ⟨hb,hP⟩ | hb
  · rw [hb] at loop e7
    rw [hP] at loop
    simp only [List.length_nil] at loop
    rw [show ((0:Nat):Int)=0 from rfl] at loop
    refine call_of_wp zt515 rfl ?_
    repeat (first|apply wp_as|apply wp_ss|refine wr (by simp [v1];with_reducible rfl) ?_|refine wq (by simp [v1];with_reducible rfl) ?_|refine wt (by simpa [v1]) ?_|refine wf (by simpa [v1]) ?_|refine xt (by simpa [v1]) ?_|refine xf (by simpa [v1]) ?_|apply wp_bs|apply wp_b|refine wp_sr ?_|refine wp_sx ?_|refine wp_ret' ?_|refine wp_skip' ?_|refine wp_exit' ?_)
    repeat (first|apply wp_as|apply wp_ss|refine wr (by simp [e1];with_reducible rfl) ?_|refine wq (by simp [e1];with_reducible rfl) ?_|refine wt (by simpa [e1]) ?_|refine wf (by simpa [e1]) ?_|refine xt (by simpa [e1]) ?_|refine xf (by simpa [e1]) ?_|apply wp_bs|apply wp_b|refine wp_sr ?_|refine wp_sx ?_|refine wp_ret' ?_|refine wp_skip' ?_|refine wp_exit' ?_)
    repeat (first|apply wp_as|apply wp_ss|refine wr (by simp [e2,e3,e4];with_reducible rfl) ?_|refine wq (by simp [e2,e3,e4];with_reducible rfl) ?_|refine wt (by simpa [e2,e3,e4]) ?_|refine wf (by simpa [e2,e3,e4]) ?_|refine xt (by simpa [e2,e3,e4]) ?_|refine xf (by simpa [e2,e3,e4]) ?_|apply wp_bs|apply wp_b|refine wp_sr ?_|refine wp_sx ?_|refine wp_ret' ?_|refine wp_skip' ?_|refine wp_exit' ?_)
    repeat (first|apply wp_as|apply wp_ss|refine wr (by simp [e5,↓ints_isSc];with_reducible rfl) ?_|refine wq (by simp [e5,↓ints_isSc];with_reducible rfl) ?_|refine wt (by simpa [e5,↓ints_isSc]) ?_|refine wf (by simpa [e5,↓ints_isSc]) ?_|refine xt (by simpa [e5,↓ints_isSc]) ?_|refine xf (by simpa [e5,↓ints_isSc]) ?_|apply wp_bs|apply wp_b|refine wp_sr ?_|refine wp_sx ?_|refine wp_ret' ?_|refine wp_skip' ?_|refine wp_exit' ?_)
    repeat (first|apply wp_as|apply wp_ss|refine wr (by simp [e2,e6];with_reducible rfl) ?_|refine wq (by simp [e2,e6];with_reducible rfl) ?_|refine wt (by simpa [e2,e6]) ?_|refine wf (by simpa [e2,e6]) ?_|refine xt (by simpa [e2,e6]) ?_|refine xf (by simpa [e2,e6]) ?_|apply wp_bs|apply wp_b|refine wp_sr ?_|refine wp_sx ?_|refine wp_ret' ?_|refine wp_skip' ?_|refine wp_exit' ?_)
    repeat (first|apply wp_as|apply wp_ss|refine wr (by simp [e7];with_reducible rfl) ?_|refine wq (by simp [e7];with_reducible rfl) ?_|refine wt (by simpa [e7]) ?_|refine wf (by simpa [e7]) ?_|refine xt (by simpa [e7]) ?_|refine xf (by simpa [e7]) ?_|apply wp_bs|apply wp_b|refine wp_sr ?_|refine wp_sx ?_|refine wp_ret' ?_|refine wp_skip' ?_|refine wp_exit' ?_)
    refine wp_imp loop ?_
    rintro ex st (⟨rfl,rfl,B',rfl⟩ | ⟨rfl,rfl,B',rfl⟩)
    · simp only [if_true]
      repeat (first|apply wp_as|apply wp_ss|refine wr (by simp [e8,e9];with_reducible rfl) ?_|refine wq (by simp [e8,e9];with_reducible rfl) ?_|refine wt (by simpa [e8,e9]) ?_|refine wf (by simpa [e8,e9]) ?_|refine xt (by simpa [e8,e9]) ?_|refine xf (by simpa [e8,e9]) ?_|apply wp_bs|apply wp_b|refine wp_sr ?_|refine wp_sx ?_|refine wp_ret' ?_|refine wp_skip' ?_|refine wp_exit' ?_)
      simp [zi515]
    · simp [zi515]
  · rw [hb] at loop e7
    refine call_of_wp zt515 rfl ?_
    repeat (first|apply wp_as|apply wp_ss|refine wr (by simp [v1];with_reducible rfl) ?_|refine wq (by simp [v1];with_reducible rfl) ?_|refine wt (by simpa [v1]) ?_|refine wf (by simpa [v1]) ?_|refine xt (by simpa [v1]) ?_|refine xf (by simpa [v1]) ?_|apply wp_bs|apply wp_b|refine wp_sr ?_|refine wp_sx ?_|refine wp_ret' ?_|refine wp_skip' ?_|refine wp_exit' ?_)
    repeat (first|apply wp_as|apply wp_ss|refine wr (by simp [e1];with_reducible rfl) ?_|refine wq (by simp [e1];with_reducible rfl) ?_|refine wt (by simpa [e1]) ?_|refine wf (by simpa [e1]) ?_|refine xt (by simpa [e1]) ?_|refine xf (by simpa [e1]) ?_|apply wp_bs|apply wp_b|refine wp_sr ?_|refine wp_sx ?_|refine wp_ret' ?_|refine wp_skip' ?_|refine wp_exit' ?_)
    repeat (first|apply wp_as|apply wp_ss|refine wr (by simp [e2,e3,e4];with_reducible rfl) ?_|refine wq (by simp [e2,e3,e4];with_reducible rfl) ?_|refine wt (by simpa [e2,e3,e4]) ?_|refine wf (by simpa [e2,e3,e4]) ?_|refine xt (by simpa [e2,e3,e4]) ?_|refine xf (by simpa [e2,e3,e4]) ?_|apply wp_bs|apply wp_b|refine wp_sr ?_|refine wp_sx ?_|refine wp_ret' ?_|refine wp_skip' ?_|refine wp_exit' ?_)
    repeat (first|apply wp_as|apply wp_ss|refine wr (by simp [e5,↓ints_isSc];with_reducible rfl) ?_|refine wq (by simp [e5,↓ints_isSc];with_reducible rfl) ?_|refine wt (by simpa [e5,↓ints_isSc]) ?_|refine wf (by simpa [e5,↓ints_isSc]) ?_|refine xt (by simpa [e5,↓ints_isSc]) ?_|refine xf (by simpa [e5,↓ints_isSc]) ?_|apply wp_bs|apply wp_b|refine wp_sr ?_|refine wp_sx ?_|refine wp_ret' ?_|refine wp_skip' ?_|refine wp_exit' ?_)
    repeat (first|apply wp_as|apply wp_ss|refine wr (by simp [e2,e6];with_reducible rfl) ?_|refine wq (by simp [e2,e6];with_reducible rfl) ?_|refine wt (by simpa [e2,e6]) ?_|refine wf (by simpa [e2,e6]) ?_|refine xt (by simpa [e2,e6]) ?_|refine xf (by simpa [e2,e6]) ?_|apply wp_bs|apply wp_b|refine wp_sr ?_|refine wp_sx ?_|refine wp_ret' ?_|refine wp_skip' ?_|refine wp_exit' ?_)
    repeat (first|apply wp_as|apply wp_ss|refine wr (by simp [e7];with_reducible rfl) ?_|refine wq (by simp [e7];with_reducible rfl) ?_|refine wt (by simpa [e7]) ?_|refine wf (by simpa [e7]) ?_|refine xt (by simpa [e7]) ?_|refine xf (by simpa [e7]) ?_|apply wp_bs|apply wp_b|refine wp_sr ?_|refine wp_sx ?_|refine wp_ret' ?_|refine wp_skip' ?_|refine wp_exit' ?_)
    refine wp_imp loop ?_
    rintro ex st (⟨rfl,rfl,B',rfl⟩ | ⟨rfl,rfl,B',rfl⟩)
    · simp only [if_true]
      repeat (first|apply wp_as|apply wp_ss|refine wr (by simp [e8,e9];with_reducible rfl) ?_|refine wq (by simp [e8,e9];with_reducible rfl) ?_|refine wt (by simpa [e8,e9]) ?_|refine wf (by simpa [e8,e9]) ?_|refine xt (by simpa [e8,e9]) ?_|refine xf (by simpa [e8,e9]) ?_|apply wp_bs|apply wp_b|refine wp_sr ?_|refine wp_sx ?_|refine wp_ret' ?_|refine wp_skip' ?_|refine wp_exit' ?_)
      simp [zi515]
    · simp [zi515]
end Go.Idl
