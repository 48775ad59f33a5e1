/- Part 6 of a proof by an ideal interpreter of the code: its definitions and lemmas. Conditions: none. -/
import Derived.KernelRfl
import Derived.Test.YtmhcaeaomjegmaaA5
set_option linter.all false
set_option linter.unusedVariables false
set_option linter.unusedSimpArgs false
namespace Go.Idl
open Go
def layI (v:Int):List Int→List Int→List (Int×Int)→Option (List Int×List (Int×Int))
  | [],left,es=>some (left,es)
  | i::r,left,es=>if left.getD i.toNat 0=0 then none else layI v r (decAt left i.toNat) (es++[(min v i,max v i)])
def realI:Nat→List Int→List Int→List (Int×Int)→Option (List (Int×Int))
  | 0,_,_,es=>some es
  | m+1,left,todo,es=>match srtC (gtD left) [] todo with
    | []=>some es
    | v::_ =>
      if (((todo.filter fun x=>!decide (x=v)).length:Nat):Int) < left.getD v.toNat 0 then none else
      match layI v (topD left (todo.filter fun x=>!decide (x=v)) (left.getD v.toNat 0).toNat) left es with
      | none=>none
      | some (left',es')=>realI m left' (todo.filter fun x=>!decide (x=v)) es'
theorem ev_Real_F1 (x v:Int) (B:Boxes) (b:Nat) (hb:B[b]? = some [I v]) (Ms:List Boxes):Ev tb zl194 [] [I x,.bptr 0 b 0] (B::Ms) ⟨Bo (decide (x=v)),[],B::Ms,[]⟩:=by
  refine call_of_wp zt194 rfl ?_
  repeat (first|apply wp_as|apply wp_ss|refine wr (by simp [hb];with_reducible rfl) ?_|refine wq (by simp [hb];with_reducible rfl) ?_|refine wt (by simpa [hb]) ?_|refine wf (by simpa [hb]) ?_|refine xt (by simpa [hb]) ?_|refine xf (by simpa [hb]) ?_|apply wp_bs|apply wp_b|refine wp_sr ?_|refine wp_sx ?_|refine wp_ret' ?_|refine wp_skip' ?_|refine wp_exit' ?_)
  simp [zi194]
  rfl
theorem filter_len' {α:Type} (p:α→Bool) (l:List α):(l.filter p).length+(l.filter fun a=>!p a).length=l.length:=by
  induction l with
  | nil=>rfl
  | cons a l ih=>simp only [List.filter_cons];cases p a <;> simp <;> omega
theorem wp_dirty {tb:Tbl} {ops:List IOp} {live:List Nat} {c rest:IC} {s1 s2 t t1 t2:St} {Q:Ex→St→Prop} (h1:execOps (limF tb) s1 ops=some t1) (c1:t1.cut live=t) (h2:execOps (limF tb) s2 ops=some t2) (c2:t2.cut live=t)
    (h:wp tb (.loop (.seq (.seq (.reg ops live []) c) rest)) s1 Q):wp tb (.loop (.seq (.seq (.reg ops live []) c) rest)) s2 Q:=by
  simp only [wp] at h ⊢
  obtain ⟨k,hk⟩:=h
  refine ⟨k,?_⟩
  cases k with
  | zero=>exact hk
  | succ k =>
    simp only [loopN] at hk ⊢
    obtain ⟨st1,q1,q2,q3⟩:=hk
    rw [h1] at q1
    cases q1
    rw [c1,← c2] at q3
    exact ⟨t2,h2,by simp,q3⟩
def FailSt (st:St):Prop:=∃ Bx:Boxes,st={ T:=[(2,.bptr 0 0 0),(3,Bo false)],loc:=[I 0,Z]::Bx,M:=[] }
theorem rl_in (d:List Int) (c:Bool) (n:Nat) (hn:n≤7) (v:Nat) (todo:IV) (htd:∃ t,todo=O t) (tops:List Int) (htl:tops.length≤100) (ht:∀ x ∈ tops,0≤x∧x < n) (B:Boxes) (b:Nat) (hb:B[b]? = some [I v]) :
    ∀ (m j:Nat) (left:List Int) (es:List (Int×Int)),j+m=tops.length→left.length=n→(∀ x ∈ left,0≤x∧x≤1000)→es.length+m≤100000 →
    wp tb (.loop z193l18) { T:=[(0,L d c),(2,.bptr 0 0 0),(4,O left),(5,todo),(6,nl2 es),(7,.bptr 0 (b+1) 0),(44,O tops),(45,I tops.length),(46,I j)],loc:=[I 0,Z]::B,M:=[] }
      (fun ex st=>match layI v (tops.drop j) left es with
        | none=>ex=.ret∧FailSt st
        | some (left',es')=>ex=.exit 2∧st={ T:=[(0,L d c),(2,.bptr 0 0 0),(4,O left'),(5,todo),(6,nl2 es'),(7,.bptr 0 (b+1) 0),(44,O tops),(45,I tops.length),(46,I tops.length),(47,Bo false)],loc:=[I 0,Z]::B,M:=[] }):=by
  obtain ⟨t,rfl⟩:=htd
  intro m
  induction m with
  | zero =>
    intro j left es hj hl hb2 hes
    obtain ⟨h1,h2⟩:=drop_end hj
    have h3:j=tops.length:=hj
    subst h3
    rw [h2]
    cases es with
    | nil =>
      rw [nl2_nil]
      refine wp_loop ?_
      repeat (first|apply wp_as|apply wp_ss|refine wr (by simp;with_reducible rfl) ?_|refine wq (by simp;with_reducible rfl) ?_|refine wt (by simpa) ?_|refine wf (by simpa) ?_|refine xt (by simpa) ?_|refine xf (by simpa) ?_|apply wp_bs|apply wp_b|refine wp_sr ?_|refine wp_sx ?_|refine wp_ret' ?_|refine wp_skip' ?_|refine wp_exit' ?_)
      exact ⟨rfl,rfl⟩
    | cons e es =>
      rw [nl2_cons]
      refine wp_loop ?_
      repeat (first|apply wp_as|apply wp_ss|refine wr (by simp;with_reducible rfl) ?_|refine wq (by simp;with_reducible rfl) ?_|refine wt (by simpa) ?_|refine wf (by simpa) ?_|refine xt (by simpa) ?_|refine xf (by simpa) ?_|apply wp_bs|apply wp_b|refine wp_sr ?_|refine wp_sx ?_|refine wp_ret' ?_|refine wp_skip' ?_|refine wp_exit' ?_)
      exact ⟨rfl,rfl⟩
  | succ m ih =>
    intro j left es hj hl hb2 hes
    obtain ⟨hjl,h2,h3⟩:=drop_get hj
    have hti:=ht _ h3
    obtain ⟨i,hi⟩:=Int.eq_ofNat_of_zero_le hti.1
    have hil:i < left.length:=by omega
    have hin:i < n:=by omega
    have gi:left.getD i 0=left[i]:=by simp [List.getD_eq_getElem?_getD,List.getElem?_eq_getElem hil]
    have hti2:tops[j].toNat=i:=by omega
    have bi:=hb2 _ (List.getElem_mem hil)
    rw [h2,layI,hti2,gi]
    by_cases h0:left[i]=0
    · rw [if_pos h0]
      cases es with
      | nil =>
        rw [nl2_nil]
        refine wp_loop ?_
        repeat (first|apply wp_as|apply wp_ss|refine wr (by simp [hjl,hi,hil,hin,hl,h0];with_reducible rfl) ?_|refine wq (by simp [hjl,hi,hil,hin,hl,h0];with_reducible rfl) ?_|refine wt (by simpa [hjl,hi,hil,hin,hl,h0]) ?_|refine wf (by simpa [hjl,hi,hil,hin,hl,h0]) ?_|refine xt (by simpa [hjl,hi,hil,hin,hl,h0]) ?_|refine xf (by simpa [hjl,hi,hil,hin,hl,h0]) ?_|apply wp_bs|apply wp_b|refine wp_sr ?_|refine wp_sx ?_|refine wp_ret' ?_|refine wp_skip' ?_|refine wp_exit' ?_)
        exact ⟨rfl,_,rfl⟩
      | cons e es =>
        rw [nl2_cons]
        refine wp_loop ?_
        repeat (first|apply wp_as|apply wp_ss|refine wr (by simp [hjl,hi,hil,hin,hl,h0];with_reducible rfl) ?_|refine wq (by simp [hjl,hi,hil,hin,hl,h0];with_reducible rfl) ?_|refine wt (by simpa [hjl,hi,hil,hin,hl,h0]) ?_|refine wf (by simpa [hjl,hi,hil,hin,hl,h0]) ?_|refine xt (by simpa [hjl,hi,hil,hin,hl,h0]) ?_|refine xf (by simpa [hjl,hi,hil,hin,hl,h0]) ?_|apply wp_bs|apply wp_b|refine wp_sr ?_|refine wp_sx ?_|refine wp_ret' ?_|refine wp_skip' ?_|refine wp_exit' ?_)
        exact ⟨rfl,_,rfl⟩
    · rw [if_neg h0]
      have hd:decAt left i=left.set i (left[i] - 1):=by rw [decAt,gi]
      have w1:IntKind.i64.wrap (left[i] - 1)=left[i] - 1:=wrap64 (by omega) (by omega)
      have w2:IntKind.i64.wrap ((j:Int)+1)=((j+1:Nat):Int):=wrapS (by omega)
      have e1:=ev_lim (ev_edge (v:Int) (i:Int) [])
      have hn2:=ih (j+1) (decAt left i) (es++[(min (v:Int) tops[j],max (v:Int) tops[j])]) (by omega) (by simp [decAt,hl]) (by
        rw [hd]
        intro x hx
        rcases List.mem_or_eq_of_mem_set hx with hx | rfl
        · exact hb2 x hx
        · omega) (by simp;omega)
      rw [hd] at hn2 ⊢
      rw [nl2_app,hi] at hn2
      rw [hi]
      cases es with
      | nil =>
        rw [nl2_nil]
        rw [List.nil_append] at hn2
        refine wp_loop ?_
        repeat (first|apply wp_as|apply wp_ss|refine wr (by simp [hjl,hi,hil,hin,hl,h0,w1,w2,e1,hb];with_reducible rfl) ?_|refine wq (by simp [hjl,hi,hil,hin,hl,h0,w1,w2,e1,hb];with_reducible rfl) ?_|refine wt (by simpa [hjl,hi,hil,hin,hl,h0,w1,w2,e1,hb]) ?_|refine wf (by simpa [hjl,hi,hil,hin,hl,h0,w1,w2,e1,hb]) ?_|refine xt (by simpa [hjl,hi,hil,hin,hl,h0,w1,w2,e1,hb]) ?_|refine xf (by simpa [hjl,hi,hil,hin,hl,h0,w1,w2,e1,hb]) ?_|apply wp_bs|apply wp_b|refine wp_sr ?_|refine wp_sx ?_|refine wp_ret' ?_|refine wp_skip' ?_|refine wp_exit' ?_)
        exact hn2
      | cons e es =>
        rw [nl2_cons]
        have hel:es.length+1+1≤274877906944:=by simp at hes;omega
        have het:(e::es).take (es.length+1)=e::es:=List.take_of_length_le (by simp)
        refine wp_loop ?_
        repeat (first|apply wp_as|apply wp_ss|refine wr (by simp [hjl,hi,hil,hin,hl,h0,w1,w2,e1,hb,hel,het];with_reducible rfl) ?_|refine wq (by simp [hjl,hi,hil,hin,hl,h0,w1,w2,e1,hb,hel,het];with_reducible rfl) ?_|refine wt (by simpa [hjl,hi,hil,hin,hl,h0,w1,w2,e1,hb,hel,het]) ?_|refine wf (by simpa [hjl,hi,hil,hin,hl,h0,w1,w2,e1,hb,hel,het]) ?_|refine xt (by simpa [hjl,hi,hil,hin,hl,h0,w1,w2,e1,hb,hel,het]) ?_|refine xf (by simpa [hjl,hi,hil,hin,hl,h0,w1,w2,e1,hb,hel,het]) ?_|apply wp_bs|apply wp_b|refine wp_sr ?_|refine wp_sx ?_|refine wp_ret' ?_|refine wp_skip' ?_|refine wp_exit' ?_)
        exact hn2
theorem layI_inv (v:Int):∀ (tops left:List Int) (es:List (Int×Int)) (left':List Int) (es':List (Int×Int)),layI v tops left es=some (left',es')→(∀ x ∈ left,0≤x∧x≤1000) →
    left'.length=left.length∧(∀ x ∈ left',0≤x∧x≤1000)∧es'=es++tops.map fun i=>(min v i,max v i)
  | [],left,es,left',es',h,hb=>by
    simp only [layI,Option.some.injEq,Prod.mk.injEq] at h
    obtain ⟨rfl,rfl⟩:=h
    exact ⟨rfl,hb,by simp⟩
  | i::r,left,es,left',es',h,hb=>by
    rw [layI] at h
    split at h
    · cases h
    · rename_i h0
      obtain ⟨k1,k2,k3⟩:=layI_inv v r _ _ _ _ h (by
        intro x hx
        rcases List.mem_or_eq_of_mem_set hx with hx | rfl
        · exact hb x hx
        · have hg:∀ y,left[i.toNat]? = some y→0≤y∧y≤1000:=fun y hy=>hb y (List.mem_of_getElem? hy)
          rw [List.getD_eq_getElem?_getD] at h0 ⊢
          cases hq:left[i.toNat]? with
          | none=>rw [hq] at h0;simp at h0
          | some y =>
            rw [hq] at h0
            have:=hg y hq
            simp only [Option.getD_some] at h0 ⊢
            omega)
      exact ⟨by rw [k1];simp [decAt],k2,by rw [k3];simp⟩
theorem rl_out (d:List Int) (c:Bool) (n:Nat) (hn:n≤7):∀ (m:Nat) (left todo:List Int) (es:List (Int×Int)) (Bx:Boxes),todo.length≤m→left.length=n→(∀ x ∈ left,0≤x∧x≤1000)→(∀ x ∈ todo,0≤x∧x < n)→todo.length≤7→es.length+10 * m≤1000 →
    wp tb (.loop z193l19) { T:=[(0,L d c),(2,.bptr 0 0 0),(4,O left),(5,O todo),(6,nl2 es)],loc:=[I 0,Z]::Bx,M:=[] }
      (fun ex st=>match realI m left todo es with
        | none=>ex=.ret∧FailSt st
        | some es'=>ex=.exit 0∧∃ (left' todo':List Int) (Bx':Boxes),st={ T:=[(0,L d c),(2,.bptr 0 0 0),(4,O left'),(5,O todo'),(6,nl2 es'),(21,Bo false)],loc:=[I 0,Z]::Bx',M:=[] }):=by
  have done:∀ (left todo:List Int) (es:List (Int×Int)) (Bx:Boxes),todo.length=0→wp tb (.loop z193l19) { T:=[(0,L d c),(2,.bptr 0 0 0),(4,O left),(5,O todo),(6,nl2 es)],loc:=[I 0,Z]::Bx,M:=[] }
      (fun ex st=>ex=.exit 0∧∃ (left' todo':List Int) (Bx':Boxes),st={ T:=[(0,L d c),(2,.bptr 0 0 0),(4,O left'),(5,O todo'),(6,nl2 es),(21,Bo false)],loc:=[I 0,Z]::Bx',M:=[] }):=by
    intro left todo es Bx h0
    have h0':todo=[]:=List.length_eq_zero_iff.1 h0
    cases es with
    | nil =>
      rw [nl2_nil]
      refine wp_loop ?_
      repeat (first|apply wp_as|apply wp_ss|refine wr (by simp [h0];with_reducible rfl) ?_|refine wq (by simp [h0];with_reducible rfl) ?_|refine wt (by simpa [h0]) ?_|refine wf (by simpa [h0]) ?_|refine xt (by simpa [h0]) ?_|refine xf (by simpa [h0]) ?_|apply wp_bs|apply wp_b|refine wp_sr ?_|refine wp_sx ?_|refine wp_ret' ?_|refine wp_skip' ?_|refine wp_exit' ?_)
      exact ⟨rfl,left,todo,Bx,rfl⟩
    | cons e es =>
      rw [nl2_cons]
      refine wp_loop ?_
      repeat (first|apply wp_as|apply wp_ss|refine wr (by simp [h0];with_reducible rfl) ?_|refine wq (by simp [h0];with_reducible rfl) ?_|refine wt (by simpa [h0]) ?_|refine wf (by simpa [h0]) ?_|refine xt (by simpa [h0]) ?_|refine xf (by simpa [h0]) ?_|apply wp_bs|apply wp_b|refine wp_sr ?_|refine wp_sx ?_|refine wp_ret' ?_|refine wp_skip' ?_|refine wp_exit' ?_)
      exact ⟨rfl,left,todo,Bx,rfl⟩
  intro m
  induction m with
  | zero =>
    intro left todo es Bx hm hl hb ht ht7 hes
    exact done left todo es Bx (by omega)
  | succ m ih =>
    intro left todo es Bx hm hl hb ht ht7 hes
    rw [realI]
    have hsl:=topD_len left todo 1
    cases hs:srtC (gtD left) [] todo with
    | nil =>
      rw [hs] at hsl
      exact done left todo es Bx (by simpa using hsl.symm)
    | cons v r =>
    simp only
    rw [hs] at hsl
    have htl:1≤todo.length:=by simp at hsl;omega
    have hv:v ∈ todo:=by
      have:=(srtC_perm (gtD left) todo []).mem_iff (a:=v)
      rw [hs] at this
      simpa using this.1 (by simp)
    have hvb:=ht v hv
    obtain ⟨p,rfl⟩:=Int.eq_ofNat_of_zero_le hvb.1
    have hpn:p < n:=by omega
    have hpl:p < left.length:=by omega
    have hb':∀ x ∈ left,-1000≤x∧x≤1000:=fun x hx=>by have:=hb x hx;omega
    have g1:=fun cc c1=>ev_lim (ev_greatest left cc hb' (L todo c1) todo (.inl ⟨c1,rfl⟩) (by omega) (fun x hx=>by rw [hl];exact ht x hx) 1 htl)
    have ht1:topD left todo 1=[(p:Int)]:=by rw [topD,hs];rfl
    rw [ht1] at g1
    rw [show ((1:Nat):Int)=1 from rfl] at g1
    obtain ⟨t2,ht2⟩:∃ t2,t2=todo.filter fun x=>!decide (x=(p:Int)):=⟨_,rfl⟩
    have hdel:=ev_lim (ev_DeleteFunc todo zl194 [.bptr 0 (Bx.length+1) 0] [[I 0,Z]::(Bx++[[I p]])] (fun x=>decide (x=(p:Int))) (by omega) (fun M' x _=>by
      rw [show [[I 0,Z]::(Bx++[[I (p:Int)]])]++[[]]++M'=([I 0,Z]::(Bx++[[I (p:Int)]]))::([[]]++M') from rfl]
      exact ev_Real_F1 x p ([I 0,Z]::(Bx++[[I p]])) (Bx.length+1) (by simp) ([[]]++M')))
    rw [← ht2] at hdel ⊢
    have ht2m:∀ x ∈ t2,0≤x∧x < n:=fun x hx=>ht x (by rw [ht2] at hx;exact (List.mem_filter.1 hx).1)
    have ht2l:t2.length < todo.length:=by
      rw [ht2]
      have h1:=filter_len' (fun x=>!decide (x=(p:Int))) todo
      have h2:(p:Int) ∈ todo.filter (fun a=>!!decide (a=(p:Int))):=List.mem_filter.2 ⟨hv,by simp⟩
      have:=List.length_pos_of_mem h2
      omega
    have gp:left.getD p 0=left[p]:=by simp [List.getD_eq_getElem?_getD,List.getElem?_eq_getElem hpl]
    have htp:(p:Int).toNat=p:=by simp
    rw [htp,gp]
    have bp:=hb _ (List.getElem_mem hpl)
    have htot:todo.take todo.length=todo:=List.take_of_length_le (Nat.le_refl _)
    have hlt:left.take n=left:=List.take_of_length_le (by omega)
    have hgt0:(0:Int) < (todo.length:Int):=by omega
    have hgt0':0 < todo.length:=by omega
    by_cases hfew:(t2.length:Int) < left[p]
    · rw [if_pos hfew]
      rcases es with _ | ⟨e,es⟩
      · rw [nl2_nil]
        refine wp_loop ?_
        repeat (first|apply wp_as|apply wp_ss|refine wr (by simp [hgt0,hgt0',g1,hdel,hpl,hpn,hl,hfew,htot,hlt];with_reducible rfl) ?_|refine wq (by simp [hgt0,hgt0',g1,hdel,hpl,hpn,hl,hfew,htot,hlt];with_reducible rfl) ?_|refine wt (by simpa [hgt0,hgt0',g1,hdel,hpl,hpn,hl,hfew,htot,hlt]) ?_|refine wf (by simpa [hgt0,hgt0',g1,hdel,hpl,hpn,hl,hfew,htot,hlt]) ?_|refine xt (by simpa [hgt0,hgt0',g1,hdel,hpl,hpn,hl,hfew,htot,hlt]) ?_|refine xf (by simpa [hgt0,hgt0',g1,hdel,hpl,hpn,hl,hfew,htot,hlt]) ?_|apply wp_bs|apply wp_b|refine wp_sr ?_|refine wp_sx ?_|refine wp_ret' ?_|refine wp_skip' ?_|refine wp_exit' ?_)
        exact ⟨rfl,_,rfl⟩
      · rw [nl2_cons]
        refine wp_loop ?_
        repeat (first|apply wp_as|apply wp_ss|refine wr (by simp [hgt0,hgt0',g1,hdel,hpl,hpn,hl,hfew,htot,hlt];with_reducible rfl) ?_|refine wq (by simp [hgt0,hgt0',g1,hdel,hpl,hpn,hl,hfew,htot,hlt];with_reducible rfl) ?_|refine wt (by simpa [hgt0,hgt0',g1,hdel,hpl,hpn,hl,hfew,htot,hlt]) ?_|refine wf (by simpa [hgt0,hgt0',g1,hdel,hpl,hpn,hl,hfew,htot,hlt]) ?_|refine xt (by simpa [hgt0,hgt0',g1,hdel,hpl,hpn,hl,hfew,htot,hlt]) ?_|refine xf (by simpa [hgt0,hgt0',g1,hdel,hpl,hpn,hl,hfew,htot,hlt]) ?_|apply wp_bs|apply wp_b|refine wp_sr ?_|refine wp_sx ?_|refine wp_ret' ?_|refine wp_skip' ?_|refine wp_exit' ?_)
        exact ⟨rfl,_,rfl⟩
    rw [if_neg hfew]
    obtain ⟨k,hk⟩:=Int.eq_ofNat_of_zero_le bp.1
    have hkl:k≤t2.length:=by omega
    rw [hk] at hfew
    rw [hk,show ((k:Int)).toNat=k by simp]
    have g2:=fun cc c1=>ev_lim (ev_greatest left cc hb' (L t2 c1) t2 (.inl ⟨c1,rfl⟩) (by omega) (fun x hx=>by rw [hl];exact ht2m x hx) k hkl)
    have htopm:∀ x ∈ topD left t2 k,0≤x∧x < n:=fun x hx=>ht2m x (by
      have:=List.mem_of_mem_take hx
      simpa using (srtC_perm (gtD left) t2 []).mem_iff.1 this)
    have htopl:(topD left t2 k).length≤7:=by
      rw [topD,List.length_take,topD_len left t2 k];omega
    have hlo:=rl_in d c n hn p (O t2) ⟨t2,rfl⟩ (topD left t2 k) (by omega) htopm (Bx++[[I p]]) Bx.length (by simp) (topD left t2 k).length 0 left es (by simp) hl hb (by omega)
    rw [List.drop_zero,show ((0:Nat):Int)=0 from rfl] at hlo
    generalize topD left t2 k=tops at *
    have ht2t:t2.take t2.length=t2:=List.take_of_length_le (Nat.le_refl _)
    cases hlay:layI p tops left es with
    | none =>
      simp only [hlay] at hlo
      simp only
      rcases es with _ | ⟨e,es⟩
      · rw [nl2_nil] at hlo ⊢
        refine wp_loop ?_
        repeat (first|apply wp_as|apply wp_ss|refine wr (by simp [hgt0,hgt0',g1,g2,hdel,hpl,hpn,hl,hk,hfew,htot,hlt,ht2t];with_reducible rfl) ?_|refine wq (by simp [hgt0,hgt0',g1,g2,hdel,hpl,hpn,hl,hk,hfew,htot,hlt,ht2t];with_reducible rfl) ?_|refine wt (by simpa [hgt0,hgt0',g1,g2,hdel,hpl,hpn,hl,hk,hfew,htot,hlt,ht2t]) ?_|refine wf (by simpa [hgt0,hgt0',g1,g2,hdel,hpl,hpn,hl,hk,hfew,htot,hlt,ht2t]) ?_|refine xt (by simpa [hgt0,hgt0',g1,g2,hdel,hpl,hpn,hl,hk,hfew,htot,hlt,ht2t]) ?_|refine xf (by simpa [hgt0,hgt0',g1,g2,hdel,hpl,hpn,hl,hk,hfew,htot,hlt,ht2t]) ?_|apply wp_bs|apply wp_b|refine wp_sr ?_|refine wp_sx ?_|refine wp_ret' ?_|refine wp_skip' ?_|refine wp_exit' ?_)
        refine wp_imp hlo ?_
        rintro ex st ⟨rfl,hf⟩
        exact ⟨rfl,hf⟩
      · rw [nl2_cons] at hlo ⊢
        refine wp_loop ?_
        repeat (first|apply wp_as|apply wp_ss|refine wr (by simp [hgt0,hgt0',g1,g2,hdel,hpl,hpn,hl,hk,hfew,htot,hlt,ht2t];with_reducible rfl) ?_|refine wq (by simp [hgt0,hgt0',g1,g2,hdel,hpl,hpn,hl,hk,hfew,htot,hlt,ht2t];with_reducible rfl) ?_|refine wt (by simpa [hgt0,hgt0',g1,g2,hdel,hpl,hpn,hl,hk,hfew,htot,hlt,ht2t]) ?_|refine wf (by simpa [hgt0,hgt0',g1,g2,hdel,hpl,hpn,hl,hk,hfew,htot,hlt,ht2t]) ?_|refine xt (by simpa [hgt0,hgt0',g1,g2,hdel,hpl,hpn,hl,hk,hfew,htot,hlt,ht2t]) ?_|refine xf (by simpa [hgt0,hgt0',g1,g2,hdel,hpl,hpn,hl,hk,hfew,htot,hlt,ht2t]) ?_|apply wp_bs|apply wp_b|refine wp_sr ?_|refine wp_sx ?_|refine wp_ret' ?_|refine wp_skip' ?_|refine wp_exit' ?_)
        refine wp_imp hlo ?_
        rintro ex st ⟨rfl,hf⟩
        exact ⟨rfl,hf⟩
    | some q =>
      obtain ⟨left',es'⟩:=q
      simp only [hlay] at hlo
      simp only
      obtain ⟨q1,q2,q3⟩:=layI_inv p tops left es left' es' hlay hb
      have hn2:=ih left' t2 es' (Bx++[[I p]]) (by omega) (by omega) q2 ht2m (by omega) (by rw [q3];simp;omega)
      rcases es with _ | ⟨e,es⟩
      · rw [nl2_nil] at hlo ⊢
        refine wp_loop ?_
        repeat (first|apply wp_as|apply wp_ss|refine wr (by simp [hgt0,hgt0',g1,g2,hdel,hpl,hpn,hl,hk,hfew,htot,hlt,ht2t];with_reducible rfl) ?_|refine wq (by simp [hgt0,hgt0',g1,g2,hdel,hpl,hpn,hl,hk,hfew,htot,hlt,ht2t];with_reducible rfl) ?_|refine wt (by simpa [hgt0,hgt0',g1,g2,hdel,hpl,hpn,hl,hk,hfew,htot,hlt,ht2t]) ?_|refine wf (by simpa [hgt0,hgt0',g1,g2,hdel,hpl,hpn,hl,hk,hfew,htot,hlt,ht2t]) ?_|refine xt (by simpa [hgt0,hgt0',g1,g2,hdel,hpl,hpn,hl,hk,hfew,htot,hlt,ht2t]) ?_|refine xf (by simpa [hgt0,hgt0',g1,g2,hdel,hpl,hpn,hl,hk,hfew,htot,hlt,ht2t]) ?_|apply wp_bs|apply wp_b|refine wp_sr ?_|refine wp_sx ?_|refine wp_ret' ?_|refine wp_skip' ?_|refine wp_exit' ?_)
        refine wp_imp hlo ?_
        rintro ex st ⟨rfl,rfl⟩
        simp only [if_true]
        cases es' with
        | nil =>
          rw [nl2_nil] at hn2 ⊢
          exact wp_dirty (by simp;with_reducible rfl) rfl (by simp;with_reducible rfl) (by simp) hn2
        | cons e' es' =>
          rw [nl2_cons] at hn2 ⊢
          exact wp_dirty (by simp;with_reducible rfl) rfl (by simp;with_reducible rfl) (by simp) hn2
      · rw [nl2_cons] at hlo ⊢
        refine wp_loop ?_
        repeat (first|apply wp_as|apply wp_ss|refine wr (by simp [hgt0,hgt0',g1,g2,hdel,hpl,hpn,hl,hk,hfew,htot,hlt,ht2t];with_reducible rfl) ?_|refine wq (by simp [hgt0,hgt0',g1,g2,hdel,hpl,hpn,hl,hk,hfew,htot,hlt,ht2t];with_reducible rfl) ?_|refine wt (by simpa [hgt0,hgt0',g1,g2,hdel,hpl,hpn,hl,hk,hfew,htot,hlt,ht2t]) ?_|refine wf (by simpa [hgt0,hgt0',g1,g2,hdel,hpl,hpn,hl,hk,hfew,htot,hlt,ht2t]) ?_|refine xt (by simpa [hgt0,hgt0',g1,g2,hdel,hpl,hpn,hl,hk,hfew,htot,hlt,ht2t]) ?_|refine xf (by simpa [hgt0,hgt0',g1,g2,hdel,hpl,hpn,hl,hk,hfew,htot,hlt,ht2t]) ?_|apply wp_bs|apply wp_b|refine wp_sr ?_|refine wp_sx ?_|refine wp_ret' ?_|refine wp_skip' ?_|refine wp_exit' ?_)
        refine wp_imp hlo ?_
        rintro ex st ⟨rfl,rfl⟩
        simp only [if_true]
        cases es' with
        | nil =>
          rw [nl2_nil] at hn2 ⊢
          exact wp_dirty (by simp;with_reducible rfl) rfl (by simp;with_reducible rfl) (by simp) hn2
        | cons e' es' =>
          rw [nl2_cons] at hn2 ⊢
          exact wp_dirty (by simp;with_reducible rfl) rfl (by simp;with_reducible rfl) (by simp) hn2
end Go.Idl
namespace Go.Idl
open Go
theorem realI_edges (n:Nat):∀ (m:Nat) (left todo:List Int) (es es':List (Int×Int)),realI m left todo es=some es'→todo.Nodup→(∀ x ∈ todo,0≤x∧x < n) →
    ∃ new:List (Int×Int),es'=es++new∧new.Nodup∧∀ e ∈ new,e ∈ prs n∧e.1 ∈ todo∧e.2 ∈ todo
  | 0,left,todo,es,es',h,_,_=>by
    simp only [realI,Option.some.injEq] at h
    exact ⟨[],by simp [h],.nil,by simp⟩
  | m+1,left,todo,es,es',h,hn,hb=>by
    rw [realI] at h
    cases hs:srtC (gtD left) [] todo with
    | nil =>
      rw [hs] at h
      simp only [Option.some.injEq] at h
      exact ⟨[],by simp [h],.nil,by simp⟩
    | cons v r =>
      rw [hs] at h
      simp only at h
      split at h
      · cases h
      obtain ⟨t2,ht2⟩:∃ t2,t2=todo.filter fun x=>!decide (x=v):=⟨_,rfl⟩
      rw [← ht2] at h
      obtain ⟨tops,htops⟩:∃ tops,tops=topD left t2 (left.getD v.toNat 0).toNat:=⟨_,rfl⟩
      rw [← htops] at h
      cases hl:layI v tops left es with
      | none=>rw [hl] at h;cases h
      | some q =>
        obtain ⟨left',es1⟩:=q
        rw [hl] at h
        simp only at h
        have hes1:es1=es++tops.map fun i=>(min v i,max v i):=by
          have:∀ (tops left:List Int) (es:List (Int×Int)) (left':List Int) (es1:List (Int×Int)),layI v tops left es=some (left',es1)→es1=es++tops.map fun i=>(min v i,max v i):=by
            intro tops
            induction tops with
            | nil=>intro left es left' es1 h;simp only [layI,Option.some.injEq,Prod.mk.injEq] at h;simp [h.2]
            | cons i r ih =>
              intro left es left' es1 h
              rw [layI] at h
              split at h
              · cases h
              · rw [ih _ _ _ _ h];simp
          exact this _ _ _ _ _ hl
        have hv:v ∈ todo:=by
          have:=(srtC_perm (gtD left) todo []).mem_iff (a:=v)
          rw [hs] at this
          simpa using this.1 (by simp)
        have ht2n:t2.Nodup:=by rw [ht2];exact hn.filter _
        have ht2m:∀ x ∈ t2,x ∈ todo∧x ≠ v:=fun x hx=>by
          rw [ht2] at hx
          have:=List.mem_filter.1 hx
          exact ⟨this.1,by simpa using this.2⟩
        have htm:∀ x ∈ tops,x ∈ t2:=fun x hx=>by
          rw [htops] at hx
          simpa using (srtC_perm (gtD left) t2 []).mem_iff.1 (List.mem_of_mem_take hx)
        have htn:tops.Nodup:=by
          rw [htops]
          have:(srtC (gtD left) [] t2).Nodup:=(srtC_perm (gtD left) t2 []).nodup_iff.2 (by simpa using ht2n)
          exact this.sublist (List.take_sublist _ _)
        obtain ⟨new,k1,k2,k3⟩:=realI_edges n m left' t2 es1 es' h ht2n (fun x hx=>hb x (ht2m x hx).1)
        have hvb:=hb v hv
        refine ⟨(tops.map fun i=>(min v i,max v i))++new,by rw [k1,hes1];simp,List.nodup_append.2 ⟨?_,k2,?_⟩,?_⟩
        · rw [List.Nodup,List.pairwise_map]
          refine List.Pairwise.imp_of_mem (fun {i j} hi hj hij he=>?_) htn
          have h1:=(ht2m i (htm i hi)).2
          have h2:=(ht2m j (htm j hj)).2
          simp only [Prod.mk.injEq] at he
          omega
        · intro e he e' he' hee
          subst hee
          obtain ⟨i,hi,rfl⟩:=List.mem_map.1 he
          obtain ⟨-,h1,h2⟩:=k3 _ he'
          have h3:=(ht2m _ h1).2
          have h4:=(ht2m _ h2).2
          simp only at h3 h4
          omega
        · intro e he
          rcases List.mem_append.1 he with he | he
          · obtain ⟨i,hi,rfl⟩:=List.mem_map.1 he
            have h1:=ht2m i (htm i hi)
            have h2:=hb i h1.1
            refine ⟨mem_prs.2 ?_,?_,?_⟩
            · simp only;omega
            · simp only
              rcases Int.le_total v i with h | h
              · rw [Int.min_eq_left h];exact hv
              · rw [Int.min_eq_right h];exact h1.1
            · simp only
              rcases Int.le_total v i with h | h
              · rw [Int.max_eq_right h];exact h1.1
              · rw [Int.max_eq_left h];exact hv
          · obtain ⟨h1,h2,h3⟩:=k3 e he
            exact ⟨h1,(ht2m _ h2).1,(ht2m _ h3).1⟩
theorem idxB_all (n:Nat):idxB n (-1)=(List.range n).map fun v:Nat=>(v:Int):=by
  rw [idxB]
  refine List.filter_eq_self.2 fun x hx=>?_
  obtain ⟨v,_,rfl⟩:=List.mem_map.1 hx
  simp
def realD (d:List Int):Option (List (Int×Int)):=realI d.length d (idxB d.length (-1)) []
theorem realD_ok {d:List Int} (h7:d.length≤7) {es:List (Int×Int)} (h:realD d=some es):es.Nodup∧(∀ e ∈ es,e ∈ prs d.length)∧es.length≤21∧vGraph d.length (srtE es)=true:=by
  have hn:(idxB d.length (-1)).Nodup:=by
    rw [idxB_all,List.Nodup,List.pairwise_map]
    exact List.nodup_range.imp fun h e=>h (by omega)
  have hb:∀ x ∈ idxB d.length (-1),0≤x∧x < (d.length:Int):=fun x hx=>by
    rw [idxB_all] at hx
    obtain ⟨v,hv,rfl⟩:=List.mem_map.1 hx
    have:=List.mem_range.1 hv
    omega
  obtain ⟨new,k1,k2,k3⟩:=realI_edges d.length _ _ _ _ _ h hn hb
  rw [List.nil_append] at k1
  subst k1
  have hvg:vGraph d.length (srtE es)=true:=vG_iff.2 ⟨srtE_pw k2,fun e he=>(k3 e ((srtE_perm es).mem_iff.1 he)).1,h7⟩
  refine ⟨k2,fun e he=>(k3 e he).1,?_,hvg⟩
  have h1:=(vG_sub hvg).length_le
  have h2:∀ n,n≤7→(prs n).length≤21:=by decide +kernel
  have h3:=(srtE_perm es).length_eq
  have:=h2 _ h7
  omega
abbrev RR (n:Nat) (o:Option (List (Int×Int))):IV:=match o with
  | none=>.tup [.agg [I 0,Z],Bo false]
  | some es=>.tup [OG n (srtE es),Bo true]
theorem ev_RealizeDegrees (d:List Int) (c:Bool) (hv:valid d=true):Ev tb zl193 [] [L d c] [] ⟨RR d.length (realD d),[],[],[]⟩:=by
  have hf:=valid_few hv
  have h7:=hf.1
  have e1:=ev_lim (ev_ValidDegrees d c (by omega))
  rw [hv] at e1
  have e2:=ev_lim (ev_clone d c (by omega))
  have e3:=ev_lim (ev_indices d.length (-1) (by omega))
  by_cases h0:d.length=0
  · have hd:d=[]:=List.length_eq_zero_iff.1 h0
    subst hd
    have e4:=ev_lim (show Ev tb zl214 [] [I 0,Z] [] ⟨OG 0 (srtE []),[],[],[]⟩ from ev_made 0 0 [] true (.inr rfl) (by simp) .nil (by simp))
    rw [show idxB ([]:List Int).length (-1)=[] from rfl,show nlI []=Z from rfl,show ((([]:List Int).length:Nat):Int)=0 from rfl] at e3
    simp only [L,O,ints_nil] at e1 e2
    show Ev tb zl193 [] [L [] c] [] ⟨.tup [OG 0 (srtE []),Bo true],[],[],[]⟩
    simp only [L,ints_nil]
    refine call_of_wp zt193 rfl ?_
    repeat (first|apply wp_as|apply wp_ss|refine wr (by simp [e1,e2,e3];with_reducible rfl) ?_|refine wq (by simp [e1,e2,e3];with_reducible rfl) ?_|refine wt (by simpa [e1,e2,e3]) ?_|refine wf (by simpa [e1,e2,e3]) ?_|refine xt (by simpa [e1,e2,e3]) ?_|refine xf (by simpa [e1,e2,e3]) ?_|apply wp_bs|apply wp_b|refine wp_sr ?_|refine wp_sx ?_|refine wp_ret' ?_|refine wp_skip' ?_|refine wp_exit' ?_)
    refine wp_loop ?_
    repeat (first|apply wp_as|apply wp_ss|refine wr (by simp [e4];with_reducible rfl) ?_|refine wq (by simp [e4];with_reducible rfl) ?_|refine wt (by simpa [e4]) ?_|refine wf (by simpa [e4]) ?_|refine xt (by simpa [e4]) ?_|refine xf (by simpa [e4]) ?_|apply wp_bs|apply wp_b|refine wp_sr ?_|refine wp_sx ?_|refine wp_ret' ?_|refine wp_skip' ?_|refine wp_exit' ?_)
    simp [zi193]
  · have hil:(idxB d.length (-1)).length=d.length:=by rw [idxB_all];simp
    have hib:∀ x ∈ idxB d.length (-1),0≤x∧x < (d.length:Int):=fun x hx=>by
      rw [idxB_all] at hx
      obtain ⟨v,hv,rfl⟩:=List.mem_map.1 hx
      have:=List.mem_range.1 hv
      omega
    have hnl:nlI (idxB d.length (-1))=O (idxB d.length (-1)):=by
      cases hq:idxB d.length (-1) with
      | nil=>rw [hq] at hil;simp at hil;omega
      | cons x r=>rfl
    rw [hnl] at e3
    have hlo:=rl_out d c d.length h7 d.length d (idxB d.length (-1)) [] [] (by omega) rfl (fun x hx=>by have:=hf.2 x hx;omega) hib (by omega) (by simp;omega)
    rw [nl2_nil] at hlo
    have hok:∀ es,realD d=some es→_:=fun es h=>realD_ok h7 h
    unfold realD at hok ⊢
    cases hr:realI d.length d (idxB d.length (-1)) [] with
    | none =>
      simp only [hr] at hlo
      refine call_of_wp zt193 rfl ?_
      repeat (first|apply wp_as|apply wp_ss|refine wr (by simp [e1,e2,e3];with_reducible rfl) ?_|refine wq (by simp [e1,e2,e3];with_reducible rfl) ?_|refine wt (by simpa [e1,e2,e3]) ?_|refine wf (by simpa [e1,e2,e3]) ?_|refine xt (by simpa [e1,e2,e3]) ?_|refine xf (by simpa [e1,e2,e3]) ?_|apply wp_bs|apply wp_b|refine wp_sr ?_|refine wp_sx ?_|refine wp_ret' ?_|refine wp_skip' ?_|refine wp_exit' ?_)
      refine wp_imp hlo ?_
      rintro ex st ⟨rfl,Bx,rfl⟩
      simp [zi193]
    | some es =>
      obtain ⟨k1,k2,k3,k4⟩:=hok es hr
      simp only [hr] at hlo
      have hDE:∀ x ∈ es,DE x:=fun x hx=>by have:=mem_prs.1 (k2 x hx);simp only [DE];omega
      cases es with
      | nil =>
        have e4:=ev_lim (show Ev tb zl214 [] [I d.length,Z] [] ⟨OG d.length (srtE []),[],[],[]⟩ from ev_made d.length 0 [] true (.inr rfl) (by simp) .nil (by simp))
        rw [nl2_nil] at hlo
        refine call_of_wp zt193 rfl ?_
        repeat (first|apply wp_as|apply wp_ss|refine wr (by simp [e1,e2,e3];with_reducible rfl) ?_|refine wq (by simp [e1,e2,e3];with_reducible rfl) ?_|refine wt (by simpa [e1,e2,e3]) ?_|refine wf (by simpa [e1,e2,e3]) ?_|refine xt (by simpa [e1,e2,e3]) ?_|refine xf (by simpa [e1,e2,e3]) ?_|apply wp_bs|apply wp_b|refine wp_sr ?_|refine wp_sx ?_|refine wp_ret' ?_|refine wp_skip' ?_|refine wp_exit' ?_)
        refine wp_imp hlo ?_
        rintro ex st ⟨rfl,left',todo',Bx',rfl⟩
        simp only [if_true]
        repeat (first|apply wp_as|apply wp_ss|refine wr (by simp [e4];with_reducible rfl) ?_|refine wq (by simp [e4];with_reducible rfl) ?_|refine wt (by simpa [e4]) ?_|refine wf (by simpa [e4]) ?_|refine xt (by simpa [e4]) ?_|refine xf (by simpa [e4]) ?_|apply wp_bs|apply wp_b|refine wp_sr ?_|refine wp_sx ?_|refine wp_ret' ?_|refine wp_skip' ?_|refine wp_exit' ?_)
        simp [zi193]
      | cons e es =>
        have e4:=fun cc=>ev_lim (ev_made d.length 2 (e::es) cc (.inl rfl) hDE k1 k3)
        rw [nl2_cons] at hlo
        have het:(e::es).take (es.length+1)=e::es:=List.take_of_length_le (by simp)
        refine call_of_wp zt193 rfl ?_
        repeat (first|apply wp_as|apply wp_ss|refine wr (by simp [e1,e2,e3];with_reducible rfl) ?_|refine wq (by simp [e1,e2,e3];with_reducible rfl) ?_|refine wt (by simpa [e1,e2,e3]) ?_|refine wf (by simpa [e1,e2,e3]) ?_|refine xt (by simpa [e1,e2,e3]) ?_|refine xf (by simpa [e1,e2,e3]) ?_|apply wp_bs|apply wp_b|refine wp_sr ?_|refine wp_sx ?_|refine wp_ret' ?_|refine wp_skip' ?_|refine wp_exit' ?_)
        refine wp_imp hlo ?_
        rintro ex st ⟨rfl,left',todo',Bx',rfl⟩
        simp only [if_true]
        repeat (first|apply wp_as|apply wp_ss|refine wr (by simp [e4,het];with_reducible rfl) ?_|refine wq (by simp [e4,het];with_reducible rfl) ?_|refine wt (by simpa [e4,het]) ?_|refine wf (by simpa [e4,het]) ?_|refine xt (by simpa [e4,het]) ?_|refine xf (by simpa [e4,het]) ?_|apply wp_bs|apply wp_b|refine wp_sr ?_|refine wp_sx ?_|refine wp_ret' ?_|refine wp_skip' ?_|refine wp_exit' ?_)
        simp [zi193]
end Go.Idl
namespace Go.Idl
open Go
def insE (e:Int×Int):List (Int×Int)→List (Int×Int)
  | []=>[e]
  | x::r=>if below x e then x::insE e r else e::x::r
theorem insE_at (e:Int×Int) (es:List (Int×Int)) (k:Nat) (hk:k≤es.length) (h:∀ x ∈ es.take k,below x e=true) (hs:∀ h:k < es.length,below es[k] e=false) :
    insE e es=es.take k++[e]++es.drop k:=by
  induction es generalizing k with
  | nil=>simp at hk;subst hk;rfl
  | cons x r ih =>
    cases k with
    | zero =>
      have:=hs (by simp)
      simp only [List.getElem_cons_zero] at this
      simp [insE,this]
    | succ k =>
      have h1:=h x (by simp)
      rw [insE,if_pos h1,ih k (by simpa using hk) (fun y hy=>h y (by simp [hy])) (fun hh=>hs (by simpa using hh))]
      simp
theorem insE_len (e:Int×Int) (es:List (Int×Int)):(insE e es).length=es.length+1:=by
  induction es with
  | nil=>rfl
  | cons x r ih=>rw [insE];split <;> simp [ih]
theorem insE_mem (e x:Int×Int) (es:List (Int×Int)):x ∈ insE e es ↔ x=e ∨ x ∈ es:=by
  induction es with
  | nil=>simp [insE]
  | cons y r ih =>
    rw [insE];split
    · rw [List.mem_cons,ih,List.mem_cons]
      constructor
      · rintro (h | h | h) <;> simp [h]
      · rintro (h | h | h) <;> simp [h]
    · simp
theorem ev_addEdge (n:Int) (es:List (Int×Int)) (c:Bool) (a b:Int) (hl:es.length≤2000000) :
    Ev tb zl335 [] [Gr n es c,I a,I b] [] ⟨OG n (insE (min a b,max a b) es),[],[],[]⟩:=by
  obtain ⟨e,he⟩:∃ e:Int×Int,e=(min a b,max a b):=⟨_,rfl⟩
  have he1:(if b < a then b else a)=e.1:=by rw [he];simp only;split <;> omega
  have he2:(if a < b then b else a)=e.2:=by rw [he];simp only;split <;> omega
  rw [← he]
  have loop:∀ (m k:Nat),k+m=es.length→(∀ x ∈ es.take k,below x e=true)→wp tb (.loop z335l5) { T:=[(3,.bptr 0 0 0),(6,.bptr 0 1 0),(7,.bptr 0 2 0),(8,I k)],loc:=[[I n,L2 es c],[I 0,Z],[I e.1,I e.2]],M:=[] }
      (fun ex st=>ex=.exit 0∧∃ k:Nat,(k≤es.length∧(∀ x ∈ es.take k,below x e=true)∧(∀ h:k < es.length,below es[k] e=false)) ∧
        st={ T:=[(3,.bptr 0 0 0),(6,.bptr 0 1 0),(7,.bptr 0 2 0),(8,I k),(30,Bo false)],loc:=[[I n,L2 es c],[I 0,Z],[I e.1,I e.2]],M:=[] }):=by
    intro m
    induction m with
    | zero =>
      intro k hk hb
      have h3:k=es.length:=hk
      subst h3
      refine wp_loop ?_
      repeat (first|apply wp_as|apply wp_ss|refine wr (by simp;with_reducible rfl) ?_|refine wq (by simp;with_reducible rfl) ?_|refine wt (by simpa) ?_|refine wf (by simpa) ?_|refine xt (by simpa) ?_|refine xf (by simpa) ?_|apply wp_bs|apply wp_b|refine wp_sr ?_|refine wp_sx ?_|refine wp_ret' ?_|refine wp_skip' ?_|refine wp_exit' ?_)
      exact ⟨rfl,es.length,⟨Nat.le_refl _,hb,fun h=>absurd h (by omega)⟩,rfl⟩
    | succ m ih =>
      intro k hk hb
      have hi2:k < es.length:=by omega
      have w2:IntKind.i64.wrap ((k:Int)+1)=((k+1:Nat):Int):=wrapS (by omega)
      have e1:=ev_lim (ev_edgeBelow es[k] e)
      cases hq:below es[k] e with
      | true =>
        refine wp_loop ?_
        repeat (first|apply wp_as|apply wp_ss|refine wr (by simp [hi2,e1,hq,w2];with_reducible rfl) ?_|refine wq (by simp [hi2,e1,hq,w2];with_reducible rfl) ?_|refine wt (by simpa [hi2,e1,hq,w2]) ?_|refine wf (by simpa [hi2,e1,hq,w2]) ?_|refine xt (by simpa [hi2,e1,hq,w2]) ?_|refine xf (by simpa [hi2,e1,hq,w2]) ?_|apply wp_bs|apply wp_b|refine wp_sr ?_|refine wp_sx ?_|refine wp_ret' ?_|refine wp_skip' ?_|refine wp_exit' ?_)
        refine ih (k+1) (by omega) fun x hx=>?_
        rw [List.take_succ_eq_append_getElem hi2] at hx
        rcases List.mem_append.1 hx with hx | hx
        · exact hb x hx
        · simp at hx;subst hx;exact hq
      | false =>
        refine wp_loop ?_
        repeat (first|apply wp_as|apply wp_ss|refine wr (by simp [hi2,e1,hq];with_reducible rfl) ?_|refine wq (by simp [hi2,e1,hq];with_reducible rfl) ?_|refine wt (by simpa [hi2,e1,hq]) ?_|refine wf (by simpa [hi2,e1,hq]) ?_|refine xt (by simpa [hi2,e1,hq]) ?_|refine xf (by simpa [hi2,e1,hq]) ?_|apply wp_bs|apply wp_b|refine wp_sr ?_|refine wp_sx ?_|refine wp_ret' ?_|refine wp_skip' ?_|refine wp_exit' ?_)
        exact ⟨rfl,k,⟨by omega,hb,fun _=>hq⟩,rfl⟩
  refine call_of_wp zt335 rfl ?_
  repeat (first|apply wp_as|apply wp_ss|refine wr (by simp [he1,he2];with_reducible rfl) ?_|refine wq (by simp [he1,he2];with_reducible rfl) ?_|refine wt (by simpa [he1,he2]) ?_|refine wf (by simpa [he1,he2]) ?_|refine xt (by simpa [he1,he2]) ?_|refine xf (by simpa [he1,he2]) ?_|apply wp_bs|apply wp_b|refine wp_sr ?_|refine wp_sx ?_|refine wp_ret' ?_|refine wp_skip' ?_|refine wp_exit' ?_)
  refine wp_imp (loop es.length 0 (by simp) (by simp)) ?_
  rintro ex st ⟨rfl,k,⟨hk,hb,hs⟩,rfl⟩
  rw [insE_at e es k hk hb hs]
  try simp only [if_true]
  have hT:es.take es.length=es:=List.take_of_length_le (Nat.le_refl _)
  have hT2:(es.drop k).take (es.length - k)=es.drop k:=List.take_of_length_le (by simp)
  have hT3:(es.take k).take k=es.take k:=by rw [List.take_take,Nat.min_self]
  have hl1:k≤274877906943:=by omega
  have hl2:k≤274877906944:=by omega
  have hl3:k+1≤274877906944:=by omega
  have hl4:k+1+(es.length - k)≤274877906944:=by omega
  have hT4:(es.take k++[(e.1,e.2)]).take (k+1)=es.take k++[(e.1,e.2)]:=List.take_of_length_le (by simp;omega)
  have hmin:min k es.length=k:=by omega
  repeat (first|apply wp_as|apply wp_ss|refine wr (by simp [hk,hT,hT2,hT3,hl1,hl2,hl3,hl4,hT4,hmin];with_reducible rfl) ?_|refine wq (by simp [hk,hT,hT2,hT3,hl1,hl2,hl3,hl4,hT4,hmin];with_reducible rfl) ?_|refine wt (by simpa [hk,hT,hT2,hT3,hl1,hl2,hl3,hl4,hT4,hmin]) ?_|refine wf (by simpa [hk,hT,hT2,hT3,hl1,hl2,hl3,hl4,hT4,hmin]) ?_|refine xt (by simpa [hk,hT,hT2,hT3,hl1,hl2,hl3,hl4,hT4,hmin]) ?_|refine xf (by simpa [hk,hT,hT2,hT3,hl1,hl2,hl3,hl4,hT4,hmin]) ?_|apply wp_bs|apply wp_b|refine wp_sr ?_|refine wp_sx ?_|refine wp_ret' ?_|refine wp_skip' ?_|refine wp_exit' ?_)
  refine wp_ra (by simp [hk,hT,hT2,hT3,hl1,hl2,hl3,hl4,hT4,hmin];with_reducible rfl) (by simp;with_reducible rfl) ?_ ?_
  · intro p hp
    simp only [List.mem_cons,List.not_mem_nil,or_false] at hp
    rcases hp with rfl | rfl | rfl | rfl | rfl | rfl | rfl | rfl | rfl | rfl | rfl
    · exact ⟨_,by simp [hk,hT,hT2,hT3,hl1,hl2,hl3,hl4,hT4,hmin];with_reducible rfl,by simp⟩
    · exact ⟨_,by simp [hk,hT,hT2,hT3,hl1,hl2,hl3,hl4,hT4,hmin];with_reducible rfl,by simp⟩
    · exact ⟨_,by simp [hk,hT,hT2,hT3,hl1,hl2,hl3,hl4,hT4,hmin];with_reducible rfl,by simp⟩
    · exact ⟨_,by simp [hk,hT,hT2,hT3,hl1,hl2,hl3,hl4,hT4,hmin];with_reducible rfl,by simp⟩
    · exact ⟨_,by simp [hk,hT,hT2,hT3,hl1,hl2,hl3,hl4,hT4,hmin];with_reducible rfl,by simp⟩
    · exact ⟨_,by simp [hk,hT,hT2,hT3,hl1,hl2,hl3,hl4,hT4,hmin];with_reducible rfl,by simp⟩
    · exact ⟨_,by simp [hk,hT,hT2,hT3,hl1,hl2,hl3,hl4,hT4,hmin];with_reducible rfl,by simp⟩
    · exact ⟨_,by simp [hk,hT,hT2,hT3,hl1,hl2,hl3,hl4,hT4,hmin];with_reducible rfl,by simp⟩
    · exact ⟨_,by simp [hk,hT,hT2,hT3,hl1,hl2,hl3,hl4,hT4,hmin];with_reducible rfl,by simp⟩
    · exact ⟨_,by simp [hk,hT,hT2,hT3,hl1,hl2,hl3,hl4,hT4,hmin];with_reducible rfl,by simp⟩
    · exact ⟨_,by simp [hk,hT,hT2,hT3,hl1,hl2,hl3,hl4,hT4,hmin];with_reducible rfl,by simp⟩
  repeat (first|apply wp_as|apply wp_ss|refine wr (by simp;with_reducible rfl) ?_|refine wq (by simp;with_reducible rfl) ?_|refine wt (by simpa) ?_|refine wf (by simpa) ?_|refine xt (by simpa) ?_|refine xf (by simpa) ?_|apply wp_bs|apply wp_b|refine wp_sr ?_|refine wp_sx ?_|refine wp_ret' ?_|refine wp_skip' ?_|refine wp_exit' ?_)
  simp [zi335]
end Go.Idl
namespace Go.Idl
open Go
def tab (t:List (List Int)):List (List IV):=t.map fun r=>[.lst 1 (ints r) false]
def oab (t:List (List Int)):List (List IV):=t.map fun r=>[.own 1 (ints r)]
@[simp] theorem tab_len (t:List (List Int)):(tab t).length=t.length:=by simp [tab]
@[simp] theorem oab_len (t:List (List Int)):(oab t).length=t.length:=by simp [oab]
@[simp] theorem oab_nil:oab []=[]:=rfl
@[simp] theorem tab_get? (t:List (List Int)) (i:Nat):(tab t)[i]? = t[i]?.map fun r=>[IV.lst 1 (ints r) false]:=by simp [tab]
@[simp] theorem tab_get (t:List (List Int)) (i:Nat) (h:i < (tab t).length):(tab t)[i]=[IV.lst 1 (ints (t[i]'(by simpa [tab] using h))) false]:=by simp [tab]
@[simp] theorem oab_get? (t:List (List Int)) (i:Nat):(oab t)[i]? = t[i]?.map fun r=>[IV.own 1 (ints r)]:=by simp [oab]
@[simp] theorem oab_get (t:List (List Int)) (i:Nat) (h:i < (oab t).length):(oab t)[i]=[IV.own 1 (ints (t[i]'(by simpa [oab] using h)))]:=by simp [oab]
@[simp] theorem oab_one (t:List (List Int)) (r:List Int):oab t++[[IV.own 1 (ints r)]]=oab (t++[r]):=by simp [oab]
@[simp] theorem oab_set (t:List (List Int)) (i:Nat) (r:List Int):(oab t).set i [IV.own 1 (ints r)]=oab (t.set i r):=by simp [oab,List.map_set]
@[simp] theorem oab_take (t:List (List Int)) (n:Nat):(oab t).take n=oab (t.take n):=by simp [oab,List.map_take]
@[simp] theorem frz_oab (t:List (List Int)):frzLL (oab t)=tab t:=by
  induction t with
  | nil=>rfl
  | cons x xs ih =>
    simp only [oab,tab,List.map_cons,frzLL,frzL,frzV] at *
    rw [ih]
    have:frzLL (ints x)=ints x:=by
      clear ih
      induction x with
      | nil=>rfl
      | cons y ys ih=>simp only [ints,List.map_cons,frzLL,frzL,frzV] at *;rw [ih]
    rw [this]
@[simp] theorem tab_all1 (t:List (List Int)):((tab t).all fun x=>x.all IV.plain1)=true:=by
  induction t with
  | nil=>rfl
  | cons x xs ih=>simp only [tab,List.map_cons,List.all_cons] at *;rw [ih];rfl
@[simp] theorem oab_noLst (t:List (List Int)):noLstLL (oab t)=true:=by
  induction t with
  | nil=>rfl
  | cons x xs ih =>
    simp only [oab,List.map_cons,noLstLL,noLstL,noLstV] at *
    rw [ih,ints_noLst];rfl
def g2 (t:List (List Int)) (a b:Nat):Int:=(t.getD a []).getD b 0
end Go.Idl
namespace Go.Idl
open Go
def asc0 (s:List Int):List Int:=(fall s).reverse
def overT (s:List Int) (i:Nat):Int:=((asc0 s).take (i+1)).sum - ((i:Int)+1) * i / 2
def over (s:List Int):List Int:=mapR s.length (overT s)
end Go.Idl
namespace Go.Idl
open Go
theorem ev_hasInt (xs:List Int) (c:Bool) (y:Int) (hl:xs.length≤2000000) :
    Ev tb zl131 [] [L xs c,I y] [] ⟨Bo (decide (y ∈ xs)),[],[],[]⟩:=by
  have loop:∀ (m i:Nat),i+m=xs.length→wp tb (.loop z131l6) { T:=[(0,L xs c),(1,I y),(5,I i)],loc:=[],M:=[] }
      (fun ex st=>(ex=.exit 0∧y ∉ xs.drop i∧st={ T:=[(0,L xs c),(1,I y),(5,I xs.length),(9,Bo false)],loc:=[],M:=[] }) ∨
        ex=.ret∧y ∈ xs.drop i∧st={ T:=[(4,Bo true)],loc:=[],M:=[] }):=by
    intro m
    induction m with
    | zero =>
      intro i hi
      obtain ⟨h1,h2⟩:=drop_end hi
      have h3:i=xs.length:=hi
      subst h3
      refine wp_loop ?_
      repeat (first|apply wp_as|apply wp_ss|refine wr (by simp;with_reducible rfl) ?_|refine wq (by simp;with_reducible rfl) ?_|refine wt (by simpa) ?_|refine wf (by simpa) ?_|refine xt (by simpa) ?_|refine xf (by simpa) ?_|apply wp_bs|apply wp_b|refine wp_sr ?_|refine wp_sx ?_|refine wp_ret' ?_|refine wp_skip' ?_|refine wp_exit' ?_)
      exact .inl ⟨rfl,by rw [h2];simp,rfl⟩
    | succ m ih =>
      intro i hi
      obtain ⟨hi2,h2,h3⟩:=drop_get hi
      have w2:IntKind.i64.wrap ((i:Int)+1)=((i+1:Nat):Int):=wrapS (by omega)
      rw [h2]
      by_cases he:xs[i]=y
      · refine wp_loop ?_
        repeat (first|apply wp_as|apply wp_ss|refine wr (by simp [hi2,he];with_reducible rfl) ?_|refine wq (by simp [hi2,he];with_reducible rfl) ?_|refine wt (by simpa [hi2,he]) ?_|refine wf (by simpa [hi2,he]) ?_|refine xt (by simpa [hi2,he]) ?_|refine xf (by simpa [hi2,he]) ?_|apply wp_bs|apply wp_b|refine wp_sr ?_|refine wp_sx ?_|refine wp_ret' ?_|refine wp_skip' ?_|refine wp_exit' ?_)
        exact .inr ⟨rfl,by simp [he],rfl⟩
      · refine wp_loop ?_
        repeat (first|apply wp_as|apply wp_ss|refine wr (by simp [hi2,he,w2];with_reducible rfl) ?_|refine wq (by simp [hi2,he,w2];with_reducible rfl) ?_|refine wt (by simpa [hi2,he,w2]) ?_|refine wf (by simpa [hi2,he,w2]) ?_|refine xt (by simpa [hi2,he,w2]) ?_|refine xf (by simpa [hi2,he,w2]) ?_|apply wp_bs|apply wp_b|refine wp_sr ?_|refine wp_sx ?_|refine wp_ret' ?_|refine wp_skip' ?_|refine wp_exit' ?_)
        refine wp_imp (ih (i+1) (by omega)) ?_
        rintro ex st (⟨rfl,h,rfl⟩ | ⟨rfl,h,rfl⟩)
        · exact .inl ⟨rfl,by rw [List.mem_cons];rintro (h' | h');exact he h'.symm;exact h h',rfl⟩
        · exact .inr ⟨rfl,List.mem_cons_of_mem _ h,rfl⟩
  refine call_of_wp zt131 rfl ?_
  repeat (first|apply wp_as|apply wp_ss|refine wr (by simp;with_reducible rfl) ?_|refine wq (by simp;with_reducible rfl) ?_|refine wt (by simpa) ?_|refine wf (by simpa) ?_|refine xt (by simpa) ?_|refine xf (by simpa) ?_|apply wp_bs|apply wp_b|refine wp_sr ?_|refine wp_sx ?_|refine wp_ret' ?_|refine wp_skip' ?_|refine wp_exit' ?_)
  refine wp_imp (loop xs.length 0 (by omega)) ?_
  rintro ex st (⟨rfl,h,rfl⟩ | ⟨rfl,h,rfl⟩)
  · simp only [if_true]
    simp only [List.drop_zero] at h
    repeat (first|apply wp_as|apply wp_ss|refine wr (by simp;with_reducible rfl) ?_|refine wq (by simp;with_reducible rfl) ?_|refine wt (by simpa) ?_|refine wf (by simpa) ?_|refine xt (by simpa) ?_|refine xf (by simpa) ?_|apply wp_bs|apply wp_b|refine wp_sr ?_|refine wp_sx ?_|refine wp_ret' ?_|refine wp_skip' ?_|refine wp_exit' ?_)
    simp [zi131,h]
  · simp only [List.drop_zero] at h
    simp [zi131,h]
theorem sub_len:∀ (A l:List Int),A.Nodup→(∀ x ∈ A,x ∈ l)→A.length≤l.length
  | [],l,_,_=>by simp
  | x::r,l,hd,h=>by
    have hd':=List.nodup_cons.1 hd
    have h1:=sub_len r (l.erase x) hd'.2 (fun y hy=>(List.mem_erase_of_ne (fun e=>hd'.1 (by rw [← e];exact hy))).2 (h y (by simp [hy])))
    have hx:=h x (by simp)
    rw [List.length_erase_of_mem hx] at h1
    have:=List.length_pos_of_mem hx
    simp only [List.length_cons];omega
end Go.Idl
namespace Go.Idl
open Go
def fmx (P:Nat→Bool) (left:List Int):Nat→Int
  | 0=>-1
  | k+1=>if P k && (decide (fmx P left k < 0) || decide (left.getD (fmx P left k).toNat 0 < left.getD k 0)) then (k:Int) else fmx P left k
theorem fmx_cases (P:Nat→Bool) (left:List Int):∀ k,fmx P left k=-1 ∨ ∃ q:Nat,q < k∧fmx P left k=q∧P q=true
  | 0=>.inl rfl
  | k+1=>by
    rw [fmx]
    split
    · rename_i h
      simp only [Bool.and_eq_true] at h
      exact .inr ⟨k,by omega,rfl,h.1⟩
    · rcases fmx_cases P left k with h | ⟨q,h1,h2,h3⟩
      · exact .inl h
      · exact .inr ⟨q,by omega,h2,h3⟩
def layS (v:Int) (n:Nat) (done:List Int):Nat→List Int→List (Int×Int)→Option (List Int×List (Int×Int))
  | 0,left,es=>some (left,es)
  | k+1,left,es =>
    let b:=fmx (fun i=>!decide ((i:Int) ∈ done) && !has es v i) left n
    if b < 0 ∨ left.getD b.toNat 0 < 1 then none else layS v n done k (decAt left b.toNat) (insE (min v b,max v b) es)
def realS (n:Nat):Nat→List Int→List Int→List (Int×Int)→Option (List (Int×Int))
  | 0,_,_,es=>some es
  | m+1,left,done,es =>
    let v:=fmx (fun i=>!decide ((i:Int) ∈ done)) left n
    match layS v n (done++[v]) (left.getD v.toNat 0).toNat left es with
    | none=>none
    | some (left',es')=>realS n m left' (done++[v]) es'
theorem sr_v (d:List Int) (c:Bool) (n:Nat) (hn:n≤7) (hd:d.length=n) (left done:List Int) (hl:left.length=n) (hdl:done.length≤100) (Bs:Boxes):∀ (m i:Nat),i+m=n →
    wp tb (.loop z370l11) { T:=[(0,L d c),(2,.bptr 0 0 0),(4,.bptr 0 1 0),(5,O left),(6,O done),(7,I (fmx (fun i=>!decide ((i:Int) ∈ done)) left i)),(8,I i)],loc:=Bs,M:=[] }
      (fun ex st=>ex=.exit 2∧st={ T:=[(0,L d c),(2,.bptr 0 0 0),(4,.bptr 0 1 0),(5,O left),(6,O done),(7,I (fmx (fun i=>!decide ((i:Int) ∈ done)) left n)),(8,I n),(27,Bo false)],loc:=Bs,M:=[] }):=by
  intro m
  induction m with
  | zero =>
    intro i hi
    have h3:i=n:=hi
    subst h3
    refine wp_loop ?_
    repeat (first|apply wp_as|apply wp_ss|refine wr (by simp [hd];with_reducible rfl) ?_|refine wq (by simp [hd];with_reducible rfl) ?_|refine wt (by simpa [hd]) ?_|refine wf (by simpa [hd]) ?_|refine xt (by simpa [hd]) ?_|refine xf (by simpa [hd]) ?_|apply wp_bs|apply wp_b|refine wp_sr ?_|refine wp_sx ?_|refine wp_ret' ?_|refine wp_skip' ?_|refine wp_exit' ?_)
    exact ⟨rfl,rfl⟩
  | succ m ih =>
    intro i hi
    have hin:i < n:=by omega
    have hil:i < left.length:=by omega
    have e1:=fun cc=>ev_lim (ev_hasInt done cc (i:Int) (by omega))
    have w2:IntKind.i64.wrap ((i:Int)+1)=((i+1:Nat):Int):=wrapS (by omega)
    have hdt:done.take done.length=done:=List.take_of_length_le (Nat.le_refl _)
    have hn2:=ih (i+1) (by omega)
    rw [fmx] at hn2
    have gi:left.getD i 0=left[i]:=by simp [List.getD_eq_getElem?_getD,List.getElem?_eq_getElem hil]
    rw [gi] at hn2
    have hcs:=fmx_cases (fun i=>!decide ((i:Int) ∈ done)) left i
    generalize fmx (fun i=>!decide ((i:Int) ∈ done)) left i=b at *
    by_cases hdn:(i:Int) ∈ done
    · simp only [hdn,decide_true,Bool.not_true,Bool.false_and,Bool.false_eq_true,if_false] at hn2
      refine wp_loop ?_
      repeat (first|apply wp_as|apply wp_ss|refine wr (by simp [hd,hin,e1,hdn,hdt,w2];with_reducible rfl) ?_|refine wq (by simp [hd,hin,e1,hdn,hdt,w2];with_reducible rfl) ?_|refine wt (by simpa [hd,hin,e1,hdn,hdt,w2]) ?_|refine wf (by simpa [hd,hin,e1,hdn,hdt,w2]) ?_|refine xt (by simpa [hd,hin,e1,hdn,hdt,w2]) ?_|refine xf (by simpa [hd,hin,e1,hdn,hdt,w2]) ?_|apply wp_bs|apply wp_b|refine wp_sr ?_|refine wp_sx ?_|refine wp_ret' ?_|refine wp_skip' ?_|refine wp_exit' ?_)
      exact hn2
    · simp only [hdn,decide_false,Bool.not_false,Bool.true_and] at hn2
      rcases hcs with rfl | ⟨q,hq,rfl,-⟩
      · simp only [show ((-1:Int) < 0) from by decide,decide_true,Bool.true_or,if_true] at hn2
        refine wp_loop ?_
        repeat (first|apply wp_as|apply wp_ss|refine wr (by simp [hd,hin,e1,hdn,hdt,w2];with_reducible rfl) ?_|refine wq (by simp [hd,hin,e1,hdn,hdt,w2];with_reducible rfl) ?_|refine wt (by simpa [hd,hin,e1,hdn,hdt,w2]) ?_|refine wf (by simpa [hd,hin,e1,hdn,hdt,w2]) ?_|refine xt (by simpa [hd,hin,e1,hdn,hdt,w2]) ?_|refine xf (by simpa [hd,hin,e1,hdn,hdt,w2]) ?_|apply wp_bs|apply wp_b|refine wp_sr ?_|refine wp_sx ?_|refine wp_ret' ?_|refine wp_skip' ?_|refine wp_exit' ?_)
        exact hn2
      · have hql:q < left.length:=by omega
        have hqn:q < n:=by omega
        have gq:left.getD q 0=left[q]:=by simp [List.getD_eq_getElem?_getD,List.getElem?_eq_getElem hql]
        have hq0:¬ (q:Int) < 0:=by omega
        simp only [hq0,decide_false,Bool.false_or,Int.toNat_natCast,gq,decide_eq_true_eq] at hn2
        by_cases hlt:left[q] < left[i]
        · rw [if_pos hlt] at hn2
          refine wp_loop ?_
          repeat (first|apply wp_as|apply wp_ss|refine wr (by simp [hd,hin,hil,e1,hdn,hdt,w2,hql,hqn,hl,hlt];with_reducible rfl) ?_|refine wq (by simp [hd,hin,hil,e1,hdn,hdt,w2,hql,hqn,hl,hlt];with_reducible rfl) ?_|refine wt (by simpa [hd,hin,hil,e1,hdn,hdt,w2,hql,hqn,hl,hlt]) ?_|refine wf (by simpa [hd,hin,hil,e1,hdn,hdt,w2,hql,hqn,hl,hlt]) ?_|refine xt (by simpa [hd,hin,hil,e1,hdn,hdt,w2,hql,hqn,hl,hlt]) ?_|refine xf (by simpa [hd,hin,hil,e1,hdn,hdt,w2,hql,hqn,hl,hlt]) ?_|apply wp_bs|apply wp_b|refine wp_sr ?_|refine wp_sx ?_|refine wp_ret' ?_|refine wp_skip' ?_|refine wp_exit' ?_)
          exact hn2
        · rw [if_neg hlt] at hn2
          refine wp_loop ?_
          repeat (first|apply wp_as|apply wp_ss|refine wr (by simp [hd,hin,hil,e1,hdn,hdt,w2,hql,hqn,hl,hlt];with_reducible rfl) ?_|refine wq (by simp [hd,hin,hil,e1,hdn,hdt,w2,hql,hqn,hl,hlt];with_reducible rfl) ?_|refine wt (by simpa [hd,hin,hil,e1,hdn,hdt,w2,hql,hqn,hl,hlt]) ?_|refine wf (by simpa [hd,hin,hil,e1,hdn,hdt,w2,hql,hqn,hl,hlt]) ?_|refine xt (by simpa [hd,hin,hil,e1,hdn,hdt,w2,hql,hqn,hl,hlt]) ?_|refine xf (by simpa [hd,hin,hil,e1,hdn,hdt,w2,hql,hqn,hl,hlt]) ?_|apply wp_bs|apply wp_b|refine wp_sr ?_|refine wp_sx ?_|refine wp_ret' ?_|refine wp_skip' ?_|refine wp_exit' ?_)
          exact hn2
theorem sr_b (d:List Int) (c:Bool) (n:Nat) (hn:n≤7) (hd:d.length=n) (left done:List Int) (hl:left.length=n) (hdl:done.length≤100) (v k:Int) (es:List (Int×Int)) (hel:es.length≤1000):∀ (m i:Nat),i+m=n →
    wp tb (.loop z370l21) { T:=[(0,L d c),(2,.bptr 0 0 0),(4,.bptr 0 1 0),(5,O left),(6,O done),(7,I v),(9,I k),(10,I (fmx (fun i=>!decide ((i:Int) ∈ done) && !has es v i) left i)),(11,I i)],loc:=[[I 0,Z],[I n,O2 es]],M:=[] }
      (fun ex st=>ex=.exit 6∧st={ T:=[(0,L d c),(2,.bptr 0 0 0),(4,.bptr 0 1 0),(5,O left),(6,O done),(7,I v),(9,I k),(10,I (fmx (fun i=>!decide ((i:Int) ∈ done) && !has es v i) left n)),(11,I n),(65,Bo false)],loc:=[[I 0,Z],[I n,O2 es]],M:=[] }):=by
  intro m
  induction m with
  | zero =>
    intro i hi
    have h3:i=n:=hi
    subst h3
    refine wp_loop ?_
    repeat (first|apply wp_as|apply wp_ss|refine wr (by simp [hd];with_reducible rfl) ?_|refine wq (by simp [hd];with_reducible rfl) ?_|refine wt (by simpa [hd]) ?_|refine wf (by simpa [hd]) ?_|refine xt (by simpa [hd]) ?_|refine xf (by simpa [hd]) ?_|apply wp_bs|apply wp_b|refine wp_sr ?_|refine wp_sx ?_|refine wp_ret' ?_|refine wp_skip' ?_|refine wp_exit' ?_)
    exact ⟨rfl,rfl⟩
  | succ m ih =>
    intro i hi
    have hin:i < n:=by omega
    have hil:i < left.length:=by omega
    have e1:=fun cc=>ev_lim (ev_hasInt done cc (i:Int) (by omega))
    have e2:=fun cc=>ev_lim (ev_hasEdge n es cc v (i:Int) (by omega))
    have w2:IntKind.i64.wrap ((i:Int)+1)=((i+1:Nat):Int):=wrapS (by omega)
    have hdt:done.take done.length=done:=List.take_of_length_le (Nat.le_refl _)
    have het:es.take es.length=es:=List.take_of_length_le (Nat.le_refl _)
    have hn2:=ih (i+1) (by omega)
    rw [fmx] at hn2
    have gi:left.getD i 0=left[i]:=by simp [List.getD_eq_getElem?_getD,List.getElem?_eq_getElem hil]
    rw [gi] at hn2
    have hcs:=fmx_cases (fun i=>!decide ((i:Int) ∈ done) && !has es v i) left i
    generalize fmx (fun i=>!decide ((i:Int) ∈ done) && !has es v i) left i=b at *
    by_cases hdn:(i:Int) ∈ done
    · simp only [hdn,decide_true,Bool.not_true,Bool.false_and,Bool.false_eq_true,if_false] at hn2
      refine wp_loop ?_
      repeat (first|apply wp_as|apply wp_ss|refine wr (by simp [hd,hin,e1,hdn,hdt,w2];with_reducible rfl) ?_|refine wq (by simp [hd,hin,e1,hdn,hdt,w2];with_reducible rfl) ?_|refine wt (by simpa [hd,hin,e1,hdn,hdt,w2]) ?_|refine wf (by simpa [hd,hin,e1,hdn,hdt,w2]) ?_|refine xt (by simpa [hd,hin,e1,hdn,hdt,w2]) ?_|refine xf (by simpa [hd,hin,e1,hdn,hdt,w2]) ?_|apply wp_bs|apply wp_b|refine wp_sr ?_|refine wp_sx ?_|refine wp_ret' ?_|refine wp_skip' ?_|refine wp_exit' ?_)
      exact hn2
    cases hha:has es v (i:Int) with
    | true =>
      simp only [hdn,hha,decide_false,Bool.not_false,Bool.not_true,Bool.and_false,Bool.false_and,Bool.false_eq_true,if_false] at hn2
      refine wp_loop ?_
      repeat (first|apply wp_as|apply wp_ss|refine wr (by simp [hd,hin,e1,e2,hdn,hdt,het,hha,w2];with_reducible rfl) ?_|refine wq (by simp [hd,hin,e1,e2,hdn,hdt,het,hha,w2];with_reducible rfl) ?_|refine wt (by simpa [hd,hin,e1,e2,hdn,hdt,het,hha,w2]) ?_|refine wf (by simpa [hd,hin,e1,e2,hdn,hdt,het,hha,w2]) ?_|refine xt (by simpa [hd,hin,e1,e2,hdn,hdt,het,hha,w2]) ?_|refine xf (by simpa [hd,hin,e1,e2,hdn,hdt,het,hha,w2]) ?_|apply wp_bs|apply wp_b|refine wp_sr ?_|refine wp_sx ?_|refine wp_ret' ?_|refine wp_skip' ?_|refine wp_exit' ?_)
      exact hn2
    | false =>
      simp only [hdn,hha,decide_false,Bool.not_false,Bool.true_and] at hn2
      rcases hcs with rfl | ⟨q,hq,rfl,-⟩
      · simp only [show ((-1:Int) < 0) from by decide,decide_true,Bool.true_or,if_true] at hn2
        refine wp_loop ?_
        repeat (first|apply wp_as|apply wp_ss|refine wr (by simp [hd,hin,e1,e2,hdn,hdt,het,hha,w2];with_reducible rfl) ?_|refine wq (by simp [hd,hin,e1,e2,hdn,hdt,het,hha,w2];with_reducible rfl) ?_|refine wt (by simpa [hd,hin,e1,e2,hdn,hdt,het,hha,w2]) ?_|refine wf (by simpa [hd,hin,e1,e2,hdn,hdt,het,hha,w2]) ?_|refine xt (by simpa [hd,hin,e1,e2,hdn,hdt,het,hha,w2]) ?_|refine xf (by simpa [hd,hin,e1,e2,hdn,hdt,het,hha,w2]) ?_|apply wp_bs|apply wp_b|refine wp_sr ?_|refine wp_sx ?_|refine wp_ret' ?_|refine wp_skip' ?_|refine wp_exit' ?_)
        exact hn2
      · have hql:q < left.length:=by omega
        have hqn:q < n:=by omega
        have gq:left.getD q 0=left[q]:=by simp [List.getD_eq_getElem?_getD,List.getElem?_eq_getElem hql]
        have hq0:¬ (q:Int) < 0:=by omega
        simp only [hq0,decide_false,Bool.false_or,Int.toNat_natCast,gq,decide_eq_true_eq] at hn2
        by_cases hlt:left[q] < left[i]
        · rw [if_pos hlt] at hn2
          refine wp_loop ?_
          repeat (first|apply wp_as|apply wp_ss|refine wr (by simp [hd,hin,hil,e1,e2,hdn,hdt,het,hha,w2,hql,hqn,hl,hlt];with_reducible rfl) ?_|refine wq (by simp [hd,hin,hil,e1,e2,hdn,hdt,het,hha,w2,hql,hqn,hl,hlt];with_reducible rfl) ?_|refine wt (by simpa [hd,hin,hil,e1,e2,hdn,hdt,het,hha,w2,hql,hqn,hl,hlt]) ?_|refine wf (by simpa [hd,hin,hil,e1,e2,hdn,hdt,het,hha,w2,hql,hqn,hl,hlt]) ?_|refine xt (by simpa [hd,hin,hil,e1,e2,hdn,hdt,het,hha,w2,hql,hqn,hl,hlt]) ?_|refine xf (by simpa [hd,hin,hil,e1,e2,hdn,hdt,het,hha,w2,hql,hqn,hl,hlt]) ?_|apply wp_bs|apply wp_b|refine wp_sr ?_|refine wp_sx ?_|refine wp_ret' ?_|refine wp_skip' ?_|refine wp_exit' ?_)
          exact hn2
        · rw [if_neg hlt] at hn2
          refine wp_loop ?_
          repeat (first|apply wp_as|apply wp_ss|refine wr (by simp [hd,hin,hil,e1,e2,hdn,hdt,het,hha,w2,hql,hqn,hl,hlt];with_reducible rfl) ?_|refine wq (by simp [hd,hin,hil,e1,e2,hdn,hdt,het,hha,w2,hql,hqn,hl,hlt];with_reducible rfl) ?_|refine wt (by simpa [hd,hin,hil,e1,e2,hdn,hdt,het,hha,w2,hql,hqn,hl,hlt]) ?_|refine wf (by simpa [hd,hin,hil,e1,e2,hdn,hdt,het,hha,w2,hql,hqn,hl,hlt]) ?_|refine xt (by simpa [hd,hin,hil,e1,e2,hdn,hdt,het,hha,w2,hql,hqn,hl,hlt]) ?_|refine xf (by simpa [hd,hin,hil,e1,e2,hdn,hdt,het,hha,w2,hql,hqn,hl,hlt]) ?_|apply wp_bs|apply wp_b|refine wp_sr ?_|refine wp_sx ?_|refine wp_ret' ?_|refine wp_skip' ?_|refine wp_exit' ?_)
          exact hn2
def FailS (n:Nat) (st:St):Prop:=∃ B:List IV,st={ T:=[(2,.bptr 0 0 0),(3,Bo false)],loc:=[[I 0,Z],B],M:=[] }
theorem sr_l (d:List Int) (c:Bool) (n:Nat) (hn:n≤7) (hd:d.length=n) (done:List Int) (hdl:done.length≤100) (v:Nat):∀ (k:Nat) (left:List Int) (es:List (Int×Int)),left.length=n→(∀ x ∈ left,0≤x∧x≤1000)→es.length+k≤900→k≤800 →
    wp tb (.loop z370l27) { T:=[(0,L d c),(2,.bptr 0 0 0),(4,.bptr 0 1 0),(5,O left),(6,O done),(7,I v),(9,I k)],loc:=[[I 0,Z],[I n,O2 es]],M:=[] }
      (fun ex st=>match layS v n done k left es with
        | none=>ex=.ret∧FailS n st
        | some (left',es')=>ex=.exit 4∧st={ T:=[(0,L d c),(2,.bptr 0 0 0),(4,.bptr 0 1 0),(5,O left'),(6,O done),(7,I v),(9,I 0),(59,Bo false)],loc:=[[I 0,Z],[I n,O2 es']],M:=[] }):=by
  intro k
  induction k with
  | zero =>
    intro left es hl hb he hk
    simp only [layS]
    rw [show ((0:Nat):Int)=0 from rfl]
    refine wp_loop ?_
    repeat (first|apply wp_as|apply wp_ss|refine wr (by simp;with_reducible rfl) ?_|refine wq (by simp;with_reducible rfl) ?_|refine wt (by simpa) ?_|refine wf (by simpa) ?_|refine xt (by simpa) ?_|refine xf (by simpa) ?_|apply wp_bs|apply wp_b|refine wp_sr ?_|refine wp_sx ?_|refine wp_ret' ?_|refine wp_skip' ?_|refine wp_exit' ?_)
    exact ⟨rfl,rfl⟩
  | succ k ih =>
    intro left es hl hb he hk
    have hB:=sr_b d c n hn hd left done hl hdl (v:Int) ((k+1:Nat):Int) es (by omega) n 0 (by omega)
    rw [show ((0:Nat):Int)=0 from rfl,show fmx (fun i=>!decide ((i:Int) ∈ done) && !has es (v:Int) i) left 0=-1 from rfl] at hB
    rw [layS]
    try simp only
    have hcs:=fmx_cases (fun i=>!decide ((i:Int) ∈ done) && !has es (v:Int) i) left n
    generalize fmx (fun i=>!decide ((i:Int) ∈ done) && !has es (v:Int) i) left n=b at *
    have hk0:(0:Int) < (k:Int)+1:=by omega
    rcases hcs with rfl | ⟨q,hq,rfl,-⟩
    · rw [if_pos (.inl (by decide))]
      refine wp_loop ?_
      repeat (first|apply wp_as|apply wp_ss|refine wr (by simp [hk0];with_reducible rfl) ?_|refine wq (by simp [hk0];with_reducible rfl) ?_|refine wt (by simpa [hk0]) ?_|refine wf (by simpa [hk0]) ?_|refine xt (by simpa [hk0]) ?_|refine xf (by simpa [hk0]) ?_|apply wp_bs|apply wp_b|refine wp_sr ?_|refine wp_sx ?_|refine wp_ret' ?_|refine wp_skip' ?_|refine wp_exit' ?_)
      refine wp_imp hB ?_
      rintro ex st ⟨rfl,rfl⟩
      simp only [if_true]
      repeat (first|apply wp_as|apply wp_ss|refine wr (by simp;with_reducible rfl) ?_|refine wq (by simp;with_reducible rfl) ?_|refine wt (by simpa) ?_|refine wf (by simpa) ?_|refine xt (by simpa) ?_|refine xf (by simpa) ?_|apply wp_bs|apply wp_b|refine wp_sr ?_|refine wp_sx ?_|refine wp_ret' ?_|refine wp_skip' ?_|refine wp_exit' ?_)
      exact ⟨rfl,_,rfl⟩
    · have hql:q < left.length:=by omega
      have gq:left.getD q 0=left[q]:=by simp [List.getD_eq_getElem?_getD,List.getElem?_eq_getElem hql]
      have hq0:¬ (q:Int) < 0:=by omega
      have bq:=hb _ (List.getElem_mem hql)
      rw [Int.toNat_natCast,gq]
      by_cases hlt:left[q] < 1
      · rw [if_pos (.inr hlt)]
        refine wp_loop ?_
        repeat (first|apply wp_as|apply wp_ss|refine wr (by simp [hk0];with_reducible rfl) ?_|refine wq (by simp [hk0];with_reducible rfl) ?_|refine wt (by simpa [hk0]) ?_|refine wf (by simpa [hk0]) ?_|refine xt (by simpa [hk0]) ?_|refine xf (by simpa [hk0]) ?_|apply wp_bs|apply wp_b|refine wp_sr ?_|refine wp_sx ?_|refine wp_ret' ?_|refine wp_skip' ?_|refine wp_exit' ?_)
        refine wp_imp hB ?_
        rintro ex st ⟨rfl,rfl⟩
        simp only [if_true]
        repeat (first|apply wp_as|apply wp_ss|refine wr (by simp [hq,hql,hl,hlt];with_reducible rfl) ?_|refine wq (by simp [hq,hql,hl,hlt];with_reducible rfl) ?_|refine wt (by simpa [hq,hql,hl,hlt]) ?_|refine wf (by simpa [hq,hql,hl,hlt]) ?_|refine xt (by simpa [hq,hql,hl,hlt]) ?_|refine xf (by simpa [hq,hql,hl,hlt]) ?_|apply wp_bs|apply wp_b|refine wp_sr ?_|refine wp_sx ?_|refine wp_ret' ?_|refine wp_skip' ?_|refine wp_exit' ?_)
        exact ⟨rfl,_,rfl⟩
      · rw [if_neg (by omega)]
        have hd2:decAt left q=left.set q (left[q] - 1):=by rw [decAt,gq]
        have e1:=fun cc=>ev_lim (ev_addEdge n es cc (v:Int) (q:Int) (by omega))
        have w1:IntKind.i64.wrap (left[q] - 1)=left[q] - 1:=wrap64 (by omega) (by omega)
        have w3:IntKind.i64.wrap (k:Int)=(k:Int):=wrap64 (by omega) (by omega)
        have het:es.take es.length=es:=List.take_of_length_le (Nat.le_refl _)
        have hn2:=ih (decAt left q) (insE (min (v:Int) q,max (v:Int) q) es) (by simp [decAt,hl]) (by
          rw [hd2]
          intro x hx
          rcases List.mem_or_eq_of_mem_set hx with hx | rfl
          · exact hb x hx
          · omega) (by rw [insE_len];omega) (by omega)
        rw [hd2] at hn2 ⊢
        refine wp_loop ?_
        repeat (first|apply wp_as|apply wp_ss|refine wr (by simp [hk0];with_reducible rfl) ?_|refine wq (by simp [hk0];with_reducible rfl) ?_|refine wt (by simpa [hk0]) ?_|refine wf (by simpa [hk0]) ?_|refine xt (by simpa [hk0]) ?_|refine xf (by simpa [hk0]) ?_|apply wp_bs|apply wp_b|refine wp_sr ?_|refine wp_sx ?_|refine wp_ret' ?_|refine wp_skip' ?_|refine wp_exit' ?_)
        refine wp_imp hB ?_
        rintro ex st ⟨rfl,rfl⟩
        simp only [if_true]
        repeat (first|apply wp_as|apply wp_ss|refine wr (by simp [hq,hql,hl,hlt,w1,w3,e1,het];with_reducible rfl) ?_|refine wq (by simp [hq,hql,hl,hlt,w1,w3,e1,het];with_reducible rfl) ?_|refine wt (by simpa [hq,hql,hl,hlt,w1,w3,e1,het]) ?_|refine wf (by simpa [hq,hql,hl,hlt,w1,w3,e1,het]) ?_|refine xt (by simpa [hq,hql,hl,hlt,w1,w3,e1,het]) ?_|refine xf (by simpa [hq,hql,hl,hlt,w1,w3,e1,het]) ?_|apply wp_bs|apply wp_b|refine wp_sr ?_|refine wp_sx ?_|refine wp_ret' ?_|refine wp_skip' ?_|refine wp_exit' ?_)
        exact hn2
end Go.Idl
namespace Go.Idl
open Go
def rI (N:Nat):List Int:=(List.range N).map fun v:Nat=>(v:Int)
theorem rI_len (N:Nat):(rI N).length=N:=by simp [rI]
theorem mem_rI {N:Nat} {x:Int}:x ∈ rI N ↔ 0≤x∧x < N:=by
  simp only [rI,List.mem_map,List.mem_range]
  exact ⟨fun ⟨v,h1,h2⟩=>by omega,fun h=>⟨x.toNat,by omega,by omega⟩⟩
def busy (rest gone:List Int) (v:Nat):Bool:=decide ((v:Int) ∈ rest) || decide ((v:Int) ∈ gone)
theorem rangeI_nodup (N:Nat):(rI N).Nodup:=by
  rw [rI,List.Nodup,List.pairwise_map]
  exact List.nodup_range.imp fun h e=>h (by omega)
theorem free_ex {N:Nat} {rest gone:List Int} (h:rest.length+gone.length < N):∃ w,w < N∧busy rest gone w=false:=by
  refine Classical.byContradiction fun hn=>?_
  have hall:∀ x ∈ rI N,x ∈ rest++gone:=fun x hx=>by
    have hx':=mem_rI.1 hx
    obtain ⟨v,rfl⟩:=Int.eq_ofNat_of_zero_le hx'.1
    have hv:v < N:=by omega
    have hb:busy rest gone v=true:=by
      cases hq:busy rest gone v with
      | true=>rfl
      | false=>exact absurd ⟨v,hv,hq⟩ hn
    simp only [busy,Bool.or_eq_true,decide_eq_true_eq] at hb
    exact List.mem_append.2 hb
  have:=sub_len _ _ (rangeI_nodup N) hall
  rw [rI_len,List.length_append] at this
  omega
end Go.Idl
namespace Go.Idl
open Go
theorem fmx_neg (P:Nat→Bool) (left:List Int):∀ k,fmx P left k=-1→∀ w,w < k→P w=false
  | 0,_,w,hw=>by omega
  | k+1,h,w,hw=>by
    rw [fmx] at h
    split at h
    · omega
    · rename_i h2
      have h1:=fmx_neg P left k h
      by_cases hwk:w=k
      · subst hwk
        cases hp:P w with
        | false=>rfl
        | true =>
          exfalso
          apply h2
          rw [hp,h]
          rfl
      · exact h1 w (by omega)
theorem layS_inv (v:Int) (n:Nat) (done:List Int):∀ (k:Nat) (left:List Int) (es:List (Int×Int)) (left':List Int) (es':List (Int×Int)),layS v n done k left es=some (left',es')→(∀ x ∈ left,0≤x∧x≤10) →
    left'.length=left.length∧(∀ x ∈ left',0≤x∧x≤10)∧es'.length=es.length+k
  | 0,left,es,left',es',h,hb=>by
    simp only [layS,Option.some.injEq,Prod.mk.injEq] at h
    obtain ⟨rfl,rfl⟩:=h
    exact ⟨rfl,hb,rfl⟩
  | k+1,left,es,left',es',h,hb=>by
    rw [layS] at h
    try simp only at h
    split at h
    · cases h
    · rename_i h0
      obtain ⟨q1,q2,q3⟩:=layS_inv v n done k _ _ _ _ h (by
        intro x hx
        rcases List.mem_or_eq_of_mem_set hx with hx | rfl
        · exact hb x hx
        · generalize (fmx (fun i=>!decide ((i:Int) ∈ done) && !has es v i) left n).toNat=j at *
          have hg:∀ y,left[j]? = some y→0≤y∧y≤10:=fun y hy=>hb y (List.mem_of_getElem? hy)
          rw [List.getD_eq_getElem?_getD] at h0 ⊢
          cases hq:left[j]? with
          | none=>rw [hq] at h0;simp at h0
          | some y =>
            rw [hq] at h0
            have:=hg y hq
            simp only [Option.getD_some] at h0 ⊢
            omega)
      exact ⟨by rw [q1];simp [decAt],q2,by rw [q3,insE_len];omega⟩
theorem sr_out (d:List Int) (c:Bool) (n:Nat) (hn:n≤7) (hd:d.length=n):∀ (m:Nat) (left done:List Int) (es:List (Int×Int)),done.length+m=n→left.length=n→(∀ x ∈ left,0≤x∧x≤10)→es.length+10 * m≤800 →
    wp tb (.loop z370l28) { T:=[(0,L d c),(2,.bptr 0 0 0),(4,.bptr 0 1 0),(5,O left),(6,O done)],loc:=[[I 0,Z],[I n,O2 es]],M:=[] }
      (fun ex st=>match realS n m left done es with
        | none=>ex=.ret∧FailS n st
        | some es'=>ex=.exit 0∧∃ (left' done':List Int),st={ T:=[(0,L d c),(2,.bptr 0 0 0),(4,.bptr 0 1 0),(5,O left'),(6,O done'),(23,Bo false)],loc:=[[I 0,Z],[I n,O2 es']],M:=[] }):=by
  intro m
  induction m with
  | zero =>
    intro left done es hm hl hb he
    rw [realS]
    have h1:¬ (done.length:Int) < n:=by omega
    have h1':¬ done.length < n:=by omega
    refine wp_loop ?_
    repeat (first|apply wp_as|apply wp_ss|refine wr (by simp [hd,h1,h1'];with_reducible rfl) ?_|refine wq (by simp [hd,h1,h1'];with_reducible rfl) ?_|refine wt (by simpa [hd,h1,h1']) ?_|refine wf (by simpa [hd,h1,h1']) ?_|refine xt (by simpa [hd,h1,h1']) ?_|refine xf (by simpa [hd,h1,h1']) ?_|apply wp_bs|apply wp_b|refine wp_sr ?_|refine wp_sx ?_|refine wp_ret' ?_|refine wp_skip' ?_|refine wp_exit' ?_)
    exact ⟨rfl,left,done,rfl⟩
  | succ m ih =>
    intro left done es hm hl hb he
    have h1:(done.length:Int) < n:=by omega
    have h1':done.length < n:=by omega
    have hV:=sr_v d c n hn hd left done hl (by omega) [[I 0,Z],[I n,O2 es]] n 0 (by omega)
    rw [show ((0:Nat):Int)=0 from rfl,show fmx (fun i=>!decide ((i:Int) ∈ done)) left 0=-1 from rfl] at hV
    rw [realS]
    try simp only
    obtain ⟨v,hvn,hv⟩:∃ v:Nat,v < n∧fmx (fun i=>!decide ((i:Int) ∈ done)) left n=v:=by
      rcases fmx_cases (fun i=>!decide ((i:Int) ∈ done)) left n with h | ⟨q,h2,h3,-⟩
      · obtain ⟨w,hw1,hw2⟩:=free_ex (N:=n) (rest:=[]) (gone:=done) (by simp;omega)
        have:=fmx_neg _ _ _ h w hw1
        simp [busy] at hw2
        simp [hw2] at this
      · exact ⟨q,h2,h3⟩
    rw [hv] at hV ⊢
    have hvl:v < left.length:=by omega
    have gv:left.getD v 0=left[v]:=by simp [List.getD_eq_getElem?_getD,List.getElem?_eq_getElem hvl]
    have bv:=hb _ (List.getElem_mem hvl)
    rw [Int.toNat_natCast,gv]
    obtain ⟨k,hk⟩:=Int.eq_ofNat_of_zero_le bv.1
    rw [hk,Int.toNat_natCast]
    have hL:=sr_l d c n hn hd (done++[(v:Int)]) (by simp;omega) v k left es hl (fun x hx=>by have:=hb x hx;omega) (by omega) (by omega)
    have hdl:done.length+1≤274877906944:=by omega
    have hdt:done.take done.length=done:=List.take_of_length_le (Nat.le_refl _)
    cases hlay:layS v n (done++[(v:Int)]) k left es with
    | none =>
      simp only [hlay] at hL
      try simp only
      refine wp_loop ?_
      repeat (first|apply wp_as|apply wp_ss|refine wr (by simp [hd,h1,h1'];with_reducible rfl) ?_|refine wq (by simp [hd,h1,h1'];with_reducible rfl) ?_|refine wt (by simpa [hd,h1,h1']) ?_|refine wf (by simpa [hd,h1,h1']) ?_|refine xt (by simpa [hd,h1,h1']) ?_|refine xf (by simpa [hd,h1,h1']) ?_|apply wp_bs|apply wp_b|refine wp_sr ?_|refine wp_sx ?_|refine wp_ret' ?_|refine wp_skip' ?_|refine wp_exit' ?_)
      refine wp_imp hV ?_
      rintro ex st ⟨rfl,rfl⟩
      simp only [if_true]
      repeat (first|apply wp_as|apply wp_ss|refine wr (by simp [hdl,hdt,hvl,hvn,hl,hk];with_reducible rfl) ?_|refine wq (by simp [hdl,hdt,hvl,hvn,hl,hk];with_reducible rfl) ?_|refine wt (by simpa [hdl,hdt,hvl,hvn,hl,hk]) ?_|refine wf (by simpa [hdl,hdt,hvl,hvn,hl,hk]) ?_|refine xt (by simpa [hdl,hdt,hvl,hvn,hl,hk]) ?_|refine xf (by simpa [hdl,hdt,hvl,hvn,hl,hk]) ?_|apply wp_bs|apply wp_b|refine wp_sr ?_|refine wp_sx ?_|refine wp_ret' ?_|refine wp_skip' ?_|refine wp_exit' ?_)
      refine wp_imp hL ?_
      rintro ex st ⟨rfl,hf⟩
      exact ⟨rfl,hf⟩
    | some q =>
      obtain ⟨left',es'⟩:=q
      simp only [hlay] at hL
      try simp only
      obtain ⟨q1,q2,q3⟩:=layS_inv v n _ k left es left' es' hlay hb
      have hn2:=ih left' (done++[(v:Int)]) es' (by simp;omega) (by omega) q2 (by omega)
      refine wp_loop ?_
      repeat (first|apply wp_as|apply wp_ss|refine wr (by simp [hd,h1,h1'];with_reducible rfl) ?_|refine wq (by simp [hd,h1,h1'];with_reducible rfl) ?_|refine wt (by simpa [hd,h1,h1']) ?_|refine wf (by simpa [hd,h1,h1']) ?_|refine xt (by simpa [hd,h1,h1']) ?_|refine xf (by simpa [hd,h1,h1']) ?_|apply wp_bs|apply wp_b|refine wp_sr ?_|refine wp_sx ?_|refine wp_ret' ?_|refine wp_skip' ?_|refine wp_exit' ?_)
      refine wp_imp hV ?_
      rintro ex st ⟨rfl,rfl⟩
      simp only [if_true]
      repeat (first|apply wp_as|apply wp_ss|refine wr (by simp [hdl,hdt,hvl,hvn,hl,hk];with_reducible rfl) ?_|refine wq (by simp [hdl,hdt,hvl,hvn,hl,hk];with_reducible rfl) ?_|refine wt (by simpa [hdl,hdt,hvl,hvn,hl,hk]) ?_|refine wf (by simpa [hdl,hdt,hvl,hvn,hl,hk]) ?_|refine xt (by simpa [hdl,hdt,hvl,hvn,hl,hk]) ?_|refine xf (by simpa [hdl,hdt,hvl,hvn,hl,hk]) ?_|apply wp_bs|apply wp_b|refine wp_sr ?_|refine wp_sx ?_|refine wp_ret' ?_|refine wp_skip' ?_|refine wp_exit' ?_)
      refine wp_imp hL ?_
      rintro ex st ⟨rfl,rfl⟩
      simp only [if_true]
      exact wp_dirty (by simp;with_reducible rfl) rfl (by simp;with_reducible rfl) (by simp) hn2
def realT (d:List Int):Option (List (Int×Int)):=realS d.length d.length d [] []
abbrev RS (n:Nat) (o:Option (List (Int×Int))):IV:=match o with
  | none=>.tup [.agg [I 0,Z],Bo false]
  | some es=>.tup [OG n es,Bo true]
theorem ev_spec_RealizeDegrees (d:List Int) (c:Bool) (hv:valid d=true):Ev tb zl324 [] [L d c] [] ⟨RS d.length (realT d),[],[],[]⟩:=by
  have hf:=valid_few hv
  have h7:=hf.1
  have e1:=ev_lim (ev_validDegrees d c (by omega))
  rw [hv] at e1
  have e2:=ev_lim (ev_copyInts d c (by omega))
  have hlo:=sr_out d c d.length h7 rfl d.length d [] [] (by simp) rfl (fun x hx=>by have:=hf.2 x hx;omega) (by simp;omega)
  have e3:limF tb zl370 [] [L d c] []=some ⟨RS d.length (realT d),[],[],[]⟩:=by
    refine ev_lim ?_
    unfold realT
    cases hr:realS d.length d.length d [] [] with
    | none =>
      simp only [hr] at hlo
      refine call_of_wp zt370 rfl ?_
      repeat (first|apply wp_as|apply wp_ss|refine wr (by simp [e2];with_reducible rfl) ?_|refine wq (by simp [e2];with_reducible rfl) ?_|refine wt (by simpa [e2]) ?_|refine wf (by simpa [e2]) ?_|refine xt (by simpa [e2]) ?_|refine xf (by simpa [e2]) ?_|apply wp_bs|apply wp_b|refine wp_sr ?_|refine wp_sx ?_|refine wp_ret' ?_|refine wp_skip' ?_|refine wp_exit' ?_)
      refine wp_imp hlo ?_
      rintro ex st ⟨rfl,B,rfl⟩
      simp [zi370]
    | some es =>
      simp only [hr] at hlo
      refine call_of_wp zt370 rfl ?_
      repeat (first|apply wp_as|apply wp_ss|refine wr (by simp [e2];with_reducible rfl) ?_|refine wq (by simp [e2];with_reducible rfl) ?_|refine wt (by simpa [e2]) ?_|refine wf (by simpa [e2]) ?_|refine xt (by simpa [e2]) ?_|refine xf (by simpa [e2]) ?_|apply wp_bs|apply wp_b|refine wp_sr ?_|refine wp_sx ?_|refine wp_ret' ?_|refine wp_skip' ?_|refine wp_exit' ?_)
      refine wp_imp hlo ?_
      rintro ex st ⟨rfl,left',done',rfl⟩
      simp only [if_true]
      have het:es.take es.length=es:=List.take_of_length_le (Nat.le_refl _)
      repeat (first|apply wp_as|apply wp_ss|refine wr (by simp [het];with_reducible rfl) ?_|refine wq (by simp [het];with_reducible rfl) ?_|refine wt (by simpa [het]) ?_|refine wf (by simpa [het]) ?_|refine xt (by simpa [het]) ?_|refine xf (by simpa [het]) ?_|apply wp_bs|apply wp_b|refine wp_sr ?_|refine wp_sx ?_|refine wp_ret' ?_|refine wp_skip' ?_|refine wp_exit' ?_)
      simp [zi370]
  cases hr:realT d with
  | none =>
    rw [hr] at e3
    refine call_of_wp zt324 rfl ?_
    repeat (first|apply wp_as|apply wp_ss|refine wr (by simp [e1,e3];with_reducible rfl) ?_|refine wq (by simp [e1,e3];with_reducible rfl) ?_|refine wt (by simpa [e1,e3]) ?_|refine wf (by simpa [e1,e3]) ?_|refine xt (by simpa [e1,e3]) ?_|refine xf (by simpa [e1,e3]) ?_|apply wp_bs|apply wp_b|refine wp_sr ?_|refine wp_sx ?_|refine wp_ret' ?_|refine wp_skip' ?_|refine wp_exit' ?_)
    simp [zi324]
  | some es =>
    rw [hr] at e3
    refine call_of_wp zt324 rfl ?_
    repeat (first|apply wp_as|apply wp_ss|refine wr (by simp [e1,e3];with_reducible rfl) ?_|refine wq (by simp [e1,e3];with_reducible rfl) ?_|refine wt (by simpa [e1,e3]) ?_|refine wf (by simpa [e1,e3]) ?_|refine xt (by simpa [e1,e3]) ?_|refine xf (by simpa [e1,e3]) ?_|apply wp_bs|apply wp_b|refine wp_sr ?_|refine wp_sx ?_|refine wp_ret' ?_|refine wp_skip' ?_|refine wp_exit' ?_)
    simp [zi324]
end Go.Idl
namespace Go.Idl
def insP (x:Nat×Nat):List (Nat×Nat)→List (Nat×Nat)
  | []=>[x]
  | y::r=>if Nat.ble y.1 x.1 then x::y::r else y::insP x r
def hh:Nat→List (Nat×Nat)→List (Nat×Nat)
  | 0,_=>[]
  | _+1,[]=>[]
  | m+1,x::r=>(r.take x.1).map (fun y:Nat×Nat=>(x.2,y.2))++hh m ((((r.take x.1).map (fun y:Nat×Nat=>(y.1 - 1,y.2))++r.drop x.1:List (Nat×Nat))).foldr insP [])
theorem decAt_get {o:List Int} {i v:Nat} (hv:v < o.length):(decAt o i).getD v 0=o.getD v 0 - (if i=v then 1 else 0):=by
  rw [decAt,List.getD_eq_getElem?_getD,List.getElem?_set]
  by_cases h:i=v
  · subst h;simp [hv,List.getD_eq_getElem?_getD]
  · simp [h,List.getD_eq_getElem?_getD]
def mk (u v:Nat):Int×Int:=(min (u:Int) v,max (u:Int) v)
end Go.Idl
namespace Go.Idl
def lexR (left:List Int) (a b:Int):Prop:=left.getD b.toNat 0 < left.getD a.toNat 0 ∨ (left.getD a.toNat 0=left.getD b.toNat 0∧a < b)
theorem lexR_trans {left:List Int} {a b c:Int} (h:lexR left a b) (k:lexR left b c):lexR left a c:=by
  simp only [lexR] at *;omega
theorem lexR_irr {left:List Int} {a:Int} (h:lexR left a a):False:=by
  simp only [lexR] at h;omega
theorem insC_lex {left:List Int} {x:Int}:∀ (r B:List Int),(r.reverse++B).Pairwise (lexR left)→(∀ y ∈ r,y < x)→(∀ b ∈ B,left.getD b.toNat 0 < left.getD x.toNat 0)→(insC (gtD left) x r B).Pairwise (lexR left)
  | [],B,h,_,hb=>List.pairwise_cons.2 ⟨fun b hb'=>.inl (hb b hb'),by simpa using h⟩
  | a::r,B,h,hr,hb=>by
    rw [List.reverse_cons,List.append_assoc] at h
    unfold insC
    split
    · rename_i hx
      refine insC_lex r (a::B) h (fun y hy=>hr y (by simp [hy])) fun b hb'=>?_
      rcases List.mem_cons.1 hb' with rfl | hb'
      · simpa [gtD] using hx
      · exact hb b hb'
    · rename_i hx
      have hx:left.getD x.toNat 0≤left.getD a.toNat 0:=by
        simp only [gtD,decide_eq_true_eq] at hx;omega
      have hax:lexR left a x:=by
        have:=hr a (by simp)
        simp only [lexR];omega
      obtain ⟨h1,h2,h3⟩:=List.pairwise_append.1 (show (r.reverse++a::B).Pairwise (lexR left) from h)
      have h2:=List.pairwise_cons.1 h2
      refine List.pairwise_append.2 ⟨h1,?_,fun p hp q hq=>?_⟩
      · refine List.pairwise_cons.2 ⟨fun q hq=>?_,List.pairwise_cons.2 ⟨fun b hb'=>.inl (hb b hb'),h2.2⟩⟩
        rcases List.mem_cons.1 hq with rfl | hq
        · exact hax
        · exact h2.1 q hq
      · have h4:=h3 p hp a (by simp)
        rcases List.mem_cons.1 hq with rfl | hq
        · exact h4
        · rcases List.mem_cons.1 hq with rfl | hq
          · exact lexR_trans h4 hax
          · exact h3 p hp q (by simp [hq])
theorem srtC_lex {left:List Int}:∀ (T S:List Int),S.Pairwise (lexR left)→(∀ y ∈ S,∀ x ∈ T,y < x)→T.Pairwise (fun a b:Int=>a < b)→(srtC (gtD left) S T).Pairwise (lexR left)
  | [],S,h,_,_=>h
  | x::r,S,h,hs,ht=>by
    have ht':=List.pairwise_cons.1 ht
    rw [srtC]
    refine srtC_lex r _ (insC_lex _ _ (by simpa using h) (fun y hy=>hs y (by simpa using hy) x (by simp)) (by simp)) (fun y hy z hz=>?_) ht'.2
    have:=(insC_perm (gtD left) x S.reverse []).mem_iff.1 hy
    simp only [List.reverse_reverse,List.mem_append,List.mem_cons,List.not_mem_nil,or_false] at this
    rcases this with h1 | rfl
    · exact hs y h1 z (by simp [hz])
    · exact ht'.1 z hz
theorem fmx_best (P:Nat→Bool) (left:List Int):∀ (k q:Nat),fmx P left k=(q:Int)→∀ i,i < k→P i=true→i=q ∨ lexR left q i
  | 0,q,h,i,hi,_=>by omega
  | k+1,q,h,i,hi,hp=>by
    rw [fmx] at h
    split at h
    · rename_i hc
      have hkq:k=q:=by omega
      subst hkq
      by_cases hik:i=k
      · exact .inl hik
      · right
        simp only [Bool.and_eq_true,Bool.or_eq_true,decide_eq_true_eq] at hc
        rcases hc.2 with hc2 | hc2
        · rcases fmx_cases P left k with h1 | ⟨q1,_,h1,_⟩
          · have:=fmx_neg P left k h1 i (by omega)
            rw [hp] at this;cases this
          · rw [h1] at hc2;omega
        · rcases fmx_cases P left k with h1 | ⟨q1,_,h1,_⟩
          · have:=fmx_neg P left k h1 i (by omega)
            rw [hp] at this;cases this
          · rw [h1,Int.toNat_natCast] at hc2
            rcases fmx_best P left k q1 h1 i (by omega) hp with rfl | h2
            · left;simpa using hc2
            · simp only [lexR,Int.toNat_natCast] at h2 ⊢
              omega
    · rename_i hc
      by_cases hik:i=k
      · subst hik
        right
        simp only [hp,Bool.true_and,Bool.or_eq_true,decide_eq_true_eq,not_or] at hc
        rw [h,Int.toNat_natCast] at hc
        have hqi:q < i:=by
          rcases fmx_cases P left i with h1 | ⟨q1,h2,h1,_⟩
          · rw [h1] at h;omega
          · rw [h1] at h;omega
        simp only [lexR,Int.toNat_natCast]
        omega
      · exact fmx_best P left k q h i (by omega) hp
theorem fmx_head {P:Nat→Bool} {left:List Int} {n:Nat} {i:Int} {r:List Int} (hpw:(i::r).Pairwise (lexR left)) (hin:∀ x ∈ i::r,0≤x∧x < n) (hP:∀ w:Nat,w < n→(P w=true ↔ (w:Int) ∈ i::r)):fmx P left n=i:=by
  have hi:=hin i (by simp)
  obtain ⟨p,rfl⟩:=Int.eq_ofNat_of_zero_le hi.1
  have hp:P p=true:=(hP p (by omega)).2 (by simp)
  rcases fmx_cases P left n with h | ⟨q,hq,h,hPq⟩
  · have:=fmx_neg P left n h p (by omega)
    rw [hp] at this;cases this
  · rw [h]
    have hm:=(hP q hq).1 hPq
    rcases List.mem_cons.1 hm with h1 | h1
    · exact h1
    · have h2:=(List.pairwise_cons.1 hpw).1 _ h1
      rcases fmx_best P left n q h p (by omega) hp with h3 | h3
      · rw [h3]
      · exact absurd (lexR_trans h2 h3) lexR_irr
theorem fmx_none {P:Nat→Bool} {left:List Int} {n:Nat} (hP:∀ w:Nat,w < n→P w=false):fmx P left n=-1:=by
  rcases fmx_cases P left n with h | ⟨q,hq,h,hPq⟩
  · exact h
  · rw [hP q hq] at hPq;cases hPq
theorem insE_pw {e:Int×Int}:∀ {es:List (Int×Int)},PW es→e ∉ es→PW (insE e es)
  | [],_,_=>by simp [insE,PW]
  | x::r,h,hn=>by
    have h':=List.pairwise_cons.1 h
    rw [insE]
    split
    · rename_i hx
      refine List.pairwise_cons.2 ⟨fun y hy=>?_,insE_pw h'.2 fun hm=>hn (by simp [hm])⟩
      rcases (insE_mem _ _ _).1 hy with rfl | hy
      · exact hx
      · exact h'.1 y hy
    · rename_i hx
      have hxe:below e x=true:=by
        rcases below_total (a:=e) (b:=x) (fun h=>hn (by simp [h])) with q | q
        · exact q
        · exact absurd q hx
      refine List.pairwise_cons.2 ⟨fun y hy=>?_,h⟩
      rcases List.mem_cons.1 hy with rfl | hy
      · exact hxe
      · exact below_trans hxe (h'.1 y hy)
theorem srtE_snoc {e:Int×Int} {es:List (Int×Int)} (hn:es.Nodup) (he:e ∉ es):insE e (srtE es)=srtE (es++[e]):=by
  have hn2:(es++[e]).Nodup:=List.nodup_append.2 ⟨hn,by simp,fun a ha b hb=>by simp at hb;subst hb;exact fun h=>he (h ▸ ha)⟩
  refine pw_ext (insE_pw (srtE_pw hn) fun h=>he ((srtE_perm es).mem_iff.1 h)) (srtE_pw hn2) fun x=>?_
  rw [insE_mem,(srtE_perm es).mem_iff,(srtE_perm _).mem_iff]
  simp [or_comm]
end Go.Idl
namespace Go.Idl
theorem has_srtE (es:List (Int×Int)) (a b:Int):has (srtE es) a b=has es a b:=by
  rw [has,has];exact (srtE_perm es).any_eq
theorem isE_mm {v i a b:Int}:isE a b (min v i,max v i)=true ↔ (a=v∧b=i) ∨ (a=i∧b=v):=by
  simp only [isE,Bool.or_eq_true,Bool.and_eq_true,decide_eq_true_eq]
  omega
theorem has_app (es fs:List (Int×Int)) (a b:Int):has (es++fs) a b=(has es a b || has fs a b):=by simp [has]
theorem has_mm {es:List (Int×Int)} {v i:Int} (h:has es v i=false):(min v i,max v i) ∉ es:=fun hm=>by
  rw [has,List.any_eq_false] at h
  exact h _ hm (isE_mm.2 (.inl ⟨rfl,rfl⟩))
theorem decAt_get' {o:List Int} {i x:Int} (hi:0≤i) (hx:0≤x) (hl:x < o.length):(decAt o i.toNat).getD x.toNat 0=o.getD x.toNat 0 - (if x=i then 1 else 0):=by
  rw [decAt_get (by omega)]
  by_cases h:x=i
  · subst h;simp
  · rw [if_neg h,if_neg (by omega)]
theorem iteQ {p q:Prop} [Decidable p] [Decidable q] (h:p ↔ q):(if p then (1:Int) else 0)=if q then 1 else 0:=by
  by_cases hp:p
  · rw [if_pos hp,if_pos (h.1 hp)]
  · rw [if_neg hp,if_neg fun k=>hp (h.2 k)]
theorem lay_eq {v:Int} {n:Nat} {done:List Int} (hv:0≤v∧v < n):∀ (k:Nat) (rest left:List Int) (es:List (Int×Int)),left.length=n→rest.Pairwise (lexR left)→(∀ x ∈ rest,0≤x∧x < n)→(∀ x ∈ left,0≤x)→es.Nodup →
    (∀ w:Nat,w < n→(((w:Int) ∉ done∧has es v w=false) ↔ (w:Int) ∈ rest)) →
    layS v n done k left (srtE es)=if k≤rest.length then (layI v (rest.take k) left es).map (fun q=>(q.1,srtE q.2)) else none
  | 0,rest,left,es,_,_,_,_,_,_=>by simp [layS,layI]
  | k+1,[],left,es,_,_,_,_,_,hc=>by
    rw [layS]
    have:fmx (fun i=>!decide ((i:Int) ∈ done) && !has (srtE es) v i) left n=-1:=fmx_none fun w hw=>by
      have:¬ ((w:Int) ∉ done∧has es v w=false):=fun h=>by have:=(hc w hw).1 h;cases this
      rw [has_srtE]
      cases h1:has es v w <;> simp [h1] at this ⊢
      exact this
    simp [this]
  | k+1,i::r,left,es,hl,hp,hr,hb,hn,hc=>by
    rw [layS]
    have hi:=hr i (by simp)
    have hm:fmx (fun i=>!decide ((i:Int) ∈ done) && !has (srtE es) v i) left n=i:=fmx_head hp hr fun w hw=>by
      rw [has_srtE,← hc w hw]
      simp
    simp only [hm]
    have hi0:¬ i < 0:=by omega
    have hil:i.toNat < left.length:=by omega
    have g:left.getD i.toNat 0=left[i.toNat]:=by simp [List.getD_eq_getElem?_getD,List.getElem?_eq_getElem hil]
    have g0:0≤left.getD i.toNat 0:=by rw [g];exact hb _ (List.getElem_mem _)
    rw [List.length_cons,List.take_succ_cons,layI]
    by_cases hz:left.getD i.toNat 0=0
    · rw [if_pos (.inr (by omega)),if_pos hz];simp
    · rw [if_neg (by omega),if_neg hz]
      have hhas:has es v i=false:=by
        have:=(hc i.toNat (by omega)).2 (by rw [Int.toNat_of_nonneg hi.1];simp)
        rw [Int.toNat_of_nonneg hi.1] at this
        exact this.2
      have hne:=has_mm hhas
      rw [srtE_snoc hn hne]
      have hp':=List.pairwise_cons.1 hp
      have hri:∀ x ∈ r,x ≠ i:=fun x hx h=>by have:=hp'.1 x hx;rw [h] at this;exact lexR_irr this
      have ih:=lay_eq hv k r (decAt left i.toNat) (es++[(min v i,max v i)]) (by simp [decAt,hl]) ?_ (fun x hx=>hr x (by simp [hx])) ?_ ?_ ?_ (done:=done)
      · rw [ih]
        simp only [Nat.succ_le_succ_iff,Nat.add_le_add_iff_right]
      · refine hp'.2.imp_of_mem fun {a b} ha hb' hab=>?_
        have h1:=hr a (by simp [ha])
        have h2:=hr b (by simp [hb'])
        rw [lexR,decAt_get' hi.1 h1.1 (by omega),decAt_get' hi.1 h2.1 (by omega),if_neg (hri a ha),if_neg (hri b hb')]
        simpa [lexR] using hab
      · intro x hx
        rcases List.mem_or_eq_of_mem_set hx with hx | rfl
        · exact hb x hx
        · omega
      · exact List.nodup_append.2 ⟨hn,by simp,fun a ha b hb=>by simp at hb;subst hb;exact fun h=>hne (h ▸ ha)⟩
      · intro w hw
        have h1:=hc w hw
        have h2:has [(min v i,max v i)] v w=true ↔ (w:Int)=i:=by
          rw [has,List.any_cons,List.any_nil,Bool.or_false,isE_mm];omega
        rw [has_app]
        have h3:(w:Int) ∈ r ↔ (w:Int) ∈ i::r∧(w:Int) ≠ i:=by
          constructor
          · exact fun h=>⟨by simp [h],hri _ h⟩
          · rintro ⟨h,h'⟩
            rcases List.mem_cons.1 h with h | h
            · exact absurd h h'
            · exact h
        rw [h3,← h1]
        cases h4:has [(min v i,max v i)] v w
        · have:¬ (w:Int)=i:=fun h=>by rw [h2.2 h] at h4;cases h4
          simp [this]
        · simp [h2.1 h4]
termination_by k=>k
theorem real_eq (n:Nat):∀ (m:Nat) (left todo done:List Int) (es:List (Int×Int)),left.length=n→(∀ x ∈ left,0≤x∧x≤1000)→todo.length=m→todo.Pairwise (fun a b:Int=>a < b)→(∀ x ∈ todo,0≤x∧x < n) →
    (∀ w:Nat,w < n→((w:Int) ∉ done ↔ (w:Int) ∈ todo))→es.Nodup→(∀ a ∈ todo,∀ b ∈ todo,has es a b=false) →
    realS n m left done (srtE es)=(realI m left todo es).map srtE
  | 0,left,todo,done,es,_,_,_,_,_,_,_,_=>rfl
  | m+1,left,todo,done,es,hl,hb,htl,htp,htb,hd,hn,hh=>by
    rw [realS,realI]
    have hperm:=srtC_perm (gtD left) todo []
    cases hs:srtC (gtD left) [] todo with
    | nil=>rw [hs] at hperm;have:=hperm.length_eq;simp at this;omega
    | cons v r =>
      rw [hs,List.nil_append] at hperm
      have hlex:=srtC_lex (left:=left) todo [] .nil (by simp) htp
      rw [hs] at hlex
      have hv:v ∈ todo:=hperm.mem_iff.1 (by simp)
      have hvb:=htb v hv
      have hmx:fmx (fun i=>!decide ((i:Int) ∈ done)) left n=v:=fmx_head hlex (fun x hx=>htb x (hperm.mem_iff.1 hx)) fun w hw=>by
        rw [hperm.mem_iff,← hd w hw];simp
      simp only [hmx]
      obtain ⟨t2,ht2⟩:∃ t2,t2=todo.filter fun x=>!decide (x=v):=⟨_,rfl⟩
      rw [← ht2]
      have hm2:∀ x,x ∈ t2 ↔ x ∈ todo∧x ≠ v:=fun x=>by rw [ht2,List.mem_filter];simp
      have ht2p:t2.Pairwise (fun a b:Int=>a < b):=by rw [ht2];exact htp.filter _
      have ht2l:t2.length=m:=by
        have h1:=filter_len' (fun x=>decide (x=v)) todo
        have h2:(todo.filter fun x=>decide (x=v)).length=1:=by
          have hnd:todo.Nodup:=htp.imp fun h=>by omega
          have:=List.nodup_iff_count.1 hnd v
          have h3:=List.count_pos_iff.2 hv
          rw [← List.countP_eq_length_filter]
          have h4:todo.countP (fun x=>decide (x=v))=todo.count v:=by
            rw [List.count];exact List.countP_congr fun x _=>by simp
          omega
        rw [← ht2] at h1
        omega
      have hgv:left.getD v.toNat 0=left[v.toNat]'(by omega):=by simp [List.getD_eq_getElem?_getD,List.getElem?_eq_getElem (show v.toNat < left.length by omega)]
      have hk0:0≤left.getD v.toNat 0:=by rw [hgv];exact (hb _ (List.getElem_mem _)).1
      obtain ⟨k,hk⟩:=Int.eq_ofNat_of_zero_le hk0
      have hp2:=srtC_perm (gtD left) t2 []
      rw [List.nil_append] at hp2
      rw [hk,Int.toNat_natCast]
      have hlay:=lay_eq (done:=done++[v]) hvb k (srtC (gtD left) [] t2) left es hl (srtC_lex _ _ .nil (by simp) ht2p) (fun x hx=>htb x ((hm2 x).1 (hp2.mem_iff.1 hx)).1) (fun x hx=>(hb x hx).1) hn (fun w hw=>by
        rw [hp2.mem_iff,hm2,← hd w hw]
        constructor
        · rintro ⟨h1,_⟩
          simp only [List.mem_append,List.mem_singleton,not_or] at h1
          exact h1
        · rintro ⟨h1,h2⟩
          exact ⟨by simp [h1,h2],hh v hv _ ((hd w hw).1 h1)⟩)
      rw [hlay,hp2.length_eq,ht2l]
      by_cases hkm:k≤m
      · rw [if_pos hkm,if_neg (by omega),topD]
        cases hli:layI v ((srtC (gtD left) [] t2).take k) left es with
        | none=>rfl
        | some q =>
          obtain ⟨left',es'⟩:=q
          obtain ⟨k1,k2,k3⟩:=layI_inv v _ _ _ _ _ hli hb
          have htm:∀ x ∈ (srtC (gtD left) [] t2).take k,x ∈ t2:=fun x hx=>hp2.mem_iff.1 (List.mem_of_mem_take hx)
          have htn:((srtC (gtD left) [] t2).take k).Nodup:=(hp2.nodup_iff.2 (ht2p.imp fun h=>by omega)).sublist (List.take_sublist _ _)
          refine real_eq n m left' t2 (done++[v]) es' (by omega) k2 ht2l ht2p (fun x hx=>htb x ((hm2 x).1 hx).1) (fun w hw=>?_) ?_ ?_
          · rw [hm2,← hd w hw];simp
          · rw [k3]
            refine List.nodup_append.2 ⟨hn,?_,?_⟩
            · rw [List.Nodup,List.pairwise_map]
              refine List.Pairwise.imp_of_mem (fun {i j} hi hj hij he=>?_) htn
              have h1:=((hm2 i).1 (htm i hi)).2
              have h2:=((hm2 j).1 (htm j hj)).2
              simp only [Prod.mk.injEq] at he
              omega
            · intro a ha b hb' hab
              subst hab
              obtain ⟨i,hi,rfl⟩:=List.mem_map.1 hb'
              exact has_mm (hh v hv i ((hm2 i).1 (htm i hi)).1) ha
          · intro a ha b hb'
            have h1:=(hm2 a).1 ha
            have h2:=(hm2 b).1 hb'
            rw [k3,has_app,hh a h1.1 b h2.1,Bool.false_or,has,List.any_eq_false]
            intro e he
            obtain ⟨i,hi,rfl⟩:=List.mem_map.1 he
            rw [isE_mm]
            omega
      · rw [if_neg hkm,if_pos (by omega)];rfl
theorem idxB_pw (n:Nat):(idxB n (-1)).Pairwise (fun a b:Int=>a < b):=by
  rw [idxB_all,List.pairwise_map]
  exact (List.pairwise_lt_range).imp fun h=>by omega
theorem mem_idxB {n:Nat} {x:Int}:x ∈ idxB n (-1) ↔ 0≤x∧x < n:=by
  rw [idxB_all,List.mem_map]
  constructor
  · rintro ⟨v,hv,rfl⟩;have:=List.mem_range.1 hv;omega
  · intro h;exact ⟨x.toNat,List.mem_range.2 (by omega),by omega⟩
theorem realT_eq {d:List Int} (hb:∀ x ∈ d,0≤x∧x≤1000):realT d=(realD d).map srtE :=
  real_eq d.length d.length d (idxB d.length (-1)) [] [] rfl hb (by rw [idxB_all];simp) (idxB_pw _) (fun x hx=>mem_idxB.1 hx) (fun w hw=>by rw [mem_idxB];simp;omega) .nil (by simp [has])
theorem layI_get {n:Nat} (v:Int):∀ (tops left:List Int) (es:List (Int×Int)) (left':List Int) (es':List (Int×Int)),layI v tops left es=some (left',es')→tops.Nodup→left.length=n→(∀ x ∈ tops,0≤x∧x < n) →
    ∀ x:Int,0≤x→x < n→left'.getD x.toNat 0=left.getD x.toNat 0 - (if x ∈ tops then 1 else 0)
  | [],left,es,left',es',h,_,_,_,x,_,_=>by
    simp only [layI,Option.some.injEq,Prod.mk.injEq] at h
    rw [h.1];simp
  | i::r,left,es,left',es',h,hn,hl,hb,x,h0,h1=>by
    rw [layI] at h
    split at h
    · cases h
    have hn':=List.nodup_cons.1 hn
    have hi:=hb i (by simp)
    rw [layI_get v r _ _ _ _ h hn'.2 (by simp [decAt,hl]) (fun x hx=>hb x (by simp [hx])) x h0 h1,decAt_get' hi.1 h0 (by omega)]
    by_cases hx:x=i
    · subst hx;simp [hn'.1]
    · simp [hx]
theorem real_deg (n:Nat):∀ (m:Nat) (left todo:List Int) (es es':List (Int×Int)),realI m left todo es=some es'→todo.Nodup→(∀ x ∈ todo,0≤x∧x < n)→left.length=n→(∀ x ∈ left,0≤x∧x≤1000)→todo.length≤m →
    ∀ new,es'=es++new→∀ u:Nat,(u:Int) ∈ todo→deg new u=left.getD u 0
  | 0,left,todo,es,es',h,_,_,_,_,hm,new,_,u,hu=>by
    rw [List.length_eq_zero_iff.1 (by omega:todo.length=0)] at hu;cases hu
  | m+1,left,todo,es,es',h,hn,hb,hl,hle,hm,new,hnew,u,hu=>by
    rw [realI] at h
    have hperm:=srtC_perm (gtD left) todo []
    cases hs:srtC (gtD left) [] todo with
    | nil =>
      rw [hs] at hperm
      rw [List.length_eq_zero_iff.1 (by have:=hperm.length_eq;simp at this;omega:todo.length=0)] at hu;cases hu
    | cons v r =>
      rw [hs] at h
      rw [hs,List.nil_append] at hperm
      have hv:v ∈ todo:=hperm.mem_iff.1 (by simp)
      have hvb:=hb v hv
      simp only at h
      split at h
      · cases h
      rename_i hge
      obtain ⟨t2,ht2⟩:∃ t2,t2=todo.filter fun x=>!decide (x=v):=⟨_,rfl⟩
      rw [← ht2] at h hge
      have hm2:∀ x,x ∈ t2 ↔ x ∈ todo∧x ≠ v:=fun x=>by rw [ht2,List.mem_filter];simp
      have ht2n:t2.Nodup:=by rw [ht2];exact hn.filter _
      have ht2l:t2.length≤m:=by
        have h1:=filter_len' (fun x=>decide (x=v)) todo
        have h2:0 < (todo.filter fun x=>decide (x=v)).length:=List.length_pos_of_mem (List.mem_filter.2 ⟨hv,by simp⟩)
        rw [← ht2] at h1
        omega
      have hp2:=srtC_perm (gtD left) t2 []
      rw [List.nil_append] at hp2
      obtain ⟨tops,htops⟩:∃ tops,tops=topD left t2 (left.getD v.toNat 0).toNat:=⟨_,rfl⟩
      rw [← htops] at h
      have htm:∀ x ∈ tops,x ∈ t2:=fun x hx=>by rw [htops] at hx;exact hp2.mem_iff.1 (List.mem_of_mem_take hx)
      have htn:tops.Nodup:=by rw [htops];exact (hp2.nodup_iff.2 ht2n).sublist (List.take_sublist _ _)
      cases hli:layI v tops left es with
      | none=>rw [hli] at h;cases h
      | some q =>
        obtain ⟨left',es1⟩:=q
        rw [hli] at h
        simp only at h
        obtain ⟨k1,k2,k3⟩:=layI_inv v _ _ _ _ _ hli hle
        obtain ⟨new2,q1,q2,q3⟩:=realI_edges n m left' t2 es1 es' h ht2n (fun x hx=>hb x ((hm2 x).1 hx).1)
        have ih:=real_deg n m left' t2 es1 es' h ht2n (fun x hx=>hb x ((hm2 x).1 hx).1) (by omega) k2 ht2l new2 q1
        have hnn:new=(tops.map fun i=>(min v i,max v i))++new2:=by
          have:es++new=es++((tops.map fun i=>(min v i,max v i))++new2):=by rw [← hnew,q1,k3];simp
          exact List.append_cancel_left this
        rw [hnn,deg,S_app]
        have hvt:v ∉ tops:=fun h=>((hm2 v).1 (htm v h)).2 rfl
        have hinc:∀ i,i ≠ v→inc u (min v i,max v i)=(if (u:Int)=v then 1 else 0)+(if (u:Int)=i then 1 else 0):=by
          intro i hi
          simp only [inc]
          rcases Int.le_total v i with h | h
          · rw [Int.min_eq_left h,Int.max_eq_right h]
            congr 1
            · exact iteQ (by omega)
            · exact iteQ (by omega)
          · rw [Int.min_eq_right h,Int.max_eq_left h,Int.add_comm]
            congr 1
            · exact iteQ (by omega)
            · exact iteQ (by omega)
        have hsum:S (tops.map fun i=>(min v i,max v i)) (inc u)=(if (u:Int)=v then (tops.length:Int) else 0)+(if (u:Int) ∈ tops then 1 else 0):=by
          rw [S_map,S_congr (g:=fun i=>(if (u:Int)=v then 1 else 0)+(if (u:Int)=i then 1 else 0)) fun i hi=>hinc i fun h=>hvt (h ▸ hi),S_add,S_one htn,S_const]
          split <;> simp
        rw [hsum]
        by_cases huv:(u:Int)=v
        · have:S new2 (inc u)=0:=by
            rw [← S_zero new2]
            refine S_congr fun e he=>?_
            obtain ⟨_,a1,a2⟩:=q3 e he
            have b1:=((hm2 _).1 a1).2
            have b2:=((hm2 _).1 a2).2
            rw [inc,if_neg (by omega),if_neg (by omega)];rfl
          rw [this,if_pos huv,if_neg (by rw [huv];exact hvt)]
          have hkl:tops.length=(left.getD v.toNat 0).toNat:=by
            rw [htops,topD,List.length_take,hp2.length_eq];omega
          have hgv:left.getD v.toNat 0=left[v.toNat]'(by omega):=by simp [List.getD_eq_getElem?_getD,List.getElem?_eq_getElem (show v.toNat < left.length by omega)]
          have hk0:0≤left.getD v.toNat 0:=by rw [hgv];exact (hle _ (List.getElem_mem _)).1
          rw [hkl,← huv,Int.toNat_natCast] at *
          omega
        · have h1:=ih u ((hm2 _).2 ⟨hu,huv⟩)
          have h2:=layI_get v _ _ _ _ _ hli htn hl (fun x hx=>hb x ((hm2 x).1 (htm x hx)).1) (u:Int) (by omega) (hb _ hu).2
          rw [Int.toNat_natCast] at h2
          rw [deg] at h1
          rw [h1,h2,if_neg huv]
          omega
theorem realD_degs {d:List Int} (h7:d.length≤7) (hb:∀ x ∈ d,0≤x∧x≤1000) {es:List (Int×Int)} (h:realD d=some es):degs d.length (srtE es)=d:=by
  obtain ⟨k1,k2,k3,k4⟩:=realD_ok h7 h
  have h1:=real_deg d.length _ _ _ _ _ h ((idxB_pw _).imp fun h=>by omega) (fun x hx=>mem_idxB.1 hx) rfl hb (by rw [idxB_all];simp) es (by simp)
  rw [degs_eq (fun e he=>by have:=mem_prs.1 ((vG_iff.1 k4).2.1 e he);omega)]
  refine List.ext_getElem (by simp) fun i hi hj=>?_
  rw [List.getElem_map,List.getElem_range]
  have:=h1 i (mem_idxB.2 (by omega))
  rw [deg,S_perm (srtE_perm es),← deg,this]
  simp [List.getD_eq_getElem?_getD,List.getElem?_eq_getElem hj]
end Go.Idl
namespace Go.Idl
open Go
structure SmallG (n:Int) (es:List (Int×Int)):Prop where
  n1:-1≤n
  n2:n≤8
  len:es.length≤60
  el:∀ e ∈ es,-1≤e.1∧e.1≤8∧-1≤e.2∧e.2≤8
theorem SmallG.fit {n es} (h:SmallG n es):Fit es:=fun e he=>by have:=h.el e he;omega
end Go.Idl
namespace Go.Idl
open Go
theorem ev_RealizeDegrees_no (d:List Int) (c:Bool) (hl:d.length≤2000000) (hv:valid d=false):Ev tb zl193 [] [L d c] [] ⟨.tup [.agg [I 0,Z],Bo false],[],[],[]⟩:=by
  have e1:=ev_lim (ev_ValidDegrees d c hl)
  rw [hv] at e1
  refine call_of_wp zt193 rfl ?_
  repeat (first|apply wp_as|apply wp_ss|refine wr (by simp [e1];with_reducible rfl) ?_|refine wq (by simp [e1];with_reducible rfl) ?_|refine wt (by simpa [e1]) ?_|refine wf (by simpa [e1]) ?_|refine xt (by simpa [e1]) ?_|refine xf (by simpa [e1]) ?_|apply wp_bs|apply wp_b|refine wp_sr ?_|refine wp_sx ?_|refine wp_ret' ?_|refine wp_skip' ?_|refine wp_exit' ?_)
  simp [zi193]
theorem ev_spec_RealizeDegrees_no (d:List Int) (c:Bool) (hl:d.length≤2000000) (hv:valid d=false):Ev tb zl324 [] [L d c] [] ⟨.tup [.agg [I 0,Z],Bo false],[],[],[]⟩:=by
  have e1:=ev_lim (ev_validDegrees d c hl)
  rw [hv] at e1
  refine call_of_wp zt324 rfl ?_
  repeat (first|apply wp_as|apply wp_ss|refine wr (by simp [e1];with_reducible rfl) ?_|refine wq (by simp [e1];with_reducible rfl) ?_|refine wt (by simpa [e1]) ?_|refine wf (by simpa [e1]) ?_|refine xt (by simpa [e1]) ?_|refine xf (by simpa [e1]) ?_|apply wp_bs|apply wp_b|refine wp_sr ?_|refine wp_sx ?_|refine wp_ret' ?_|refine wp_skip' ?_|refine wp_exit' ?_)
  simp [zi324]
abbrev RealLaw (d:List Int):Prop:=realT d=(realD d).map srtE∧∀ es,realD d=some es→vGraph d.length (srtE es)=true∧degs d.length (srtE es)=d
end Go.Idl
namespace Go.Idl
theorem realLaw:∀ d,valid d=true→RealLaw d:=fun d hv=>by
  have hf:=valid_few hv
  have hb:∀ x ∈ d,0≤x∧x≤1000:=fun x hx=>by have:=hf.2 x hx;omega
  exact ⟨realT_eq hb,fun es h=>⟨(realD_ok hf.1 h).2.2.2,realD_degs hf.1 hb h⟩⟩
end Go.Idl
namespace Go.Idl
open Go
theorem toI_loop (a:List Int) (c:Bool) (hl:a.length≤2000000):∀ (m i:Nat) (A:List Int),i+m=a.length→A.length=a.length→A.take i=a.take i →
    wp tb (.loop z248l6) { T:=[(0,L a c),(3,O A),(4,I i)],loc:=[],M:=[] }
      (fun ex st=>ex=.exit 0∧st={ T:=[(0,L a c),(3,O a),(4,I a.length),(11,Bo false)],loc:=[],M:=[] }):=by
  intro m
  induction m with
  | zero =>
    intro i A hi hA ht
    have h3:i=a.length:=hi
    subst h3
    rw [List.take_of_length_le (by omega),List.take_of_length_le (by omega)] at ht
    rw [ht]
    refine wp_loop ?_
    repeat (first|apply wp_as|apply wp_ss|refine wr (by simp;with_reducible rfl) ?_|refine wq (by simp;with_reducible rfl) ?_|refine wt (by simpa) ?_|refine wf (by simpa) ?_|refine xt (by simpa) ?_|refine xf (by simpa) ?_|apply wp_bs|apply wp_b|refine wp_sr ?_|refine wp_sx ?_|refine wp_ret' ?_|refine wp_skip' ?_|refine wp_exit' ?_)
    exact ⟨rfl,rfl⟩
  | succ m ih =>
    intro i A hi hA ht
    have hi2:i < a.length:=by omega
    have hi3:i < A.length:=by omega
    have w2:IntKind.i64.wrap ((i:Int)+1)=((i+1:Nat):Int):=wrapS (by omega)
    have hg:=ih (i+1) (A.set i a[i]) (by omega) (by simpa using hA) (by
      rw [List.take_succ_eq_append_getElem (by simpa using hi3),List.take_succ_eq_append_getElem hi2,List.take_set_of_le (Nat.le_refl _),ht];simp)
    refine wp_loop ?_
    repeat (first|apply wp_as|apply wp_ss|refine wr (by simp [hi2,hi3,w2];with_reducible rfl) ?_|refine wq (by simp [hi2,hi3,w2];with_reducible rfl) ?_|refine wt (by simpa [hi2,hi3,w2]) ?_|refine wf (by simpa [hi2,hi3,w2]) ?_|refine xt (by simpa [hi2,hi3,w2]) ?_|refine xf (by simpa [hi2,hi3,w2]) ?_|apply wp_bs|apply wp_b|refine wp_sr ?_|refine wp_sx ?_|refine wp_ret' ?_|refine wp_skip' ?_|refine wp_exit' ?_)
    exact hg
theorem ev_toIntS (a:List Int) (c:Bool) (hl:a.length≤2000000):Ev tb zl248 [] [L a c] [] ⟨O a,[],[],[]⟩:=by
  have hlo:=toI_loop a c hl a.length 0 (List.replicate a.length 0) (by omega) (by simp) (by simp)
  rw [show ((0:Nat):Int)=0 from rfl] at hlo
  have hl2:a.length≤274877906944:=by omega
  refine call_of_wp zt248 rfl ?_
  repeat (first|apply wp_as|apply wp_ss|refine wr (by simp [hl2];with_reducible rfl) ?_|refine wq (by simp [hl2];with_reducible rfl) ?_|refine wt (by simpa [hl2]) ?_|refine wf (by simpa [hl2]) ?_|refine xt (by simpa [hl2]) ?_|refine xf (by simpa [hl2]) ?_|apply wp_bs|apply wp_b|refine wp_sr ?_|refine wp_sx ?_|refine wp_ret' ?_|refine wp_skip' ?_|refine wp_exit' ?_)
  refine wp_imp hlo ?_
  rintro ex st ⟨rfl,rfl⟩
  try simp only [if_true]
  repeat (first|apply wp_as|apply wp_ss|refine wr (by simp;with_reducible rfl) ?_|refine wq (by simp;with_reducible rfl) ?_|refine wt (by simpa) ?_|refine wf (by simpa) ?_|refine xt (by simpa) ?_|refine xf (by simpa) ?_|apply wp_bs|apply wp_b|refine wp_sr ?_|refine wp_sx ?_|refine wp_ret' ?_|refine wp_skip' ?_|refine wp_exit' ?_)
  simp [zi248]
theorem eqI_loop (a:List Int) (c d:Bool) (hl:a.length≤2000000):∀ (m i:Nat),i+m=a.length →
    wp tb (.loop z233l8) { T:=[(0,L a c),(1,L a d),(5,I i)],loc:=[],M:=[] }
      (fun ex st=>ex=.exit 0∧st={ T:=[(0,L a c),(1,L a d),(5,I a.length),(14,Bo false)],loc:=[],M:=[] }):=by
  intro m
  induction m with
  | zero =>
    intro i hi
    have h3:i=a.length:=hi
    subst h3
    refine wp_loop ?_
    repeat (first|apply wp_as|apply wp_ss|refine wr (by simp;with_reducible rfl) ?_|refine wq (by simp;with_reducible rfl) ?_|refine wt (by simpa) ?_|refine wf (by simpa) ?_|refine xt (by simpa) ?_|refine xf (by simpa) ?_|apply wp_bs|apply wp_b|refine wp_sr ?_|refine wp_sx ?_|refine wp_ret' ?_|refine wp_skip' ?_|refine wp_exit' ?_)
    exact ⟨rfl,rfl⟩
  | succ m ih =>
    intro i hi
    have hi2:i < a.length:=by omega
    have w2:IntKind.i64.wrap ((i:Int)+1)=((i+1:Nat):Int):=wrapS (by omega)
    have hg:=ih (i+1) (by omega)
    refine wp_loop ?_
    repeat (first|apply wp_as|apply wp_ss|refine wr (by simp [hi2,w2];with_reducible rfl) ?_|refine wq (by simp [hi2,w2];with_reducible rfl) ?_|refine wt (by simpa [hi2,w2]) ?_|refine wf (by simpa [hi2,w2]) ?_|refine xt (by simpa [hi2,w2]) ?_|refine xf (by simpa [hi2,w2]) ?_|apply wp_bs|apply wp_b|refine wp_sr ?_|refine wp_sx ?_|refine wp_ret' ?_|refine wp_skip' ?_|refine wp_exit' ?_)
    exact hg
theorem ev_eqIntS (a:List Int) (c d:Bool) (hl:a.length≤2000000):Ev tb zl233 [] [L a c,L a d] [] ⟨Bo true,[],[],[]⟩:=by
  have hlo:=eqI_loop a c d hl a.length 0 (by omega)
  rw [show ((0:Nat):Int)=0 from rfl] at hlo
  refine call_of_wp zt233 rfl ?_
  repeat (first|apply wp_as|apply wp_ss|refine wr (by simp;with_reducible rfl) ?_|refine wq (by simp;with_reducible rfl) ?_|refine wt (by simpa) ?_|refine wf (by simpa) ?_|refine xt (by simpa) ?_|refine xf (by simpa) ?_|apply wp_bs|apply wp_b|refine wp_sr ?_|refine wp_sx ?_|refine wp_ret' ?_|refine wp_skip' ?_|refine wp_exit' ?_)
  refine wp_imp hlo ?_
  rintro ex st ⟨rfl,rfl⟩
  try simp only [if_true]
  repeat (first|apply wp_as|apply wp_ss|refine wr (by simp;with_reducible rfl) ?_|refine wq (by simp;with_reducible rfl) ?_|refine wt (by simpa) ?_|refine wf (by simpa) ?_|refine xt (by simpa) ?_|refine xf (by simpa) ?_|apply wp_bs|apply wp_b|refine wp_sr ?_|refine wp_sx ?_|refine wp_ret' ?_|refine wp_skip' ?_|refine wp_exit' ?_)
  simp [zi233]
def mrk (k:Int) (n:Nat):List Int:=(List.range n).map fun i:Nat=>k+(i:Int)
theorem mrk_len (k:Int) (n:Nat):(mrk k n).length=n:=by simp [mrk]
theorem mrk_get (k:Int) (n i:Nat) (h:i < (mrk k n).length):(mrk k n)[i]=k+(i:Int):=by simp [mrk]
theorem mkI_loop (k:Int) (n:Nat) (hn:n≤10000000) (hk:0≤k∧k≤100000000):∀ (m i:Nat) (A:List Int),i+m=n→A.length=n→A.take i=(mrk k n).take i →
    wp tb (.loop z243l6) { T:=[(0,O A),(1,I (k+i)),(5,I i)],loc:=[],M:=[] }
      (fun ex st=>ex=.exit 0∧st={ T:=[(0,O (mrk k n)),(1,I (k+n)),(5,I n),(9,Bo false)],loc:=[],M:=[] }):=by
  intro m
  induction m with
  | zero =>
    intro i A hi hA ht
    have h3:i=n:=hi
    subst h3
    rw [List.take_of_length_le (by omega),List.take_of_length_le (by rw [mrk_len];omega)] at ht
    subst ht
    have hq:¬ ((i:Int) < ((mrk k i).length:Int)):=by rw [mrk_len];omega
    refine wp_loop ?_
    repeat (first|apply wp_as|apply wp_ss|refine wr (by simp [mrk_len];with_reducible rfl) ?_|refine wq (by simp [mrk_len];with_reducible rfl) ?_|refine wt (by simpa [mrk_len]) ?_|refine wf (by simpa [mrk_len]) ?_|refine xt (by simpa [mrk_len]) ?_|refine xf (by simpa [mrk_len]) ?_|apply wp_bs|apply wp_b|refine wp_sr ?_|refine wp_sx ?_|refine wp_ret' ?_|refine wp_skip' ?_|refine wp_exit' ?_)
    exact ⟨rfl,rfl⟩
  | succ m ih =>
    intro i A hi hA ht
    have hi2:i < A.length:=by omega
    have w2:IntKind.i64.wrap ((i:Int)+1)=((i+1:Nat):Int):=wrapS (by omega)
    have w3:IntKind.i64.wrap (k+(i:Int)+1)=k+((i+1:Nat):Int):=by rw [wrap64 (by omega) (by omega)];omega
    have hg:=ih (i+1) (A.set i (k+(i:Int))) (by omega) (by simpa using hA) (by
      rw [List.take_succ_eq_append_getElem (by simpa using hi2),List.take_succ_eq_append_getElem (by rw [mrk_len];omega),List.take_set_of_le (Nat.le_refl _),ht,mrk_get];simp)
    refine wp_loop ?_
    repeat (first|apply wp_as|apply wp_ss|refine wr (by simp [hi2,w2,w3];with_reducible rfl) ?_|refine wq (by simp [hi2,w2,w3];with_reducible rfl) ?_|refine wt (by simpa [hi2,w2,w3]) ?_|refine wf (by simpa [hi2,w2,w3]) ?_|refine xt (by simpa [hi2,w2,w3]) ?_|refine xf (by simpa [hi2,w2,w3]) ?_|apply wp_bs|apply wp_b|refine wp_sr ?_|refine wp_sx ?_|refine wp_ret' ?_|refine wp_skip' ?_|refine wp_exit' ?_)
    exact hg
theorem ev_markIntS (a:List Int) (k:Int) (hl:a.length≤10000000) (hk:0≤k∧k≤100000000):Ev tb zl243 [0] [O a,I k] [] ⟨I (k+a.length),[O (mrk k a.length)],[],[]⟩:=by
  have hlo:=mkI_loop k a.length hl hk a.length 0 a (by omega) rfl (by simp)
  rw [show k+((0:Nat):Int)=k by omega,show ((0:Nat):Int)=0 from rfl] at hlo
  refine call_of_wp zt243 rfl ?_
  repeat (first|apply wp_as|apply wp_ss|refine wr (by simp;with_reducible rfl) ?_|refine wq (by simp;with_reducible rfl) ?_|refine wt (by simpa) ?_|refine wf (by simpa) ?_|refine xt (by simpa) ?_|refine xf (by simpa) ?_|apply wp_bs|apply wp_b|refine wp_sr ?_|refine wp_sx ?_|refine wp_ret' ?_|refine wp_skip' ?_|refine wp_exit' ?_)
  refine wp_imp hlo ?_
  rintro ex st ⟨rfl,rfl⟩
  try simp only [if_true]
  repeat (first|apply wp_as|apply wp_ss|refine wr (by simp;with_reducible rfl) ?_|refine wq (by simp;with_reducible rfl) ?_|refine wt (by simpa) ?_|refine wf (by simpa) ?_|refine xt (by simpa) ?_|refine xf (by simpa) ?_|apply wp_bs|apply wp_b|refine wp_sr ?_|refine wp_sx ?_|refine wp_ret' ?_|refine wp_skip' ?_|refine wp_exit' ?_)
  simp [zi243]
end Go.Idl
namespace Go.Idl
open Go
@[simp] theorem fi_cons (p:IV→Bool) (x:IV) (xs:List IV):(x::xs).findIdx? p=if p x then some 0 else (xs.findIdx? p).map (·+1):=List.findIdx?_cons
@[simp] theorem eds_rep (n:Nat):List.replicate n [IV.sc (.int .i64 0),IV.sc (.int .i64 0)]=eds (List.replicate n (0,0)):=by simp [eds]
theorem ev_eqEdge (a b:Int):Ev tb zl48 [] [.agg [I a,I b],.agg [I a,I b]] [] ⟨Bo true,[],[],[]⟩:=by
  refine call_of_wp zt48 rfl ?_
  repeat (first|apply wp_as|apply wp_ss|refine wr (by simp;with_reducible rfl) ?_|refine wq (by simp;with_reducible rfl) ?_|refine wt (by simpa) ?_|refine wf (by simpa) ?_|refine xt (by simpa) ?_|refine xf (by simpa) ?_|apply wp_bs|apply wp_b|refine wp_sr ?_|refine wp_sx ?_|refine wp_ret' ?_|refine wp_skip' ?_|refine wp_exit' ?_)
  simp [zi48]
theorem eqE_loop (a:List (Int×Int)) (c d:Bool) (hl:a.length≤2000000):∀ (m i:Nat),i+m=a.length →
    wp tb (.loop z49l8) { T:=[(0,L2 a c),(1,L2 a d),(5,I i)],loc:=[],M:=[] }
      (fun ex st=>ex=.exit 0∧st={ T:=[(0,L2 a c),(1,L2 a d),(5,I a.length),(14,Bo false)],loc:=[],M:=[] }):=by
  intro m
  induction m with
  | zero =>
    intro i hi
    have h3:i=a.length:=hi
    subst h3
    refine wp_loop ?_
    repeat (first|apply wp_as|apply wp_ss|refine wr (by simp;with_reducible rfl) ?_|refine wq (by simp;with_reducible rfl) ?_|refine wt (by simpa) ?_|refine wf (by simpa) ?_|refine xt (by simpa) ?_|refine xf (by simpa) ?_|apply wp_bs|apply wp_b|refine wp_sr ?_|refine wp_sx ?_|refine wp_ret' ?_|refine wp_skip' ?_|refine wp_exit' ?_)
    exact ⟨rfl,rfl⟩
  | succ m ih =>
    intro i hi
    have hi2:i < a.length:=by omega
    have w2:IntKind.i64.wrap ((i:Int)+1)=((i+1:Nat):Int):=wrapS (by omega)
    have hg:=ih (i+1) (by omega)
    obtain ⟨⟨p,q⟩,hx⟩:∃ x,x=a[i]:=⟨_,rfl⟩
    have hx:=hx.symm
    have e1:=ev_lim (ev_eqEdge p q)
    refine wp_loop ?_
    repeat (first|apply wp_as|apply wp_ss|refine wr (by simp [hi2,w2,hx,e1];with_reducible rfl) ?_|refine wq (by simp [hi2,w2,hx,e1];with_reducible rfl) ?_|refine wt (by simpa [hi2,w2,hx,e1]) ?_|refine wf (by simpa [hi2,w2,hx,e1]) ?_|refine xt (by simpa [hi2,w2,hx,e1]) ?_|refine xf (by simpa [hi2,w2,hx,e1]) ?_|apply wp_bs|apply wp_b|refine wp_sr ?_|refine wp_sx ?_|refine wp_ret' ?_|refine wp_skip' ?_|refine wp_exit' ?_)
    exact hg
theorem ev_eqEdgeS (a:List (Int×Int)) (c d:Bool) (hl:a.length≤2000000):Ev tb zl49 [] [L2 a c,L2 a d] [] ⟨Bo true,[],[],[]⟩:=by
  have hlo:=eqE_loop a c d hl a.length 0 (by omega)
  rw [show ((0:Nat):Int)=0 from rfl] at hlo
  refine call_of_wp zt49 rfl ?_
  repeat (first|apply wp_as|apply wp_ss|refine wr (by simp;with_reducible rfl) ?_|refine wq (by simp;with_reducible rfl) ?_|refine wt (by simpa) ?_|refine wf (by simpa) ?_|refine xt (by simpa) ?_|refine xf (by simpa) ?_|apply wp_bs|apply wp_b|refine wp_sr ?_|refine wp_sx ?_|refine wp_ret' ?_|refine wp_skip' ?_|refine wp_exit' ?_)
  refine wp_imp hlo ?_
  rintro ex st ⟨rfl,rfl⟩
  try simp only [if_true]
  repeat (first|apply wp_as|apply wp_ss|refine wr (by simp;with_reducible rfl) ?_|refine wq (by simp;with_reducible rfl) ?_|refine wt (by simpa) ?_|refine wf (by simpa) ?_|refine xt (by simpa) ?_|refine xf (by simpa) ?_|apply wp_bs|apply wp_b|refine wp_sr ?_|refine wp_sx ?_|refine wp_ret' ?_|refine wp_skip' ?_|refine wp_exit' ?_)
  simp [zi49]
theorem ev_eqEdgeS_Z (x y:IV) (hx:x=Z ∨ ∃ c,x=L2 [] c) (hy:y=Z ∨ ∃ c,y=L2 [] c):Ev tb zl49 [] [x,y] [] ⟨Bo true,[],[],[]⟩:=by
  rcases hx with rfl | ⟨c,rfl⟩ <;> rcases hy with rfl | ⟨d,rfl⟩ <;>
  · refine call_of_wp zt49 rfl ?_
    repeat (first|apply wp_as|apply wp_ss|refine wr (by simp;with_reducible rfl) ?_|refine wq (by simp;with_reducible rfl) ?_|refine wt (by simpa) ?_|refine wf (by simpa) ?_|refine xt (by simpa) ?_|refine xf (by simpa) ?_|apply wp_bs|apply wp_b|refine wp_sr ?_|refine wp_sx ?_|refine wp_ret' ?_|refine wp_skip' ?_|refine wp_exit' ?_)
    refine wp_loop ?_
    repeat (first|apply wp_as|apply wp_ss|refine wr (by simp;with_reducible rfl) ?_|refine wq (by simp;with_reducible rfl) ?_|refine wt (by simpa) ?_|refine wf (by simpa) ?_|refine xt (by simpa) ?_|refine xf (by simpa) ?_|apply wp_bs|apply wp_b|refine wp_sr ?_|refine wp_sx ?_|refine wp_ret' ?_|refine wp_skip' ?_|refine wp_exit' ?_)
    simp [zi49]
theorem ev_eqGraph (n:Int) (a:List (Int×Int)) (c d:Bool) (hl:a.length≤2000000):Ev tb zl50 [] [Gr n a c,Gr n a d] [] ⟨Bo true,[],[],[]⟩:=by
  have e1:=fun c d=>ev_lim (ev_eqEdgeS a c d hl)
  refine call_of_wp zt50 rfl ?_
  repeat (first|apply wp_as|apply wp_ss|refine wr (by simp [e1];with_reducible rfl) ?_|refine wq (by simp [e1];with_reducible rfl) ?_|refine wt (by simpa [e1]) ?_|refine wf (by simpa [e1]) ?_|refine xt (by simpa [e1]) ?_|refine xf (by simpa [e1]) ?_|apply wp_bs|apply wp_b|refine wp_sr ?_|refine wp_sx ?_|refine wp_ret' ?_|refine wp_skip' ?_|refine wp_exit' ?_)
  simp [zi50]
theorem ev_eqGraph_Z (n:Int) (x y:IV) (hx:x=Z ∨ ∃ c,x=L2 [] c) (hy:y=Z ∨ ∃ c,y=L2 [] c):Ev tb zl50 [] [.agg [I n,x],.agg [I n,y]] [] ⟨Bo true,[],[],[]⟩:=by
  have e1:=ev_lim (ev_eqEdgeS_Z x y hx hy)
  rcases hx with rfl | ⟨c,rfl⟩ <;> rcases hy with rfl | ⟨d,rfl⟩ <;>
  · try simp only [L2,eds_nil] at e1 ⊢
    refine call_of_wp zt50 rfl ?_
    repeat (first|apply wp_as|apply wp_ss|refine wr (by simp [e1];with_reducible rfl) ?_|refine wq (by simp [e1];with_reducible rfl) ?_|refine wt (by simpa [e1]) ?_|refine wf (by simpa [e1]) ?_|refine xt (by simpa [e1]) ?_|refine xf (by simpa [e1]) ?_|apply wp_bs|apply wp_b|refine wp_sr ?_|refine wp_sx ?_|refine wp_ret' ?_|refine wp_skip' ?_|refine wp_exit' ?_)
    simp [zi50]
def mrk2 (k:Int) (n:Nat):List (Int×Int):=(List.range n).map fun i:Nat=>(k+2 * (i:Int),k+2 * (i:Int)+1)
theorem mrk2_len (k:Int) (n:Nat):(mrk2 k n).length=n:=by simp [mrk2]
theorem mrk2_get (k:Int) (n i:Nat) (h:i < (mrk2 k n).length):(mrk2 k n)[i]=(k+2 * (i:Int),k+2 * (i:Int)+1):=by simp [mrk2]
theorem mrk2_take (k:Int) (n:Nat):(mrk2 k n).take n=mrk2 k n:=List.take_of_length_le (by rw [mrk2_len];exact Nat.le_refl n)
theorem mkE_loop (k:Int) (n:Nat) (hn:n≤10000000) (hk:0≤k∧k≤100000000):∀ (m i:Nat) (A:List (Int×Int)),i+m=n→A.length=n→A.take i=(mrk2 k n).take i →
    wp tb (.loop z56l8) { T:=[(0,O2 A),(1,I (k+2 * i)),(5,I i)],loc:=[],M:=[] }
      (fun ex st=>ex=.exit 0∧st={ T:=[(0,O2 (mrk2 k n)),(1,I (k+2 * n)),(5,I n),(9,Bo false)],loc:=[],M:=[] }):=by
  intro m
  induction m with
  | zero =>
    intro i A hi hA ht
    have h3:i=n:=hi
    subst h3
    rw [List.take_of_length_le (by omega),List.take_of_length_le (by rw [mrk2_len];omega)] at ht
    subst ht
    refine wp_loop ?_
    repeat (first|apply wp_as|apply wp_ss|refine wr (by simp [mrk2_len];with_reducible rfl) ?_|refine wq (by simp [mrk2_len];with_reducible rfl) ?_|refine wt (by simpa [mrk2_len]) ?_|refine wf (by simpa [mrk2_len]) ?_|refine xt (by simpa [mrk2_len]) ?_|refine xf (by simpa [mrk2_len]) ?_|apply wp_bs|apply wp_b|refine wp_sr ?_|refine wp_sx ?_|refine wp_ret' ?_|refine wp_skip' ?_|refine wp_exit' ?_)
    exact ⟨rfl,rfl⟩
  | succ m ih =>
    intro i A hi hA ht
    have hi2:i < A.length:=by omega
    have w2:IntKind.i64.wrap ((i:Int)+1)=((i+1:Nat):Int):=wrapS (by omega)
    have w3:IntKind.i64.wrap (k+2 * (i:Int)+1)=k+2 * (i:Int)+1:=by rw [wrap64 (by omega) (by omega)]
    have w4:IntKind.i64.wrap (k+2 * (i:Int)+1+1)=k+2 * ((i+1:Nat):Int):=by rw [wrap64 (by omega) (by omega)];omega
    have hg:=ih (i+1) (A.set i (k+2 * (i:Int),k+2 * (i:Int)+1)) (by omega) (by simpa using hA) (by
      rw [List.take_succ_eq_append_getElem (by simpa using hi2),List.take_succ_eq_append_getElem (by rw [mrk2_len];omega),List.take_set_of_le (Nat.le_refl _),ht,mrk2_get];simp)
    obtain ⟨⟨p,q⟩,hx⟩:∃ x,x=A[i]:=⟨_,rfl⟩
    have hx:=hx.symm
    refine wp_loop ?_
    repeat (first|apply wp_as|apply wp_ss|refine wr (by simp [hi2,w2,w3,w4,hx];with_reducible rfl) ?_|refine wq (by simp [hi2,w2,w3,w4,hx];with_reducible rfl) ?_|refine wt (by simpa [hi2,w2,w3,w4,hx]) ?_|refine wf (by simpa [hi2,w2,w3,w4,hx]) ?_|refine xt (by simpa [hi2,w2,w3,w4,hx]) ?_|refine xf (by simpa [hi2,w2,w3,w4,hx]) ?_|apply wp_bs|apply wp_b|refine wp_sr ?_|refine wp_sx ?_|refine wp_ret' ?_|refine wp_skip' ?_|refine wp_exit' ?_)
    exact hg
theorem ev_markEdgeS (a:List (Int×Int)) (k:Int) (hl:a.length≤10000000) (hk:0≤k∧k≤100000000):Ev tb zl56 [0] [O2 a,I k] [] ⟨I (k+2 * a.length),[O2 (mrk2 k a.length)],[],[]⟩:=by
  have hlo:=mkE_loop k a.length hl hk a.length 0 a (by omega) rfl (by simp)
  rw [show k+2 * ((0:Nat):Int)=k by omega,show ((0:Nat):Int)=0 from rfl] at hlo
  refine call_of_wp zt56 rfl ?_
  repeat (first|apply wp_as|apply wp_ss|refine wr (by simp;with_reducible rfl) ?_|refine wq (by simp;with_reducible rfl) ?_|refine wt (by simpa) ?_|refine wf (by simpa) ?_|refine xt (by simpa) ?_|refine xf (by simpa) ?_|apply wp_bs|apply wp_b|refine wp_sr ?_|refine wp_sx ?_|refine wp_ret' ?_|refine wp_skip' ?_|refine wp_exit' ?_)
  refine wp_imp hlo ?_
  rintro ex st ⟨rfl,rfl⟩
  try simp only [if_true]
  repeat (first|apply wp_as|apply wp_ss|refine wr (by simp;with_reducible rfl) ?_|refine wq (by simp;with_reducible rfl) ?_|refine wt (by simpa) ?_|refine wf (by simpa) ?_|refine xt (by simpa) ?_|refine xf (by simpa) ?_|apply wp_bs|apply wp_b|refine wp_sr ?_|refine wp_sx ?_|refine wp_ret' ?_|refine wp_skip' ?_|refine wp_exit' ?_)
  simp [zi56]
theorem ev_markEdgeS_Z (k:Int):Ev tb zl56 [] [Z,I k] [] ⟨I k,[],[],[]⟩:=by
  refine call_of_wp zt56 rfl ?_
  repeat (first|apply wp_as|apply wp_ss|refine wr (by simp;with_reducible rfl) ?_|refine wq (by simp;with_reducible rfl) ?_|refine wt (by simpa) ?_|refine wf (by simpa) ?_|refine xt (by simpa) ?_|refine xf (by simpa) ?_|apply wp_bs|apply wp_b|refine wp_sr ?_|refine wp_sx ?_|refine wp_ret' ?_|refine wp_skip' ?_|refine wp_exit' ?_)
  refine wp_loop ?_
  repeat (first|apply wp_as|apply wp_ss|refine wr (by simp;with_reducible rfl) ?_|refine wq (by simp;with_reducible rfl) ?_|refine wt (by simpa) ?_|refine wf (by simpa) ?_|refine xt (by simpa) ?_|refine xf (by simpa) ?_|apply wp_bs|apply wp_b|refine wp_sr ?_|refine wp_sx ?_|refine wp_ret' ?_|refine wp_skip' ?_|refine wp_exit' ?_)
  simp [zi56]
theorem hdE_loop (k:Int) (n:Nat) (c:Bool) (hn:n≤10000000) (hk:0≤k∧k≤100000000):∀ (m i:Nat),i+m=n →
    wp tb (.loop z239l10) { T:=[(0,L2 (mrk2 k n) c),(1,I (k+2 * i)),(5,I i)],loc:=[],M:=[] }
      (fun ex st=>ex=.exit 0∧st={ T:=[(0,L2 (mrk2 k n) c),(1,I (k+2 * n)),(5,I n),(9,Bo false)],loc:=[],M:=[] }):=by
  intro m
  induction m with
  | zero =>
    intro i hi
    have h3:i=n:=hi
    subst h3
    refine wp_loop ?_
    repeat (first|apply wp_as|apply wp_ss|refine wr (by simp [mrk2_len];with_reducible rfl) ?_|refine wq (by simp [mrk2_len];with_reducible rfl) ?_|refine wt (by simpa [mrk2_len]) ?_|refine wf (by simpa [mrk2_len]) ?_|refine xt (by simpa [mrk2_len]) ?_|refine xf (by simpa [mrk2_len]) ?_|apply wp_bs|apply wp_b|refine wp_sr ?_|refine wp_sx ?_|refine wp_ret' ?_|refine wp_skip' ?_|refine wp_exit' ?_)
    exact ⟨rfl,rfl⟩
  | succ m ih =>
    intro i hi
    have hi2:i < n:=by omega
    have w2:IntKind.i64.wrap ((i:Int)+1)=((i+1:Nat):Int):=wrapS (by omega)
    have w3:IntKind.i64.wrap (k+2 * (i:Int)+1)=k+2 * (i:Int)+1:=by rw [wrap64 (by omega) (by omega)]
    have w4:IntKind.i64.wrap (k+2 * (i:Int)+1+1)=k+2 * ((i+1:Nat):Int):=by rw [wrap64 (by omega) (by omega)];omega
    have hg:=ih (i+1) (by omega)
    refine wp_loop ?_
    repeat (first|apply wp_as|apply wp_ss|refine wr (by simp [mrk2_len,hi2,w2,w3,w4,mrk2_get];with_reducible rfl) ?_|refine wq (by simp [mrk2_len,hi2,w2,w3,w4,mrk2_get];with_reducible rfl) ?_|refine wt (by simpa [mrk2_len,hi2,w2,w3,w4,mrk2_get]) ?_|refine wf (by simpa [mrk2_len,hi2,w2,w3,w4,mrk2_get]) ?_|refine xt (by simpa [mrk2_len,hi2,w2,w3,w4,mrk2_get]) ?_|refine xf (by simpa [mrk2_len,hi2,w2,w3,w4,mrk2_get]) ?_|apply wp_bs|apply wp_b|refine wp_sr ?_|refine wp_sx ?_|refine wp_ret' ?_|refine wp_skip' ?_|refine wp_exit' ?_)
    exact hg
theorem ev_heldEdgeS (k:Int) (n:Nat) (c:Bool) (hl:n≤10000000) (hk:0≤k∧k≤100000000):Ev tb zl239 [] [L2 (mrk2 k n) c,I k] [] ⟨I (k+2 * n),[],[],[]⟩:=by
  have hlo:=hdE_loop k n c hl hk n 0 (by omega)
  rw [show k+2 * ((0:Nat):Int)=k by omega,show ((0:Nat):Int)=0 from rfl] at hlo
  refine call_of_wp zt239 rfl ?_
  repeat (first|apply wp_as|apply wp_ss|refine wr (by simp;with_reducible rfl) ?_|refine wq (by simp;with_reducible rfl) ?_|refine wt (by simpa) ?_|refine wf (by simpa) ?_|refine xt (by simpa) ?_|refine xf (by simpa) ?_|apply wp_bs|apply wp_b|refine wp_sr ?_|refine wp_sx ?_|refine wp_ret' ?_|refine wp_skip' ?_|refine wp_exit' ?_)
  refine wp_imp hlo ?_
  rintro ex st ⟨rfl,rfl⟩
  try simp only [if_true]
  repeat (first|apply wp_as|apply wp_ss|refine wr (by simp;with_reducible rfl) ?_|refine wq (by simp;with_reducible rfl) ?_|refine wt (by simpa) ?_|refine wf (by simpa) ?_|refine xt (by simpa) ?_|refine xf (by simpa) ?_|apply wp_bs|apply wp_b|refine wp_sr ?_|refine wp_sx ?_|refine wp_ret' ?_|refine wp_skip' ?_|refine wp_exit' ?_)
  simp [zi239]
theorem ev_heldEdgeS_Z (k:Int):Ev tb zl239 [] [Z,I k] [] ⟨I k,[],[],[]⟩:=by
  refine call_of_wp zt239 rfl ?_
  repeat (first|apply wp_as|apply wp_ss|refine wr (by simp;with_reducible rfl) ?_|refine wq (by simp;with_reducible rfl) ?_|refine wt (by simpa) ?_|refine wf (by simpa) ?_|refine xt (by simpa) ?_|refine xf (by simpa) ?_|apply wp_bs|apply wp_b|refine wp_sr ?_|refine wp_sx ?_|refine wp_ret' ?_|refine wp_skip' ?_|refine wp_exit' ?_)
  refine wp_loop ?_
  repeat (first|apply wp_as|apply wp_ss|refine wr (by simp;with_reducible rfl) ?_|refine wq (by simp;with_reducible rfl) ?_|refine wt (by simpa) ?_|refine wf (by simpa) ?_|refine xt (by simpa) ?_|refine xf (by simpa) ?_|apply wp_bs|apply wp_b|refine wp_sr ?_|refine wp_sx ?_|refine wp_ret' ?_|refine wp_skip' ?_|refine wp_exit' ?_)
  simp [zi239]
theorem ev_markGraph (n:Int) (a:List (Int×Int)) (k:Int) (hl:a.length≤10000000) (hk:0≤k∧k≤100000000):Ev tb zl57 [0] [OG n a,I k] [] ⟨I (k+2 * a.length),[OG n (mrk2 k a.length)],[],[]⟩:=by
  have e1:=ev_lim (ev_markEdgeS a k hl hk)
  have hs:(eds (mrk2 k a.length)).all (·.all IV.isSc)=true:=by
    rw [List.all_eq_true];intro x hx
    obtain ⟨e,_,rfl⟩:=List.mem_map.1 hx
    rfl
  refine call_of_wp zt57 rfl ?_
  refine ⟨_,by simp [z57r0,z57r1,e1,hs];with_reducible rfl,?_⟩
  repeat (first|apply wp_as|apply wp_ss|refine wr (by simp;with_reducible rfl) ?_|refine wq (by simp;with_reducible rfl) ?_|refine wt (by simpa) ?_|refine wf (by simpa) ?_|refine xt (by simpa) ?_|refine xf (by simpa) ?_|apply wp_bs|apply wp_b|refine wp_sr ?_|refine wp_sx ?_|refine wp_ret' ?_|refine wp_skip' ?_|refine wp_exit' ?_)
  simp [zi57]
theorem ev_markGraph_Z (n:Int) (k:Int):Ev tb zl57 [] [.agg [I n,Z],I k] [] ⟨I k,[],[],[]⟩:=by
  have e1:=ev_lim (ev_markEdgeS_Z k)
  refine call_of_wp zt57 rfl ?_
  refine ⟨_,by simp [z57r0,z57r1,e1];with_reducible rfl,?_⟩
  repeat (first|apply wp_as|apply wp_ss|refine wr (by simp;with_reducible rfl) ?_|refine wq (by simp;with_reducible rfl) ?_|refine wt (by simpa) ?_|refine wf (by simpa) ?_|refine xt (by simpa) ?_|refine xf (by simpa) ?_|apply wp_bs|apply wp_b|refine wp_sr ?_|refine wp_sx ?_|refine wp_ret' ?_|refine wp_skip' ?_|refine wp_exit' ?_)
  simp [zi57]
theorem ev_heldGraph (n:Int) (k:Int) (m:Nat) (c:Bool) (hl:m≤10000000) (hk:0≤k∧k≤100000000):Ev tb zl240 [] [Gr n (mrk2 k m) c,I k] [] ⟨I (k+2 * m),[],[],[]⟩:=by
  have e1:=fun c=>ev_lim (ev_heldEdgeS k m c hl hk)
  have h0:¬ (k+2 * (m:Int) < 0):=by omega
  refine call_of_wp zt240 rfl ?_
  repeat (first|apply wp_as|apply wp_ss|refine wr (by simp [e1,h0];with_reducible rfl) ?_|refine wq (by simp [e1,h0];with_reducible rfl) ?_|refine wt (by simpa [e1,h0]) ?_|refine wf (by simpa [e1,h0]) ?_|refine xt (by simpa [e1,h0]) ?_|refine xf (by simpa [e1,h0]) ?_|apply wp_bs|apply wp_b|refine wp_sr ?_|refine wp_sx ?_|refine wp_ret' ?_|refine wp_skip' ?_|refine wp_exit' ?_)
  simp [zi240]
theorem ev_heldGraph_Z (n:Int) (k:Int) (hk:0≤k):Ev tb zl240 [] [.agg [I n,Z],I k] [] ⟨I k,[],[],[]⟩:=by
  have e1:=ev_lim (ev_heldEdgeS_Z k)
  have h0:¬ (k < 0):=by omega
  refine call_of_wp zt240 rfl ?_
  repeat (first|apply wp_as|apply wp_ss|refine wr (by simp [e1,h0];with_reducible rfl) ?_|refine wq (by simp [e1,h0];with_reducible rfl) ?_|refine wt (by simpa [e1,h0]) ?_|refine wf (by simpa [e1,h0]) ?_|refine xt (by simpa [e1,h0]) ?_|refine xf (by simpa [e1,h0]) ?_|apply wp_bs|apply wp_b|refine wp_sr ?_|refine wp_sx ?_|refine wp_ret' ?_|refine wp_skip' ?_|refine wp_exit' ?_)
  simp [zi240]
end Go.Idl
namespace Go.Idl
open Go
set_option maxHeartbeats 4000000 in
theorem ev_FnExactRealizeDegrees (law:∀ d,valid d=true→RealLaw d) (d:List Int) (c:Bool) :
    Ev tb zl426 [] [L d c] [] ⟨Bo true,[],[],[]⟩:=by
  by_cases hc:(1048576:Int) < d.length
  · refine call_of_wp zt426 rfl ?_
    repeat (first|apply wp_as|apply wp_ss|refine wr (by simp [hc];with_reducible rfl) ?_|refine wq (by simp [hc];with_reducible rfl) ?_|refine wt (by simpa [hc]) ?_|refine wf (by simpa [hc]) ?_|refine xt (by simpa [hc]) ?_|refine xf (by simpa [hc]) ?_|apply wp_bs|apply wp_b|refine wp_sr ?_|refine wp_sx ?_|refine wp_ret' ?_|refine wp_skip' ?_|refine wp_exit' ?_)
    simp [zi426]
  have t1:=fun c=>ev_lim (ev_toIntS d c (by omega))
  have q1:=fun c e=>ev_lim (ev_eqIntS d c e (by omega))
  have m1:=ev_lim (ev_markIntS d 1 (by omega) (by omega))
  have h0:¬ (1+(d.length:Int) < 0):=by omega
  have hs1:(ints (mrk 1 d.length)).all (·.all IV.isSc)=true:=by
    rw [List.all_eq_true];intro x hx
    obtain ⟨e,_,rfl⟩:=List.mem_map.1 hx
    rfl
  have no:(∀ c,limF tb zl193 [] [L d c] []=some ⟨.tup [.agg [I 0,Z],Bo false],[],[],[]⟩)→(∀ c,limF tb zl324 [] [L d c] []=some ⟨.tup [.agg [I 0,Z],Bo false],[],[],[]⟩) →
      Ev tb zl426 [] [L d c] [] ⟨Bo true,[],[],[]⟩:=by
    intro e2 e3
    have ez:=ev_lim (ev_eqGraph_Z 0 Z Z (.inl rfl) (.inl rfl))
    have m2:=ev_lim (ev_markGraph_Z 0 1)
    have m3:=ev_lim (ev_heldGraph_Z 0 1 (by omega))
    refine call_of_wp zt426 rfl ?_
    repeat (first|apply wp_as|apply wp_ss|refine wr (by simp [hc,t1,q1,m1,h0,hs1,e2,e3,ez,m2,m3];with_reducible rfl) ?_|refine wq (by simp [hc,t1,q1,m1,h0,hs1,e2,e3,ez,m2,m3];with_reducible rfl) ?_|refine wt (by simpa [hc,t1,q1,m1,h0,hs1,e2,e3,ez,m2,m3]) ?_|refine wf (by simpa [hc,t1,q1,m1,h0,hs1,e2,e3,ez,m2,m3]) ?_|refine xt (by simpa [hc,t1,q1,m1,h0,hs1,e2,e3,ez,m2,m3]) ?_|refine xf (by simpa [hc,t1,q1,m1,h0,hs1,e2,e3,ez,m2,m3]) ?_|apply wp_bs|apply wp_b|refine wp_sr ?_|refine wp_sx ?_|refine wp_ret' ?_|refine wp_skip' ?_|refine wp_exit' ?_)
    simp [zi426]
  cases hv:valid d with
  | false=>exact no (fun c=>ev_lim (ev_RealizeDegrees_no d c (by omega) hv)) (fun c=>ev_lim (ev_spec_RealizeDegrees_no d c (by omega) hv))
  | true =>
  have e2:=fun c=>ev_lim (ev_RealizeDegrees d c hv)
  have e3:=fun c=>ev_lim (ev_spec_RealizeDegrees d c hv)
  obtain ⟨h1,h2⟩:=law d hv
  rw [h1] at e3
  cases hr:realD d with
  | none =>
    simp only [hr,Option.map_none] at e2 e3
    exact no e2 e3
  | some es =>
    obtain ⟨g1,g2⟩:=h2 es hr
    simp only [hr,Option.map_some,RR,RS] at e2 e3
    generalize srtE es=xs at *
    have hn7:=(vG_n g1).2
    have hxl:xs.length≤1000:=by
      have h1:=(vG_sub g1).length_le
      have h2:∀ n,n≤7→(prs n).length≤21:=by decide +kernel
      have:=h2 _ (valid_few hv).1
      omega
    have ez:=fun c e=>ev_lim (ev_eqGraph d.length xs c e (by omega))
    have m2:=ev_lim (ev_markGraph d.length xs 1 (by omega) (by omega))
    have m3:=fun c=>ev_lim (ev_heldGraph d.length 1 xs.length c (by omega) (by omega))
    have h9:¬ (1+2 * (xs.length:Int) < 0):=by omega
    have hs2:(eds (mrk2 1 xs.length)).all (·.all IV.isSc)=true:=by
      rw [List.all_eq_true];intro x hx
      obtain ⟨e,_,rfl⟩:=List.mem_map.1 hx
      rfl
    refine call_of_wp zt426 rfl ?_
    repeat (first|apply wp_as|apply wp_ss|refine wr (by simp [hc,t1,q1,m1,h0,hs1,e2,e3,ez,m2,m3,h9,hs2,mrk2_len,mrk2_take];with_reducible rfl) ?_|refine wq (by simp [hc,t1,q1,m1,h0,hs1,e2,e3,ez,m2,m3,h9,hs2,mrk2_len,mrk2_take];with_reducible rfl) ?_|refine wt (by simpa [hc,t1,q1,m1,h0,hs1,e2,e3,ez,m2,m3,h9,hs2,mrk2_len,mrk2_take]) ?_|refine wf (by simpa [hc,t1,q1,m1,h0,hs1,e2,e3,ez,m2,m3,h9,hs2,mrk2_len,mrk2_take]) ?_|refine xt (by simpa [hc,t1,q1,m1,h0,hs1,e2,e3,ez,m2,m3,h9,hs2,mrk2_len,mrk2_take]) ?_|refine xf (by simpa [hc,t1,q1,m1,h0,hs1,e2,e3,ez,m2,m3,h9,hs2,mrk2_len,mrk2_take]) ?_|apply wp_bs|apply wp_b|refine wp_sr ?_|refine wp_sx ?_|refine wp_ret' ?_|refine wp_skip' ?_|refine wp_exit' ?_)
    simp [zi426]
end Go.Idl
