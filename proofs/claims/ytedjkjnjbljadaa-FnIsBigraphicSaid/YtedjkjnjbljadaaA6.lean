/- Part 6 of a proof by an ideal interpreter of the code: its definitions and lemmas. Conditions: none. -/
import Derived.KernelRfl
import Derived.Test.YtedjkjnjbljadaaA5
set_option linter.all false
set_option linter.unusedVariables false
set_option linter.unusedSimpArgs false
namespace Go.Idl
open Go
def gr (r c:List Int):Bool:=decide (r.sum=c.sum) && noneNeg (gale r c)
def tn (l:List Int):List Nat:=l.map Int.toNat
def tz (l:List Nat):List Int:=l.map fun n:Nat=>(n:Int)
theorem tz_tn {l:List Int} (h:∀ x ∈ l,0≤x):tz (tn l)=l:=by
  rw [tz,tn,List.map_map]
  conv=>rhs;rw [← List.map_id l]
  exact List.map_congr_left fun x hx=>by have:=h x hx;simp;omega
theorem bSum_tz (l:List Nat):(tz l).sum=(bSum l:Int):=by
  induction l with
  | nil=>rfl
  | cons x r ih =>
    have:bSum (x::r)=x+bSum r:=rfl
    rw [this,tz,List.map_cons,List.sum_cons,← tz,ih];omega
theorem bMin_tz (k:Nat) (l:List Nat):((tz l).map fun x:Int=>min x (k:Int)).sum=(bMin k l:Int):=by
  induction l with
  | nil=>rfl
  | cons x r ih =>
    have h1:bMin k (x::r)=(cond (Nat.ble x k) x k)+bMin k r:=rfl
    rw [h1,tz,List.map_cons,List.map_cons,List.sum_cons,← tz,ih]
    by_cases h:x≤k
    · have:Nat.ble x k=true:=by rw [Nat.ble_eq];exact h
      rw [this,cond_true];omega
    · have:Nat.ble x k=false:=by rw [Bool.eq_false_iff];intro hh;rw [Nat.ble_eq] at hh;exact h hh
      rw [this,cond_false];omega
theorem bGr_iff:∀ (r:List Nat) (k s:Nat) (c:List Nat),bGr r k s c=true ↔ ∀ i,i < r.length→s+bSum (r.take (i+1))≤bMin (k+i+1) c
  | [],_,_,_=>by simp [bGr]
  | x::r,k,s,c=>by
    rw [bGr,Bool.and_eq_true,bGr_iff r,Nat.ble_eq]
    constructor
    · rintro ⟨h1,h2⟩ i hi
      cases i with
      | zero=>simpa [bSum] using h1
      | succ i =>
        have h3:=h2 i (by simpa using hi)
        have h4:bSum ((x::r).take (i+1+1))=x+bSum (r.take (i+1)):=rfl
        rw [h4]
        have h5:k.succ+i+1=k+(i+1)+1:=by omega
        rw [h5] at h3
        have:Nat.add s x=s+x:=rfl
        omega
    · intro h
      refine ⟨by simpa [bSum] using h 0 (by simp),fun i hi=>?_⟩
      have h3:=h (i+1) (by simpa using hi)
      have h4:bSum ((x::r).take (i+1+1))=x+bSum (r.take (i+1)):=rfl
      rw [h4] at h3
      have h5:k.succ+i+1=k+(i+1)+1:=by omega
      rw [h5]
      have:Nat.add s x=s+x:=rfl
      omega
theorem tz_take (l:List Nat) (k:Nat):(tz l).take k=tz (l.take k):=by simp [tz,List.map_take]
theorem gr_N {r c:List Int} {rn cn:List Nat} (h1:fall r=tz rn) (h2:c.Perm (tz cn)):gr r c=(decide (bSum rn=bSum cn) && bGr rn 0 0 cn):=by
  have hs1:r.sum=(bSum rn:Int):=by rw [← fall_sum,h1,bSum_tz]
  have hs2:c.sum=(bSum cn:Int):=by rw [perm_sum h2,bSum_tz]
  have hl:r.length=rn.length:=by rw [← fall_len,h1];simp [tz]
  have hg:∀ i:Nat,gs r c i=-(bSum (rn.take (i+1)):Int)+(bMin (i+1) cn:Int):=by
    intro i
    rw [gs,h1,tz_take,bSum_tz,perm_sum (h2.map fun x:Int=>min x ((i:Int)+1)),← bMin_tz]
    simp
  have e1:decide (r.sum=c.sum)=decide (bSum rn=bSum cn):=by
    rw [decide_eq_decide];omega
  have e2:noneNeg (gale r c)=bGr rn 0 0 cn:=by
    rw [Bool.eq_iff_iff,bGr_iff]
    simp only [noneNeg,gale,mapR,List.all_eq_true,List.mem_map,List.mem_range,decide_eq_true_eq,forall_exists_index,and_imp,forall_apply_eq_imp_iff₂,hg,hl]
    constructor
    · intro h i hi;have:=h i hi;rw [show 0+i+1=i+1 by omega];omega
    · intro h i hi;have:=h i hi;rw [show 0+i+1=i+1 by omega] at this;omega
  rw [gr,e1,e2]
theorem bNth_get:∀ (p:Nat) (l:List Nat),bNth p l=l.getD p 0
  | _,[]=>by simp [bNth]
  | 0,x::r=>by simp [bNth]
  | p+1,x::r=>by rw [bNth,bNth_get p r];simp
theorem bDel_erase:∀ (p:Nat) (l:List Nat),bDel p l=l.eraseIdx p
  | _,[]=>by simp [bDel]
  | 0,x::r=>by simp [bDel]
  | p+1,x::r=>by rw [bDel,bDel_erase p r];simp
theorem bDel_sum:∀ (p:Nat) (l:List Nat),bSum (bDel p l)+bNth p l=bSum l
  | _,[]=>by simp [bDel,bNth]
  | 0,x::r=>by show bSum r+x=x+bSum r;omega
  | p+1,x::r=>by
    have:=bDel_sum p r
    show (x+bSum (bDel p r))+bNth p r=x+bSum r
    omega
theorem bDec_sum:∀ (x:Nat) (l:List Nat),bPos x l=true→bSum (bDec x l)+x=bSum l
  | 0,l,_=>by simp [bDec]
  | x+1,[],h=>by simp [bPos] at h
  | x+1,y::r,h=>by
    simp only [bPos,Bool.and_eq_true] at h
    have h1:0 < y:=by have:=h.1;simp [Nat.blt] at this;omega
    have:=bDec_sum x r h.2
    show (Nat.pred y+bSum (bDec x r))+(x+1)=y+bSum r
    rw [Nat.pred_eq_sub_one]
    omega
theorem bDec_map:∀ (x:Nat) (S:List Int) (f g:Int→Nat),(∀ j ∈ S.take x,g j=f j - 1)→(∀ j ∈ S.drop x,g j=f j)→bDec x (S.map f)=S.map g
  | 0,S,f,g,_,h=>by
    show S.map f=S.map g
    exact List.map_congr_left fun j hj=>(h j (by simpa using hj)).symm
  | x+1,[],f,g,_,_=>rfl
  | x+1,j::S,f,g,h1,h2=>by
    show Nat.pred (f j)::bDec x (S.map f)=g j::S.map g
    rw [bDec_map x S f g (fun k hk=>h1 k (by simp [hk])) (fun k hk=>h2 k (by simpa using hk)),h1 j (by simp)]
    rfl
theorem bPos_map:∀ (x:Nat) (S:List Int) (f:Int→Nat),x≤S.length→(bPos x (S.map f)=true ↔ ∀ j ∈ S.take x,0 < f j)
  | 0,S,f,_=>by simp [bPos]
  | x+1,[],f,h=>by simp at h
  | x+1,j::S,f,h=>by
    show (Nat.blt 0 (f j) && bPos x (S.map f))=true ↔ _
    rw [Bool.and_eq_true,bPos_map x S f (by simpa using h)]
    simp [Nat.blt]
    intro _;omega
theorem takeT_what (i:Nat):∀ (js c:List Int) (t:List (List Int)),js.Nodup→(∀ j ∈ js,0≤j∧j < c.length) →
    (takeT i js c t=none∧∃ j ∈ js,c.getD j.toNat 0=0) ∨
    (∃ c' t',takeT i js c t=some (c',t')∧(∀ j ∈ js,c.getD j.toNat 0 ≠ 0)∧c'.length=c.length∧∀ k:Nat,c'.getD k 0=c.getD k 0 - if (k:Int) ∈ js then 1 else 0)
  | [],c,t,_,_=>.inr ⟨c,t,rfl,by simp,rfl,by simp⟩
  | j::js,c,t,hn,hj=>by
    obtain ⟨hn1,hn2⟩:=List.nodup_cons.1 hn
    have hjc:=hj j (by simp)
    have hl:(decAt c j.toNat).length=c.length:=by simp [decAt]
    have hget:∀ k:Nat,(decAt c j.toNat).getD k 0=c.getD k 0 - if (k:Int)=j then 1 else 0:=by
      intro k
      simp only [decAt,List.getD_eq_getElem?_getD,List.getElem?_set]
      by_cases hk:(k:Int)=j
      · have:j.toNat=k:=by omega
        subst this
        rw [if_pos rfl,if_pos (by omega),if_pos hk]
        simp
      · rw [if_neg (by omega),if_neg hk];simp
    rw [takeT]
    by_cases hz:c.getD j.toNat 0=0
    · rw [if_pos hz];exact .inl ⟨rfl,j,by simp,hz⟩
    · rw [if_neg hz]
      rcases takeT_what i js (decAt c j.toNat) (set2 t i j.toNat 1) hn2 (fun k hk=>by rw [hl];exact hj k (by simp [hk])) with ⟨h1,k,hk,h2⟩ | ⟨c',t',h1,h2,h3,h4⟩
      · refine .inl ⟨h1,k,by simp [hk],?_⟩
        rw [hget,if_neg] at h2
        · omega
        · intro he
          have hkb:=hj k (by simp [hk])
          have:k=j:=by omega
          subst this;exact hn1 hk
      · refine .inr ⟨c',t',h1,fun k hk=>?_,by rw [h3,hl],fun k=>?_⟩
        · rcases List.mem_cons.1 hk with rfl | hk2
          · exact hz
          · have:=h2 k hk2
            rw [hget] at this
            by_cases he:((k.toNat:Nat):Int)=j
            · have hkb:=hj k (by simp [hk2])
              have:k=j:=by omega
              rw [this] at hk2;exact absurd hk2 hn1
            · rw [if_neg he] at this;omega
        · rw [h4,hget]
          by_cases he:(k:Int)=j
          · have hk:¬ (k:Int) ∈ js:=by rw [he];exact hn1
            rw [if_pos he,if_neg hk,if_pos (by simp [he])];omega
          · rw [if_neg he]
            by_cases hk:(k:Int) ∈ js
            · rw [if_pos hk,if_pos (by simp [hk])];omega
            · rw [if_neg hk,if_neg (by simp [hk,he])];omega
theorem erase_perm {α:Type}:∀ (l:List α) (p:Nat) (h:p < l.length),(l[p]::l.eraseIdx p).Perm l
  | [],p,h=>absurd h (by simp)
  | x::r,0,_=>by simp
  | x::r,p+1,h=>by
    have h1:p < r.length:=by simpa using h
    rw [List.eraseIdx_cons_succ,List.getElem_cons_succ]
    exact (List.Perm.swap _ _ _).trans ((erase_perm r p h1).cons x)
theorem erase_map {α β:Type} (f:α→β):∀ (l:List α) (p:Nat),(l.map f).eraseIdx p=(l.eraseIdx p).map f
  | [],p=>by simp
  | x::r,0=>by simp
  | x::r,p+1=>by simp [erase_map f r p]
theorem FalN_of:∀ (l:List Int) (t:Nat),Desc l→(∀ x ∈ l,0≤x∧x≤t)→FalN t (tn l)
  | [],_,_,_=>trivial
  | x::r,t,hd,h=>by
    obtain ⟨h1,h2⟩:=List.pairwise_cons.1 hd
    have hx:=h x (by simp)
    refine ⟨by omega,FalN_of r x.toNat h2 fun y hy=>⟨(h y (by simp [hy])).1,?_⟩⟩
    have:=h1 y hy
    omega
theorem idx_perm (c:List Int) (S:List Int) (h:S.Perm (idxB c.length (-1))):(S.map fun j=>c.getD j.toNat 0).Perm c:=by
  refine (h.map _).trans ?_
  rw [idxB,List.filter_eq_self.2 (by intro a ha;obtain ⟨v,_,rfl⟩:=List.mem_map.1 ha;rw [decide_eq_true_eq];omega),List.map_map]
  have:c=(List.range c.length).map fun v=>c.getD v 0:=by
    apply List.ext_getElem (by simp)
    intro i h1 h2
    simp [List.getD_eq_getElem?_getD,List.getElem?_eq_getElem h1]
  conv=>rhs;rw [this]
  exact .of_eq (List.map_congr_left fun v _=>by simp)
theorem gr_step {h:Nat} (h1:1≤h) (h5:h≤5) (i:Nat) (x:Int) (xs c:List Int) (t:List (List Int)) (hx:∀ y ∈ x::xs,0≤y∧y≤h) (hl:(x::xs).length≤5) (hc:∀ y ∈ c,0≤y∧y≤5) (hcl:c.length=h) :
    (takeT i (topD c (idxB h (-1)) x.toNat) c t=none∧gr (x::xs) c=false) ∨
    (∃ c' t',takeT i (topD c (idxB h (-1)) x.toNat) c t=some (c',t')∧gr (x::xs) c=gr xs c'∧c'.length=h∧∀ y ∈ c',0≤y∧y≤5):=by
  obtain ⟨S,hS⟩:∃ S,S=srtC (gtD c) [] (idxB h (-1)):=⟨_,rfl⟩
  have hidx:idxB h (-1)=(List.range h).map fun v:Nat=>(v:Int):=by
    rw [idxB,List.filter_eq_self.2 (by intro a ha;obtain ⟨v,_,rfl⟩:=List.mem_map.1 ha;rw [decide_eq_true_eq];omega)]
  have hSp:S.Perm (idxB h (-1)):=by rw [hS];simpa using srtC_perm (gtD c) (idxB h (-1)) []
  have hSn:S.Nodup:=by
    refine hSp.nodup_iff.2 ?_
    rw [hidx]
    refine List.Pairwise.map _ ?_ List.nodup_range
    intro a b hab he;exact hab (by omega)
  have hSb:∀ j ∈ S,0≤j∧j < c.length:=by
    intro j hj
    have:=hSp.mem_iff.1 hj
    rw [hidx] at this
    obtain ⟨v,hv,rfl⟩:=List.mem_map.1 this
    have:=List.mem_range.1 hv
    omega
  have hSl:S.length=h:=by rw [hSp.length_eq,hidx];simp
  have hSd:Desc (S.map fun j=>c.getD j.toNat 0):=by
    have:=(srtC_ok (lt:=gtD c) (fun a b d ha hb=>by simp only [gtD,decide_eq_false_iff_not] at *;omega) (fun a b hab=>by simp only [gtD,decide_eq_true_eq,decide_eq_false_iff_not] at *;omega) (idxB h (-1)) [] .nil).1
    rw [← hS] at this
    refine List.Pairwise.map _ ?_ this
    intro a b hab
    simp only [gtD,decide_eq_false_iff_not] at hab
    omega
  have hSc:=idx_perm c S (by rw [hcl];exact hSp)
  have hxb:=hx x (by simp)
  have hxS:x.toNat≤S.length:=by omega
  obtain ⟨p,hp,hpx⟩:=List.mem_iff_getElem.1 ((fall_mem (xs:=x::xs) (x:=x)).2 (by simp))
  have hrn:fall (x::xs)=tz (tn (fall (x::xs))):=(tz_tn fun y hy=>(hx y (fall_mem.1 hy)).1).symm
  have hcn:c.Perm (tz (S.map fun j=>(c.getD j.toNat 0).toNat)):=by
    refine hSc.symm.trans (.of_eq ?_)
    rw [tz,List.map_map]
    refine List.map_congr_left fun j hj=>?_
    have:0≤c.getD j.toNat 0:=by
      have hjb:=hSb j hj
      rw [getD_get (by omega)]
      exact (hc _ (List.getElem_mem _)).1
    simp only [Function.comp];omega
  have e1:=gr_N hrn hcn
  have hwl:(fall (x::xs)).length=xs.length+1:=by rw [fall_len];simp
  have hfx:fall xs=tz (bDel p (tn (fall (x::xs)))):=by
    have h2:((fall (x::xs)).eraseIdx p).Perm xs:=by
      have h3:=erase_perm _ p hp
      rw [hpx] at h3
      exact List.Perm.cons_inv (h3.trans (fall_perm _))
    rw [← fall_unique ((fall_desc _).sublist (List.eraseIdx_sublist _ _)) h2,bDel_erase]
    conv=>lhs;rw [hrn]
    rw [tz,tz,erase_map]
  have hnx:bNth p (tn (fall (x::xs)))=x.toNat:=by
    rw [bNth_get,tn,List.getD_eq_getElem?_getD,List.getElem?_map,List.getElem?_eq_getElem hp,hpx];rfl
  have hds:=bDel_sum p (tn (fall (x::xs)))
  rw [hnx] at hds
  have hcd:(S.map fun j=>(c.getD j.toNat 0).toNat)=tn (S.map fun j=>c.getD j.toNat 0):=by simp [tn]
  have hchk:bSum (tn (fall (x::xs)))=bSum (S.map fun j=>(c.getD j.toNat 0).toNat)→bGr (tn (fall (x::xs))) 0 0 (S.map fun j=>(c.getD j.toNat 0).toNat)=(bPos x.toNat (S.map fun j=>(c.getD j.toNat 0).toNat) && bGr (bDel p (tn (fall (x::xs)))) 0 0 (bDec x.toNat (S.map fun j=>(c.getD j.toNat 0).toNat))):=by
    intro hs
    have:=(bChk_ok (w:=xs.length+1) (h:=h) (by omega) (by simpa using hl) h1 h5 (by simp [tn,hwl]) (by simp [hSl]) (FalN_of _ _ (fall_desc _) fun y hy=>hx y (fall_mem.1 hy)) (by
      rw [hcd]
      refine FalN_of _ _ hSd fun y hy=>?_
      have:=hc y (hSc.mem_iff.1 hy)
      exact this) hs).1 p (by omega)
    rw [hnx] at this
    exact this
  have htop:topD c (idxB h (-1)) x.toNat=S.take x.toNat:=by rw [topD,← hS]
  rw [htop,e1]
  have hpos:=bPos_map x.toNat S (fun j=>(c.getD j.toNat 0).toNat) hxS
  have hcv:∀ j ∈ S,0≤c.getD j.toNat 0∧c.getD j.toNat 0≤5:=by
    intro j hj
    have hjb:=hSb j hj
    rw [getD_get (by omega)]
    exact hc _ (List.getElem_mem _)
  rcases takeT_what i (S.take x.toNat) c t (hSn.sublist (List.take_sublist _ _)) (fun j hj=>hSb j (List.mem_of_mem_take hj)) with ⟨h2,j,hj,hj0⟩ | ⟨c',t',h2,h3,h4,h6⟩
  · refine .inl ⟨h2,?_⟩
    have hf:bPos x.toNat (S.map fun j=>(c.getD j.toNat 0).toNat)=false:=by
      rw [Bool.eq_false_iff]
      intro hh
      have:=hpos.1 hh j hj
      rw [hj0] at this
      simp at this
    by_cases hs:bSum (tn (fall (x::xs)))=bSum (S.map fun j=>(c.getD j.toNat 0).toNat)
    · rw [hchk hs,hf];simp
    · rw [decide_eq_false hs];rfl
  · have hcl':c'.length=h:=by rw [h4,hcl]
    have hSc':=idx_perm c' S (by rw [hcl'];exact hSp)
    have hin:∀ j ∈ S.take x.toNat,c'.getD j.toNat 0=c.getD j.toNat 0 - 1:=by
      intro j hj
      have hjb:=hSb j (List.mem_of_mem_take hj)
      rw [h6,if_pos (by rw [Int.toNat_of_nonneg hjb.1];exact hj)]
    have hout:∀ j ∈ S.drop x.toNat,c'.getD j.toNat 0=c.getD j.toNat 0:=by
      intro j hj
      have hjb:=hSb j (List.mem_of_mem_drop hj)
      rw [h6,if_neg,Int.sub_zero]
      rw [Int.toNat_of_nonneg hjb.1]
      intro hh
      have hd:(S.take x.toNat++S.drop x.toNat).Nodup:=by rw [List.take_append_drop];exact hSn
      exact (List.nodup_append.1 hd).2.2 j hh j hj rfl
    have hcv':∀ j ∈ S,0≤c'.getD j.toNat 0∧c'.getD j.toNat 0≤5:=by
      intro j hj
      have hb:=hcv j hj
      have hj':j ∈ S.take x.toNat++S.drop x.toNat:=by rw [List.take_append_drop];exact hj
      rcases List.mem_append.1 hj' with hj' | hj'
      · have:=h3 j hj'
        rw [hin j hj'];omega
      · rw [hout j hj'];exact hb
    have hdec:bDec x.toNat (S.map fun j=>(c.getD j.toNat 0).toNat)=S.map fun j=>(c'.getD j.toNat 0).toNat :=
      bDec_map _ _ _ _ (fun j hj=>by rw [hin j hj];omega) (fun j hj=>by rw [hout j hj])
    have hcn':c'.Perm (tz (S.map fun j=>(c'.getD j.toNat 0).toNat)):=by
      refine hSc'.symm.trans (.of_eq ?_)
      rw [tz,List.map_map]
      refine List.map_congr_left fun j hj=>?_
      have:=(hcv' j hj).1
      simp only [Function.comp];omega
    have ht:bPos x.toNat (S.map fun j=>(c.getD j.toNat 0).toNat)=true :=
      hpos.2 fun j hj=>by
        have:=h3 j hj
        have:=(hcv j (List.mem_of_mem_take hj)).1
        show 0 < (c.getD j.toNat 0).toNat
        omega
    have hdc:=bDec_sum _ _ ht
    refine .inr ⟨c',t',h2,?_,hcl',fun y hy=>?_⟩
    · rw [gr_N hfx hcn',← hdec]
      by_cases hs:bSum (tn (fall (x::xs)))=bSum (S.map fun j=>(c.getD j.toNat 0).toNat)
      · rw [hchk hs,ht,Bool.true_and,decide_eq_true hs,decide_eq_true (by omega)]
      · rw [decide_eq_false hs,decide_eq_false (by omega)];rfl
    · obtain ⟨j,hj,rfl⟩:=List.mem_map.1 (hSc'.mem_iff.2 hy)
      exact hcv' j hj
theorem gr_fill {h:Nat} (h1:1≤h) (h5:h≤5):∀ (xs:List Int) (i:Nat) (c:List Int) (t:List (List Int)),xs.length≤5→(∀ y ∈ xs,0≤y∧y≤h)→c.length=h→(∀ y ∈ c,0≤y∧y≤5) →
    (fillR h xs i c t=none∧gr xs c=false) ∨ (∃ c' t',fillR h xs i c t=some (c',t')∧gr xs c=decide (c'.sum=0)∧∀ y ∈ c',0≤y∧y≤5)
  | [],i,c,t,_,_,hcl,hc=>.inr ⟨c,t,rfl,by simp [gr,gale,mapR,noneNeg,eq_comm],hc⟩
  | x::xs,i,c,t,hl,hx,hcl,hc=>by
    rcases gr_step h1 h5 i x xs c t hx hl hc hcl with ⟨e1,e2⟩ | ⟨c',t',e1,e2,e3,e4⟩
    · exact .inl ⟨by rw [fillR,e1],e2⟩
    · rw [fillR,e1,e2]
      exact gr_fill h1 h5 xs (i+1) c' t' (by simp at hl;omega) (fun y hy=>hx y (by simp [hy])) e3 e4
theorem bigr_gr (r c:List Int):bigr r c=(vMar r c && gr r c):=rfl
theorem vMar_in {r c:List Int} (h:vMar r c=true):(∀ y ∈ r,0≤y∧y≤c.length)∧(∀ y ∈ c,0≤y∧y≤r.length):=by
  simp only [vMar,inAll,Bool.and_eq_true,List.all_eq_true,decide_eq_true_eq] at h
  exact ⟨h.2.2.1,h.2.2.2⟩
theorem vMar_comm (r c:List Int):vMar r c=vMar c r:=by
  rw [Bool.eq_iff_iff]
  simp only [vMar,Bool.and_eq_true]
  constructor
  · rintro ⟨a,b,c,d⟩;exact ⟨b,a,d,c⟩
  · rintro ⟨a,b,c,d⟩;exact ⟨b,a,d,c⟩
theorem bigr_comm (r c:List Int):bigr r c=bigr c r:=by
  rw [bigr_gr,bigr_gr,vMar_comm c r]
  cases hv:vMar r c with
  | false=>rfl
  | true =>
    obtain ⟨_,_,⟨a1,a2⟩,b1,b2⟩:=vMar_few hv
    obtain ⟨hr,hc⟩:=vMar_in hv
    have e1:fall r=tz (tn (fall r)):=(tz_tn fun y hy=>(hr y (fall_mem.1 hy)).1).symm
    have e2:fall c=tz (tn (fall c)):=(tz_tn fun y hy=>(hc y (fall_mem.1 hy)).1).symm
    rw [gr_N e1 (by rw [← e2];exact (fall_perm c).symm),gr_N e2 (by rw [← e1];exact (fall_perm r).symm)]
    by_cases hs:bSum (tn (fall r))=bSum (tn (fall c))
    · rw [(bChk_ok (w:=r.length) (h:=c.length) a1 a2 b1 b2 (by simp [tn,fall_len]) (by simp [tn,fall_len]) (FalN_of _ _ (fall_desc _) fun y hy=>hr y (fall_mem.1 hy)) (FalN_of _ _ (fall_desc _) fun y hy=>by
        have:=hc y (fall_mem.1 hy);omega) hs).2,decide_eq_true hs,decide_eq_true hs.symm]
    · rw [decide_eq_false hs,decide_eq_false (fun h=>hs h.symm)];simp
theorem bigLaw2 (r c:List Int):bigr c r=bigr r c:=bigr_comm c r
theorem bigLaw1 (r c:List Int) (hv:vMar r c=true):fillB r c=bigr r c:=by
  obtain ⟨_,_,⟨a1,a2⟩,b1,b2⟩:=vMar_few hv
  obtain ⟨hr,hc⟩:=vMar_in hv
  rw [bigr_gr,hv,Bool.true_and,fillB]
  rcases gr_fill b1 b2 r 0 c (zeroT r.length c.length) a2 hr rfl (fun y hy=>by have:=hc y hy;omega) with ⟨e1,e2⟩ | ⟨c',t',e1,e2,e3⟩
  · rw [e1,e2]
  · rw [e1,e2]
    have h0:0≤c'.sum:=by
      clear e1 e2
      induction c' with
      | nil=>simp
      | cons y r ih=>rw [List.sum_cons];have:=e3 y (by simp);have:=ih fun z hz=>e3 z (by simp [hz]);omega
    simp only [decide_eq_decide]
    omega
end Go.Idl
namespace Go.Idl
open Go
def MM (h w:Nat) (t:List (List Int)):Prop:=t.length=h∧∀ r ∈ t,r.length=w∧∀ x ∈ r,0≤x∧x≤1
theorem am_in (code:List Int) (c:Bool) (hc:CodeOk code) (h w:Nat) (hw:w≤5) (bs:Boxes) (Ms:List Boxes) (t:List (List Int)) (i:Nat) :
    ∀ (m j cnt:Nat) (r:List Int),j+m=w→cnt+m≤90000→r.length=j→(∀ x ∈ r,0≤x∧x≤1) →
    wp tb (.loop z331l9) { T:=[(0,.bptr 0 0 0),(1,I h),(2,I w),(7,OT t),(8,I i),(9,O r),(10,I j)],loc:=[],M:=(R code c cnt::bs)::Ms }
      (fun ex st=>ex=.exit 2∧∃ (r':List Int) (k:Nat),(r'.length=w∧∀ x ∈ r',0≤x∧x≤1)∧k≤cnt+m ∧
        st={ T:=[(0,.bptr 0 0 0),(1,I h),(2,I w),(7,OT t),(8,I i),(9,O r'),(10,I w),(20,Bo false)],loc:=[],M:=(R code c k::bs)::Ms }):=by
  intro m
  induction m with
  | zero =>
    intro j cnt r hj hcn hr h01
    have h3:j=w:=hj
    subst h3
    refine wp_loop ?_
    repeat (first|refine wp_as ?_|refine wp_ss ?_|refine wr (by simp;with_reducible rfl) ?_|refine wq (by simp;with_reducible rfl) ?_|refine wt (by simpa) ?_|refine wf (by simpa) ?_|refine xt (by simpa) ?_|refine xf (by simpa) ?_|refine wp_bs ?_|refine wp_b ?_|refine wp_sr ?_|refine wp_sx ?_|refine wp_ret' ?_|refine wp_skip' ?_|refine wp_exit' ?_)
    exact ⟨rfl,r,cnt,⟨hr,h01⟩,by omega,rfl⟩
  | succ m ih =>
    intro j cnt r hj hcn hr h01
    have hjw:j < w:=by omega
    have w2:IntKind.i64.wrap ((j:Int)+1)=((j+1:Nat):Int):=wrapS (by omega)
    obtain ⟨v,k,hv,hk,e1⟩:=pick' code c hc cnt (by omega) 2 (by omega) bs (Ms++[[]])
    have hv:=hv (by omega)
    have hrl:r.length≤274877906943:=by omega
    have hrt:r.take r.length=r:=List.take_of_length_le (by omega)
    refine wp_loop ?_
    repeat (first|refine wp_as ?_|refine wp_ss ?_|refine wr (by simp [hjw,e1,w2,hrl,hrt];with_reducible rfl) ?_|refine wq (by simp [hjw,e1,w2,hrl,hrt];with_reducible rfl) ?_|refine wt (by simpa [hjw,e1,w2,hrl,hrt]) ?_|refine wf (by simpa [hjw,e1,w2,hrl,hrt]) ?_|refine xt (by simpa [hjw,e1,w2,hrl,hrt]) ?_|refine xf (by simpa [hjw,e1,w2,hrl,hrt]) ?_|refine wp_bs ?_|refine wp_b ?_|refine wp_sr ?_|refine wp_sx ?_|refine wp_ret' ?_|refine wp_skip' ?_|refine wp_exit' ?_)
    refine wp_imp (ih (j+1) k (r++[(v:Int)]) (by omega) (by omega) (by simp [hr]) (fun x hx=>?_)) ?_
    · rcases List.mem_append.1 hx with hx | hx
      · exact h01 x hx
      · simp at hx;omega
    · rintro ex st ⟨rfl,r',k',h1,h2,rfl⟩
      exact ⟨rfl,r',k',h1,by omega,rfl⟩
theorem am_out (code:List Int) (c:Bool) (hc:CodeOk code) (h w:Nat) (hh:h≤5) (hw:w≤5) (bs:Boxes) (Ms:List Boxes) :
    ∀ (m i cnt:Nat) (t:List (List Int)),i+m=h→cnt+5 * m≤90000→MM i w t →
    wp tb (.loop z331l12) { T:=[(0,.bptr 0 0 0),(1,I h),(2,I w),(7,OT t),(8,I i)],loc:=[],M:=(R code c cnt::bs)::Ms }
      (fun ex st=>ex=.exit 0∧∃ (t':List (List Int)) (k:Nat),MM h w t'∧k≤cnt+5 * m ∧
        st={ T:=[(0,.bptr 0 0 0),(1,I h),(2,I w),(7,OT t'),(8,I h),(14,Bo false)],loc:=[],M:=(R code c k::bs)::Ms }):=by
  intro m
  induction m with
  | zero =>
    intro i cnt t hi hcn ht
    have h3:i=h:=hi
    subst h3
    refine wp_loop ?_
    repeat (first|refine wp_as ?_|refine wp_ss ?_|refine wr (by simp;with_reducible rfl) ?_|refine wq (by simp;with_reducible rfl) ?_|refine wt (by simpa) ?_|refine wf (by simpa) ?_|refine xt (by simpa) ?_|refine xf (by simpa) ?_|refine wp_bs ?_|refine wp_b ?_|refine wp_sr ?_|refine wp_sx ?_|refine wp_ret' ?_|refine wp_skip' ?_|refine wp_exit' ?_)
    exact ⟨rfl,t,cnt,ht,by omega,rfl⟩
  | succ m ih =>
    intro i cnt t hi hcn ht
    have hih:i < h:=by omega
    have w2:IntKind.i64.wrap ((i:Int)+1)=((i+1:Nat):Int):=wrapS (by omega)
    refine wp_loop ?_
    repeat (first|refine wp_as ?_|refine wp_ss ?_|refine wr (by simp [hih];with_reducible rfl) ?_|refine wq (by simp [hih];with_reducible rfl) ?_|refine wt (by simpa [hih]) ?_|refine wf (by simpa [hih]) ?_|refine xt (by simpa [hih]) ?_|refine xf (by simpa [hih]) ?_|refine wp_bs ?_|refine wp_b ?_|refine wp_sr ?_|refine wp_sx ?_|refine wp_ret' ?_|refine wp_skip' ?_|refine wp_exit' ?_)
    have hin:=am_in code c hc h w hw bs Ms t i w 0 cnt [] (by omega) (by omega) rfl (by simp)
    rw [show ((0:Nat):Int)=0 from rfl] at hin
    refine wp_imp hin ?_
    rintro ex st ⟨rfl,r',k',h1,h2,rfl⟩
    simp only [if_true]
    have htl:=ht.1
    have htt:t.length≤274877906943:=by omega
    have hto:t.take t.length=t:=List.take_of_length_le (by omega)
    repeat (first|refine wp_as ?_|refine wp_ss ?_|refine wr (by simp [w2,htt,hto];with_reducible rfl) ?_|refine wq (by simp [w2,htt,hto];with_reducible rfl) ?_|refine wt (by simpa [w2,htt,hto]) ?_|refine wf (by simpa [w2,htt,hto]) ?_|refine xt (by simpa [w2,htt,hto]) ?_|refine xf (by simpa [w2,htt,hto]) ?_|refine wp_bs ?_|refine wp_b ?_|refine wp_sr ?_|refine wp_sx ?_|refine wp_ret' ?_|refine wp_skip' ?_|refine wp_exit' ?_)
    refine wp_imp (ih (i+1) k' (t++[r']) (by omega) (by omega) ⟨by simp [htl],fun r hr=>?_⟩) ?_
    · rcases List.mem_append.1 hr with hr | hr
      · exact ht.2 r hr
      · simp at hr;subst hr;exact h1
    · rintro ex st ⟨rfl,t'',k'',h3,h4,rfl⟩
      exact ⟨rfl,t'',k'',h3,by omega,rfl⟩
theorem ev_aMatrix (code:List Int) (c:Bool) (hc:CodeOk code) (cnt:Nat) (hn:cnt≤80000) (h w:Nat) (hh:h≤5) (hw:w≤5) (bs:Boxes) (Ms:List Boxes) :
    ∃ (t:List (List Int)) (k:Nat),MM h w t∧k≤cnt+25 ∧
      limF tb zl331 [] [.bptr 0 0 0,I h,I w] ((R code c cnt::bs)::Ms)=some ⟨OT t,[],(R code c k::bs)::Ms,[]⟩:=by
  suffices h:∃ r,(∃ (t:List (List Int)) (k:Nat),MM h w t∧k≤cnt+25∧r=⟨OT t,[],(R code c k::bs)::Ms,[]⟩)∧Ev tb zl331 [] [.bptr 0 0 0,I h,I w] ((R code c cnt::bs)::Ms) r by
    obtain ⟨r,⟨t,k,h1,h2,rfl⟩,h⟩:=h
    exact ⟨t,k,h1,h2,ev_lim h⟩
  refine call_ex zt331 rfl ?_
  repeat (first|refine wp_as ?_|refine wp_ss ?_|refine wr (by simp;with_reducible rfl) ?_|refine wq (by simp;with_reducible rfl) ?_|refine wt (by simpa) ?_|refine wf (by simpa) ?_|refine xt (by simpa) ?_|refine xf (by simpa) ?_|refine wp_bs ?_|refine wp_b ?_|refine wp_sr ?_|refine wp_sx ?_|refine wp_ret' ?_|refine wp_skip' ?_|refine wp_exit' ?_)
  have hin:=am_out code c hc h w hh hw bs Ms h 0 cnt [] (by omega) (by omega) ⟨rfl,by simp⟩
  rw [show ((0:Nat):Int)=0 from rfl] at hin
  refine wp_imp hin ?_
  rintro ex st ⟨rfl,t',k',h1,h2,rfl⟩
  simp only [if_true]
  repeat (first|refine wp_as ?_|refine wp_ss ?_|refine wr (by simp;with_reducible rfl) ?_|refine wq (by simp;with_reducible rfl) ?_|refine wt (by simpa) ?_|refine wf (by simpa) ?_|refine xt (by simpa) ?_|refine xf (by simpa) ?_|refine wp_bs ?_|refine wp_b ?_|refine wp_sr ?_|refine wp_sx ?_|refine wp_ret' ?_|refine wp_skip' ?_|refine wp_exit' ?_)
  exact ⟨.inr rfl,_,⟨t',k',h1,by omega,rfl⟩,by simp [zi331]⟩
theorem ev_rowSums (t:List (List Int)) (c:Bool) (hl:t.length≤1000) (h:∀ r ∈ t,Few r) :
    Ev tb zl371 [] [TL t c] [] ⟨O (t.map List.sum),[],[],[]⟩:=by
  have loop:∀ (m i:Nat),i+m=t.length→wp tb (.loop z371l6) { T:=[(0,TL t c),(3,O ((t.take i).map List.sum)),(4,I i)],loc:=[],M:=[] }
      (fun ex st=>ex=.exit 0∧st={ T:=[(0,TL t c),(3,O (t.map List.sum)),(4,I t.length),(9,Bo false)],loc:=[],M:=[] }):=by
    intro m
    induction m with
    | zero =>
      intro i hi
      have h3:i=t.length:=hi
      subst h3
      refine wp_loop ?_
      repeat (first|refine wp_as ?_|refine wp_ss ?_|refine wr (by simp;with_reducible rfl) ?_|refine wq (by simp;with_reducible rfl) ?_|refine wt (by simpa) ?_|refine wf (by simpa) ?_|refine xt (by simpa) ?_|refine xf (by simpa) ?_|refine wp_bs ?_|refine wp_b ?_|refine wp_sr ?_|refine wp_sx ?_|refine wp_ret' ?_|refine wp_skip' ?_|refine wp_exit' ?_)
      exact ⟨rfl,by simp⟩
    | succ m ih =>
      intro i hi
      have hi2:i < t.length:=by omega
      have w2:IntKind.i64.wrap ((i:Int)+1)=((i+1:Nat):Int):=wrapS (by omega)
      have e1:=ev_lim (ev_spec_sum t[i] false (h _ (List.getElem_mem hi2)).small)
      have hs:(t.take (i+1)).map List.sum=(t.take i).map List.sum++[t[i].sum]:=by
        rw [List.take_succ_eq_append_getElem hi2,List.map_append];rfl
      have hg:=ih (i+1) (by omega)
      have hlt:((t.take i).map List.sum).length≤274877906943:=by simp;omega
      rw [hs] at hg
      generalize (t.take i).map List.sum=o at *
      have hot:o.take o.length=o:=List.take_of_length_le (by omega)
      refine wp_loop ?_
      repeat (first|refine wp_as ?_|refine wp_ss ?_|refine wr (by simp [hi2,e1,hlt,w2,hot];with_reducible rfl) ?_|refine wq (by simp [hi2,e1,hlt,w2,hot];with_reducible rfl) ?_|refine wt (by simpa [hi2,e1,hlt,w2,hot]) ?_|refine wf (by simpa [hi2,e1,hlt,w2,hot]) ?_|refine xt (by simpa [hi2,e1,hlt,w2,hot]) ?_|refine xf (by simpa [hi2,e1,hlt,w2,hot]) ?_|refine wp_bs ?_|refine wp_b ?_|refine wp_sr ?_|refine wp_sx ?_|refine wp_ret' ?_|refine wp_skip' ?_|refine wp_exit' ?_)
      exact hg
  refine call_of_wp zt371 rfl ?_
  repeat (first|refine wp_as ?_|refine wp_ss ?_|refine wr (by simp;with_reducible rfl) ?_|refine wq (by simp;with_reducible rfl) ?_|refine wt (by simpa) ?_|refine wf (by simpa) ?_|refine xt (by simpa) ?_|refine xf (by simpa) ?_|refine wp_bs ?_|refine wp_b ?_|refine wp_sr ?_|refine wp_sx ?_|refine wp_ret' ?_|refine wp_skip' ?_|refine wp_exit' ?_)
  have:=loop t.length 0 (by omega)
  simp at this
  refine wp_imp this ?_
  rintro ex st ⟨rfl,rfl⟩
  simp only [if_true]
  repeat (first|refine wp_as ?_|refine wp_ss ?_|refine wr (by simp;with_reducible rfl) ?_|refine wq (by simp;with_reducible rfl) ?_|refine wt (by simpa) ?_|refine wf (by simpa) ?_|refine xt (by simpa) ?_|refine xf (by simpa) ?_|refine wp_bs ?_|refine wp_b ?_|refine wp_sr ?_|refine wp_sx ?_|refine wp_ret' ?_|refine wp_skip' ?_|refine wp_exit' ?_)
  simp [zi371]
  rw [List.take_of_length_le (by simp)]
end Go.Idl
namespace Go.Idl
open Go
theorem tr_in (h w:Nat) (t:List (List Int)) (c:Bool) (ht:MM h w t) (hh:h≤5) (u:List (List Int)) (k:Nat) (hk:k < w) :
    ∀ (m i:Nat),i+m=h →
    wp tb (.loop z385l9) { T:=[(0,TL t c),(3,OT u),(4,I k),(5,O (mapR i fun i=>g2 t i k)),(6,I i)],loc:=[],M:=[] }
      (fun ex st=>ex=.exit 2∧st={ T:=[(0,TL t c),(3,OT u),(4,I k),(5,O (mapR h fun i=>g2 t i k)),(6,I h),(20,Bo false)],loc:=[],M:=[] }):=by
  intro m
  induction m with
  | zero =>
    intro i hi
    have h3:i=h:=hi
    subst h3
    have hl:=ht.1
    refine wp_loop ?_
    repeat (first|refine wp_as ?_|refine wp_ss ?_|refine wr (by simp [hl];with_reducible rfl) ?_|refine wq (by simp [hl];with_reducible rfl) ?_|refine wt (by simpa [hl]) ?_|refine wf (by simpa [hl]) ?_|refine xt (by simpa [hl]) ?_|refine xf (by simpa [hl]) ?_|refine wp_bs ?_|refine wp_b ?_|refine wp_sr ?_|refine wp_sx ?_|refine wp_ret' ?_|refine wp_skip' ?_|refine wp_exit' ?_)
    exact ⟨rfl,rfl⟩
  | succ m ih =>
    intro i hi
    have hih:i < h:=by omega
    have hl:=ht.1
    have hit:i < t.length:=by omega
    have hkr:k < t[i].length:=by have:=(ht.2 _ (List.getElem_mem hit)).1;omega
    have w2:IntKind.i64.wrap ((i:Int)+1)=((i+1:Nat):Int):=wrapS (by omega)
    have hm:(mapR (i+1) fun i=>g2 t i k)=(mapR i fun i=>g2 t i k)++[t[i][k]]:=by simp [mapR,List.range_succ,g2_eq hit hkr]
    have hg:=ih (i+1) (by omega)
    rw [hm] at hg
    have hlt:(mapR i fun i=>g2 t i k).length≤274877906943:=by simp [mapR];omega
    generalize (mapR i fun i=>g2 t i k)=o at *
    have hot:o.take o.length=o:=List.take_of_length_le (by omega)
    refine wp_loop ?_
    repeat (first|refine wp_as ?_|refine wp_ss ?_|refine wr (by simp [hih,hit,hl,hkr,w2,hlt,hot];with_reducible rfl) ?_|refine wq (by simp [hih,hit,hl,hkr,w2,hlt,hot];with_reducible rfl) ?_|refine wt (by simpa [hih,hit,hl,hkr,w2,hlt,hot]) ?_|refine wf (by simpa [hih,hit,hl,hkr,w2,hlt,hot]) ?_|refine xt (by simpa [hih,hit,hl,hkr,w2,hlt,hot]) ?_|refine xf (by simpa [hih,hit,hl,hkr,w2,hlt,hot]) ?_|refine wp_bs ?_|refine wp_b ?_|refine wp_sr ?_|refine wp_sx ?_|refine wp_ret' ?_|refine wp_skip' ?_|refine wp_exit' ?_)
    exact hg
theorem ev_transpose (h w:Nat) (t:List (List Int)) (c:Bool) (ht:MM h w t) (h0:0 < h) (hh:h≤5) (hw:w≤5) :
    ∃ u,MM w h u∧limF tb zl385 [] [TL t c] []=some ⟨OT u,[],[],[]⟩:=by
  have hl:=ht.1
  have h0t:0 < t.length:=by omega
  have hr0:=(ht.2 _ (List.getElem_mem h0t)).1
  have loop:∀ (m k:Nat),k+m=w→wp tb (.loop z385l12) { T:=[(0,TL t c),(3,OT (tabF k h fun k i=>g2 t i k)),(4,I k)],loc:=[],M:=[] }
      (fun ex st=>ex=.exit 0∧st={ T:=[(0,TL t c),(3,OT (tabF w h fun k i=>g2 t i k)),(4,I w),(13,Bo false)],loc:=[],M:=[] }):=by
    intro m
    induction m with
    | zero =>
      intro k hk
      have h3:k=w:=hk
      subst h3
      refine wp_loop ?_
      repeat (first|refine wp_as ?_|refine wp_ss ?_|refine wr (by simp [h0,h0t,hr0];with_reducible rfl) ?_|refine wq (by simp [h0,h0t,hr0];with_reducible rfl) ?_|refine wt (by simpa [h0,h0t,hr0]) ?_|refine wf (by simpa [h0,h0t,hr0]) ?_|refine xt (by simpa [h0,h0t,hr0]) ?_|refine xf (by simpa [h0,h0t,hr0]) ?_|refine wp_bs ?_|refine wp_b ?_|refine wp_sr ?_|refine wp_sx ?_|refine wp_ret' ?_|refine wp_skip' ?_|refine wp_exit' ?_)
      exact ⟨rfl,rfl⟩
    | succ m ih =>
      intro k hk
      have hkw:k < w:=by omega
      have w2:IntKind.i64.wrap ((k:Int)+1)=((k+1:Nat):Int):=wrapS (by omega)
      have hm:(tabF (k+1) h fun k i=>g2 t i k)=(tabF k h fun k i=>g2 t i k)++[mapR h fun i=>g2 t i k]:=by simp [tabF,List.range_succ]
      have hg:=ih (k+1) (by omega)
      rw [hm] at hg
      have hlt:(tabF k h fun k i=>g2 t i k).length≤274877906943:=by simp [tabF];omega
      generalize (tabF k h fun k i=>g2 t i k)=o at *
      have hot:o.take o.length=o:=List.take_of_length_le (by omega)
      have hin:=tr_in h w t c ht hh o k hkw h 0 (by omega)
      rw [show (mapR 0 fun i=>g2 t i k)=[] from rfl] at hin
      have hql:(mapR h fun i=>g2 t i k).length=h:=by simp [mapR]
      have hrt:(mapR h fun i=>g2 t i k).take h=mapR h fun i=>g2 t i k:=List.take_of_length_le (by omega)
      generalize (mapR h fun i=>g2 t i k)=q at *
      rw [show ((0:Nat):Int)=0 from rfl] at hin
      refine wp_loop ?_
      repeat (first|refine wp_as ?_|refine wp_ss ?_|refine wr (by simp [h0,h0t,hr0,hkw];with_reducible rfl) ?_|refine wq (by simp [h0,h0t,hr0,hkw];with_reducible rfl) ?_|refine wt (by simpa [h0,h0t,hr0,hkw]) ?_|refine wf (by simpa [h0,h0t,hr0,hkw]) ?_|refine xt (by simpa [h0,h0t,hr0,hkw]) ?_|refine xf (by simpa [h0,h0t,hr0,hkw]) ?_|refine wp_bs ?_|refine wp_b ?_|refine wp_sr ?_|refine wp_sx ?_|refine wp_ret' ?_|refine wp_skip' ?_|refine wp_exit' ?_)
      refine wp_imp hin ?_
      rintro ex st ⟨rfl,rfl⟩
      simp only [if_true]
      repeat (first|refine wp_as ?_|refine wp_ss ?_|refine wr (by simp [w2,hlt,hot,hql,hrt];with_reducible rfl) ?_|refine wq (by simp [w2,hlt,hot,hql,hrt];with_reducible rfl) ?_|refine wt (by simpa [w2,hlt,hot,hql,hrt]) ?_|refine wf (by simpa [w2,hlt,hot,hql,hrt]) ?_|refine xt (by simpa [w2,hlt,hot,hql,hrt]) ?_|refine xf (by simpa [w2,hlt,hot,hql,hrt]) ?_|refine wp_bs ?_|refine wp_b ?_|refine wp_sr ?_|refine wp_sx ?_|refine wp_ret' ?_|refine wp_skip' ?_|refine wp_exit' ?_)
      exact hg
  refine ⟨tabF w h fun k i=>g2 t i k,⟨by simp [tabF],fun r hr=>?_⟩,ev_lim ?_⟩
  · simp only [tabF,List.mem_map,List.mem_range] at hr
    obtain ⟨k,hk,rfl⟩:=hr
    refine ⟨by simp [mapR],fun x hx=>?_⟩
    simp only [mapR,List.mem_map,List.mem_range] at hx
    obtain ⟨i,hi,rfl⟩:=hx
    have hit:i < t.length:=by omega
    have hri:=ht.2 _ (List.getElem_mem hit)
    have hkr:k < t[i].length:=by omega
    rw [g2_eq hit hkr]
    exact hri.2 _ (List.getElem_mem hkr)
  · refine call_of_wp zt385 rfl ?_
    repeat (first|refine wp_as ?_|refine wp_ss ?_|refine wr (by simp;with_reducible rfl) ?_|refine wq (by simp;with_reducible rfl) ?_|refine wt (by simpa) ?_|refine wf (by simpa) ?_|refine xt (by simpa) ?_|refine xf (by simpa) ?_|refine wp_bs ?_|refine wp_b ?_|refine wp_sr ?_|refine wp_sx ?_|refine wp_ret' ?_|refine wp_skip' ?_|refine wp_exit' ?_)
    have:=loop w 0 (by omega)
    simp only [tabF,List.range_zero,List.map_nil] at this
    rw [show ((0:Nat):Int)=0 from rfl] at this
    refine wp_imp this ?_
    rintro ex st ⟨rfl,rfl⟩
    simp only [if_true]
    repeat (first|refine wp_as ?_|refine wp_ss ?_|refine wr (by simp;with_reducible rfl) ?_|refine wq (by simp;with_reducible rfl) ?_|refine wt (by simpa) ?_|refine wf (by simpa) ?_|refine xt (by simpa) ?_|refine xf (by simpa) ?_|refine wp_bs ?_|refine wp_b ?_|refine wp_sr ?_|refine wp_sx ?_|refine wp_ret' ?_|refine wp_skip' ?_|refine wp_exit' ?_)
    simp [zi385,tabF]
    rw [List.take_of_length_le (by simp)]
end Go.Idl
namespace Go.Idl
open Go
theorem MM.few {h w:Nat} {t:List (List Int)} (ht:MM h w t) (hw:w≤5):∀ r ∈ t,Few r:=fun r hr=>⟨by have:=(ht.2 r hr).1;omega,fun x hx=>by have:=(ht.2 r hr).2 x hx;omega⟩
theorem MM.sums {h w:Nat} {t:List (List Int)} (ht:MM h w t) (hw:w≤5):∀ x ∈ t.map List.sum,0≤x∧x≤5:=by
  intro x hx
  obtain ⟨r,hr,rfl⟩:=List.mem_map.1 hx
  have h1:=ht.2 r hr
  have:=sum01 r h1.2
  omega
set_option maxHeartbeats 4000000 in
theorem ev_margins (code:List Int) (c:Bool) (hc:CodeOk code) (cnt:Nat) (hn:cnt≤50000) (bs:Boxes) (Ms:List Boxes) :
    ∃ (a b:List Int) (k:Nat),a.length≤5∧b.length≤10 ∧
      limF tb zl361 [] [.bptr 0 0 0,I 5] ((R code c cnt::bs)::Ms)=some ⟨.tup [O a,O b],[],(R code c k::bs)::Ms,[]⟩:=by
  suffices h:∃ r,(∃ (a b:List Int) (k:Nat),a.length≤5∧b.length≤10∧r=⟨.tup [O a,O b],[],(R code c k::bs)::Ms,[]⟩)∧Ev tb zl361 [] [.bptr 0 0 0,I 5] ((R code c cnt::bs)::Ms) r by
    obtain ⟨r,⟨a,b,k,h1,h2,rfl⟩,h⟩:=h
    exact ⟨a,b,k,h1,h2,ev_lim h⟩
  refine call_ex zt361 rfl ?_
  obtain ⟨v1,k1,hv1,hk1,p1⟩:=pick' code c hc cnt (by omega) 5 (by omega) bs (Ms++[[]])
  obtain ⟨v2,k2,hv2,hk2,p2⟩:=pick' code c hc k1 (by omega) 5 (by omega) bs (Ms++[[]])
  have hv1:=hv1 (by omega)
  have hv2:=hv2 (by omega)
  obtain ⟨h,hh⟩:∃ h,h=1+v1:=⟨_,rfl⟩
  obtain ⟨w,hw⟩:∃ w,w=1+v2:=⟨_,rfl⟩
  have w1:IntKind.i64.wrap (1+(v1:Int))=(h:Int):=by rw [wrap64 (by omega) (by omega)];omega
  have w2:IntKind.i64.wrap (1+(v2:Int))=(w:Int):=by rw [wrap64 (by omega) (by omega)];omega
  obtain ⟨t,k3,ht,hk3,p3⟩:=ev_aMatrix code c hc k2 (by omega) h w (by omega) (by omega) bs (Ms++[[]])
  have e1:=ev_lim (ev_rowSums t false (by have:=ht.1;omega) (ht.few (by omega)))
  obtain ⟨u,hu,e2⟩:=ev_transpose h w t false ht (by omega) (by omega) (by omega)
  have e3:=ev_lim (ev_rowSums u false (by have:=hu.1;omega) (hu.few (by omega)))
  have sa:=ht.sums (by omega)
  have sb:=hu.sums (by omega)
  have la:(t.map List.sum).length=h:=by simp [ht.1]
  have lb:(u.map List.sum).length=w:=by simp [hu.1]
  have hto:t.take t.length=t:=List.take_of_length_le (by omega)
  obtain ⟨v3,k4,hv3,hk4,p4⟩:=pick' code c hc k3 (by omega) 3 (by omega) bs (Ms++[[]])
  generalize t.map List.sum=a at *
  generalize u.map List.sum=b at *
  have fin1:∀ (z:IV) (a b:List Int) (k:Nat),k≤60000→0 < a.length→a.length≤5→b.length≤5 →
      wp tb (.seq z361r9 (.seq (.block 0 (.seq z361r10 (.cond (.t 68) z361r11 (.seq z361r12 (.cond (.t 75) z361r13 .skip))))) (.seq z361r14 .ret)))
        { T:=(0,.bptr 0 0 0)::(7,O a)::(8,O b)::[],loc:=[],M:=(R code c k::bs)::Ms }
        (fun ex st=>(ex=.normal ∨ ex=.ret)∧∃ r,(∃ (a b:List Int) (k:Nat),a.length≤5∧b.length≤10∧r=⟨.tup [O a,O b],[],(R code c k::bs)::Ms,[]⟩)∧finish zi361 [] st=some r):=by
    intro z a b k hk ha hal hbl
    obtain ⟨v,k5,hv,hk5,q1⟩:=pick' code c hc k (by omega) 30 (by omega) bs (Ms++[[]])
    have hat:a.take a.length=a:=List.take_of_length_le (by omega)
    have hbt:b.take b.length=b:=List.take_of_length_le (by omega)
    by_cases v0:v=0
    · subst v0
      rw [show ((0:Nat):Int)=0 from rfl] at q1
      obtain ⟨x,k6,hx,hk6,q2⟩:=one2 code c hc k5 (by omega) [-1,6] (by simp) bs (Ms++[[]])
      repeat (first|refine wp_as ?_|refine wp_ss ?_|refine wr (by simp [q1,q2,ha];with_reducible rfl) ?_|refine wq (by simp [q1,q2,ha];with_reducible rfl) ?_|refine wt (by simpa [q1,q2,ha]) ?_|refine wf (by simpa [q1,q2,ha]) ?_|refine xt (by simpa [q1,q2,ha]) ?_|refine xf (by simpa [q1,q2,ha]) ?_|refine wp_bs ?_|refine wp_b ?_|refine wp_sr ?_|refine wp_sx ?_|refine wp_ret' ?_|refine wp_skip' ?_|refine wp_exit' ?_)
      exact ⟨.inr rfl,_,⟨a.set 0 x,b,k6,by simpa using hal,by omega,rfl⟩,by simp [zi361,hat,hbt];rw [List.take_of_length_le (by simp)]⟩
    by_cases v1:v=1
    · subst v1
      rw [show ((1:Nat):Int)=1 from rfl] at q1
      repeat (first|refine wp_as ?_|refine wp_ss ?_|refine wr (by simp [q1,hbt,show b.length≤274877906939 by omega];with_reducible rfl) ?_|refine wq (by simp [q1,hbt,show b.length≤274877906939 by omega];with_reducible rfl) ?_|refine wt (by simpa [q1,hbt,show b.length≤274877906939 by omega]) ?_|refine wf (by simpa [q1,hbt,show b.length≤274877906939 by omega]) ?_|refine xt (by simpa [q1,hbt,show b.length≤274877906939 by omega]) ?_|refine xf (by simpa [q1,hbt,show b.length≤274877906939 by omega]) ?_|refine wp_bs ?_|refine wp_b ?_|refine wp_sr ?_|refine wp_sx ?_|refine wp_ret' ?_|refine wp_skip' ?_|refine wp_exit' ?_)
      exact ⟨.inr rfl,_,⟨a,b++[0,0,0,0,0],k5,by omega,by simp;omega,rfl⟩,by simp [zi361,hat,hbt];rw [List.take_of_length_le (by simp)]⟩
    have v1':¬ (v:Int)=1:=by omega
    repeat (first|refine wp_as ?_|refine wp_ss ?_|refine wr (by simp [q1,v0,v1'];with_reducible rfl) ?_|refine wq (by simp [q1,v0,v1'];with_reducible rfl) ?_|refine wt (by simpa [q1,v0,v1']) ?_|refine wf (by simpa [q1,v0,v1']) ?_|refine xt (by simpa [q1,v0,v1']) ?_|refine xf (by simpa [q1,v0,v1']) ?_|refine wp_bs ?_|refine wp_b ?_|refine wp_sr ?_|refine wp_sx ?_|refine wp_ret' ?_|refine wp_skip' ?_|refine wp_exit' ?_)
    exact ⟨.inr rfl,_,⟨a,b,k5,by omega,by omega,rfl⟩,by simp [zi361,hat,hbt]⟩
  have fin2:∀ (z:IV) (a b:List Int) (k:Nat),k≤60000→0 < a.length→a.length≤5→b.length≤5 →
      wp tb (.seq z361r9 (.seq (.block 0 (.seq z361r10 (.cond (.t 68) z361r11 (.seq z361r12 (.cond (.t 75) z361r13 .skip))))) (.seq z361r14 .ret)))
        { T:=(0,.bptr 0 0 0)::(7,O a)::(8,O b)::[(27,z)],loc:=[],M:=(R code c k::bs)::Ms }
        (fun ex st=>(ex=.normal ∨ ex=.ret)∧∃ r,(∃ (a b:List Int) (k:Nat),a.length≤5∧b.length≤10∧r=⟨.tup [O a,O b],[],(R code c k::bs)::Ms,[]⟩)∧finish zi361 [] st=some r):=by
    intro z a b k hk ha hal hbl
    obtain ⟨v,k5,hv,hk5,q1⟩:=pick' code c hc k (by omega) 30 (by omega) bs (Ms++[[]])
    have hat:a.take a.length=a:=List.take_of_length_le (by omega)
    have hbt:b.take b.length=b:=List.take_of_length_le (by omega)
    by_cases v0:v=0
    · subst v0
      rw [show ((0:Nat):Int)=0 from rfl] at q1
      obtain ⟨x,k6,hx,hk6,q2⟩:=one2 code c hc k5 (by omega) [-1,6] (by simp) bs (Ms++[[]])
      repeat (first|refine wp_as ?_|refine wp_ss ?_|refine wr (by simp [q1,q2,ha];with_reducible rfl) ?_|refine wq (by simp [q1,q2,ha];with_reducible rfl) ?_|refine wt (by simpa [q1,q2,ha]) ?_|refine wf (by simpa [q1,q2,ha]) ?_|refine xt (by simpa [q1,q2,ha]) ?_|refine xf (by simpa [q1,q2,ha]) ?_|refine wp_bs ?_|refine wp_b ?_|refine wp_sr ?_|refine wp_sx ?_|refine wp_ret' ?_|refine wp_skip' ?_|refine wp_exit' ?_)
      exact ⟨.inr rfl,_,⟨a.set 0 x,b,k6,by simpa using hal,by omega,rfl⟩,by simp [zi361,hat,hbt];rw [List.take_of_length_le (by simp)]⟩
    by_cases v1:v=1
    · subst v1
      rw [show ((1:Nat):Int)=1 from rfl] at q1
      repeat (first|refine wp_as ?_|refine wp_ss ?_|refine wr (by simp [q1,hbt,show b.length≤274877906939 by omega];with_reducible rfl) ?_|refine wq (by simp [q1,hbt,show b.length≤274877906939 by omega];with_reducible rfl) ?_|refine wt (by simpa [q1,hbt,show b.length≤274877906939 by omega]) ?_|refine wf (by simpa [q1,hbt,show b.length≤274877906939 by omega]) ?_|refine xt (by simpa [q1,hbt,show b.length≤274877906939 by omega]) ?_|refine xf (by simpa [q1,hbt,show b.length≤274877906939 by omega]) ?_|refine wp_bs ?_|refine wp_b ?_|refine wp_sr ?_|refine wp_sx ?_|refine wp_ret' ?_|refine wp_skip' ?_|refine wp_exit' ?_)
      exact ⟨.inr rfl,_,⟨a,b++[0,0,0,0,0],k5,by omega,by simp;omega,rfl⟩,by simp [zi361,hat,hbt];rw [List.take_of_length_le (by simp)]⟩
    have v1':¬ (v:Int)=1:=by omega
    repeat (first|refine wp_as ?_|refine wp_ss ?_|refine wr (by simp [q1,v0,v1'];with_reducible rfl) ?_|refine wq (by simp [q1,v0,v1'];with_reducible rfl) ?_|refine wt (by simpa [q1,v0,v1']) ?_|refine wf (by simpa [q1,v0,v1']) ?_|refine xt (by simpa [q1,v0,v1']) ?_|refine xf (by simpa [q1,v0,v1']) ?_|refine wp_bs ?_|refine wp_b ?_|refine wp_sr ?_|refine wp_sx ?_|refine wp_ret' ?_|refine wp_skip' ?_|refine wp_exit' ?_)
    exact ⟨.inr rfl,_,⟨a,b,k5,by omega,by omega,rfl⟩,by simp [zi361,hat,hbt]⟩
  by_cases v30:v3=0
  rotate_left
  · repeat (first | refine wp_as ?_ | refine wp_ss ?_ | refine wr (by simp [p1,p2,w1,w2,p3,hto,e1,e2,e3,p4,v30];with_reducible rfl) ?_ | refine wq (by simp [p1,p2,w1,w2,p3,hto,e1,e2,e3,p4,v30];with_reducible rfl) ?_ | refine wt (by simpa [p1,p2,w1,w2,p3,hto,e1,e2,e3,p4,v30]) ?_ | refine wf (by simpa [p1,p2,w1,w2,p3,hto,e1,e2,e3,p4,v30]) ?_ | refine xt (by simpa [p1,p2,w1,w2,p3,hto,e1,e2,e3,p4,v30]) ?_ | refine xf (by simpa [p1,p2,w1,w2,p3,hto,e1,e2,e3,p4,v30]) ?_ | refine wp_bs ?_ | refine wp_b ?_ | refine wp_sr ?_ | refine wp_sx ?_ | refine wp_ret' ?_ | refine wp_skip' ?_ | refine wp_exit' ?_)
    exact fin2 _ a b k4 (by omega) (by omega) (by omega) (by omega)
  subst v30
  rw [show ((0:Nat):Int)=0 from rfl] at p4
  obtain ⟨v5,k5,hv5,hk5,p5⟩:=pick' code c hc k4 (by omega) (a.length:Int) (by omega) bs (Ms++[[]])
  have hv5:=hv5 (by omega)
  have hv5':v5 < a.length:=by omega
  obtain ⟨x,k6,hx,hk6,p6⟩:=one2 code c hc k5 (by omega) [1,-1,2] (by simp) bs (Ms++[[]])
  have hx:-1≤x∧x≤2:=by simp at hx;omega
  have ba:=sa _ (List.getElem_mem hv5')
  have w3:IntKind.i64.wrap (a[v5]+x)=a[v5]+x:=wrap64 (by omega) (by omega)
  obtain ⟨v7,k7,hv7,hk7,p7⟩:=pick' code c hc k6 (by omega) (b.length:Int) (by omega) bs (Ms++[[]])
  have hv7:=hv7 (by omega)
  have hv7':v7 < b.length:=by omega
  obtain ⟨y,k8,hy,hk8,p8⟩:=one2 code c hc k7 (by omega) [1,-1,2] (by simp) bs (Ms++[[]])
  have hy:-1≤y∧y≤2:=by simp at hy;omega
  have bb:=sb _ (List.getElem_mem hv7')
  have w4:IntKind.i64.wrap (b[v7]+y)=b[v7]+y:=wrap64 (by omega) (by omega)
  repeat (first|refine wp_as ?_|refine wp_ss ?_|refine wr (by simp [p1,p2,w1,w2,p3,hto,e1,e2,e3,p4,p5];with_reducible rfl) ?_|refine wq (by simp [p1,p2,w1,w2,p3,hto,e1,e2,e3,p4,p5];with_reducible rfl) ?_|refine wt (by simpa [p1,p2,w1,w2,p3,hto,e1,e2,e3,p4,p5]) ?_|refine wf (by simpa [p1,p2,w1,w2,p3,hto,e1,e2,e3,p4,p5]) ?_|refine xt (by simpa [p1,p2,w1,w2,p3,hto,e1,e2,e3,p4,p5]) ?_|refine xf (by simpa [p1,p2,w1,w2,p3,hto,e1,e2,e3,p4,p5]) ?_|refine wp_bs ?_|refine wp_b ?_|refine wp_sr ?_|refine wp_sx ?_|refine wp_ret' ?_|refine wp_skip' ?_|refine wp_exit' ?_)
  refine wp_ra (by simp [hv5',p6,w3];with_reducible rfl) (by simp;with_reducible rfl) ?_ ?_
  · intro p hp
    simp only [List.mem_cons,List.not_mem_nil,or_false] at hp
    rcases hp with rfl | rfl
    · exact ⟨_,by simp [hv5',p6,w3];with_reducible rfl,by simp⟩
    · exact ⟨_,by simp [hv5',p6,w3];with_reducible rfl,by simp⟩
  repeat (first|refine wp_as ?_|refine wp_ss ?_|refine wr (by simp [p7];with_reducible rfl) ?_|refine wq (by simp [p7];with_reducible rfl) ?_|refine wt (by simpa [p7]) ?_|refine wf (by simpa [p7]) ?_|refine xt (by simpa [p7]) ?_|refine xf (by simpa [p7]) ?_|refine wp_bs ?_|refine wp_b ?_|refine wp_sr ?_|refine wp_sx ?_|refine wp_ret' ?_|refine wp_skip' ?_|refine wp_exit' ?_)
  refine wp_ra (by simp [hv7',p8,w4];with_reducible rfl) (by simp;with_reducible rfl) ?_ ?_
  · intro p hp
    simp only [List.mem_cons,List.not_mem_nil,or_false] at hp
    rcases hp with rfl | rfl
    · exact ⟨_,by simp [hv7',p8,w4];with_reducible rfl,by simp⟩
    · exact ⟨_,by simp [hv7',p8,w4];with_reducible rfl,by simp⟩
  repeat (first|refine wp_as ?_|refine wp_ss ?_|refine wr (by simp;with_reducible rfl) ?_|refine wq (by simp;with_reducible rfl) ?_|refine wt (by simpa) ?_|refine wf (by simpa) ?_|refine xt (by simpa) ?_|refine xf (by simpa) ?_|refine wp_bs ?_|refine wp_b ?_|refine wp_sr ?_|refine wp_sx ?_|refine wp_ret' ?_|refine wp_skip' ?_|refine wp_exit' ?_)
  exact fin1 .un _ _ k8 (by omega) (by simp;omega) (by simp;omega) (by simp;omega)
theorem ev_DrawIsBigraphic (code:List Int) (c:Bool) (h:∀ x ∈ code,0≤x∧x≤255) (hl:code.length≤10000000) :
    ∃ a b:List Int,a.length≤5∧b.length≤10∧limF tb zl304 [] [.lst 1 (bytes code) c] []=some ⟨.tup [O a,O b],[],[],[]⟩:=by
  obtain ⟨c',e⟩:=ev_newReader code c [[]] (by omega)
  have e1:=ev_lim e
  obtain ⟨a,b,k,h1,h2,e2⟩:=ev_margins (code.take 2000) c' (code_ok h) 0 (by omega) [] []
  refine ⟨a,b,h1,h2,ev_lim ?_⟩
  rw [show ((0:Nat):Int)=0 from rfl] at e2
  refine call_of_wp zt304 rfl ?_
  repeat (first|refine wp_as ?_|refine wp_ss ?_|refine wr (by simp [e1,e2];with_reducible rfl) ?_|refine wq (by simp [e1,e2];with_reducible rfl) ?_|refine wt (by simpa [e1,e2]) ?_|refine wf (by simpa [e1,e2]) ?_|refine xt (by simpa [e1,e2]) ?_|refine xf (by simpa [e1,e2]) ?_|refine wp_bs ?_|refine wp_b ?_|refine wp_sr ?_|refine wp_sx ?_|refine wp_ret' ?_|refine wp_skip' ?_|refine wp_exit' ?_)
  simp [zi304]
end Go.Idl
namespace Go.Idl
open Go
def joined (r c:List Int):List Int:=(r.map fun x:Int=>x+(r.length:Int) - 1)++c
end Go.Idl
namespace Go.Idl
open Go
set_option maxHeartbeats 1000000 in
theorem ev_FnIsBigraphic (law1:∀ r c:List Int,vMar r c=true→fillB r c=bigr r c) (law2:∀ r c:List Int,bigr c r=bigr r c) (code:List Int) (c:Bool) (h:∀ x ∈ code,0≤x∧x≤255) :
    Ev tb zl532 [] [.lst 1 (bytes code) c] [] ⟨Bo true,[],[],[]⟩:=by
  by_cases hc:(1048576:Int) < code.length
  · refine call_of_wp zt532 rfl ?_
    repeat (first|apply wp_as|apply wp_ss|refine wr (by simp [hc];with_reducible rfl) ?_|refine wq (by simp [hc];with_reducible rfl) ?_|refine wt (by simpa [hc]) ?_|refine wf (by simpa [hc]) ?_|refine xt (by simpa [hc]) ?_|refine xf (by simpa [hc]) ?_|apply wp_bs|apply wp_b|refine wp_sr ?_|refine wp_sx ?_|refine wp_ret' ?_|refine wp_skip' ?_|refine wp_exit' ?_)
    simp [zi532]
  obtain ⟨r,k,hr,hk,e1⟩:=ev_DrawIsBigraphic code c h (by omega)
  have e2:=ev_lim (ev_IsBigraphic r k false false (by omega) (by omega))
  have e3:=ev_lim (ev_spec_IsBigraphic r k false false (by omega) (by omega))
  have e4:=ev_lim (ev_ValidMargins r k false false (by omega) (by omega))
  cases hv:vMar r k with
  | false =>
    generalize bigr r k=b at *
    refine call_of_wp zt532 rfl ?_
    repeat (first|apply wp_as|apply wp_ss|refine wr (by simp [hc,e1,e2,e3,e4,hv];with_reducible rfl) ?_|refine wq (by simp [hc,e1,e2,e3,e4,hv];with_reducible rfl) ?_|refine wt (by simpa [hc,e1,e2,e3,e4,hv]) ?_|refine wf (by simpa [hc,e1,e2,e3,e4,hv]) ?_|refine xt (by simpa [hc,e1,e2,e3,e4,hv]) ?_|refine xf (by simpa [hc,e1,e2,e3,e4,hv]) ?_|apply wp_bs|apply wp_b|refine wp_sr ?_|refine wp_sx ?_|refine wp_ret' ?_|refine wp_skip' ?_|refine wp_exit' ?_)
    simp [zi532]
  | true =>
    obtain ⟨v,hvv,e5⟩:=ev_FillMatrix r k false false hv
    have e5:=ev_lim e5
    rw [law1 r k hv] at e5
    have e6:=ev_lim (ev_IsBigraphic k r false false (by omega) (by omega))
    rw [law2 r k] at e6
    generalize bigr r k=b at *
    rcases hvv with rfl | ⟨t,rfl⟩
    · cases b with
      | false =>
        refine call_of_wp zt532 rfl ?_
        repeat (first|apply wp_as|apply wp_ss|refine wr (by simp [hc,e1,e2,e3,e4,e5,e6,hv];with_reducible rfl) ?_|refine wq (by simp [hc,e1,e2,e3,e4,e5,e6,hv];with_reducible rfl) ?_|refine wt (by simpa [hc,e1,e2,e3,e4,e5,e6,hv]) ?_|refine wf (by simpa [hc,e1,e2,e3,e4,e5,e6,hv]) ?_|refine xt (by simpa [hc,e1,e2,e3,e4,e5,e6,hv]) ?_|refine xf (by simpa [hc,e1,e2,e3,e4,e5,e6,hv]) ?_|apply wp_bs|apply wp_b|refine wp_sr ?_|refine wp_sx ?_|refine wp_ret' ?_|refine wp_skip' ?_|refine wp_exit' ?_)
        simp [zi532]
      | true =>
        refine call_of_wp zt532 rfl ?_
        repeat (first|apply wp_as|apply wp_ss|refine wr (by simp [hc,e1,e2,e3,e4,e5,e6,hv];with_reducible rfl) ?_|refine wq (by simp [hc,e1,e2,e3,e4,e5,e6,hv];with_reducible rfl) ?_|refine wt (by simpa [hc,e1,e2,e3,e4,e5,e6,hv]) ?_|refine wf (by simpa [hc,e1,e2,e3,e4,e5,e6,hv]) ?_|refine xt (by simpa [hc,e1,e2,e3,e4,e5,e6,hv]) ?_|refine xf (by simpa [hc,e1,e2,e3,e4,e5,e6,hv]) ?_|apply wp_bs|apply wp_b|refine wp_sr ?_|refine wp_sx ?_|refine wp_ret' ?_|refine wp_skip' ?_|refine wp_exit' ?_)
        simp [zi532]
    · cases b with
      | false =>
        refine call_of_wp zt532 rfl ?_
        repeat (first|apply wp_as|apply wp_ss|refine wr (by simp [hc,e1,e2,e3,e4,e5,e6,hv];with_reducible rfl) ?_|refine wq (by simp [hc,e1,e2,e3,e4,e5,e6,hv];with_reducible rfl) ?_|refine wt (by simpa [hc,e1,e2,e3,e4,e5,e6,hv]) ?_|refine wf (by simpa [hc,e1,e2,e3,e4,e5,e6,hv]) ?_|refine xt (by simpa [hc,e1,e2,e3,e4,e5,e6,hv]) ?_|refine xf (by simpa [hc,e1,e2,e3,e4,e5,e6,hv]) ?_|apply wp_bs|apply wp_b|refine wp_sr ?_|refine wp_sx ?_|refine wp_ret' ?_|refine wp_skip' ?_|refine wp_exit' ?_)
        simp [zi532]
      | true =>
        refine call_of_wp zt532 rfl ?_
        repeat (first|apply wp_as|apply wp_ss|refine wr (by simp [hc,e1,e2,e3,e4,e5,e6,hv];with_reducible rfl) ?_|refine wq (by simp [hc,e1,e2,e3,e4,e5,e6,hv];with_reducible rfl) ?_|refine wt (by simpa [hc,e1,e2,e3,e4,e5,e6,hv]) ?_|refine wf (by simpa [hc,e1,e2,e3,e4,e5,e6,hv]) ?_|refine xt (by simpa [hc,e1,e2,e3,e4,e5,e6,hv]) ?_|refine xf (by simpa [hc,e1,e2,e3,e4,e5,e6,hv]) ?_|apply wp_bs|apply wp_b|refine wp_sr ?_|refine wp_sx ?_|refine wp_ret' ?_|refine wp_skip' ?_|refine wp_exit' ?_)
        simp [zi532]
end Go.Idl
