/- Part 8 of a proof by an ideal interpreter of the code: its definitions and lemmas. Conditions: none. -/
import Derived.KernelRfl
import Derived.Test.YtpbpoajmibfliaaA7
set_option linter.all false
set_option linter.unusedVariables false
set_option linter.unusedSimpArgs false
namespace Go.Idl
open Go
theorem vG_subl {n:Nat} {g h:List (Int×Int)} (hg:vGraph n g=true) (hs:h.Sublist g):vGraph n h=true:=by
  obtain ⟨a,b,c⟩:=vG_iff.1 hg
  exact vG_iff.2 ⟨a.sublist hs,fun e he=>b e (hs.subset he),c⟩
def lfC (n:Nat) (g:List Int):List Int:=(idxB n (-1)).filter fun u=>decide (u ∉ g)
def nwC (g:List Int) (es:List (Int×Int)):List (Int×Int):=es.filter fun e=>decide (e.1 ∉ g) && decide (e.2 ∉ g)
theorem mem_lfC {n:Nat} {g:List Int} {u:Int}:u ∈ lfC n g ↔ (0≤u∧u < n)∧u ∉ g:=by
  rw [lfC,List.mem_filter,mem_idxB,decide_eq_true_eq]
theorem deg_nwC {n:Nat} {es:List (Int×Int)} (h:vGraph n es=true) (g:List Int) {v:Nat} (hv:v < n) (hvg:(v:Int) ∉ g):(degs n (nwC g es)).getD v 0=cntC es (lfC n g) v:=by
  have hs:(nwC g es).Sublist es:=List.filter_sublist
  have hN:=vG_subl h hs
  rw [degs_eq (vG_in hN)]
  rw [List.getD_eq_getElem?_getD,List.getElem?_map,List.getElem?_range hv]
  simp only [Option.map_some,Option.getD_some]
  rw [deg_nb hN hv,cntC,lfC,List.countP_filter,idxB_all,List.countP_map,← S_countP]
  refine S_congr fun u hu=>?_
  have hu:=List.mem_range.1 hu
  have hm:mk u v ∈ nwC g es ↔ mk u v ∈ es∧(u:Int) ∉ g:=by
    rw [nwC,List.mem_filter,Bool.and_eq_true,decide_eq_true_eq,decide_eq_true_eq]
    refine and_congr_right fun _=>?_
    rcases Int.le_total (u:Int) v with hq | hq
    · simp only [mk,Int.min_eq_left hq,Int.max_eq_right hq]
      exact ⟨fun h=>h.1,fun h=>⟨h,hvg⟩⟩
    · simp only [mk,Int.min_eq_right hq,Int.max_eq_left hq]
      exact ⟨fun h=>h.2,fun h=>⟨hvg,h⟩⟩
  by_cases huv:u=v
  · subst huv;simp
  · have huv2:¬ (u:Int)=v:=by omega
    rw [if_neg huv]
    refine ite_iff ?_ _ _
    rw [hm]
    simp only [Function.comp_apply,Bool.and_eq_true,decide_eq_true_eq,hasM_mk]
    exact ⟨fun ⟨a,b⟩=>⟨⟨huv2,a⟩,b⟩,fun ⟨⟨_,a⟩,b⟩=>⟨a,b⟩⟩
def toI:Option Int→Int
  | some v=>v
  | none=>-1
theorem idxB_succ (n:Nat):idxB (n+1) (-1)=idxB n (-1)++[(n:Int)]:=by
  rw [idxB_all,idxB_all,List.range_succ,List.map_append];rfl
theorem sea_bk {d g left:List Int} {es:List (Int×Int)} {m:Nat}:∀ (u:Nat),(∀ v:Nat,v < u→(v:Int) ∉ g→d.getD v 0=cntC es left v) →
    seaS d g ((m:Int)+1) u=toI (bkF es left m ((lfC u g).reverse))
  | 0,_=>by simp [seaS,lfC,idxB,bkF,toI]
  | u+1,h=>by
    have ih:=sea_bk (d:=d) (g:=g) (left:=left) (es:=es) (m:=m) u fun v hv=>h v (by omega)
    rw [lfC,idxB_succ,List.filter_append,seaS]
    by_cases hg:(u:Int) ∈ g
    · rw [if_neg (fun hh=>hh.1 hg),ih]
      simp [lfC,hg]
    · rw [List.filter_cons_of_pos (by simpa using hg),List.filter_nil,List.reverse_append,List.reverse_singleton,List.singleton_append,bkF]
      have hd:=h u (by omega) hg
      rw [hd]
      by_cases hc:cntC es left u=0 ∨ cntC es left u=m
      · rw [if_pos ⟨hg,by omega⟩,if_pos hc];rfl
      · rw [if_neg (fun hh=>hc (by have:=hh.2;omega)),if_neg hc,ih];rfl
theorem bkF_some {es:List (Int×Int)} {left:List Int} {k:Nat}:∀ {l:List Int} {v:Int},bkF es left k l=some v→v ∈ l∧(cntC es left v=0 ∨ cntC es left v=k)
  | [],_,h=>by cases h
  | x::l,v,h=>by
    rw [bkF] at h
    split at h
    · cases h;exact ⟨List.mem_cons_self,by assumption⟩
    · have:=bkF_some h
      exact ⟨List.mem_cons_of_mem _ this.1,this.2⟩
theorem bkF_none {es:List (Int×Int)} {left:List Int} {k:Nat}:∀ {l:List Int},bkF es left k l=none→∀ v ∈ l,¬ (cntC es left v=0 ∨ cntC es left v=k)
  | [],_,v,hv=>by cases hv
  | x::l,h,v,hv=>by
    rw [bkF] at h
    split at h
    · cases h
    · rcases List.mem_cons.1 hv with rfl | hv
      · assumption
      · exact bkF_none h v hv
theorem drpV_eq (v:Int):∀ (m u:Nat) (es:List (Int×Int)),drpV v m u es=es.filter fun e=>(List.range' u m).all fun w=>dropP (min v w) (max v w) e
  | 0,u,es=>by rw [drpV];exact (List.filter_eq_self.2 fun _ _=>by simp).symm
  | m+1,u,es=>by
    rw [drpV,drpV_eq v m (u+1),dropE,List.filter_filter]
    refine List.filter_congr fun e _=>?_
    rw [List.range'_succ,List.all_cons,Bool.and_comm]
theorem nwC_step {n:Nat} {es:List (Int×Int)} (h:vGraph n es=true) (g:List Int) (v:Int) (hv:0≤v∧v < n):drpV v n 0 (nwC g es)=nwC (g++[v]) es:=by
  rw [drpV_eq,nwC,nwC,List.filter_filter]
  refine List.filter_congr fun e he=>?_
  have hb:=vG_edges h e he
  have key:((List.range' 0 n).all fun w=>dropP (min v w) (max v w) e)=(decide (e.1 ≠ v) && decide (e.2 ≠ v)):=by
    rw [Bool.eq_iff_iff,List.all_eq_true,Bool.and_eq_true,decide_eq_true_eq,decide_eq_true_eq]
    constructor
    · intro hh
      refine ⟨fun h1=>?_,fun h1=>?_⟩
      · have:=hh e.2.toNat (List.mem_range'_1.2 (by omega))
        simp only [dropP,Bool.not_eq_true',Bool.and_eq_false_imp,decide_eq_true_eq,decide_eq_false_iff_not] at this
        exact this (by omega) (by omega)
      · have:=hh e.1.toNat (List.mem_range'_1.2 (by omega))
        simp only [dropP,Bool.not_eq_true',Bool.and_eq_false_imp,decide_eq_true_eq,decide_eq_false_iff_not] at this
        exact this (by omega) (by omega)
    · rintro ⟨h1,h2⟩ w hw
      simp only [dropP,Bool.not_eq_true',Bool.and_eq_false_imp,decide_eq_true_eq,decide_eq_false_iff_not]
      omega
  rw [key]
  by_cases k1:e.1 ∈ g <;> by_cases k2:e.2 ∈ g <;> by_cases k3:e.1=v <;> by_cases k4:e.2=v <;> simp [k1,k2,k3,k4]
theorem nodup_lfC (n:Nat) (g:List Int):(lfC n g).Nodup:=by
  exact ((idxB_pw n).imp fun h=>by omega:(idxB n (-1)).Nodup).filter _
theorem lfC_step (n:Nat) (g:List Int) (v:Int):((lfC n g).filter fun u=>!decide (u=v))=lfC n (g++[v]):=by
  rw [lfC,lfC,List.filter_filter]
  refine List.filter_congr fun e _=>?_
  by_cases k1:e ∈ g <;> by_cases k2:e=v <;> simp [k1,k2]
theorem len_but {l:List Int} (hn:l.Nodup) {v:Int} (hv:v ∈ l):(l.filter fun u=>!decide (u=v)).length+1=l.length:=by
  have h1:(l.filter fun u=>!decide (u=v))=l.filter (fun u=>u != v):=List.filter_congr fun u _=>by simp [bne,BEq.beq]
  rw [h1,← hn.erase_eq_filter,List.length_erase_of_mem hv]
  have:=List.length_pos_of_mem hv
  omega
theorem cod_eq {n:Nat} {es:List (Int×Int)} (h:vGraph n es=true):∀ (m:Nat) (g ls os:List Int),(lfC n g).length=m→codS n m (nwC g es) g ls os=coI es m (lfC n g) ls os
  | 0,g,ls,os,_=>rfl
  | m+1,g,ls,os,hm=>by
    have hs:=sea_bk (d:=degs n (nwC g es)) (g:=g) (left:=lfC n g) (es:=es) (m:=m) n fun v hv hg=>deg_nwC h g hv hg
    cases hb:bkF es (lfC n g) m (lfC n g).reverse with
    | none =>
      rw [hb] at hs
      simp only [toI] at hs
      rw [codS,coI,hb,hs];rfl
    | some v =>
      rw [hb] at hs
      simp only [toI] at hs
      rw [codS,coI,hb,hs]
      have hv:=List.mem_reverse.1 (bkF_some hb).1
      have hv2:=mem_lfC.1 hv
      obtain ⟨k,rfl⟩:=Int.eq_ofNat_of_zero_le hv2.1.1
      simp only
      rw [if_neg (by omega),nwC_step h g _ hv2.1,lfC_step]
      have hl:=len_but (nodup_lfC n g) hv
      rw [lfC_step] at hl
      rw [cod_eq h m (g++[(k:Int)]) _ _ (by omega),Int.toNat_natCast,deg_nwC h g (by omega) hv2.2,ltr]
      rw [ite_iff (show (0:Int) < (cntC es (lfC n g) (k:Int):Int) ↔ 0 < cntC es (lfC n g) (k:Int) by omega) (100:Int) 105]
theorem codLaw {n:Nat} {es:List (Int×Int)} (h:vGraph n es=true):codS n n es [] [] []=coI es n (idxB n (-1)) [] []:=by
  have h1:lfC n []=idxB n (-1):=by rw [lfC];exact List.filter_eq_self.2 fun _ _=>by simp
  have h2:nwC [] es=es:=by rw [nwC];exact List.filter_eq_self.2 fun _ _=>by simp
  have h3:=cod_eq h n [] [] [] (by rw [h1,idxB_all];simp)
  rwa [h1,h2] at h3
structure CodeLaw (es:List (Int×Int)) (l o:List Int):Prop where
  len:l.length=o.length
  let_:∀ x ∈ l,x=100 ∨ x=105
  fst:∀ x,l[0]? = some x→x=105
  adj:∀ a b,b < a→a < o.length→hasM es (o.getD a 0) (o.getD b 0)=decide (l.getD a 0=100)
theorem cntC_zero {es:List (Int×Int)} {left:List Int} {v:Int} (h:cntC es left v=0) {u:Int} (hu:u ∈ left) (hne:u ≠ v):hasM es u v=false:=by
  have:=List.countP_eq_zero.1 h u hu
  simpa [hne] using this
theorem cntC_split {es:List (Int×Int)} {left:List Int} {v:Int}:cntC es left v=cntC es (left.filter fun u=>!decide (u=v)) v:=by
  rw [cntC,cntC,List.countP_filter]
  refine List.countP_congr fun u _=>?_
  by_cases h:u=v <;> simp [h]
theorem cntC_all {es:List (Int×Int)} {left:List Int} {v:Int} {k:Nat} (hl:(left.filter fun u=>!decide (u=v)).length=k) (h:cntC es left v=k) {u:Int} (hu:u ∈ left) (hne:u ≠ v):hasM es u v=true:=by
  rw [cntC_split,cntC,← hl] at h
  have:=List.countP_eq_length.1 h u (List.mem_filter.2 ⟨hu,by simp [hne]⟩)
  simpa [hne] using this
theorem hasM_symm (es:List (Int×Int)) (a b:Int):hasM es a b=hasM es b a:=by
  rw [Bool.eq_iff_iff,hasM_iff,hasM_iff,Int.min_comm,Int.max_comm]
theorem coI_ok {es:List (Int×Int)}:∀ (k:Nat) (left ls os l o:List Int),left.Nodup→left.length=k→coI es k left ls os=some (l,o) →
    ∃ l1 o1,l=l1++ls∧o=o1++os∧l1.length=k∧o1.Perm left∧CodeLaw es l1 o1
  | 0,left,ls,os,l,o,_,hl,h=>by
    cases h
    have:left=[]:=List.length_eq_zero_iff.1 hl
    subst this
    exact ⟨[],[],rfl,rfl,rfl,.refl _,⟨rfl,by simp,by simp,fun a b _ h=>by simp at h⟩⟩
  | k+1,left,ls,os,l,o,hn,hl,h=>by
    rw [coI] at h
    cases hb:bkF es left k left.reverse with
    | none=>rw [hb] at h;cases h
    | some v =>
      rw [hb] at h
      simp only at h
      have hv:=bkF_some hb
      have hvm:=List.mem_reverse.1 hv.1
      have hlen:=len_but hn hvm
      obtain ⟨l1,o1,r1,r2,r3,r4,c⟩:=coI_ok k _ _ _ l o (hn.filter _) (by omega) h
      have ho:o1.length=k:=by rw [r4.length_eq];omega
      refine ⟨l1++[ltr es left v],o1++[v],by rw [r1];simp,by rw [r2];simp,by simp [r3],?_,?_⟩
      · have h1:left.Perm (v::left.erase v):=List.perm_cons_erase hvm
        have h2:(left.filter fun u=>!decide (u=v))=left.erase v:=by
          rw [hn.erase_eq_filter]
          exact List.filter_congr fun u _=>by simp [bne,BEq.beq]
        rw [h2] at r4
        exact (List.perm_append_comm.trans (r4.cons v)).trans h1.symm
      · have hlt:ltr es left v=100 ∨ ltr es left v=105:=by rw [ltr];split <;> simp
        refine ⟨by simp [r3,ho],fun x hx=>?_,fun x hx=>?_,fun a b hb1 ha=>?_⟩
        · rcases List.mem_append.1 hx with hx | hx
          · exact c.let_ x hx
          · rw [List.mem_singleton.1 hx];exact hlt
        · cases k with
          | zero =>
            have hl1:l1=[]:=List.length_eq_zero_iff.1 r3
            subst hl1
            simp only [List.nil_append,List.getElem?_cons_zero,Option.some.injEq] at hx
            have:cntC es left v=0:=by rcases hv.2 with h | h <;> exact h
            rw [← hx,ltr,if_neg (by omega)]
          | succ k =>
            rw [List.getElem?_append_left (by omega)] at hx
            exact c.fst x hx
        · have hak:a < k+1:=by rw [List.length_append,ho] at ha;exact ha
          by_cases hak2:a < k
          · have g:∀ i,i < k→(o1++[v]).getD i 0=o1.getD i 0:=fun i hi=>by
              rw [List.getD_eq_getElem?_getD,List.getElem?_append_left (by omega),List.getD_eq_getElem?_getD]
            have g2:(l1++[ltr es left v]).getD a 0=l1.getD a 0:=by
              rw [List.getD_eq_getElem?_getD,List.getElem?_append_left (by omega),List.getD_eq_getElem?_getD]
            rw [g a hak2,g b (by omega),g2]
            exact c.adj a b hb1 (by omega)
          · have hak3:a=k:=by omega
            subst hak3
            have g1:(o1++[v]).getD a 0=v:=by
              rw [List.getD_eq_getElem?_getD,List.getElem?_append_right (by omega),ho];simp
            have g2:(l1++[ltr es left v]).getD a 0=ltr es left v:=by
              rw [List.getD_eq_getElem?_getD,List.getElem?_append_right (by omega),r3];simp
            have g3:(o1++[v]).getD b 0=o1[b]'(by omega):=by
              rw [List.getD_eq_getElem?_getD,List.getElem?_append_left (by omega),List.getElem?_eq_getElem (by omega)];rfl
            rw [g1,g2,g3]
            have hm:=r4.mem_iff.1 (List.getElem_mem (show b < o1.length by omega))
            have hm:=List.mem_filter.1 hm
            have hne:o1[b]'(by omega) ≠ v:=by simpa using hm.2
            rw [hasM_symm]
            rcases hv.2 with h0 | h0
            · rw [cntC_zero h0 hm.1 hne,ltr,if_neg (by omega)];rfl
            · rw [cntC_all (by omega) h0 hm.1 hne,ltr,if_pos (by omega)];rfl
theorem coI_law {n:Nat} {es:List (Int×Int)} {l o:List Int} (h:coI es n (idxB n (-1)) [] []=some (l,o)):l.length=n∧o.Perm (idxB n (-1))∧CodeLaw es l o:=by
  obtain ⟨l1,o1,r1,r2,r3,r4,c⟩:=coI_ok n (idxB n (-1)) [] [] l o ((idxB_pw n).imp fun h=>by omega) (by rw [idxB_all];simp) h
  rw [List.append_nil] at r1 r2
  subst r1 r2
  exact ⟨r3,r4,c⟩
theorem code_nest {n:Nat} {es:List (Int×Int)} {l o:List Int} (hp:o.Perm (idxB n (-1))) (c:CodeLaw es l o):nest n (hasM es)=true:=by
  rw [nest_iff]
  have hol:o.length=n:=by rw [hp.length_eq,idxB_all];simp
  have hpos:∀ u:Nat,u < n→∃ a,a < n∧o.getD a 0=u:=fun u hu=>by
    obtain ⟨a,ha,he⟩:=List.mem_iff_getElem.1 (hp.mem_iff.2 (mem_idxB.2 (show (0:Int)≤u∧(u:Int) < n by omega)))
    exact ⟨a,by omega,by rw [List.getD_eq_getElem?_getD,List.getElem?_eq_getElem ha,he];rfl⟩
  have hadj:∀ a b,a ≠ b→a < n→b < n→(hasM es (o.getD a 0) (o.getD b 0)=decide (l.getD (max a b) 0=100)):=fun a b hab ha hb=>by
    rcases Nat.lt_or_gt_of_ne hab with h | h
    · rw [hasM_symm,c.adj b a h (by omega),Nat.max_eq_right (Nat.le_of_lt h)]
    · rw [c.adj a b h (by omega),Nat.max_eq_left (Nat.le_of_lt h)]
  have key:∀ a b u v,a < b→b < n→o.getD a 0=((u:Nat):Int)→o.getD b 0=((v:Nat):Int)→NA n es u v ∨ NA n es v u:=fun a b u v hab hb hu hv=>by
    by_cases hd:l.getD b 0=100
    · refine .inl fun x hx hxu hxv hm=>?_
      obtain ⟨e,he,hxe⟩:=hpos x hx
      have hea:e ≠ a:=fun hh=>hxu (by rw [hh,hu] at hxe;omega)
      have heb:e ≠ b:=fun hh=>hxv (by rw [hh,hv] at hxe;omega)
      have h1:=hadj a e (Ne.symm hea) (by omega) he
      rw [hu,hxe,hasM_mk,decide_eq_decide] at h1
      have h2:=hadj b e (Ne.symm heb) hb he
      rw [hv,hxe,hasM_mk,decide_eq_decide] at h2
      refine h2.2 ?_
      have h3:=h1.1 hm
      by_cases hbe:e < b
      · rw [Nat.max_eq_left (Nat.le_of_lt hbe)];exact hd
      · rw [Nat.max_eq_right (by omega)] at h3 ⊢;exact h3
    · refine .inr fun x hx hxv hxu hm=>?_
      obtain ⟨e,he,hxe⟩:=hpos x hx
      have hea:e ≠ a:=fun hh=>hxu (by rw [hh,hu] at hxe;omega)
      have heb:e ≠ b:=fun hh=>hxv (by rw [hh,hv] at hxe;omega)
      have h1:=hadj a e (Ne.symm hea) (by omega) he
      rw [hu,hxe,hasM_mk,decide_eq_decide] at h1
      have h2:=hadj b e (Ne.symm heb) hb he
      rw [hv,hxe,hasM_mk,decide_eq_decide] at h2
      refine h1.2 ?_
      have h3:=h2.1 hm
      by_cases hbe:e < b
      · rw [Nat.max_eq_left (Nat.le_of_lt hbe)] at h3;exact absurd h3 hd
      · rw [Nat.max_eq_right (by omega)] at h3 ⊢;exact h3
  intro u v huv hv
  obtain ⟨a,ha,hua⟩:=hpos u (by omega)
  obtain ⟨b,hb,hvb⟩:=hpos v hv
  have hab:a ≠ b:=fun hh=>by rw [hh,hvb] at hua;omega
  rcases Nat.lt_or_gt_of_ne hab with h | h
  · exact key a b u v h hb hua hvb
  · exact (key b a v u h ha hvb hua).symm
theorem exists_max {α:Type} (f:α→Nat):∀ {l:List α},l ≠ []→∃ v ∈ l,∀ u ∈ l,f u≤f v
  | [],h=>absurd rfl h
  | [x],_=>⟨x,by simp,by simp⟩
  | x::y::l,_=>by
    obtain ⟨v,hv,hm⟩:=exists_max f (l:=y::l) (by simp)
    by_cases hx:f x≤f v
    · refine ⟨v,List.mem_cons_of_mem _ hv,fun u hu=>?_⟩
      rcases List.mem_cons.1 hu with rfl | hu
      · exact hx
      · exact hm u hu
    · refine ⟨x,List.mem_cons_self,fun u hu=>?_⟩
      rcases List.mem_cons.1 hu with rfl | hu
      · exact Nat.le_refl _
      · have:=hm u hu;omega
theorem nest_take {n:Nat} {es:List (Int×Int)} (hN:∀ u v,u < v→v < n→NA n es u v ∨ NA n es v u) {left:List Int} {k:Nat} (hb:∀ x ∈ left,0≤x∧x < n) (hn:left.Nodup) (hl:left.length=k+1) :
    ∃ v ∈ left,cntC es left v=0 ∨ cntC es left v=k:=by
  refine Classical.byContradiction fun hno=>?_
  have hno:∀ v ∈ left,cntC es left v ≠ 0∧cntC es left v ≠ k:=fun v hv=>⟨fun h=>hno ⟨v,hv,.inl h⟩,fun h=>hno ⟨v,hv,.inr h⟩⟩
  obtain ⟨v,hv,hmax⟩:=exists_max (cntC es left) (l:=left) (by intro h;rw [h] at hl;simp at hl)
  have hvl:=len_but hn hv
  have hw:∃ w ∈ left,w ≠ v∧hasM es w v=false:=by
    refine Classical.byContradiction fun hh=>?_
    refine (hno v hv).2 ?_
    rw [cntC_split,cntC,show k=(left.filter fun u=>!decide (u=v)).length by omega]
    refine List.countP_eq_length.2 fun u hu=>?_
    have hu:=List.mem_filter.1 hu
    have hne:u ≠ v:=by simpa using hu.2
    have:hasM es u v ≠ false:=fun h=>hh ⟨u,hu.1,hne,h⟩
    simp [hne,this]
  obtain ⟨w,hw,hwv,hwm⟩:=hw
  have hx:∃ x ∈ left,x ≠ w∧hasM es x w=true:=by
    have h1:=(hno w hw).1
    have h2:0 < left.countP fun u=>decide (u ≠ w) && hasM es u w:=by have:cntC es left w=left.countP fun u=>decide (u ≠ w) && hasM es u w:=rfl;omega
    obtain ⟨x,hx,hxp⟩:=List.countP_pos_iff.1 h2
    simp only [Bool.and_eq_true,decide_eq_true_eq] at hxp
    exact ⟨x,hx,hxp.1,hxp.2⟩
  obtain ⟨x,hx,hxw,hxm⟩:=hx
  have hxv:x ≠ v:=fun hh=>by rw [hh,hasM_symm,hwm] at hxm;cases hxm
  obtain ⟨v',rfl⟩:=Int.eq_ofNat_of_zero_le (hb v hv).1
  obtain ⟨w',rfl⟩:=Int.eq_ofNat_of_zero_le (hb w hw).1
  obtain ⟨x',rfl⟩:=Int.eq_ofNat_of_zero_le (hb x hx).1
  have hvn:=(hb _ hv).2
  have hwn:=(hb _ hw).2
  have hxn:=(hb _ hx).2
  have hNA:NA n es v' x' ∨ NA n es x' v':=by
    rcases Nat.lt_or_gt_of_ne (show x' ≠ v' by omega) with h | h
    · exact (hN x' v' h (by omega)).symm
    · exact hN v' x' h (by omega)
  rw [hasM_mk,decide_eq_true_eq] at hxm
  rw [hasM_mk,decide_eq_false_iff_not] at hwm
  have hNA:NA n es v' x':=hNA.resolve_right fun hh=>by
    have:=hh w' (by omega) (by omega) (by omega) hxm
    rw [mk_comm] at this
    exact hwm this
  have hlt:cntC es left v' < cntC es left x':=by
    have e:∀ z:Int,(cntC es left z:Int)=S left fun u=>if (decide (u ≠ z) && hasM es u z)=true then 1 else 0:=fun z=>(S_countP _ left).symm
    have o1:=S_one hn ((v':Nat):Int)
    have o2:=S_one hn ((x':Nat):Int)
    have o3:=S_one hn ((w':Nat):Int)
    rw [if_pos hv] at o1
    rw [if_pos hx] at o2
    rw [if_pos hw] at o3
    obtain ⟨q,hq⟩:∃ q:Int,q=if hasM es v' x'=true then 1 else 0:=⟨_,rfl⟩
    have hle:S left (fun u=>(if (decide (u ≠ (v':Int)) && hasM es u v')=true then (1:Int) else 0)+(q * (if (v':Int)=u then 1 else 0)+(if (w':Int)=u then 1 else 0))) ≤
        S left (fun u=>(if (decide (u ≠ (x':Int)) && hasM es u x')=true then (1:Int) else 0)+q * (if (x':Int)=u then 1 else 0)):=by
      refine S_le fun u hu=>?_
      have hub:=hb u hu
      obtain ⟨u',rfl⟩:=Int.eq_ofNat_of_zero_le hub.1
      by_cases k1:u'=v'
      · subst k1
        have k2:¬ (u':Int)=x':=by omega
        have k3:¬ (x':Int)=u':=by omega
        have k4:¬ (w':Int)=u':=by omega
        simp only [k2,k3,k4,ne_eq,not_true,not_false_eq_true,decide_true,decide_false,Bool.false_and,Bool.true_and,if_true,if_false,Bool.false_eq_true]
        rw [← hq];omega
      · have k1':¬ (v':Int)=u':=by omega
        have k1'':¬ (u':Int)=v':=by omega
        by_cases k2:u'=x'
        · subst k2
          have k4:¬ (w':Int)=u':=by omega
          rw [hasM_symm] at hq
          simp only [k1',k1'',k4,ne_eq,not_true,not_false_eq_true,decide_true,decide_false,Bool.false_and,Bool.true_and,if_true,if_false,Bool.false_eq_true]
          rw [← hq];omega
        · have k2':¬ (x':Int)=u':=by omega
          have k2'':¬ (u':Int)=x':=by omega
          simp only [k1',k1'',k2',k2'',ne_eq,not_false_eq_true,decide_true,Bool.true_and,if_false,hasM_mk,decide_eq_true_eq]
          by_cases k3:u'=w'
          · subst k3
            rw [if_neg hwm,if_pos rfl,if_pos (by rw [mk_comm];exact hxm)];omega
          · have k3':¬ (w':Int)=u':=by omega
            rw [if_neg k3']
            by_cases k4:mk u' v' ∈ es
            · rw [if_pos k4,if_pos (by rw [mk_comm];exact hNA u' (by omega) k1 k2 (by rw [mk_comm];exact k4))];omega
            · rw [if_neg k4];split <;> omega
    rw [S_add,S_add,S_mul,S_add,S_mul,o1,o2,o3] at hle
    have h1:=e v'
    have h2:=e x'
    rw [← h1,← h2] at hle
    omega
  have:=hmax _ hx
  omega
theorem nest_coI {n:Nat} {es:List (Int×Int)} (hN:∀ u v,u < v→v < n→NA n es u v ∨ NA n es v u):∀ (k:Nat) (left ls os:List Int),(∀ x ∈ left,0≤x∧x < n)→left.Nodup→left.length=k→coI es k left ls os ≠ none
  | 0,left,ls,os,_,_,_=>by simp [coI]
  | k+1,left,ls,os,hb,hn,hl=>by
    rw [coI]
    obtain ⟨v,hv,hc⟩:=nest_take hN hb hn hl
    cases hq:bkF es left k left.reverse with
    | none=>exact absurd hc (bkF_none hq v (List.mem_reverse.2 hv))
    | some u =>
      have hu:=List.mem_reverse.1 (bkF_some hq).1
      have:=len_but hn hu
      exact nest_coI hN k _ _ _ (fun x hx=>hb x (List.mem_filter.1 hx).1) (hn.filter _) (by omega)
theorem coI_thr {n:Nat} {es:List (Int×Int)} (h:vGraph n es=true):(coI es n (idxB n (-1)) [] []).isSome=thr (degs n es):=by
  have key:thr (degs n es)=nest n (hasM es):=by
    cases hq:nest n (hasM es) with
    | false=>exact nest_no h hq
    | true=>exact nest_yes h hq
  rw [key]
  cases hc:coI es n (idxB n (-1)) [] [] with
  | some r =>
    obtain ⟨l,o⟩:=r
    obtain ⟨h1,h2,h3⟩:=coI_law hc
    rw [code_nest h2 h3];rfl
  | none =>
    cases hq:nest n (hasM es) with
    | false=>rfl
    | true=>exact absurd hc (nest_coI (nest_iff.1 hq) n _ _ _ (fun x hx=>mem_idxB.1 hx) ((idxB_pw n).imp fun h=>by omega) (by rw [idxB_all];simp))
theorem hasM_cgE (s:ByteArray) {u k:Nat} (hu:u < k) (hk:k < s.size):hasM (cgE s) (u:Int) (k:Int)=decide (s[k].toNat=100):=by
  have h1:mk u k=((u:Int),(k:Int)):=Prod.ext (by simp only [mk];omega) (by simp only [mk];omega)
  rw [hasM_mk,h1,cgE,Bool.eq_iff_iff,decide_eq_true_eq,decide_eq_true_eq,List.mem_filter,mem_prs]
  simp only [Int.toNat_natCast,getElem?_pos s k hk,decide_eq_true_eq]
  exact ⟨fun h=>h.2,fun h=>⟨by omega,h⟩⟩
theorem cgE_vG {s:ByteArray} (hs:s.size≤7):vGraph s.size (cgE s)=true:=filter_vG hs _
theorem okL_iff {s:ByteArray}:∀ {m i:Nat},i+m=s.size→(okL s m i=true ↔ ∀ j (h:j < s.size),i≤j→(s[j].toNat=105 ∨ s[j].toNat=100∧j ≠ 0))
  | 0,i,h=>by simp only [okL,true_iff];omega
  | m+1,i,h=>by
    have hi:i < s.size:=by omega
    have ih:=okL_iff (s:=s) (m:=m) (i:=i+1) (by omega)
    rw [okL_step (getElem?_pos s i hi),Bool.and_eq_true,ih]
    simp only [Bool.or_eq_true,Bool.and_eq_true,decide_eq_true_eq]
    constructor
    · rintro ⟨h1,h2⟩ j hj hij
      by_cases hq:i=j
      · subst hq;exact h1
      · exact h2 j hj (by omega)
    · exact fun hh=>⟨hh i hi (Nat.le_refl _),fun j hj hij=>hh j hj (by omega)⟩
theorem okS_iff {s:ByteArray}:okS s=true ↔ (∀ j (h:j < s.size),s[j].toNat=105 ∨ s[j].toNat=100∧j ≠ 0)∧1≤s.size∧s.size≤7:=by
  rw [okS,Bool.and_eq_true,Bool.and_eq_true,decide_eq_true_eq,decide_eq_true_eq,okL_iff (by omega)]
  exact ⟨fun ⟨a,b⟩=>⟨fun j hj=>a j hj (Nat.zero_le _),b⟩,fun ⟨a,b⟩=>⟨fun j hj _=>a j hj,b⟩⟩
theorem codeS_ok {n:Nat} {es:List (Int×Int)} {l o:List Int} (hl:l.length=n) (hn:1≤n∧n≤7) (c:CodeLaw es l o):okS (strNums l)=true∧(strNums l).size=n∧∀ a b,b < a→a < n→hasM (cgE (strNums l)) (a:Int) (b:Int)=decide (l.getD a 0=100):=by
  have hsz:(strNums l).size=n:=by simp [strNums,ByteArray.size,hl]
  have hg:∀ j (h:j < (strNums l).size),(strNums l)[j]=UInt8.ofNat (l.getD j 0).toNat:=fun j h=>by
    have hj:j < l.length:=by omega
    rw [List.getD_eq_getElem?_getD,List.getElem?_eq_getElem hj]
    simp only [strNums,Option.getD_some,ByteArray.getElem_eq_getElem_data,List.getElem_toArray,List.getElem_map]
  have hlet:∀ j,j < n→l.getD j 0=100 ∨ l.getD j 0=105:=fun j hj=>by
    have hj:j < l.length:=by omega
    rw [List.getD_eq_getElem?_getD,List.getElem?_eq_getElem hj]
    exact c.let_ _ (List.getElem_mem hj)
  refine ⟨okS_iff.2 ⟨fun j h=>?_,by omega⟩,hsz,fun a b hb ha=>?_⟩
  · rw [hg j h]
    rcases hlet j (by omega) with h1 | h1
    · rw [h1]
      refine .inr ⟨rfl,fun hj=>?_⟩
      subst hj
      have h0:0 < l.length:=by omega
      have h2:=c.fst (l.getD 0 0) (by rw [List.getD_eq_getElem?_getD,List.getElem?_eq_getElem h0];rfl)
      rw [h1] at h2;omega
    · rw [h1];exact .inl rfl
  · rw [hasM_symm,hasM_cgE _ hb (by omega),hg a (by omega)]
    rcases hlet a ha with h1 | h1 <;> rw [h1] <;> rfl
end Go.Idl
namespace Go.Idl
open Go
abbrev TC (o:List Int) (a:Nat):Tm:=[(3,.bptr 0 0 0),(5,O o),(10,.bptr 0 1 0),(11,Bo true),(12,I a)]
theorem in_loop (n m:Nat) (es E:List (Int×Int)) (g:Nat×Bool) (o:List Int) (hl:o.length≤1000)
    (h1:∀ x y,limF tb zl459 [] [.agg [I n,L2 es false],I x,I y] []=some ⟨Bo (hasM es x y),[],[],[]⟩)
    (h2:∀ x y,limF tb zl459 [] [.agg [I m,Lx E g],I x,I y] []=some ⟨Bo (hasM E x y),[],[],[]⟩)
    (a:Nat) (ha:a < o.length) (h:∀ b:Nat,b < a→hasM es (o.getD a 0) (o.getD b 0)=hasM E a b):∀ k b,b+k=a →
    wp tb (.loop z466l18) { T:=TC o a++[(13,I b)],loc:=[[I n,L2 es false],[I m,Lx E g]],M:=[] } fun ex st=>ex=.exit 2∧st={ T:=TC o a++[(13,I a),(87,Bo false)],loc:=[[I n,L2 es false],[I m,Lx E g]],M:=[] }
  | 0,b,hb=>by
    have:b=a:=by omega
    subst this
    refine wp_loop ?_
    repeat (first|apply wp_as|apply wp_ss|refine wr (by simp;with_reducible rfl) ?_|refine wq (by simp;with_reducible rfl) ?_|refine wt (by simpa) ?_|refine wf (by simpa) ?_|refine xt (by simpa) ?_|refine xf (by simpa) ?_|apply wp_bs|apply wp_b|refine wp_sr ?_|refine wp_sx ?_|refine wp_ret' ?_|refine wp_skip' ?_|refine wp_exit' ?_)
    exact ⟨rfl,rfl⟩
  | k+1,b,hb=>by
    have hlt:b < a:=by omega
    have hbl:b < o.length:=by omega
    have hx:=h b hlt
    have w1:IntKind.i64.wrap ((b:Int)+1)=((b+1:Nat):Int):=wrapS (by omega)
    rw [List.getD_eq_getElem?_getD,List.getElem?_eq_getElem ha,List.getD_eq_getElem?_getD,List.getElem?_eq_getElem hbl] at hx
    simp only [Option.getD_some] at hx
    have q1:=h1 o[a] o[b]
    have q2:=h2 a b
    rw [hx] at q1
    generalize hasM E a b=q at *
    refine wp_loop ?_
    repeat (first|apply wp_as|apply wp_ss|refine wr (by simp [hlt];with_reducible rfl) ?_|refine wq (by simp [hlt];with_reducible rfl) ?_|refine wt (by simpa [hlt]) ?_|refine wf (by simpa [hlt]) ?_|refine xt (by simpa [hlt]) ?_|refine xf (by simpa [hlt]) ?_|apply wp_bs|apply wp_b|refine wp_sr ?_|refine wp_sx ?_|refine wp_ret' ?_|refine wp_skip' ?_|refine wp_exit' ?_)
    refine wp_ra (by simp [ha,hbl,q1,q2];with_reducible rfl) (by simp;with_reducible rfl) ?_ ?_
    · intro p hp
      simp only [List.mem_cons,List.not_mem_nil,or_false] at hp
      subst hp
      exact ⟨_,by simp [ha,hbl,q1,q2];with_reducible rfl,by simp⟩
    cases q with
    | false =>
      repeat (first|apply wp_as|apply wp_ss|refine wr (by simp [w1];with_reducible rfl) ?_|refine wq (by simp [w1];with_reducible rfl) ?_|refine wt (by simpa [w1]) ?_|refine wf (by simpa [w1]) ?_|refine xt (by simpa [w1]) ?_|refine xf (by simpa [w1]) ?_|apply wp_bs|apply wp_b|refine wp_sr ?_|refine wp_sx ?_|refine wp_ret' ?_|refine wp_skip' ?_|refine wp_exit' ?_)
      exact in_loop n m es E g o hl h1 h2 a ha h k (b+1) (by omega)
    | true =>
      repeat (first|apply wp_as|apply wp_ss|refine wr (by simp [w1];with_reducible rfl) ?_|refine wq (by simp [w1];with_reducible rfl) ?_|refine wt (by simpa [w1]) ?_|refine wf (by simpa [w1]) ?_|refine xt (by simpa [w1]) ?_|refine xf (by simpa [w1]) ?_|apply wp_bs|apply wp_b|refine wp_sr ?_|refine wp_sx ?_|refine wp_ret' ?_|refine wp_skip' ?_|refine wp_exit' ?_)
      exact in_loop n m es E g o hl h1 h2 a ha h k (b+1) (by omega)
theorem out_loop (n m:Nat) (es E:List (Int×Int)) (g:Nat×Bool) (o:List Int) (hl:o.length≤1000)
    (h1:∀ x y,limF tb zl459 [] [.agg [I n,L2 es false],I x,I y] []=some ⟨Bo (hasM es x y),[],[],[]⟩)
    (h2:∀ x y,limF tb zl459 [] [.agg [I m,Lx E g],I x,I y] []=some ⟨Bo (hasM E x y),[],[],[]⟩)
    (h:∀ a b:Nat,b < a→a < o.length→hasM es (o.getD a 0) (o.getD b 0)=hasM E a b):∀ k a,a+k=o.length →
    wp tb (.loop z466l20) { T:=TC o a,loc:=[[I n,L2 es false],[I m,Lx E g]],M:=[] } fun ex st=>ex=.exit 0∧st={ T:=TC o o.length++[(82,Bo false)],loc:=[[I n,L2 es false],[I m,Lx E g]],M:=[] }
  | 0,a,hb=>by
    have:a=o.length:=by omega
    subst this
    refine wp_loop ?_
    repeat (first|apply wp_as|apply wp_ss|refine wr (by simp;with_reducible rfl) ?_|refine wq (by simp;with_reducible rfl) ?_|refine wt (by simpa) ?_|refine wf (by simpa) ?_|refine xt (by simpa) ?_|refine xf (by simpa) ?_|apply wp_bs|apply wp_b|refine wp_sr ?_|refine wp_sx ?_|refine wp_ret' ?_|refine wp_skip' ?_|refine wp_exit' ?_)
    exact ⟨rfl,rfl⟩
  | k+1,a,hb=>by
    have hlt:a < o.length:=by omega
    have w1:IntKind.i64.wrap ((a:Int)+1)=((a+1:Nat):Int):=wrapS (by omega)
    have ih:=out_loop n m es E g o hl h1 h2 h k (a+1) (by omega)
    refine wp_loop ?_
    repeat (first|apply wp_as|apply wp_ss|refine wr (by simp [hlt];with_reducible rfl) ?_|refine wq (by simp [hlt];with_reducible rfl) ?_|refine wt (by simpa [hlt]) ?_|refine wf (by simpa [hlt]) ?_|refine xt (by simpa [hlt]) ?_|refine xf (by simpa [hlt]) ?_|apply wp_bs|apply wp_b|refine wp_sr ?_|refine wp_sx ?_|refine wp_ret' ?_|refine wp_skip' ?_|refine wp_exit' ?_)
    refine wp_imp (in_loop n m es E g o hl h1 h2 a hlt (fun b hb=>h a b hb hlt) a 0 (by omega)) ?_
    rintro ex st ⟨rfl,rfl⟩
    show wp tb _ _ _
    repeat (first|apply wp_as|apply wp_ss|refine wr (by simp [w1];with_reducible rfl) ?_|refine wq (by simp [w1];with_reducible rfl) ?_|refine wt (by simpa [w1]) ?_|refine wf (by simpa [w1]) ?_|refine xt (by simpa [w1]) ?_|refine xf (by simpa [w1]) ?_|apply wp_bs|apply wp_b|refine wp_sr ?_|refine wp_sx ?_|refine wp_ret' ?_|refine wp_skip' ?_|refine wp_exit' ?_)
    exact ih
theorem ev_HasEdgeX (n:Int) (es:List (Int×Int)) (c:Nat×Bool) (a b:Int) (hl:es.length≤100000000∧(c.1=2 ∨ es=[])) (v1:limF tb zl26 [] [.agg [I n,Lx es c]] []=some ⟨Bo true,[],[],[]⟩) :
    Ev tb zl459 [] [.agg [I n,Lx es c],I a,I b] [] ⟨Bo (hasM es a b),[],[],[]⟩:=by
  have e2:=ev_lim (ev_has n c.1 es c.2 a b hl.2 hl.1 [])
  generalize hasM es a b=q at *
  refine call_of_wp zt459 rfl ?_
  repeat (first|apply wp_as|apply wp_ss|refine wr (by simp [v1,e2];with_reducible rfl) ?_|refine wq (by simp [v1,e2];with_reducible rfl) ?_|refine wt (by simpa [v1,e2]) ?_|refine wf (by simpa [v1,e2]) ?_|refine xt (by simpa [v1,e2]) ?_|refine xf (by simpa [v1,e2]) ?_|apply wp_bs|apply wp_b|refine wp_sr ?_|refine wp_sx ?_|refine wp_ret' ?_|refine wp_skip' ?_|refine wp_exit' ?_)
  simp [zi459]
set_option maxHeartbeats 4000000 in
theorem ev_FnCodeOf (code:List Int) (c:Bool) (h:∀ x ∈ code,0≤x∧x≤255) :
    Ev tb zl466 [] [.lst 1 (bytes code) c] [] ⟨Bo true,[],[],[]⟩:=by
  by_cases hc:(1048576:Int) < code.length
  · refine call_of_wp zt466 rfl ?_
    repeat (first|apply wp_as|apply wp_ss|refine wr (by simp [hc];with_reducible rfl) ?_|refine wq (by simp [hc];with_reducible rfl) ?_|refine wt (by simpa [hc]) ?_|refine wf (by simpa [hc]) ?_|refine xt (by simpa [hc]) ?_|refine xf (by simpa [hc]) ?_|apply wp_bs|apply wp_b|refine wp_sr ?_|refine wp_sx ?_|refine wp_ret' ?_|refine wp_skip' ?_|refine wp_exit' ?_)
    simp [zi466]
  obtain ⟨n,es,hS,e1⟩:=ev_DrawCodeOf code c h (by omega)
  have hel:=hS.len
  have v1:=ev_lim (ev_ValidGraph n es false hS.fit (by omega))
  have z1:=ev_lim ev_equalInts_Z
  by_cases hbad:vGraph n es=false ∨ n=0
  · have e2:=ev_lim (ev_impl_CodeOf_no n es false hS.fit (by omega) hbad)
    have e3:=ev_lim (ev_spec_CodeOf_no n es false (by omega) hbad)
    simp only [resC] at e2 e3
    have s1:=so_eql ByteArray.empty ByteArray.empty
    have s2:=so_neq ByteArray.empty ByteArray.empty
    rw [decide_eq_true rfl] at s1 s2
    cases hv:vGraph n es with
    | false =>
      rw [hv] at v1
      refine call_of_wp zt466 rfl ?_
      repeat (first|apply wp_as|apply wp_ss|refine wr (by simp [hc,e1,e2,e3,v1,z1,s1,s2];with_reducible rfl) ?_|refine wq (by simp [hc,e1,e2,e3,v1,z1,s1,s2];with_reducible rfl) ?_|refine wt (by simpa [hc,e1,e2,e3,v1,z1,s1,s2]) ?_|refine wf (by simpa [hc,e1,e2,e3,v1,z1,s1,s2]) ?_|refine xt (by simpa [hc,e1,e2,e3,v1,z1,s1,s2]) ?_|refine xf (by simpa [hc,e1,e2,e3,v1,z1,s1,s2]) ?_|apply wp_bs|apply wp_b|refine wp_sr ?_|refine wp_sx ?_|refine wp_ret' ?_|refine wp_skip' ?_|refine wp_exit' ?_)
      simp [zi466]
    | true =>
      rw [hv] at v1
      have hn0:n=0:=hbad.resolve_left (by rw [hv];simp)
      subst hn0
      refine call_of_wp zt466 rfl ?_
      repeat (first|apply wp_as|apply wp_ss|refine wr (by simp [hc,e1,e2,e3,v1,z1,s1,s2];with_reducible rfl) ?_|refine wq (by simp [hc,e1,e2,e3,v1,z1,s1,s2];with_reducible rfl) ?_|refine wt (by simpa [hc,e1,e2,e3,v1,z1,s1,s2]) ?_|refine wf (by simpa [hc,e1,e2,e3,v1,z1,s1,s2]) ?_|refine xt (by simpa [hc,e1,e2,e3,v1,z1,s1,s2]) ?_|refine xf (by simpa [hc,e1,e2,e3,v1,z1,s1,s2]) ?_|apply wp_bs|apply wp_b|refine wp_sr ?_|refine wp_sx ?_|refine wp_ret' ?_|refine wp_skip' ?_|refine wp_exit' ?_)
      simp [zi466]
  have hv:vGraph n es=true:=by
    cases hq:vGraph n es with
    | true=>rfl
    | false=>exact absurd (.inl hq) hbad
  have hn0:n ≠ 0:=fun hh=>hbad (.inr hh)
  have hn:=vG_n hv
  obtain ⟨n,rfl⟩:=Int.eq_ofNat_of_zero_le hn.1
  have hn1:((n:Int) == 0)=false:=by simpa using hn0
  have hn2:¬ n=0:=by omega
  rw [hv] at v1
  have e2:=ev_lim (ev_impl_CodeOf n es false hS.fit (by omega) hv hn0)
  have e3:=ev_lim (ev_spec_CodeOf n es false (by omega) (vG_in hv) hv (by omega))
  rw [codLaw hv] at e3
  rw [Int.toNat_natCast] at e2
  have hthr:=coI_thr hv
  have hdl:(degs n es).length=n:=by rw [degs,dfold_len];simp
  have e4:=ev_lim (ev_impl_DegreesOf n es false hS.fit (by omega) hv)
  have e5:=ev_lim (ev_IsThreshold (degs n es) false (by omega))
  rw [← hthr] at e5
  cases hq:coI es n (idxB n (-1)) [] [] with
  | none =>
    rw [hq] at e2 e3 e5
    simp only [resC,Option.isSome_none] at e2 e3 e5
    have s1:=so_neq ByteArray.empty ByteArray.empty
    rw [decide_eq_true rfl] at s1
    generalize degs n es=D at *
    refine call_of_wp zt466 rfl ?_
    repeat (first|apply wp_as|apply wp_ss|refine wr (by simp [hc,e1,e2,e3,e4,e5,v1,z1,hn0,hn1,hn2,s1];with_reducible rfl) ?_|refine wq (by simp [hc,e1,e2,e3,e4,e5,v1,z1,hn0,hn1,hn2,s1];with_reducible rfl) ?_|refine wt (by simpa [hc,e1,e2,e3,e4,e5,v1,z1,hn0,hn1,hn2,s1]) ?_|refine wf (by simpa [hc,e1,e2,e3,e4,e5,v1,z1,hn0,hn1,hn2,s1]) ?_|refine xt (by simpa [hc,e1,e2,e3,e4,e5,v1,z1,hn0,hn1,hn2,s1]) ?_|refine xf (by simpa [hc,e1,e2,e3,e4,e5,v1,z1,hn0,hn1,hn2,s1]) ?_|apply wp_bs|apply wp_b|refine wp_sr ?_|refine wp_sx ?_|refine wp_ret' ?_|refine wp_skip' ?_|refine wp_exit' ?_)
    simp [zi466]
  | some r =>
    obtain ⟨l,o⟩:=r
    obtain ⟨c1,c2,c3⟩:=coI_law hq
    obtain ⟨k1,k2,k3⟩:=codeS_ok c1 (by omega) c3
    have hol:o.length=n:=by rw [← c3.len,c1]
    rw [hq] at e2 e3 e5
    simp only [resC,Option.isSome_some] at e2 e3 e5
    have z2:=ev_lim (ev_equalInts o o false false (by omega) (by omega))
    simp only [decide_true] at z2
    have e6:=ev_lim (ev_impl_CodeGraph (strNums l) (by omega) k1)
    rw [k2] at e6
    have hcv:vGraph n (cgE (strNums l))=true:=by
      have:=cgE_vG (s:=strNums l) (by omega)
      rwa [k2] at this
    have hcf:Fit (cgE (strNums l)):=fun e he=>by have:=vG_in hcv e he;omega
    have hcl:(cgE (strNums l)).length≤49:=by
      have:=prs_len (n:=n) (by omega) (vG_sub hcv)
      omega
    have hadj:∀ a b:Nat,b < a→a < o.length→hasM es (o.getD a 0) (o.getD b 0)=hasM (cgE (strNums l)) a b:=fun a b hb ha=>by
      rw [c3.adj a b hb ha,k3 a b hb (by omega)]
    have g1:=fun x y=>ev_lim (ev_HasEdgeX n es (2,false) x y ⟨by omega,.inl rfl⟩ v1)
    have s1:=so_neq (strNums l) (strNums l)
    rw [decide_eq_true rfl] at s1
    generalize strNums l=s at *
    generalize degs n es=D at *
    cases hE:cgE s with
    | nil =>
      rw [hE] at e6 hadj hcv
      have v2:=ev_lim (ev_ValidGraph_Z n)
      rw [hcv] at v2
      have g2:=fun x y=>ev_lim (ev_HasEdgeX n [] (0,true) x y ⟨by simp,.inr rfl⟩ v2)
      have loop:=out_loop n n es [] (0,true) o (by omega) g1 g2 hadj o.length 0 (by omega)
      rw [nl2_nil] at e6
      refine call_of_wp zt466 rfl ?_
      repeat (first|apply wp_as|apply wp_ss|refine wr (by simp [hc,e1,e2,e3,v1,z2,hn0,hn1,hn2,e6,s1];with_reducible rfl) ?_|refine wq (by simp [hc,e1,e2,e3,v1,z2,hn0,hn1,hn2,e6,s1];with_reducible rfl) ?_|refine wt (by simpa [hc,e1,e2,e3,v1,z2,hn0,hn1,hn2,e6,s1]) ?_|refine wf (by simpa [hc,e1,e2,e3,v1,z2,hn0,hn1,hn2,e6,s1]) ?_|refine xt (by simpa [hc,e1,e2,e3,v1,z2,hn0,hn1,hn2,e6,s1]) ?_|refine xf (by simpa [hc,e1,e2,e3,v1,z2,hn0,hn1,hn2,e6,s1]) ?_|apply wp_bs|apply wp_b|refine wp_sr ?_|refine wp_sx ?_|refine wp_ret' ?_|refine wp_skip' ?_|refine wp_exit' ?_)
      refine wp_imp loop ?_
      rintro ex st ⟨rfl,rfl⟩
      show wp tb _ _ _
      repeat (first|apply wp_as|apply wp_ss|refine wr (by simp [e4,e5];with_reducible rfl) ?_|refine wq (by simp [e4,e5];with_reducible rfl) ?_|refine wt (by simpa [e4,e5]) ?_|refine wf (by simpa [e4,e5]) ?_|refine xt (by simpa [e4,e5]) ?_|refine xf (by simpa [e4,e5]) ?_|apply wp_bs|apply wp_b|refine wp_sr ?_|refine wp_sx ?_|refine wp_ret' ?_|refine wp_skip' ?_|refine wp_exit' ?_)
      simp [zi466]
    | cons x r =>
      rw [hE] at e6 hadj hcv hcf hcl
      have v2:=ev_lim (ev_ValidGraph n (x::r) false hcf (by omega))
      rw [hcv] at v2
      have g2:=fun a y=>ev_lim (ev_HasEdgeX n (x::r) (2,false) a y ⟨by omega,.inl rfl⟩ v2)
      have loop:=out_loop n n es (x::r) (2,false) o (by omega) g1 g2 hadj o.length 0 (by omega)
      rw [nl2_cons] at e6
      generalize x::r=E at *
      refine call_of_wp zt466 rfl ?_
      repeat (first|apply wp_as|apply wp_ss|refine wr (by simp [hc,e1,e2,e3,v1,z2,hn0,hn1,hn2,e6,s1];with_reducible rfl) ?_|refine wq (by simp [hc,e1,e2,e3,v1,z2,hn0,hn1,hn2,e6,s1];with_reducible rfl) ?_|refine wt (by simpa [hc,e1,e2,e3,v1,z2,hn0,hn1,hn2,e6,s1]) ?_|refine wf (by simpa [hc,e1,e2,e3,v1,z2,hn0,hn1,hn2,e6,s1]) ?_|refine xt (by simpa [hc,e1,e2,e3,v1,z2,hn0,hn1,hn2,e6,s1]) ?_|refine xf (by simpa [hc,e1,e2,e3,v1,z2,hn0,hn1,hn2,e6,s1]) ?_|apply wp_bs|apply wp_b|refine wp_sr ?_|refine wp_sx ?_|refine wp_ret' ?_|refine wp_skip' ?_|refine wp_exit' ?_)
      refine wp_imp loop ?_
      rintro ex st ⟨rfl,rfl⟩
      show wp tb _ _ _
      repeat (first|apply wp_as|apply wp_ss|refine wr (by simp [e4,e5];with_reducible rfl) ?_|refine wq (by simp [e4,e5];with_reducible rfl) ?_|refine wt (by simpa [e4,e5]) ?_|refine wf (by simpa [e4,e5]) ?_|refine xt (by simpa [e4,e5]) ?_|refine xf (by simpa [e4,e5]) ?_|apply wp_bs|apply wp_b|refine wp_sr ?_|refine wp_sx ?_|refine wp_ret' ?_|refine wp_skip' ?_|refine wp_exit' ?_)
      simp [zi466]
end Go.Idl
