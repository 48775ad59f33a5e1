/- Part 7 of a proof by an ideal interpreter of the code: its definitions and lemmas. Conditions: none. -/
import Derived.KernelRfl
import Derived.Test.YtfheodjhbaaalaaA6
set_option linter.all false
set_option linter.unusedVariables false
set_option linter.unusedSimpArgs false
namespace Go.Idl
open Go
theorem Mat_of {r c:List Int} {v:List (List Int)} (hr:∀ x ∈ r,0≤x) (hc:∀ x ∈ c,0≤x) (h:v ∈ fiR r c):Mat r.length c.length v:=by
  obtain ⟨h1,h2,_⟩:=(mem_fiR r c v hr hc).1 h
  exact ⟨by rw [← h1];simp,fun s hs=>⟨(h2 s hs).1,fun x hx=>by have:=(h2 s hs).2 x hx;omega⟩⟩
theorem scores_mapA (t:List (List Int)):scores t=t.map List.sum:=by
  refine List.ext_getElem (by simp [scores,mapR]) fun i h1 h2=>?_
  have hi:i < t.length:=by simpa using h2
  simp [scores,mapR,scr,List.getElem?_eq_getElem hi]
theorem S_rows (t:List (List Int)) (k:Nat):S (List.range t.length) (fun i=>g2 t i k)=S t (fun s=>s.getD k 0):=by
  have e2:t=(List.range t.length).map fun i=>t.getD i []:=by
    refine List.ext_getElem (by simp) fun i h1 h2=>?_
    simp [List.getElem?_eq_getElem h1]
  conv=>rhs;rw [e2]
  rw [S_map]
  rfl
theorem fiR_margins {r c:List Int} {v:List (List Int)} (hr:∀ x ∈ r,0≤x) (hc:∀ x ∈ c,0≤x) (h:v ∈ fiR r c):scores v=r∧colT c.length v=c:=by
  obtain ⟨h1,h2,h3⟩:=(mem_fiR r c v hr hc).1 h
  refine ⟨by rw [scores_mapA,h1],List.ext_getElem (colT_len _ _) fun k k1 k2=>?_⟩
  rw [← getD_get k1,colT_get _ _ k k2 (fun s hs=>(h2 s hs).1),S_rows,h3 k k2,getD_get k2]
theorem mem_fiR' {r c:List Int} {v:List (List Int)} (hr:∀ x ∈ r,0≤x) (hc:∀ x ∈ c,0≤x) :
    v ∈ fiR r c ↔ Mat r.length c.length v∧scores v=r∧colT c.length v=c:=by
  constructor
  · intro h;exact ⟨Mat_of hr hc h,fiR_margins hr hc h⟩
  · rintro ⟨h1,h2,h3⟩
    refine (mem_fiR r c v hr hc).2 ⟨by rw [← scores_mapA];exact h2,fun s hs=>⟨(h1.row s hs).1,fun x hx=>by have:=(h1.row s hs).2 x hx;omega⟩,fun k hk=>?_⟩
    rw [← S_rows,← colT_get c.length v k hk (fun s hs=>(h1.row s hs).1),h3]
def tr2 (C:Nat) (u:List (List Int)):List (List Int):=(List.range C).map fun k=>u.map fun s=>s.getD k 0
theorem tr2_g2 {C:Nat} {u:List (List Int)} {k i:Nat} (hk:k < C):g2 (tr2 C u) k i=g2 u i k:=by
  rw [g2,tr2,List.getD_eq_getElem?_getD (l:=List.map _ _),List.getElem?_map,List.getElem?_range hk]
  simp only [Option.map_some,Option.getD_some]
  rw [g2,List.getD_eq_getElem?_getD,List.getElem?_map,List.getD_eq_getElem?_getD (l:=u)]
  cases u[i]? with
  | none=>simp
  | some s=>simp
theorem g2_ext {h w:Nat} {u v:List (List Int)} (hu:Mat h w u) (hv:Mat h w v) (he:∀ i k,i < h→k < w→g2 u i k=g2 v i k):u=v:=by
  refine List.ext_getElem (by rw [hu.len,hv.len]) fun i i1 i2=>?_
  have l1:=(hu.row _ (List.getElem_mem i1)).1
  have l2:=(hv.row _ (List.getElem_mem i2)).1
  refine List.ext_getElem (by rw [l1,l2]) fun k k1 k2=>?_
  have:=he i k (by rw [← hu.len];exact i1) (by rw [← l1];exact k1)
  rw [g2,g2,List.getD_eq_getElem?_getD (l:=u),List.getElem?_eq_getElem i1,List.getD_eq_getElem?_getD (l:=v),List.getElem?_eq_getElem i2,Option.getD_some,Option.getD_some,getD_get k1,getD_get k2] at this
  exact this
theorem tr2_Mat {h w:Nat} {u:List (List Int)} (hu:Mat h w u):Mat w h (tr2 w u):=by
  refine ⟨by simp [tr2],fun s hs=>?_⟩
  obtain ⟨k,_,rfl⟩:=List.mem_map.1 hs
  refine ⟨by simp [hu.len],fun x hx=>?_⟩
  obtain ⟨s,hs,rfl⟩:=List.mem_map.1 hx
  have:=getD01 (s:=s) (fun y hy=>by have:=(hu.row s hs).2 y hy;omega) k
  omega
theorem scores_get {h w:Nat} {t:List (List Int)} (m:Mat h w t) {v:Nat} (hv:v < h):(scores t).getD v 0=S (List.range w) (fun k=>g2 t v k):=by
  have hsl:(scores t).length=h:=by simp [scores,mapR,m.len]
  rw [← m.scr hv,getD_get (by omega)];simp [scores,mapR]
theorem tr2_margins {h w:Nat} {u:List (List Int)} (hu:Mat h w u):scores (tr2 w u)=colT w u∧colT h (tr2 w u)=scores u:=by
  have ht:=tr2_Mat hu
  have l1:(scores (tr2 w u)).length=w:=by simp [scores,mapR,ht.len]
  have l2:(scores u).length=h:=by simp [scores,mapR,hu.len]
  constructor
  · refine List.ext_getElem (by rw [l1,colT_len]) fun k k1 k2=>?_
    have hk:k < w:=by omega
    rw [← getD_get k1,← getD_get k2,scores_get ht hk,colT_get w u k hk (fun s hs=>(hu.row s hs).1),hu.len]
    exact S_congr fun i _=>tr2_g2 hk
  · refine List.ext_getElem (by rw [l2,colT_len]) fun i i1 i2=>?_
    have hi:i < h:=by omega
    rw [← getD_get i1,← getD_get i2,scores_get hu hi,colT_get h (tr2 w u) i hi (fun s hs=>(ht.row s hs).1),ht.len]
    exact S_congr fun k hk=>tr2_g2 (List.mem_range.1 hk)
theorem fiR_le {r c:List Int} (hr:∀ x ∈ r,0≤x) (hc:∀ x ∈ c,0≤x):(fiR r c).length≤(fiR c r).length:=by
  refine len_inj (tr2 c.length) (fiR_nodup r c) (fun x hx y hy h=>?_) fun u hu=>?_
  · refine g2_ext (Mat_of hr hc hx) (Mat_of hr hc hy) fun i k _ hk=>?_
    rw [← tr2_g2 hk,h,tr2_g2 hk]
  · have hm:=Mat_of hr hc hu
    obtain ⟨e1,e2⟩:=fiR_margins hr hc hu
    obtain ⟨t1,t2⟩:=tr2_margins hm
    exact (mem_fiR' hc hr).2 ⟨tr2_Mat hm,by rw [t1,e2],by rw [t2,e1]⟩
theorem fiR_turn {r c:List Int} (hr:∀ x ∈ r,0≤x) (hc:∀ x ∈ c,0≤x):(fiR c r).length=(fiR r c).length:=Nat.le_antisymm (fiR_le hc hr) (fiR_le hr hc)
theorem ind_sum (h:Nat):∀ js:List Int,js.Nodup→(∀ j ∈ js,0≤j∧j < (h:Int))→S (List.range h) (fun k=>if (k:Int) ∈ js then 1 else 0)=js.length
  | [],_,_=>by simp [S_zero]
  | j::js,hn,hj=>by
    obtain ⟨n1,n2⟩:=List.nodup_cons.1 hn
    have ih:=ind_sum h js n2 fun k hk=>hj k (by simp [hk])
    have hb:=hj j (by simp)
    have e1:=S_one (List.nodup_range (n:=h)) j.toNat
    rw [if_pos (List.mem_range.2 (by omega))] at e1
    have e2:=S_add (List.range h) (fun k=>if j.toNat=k then 1 else 0) (fun k=>if (k:Int) ∈ js then 1 else 0)
    rw [e1,ih] at e2
    rw [List.length_cons,← S_congr (f:=fun k:Nat=>(if j.toNat=k then (1:Int) else 0)+if (k:Int) ∈ js then 1 else 0) fun k _=>?_,e2]
    · omega
    · by_cases q:j.toNat=k
      · have hk:(k:Int)=j:=by omega
        rw [if_pos q,hk,if_neg n1,if_pos (by simp)];rfl
      · have hk:¬ (k:Int)=j:=by omega
        rw [if_neg q]
        by_cases q2:(k:Int) ∈ js
        · rw [if_pos q2,if_pos (by simp [q2])];rfl
        · rw [if_neg q2,if_neg (by simp [q2,hk])];rfl
theorem gr_some {h:Nat} (h1:1≤h) (h5:h≤5):∀ (xs c:List Int),xs.length≤5→(∀ y ∈ xs,0≤y∧y≤h)→c.length=h→(∀ y ∈ c,0≤y∧y≤5)→gr xs c=true→fiR xs c ≠ []
  | [],c,_,_,_,_,hg=>by
    simp only [gr,gale,mapR,noneNeg,Bool.and_eq_true,decide_eq_true_eq,List.sum_nil] at hg
    rw [fiR,if_pos (of_decide_eq_true hg.1).symm];simp
  | x::xs,c,hl,hx,hcl,hc,hg=>by
    have hxb:=hx x (by simp)
    obtain ⟨js,hjs⟩:∃ js,js=topD c (idxB h (-1)) x.toNat:=⟨_,rfl⟩
    have hSp:(srtC (gtD c) [] (idxB h (-1))).Perm (idxB h (-1)):=by simpa using srtC_perm (gtD c) (idxB h (-1)) []
    have hSn:(srtC (gtD c) [] (idxB h (-1))).Nodup:=by
      refine hSp.nodup_iff.2 ?_
      rw [idxB_allQ]
      refine List.Pairwise.map _ ?_ List.nodup_range
      intro a b hab he;exact hab (by omega)
    have hn:js.Nodup:=by rw [hjs,topD];exact hSn.sublist (List.take_sublist _ _)
    have hjb:∀ j ∈ js,0≤j∧j < (h:Int):=by rw [hjs];exact topD_in c h x.toNat
    have hjl:js.length=x.toNat:=by
      have:(srtC (gtD c) [] (idxB h (-1))).length=h:=by rw [hSp.length_eq,idxB_allQ];simp
      rw [hjs,topD,List.length_take,this];omega
    rcases takeT_what 0 js c [] hn (fun j hj=>by have:=hjb j hj;omega) with ⟨e1,_⟩ | ⟨c',t',e1,_,e3,e4⟩
    · rcases gr_step h1 h5 0 x xs c [] hx hl hc hcl with ⟨a1,a2⟩ | ⟨c2,t2,a1,_⟩
      · rw [a2] at hg;cases hg
      · rw [← hjs,e1] at a1;cases a1
    · rcases gr_step h1 h5 0 x xs c [] hx hl hc hcl with ⟨a1,a2⟩ | ⟨c2,t2,a1,a2,a3,a4⟩
      · rw [a2] at hg;cases hg
      · rw [← hjs,e1] at a1
        injection a1 with a1
        injection a1 with a1 _
        subst a1
        rw [a2] at hg
        have ih:=gr_some h1 h5 xs c' (by simp at hl;omega) (fun y hy=>hx y (by simp [hy])) a3 a4 hg
        obtain ⟨s,hs⟩:∃ s:List Int,s=(List.range h).map fun k:Nat=>if (k:Int) ∈ js then 1 else 0:=⟨_,rfl⟩
        have s1:s.length=h:=by rw [hs];simp
        have s2:∀ y ∈ s,y=0 ∨ y=1:=by
          intro y hy
          rw [hs] at hy
          obtain ⟨k,_,rfl⟩:=List.mem_map.1 hy
          split
          · exact .inr rfl
          · exact .inl rfl
        have s3:s.sum=(x.toNat:Int):=by
          have:=ind_sum h js hn hjb
          rw [hjl] at this
          rw [hs];exact this
        have hles:lessR c s=c':=by
          refine List.ext_getElem (by rw [lessR_len,hcl,a3]) fun k k1 k2=>?_
          have hk:k < h:=by rw [lessR_len,hcl] at k1;exact k1
          rw [← getD_get k1,← getD_get k2,less_get (by omega),e4 k,hs,List.getD_eq_getElem?_getD (l:=List.map _ _),List.getElem?_map,List.getElem?_range hk]
          rfl
        cases hf:fiR xs c' with
        | nil=>exact absurd hf ih
        | cons v _ =>
          have hm:s::v ∈ fiR (x::xs) c:=by
            rw [fiR,List.mem_flatMap]
            refine ⟨s,(mem_rwR _ _ s).2 ⟨by omega,s2,s3⟩,?_⟩
            rw [hles,if_pos fun y hy=>(a4 y hy).1,hf]
            simp
          intro hnil
          rw [hnil] at hm
          simp at hm
theorem bigr_some (r c:List Int) (hv:vMar r c=true):decide (0 < (fiR r c).length)=bigr r c:=by
  obtain ⟨q1,q2,q3,q4⟩:=vMar_iff hv
  have hr:∀ x ∈ r,0≤x:=fun x hx=>(q3 x hx).1
  have hc:∀ x ∈ c,0≤x:=fun x hx=>(q4 x hx).1
  rw [bigr_gr,hv,Bool.true_and]
  cases hg:gr r c with
  | true =>
    have:=gr_some q2.1 q2.2 r c q1.2 q3 rfl (fun y hy=>by have:=q4 y hy;omega) hg
    exact decide_eq_true (List.length_pos_iff.2 this)
  | false =>
    refine decide_eq_false fun h0=>?_
    have hm:=List.getElem_mem h0
    have m:=Mat_of hr hc hm
    obtain ⟨e1,e2⟩:=fiR_margins hr hc hm
    have s1:=mg_sum m
    have s2:=fun i=>mg_gale m i
    rw [e1,e2] at s1 s2
    have:gr r c=true:=by
      simp only [gr,noneNeg,gale,mapR,Bool.and_eq_true,decide_eq_true_eq,List.all_eq_true,List.mem_map,List.mem_range]
      refine ⟨s1,?_⟩
      rintro x ⟨i,-,rfl⟩
      exact s2 i
    rw [hg] at this;cases this
theorem S_all_zero {α:Type}:∀ {l:List α} {f:α→Int},(∀ a ∈ l,0≤f a)→S l f=0→∀ a ∈ l,f a=0
  | [],_,_,_,a,ha=>by simp at ha
  | x::l,f,h,hs,a,ha=>by
    have h1:=h x (by simp)
    have h2:0≤S l f:=S_nonneg fun b hb=>h b (by simp [hb])
    rw [S_cons] at hs
    rcases List.mem_cons.1 ha with rfl | ha
    · omega
    · exact S_all_zero (fun b hb=>h b (by simp [hb])) (by omega) a ha
def eg (g:List (Int×Int)) (u v:Nat):Int:=if u=v then 0 else if mk u v ∈ g then 1 else 0
theorem eg_b (g:List (Int×Int)) (u v:Nat):0≤eg g u v∧eg g u v≤if u=v then 0 else 1:=by
  rw [eg];split
  · omega
  · split <;> omega
theorem eg_comm (g:List (Int×Int)) (u v:Nat):eg g u v=eg g v u:=by
  rw [eg,eg,mk_comm]
  by_cases h:u=v
  · rw [if_pos h,if_pos h.symm]
  · have h':¬ v=u:=fun q=>h q.symm
    rw [if_neg h,if_neg h']
theorem deg_eg {n:Nat} (hn:n≤7) {g:List (Int×Int)} (hg:vGraph n g=true) {v:Nat} (hv:v < n):deg g v=S (List.range n) (fun u=>eg g u v):=by
  conv=>lhs;rw [vG_filter hg]
  rw [deg_filter hn _ hv]
  refine S_congr fun u _=>?_
  rw [eg]
  by_cases h:u=v
  · rw [if_pos h,if_pos h]
  · rw [if_neg h,if_neg h]
    by_cases hm:mk u v ∈ g
    · rw [if_pos hm,if_pos (decide_eq_true hm)]
    · rw [if_neg hm,if_neg (by simp [hm])]
theorem joined_len (r c:List Int):(joined r c).length=r.length+c.length:=by simp [joined]
theorem joined_row {r c:List Int} {v:Nat} (hv:v < r.length):(joined r c).getD v 0=r.getD v 0+(r.length:Int) - 1:=by
  rw [joined,List.getD_eq_getElem?_getD,List.getElem?_append_left (by simpa using hv),List.getElem?_map,List.getElem?_eq_getElem hv,getD_get hv]
  rfl
theorem joined_col {r c:List Int} {k:Nat}:(joined r c).getD (r.length+k) 0=c.getD k 0:=by
  rw [joined,List.getD_eq_getElem?_getD,List.getElem?_append_right (by simp)]
  simp [List.getD_eq_getElem?_getD]
theorem joined_split {r c:List Int} {g:List (Int×Int)} (h7:r.length+c.length≤7) (hs:r.sum=c.sum) (hg:vGraph (r.length+c.length) g=true) (hd:degs (r.length+c.length) g=joined r c) :
    (∀ u v,u < r.length→v < r.length→u ≠ v→eg g u v=1)∧(∀ k l,k < c.length→l < c.length→eg g (r.length+k) (r.length+l)=0) ∧
    (∀ v,v < r.length→S (List.range c.length) (fun k=>eg g v (r.length+k))=r.getD v 0)∧(∀ k,k < c.length→S (List.range r.length) (fun v=>eg g v (r.length+k))=c.getD k 0):=by
  generalize hR:r.length=R at *
  generalize hC:c.length=C at *
  have hdv:=(deg_degs (vG_sub hg) (by rw [joined_len,hR,hC])).2 hd
  have p1:∀ v,v < R→S (List.range R) (fun u=>eg g u v)+S (List.range C) (fun k=>eg g (R+k) v)=r.getD v 0+(R:Int) - 1:=fun v hv=>by
    rw [← range_two_parts,← deg_eg h7 hg (by omega),hdv v (by omega),← hR]
    exact joined_row (by omega)
  have p2:∀ k,k < C→S (List.range R) (fun u=>eg g u (R+k))+S (List.range C) (fun l=>eg g (R+l) (R+k))=c.getD k 0:=fun k hk=>by
    rw [← range_two_parts,← deg_eg h7 hg (by omega),hdv _ (by omega),← hR]
    exact joined_col
  have hrow:∀ v,v < R→S (List.range R) (fun u=>eg g u v)≤(R:Int) - 1:=fun v hv=>by
    rw [← S_but R v hv]
    exact S_le fun u _=>(eg_b g u v).2
  have a1:S (List.range R) (fun v=>S (List.range R) (fun u=>eg g u v)+S (List.range C) (fun k=>eg g (R+k) v))=S (List.range R) (fun v=>r.getD v 0+(R:Int) - 1):=S_congr fun v hv=>p1 v (List.mem_range.1 hv)
  have a2:S (List.range C) (fun k=>S (List.range R) (fun u=>eg g u (R+k))+S (List.range C) (fun l=>eg g (R+l) (R+k)))=S (List.range C) (fun k=>c.getD k 0):=S_congr fun k hk=>p2 k (List.mem_range.1 hk)
  rw [S_add] at a1 a2
  have b1:S (List.range R) (fun v=>r.getD v 0+(R:Int) - 1)=r.sum+S (List.range R) (fun _=>(R:Int) - 1):=by
    rw [sum_S r,hR,← S_add]
    exact S_congr fun v _=>by omega
  have b2:S (List.range C) (fun k=>c.getD k 0)=c.sum:=by rw [sum_S c,hC]
  have b3:S (List.range C) (fun k=>S (List.range R) (fun u=>eg g u (R+k)))=S (List.range R) (fun v=>S (List.range C) (fun k=>eg g (R+k) v)):=by
    rw [S_swap]
    exact S_congr fun v _=>S_congr fun k _=>eg_comm g v (R+k)
  rw [b1] at a1
  rw [b2,b3] at a2
  have c1:0≤S (List.range C) (fun k=>S (List.range C) (fun l=>eg g (R+l) (R+k))):=S_nonneg fun k _=>S_nonneg fun l _=>(eg_b g _ _).1
  have c2:S (List.range R) (fun v=>S (List.range R) (fun u=>eg g u v))≤S (List.range R) (fun _=>(R:Int) - 1):=S_le fun v hv=>hrow v (List.mem_range.1 hv)
  have z1:S (List.range C) (fun k=>S (List.range C) (fun l=>eg g (R+l) (R+k)))=0:=by omega
  have z2:S (List.range R) (fun v=>((R:Int) - 1) - S (List.range R) (fun u=>eg g u v))=0:=by rw [S_sub];omega
  have y1:∀ k,k < C→S (List.range C) (fun l=>eg g (R+l) (R+k))=0:=fun k hk=>S_all_zero (fun k _=>S_nonneg fun l _=>(eg_b g _ _).1) z1 k (List.mem_range.2 hk)
  have y2:∀ v,v < R→S (List.range R) (fun u=>eg g u v)=(R:Int) - 1:=fun v hv=>by
    have:=S_all_zero (fun v hv=>by have:=hrow v (List.mem_range.1 hv);omega) z2 v (List.mem_range.2 hv)
    omega
  refine ⟨fun u v hu hv huv=>?_,fun k l hk hl=>?_,fun v hv=>?_,fun k hk=>?_⟩
  · have e1:S (List.range R) (fun u=>(if u=v then 0 else 1) - eg g u v)=0:=by rw [S_sub,S_but R v hv,y2 v hv];omega
    have:=S_all_zero (fun u _=>by have:=(eg_b g u v).2;omega) e1 u (List.mem_range.2 hu)
    rw [if_neg huv] at this
    omega
  · exact S_all_zero (fun l _=>(eg_b g _ _).1) (y1 l hl) k (List.mem_range.2 hk)
  · have:=p1 v hv
    rw [y2 v hv] at this
    rw [S_congr (g:=fun k=>eg g (R+k) v) fun k _=>eg_comm g _ _]
    omega
  · have:=p2 k hk
    rw [y1 k hk] at this
    omega
def tblG (R C:Nat) (g:List (Int×Int)):List (List Int):=(List.range R).map fun a=>(List.range C).map fun b=>eg g a (R+b)
theorem tbl_g2 {R C:Nat} {g:List (Int×Int)} {a b:Nat} (ha:a < R) (hb:b < C):g2 (tblG R C g) a b=eg g a (R+b):=by
  rw [g2,tblG,List.getD_eq_getElem?_getD (l:=List.map _ _),List.getElem?_map,List.getElem?_range ha]
  simp only [Option.map_some,Option.getD_some]
  rw [List.getD_eq_getElem?_getD,List.getElem?_map,List.getElem?_range hb];rfl
theorem tbl_Mat (R C:Nat) (g:List (Int×Int)):Mat R C (tblG R C g):=by
  refine ⟨by simp [tblG],fun s hs=>?_⟩
  obtain ⟨a,_,rfl⟩:=List.mem_map.1 hs
  refine ⟨by simp,fun x hx=>?_⟩
  obtain ⟨b,_,rfl⟩:=List.mem_map.1 hx
  have:=eg_b g a (R+b)
  split at this <;> omega
theorem eg_mem {g:List (Int×Int)} {e:Int×Int} {n:Nat} (he:e ∈ prs n):e ∈ g ↔ eg g e.1.toNat e.2.toNat=1:=by
  have:=mem_prs.1 he
  rw [eg,if_neg (by omega),mk_nat he]
  by_cases h:e ∈ g
  · rw [if_pos h];simp [h]
  · rw [if_neg h];simp [h]
theorem mg_inj {R C:Nat} {u v:List (List Int)} (hu:Mat R C u) (hv:Mat R C v) (h:mgE R C u=mgE R C v):u=v:=by
  refine g2_ext hu hv fun i k hi hk=>?_
  have key:∀ t,Mat R C t→(((i:Int),(R:Int)+(k:Int)) ∈ mgE R C t ↔ g2 t i k=1):=fun t _=>by
    rw [mem_mgE,mgP_mix hi,decide_eq_true_eq]
    exact ⟨fun q=>q.2,fun q=>⟨⟨by omega,by simp only;omega,by simp only;omega⟩,q⟩⟩
  have h1:=hu.ent hi k
  have h2:=hv.ent hi k
  have k1:=key u hu
  have k2:=key v hv
  rw [h] at k1
  by_cases q:((i:Int),(R:Int)+(k:Int)) ∈ mgE R C v
  · rw [k1.1 q,k2.1 q]
  · have q1:¬ g2 u i k=1:=fun z=>q (k1.2 z)
    have q2:¬ g2 v i k=1:=fun z=>q (k2.2 z)
    omega
theorem fiR_reals {r c:List Int} (hr:∀ x ∈ r,0≤x) (hc:∀ x ∈ c,0≤x) (h7:r.length+c.length≤7) (hs:r.sum=c.sum):(reals (joined r c)).length=(fiR r c).length:=by
  have hl:=joined_len r c
  refine Nat.le_antisymm ?_ ?_
  · refine len_inj (tblG r.length c.length) (reals_nodup _) (fun x hx y hy h=>?_) fun g hg=>?_
    · obtain ⟨x1,x2⟩:=(mem_reals (by omega) x).1 hx
      obtain ⟨y1,y2⟩:=(mem_reals (by omega) y).1 hy
      rw [hl] at x1 x2 y1 y2
      obtain ⟨a1,a2,_,_⟩:=joined_split h7 hs x1 x2
      obtain ⟨b1,b2,_,_⟩:=joined_split h7 hs y1 y2
      rw [vG_filter x1,vG_filter y1]
      refine List.filter_congr fun e he=>?_
      rw [decide_eq_decide,eg_mem he,eg_mem he]
      have hb:=mem_prs.1 he
      suffices hq:eg x e.1.toNat e.2.toNat=eg y e.1.toNat e.2.toNat by rw [hq]
      by_cases h2:e.2.toNat < r.length
      · rw [a1 _ _ (by omega) h2 (by omega),b1 _ _ (by omega) h2 (by omega)]
      · obtain ⟨k,hk⟩:∃ k,e.2.toNat=r.length+k:=⟨e.2.toNat - r.length,by omega⟩
        by_cases h1:e.1.toNat < r.length
        · rw [hk,← tbl_g2 (R:=r.length) (C:=c.length) h1 (by omega),h,tbl_g2 h1 (by omega)]
        · obtain ⟨l,hl⟩:∃ l,e.1.toNat=r.length+l:=⟨e.1.toNat - r.length,by omega⟩
          rw [hk,hl,a2 _ _ (by omega) (by omega),b2 _ _ (by omega) (by omega)]
    · obtain ⟨x1,x2⟩:=(mem_reals (by omega) g).1 hg
      rw [hl] at x1 x2
      obtain ⟨_,_,a3,a4⟩:=joined_split h7 hs x1 x2
      have m:=tbl_Mat r.length c.length g
      refine (mem_fiR' hr hc).2 ⟨m,?_,?_⟩
      · have hsl:(scores (tblG r.length c.length g)).length=r.length:=by simp [scores,mapR,m.len]
        refine List.ext_getElem hsl fun i i1 i2=>?_
        rw [← getD_get i1,scores_get m i2,← getD_get i2,← a3 i i2]
        exact S_congr fun k hk=>tbl_g2 i2 (List.mem_range.1 hk)
      · refine List.ext_getElem (colT_len _ _) fun k k1 k2=>?_
        rw [← getD_get k1,colT_get _ _ k k2 (fun s hs=>(m.row s hs).1),m.len,← getD_get k2,← a4 k k2]
        exact S_congr fun i hi=>tbl_g2 (List.mem_range.1 hi) k2
  · refine len_inj (mgE r.length c.length) (fiR_nodup r c) (fun x hx y hy h=>mg_inj (Mat_of hr hc hx) (Mat_of hr hc hy) h) fun u hu=>?_
    have m:=Mat_of hr hc hu
    obtain ⟨e1,e2⟩:=fiR_margins hr hc hu
    refine (mem_reals (by omega) _).2 ?_
    rw [hl]
    exact ⟨filter_vG h7 _,by rw [mg_degs m h7,e1,e2]⟩
end Go.Idl
namespace Go.Idl
open Go
def Tmx (t:List (List Int)):Prop:=t.length≤6∧∀ r ∈ t,r.length≤5
theorem MM.tm {h w:Nat} {t:List (List Int)} (m:MM h w t) (hh:h≤5) (hw:w≤5):Tmx t:=⟨by have:=m.1;omega,fun r hr=>by have:=(m.2 r hr).1;omega⟩
end Go.Idl
namespace Go.Idl
open Go
theorem Small2_mat {h w:Nat} {t:List (List Int)} (m:Mat h w t) (hh:h≤5) (hw:w≤5):Small2 t:=by
  refine ⟨by rw [m.len];omega,fun r hr=>⟨?_,fun x hx=>?_⟩⟩
  · rw [(m.row r hr).1];omega
  · have:=(m.row r hr).2 x hx;omega
theorem mOk_of {h w:Nat} {t:List (List Int)} (m:Mat h w t) (hh:1≤h∧h≤5) (hw:1≤w∧w≤5):mOk t=true:=by
  have h0:0 < t.length:=by rw [m.len];omega
  have e0:(t.getD 0 []).length=w:=by
    rw [List.getD_eq_getElem?_getD,List.getElem?_eq_getElem h0]
    exact (m.row _ (List.getElem_mem h0)).1
  simp only [mOk,rowOk,Bool.and_eq_true,List.all_eq_true,decide_eq_true_eq,e0]
  refine ⟨fun r hr=>⟨⟨(m.row r hr).1,?_⟩,fun x hx=>(m.row r hr).2 x hx⟩,?_⟩
  · rw [(m.row r hr).1];omega
  · rw [m.len];omega
theorem fiR_len16:∀ (r c:List Int),c.length≤4→(fiR r c).length≤16 ^ r.length
  | [],c,_=>by rw [fiR];split <;> simp
  | x::r,c,h=>by
    have h1:=flatMap_le (f:=fun s=>if (∀ y ∈ lessR c s,0≤y) then (fiR r (lessR c s)).map (s::·) else []) (b:=16 ^ r.length) (rwR c.length x.toNat) fun s _=>by
      split
      · rw [List.length_map];exact fiR_len16 r _ (by rw [lessR_len];exact h)
      · simp
    have h2:=rwS_len c.length [] x.toNat
    rw [rwS_rwR,List.length_map] at h2
    have h3:2 ^ c.length≤2 ^ 4:=Nat.pow_le_pow_right (by omega) h
    have h4:(rwR c.length x.toNat).length * 16 ^ r.length≤16 * 16 ^ r.length:=Nat.mul_le_mul_right _ (by omega)
    rw [fiR,List.length_cons,Nat.pow_succ,Nat.mul_comm (16 ^ r.length)]
    exact Nat.le_trans h1 h4
theorem am_l13 (a b:List Int) (hva:vMar a b=true) (G:List (List (List Int))) (hG:G=fiR a b) (hGl:G.length≤1000000):∀ (m i:Nat),i+m=G.length →
    wp tb (.loop z525l13) { T:=[(3,O a),(4,O b),(5,.own 1 (cub G)),(6,I i)],loc:=[],M:=[] }
      (fun ex st=>ex=.exit 0∧st={ T:=[(3,O a),(4,O b),(5,.own 1 (cub G)),(6,I G.length),(52,Bo false)],loc:=[],M:=[] }):=by
  intro m
  obtain ⟨q1,q2,q3,q4⟩:=vMar_iff hva
  have hr:∀ x ∈ a,0≤x:=fun x hx=>(q3 x hx).1
  have hc:∀ x ∈ b,0≤x:=fun x hx=>(q4 x hx).1
  have hnd:G.Nodup:=by rw [hG];exact fiR_nodup a b
  induction m with
  | zero =>
    intro i hi
    have h3:i=G.length:=hi
    subst h3
    refine wp_loop ?_
    repeat (first|apply wp_as|apply wp_ss|refine wr (by simp;with_reducible rfl) ?_|refine wq (by simp;with_reducible rfl) ?_|refine wt (by simpa) ?_|refine wf (by simpa) ?_|refine xt (by simpa) ?_|refine xf (by simpa) ?_|apply wp_bs|apply wp_b|refine wp_sr ?_|refine wp_sx ?_|refine wp_ret' ?_|refine wp_skip' ?_|refine wp_exit' ?_)
    first | done | exact ⟨rfl,rfl⟩
  | succ m ih =>
    intro i hi
    have hi2:i < G.length:=by omega
    have w2:IntKind.i64.wrap ((i:Int)+1)=((i+1:Nat):Int):=wrapS (by omega)
    have hm:G[i] ∈ fiR a b:=by rw [← hG];exact List.getElem_mem hi2
    have M:=Mat_of hr hc hm
    obtain ⟨s1,s2⟩:=fiR_margins hr hc hm
    have e1:=ev_lim (ev_MarginsX a.length b.length G[i] false q1 q2 M.len M.row (mOk_of M q1 q2))
    rw [s1,s2] at e1
    have hat:a.take a.length=a:=List.take_of_length_le (by omega)
    have hbt:b.take b.length=b:=List.take_of_length_le (by omega)
    have e2:=fun c1 c2=>ev_lim (ev_equalInts a a c1 c2 (by omega) (by omega))
    have e3:=fun c1 c2=>ev_lim (ev_equalInts b b c1 c2 (by omega) (by omega))
    simp only [decide_true] at e2 e3
    have hg:=ih (i+1) (by omega)
    cases i with
    | zero =>
      refine wp_loop ?_
      rw [show ((0:Nat):Int)=0 from rfl] at *
      repeat (first|apply wp_as|apply wp_ss|refine wr (by simp [hi2,e1,e2,e3,w2,hat,hbt];with_reducible rfl) ?_|refine wq (by simp [hi2,e1,e2,e3,w2,hat,hbt];with_reducible rfl) ?_|refine wt (by simpa [hi2,e1,e2,e3,w2,hat,hbt]) ?_|refine wf (by simpa [hi2,e1,e2,e3,w2,hat,hbt]) ?_|refine xt (by simpa [hi2,e1,e2,e3,w2,hat,hbt]) ?_|refine xf (by simpa [hi2,e1,e2,e3,w2,hat,hbt]) ?_|apply wp_bs|apply wp_b|refine wp_sr ?_|refine wp_sx ?_|refine wp_ret' ?_|refine wp_skip' ?_|refine wp_exit' ?_)
      exact hg
    | succ i =>
      have hi3:i < G.length:=by omega
      have hm2:G[i] ∈ fiR a b:=by rw [← hG];exact List.getElem_mem hi3
      have M2:=Mat_of hr hc hm2
      have hne:¬ G[i]=G[i+1]:=List.pairwise_iff_getElem.1 hnd i (i+1) hi3 hi2 (by omega)
      have e4:=ev_lim (ev_equalLists G[i] G[i+1] false false (Small2_mat M2 q1.2 q2.2) (Small2_mat M q1.2 q2.2))
      rw [decide_eq_false hne] at e4
      have w3:IntKind.i64.wrap ((i:Int)+1 - 1)=(i:Int):=by rw [show (i:Int)+1 - 1=(i:Int) by omega];exact wrap64 (by omega) (by omega)
      have w3':IntKind.i64.wrap (i:Int)=(i:Int):=wrap64 (by omega) (by omega)
      have hp:(0:Int) < (i:Int)+1:=by omega
      have hi4:(i:Int)+1 < (G.length:Int):=by omega
      have w2':IntKind.i64.wrap ((i:Int)+1+1)=(i:Int)+1+1:=wrap64 (by omega) (by omega)
      rw [show ((i+1+1:Nat):Int)=(i:Int)+1+1 by omega] at hg
      refine wp_loop ?_
      repeat (first|apply wp_as|apply wp_ss|refine wr (by simp [hi2,hi3,hi4,e1,e2,e3,e4,w2',w3,w3',hp,hat,hbt];with_reducible rfl) ?_|refine wq (by simp [hi2,hi3,hi4,e1,e2,e3,e4,w2',w3,w3',hp,hat,hbt];with_reducible rfl) ?_|refine wt (by simpa [hi2,hi3,hi4,e1,e2,e3,e4,w2',w3,w3',hp,hat,hbt]) ?_|refine wf (by simpa [hi2,hi3,hi4,e1,e2,e3,e4,w2',w3,w3',hp,hat,hbt]) ?_|refine xt (by simpa [hi2,hi3,hi4,e1,e2,e3,e4,w2',w3,w3',hp,hat,hbt]) ?_|refine xf (by simpa [hi2,hi3,hi4,e1,e2,e3,e4,w2',w3,w3',hp,hat,hbt]) ?_|apply wp_bs|apply wp_b|refine wp_sr ?_|refine wp_sx ?_|refine wp_ret' ?_|refine wp_skip' ?_|refine wp_exit' ?_)
      exact hg
theorem am_l19z (a b:List Int) (hl:a.length≤5) (ha:∀ x ∈ a,0≤x∧x≤5):∀ (m i:Nat),i+m=a.length →
    wp tb (.loop z525l19) { T:=[(3,O a),(4,O b),(5,Z),(9,O ((a.take i).map fun x:Int=>x+(a.length:Int) - 1)),(10,I i)],loc:=[],M:=[] }
      (fun ex st=>ex=.exit 2∧st={ T:=[(3,O a),(4,O b),(5,Z),(9,O (a.map fun x:Int=>x+(a.length:Int) - 1)),(10,I a.length),(93,Bo false)],loc:=[],M:=[] }):=by
  intro m
  induction m with
  | zero =>
    intro i hi
    have h3:i=a.length:=hi
    subst h3
    refine wp_loop ?_
    repeat (first|apply wp_as|apply wp_ss|refine wr (by simp;with_reducible rfl) ?_|refine wq (by simp;with_reducible rfl) ?_|refine wt (by simpa) ?_|refine wf (by simpa) ?_|refine xt (by simpa) ?_|refine xf (by simpa) ?_|apply wp_bs|apply wp_b|refine wp_sr ?_|refine wp_sx ?_|refine wp_ret' ?_|refine wp_skip' ?_|refine wp_exit' ?_)
    simp
  | succ m ih =>
    intro i hi
    have hi2:i < a.length:=by omega
    have hx:=ha _ (List.getElem_mem hi2)
    have w2:IntKind.i64.wrap ((i:Int)+1)=((i+1:Nat):Int):=wrapS (by omega)
    have w3:IntKind.i64.wrap (a[i]+(a.length:Int))=a[i]+a.length:=wrap64 (by omega) (by omega)
    have w4:IntKind.i64.wrap (a[i]+(a.length:Int) - 1)=a[i]+a.length - 1:=wrap64 (by omega) (by omega)
    have hih:=ih (i+1) (by omega)
    rw [List.take_succ_eq_append_getElem hi2,List.map_append] at hih
    have hA:((a.take i).map fun x=>x+(a.length:Int) - 1).length=i:=by simp;omega
    generalize ((a.take i).map fun x=>x+(a.length:Int) - 1)=A at *
    have hT:A.take i=A:=List.take_of_length_le (by omega)
    have hi5:i+1≤274877906944:=by omega
    have hi6:i≤274877906943:=by omega
    refine wp_loop ?_
    repeat (first|apply wp_as|apply wp_ss|refine wr (by simp [hi2,w2,w3,w4,hA,hT,hi5,hi6];with_reducible rfl) ?_|refine wq (by simp [hi2,w2,w3,w4,hA,hT,hi5,hi6];with_reducible rfl) ?_|refine wt (by simpa [hi2,w2,w3,w4,hA,hT,hi5,hi6]) ?_|refine wf (by simpa [hi2,w2,w3,w4,hA,hT,hi5,hi6]) ?_|refine xt (by simpa [hi2,w2,w3,w4,hA,hT,hi5,hi6]) ?_|refine xf (by simpa [hi2,w2,w3,w4,hA,hT,hi5,hi6]) ?_|apply wp_bs|apply wp_b|refine wp_sr ?_|refine wp_sx ?_|refine wp_ret' ?_|refine wp_skip' ?_|refine wp_exit' ?_)
    exact hih
theorem am_l19c (a b:List Int) (G:List (List (List Int))) (hl:a.length≤5) (ha:∀ x ∈ a,0≤x∧x≤5):∀ (m i:Nat),i+m=a.length →
    wp tb (.loop z525l19) { T:=[(3,O a),(4,O b),(5,.own 1 (cub G)),(9,O ((a.take i).map fun x:Int=>x+(a.length:Int) - 1)),(10,I i)],loc:=[],M:=[] }
      (fun ex st=>ex=.exit 2∧st={ T:=[(3,O a),(4,O b),(5,.own 1 (cub G)),(9,O (a.map fun x:Int=>x+(a.length:Int) - 1)),(10,I a.length),(93,Bo false)],loc:=[],M:=[] }):=by
  intro m
  induction m with
  | zero =>
    intro i hi
    have h3:i=a.length:=hi
    subst h3
    refine wp_loop ?_
    repeat (first|apply wp_as|apply wp_ss|refine wr (by simp;with_reducible rfl) ?_|refine wq (by simp;with_reducible rfl) ?_|refine wt (by simpa) ?_|refine wf (by simpa) ?_|refine xt (by simpa) ?_|refine xf (by simpa) ?_|apply wp_bs|apply wp_b|refine wp_sr ?_|refine wp_sx ?_|refine wp_ret' ?_|refine wp_skip' ?_|refine wp_exit' ?_)
    simp
  | succ m ih =>
    intro i hi
    have hi2:i < a.length:=by omega
    have hx:=ha _ (List.getElem_mem hi2)
    have w2:IntKind.i64.wrap ((i:Int)+1)=((i+1:Nat):Int):=wrapS (by omega)
    have w3:IntKind.i64.wrap (a[i]+(a.length:Int))=a[i]+a.length:=wrap64 (by omega) (by omega)
    have w4:IntKind.i64.wrap (a[i]+(a.length:Int) - 1)=a[i]+a.length - 1:=wrap64 (by omega) (by omega)
    have hih:=ih (i+1) (by omega)
    rw [List.take_succ_eq_append_getElem hi2,List.map_append] at hih
    have hA:((a.take i).map fun x=>x+(a.length:Int) - 1).length=i:=by simp;omega
    generalize ((a.take i).map fun x=>x+(a.length:Int) - 1)=A at *
    have hT:A.take i=A:=List.take_of_length_le (by omega)
    have hi5:i+1≤274877906944:=by omega
    have hi6:i≤274877906943:=by omega
    refine wp_loop ?_
    repeat (first|apply wp_as|apply wp_ss|refine wr (by simp [hi2,w2,w3,w4,hA,hT,hi5,hi6];with_reducible rfl) ?_|refine wq (by simp [hi2,w2,w3,w4,hA,hT,hi5,hi6];with_reducible rfl) ?_|refine wt (by simpa [hi2,w2,w3,w4,hA,hT,hi5,hi6]) ?_|refine wf (by simpa [hi2,w2,w3,w4,hA,hT,hi5,hi6]) ?_|refine xt (by simpa [hi2,w2,w3,w4,hA,hT,hi5,hi6]) ?_|refine xf (by simpa [hi2,w2,w3,w4,hA,hT,hi5,hi6]) ?_|apply wp_bs|apply wp_b|refine wp_sr ?_|refine wp_sx ?_|refine wp_ret' ?_|refine wp_skip' ?_|refine wp_exit' ?_)
    exact hih
set_option maxHeartbeats 4000000 in
theorem ev_FnAllMatrices (code:List Int) (cl:Bool) (h:∀ x ∈ code,0≤x∧x≤255) :
    Ev tb zl525 [] [.lst 1 (bytes code) cl] [] ⟨Bo true,[],[],[]⟩:=by
  by_cases hc:(1048576:Int) < code.length
  · refine call_of_wp zt525 rfl ?_
    repeat (first|apply wp_as|apply wp_ss|refine wr (by simp [hc];with_reducible rfl) ?_|refine wq (by simp [hc];with_reducible rfl) ?_|refine wt (by simpa [hc]) ?_|refine wf (by simpa [hc]) ?_|refine xt (by simpa [hc]) ?_|refine xf (by simpa [hc]) ?_|apply wp_bs|apply wp_b|refine wp_sr ?_|refine wp_sx ?_|refine wp_ret' ?_|refine wp_skip' ?_|refine wp_exit' ?_)
    simp [zi525]
  obtain ⟨a,b,ha,hb,e1⟩:=ev_DrawAllMatrices code cl h (by omega)
  have e4:=ev_lim (ev_ValidMargins a b false false (by omega) (by omega))
  have hat:a.take a.length=a:=List.take_of_length_le (by omega)
  have hbt:b.take b.length=b:=List.take_of_length_le (by omega)
  by_cases hall:vMar a b=true∧a.length≤4∧b.length≤4
  rotate_left
  · have e2:=ev_lim (ev_impl_AllMatrices_no a b false false (by omega) (by omega) hall)
    have e3:=ev_lim (ev_spec_AllMatrices_no a b false false (by omega) (by omega) hall)
    have ez:=ev_lim ev_equalCubes_Z
    cases hv:vMar a b with
    | false =>
      rw [hv] at e4
      refine call_of_wp zt525 rfl ?_
      repeat (first|apply wp_as|apply wp_ss|refine wr (by simp [hc,e1,e2,e3,e4,ez,hat,hbt];with_reducible rfl) ?_|refine wq (by simp [hc,e1,e2,e3,e4,ez,hat,hbt];with_reducible rfl) ?_|refine wt (by simpa [hc,e1,e2,e3,e4,ez,hat,hbt]) ?_|refine wf (by simpa [hc,e1,e2,e3,e4,ez,hat,hbt]) ?_|refine xt (by simpa [hc,e1,e2,e3,e4,ez,hat,hbt]) ?_|refine xf (by simpa [hc,e1,e2,e3,e4,ez,hat,hbt]) ?_|apply wp_bs|apply wp_b|refine wp_sr ?_|refine wp_sx ?_|refine wp_ret' ?_|refine wp_skip' ?_|refine wp_exit' ?_)
      simp [zi525]
    | true =>
      rw [hv] at e4
      by_cases h4:(4:Int) < a.length
      · have h4':4 < a.length:=by omega
        refine call_of_wp zt525 rfl ?_
        repeat (first|apply wp_as|apply wp_ss|refine wr (by simp [hc,e1,e2,e3,e4,ez,hat,hbt,h4,h4'];with_reducible rfl) ?_|refine wq (by simp [hc,e1,e2,e3,e4,ez,hat,hbt,h4,h4'];with_reducible rfl) ?_|refine wt (by simpa [hc,e1,e2,e3,e4,ez,hat,hbt,h4,h4']) ?_|refine wf (by simpa [hc,e1,e2,e3,e4,ez,hat,hbt,h4,h4']) ?_|refine xt (by simpa [hc,e1,e2,e3,e4,ez,hat,hbt,h4,h4']) ?_|refine xf (by simpa [hc,e1,e2,e3,e4,ez,hat,hbt,h4,h4']) ?_|apply wp_bs|apply wp_b|refine wp_sr ?_|refine wp_sx ?_|refine wp_ret' ?_|refine wp_skip' ?_|refine wp_exit' ?_)
        simp [zi525]
      · have h5:(4:Int) < b.length:=by
          refine Int.not_le.1 fun q=>hall ⟨hv,by omega,by omega⟩
        have h4':¬ 4 < a.length:=by omega
        have h5':4 < b.length:=by omega
        refine call_of_wp zt525 rfl ?_
        repeat (first|apply wp_as|apply wp_ss|refine wr (by simp [hc,e1,e2,e3,e4,ez,hat,hbt,h4,h4',h5,h5'];with_reducible rfl) ?_|refine wq (by simp [hc,e1,e2,e3,e4,ez,hat,hbt,h4,h4',h5,h5'];with_reducible rfl) ?_|refine wt (by simpa [hc,e1,e2,e3,e4,ez,hat,hbt,h4,h4',h5,h5']) ?_|refine wf (by simpa [hc,e1,e2,e3,e4,ez,hat,hbt,h4,h4',h5,h5']) ?_|refine xt (by simpa [hc,e1,e2,e3,e4,ez,hat,hbt,h4,h4',h5,h5']) ?_|refine xf (by simpa [hc,e1,e2,e3,e4,ez,hat,hbt,h4,h4',h5,h5']) ?_|apply wp_bs|apply wp_b|refine wp_sr ?_|refine wp_sx ?_|refine wp_ret' ?_|refine wp_skip' ?_|refine wp_exit' ?_)
        simp [zi525]
  obtain ⟨hv,ha4,hb4⟩:=hall
  obtain ⟨q1,q2,q3,q4⟩:=vMar_iff hv
  have hr:∀ x ∈ a,0≤x:=fun x hx=>(q3 x hx).1
  have hcc:∀ x ∈ b,0≤x:=fun x hx=>(q4 x hx).1
  have la:Lil a:=fun x hx=>by have:=q3 x hx;omega
  have lb:Lil b:=fun x hx=>by have:=q4 x hx;omega
  have hvb:vMar b a=true:=by rw [vMar_comm];exact hv
  have e2:=ev_lim (ev_impl_AllMatrices a b false false hv ha4 hb4)
  have e3:=ev_lim (ev_spec_AllMatrices a b false false hv ha4 hb4)
  have e5:=ev_lim (ev_impl_AllMatrices b a false false hvb hb4 ha4)
  rw [mtA_fiR (by omega) la lb] at e2
  rw [mtA_fiR (by omega) lb la] at e5
  rw [fiS_all] at e3
  rw [hv] at e4
  have n1:¬ ((4:Int) < (a.length:Int)):=by omega
  have n2:¬ ((4:Int) < (b.length:Int)):=by omega
  have n3:¬ (4 < a.length):=by omega
  have n4:¬ (4 < b.length):=by omega
  have e6:=ev_lim (ev_IsBigraphic a b false false (by omega) (by omega))
  rw [← bigr_some a b hv] at e6
  have ht:=fiR_turn hr hcc
  have hGl:(fiR a b).length≤1000000:=by
    have h1:=fiR_len16 a b hb4
    have h2:(16:Nat) ^ a.length≤16 ^ 4:=Nat.pow_le_pow_right (by omega) ha4
    have h3:(16:Nat) ^ 4=65536:=by decide
    omega
  have hmat:∀ t ∈ fiR a b,Small2 t:=fun t ht=>Small2_mat (Mat_of hr hcc ht) (by omega) (by omega)
  have hcnt:∀ h7:a.length+b.length≤6,a.sum=b.sum→(reals (joined a b)).length=(fiR a b).length:=fun h7 hs=>fiR_reals hr hcc (by omega) hs
  have hjv:a.length+b.length≤6→valid (joined a b)=true:=fun h7=>joined_valid hv (by omega)
  have hlo:=am_l13 a b hv _ rfl hGl
  have hlz:=am_l19z a b (by omega) (fun x hx=>by have:=q3 x hx;omega) a.length 0 (by omega)
  have hl2:=am_l19c a b (fiR a b) (by omega) (fun x hx=>by have:=q3 x hx;omega) a.length 0 (by omega)
  have e7:=ev_lim (ev_total a false (la.small (by omega)))
  have e8:=ev_lim (ev_total b false (lb.small (by omega)))
  have e9:=fun q=>ev_lim (ev_CountRealizations (joined a b) false (hjv q) (by rw [joined_len];exact q))
  have hjl:=joined_len a b
  rw [joined] at e9 hcnt hjl
  have hB:(a.map fun x=>x+(a.length:Int) - 1).length=a.length:=by simp
  simp only [List.take_zero,List.map_nil] at hl2 hlz
  generalize (a.map fun x=>x+(a.length:Int) - 1)=B at *
  have hBT:B.take a.length=B:=List.take_of_length_le (by omega)
  have hT2:(B++b).take (a.length+b.length)=B++b:=List.take_of_length_le (by simp;omega)
  have hm:a.length+b.length≤274877906944:=by omega
  generalize fiR b a=H at *
  generalize fiR a b=G at *
  have hml:(G.length:Int)=(H.length:Int):=by omega
  cases G with
  | nil =>
    have hH:H=[]:=List.length_eq_zero_iff.1 ht
    subst hH
    have ez:=fun cc=>ev_lim (ev_equalCubes_Z2 cc)
    simp only [ncub,show cub []=[] from rfl,List.length_nil] at e2 e3 e5 e6
    refine call_of_wp zt525 rfl ?_
    repeat (first|apply wp_as|apply wp_ss|refine wr (by simp [hc,e1,e2,e3,e4,ez,hat,hbt,n1,n2,n3,n4];with_reducible rfl) ?_|refine wq (by simp [hc,e1,e2,e3,e4,ez,hat,hbt,n1,n2,n3,n4];with_reducible rfl) ?_|refine wt (by simpa [hc,e1,e2,e3,e4,ez,hat,hbt,n1,n2,n3,n4]) ?_|refine wf (by simpa [hc,e1,e2,e3,e4,ez,hat,hbt,n1,n2,n3,n4]) ?_|refine xt (by simpa [hc,e1,e2,e3,e4,ez,hat,hbt,n1,n2,n3,n4]) ?_|refine xf (by simpa [hc,e1,e2,e3,e4,ez,hat,hbt,n1,n2,n3,n4]) ?_|apply wp_bs|apply wp_b|refine wp_sr ?_|refine wp_sx ?_|refine wp_ret' ?_|refine wp_skip' ?_|refine wp_exit' ?_)
    refine wp_loop ?_
    repeat (first|apply wp_as|apply wp_ss|refine wr (by simp;with_reducible rfl) ?_|refine wq (by simp;with_reducible rfl) ?_|refine wt (by simpa) ?_|refine wf (by simpa) ?_|refine xt (by simpa) ?_|refine xf (by simpa) ?_|apply wp_bs|apply wp_b|refine wp_sr ?_|refine wp_sx ?_|refine wp_ret' ?_|refine wp_skip' ?_|refine wp_exit' ?_)
    refine wp_imp hlz ?_
    rintro ex st ⟨rfl,rfl⟩
    simp only [if_true]
    have h6n:¬ (6:Int) < (a.length:Int)+b.length ∨ (6:Int) < (a.length:Int)+b.length:=by omega
    rcases h6n with h6 | h6
    rotate_left
    · have h6':6 < a.length+b.length:=by omega
      repeat (first|apply wp_as|apply wp_ss|refine wr (by simp [hB,hBT,hm,hT2,hjl,e6,e5,h6,h6'];with_reducible rfl) ?_|refine wq (by simp [hB,hBT,hm,hT2,hjl,e6,e5,h6,h6'];with_reducible rfl) ?_|refine wt (by simpa [hB,hBT,hm,hT2,hjl,e6,e5,h6,h6']) ?_|refine wf (by simpa [hB,hBT,hm,hT2,hjl,e6,e5,h6,h6']) ?_|refine xt (by simpa [hB,hBT,hm,hT2,hjl,e6,e5,h6,h6']) ?_|refine xf (by simpa [hB,hBT,hm,hT2,hjl,e6,e5,h6,h6']) ?_|apply wp_bs|apply wp_b|refine wp_sr ?_|refine wp_sx ?_|refine wp_ret' ?_|refine wp_skip' ?_|refine wp_exit' ?_)
      simp [zi525]
    have h6':¬ 6 < a.length+b.length:=by omega
    have h7:a.length+b.length≤6:=by omega
    by_cases hs:a.sum=b.sum
    rotate_left
    · repeat (first | apply wp_as | apply wp_ss | refine wr (by simp [hB,hBT,hm,hT2,hjl,e6,e5,h6,h6',e7,e8,hs,hat,hbt];with_reducible rfl) ?_ | refine wq (by simp [hB,hBT,hm,hT2,hjl,e6,e5,h6,h6',e7,e8,hs,hat,hbt];with_reducible rfl) ?_ | refine wt (by simpa [hB,hBT,hm,hT2,hjl,e6,e5,h6,h6',e7,e8,hs,hat,hbt]) ?_ | refine wf (by simpa [hB,hBT,hm,hT2,hjl,e6,e5,h6,h6',e7,e8,hs,hat,hbt]) ?_ | refine xt (by simpa [hB,hBT,hm,hT2,hjl,e6,e5,h6,h6',e7,e8,hs,hat,hbt]) ?_ | refine xf (by simpa [hB,hBT,hm,hT2,hjl,e6,e5,h6,h6',e7,e8,hs,hat,hbt]) ?_ | apply wp_bs | apply wp_b | refine wp_sr ?_ | refine wp_sx ?_ | refine wp_ret' ?_ | refine wp_skip' ?_ | refine wp_exit' ?_)
      simp [zi525]
    have ec:=e9 h7
    rw [hcnt h7 hs] at ec
    repeat (first|apply wp_as|apply wp_ss|refine wr (by simp [hB,hBT,hm,hT2,hjl,e6,e5,h6,h6',e7,e8,hs,ec,hat,hbt];with_reducible rfl) ?_|refine wq (by simp [hB,hBT,hm,hT2,hjl,e6,e5,h6,h6',e7,e8,hs,ec,hat,hbt];with_reducible rfl) ?_|refine wt (by simpa [hB,hBT,hm,hT2,hjl,e6,e5,h6,h6',e7,e8,hs,ec,hat,hbt]) ?_|refine wf (by simpa [hB,hBT,hm,hT2,hjl,e6,e5,h6,h6',e7,e8,hs,ec,hat,hbt]) ?_|refine xt (by simpa [hB,hBT,hm,hT2,hjl,e6,e5,h6,h6',e7,e8,hs,ec,hat,hbt]) ?_|refine xf (by simpa [hB,hBT,hm,hT2,hjl,e6,e5,h6,h6',e7,e8,hs,ec,hat,hbt]) ?_|apply wp_bs|apply wp_b|refine wp_sr ?_|refine wp_sx ?_|refine wp_ret' ?_|refine wp_skip' ?_|refine wp_exit' ?_)
    simp [zi525]
  | cons g G =>
    cases H with
    | nil=>simp at ht
    | cons h0 H =>
    have ez:=fun c1 c2=>ev_lim (ev_equalCubes (g::G) c1 c2 hGl hmat)
    simp only [ncub] at e2 e5
    have hgl:0 < (g::G).length:=by simp
    generalize g::G=G at *
    generalize h0::H=H at *
    have hl0:=hlo G.length 0 (by omega)
    rw [show ((0:Nat):Int)=0 from rfl] at hl0
    have hp1:0 < G.length:=by omega
    have hp2:(0:Int) < (G.length:Int):=by omega
    refine call_of_wp zt525 rfl ?_
    repeat (first|apply wp_as|apply wp_ss|refine wr (by simp [hc,e1,e2,e3,e4,ez,hat,hbt,n1,n2,n3,n4];with_reducible rfl) ?_|refine wq (by simp [hc,e1,e2,e3,e4,ez,hat,hbt,n1,n2,n3,n4];with_reducible rfl) ?_|refine wt (by simpa [hc,e1,e2,e3,e4,ez,hat,hbt,n1,n2,n3,n4]) ?_|refine wf (by simpa [hc,e1,e2,e3,e4,ez,hat,hbt,n1,n2,n3,n4]) ?_|refine xt (by simpa [hc,e1,e2,e3,e4,ez,hat,hbt,n1,n2,n3,n4]) ?_|refine xf (by simpa [hc,e1,e2,e3,e4,ez,hat,hbt,n1,n2,n3,n4]) ?_|apply wp_bs|apply wp_b|refine wp_sr ?_|refine wp_sx ?_|refine wp_ret' ?_|refine wp_skip' ?_|refine wp_exit' ?_)
    refine wp_imp hl0 ?_
    rintro ex st ⟨rfl,rfl⟩
    simp only [if_true]
    repeat (first|apply wp_as|apply wp_ss|refine wr (by simp;with_reducible rfl) ?_|refine wq (by simp;with_reducible rfl) ?_|refine wt (by simpa) ?_|refine wf (by simpa) ?_|refine xt (by simpa) ?_|refine xf (by simpa) ?_|apply wp_bs|apply wp_b|refine wp_sr ?_|refine wp_sx ?_|refine wp_ret' ?_|refine wp_skip' ?_|refine wp_exit' ?_)
    refine wp_imp hl2 ?_
    rintro ex st ⟨rfl,rfl⟩
    simp only [if_true]
    have h6n:¬ (6:Int) < (a.length:Int)+b.length ∨ (6:Int) < (a.length:Int)+b.length:=by omega
    rcases h6n with h6 | h6
    rotate_left
    · have h6':6 < a.length+b.length:=by omega
      repeat (first|apply wp_as|apply wp_ss|refine wr (by simp [hB,hBT,hm,hT2,hjl,e6,e5,h6,h6',hp1,hp2,ht,hml];with_reducible rfl) ?_|refine wq (by simp [hB,hBT,hm,hT2,hjl,e6,e5,h6,h6',hp1,hp2,ht,hml];with_reducible rfl) ?_|refine wt (by simpa [hB,hBT,hm,hT2,hjl,e6,e5,h6,h6',hp1,hp2,ht,hml]) ?_|refine wf (by simpa [hB,hBT,hm,hT2,hjl,e6,e5,h6,h6',hp1,hp2,ht,hml]) ?_|refine xt (by simpa [hB,hBT,hm,hT2,hjl,e6,e5,h6,h6',hp1,hp2,ht,hml]) ?_|refine xf (by simpa [hB,hBT,hm,hT2,hjl,e6,e5,h6,h6',hp1,hp2,ht,hml]) ?_|apply wp_bs|apply wp_b|refine wp_sr ?_|refine wp_sx ?_|refine wp_ret' ?_|refine wp_skip' ?_|refine wp_exit' ?_)
      simp [zi525]
    have h6':¬ 6 < a.length+b.length:=by omega
    have h7:a.length+b.length≤6:=by omega
    by_cases hs:a.sum=b.sum
    rotate_left
    · repeat (first | apply wp_as | apply wp_ss | refine wr (by simp [hB,hBT,hm,hT2,hjl,e6,e5,h6,h6',e7,e8,hs,hat,hbt,hp1,hp2,ht,hml];with_reducible rfl) ?_ | refine wq (by simp [hB,hBT,hm,hT2,hjl,e6,e5,h6,h6',e7,e8,hs,hat,hbt,hp1,hp2,ht,hml];with_reducible rfl) ?_ | refine wt (by simpa [hB,hBT,hm,hT2,hjl,e6,e5,h6,h6',e7,e8,hs,hat,hbt,hp1,hp2,ht,hml]) ?_ | refine wf (by simpa [hB,hBT,hm,hT2,hjl,e6,e5,h6,h6',e7,e8,hs,hat,hbt,hp1,hp2,ht,hml]) ?_ | refine xt (by simpa [hB,hBT,hm,hT2,hjl,e6,e5,h6,h6',e7,e8,hs,hat,hbt,hp1,hp2,ht,hml]) ?_ | refine xf (by simpa [hB,hBT,hm,hT2,hjl,e6,e5,h6,h6',e7,e8,hs,hat,hbt,hp1,hp2,ht,hml]) ?_ | apply wp_bs | apply wp_b | refine wp_sr ?_ | refine wp_sx ?_ | refine wp_ret' ?_ | refine wp_skip' ?_ | refine wp_exit' ?_)
      simp [zi525]
    have ec:=e9 h7
    rw [hcnt h7 hs] at ec
    repeat (first|apply wp_as|apply wp_ss|refine wr (by simp [hB,hBT,hm,hT2,hjl,e6,e5,h6,h6',e7,e8,hs,ec,hat,hbt,hp1,hp2,ht,hml];with_reducible rfl) ?_|refine wq (by simp [hB,hBT,hm,hT2,hjl,e6,e5,h6,h6',e7,e8,hs,ec,hat,hbt,hp1,hp2,ht,hml];with_reducible rfl) ?_|refine wt (by simpa [hB,hBT,hm,hT2,hjl,e6,e5,h6,h6',e7,e8,hs,ec,hat,hbt,hp1,hp2,ht,hml]) ?_|refine wf (by simpa [hB,hBT,hm,hT2,hjl,e6,e5,h6,h6',e7,e8,hs,ec,hat,hbt,hp1,hp2,ht,hml]) ?_|refine xt (by simpa [hB,hBT,hm,hT2,hjl,e6,e5,h6,h6',e7,e8,hs,ec,hat,hbt,hp1,hp2,ht,hml]) ?_|refine xf (by simpa [hB,hBT,hm,hT2,hjl,e6,e5,h6,h6',e7,e8,hs,ec,hat,hbt,hp1,hp2,ht,hml]) ?_|apply wp_bs|apply wp_b|refine wp_sr ?_|refine wp_sx ?_|refine wp_ret' ?_|refine wp_skip' ?_|refine wp_exit' ?_)
    simp [zi525]
end Go.Idl
