/- Part 6 of a proof by an ideal interpreter of the code: its definitions and lemmas. Conditions: none. -/
import Derived.KernelRfl
import Derived.Test.YtedjkjnjbljadaaA5
set_option linter.all false
set_option linter.unusedVariables false
set_option linter.unusedSimpArgs false
namespace Go.Idl
def insP (x:Nat×Nat):List (Nat×Nat)→List (Nat×Nat)
  | []=>[x]
  | y::r=>if Nat.ble y.1 x.1 then x::y::r else y::insP x r
def hh:Nat→List (Nat×Nat)→List (Nat×Nat)
  | 0,_=>[]
  | _+1,[]=>[]
  | m+1,x::r=>(r.take x.1).map (fun y:Nat×Nat=>(x.2,y.2))++hh m ((((r.take x.1).map (fun y:Nat×Nat=>(y.1 - 1,y.2))++r.drop x.1:List (Nat×Nat))).foldr insP [])
def inH (h:List (Nat×Nat)) (e:Int×Int):Bool:=h.any fun x=>(Nat.beq x.1 e.1.toNat && Nat.beq x.2 e.2.toNat) || (Nat.beq x.2 e.1.toNat && Nat.beq x.1 e.2.toNat)
def hhG (s:List Int):List (Int×Int):=(prs s.length).filter (inH (hh 8 (s.zipIdx.map fun x=>(x.1.toNat,x.2))))
def chkR (s:List Int):Bool:=!(decide (s.sum % 2=0) && noneNeg (slS s)) || decide (degs s.length (hhG s)=s)
set_option maxRecDepth 100000 in
theorem chkR_all:(List.range 8).all (fun n=>allD chkR n (n - 1) [])=true:=by kernel_rfl
theorem decAt_get {o:List Int} {i v:Nat} (hv:v < o.length):(decAt o i).getD v 0=o.getD v 0 - (if i=v then 1 else 0):=by
  rw [decAt,List.getD_eq_getElem?_getD,List.getElem?_set]
  by_cases h:i=v
  · subst h;simp [hv,List.getD_eq_getElem?_getD]
  · simp [h,List.getD_eq_getElem?_getD]
theorem ite_iff {α:Type} {p q:Prop} [Decidable p] [Decidable q] (h:p ↔ q) (a b:α):(if p then a else b)=if q then a else b:=by
  by_cases hp:p
  · rw [if_pos hp,if_pos (h.1 hp)]
  · rw [if_neg hp,if_neg fun hq=>hp (h.2 hq)]
def mk (u v:Nat):Int×Int:=(min (u:Int) v,max (u:Int) v)
theorem inc_mk_all:(List.range 8).all (fun n=>(prs n).all fun e=>(List.range n).all fun v=>decide (inc v e=S (List.range n) (fun u=>if u=v then 0 else if e=mk u v then 1 else 0)))=true:=by decide +kernel
theorem inc_mk {n:Nat} (hn:n≤7) {e:Int×Int} (he:e ∈ prs n) {v:Nat} (hv:v < n):inc v e=S (List.range n) (fun u=>if u=v then 0 else if e=mk u v then 1 else 0):=by
  have:=List.all_eq_true.1 (List.all_eq_true.1 (List.all_eq_true.1 inc_mk_all n (List.mem_range.2 (by omega))) e he) v (List.mem_range.2 hv)
  exact of_decide_eq_true this
theorem S_ite {α:Type} (l:List α) (p:α→Bool) (f:α→Int):S (l.filter p) f=S l (fun a=>if p a then f a else 0):=by
  induction l with
  | nil=>rfl
  | cons a l ih =>
    rw [List.filter_cons,S_cons]
    split <;> rename_i h
    · rw [S_cons,ih]
    · rw [ih];omega
theorem mk_mem {n u v:Nat} (hu:u < n) (hv:v < n) (h:u ≠ v):mk u v ∈ prs n:=mem_prs.2 (by simp only [mk];omega)
theorem deg_filter {n:Nat} (hn:n≤7) (p:Int×Int→Bool) {v:Nat} (hv:v < n):deg ((prs n).filter p) v=S (List.range n) (fun u=>if u=v then 0 else if p (mk u v) then 1 else 0):=by
  rw [deg,S_ite,S_congr (g:=fun e=>S (List.range n) (fun u=>if u=v then 0 else if e=mk u v then (if p (mk u v) then 1 else 0) else 0)) fun e he=>?_,S_swap]
  · refine S_congr fun u hu=>?_
    have hu:=List.mem_range.1 hu
    by_cases huv:u=v
    · simp only [huv,if_true];exact S_zero _
    · simp only [if_neg huv]
      have hm:=mk_mem hu hv huv
      have h1:=S_one (pw_nodup (prs_pw n)) (mk u v)
      rw [if_pos hm] at h1
      by_cases hp:p (mk u v)=true
      · simp only [hp,if_true]
        exact Eq.trans (S_congr fun e _=>ite_iff eq_comm _ _) h1
      · simp only [if_neg hp,ite_self];exact S_zero _
  · rw [inc_mk hn he hv]
    by_cases hp:p e=true
    · rw [if_pos hp]
      refine S_congr fun u _=>?_
      by_cases huv:u=v
      · simp [huv]
      · simp only [if_neg huv]
        by_cases hem:e=mk u v
        · rw [if_pos hem,if_pos hem,← hem,if_pos hp]
        · rw [if_neg hem,if_neg hem]
    · rw [if_neg hp]
      symm
      rw [S_congr (g:=fun _=>0),S_zero]
      intro u _
      by_cases huv:u=v
      · simp [huv]
      · simp only [if_neg huv]
        by_cases hem:e=mk u v
        · rw [if_pos hem,← hem,if_neg hp]
        · rw [if_neg hem]
theorem mk_comm (u v:Nat):mk u v=mk v u:=Prod.ext (by simp only [mk];omega) (by simp only [mk];omega)
theorem degs_filter {n:Nat} (p:Int×Int→Bool):degs n ((prs n).filter p)=(List.range n).map (deg ((prs n).filter p)) :=
  degs_eq fun e he=>by have:=mem_prs.1 (List.mem_filter.1 he).1;omega
theorem graphic_real {d:List Int} (hg:graphic d=true):∃ p,degs d.length ((prs d.length).filter p)=d:=by
  have hv:valid d=true:=by simp only [graphic,Bool.and_eq_true] at hg;exact hg.1.1
  have h1:=(valid_few hv).1
  have h2:=valid_mem hv
  have hc:=List.all_eq_true.1 chkR_all d.length (List.mem_range.2 (by omega))
  have h3:=allD_ok chkR d.length (d.length - 1) [] (fall d) hc (fall_len d) (fall_desc d) (fun x hx=>by
    have:=h2 x (fall_mem.1 hx)
    omega)
  obtain ⟨n,hn⟩:∃ n,n=d.length:=⟨_,rfl⟩
  simp only [graphic,hv,Bool.true_and,Bool.and_eq_true,decide_eq_true_eq] at hg
  have hg2:noneNeg (slS (fall d))=true:=by rw [← slacks_S];exact hg.2
  simp only [List.reverse_nil,List.nil_append,chkR,fall_sum,hg.1,hg2,decide_true,Bool.and_self,Bool.not_true,Bool.false_or,decide_eq_true_eq,fall_len,hhG] at h3
  generalize inH (hh 8 ((fall d).zipIdx.map fun x=>(x.1.toNat,x.2)))=p0 at h3
  have hd:d=(List.range n).map fun v=>d.getD v 0:=by
    refine List.ext_getElem (by simp [hn]) fun i k1 k2=>?_
    simp [List.getD_eq_getElem?_getD,List.getElem?_eq_getElem k1]
  obtain ⟨π,hπ,hfp⟩:=perm_map_inv (f:=fun v=>d.getD v 0) (fall_perm d) hd
  have hπn:π.Nodup:=hπ.nodup_iff.2 List.nodup_range
  have hπl:π.length=n:=by rw [hπ.length_eq,List.length_range]
  have hσ:∀ v,v < n→π.idxOf v < n∧π[π.idxOf v]? = some v:=fun v hv=>by
    have hm:v ∈ π:=hπ.mem_iff.2 (List.mem_range.2 hv)
    have:=List.idxOf_lt_length_of_mem hm
    exact ⟨by omega,by rw [List.getElem?_eq_getElem this,List.getElem_idxOf]⟩
  have hinj:∀ u v,u < n→v < n→(π.idxOf u=π.idxOf v ↔ u=v):=fun u v hu hv=>by
    constructor
    · intro h
      have h4:=(hσ u hu).2
      rw [h,(hσ v hv).2] at h4
      simpa using h4.symm
    · rintro rfl;rfl
  have hmap:π.map (π.idxOf ·)=List.range n:=by
    refine List.ext_getElem (by simp [hπl]) fun i k1 k2=>?_
    rw [List.getElem_map,List.getElem_range]
    exact hπn.idxOf_getElem i (by simpa using k1)
  refine ⟨fun e=>p0 (mk (π.idxOf e.1.toNat) (π.idxOf e.2.toNat)),?_⟩
  rw [← hn]
  rw [degs_filter]
  conv=>rhs;rw [hd]
  refine List.map_congr_left fun v hv=>?_
  have hv:=List.mem_range.1 hv
  rw [← hn] at h3
  rw [deg_filter (by omega) _ hv]
  have hp:∀ u,p0 (mk (π.idxOf (mk u v).1.toNat) (π.idxOf (mk u v).2.toNat))=p0 (mk (π.idxOf u) (π.idxOf v)):=fun u=>by
    rcases Nat.le_total u v with h | h
    · rw [show (mk u v).1.toNat=u by simp only [mk];omega,show (mk u v).2.toNat=v by simp only [mk];omega]
    · rw [show (mk u v).1.toNat=v by simp only [mk];omega,show (mk u v).2.toNat=u by simp only [mk];omega,mk_comm]
  have e1:S (List.range n) (fun u=>if u=v then 0 else if p0 (mk (π.idxOf (mk u v).1.toNat) (π.idxOf (mk u v).2.toNat))=true then (1:Int) else 0) =
      S (List.range n) (fun u=>(fun i=>if i=π.idxOf v then 0 else if p0 (mk i (π.idxOf v))=true then (1:Int) else 0) (π.idxOf u)):=by
    refine S_congr fun u hu=>?_
    rw [hp u]
    exact ite_iff (hinj u v (List.mem_range.1 hu) hv).symm _ _
  rw [e1,← S_perm hπ]
  have e2:=S_map π (π.idxOf ·) (fun i=>if i=π.idxOf v then 0 else if p0 (mk i (π.idxOf v))=true then (1:Int) else 0)
  rw [hmap] at e2
  refine e2.symm.trans ?_
  rw [← deg_filter (by omega) p0 (hσ v hv).1]
  have h5:(degs n ((prs n).filter p0))[π.idxOf v]? = some (deg ((prs n).filter p0) (π.idxOf v)):=by
    rw [degs_filter,List.getElem?_map,List.getElem?_range (hσ v hv).1];rfl
  rw [h3,hfp,List.getElem?_map,(hσ v hv).2] at h5
  simpa using h5.symm
end Go.Idl
namespace Go.Idl
open Go
theorem lil_zero {l:List Int} (h:Lil l) (hs:¬ 0 < l.sum) (i:Nat):l.getD i 0=0:=by
  induction l generalizing i with
  | nil=>simp
  | cons x r ih =>
    have h1:=h x (by simp)
    have hr:Lil r:=fun y hy=>h y (by simp [hy])
    have h2:=hr.sum
    rw [List.sum_cons] at hs
    cases i with
    | zero=>simp;omega
    | succ i=>simpa using ih hr (by omega) i
theorem zero_sum {l:List Int} (h:∀ i,i < l.length→l.getD i 0=0):l.sum=0:=by
  induction l with
  | nil=>rfl
  | cons x r ih =>
    have h1:=h 0 (by simp)
    have h2:=ih fun i hi=>by have:=h (i+1) (by simpa using hi);simpa using this
    simp at h1
    rw [List.sum_cons];omega
def cR (f:Nat→Bool) (h m k i:Nat):Int:=S (List.range' k m) fun c=>if c / h=i then (if f c then 1 else 0) else 0
def cC (f:Nat→Bool) (h m k j:Nat):Int:=S (List.range' k m) fun c=>if c % h=j then (if f c then 1 else 0) else 0
theorem cR_succ (f:Nat→Bool) (h m k i:Nat):cR f h (m+1) k i=(if k / h=i then (if f k then 1 else 0) else 0)+cR f h m (k+1) i:=by
  rw [cR,List.range'_succ,S_cons];rfl
theorem cC_succ (f:Nat→Bool) (h m k i:Nat):cC f h (m+1) k i=(if k % h=i then (if f k then 1 else 0) else 0)+cC f h m (k+1) i:=by
  rw [cC,List.range'_succ,S_cons];rfl
theorem cR_pos (f:Nat→Bool) (h m k i:Nat):0≤cR f h m k i:=S_nonneg fun c _=>by split <;> (try split) <;> omega
theorem cC_pos (f:Nat→Bool) (h m k i:Nat):0≤cC f h m k i:=S_nonneg fun c _=>by split <;> (try split) <;> omega
theorem cR_congr {f g:Nat→Bool} (h m k i:Nat) (hfg:∀ c,k≤c→f c=g c):cR f h m k i=cR g h m k i :=
  S_congr fun c hc=>by rw [hfg c (by have:=List.mem_range'_1.1 hc;omega)]
theorem cC_congr {f g:Nat→Bool} (h m k i:Nat) (hfg:∀ c,k≤c→f c=g c):cC f h m k i=cC g h m k i :=
  S_congr fun c hc=>by rw [hfg c (by have:=List.mem_range'_1.1 hc;omega)]
theorem cR_le (f:Nat→Bool) (h:Nat) (h0:0 < h) (i:Nat):∀ m k:Nat,cR f h m k i≤(((i+1) * h - k:Nat):Int)
  | 0,k=>by show (0:Int)≤_;omega
  | m+1,k=>by
    have h1:=cR_le f h h0 i m (k+1)
    rw [cR_succ]
    by_cases hk:k / h=i
    · have h2:k < (i+1) * h:=by rw [← hk,Nat.mul_comm];exact Nat.lt_mul_div_succ k h0
      rw [if_pos hk]
      split <;> omega
    · rw [if_neg hk];omega
theorem mts_iff (may:Nat→Nat→Bool) (w h:Nat) (h0:0 < h):∀ (m k:Nat) (l r:List Int) (t:List (List Int)),k+m=w * h→l.length=w→r.length=h→Lil l→Lil r →
    (mts may h m k l r t ≠ [] ↔ ∃ f:Nat→Bool,(∀ c,k≤c→f c=true→may (c / h) (c % h)=true)∧(∀ i,i < w→cR f h m k i=l.getD i 0)∧(∀ j,j < h→cC f h m k j=r.getD j 0))
  | 0,k,l,r,t,hk,hl,hr,ll,lr=>by
    rw [mts]
    constructor
    · intro hne
      have hs:¬ (0 < l.sum ∨ 0 < r.sum):=fun q=>hne (by rw [if_pos q])
      refine ⟨fun _=>false,fun _ _ q=>by simp at q,fun i _=>?_,fun j _=>?_⟩
      · rw [lil_zero ll (fun q=>hs (.inl q))];rfl
      · rw [lil_zero lr (fun q=>hs (.inr q))];rfl
    · rintro ⟨f,_,h1,h2⟩
      have s1:l.sum=0:=zero_sum fun i hi=>(h1 i (by omega)).symm
      have s2:r.sum=0:=zero_sum fun i hi=>(h2 i (by omega)).symm
      rw [if_neg (by omega)]
      simp
  | m+1,k,l,r,t,hk,hl,hr,ll,lr=>by
    have hkw:k < w * h:=by omega
    have iw:k / h < w:=Nat.div_lt_of_lt_mul (by rw [Nat.mul_comm];exact hkw)
    have jh:k % h < h:=Nat.mod_lt _ h0
    have hdm:(k / h+1) * h - k=h - k % h:=by
      have:=Nat.div_add_mod k h
      rw [Nat.mul_comm] at this
      rw [Nat.succ_mul];omega
    rw [mts]
    by_cases hov:(h:Int) - ((k % h:Nat):Int) < l.getD (k / h) 0
    · rw [if_pos hov]
      refine ⟨fun q=>absurd rfl q,?_⟩
      rintro ⟨f,_,h1,_⟩
      have:=cR_le f h h0 (k / h) (m+1) k
      rw [h1 _ iw,hdm] at this
      omega
    · rw [if_neg hov]
      have hap:∀ (x y:List (List (List Int))),x++y ≠ [] ↔ x ≠ [] ∨ y ≠ []:=fun x y=>by
        cases x <;> simp
      rw [hap,mts_iff may w h h0 m (k+1) l r t (by omega) hl hr ll lr]
      have dl:∀ i,(decAt l (k / h)).getD i 0=l.getD i 0 - (if k / h=i∧i < w then 1 else 0):=fun i=>by
        by_cases hi:i < l.length
        · rw [decAt_get hi]
          by_cases hq:k / h=i
          · rw [if_pos hq,if_pos ⟨hq,by omega⟩]
          · rw [if_neg hq,if_neg fun q=>hq q.1]
        · have e1:∀ x:List Int,x.length=l.length→x.getD i 0=0:=fun x hx=>by
            rw [List.getD_eq_getElem?_getD,List.getElem?_eq_none (by omega)];rfl
          rw [e1 _ (by simp [decAt]),e1 _ rfl,if_neg (by omega)];rfl
      have dr:∀ i,(decAt r (k % h)).getD i 0=r.getD i 0 - (if k % h=i∧i < h then 1 else 0):=fun i=>by
        by_cases hi:i < r.length
        · rw [decAt_get hi]
          by_cases hq:k % h=i
          · rw [if_pos hq,if_pos ⟨hq,by omega⟩]
          · rw [if_neg hq,if_neg fun q=>hq q.1]
        · have e1:∀ x:List Int,x.length=r.length→x.getD i 0=0:=fun x hx=>by
            rw [List.getD_eq_getElem?_getD,List.getElem?_eq_none (by omega)];rfl
          rw [e1 _ (by simp [decAt]),e1 _ rfl,if_neg (by omega)];rfl
      constructor
      · rintro (h1 | ⟨f,f1,f2,f3⟩)
        · by_cases htk:may (k / h) (k % h)=true∧0 < l.getD (k / h) 0∧0 < r.getD (k % h) 0
          · rw [if_pos htk,mts_iff may w h h0 m (k+1) _ _ _ (by omega) (by simp [decAt,hl]) (by simp [decAt,hr]) (ll.dec htk.2.1) (lr.dec htk.2.2)] at h1
            obtain ⟨f,f1,f2,f3⟩:=h1
            refine ⟨fun c=>if c=k then true else f c,fun c hc hf=>?_,fun i hi=>?_,fun j hj=>?_⟩
            · by_cases hck:c=k
              · subst hck;exact htk.1
              · exact f1 c (by omega) (by simpa [hck] using hf)
            · have e1:=cR_congr (f:=fun c=>if c=k then true else f c) (g:=f) h m (k+1) i fun c hc=>by
                  have hck:¬ c=k:=by omega
                  simp [hck]
              rw [cR_succ,e1,f2 i hi,dl]
              by_cases hq:k / h=i
              · rw [if_pos hq,if_pos (show k / h=i∧i < w from ⟨hq,hi⟩)];simp;omega
              · rw [if_neg hq,if_neg fun q=>hq q.1];omega
            · have e1:=cC_congr (f:=fun c=>if c=k then true else f c) (g:=f) h m (k+1) j fun c hc=>by
                  have hck:¬ c=k:=by omega
                  simp [hck]
              rw [cC_succ,e1,f3 j hj,dr]
              by_cases hq:k % h=j
              · rw [if_pos hq,if_pos (show k % h=j∧j < h from ⟨hq,hj⟩)];simp;omega
              · rw [if_neg hq,if_neg fun q=>hq q.1];omega
          · rw [if_neg htk] at h1;exact absurd rfl h1
        · refine ⟨fun c=>if c=k then false else f c,fun c hc hf=>?_,fun i hi=>?_,fun j hj=>?_⟩
          · by_cases hck:c=k
            · simp [hck] at hf
            · exact f1 c (by omega) (by simpa [hck] using hf)
          · have e1:=cR_congr (f:=fun c=>if c=k then false else f c) (g:=f) h m (k+1) i fun c hc=>by
                  have hck:¬ c=k:=by omega
                  simp [hck]
            rw [cR_succ,e1,f2 i hi];simp
          · have e1:=cC_congr (f:=fun c=>if c=k then false else f c) (g:=f) h m (k+1) j fun c hc=>by
                  have hck:¬ c=k:=by omega
                  simp [hck]
            rw [cC_succ,e1,f3 j hj];simp
      · rintro ⟨f,f1,f2,f3⟩
        by_cases hf:f k=true
        · refine .inl ?_
          have p1:=f2 _ iw
          have p2:=f3 _ jh
          rw [cR_succ,if_pos rfl,if_pos hf] at p1
          rw [cC_succ,if_pos rfl,if_pos hf] at p2
          have q1:=cR_pos f h m (k+1) (k / h)
          have q2:=cC_pos f h m (k+1) (k % h)
          have htk:may (k / h) (k % h)=true∧0 < l.getD (k / h) 0∧0 < r.getD (k % h) 0:=⟨f1 k (Nat.le_refl _) hf,by omega,by omega⟩
          rw [if_pos htk,mts_iff may w h h0 m (k+1) _ _ _ (by omega) (by simp [decAt,hl]) (by simp [decAt,hr]) (ll.dec htk.2.1) (lr.dec htk.2.2)]
          refine ⟨f,fun c hc=>f1 c (by omega),fun i hi=>?_,fun j hj=>?_⟩
          · have:=f2 i hi
            rw [cR_succ] at this
            rw [dl]
            by_cases hq:k / h=i
            · rw [if_pos hq,if_pos hf] at this;rw [if_pos (show k / h=i∧i < w from ⟨hq,hi⟩)];omega
            · rw [if_neg hq] at this;rw [if_neg fun q=>hq q.1];omega
          · have:=f3 j hj
            rw [cC_succ] at this
            rw [dr]
            by_cases hq:k % h=j
            · rw [if_pos hq,if_pos hf] at this;rw [if_pos (show k % h=j∧j < h from ⟨hq,hj⟩)];omega
            · rw [if_neg hq] at this;rw [if_neg fun q=>hq q.1];omega
        · refine .inr ⟨f,fun c hc=>f1 c (by omega),fun i hi=>?_,fun j hj=>?_⟩
          · have:=f2 i hi
            rw [cR_succ,if_neg hf] at this
            simpa using this
          · have:=f3 j hj
            rw [cC_succ,if_neg hf] at this
            simpa using this
end Go.Idl
namespace Go.Idl
open Go
theorem S_pick {n j:Nat} (hj:j < n) (g:Nat→Int):S (List.range n) (fun u=>if u=j then g u else 0)=g j:=by
  rw [S_congr (g:=fun u=>(if j=u then 1 else 0) * g j) fun u _=>?_,S_mulr,S_one List.nodup_range,if_pos (List.mem_range.2 hj)]
  · omega
  · by_cases h:u=j
    · subst h;simp
    · rw [if_neg h,if_neg fun q=>h q.symm];simp
theorem blk (w h:Nat) (g:Nat→Int):S (List.range' 0 ((w+1) * h)) g=S (List.range' 0 (w * h)) g+S (List.range h) (fun j=>g (w * h+j)):=by
  have e:=List.range'_append_1 (s:=0) (m:=w * h) (n:=h)
  have e2:S (List.range' (w * h) h) g=S (List.range h) (fun j=>g (w * h+j)):=by rw [List.range'_eq_map_range,S_map]
  rw [Nat.succ_mul,← e,S_app,Nat.zero_add,e2]
theorem blk_div {w h j:Nat} (hj:j < h):(w * h+j) / h=w∧(w * h+j) % h=j:=by
  constructor
  · rw [Nat.add_comm,Nat.add_mul_div_right _ _ (by omega),Nat.div_eq_of_lt hj];omega
  · rw [Nat.add_comm,Nat.add_mul_mod_self_right,Nat.mod_eq_of_lt hj]
theorem cR_sum (f:Nat→Bool) (h:Nat) (i:Nat):∀ w,cR f h (w * h) 0 i=if i < w then S (List.range h) (fun j=>if f (i * h+j) then 1 else 0) else 0
  | 0=>by simp [cR,S]
  | w+1=>by
    have ih:=cR_sum f h i w
    rw [cR] at ih ⊢
    have hb:S (List.range h) (fun j=>if (w * h+j) / h=i then (if f (w * h+j) then (1:Int) else 0) else 0)=S (List.range h) (fun j=>if w=i then (if f (w * h+j) then 1 else 0) else 0) :=
      S_congr fun j hj=>by rw [(blk_div (List.mem_range.1 hj)).1]
    rw [blk,ih,hb]
    by_cases hw:w=i
    · subst hw
      rw [if_neg (by omega),if_pos (by omega)];simp
    · simp only [if_neg hw,S_zero]
      by_cases hi:i < w
      · rw [if_pos hi,if_pos (by omega)];omega
      · rw [if_neg hi,if_neg (by omega)];rfl
theorem cC_sum (f:Nat→Bool) (h:Nat) (j:Nat) (hj:j < h):∀ w,cC f h (w * h) 0 j=S (List.range w) (fun i=>if f (i * h+j) then 1 else 0)
  | 0=>by simp [cC,S]
  | w+1=>by
    have ih:=cC_sum f h j hj w
    rw [cC] at ih ⊢
    have hb:S (List.range h) (fun u=>if (w * h+u) % h=j then (if f (w * h+u) then (1:Int) else 0) else 0)=S (List.range h) (fun u=>if u=j then (if f (w * h+u) then 1 else 0) else 0) :=
      S_congr fun u hu=>by rw [(blk_div (List.mem_range.1 hu)).2]
    rw [blk,ih,hb,S_pick hj fun u=>if f (w * h+u) then 1 else 0,List.range_succ,S_app]
    simp [S]
def Dg (n:Nat) (a b:List Int):Prop:=∃ p:Nat→Nat→Bool,(∀ v,p v v=false) ∧
  (∀ v,v < n→S (List.range n) (fun u=>if p v u then 1 else 0)=a.getD v 0)∧(∀ v,v < n→S (List.range n) (fun u=>if p u v then 1 else 0)=b.getD v 0)
theorem Dg.symm {n:Nat} {a b:List Int}:Dg n a b→Dg n b a:=fun ⟨p,h1,h2,h3⟩=>⟨fun u v=>p v u,h1,h3,h2⟩
theorem hasM2_iff {a b:List Int} {n:Nat} (ha:a.length=n) (hb:b.length=n) (h0:0 < n) (la:Lil a) (lb:Lil b):hasM2 a b=true ↔ Dg n a b:=by
  have h1:hasM2 a b=true ↔ mts mayD n (n * n) 0 a b (zeroT n n) ≠ []:=by
    rw [hasM2,ha,hb];simp
  rw [h1,mts_iff mayD n n h0 (n * n) 0 a b _ (by omega) ha hb la lb]
  constructor
  · rintro ⟨f,f1,f2,f3⟩
    refine ⟨fun v u=>if u < n then f (v * n+u) else false,fun v=>?_,fun v hv=>?_,fun v hv=>?_⟩
    · by_cases hv:v < n
      · simp only [if_pos hv]
        cases hf:f (v * n+v) with
        | false=>rfl
        | true =>
          have:=f1 _ (Nat.zero_le _) hf
          rw [(blk_div hv).1,(blk_div hv).2] at this
          simp [mayD] at this
      · simp [hv]
    · rw [← f2 v hv,cR_sum,if_pos hv]
      exact S_congr fun u hu=>by
        have hu2:=List.mem_range.1 hu
        simp [hu2]
    · rw [← f3 v hv,cC_sum f n v hv]
      exact S_congr fun u hu=>by simp [hv]
  · rintro ⟨p,p1,p2,p3⟩
    refine ⟨fun c=>p (c / n) (c % n),fun c _ hc=>?_,fun i hi=>?_,fun j hj=>?_⟩
    · simp only [mayD,Bool.not_eq_true',decide_eq_false_iff_not]
      intro q
      have hc2:p (c / n) (c % n)=true:=hc
      rw [q,p1] at hc2
      simp at hc2
    · rw [cR_sum,if_pos hi,← p2 i hi]
      exact S_congr fun u hu=>by rw [(blk_div (List.mem_range.1 hu)).1,(blk_div (List.mem_range.1 hu)).2]
    · rw [cC_sum _ _ _ hj,← p3 j hj]
      exact S_congr fun u hu=>by rw [(blk_div hj).1,(blk_div hj).2]
theorem graphic_Dg {a:List Int} (hg:graphic a=true) (h7:a.length≤7):Dg a.length a a:=by
  obtain ⟨p,hp⟩:=graphic_real hg
  have hd:∀ v,v < a.length→a.getD v 0=S (List.range a.length) (fun u=>if u=v then 0 else if p (mk u v) then 1 else 0):=fun v hv=>by
    rw [← deg_filter h7 p hv]
    have h5:(degs a.length ((prs a.length).filter p))[v]? = some (deg ((prs a.length).filter p) v):=by
      rw [degs_filter,List.getElem?_map,List.getElem?_range hv];rfl
    rw [hp] at h5
    rw [List.getD_eq_getElem?_getD,h5];rfl
  refine ⟨fun v u=>!decide (u=v) && p (mk u v),fun v=>by simp,fun v hv=>?_,fun v hv=>?_⟩
  · rw [hd v hv]
    refine S_congr fun u _=>?_
    by_cases h:u=v <;> simp [h]
  · rw [hd v hv]
    refine S_congr fun u _=>?_
    by_cases h:u=v
    · simp [h]
    · have h2:¬ v=u:=fun q=>h q.symm
      simp [h,h2,mk_comm v u]
theorem implD_symm (a b:List Int):implD b a=implD a b:=by
  by_cases hab:a.length=b.length
  · unfold implD
    cases hva:valS a with
    | false=>simp
    | true =>
      cases hvb:valS b with
      | false=>simp
      | true =>
        have h1:=valS_lil hva
        have h2:=valS_lil hvb
        have e1:=hasM2_iff (n:=a.length) rfl hab.symm (by omega) h1.1 h2.1
        have e2:=hasM2_iff (n:=a.length) hab.symm rfl (by omega) h2.1 h1.1
        have e3:hasM2 b a=hasM2 a b:=by
          rw [Bool.eq_iff_iff,e1,e2];exact ⟨Dg.symm,Dg.symm⟩
        simp [e3,hab]
  · have h2:¬ b.length=a.length:=fun q=>hab q.symm
    simp [implD,hab,h2]
theorem valid_valS {a:List Int} (hv:valid a=true) (h1:1≤a.length) (h5:a.length≤5):valS a=true:=by
  simp only [valid,Bool.and_eq_true] at hv
  have e1:(1≤(a.length:Int)):=by omega
  have e2:((a.length:Int)≤5):=by omega
  rw [valS,hv.2,decide_eq_true e1,decide_eq_true e2];rfl
theorem implD_graphic {a:List Int} (hv:valid a=true) (h1:1≤a.length) (h5:a.length≤5) (hg:graphic a=true):implD a a=true:=by
  have hs:=valid_valS hv h1 h5
  have hl:=valS_lil hs
  have:=(hasM2_iff (n:=a.length) rfl rfl (by omega) hl.1 hl.1).2 (graphic_Dg hg (by omega))
  simp [implD,hs,this]
end Go.Idl
namespace Go.Idl
open Go
def DgP (ps:List (Int×Int)):Prop:=∃ p:Nat→Nat→Bool,(∀ v,p v v=false) ∧
  (∀ v,v < ps.length→S (List.range ps.length) (fun u=>if p v u then 1 else 0)=(ps.getD v (0,0)).1)∧(∀ v,v < ps.length→S (List.range ps.length) (fun u=>if p u v then 1 else 0)=(ps.getD v (0,0)).2)
theorem zip_getD {a b:List Int} {v:Nat} (ha:v < a.length) (hb:v < b.length):(a.zip b).getD v (0,0)=(a.getD v 0,b.getD v 0):=by
  have h:v < (a.zip b).length:=by simp;omega
  rw [List.getD_eq_getElem?_getD,List.getElem?_eq_getElem h,List.getElem_zip,getD_get ha,getD_get hb];rfl
theorem Dg_iff {n:Nat} {a b:List Int} (ha:a.length=n) (hb:b.length=n):Dg n a b ↔ DgP (a.zip b):=by
  have hl:(a.zip b).length=n:=by simp;omega
  unfold Dg DgP
  rw [hl]
  constructor
  · rintro ⟨p,h1,h2,h3⟩
    exact ⟨p,h1,fun v hv=>by rw [h2 v hv,zip_getD (by omega) (by omega)],fun v hv=>by rw [h3 v hv,zip_getD (by omega) (by omega)]⟩
  · rintro ⟨p,h1,h2,h3⟩
    exact ⟨p,h1,fun v hv=>by rw [h2 v hv,zip_getD (by omega) (by omega)],fun v hv=>by rw [h3 v hv,zip_getD (by omega) (by omega)]⟩
theorem DgP_perm {ps qs:List (Int×Int)} (h:qs.Perm ps):DgP ps→DgP qs:=by
  rintro ⟨p,h1,h2,h3⟩
  have hn:qs.length=ps.length:=h.length_eq
  have hd:ps=(List.range ps.length).map fun v=>ps.getD v (0,0):=by
    refine List.ext_getElem (by simp) fun i k1 k2=>?_
    simp [List.getD_eq_getElem?_getD,List.getElem?_eq_getElem k1]
  obtain ⟨π,hπ,hq⟩:=perm_map_inv (f:=fun v=>ps.getD v (0,0)) h hd
  have hπl:π.length=ps.length:=by rw [hπ.length_eq,List.length_range]
  have hmap:(List.range ps.length).map (fun v=>π.getD v 0)=π:=by
    refine List.ext_getElem (by simp [hπl]) fun i k1 k2=>?_
    simp [List.getD_eq_getElem?_getD,List.getElem?_eq_getElem k2]
  have hS:∀ g:Nat→Int,S (List.range ps.length) (fun u=>g (π.getD u 0))=S (List.range ps.length) g:=fun g=>by
    have e:=S_map (List.range ps.length) (fun v=>π.getD v 0) g
    rw [hmap,S_perm hπ] at e
    exact e.symm
  have hg:∀ v,v < ps.length→π.getD v 0 < ps.length∧qs.getD v (0,0)=ps.getD (π.getD v 0) (0,0):=fun v hv=>by
    have hvπ:v < π.length:=by omega
    have e1:π.getD v 0=π[v]:=by simp [List.getD_eq_getElem?_getD,List.getElem?_eq_getElem hvπ]
    rw [e1]
    refine ⟨List.mem_range.1 (hπ.mem_iff.1 (List.getElem_mem hvπ)),?_⟩
    rw [hq,List.getD_eq_getElem?_getD,List.getElem?_map,List.getElem?_eq_getElem hvπ];rfl
  refine ⟨fun v u=>p (π.getD v 0) (π.getD u 0),fun v=>h1 _,fun v hv=>?_,fun v hv=>?_⟩
  · rw [hn] at hv ⊢
    rw [(hg v hv).2,← h2 _ (hg v hv).1]
    exact hS fun u=>if p (π.getD v 0) u then 1 else 0
  · rw [hn] at hv ⊢
    rw [(hg v hv).2,← h3 _ (hg v hv).1]
    exact hS fun u=>if p u (π.getD v 0) then 1 else 0
theorem insA_perm (e:Int×Int) (es:List (Int×Int)):(insA e es).Perm (e::es):=by
  induction es with
  | nil=>exact .refl _
  | cons x r ih =>
    rw [insA];split
    · exact (ih.cons x).trans (.swap e x r)
    · exact .refl _
theorem arcO_perm (ps:List (Int×Int)):(arcO ps).Perm ps:=by
  have:∀ (ps o:List (Int×Int)),(ps.foldl (fun o e=>insA e o) o).Perm (ps++o):=by
    intro ps
    induction ps with
    | nil=>intro o;exact .refl _
    | cons e r ih =>
      intro o
      rw [List.foldl_cons]
      refine (ih (insA e o)).trans ?_
      refine ((insA_perm e o).append_left r).trans ?_
      exact List.perm_middle
  have:=this ps []
  rwa [List.append_nil] at this
theorem S_lt {n k:Nat} (hk:k≤n):S (List.range n) (fun i=>if i < k then 1 else 0)=k:=by
  induction n with
  | zero=>have:k=0:=by omega
          subst this;simp [S]
  | succ n ih =>
    rw [List.range_succ,S_app]
    by_cases hkn:k=n+1
    · subst hkn
      rw [S_congr (g:=fun _=>1) fun i hi=>by rw [if_pos (by have:=List.mem_range.1 hi;omega)],S_const]
      simp [S]
    · rw [ih (by omega)]
      simp [S];omega
theorem slkP_S (o:List (Int×Int)) (k:Nat):∀ m,slkP o k m=S (List.range m) (dtm o k)
  | 0=>rfl
  | m+1=>by rw [slkP,slkP_S o k m,List.range_succ,S_app];simp [S]
theorem DgP_slk {o:List (Int×Int)} (h:DgP o) (k:Nat) (hk:k≤o.length):0≤slkP o k o.length:=by
  obtain ⟨p,h1,h2,h3⟩:=h
  rw [slkP_S]
  have e1:S (List.range o.length) (fun i=>if i < k then (o.getD i (0,0)).1 else 0)=S (List.range o.length) (fun j=>S (List.range o.length) (fun i=>if i < k then (if p i j then 1 else 0) else 0)):=by
    rw [← S_swap]
    refine S_congr fun i hi=>?_
    by_cases hik:i < k
    · simp only [if_pos hik];exact (h2 i (List.mem_range.1 hi)).symm
    · simp only [if_neg hik];exact (S_zero _).symm
  have e2:S (List.range o.length) (fun j=>S (List.range o.length) (fun i=>if i < k then (if p i j then 1 else 0) else 0))≤S (List.range o.length) (fun j=>if j < k then min (o.getD j (0,0)).2 ((k:Int) - 1) else min (o.getD j (0,0)).2 k):=by
    refine S_le fun j hj=>?_
    have hj:=List.mem_range.1 hj
    have a1:S (List.range o.length) (fun i=>if i < k then (if p i j then 1 else 0) else 0)≤(o.getD j (0,0)).2:=by
      rw [← h3 j hj]
      exact S_le fun i _=>by split <;> (try split) <;> omega
    have a2:S (List.range o.length) (fun i=>if i < k then (if p i j then 1 else 0) else 0)≤k:=by
      rw [← S_lt hk]
      exact S_le fun i _=>by split <;> (try split) <;> omega
    by_cases hjk:j < k
    · rw [if_pos hjk]
      have a3:S (List.range o.length) (fun i=>if i < k then (if p i j then 1 else 0) else 0)≤(k:Int) - 1:=by
        have s1:=S_pick hj fun _=>(1:Int)
        have s2:=S_lt hk
        have s3:=S_sub (List.range o.length) (fun i=>if i < k then (1:Int) else 0) (fun u=>if u=j then (1:Int) else 0)
        have s4:S (List.range o.length) (fun i=>if i < k then (if p i j then 1 else 0) else 0)≤S (List.range o.length) (fun i=>(if i < k then (1:Int) else 0) - (if i=j then (1:Int) else 0)):=by
          refine S_le fun i _=>?_
          by_cases hij:i=j
          · subst hij;simp [h1,hjk]
          · simp only [if_neg hij];split <;> (try split) <;> omega
        rw [s1,s2] at s3
        rw [s3] at s4
        exact s4
      omega
    · rw [if_neg hjk];omega
  have e3:S (List.range o.length) (dtm o k)=S (List.range o.length) (fun j=>if j < k then min (o.getD j (0,0)).2 ((k:Int) - 1) else min (o.getD j (0,0)).2 k) - S (List.range o.length) (fun i=>if i < k then (o.getD i (0,0)).1 else 0):=by
    rw [← S_sub]
    refine S_congr fun i _=>?_
    unfold dtm
    by_cases hik:i < k
    · simp only [if_pos hik]
    · simp only [if_neg hik];omega
  rw [e3,e1];omega
theorem DgP_allP {o:List (Int×Int)} (h:DgP o):∀ m k:Nat,1≤k→k+m=o.length+1→allP o m k=true
  | 0,_,_,_=>rfl
  | m+1,k,h1,hk=>by
    rw [allP,DgP_allP h m (k+1) (by omega) (by omega),decide_eq_true (DgP_slk h k (by omega))];rfl
end Go.Idl
namespace Go.Idl
open Go
def sideOk (n:Int):Bool:=decide (1≤n) && decide (n≤5)
def inAll (r:List Int) (n:Int):Bool:=r.all fun x=>decide (0≤x) && decide (x≤n)
def vMar (r c:List Int):Bool:=sideOk r.length && (sideOk c.length && (inAll r c.length && inAll c r.length))
theorem ev_ValidMargins (r c:List Int) (k l:Bool) (hr:r.length≤1000000) (hc:c.length≤1000000) :
    Ev tb zl200 [] [L r k,L c l] [] ⟨Bo (vMar r c),[],[],[]⟩:=by
  have e1:=ev_lim (ev_in (r.length:Int) 1 5)
  have e2:=ev_lim (ev_in (c.length:Int) 1 5)
  have e3:=ev_lim (ev_allIn r k 0 (c.length:Int) hr)
  have e4:=ev_lim (ev_allIn c l 0 (r.length:Int) hc)
  unfold vMar inAll sideOk
  generalize (decide (1≤(r.length:Int)) && decide ((r.length:Int)≤5))=b1 at *
  generalize (decide (1≤(c.length:Int)) && decide ((c.length:Int)≤5))=b2 at *
  generalize (r.all fun x=>decide (0≤x) && decide (x≤(c.length:Int)))=b3 at *
  generalize (c.all fun x=>decide (0≤x) && decide (x≤(r.length:Int)))=b4 at *
  cases b1 with
  | false =>
    refine call_of_wp zt200 rfl ?_
    repeat (first|refine wp_as ?_|refine wp_ss ?_|refine wr (by simp [e1];with_reducible rfl) ?_|refine wq (by simp [e1];with_reducible rfl) ?_|refine wt (by simpa [e1]) ?_|refine wf (by simpa [e1]) ?_|refine xt (by simpa [e1]) ?_|refine xf (by simpa [e1]) ?_|refine wp_bs ?_|refine wp_b ?_|refine wp_sr ?_|refine wp_sx ?_|refine wp_ret' ?_|refine wp_skip' ?_|refine wp_exit' ?_)
    simp [zi200]
  | true =>
  cases b2 with
  | false =>
    refine call_of_wp zt200 rfl ?_
    repeat (first|refine wp_as ?_|refine wp_ss ?_|refine wr (by simp [e1,e2];with_reducible rfl) ?_|refine wq (by simp [e1,e2];with_reducible rfl) ?_|refine wt (by simpa [e1,e2]) ?_|refine wf (by simpa [e1,e2]) ?_|refine xt (by simpa [e1,e2]) ?_|refine xf (by simpa [e1,e2]) ?_|refine wp_bs ?_|refine wp_b ?_|refine wp_sr ?_|refine wp_sx ?_|refine wp_ret' ?_|refine wp_skip' ?_|refine wp_exit' ?_)
    simp [zi200]
  | true =>
  cases b3 with
  | false =>
    refine call_of_wp zt200 rfl ?_
    repeat (first|refine wp_as ?_|refine wp_ss ?_|refine wr (by simp [e1,e2,e3];with_reducible rfl) ?_|refine wq (by simp [e1,e2,e3];with_reducible rfl) ?_|refine wt (by simpa [e1,e2,e3]) ?_|refine wf (by simpa [e1,e2,e3]) ?_|refine xt (by simpa [e1,e2,e3]) ?_|refine xf (by simpa [e1,e2,e3]) ?_|refine wp_bs ?_|refine wp_b ?_|refine wp_sr ?_|refine wp_sx ?_|refine wp_ret' ?_|refine wp_skip' ?_|refine wp_exit' ?_)
    simp [zi200]
  | true =>
    refine call_of_wp zt200 rfl ?_
    repeat (first|refine wp_as ?_|refine wp_ss ?_|refine wr (by simp [e1,e2,e3,e4];with_reducible rfl) ?_|refine wq (by simp [e1,e2,e3,e4];with_reducible rfl) ?_|refine wt (by simpa [e1,e2,e3,e4]) ?_|refine wf (by simpa [e1,e2,e3,e4]) ?_|refine xt (by simpa [e1,e2,e3,e4]) ?_|refine xf (by simpa [e1,e2,e3,e4]) ?_|refine wp_bs ?_|refine wp_b ?_|refine wp_sr ?_|refine wp_sx ?_|refine wp_ret' ?_|refine wp_skip' ?_|refine wp_exit' ?_)
    simp [zi200]
end Go.Idl
namespace Go.Idl
open Go
@[simp] theorem un_neg (n:Int):Op.unary .neg (.int .i64 n)=.pure (.int .i64 (IntKind.i64.wrap (-n))):=by
  rw [← Int.zero_sub];rfl
def gs (r c:List Int) (i:Nat):Int:=-((fall r).take (i+1)).sum+(c.map fun x:Int=>min x ((i:Int)+1)).sum
def gale (r c:List Int):List Int:=mapR r.length (gs r c)
theorem vMar_few {r c:List Int} (h:vMar r c=true):Few r∧Few c∧(1≤r.length∧r.length≤5)∧(1≤c.length∧c.length≤5):=by
  simp only [vMar,sideOk,inAll,Bool.and_eq_true,decide_eq_true_eq,List.all_eq_true] at h
  obtain ⟨h1,h2,h3,h4⟩:=h
  refine ⟨⟨by omega,fun x hx=>by have:=h3 x hx;omega⟩,⟨by omega,fun x hx=>by have:=h4 x hx;omega⟩,by omega,by omega⟩
theorem mins_bound (i:Nat):∀ (c:List Int),(∀ x ∈ c,0≤x∧x≤6)→0≤(c.map fun x:Int=>min x ((i:Int)+1)).sum∧(c.map fun x:Int=>min x ((i:Int)+1)).sum≤6 * c.length
  | [],_=>by simp
  | x::r,h=>by
    have h1:=h x (by simp)
    have h2:=mins_bound i r fun y hy=>h y (by simp [hy])
    simp only [List.map_cons,List.sum_cons,List.length_cons];omega
theorem gl_in (r c:List Int) (l:Bool) (n i:Nat) (hi:i < n) (hn:n≤7) (hc:Few c) (v0:Int) (hv:-1000≤v0∧v0≤1000) (S:IV):∀ (m k:Nat) (A:List Int),k+m=c.length→A.length=n →
    (∀ h:i < A.length,A[i]=v0+((c.take k).map fun x:Int=>min x ((i:Int)+1)).sum) →
    wp tb (.loop z165l14) { T:=[(1,L c l),(5,O r),(6,O A),(7,I i),(20,I n),(21,I i),(33,L c l),(34,I c.length),(35,I k)],loc:=[],M:=[] }
      (fun ex st=>ex=.exit 2∧st={ T:=[(1,L c l),(5,O r),(6,O (A.set i (v0+(c.map fun x:Int=>min x ((i:Int)+1)).sum))),(7,I i),(20,I n),(21,I i),(33,L c l),(34,I c.length),(35,I c.length),(36,Bo false)],loc:=[],M:=[] }):=by
  intro m
  induction m with
  | zero =>
    intro k A hk hA hAi
    have h3:k=c.length:=hk
    subst h3
    have hi':i < A.length:=by omega
    have hs:A.set i (v0+(c.map fun x:Int=>min x ((i:Int)+1)).sum)=A:=by
      have:=hAi hi'
      rw [List.take_of_length_le (by omega)] at this
      rw [← this];simp
    refine wp_loop ?_
    repeat (first|refine wp_as ?_|refine wp_ss ?_|refine wr (by simp;with_reducible rfl) ?_|refine wq (by simp;with_reducible rfl) ?_|refine wt (by simpa) ?_|refine wf (by simpa) ?_|refine xt (by simpa) ?_|refine xf (by simpa) ?_|refine wp_bs ?_|refine wp_b ?_|refine wp_sr ?_|refine wp_sx ?_|refine wp_ret' ?_|refine wp_skip' ?_|refine wp_exit' ?_)
    exact ⟨rfl,by rw [hs]⟩
  | succ m ih =>
    intro k A hk hA hAi
    obtain ⟨hk2,h2,h3⟩:=drop_get hk
    have hiA:i < A.length:=by omega
    have hAi:=hAi hiA
    have hcl:=hc.1
    have w2:IntKind.i64.wrap ((k:Int)+1)=((k+1:Nat):Int):=wrapS (by omega)
    have w3:IntKind.i64.wrap ((i:Int)+1)=(i:Int)+1:=wrap64 (by omega) (by omega)
    have hb:=mins_bound i (c.take (k+1)) (fun x hx=>hc.2 x (List.mem_of_mem_take hx))
    have hbl:(c.take (k+1)).length≤7:=by simp;omega
    have ht:((c.take (k+1)).map fun x:Int=>min x ((i:Int)+1)).sum=((c.take k).map fun x:Int=>min x ((i:Int)+1)).sum+min c[k] ((i:Int)+1):=by
      rw [List.take_succ_eq_append_getElem hk2]
      simp only [List.map_append,List.sum_append,List.map_cons,List.map_nil,List.sum_cons,List.sum_nil];omega
    have hg:=fun (A':List Int) h1 h2=>ih (k+1) A' (by omega) h1 h2
    generalize ((c.take (k+1)).map fun x:Int=>min x ((i:Int)+1)).sum=s1 at *
    generalize ((c.take k).map fun x:Int=>min x ((i:Int)+1)).sum=s0 at *
    have w1:IntKind.i64.wrap (v0+s0+min c[k] ((i:Int)+1))=v0+s1:=by rw [show v0+s0+min c[k] ((i:Int)+1)=v0+s1 by omega];exact wrap64 (by omega) (by omega)
    have hx1:i < n:=hi
    refine wp_loop ?_
    repeat (first|refine wp_as ?_|refine wp_ss ?_|refine wr (by simp [hk2,hiA,hA,hx1,hAi,w1,w2,w3,min_if,min_if'];with_reducible rfl) ?_|refine wq (by simp [hk2,hiA,hA,hx1,hAi,w1,w2,w3,min_if,min_if'];with_reducible rfl) ?_|refine wt (by simpa [hk2,hiA,hA,hx1,hAi,w1,w2,w3,min_if,min_if']) ?_|refine wf (by simpa [hk2,hiA,hA,hx1,hAi,w1,w2,w3,min_if,min_if']) ?_|refine xt (by simpa [hk2,hiA,hA,hx1,hAi,w1,w2,w3,min_if,min_if']) ?_|refine xf (by simpa [hk2,hiA,hA,hx1,hAi,w1,w2,w3,min_if,min_if']) ?_|refine wp_bs ?_|refine wp_b ?_|refine wp_sr ?_|refine wp_sx ?_|refine wp_ret' ?_|refine wp_skip' ?_|refine wp_exit' ?_)
    refine wp_imp (hg (A.set i (v0+s1)) (by simp [hA]) (by intro h;simp)) ?_
    rintro ex st ⟨rfl,rfl⟩
    exact ⟨rfl,by simp⟩
theorem gl_out (r c:List Int) (l:Bool) (hr:Few r) (hc:Few c):∀ (m i:Nat),i+m=r.length →
    wp tb (.loop z165l16) { T:=[(1,L c l),(5,O (fall r)),(6,O (mapR i (gs r c)++List.replicate (r.length - i) 0)),(20,I r.length),(21,I i)],loc:=[],M:=[] }
      (fun ex st=>ex=.exit 0∧st={ T:=[(1,L c l),(5,O (fall r)),(6,O (gale r c)),(20,I r.length),(21,I r.length),(22,Bo false)],loc:=[],M:=[] }):=by
  intro m
  induction m with
  | zero =>
    intro i hi
    have h3:i=r.length:=hi
    subst h3
    refine wp_loop ?_
    repeat (first|refine wp_as ?_|refine wp_ss ?_|refine wr (by simp;with_reducible rfl) ?_|refine wq (by simp;with_reducible rfl) ?_|refine wt (by simpa) ?_|refine wf (by simpa) ?_|refine xt (by simpa) ?_|refine xf (by simpa) ?_|refine wp_bs ?_|refine wp_b ?_|refine wp_sr ?_|refine wp_sx ?_|refine wp_ret' ?_|refine wp_skip' ?_|refine wp_exit' ?_)
    exact ⟨rfl,by simp [gale]⟩
  | succ m ih =>
    intro i hi
    have hi2:i < r.length:=by omega
    have hrl:=hr.1
    have w2:IntKind.i64.wrap ((i:Int)+1)=(i:Int)+1:=wrap64 (by omega) (by omega)
    have hfl:(fall r).length=r.length:=fall_len r
    have hft:=hr.fall.take (i+1)
    have hsum:=hft.sum
    have e3:=fun cc=>ev_lim (ev_sum ((fall r).take (i+1)) cc hft.small)
    have w3:IntKind.i64.wrap (-((fall r).take (i+1)).sum)=-((fall r).take (i+1)).sum:=wrap64 (by omega) (by omega)
    have h5:i+1≤r.length:=by omega
    have hA:(mapR i (gs r c)++List.replicate (r.length - i) 0).length=r.length:=by simp [mapR];omega
    have hs:=mapR_succ_set (gs r c) hi2
    have hin:=gl_in (fall r) c l r.length i hi2 hrl hc (-((fall r).take (i+1)).sum) (by omega) Z c.length 0
      ((mapR i (gs r c)++List.replicate (r.length - i) 0).set i (-((fall r).take (i+1)).sum)) (by omega) (by rw [List.length_set];exact hA) (by intro h;simp)
    rw [show ((0:Nat):Int)=0 from rfl] at hin
    simp only [List.set_set] at hin
    have hgs:-((fall r).take (i+1)).sum+(c.map fun x:Int=>min x ((i:Int)+1)).sum=gs r c i:=rfl
    rw [hgs] at hin
    generalize (mapR i (gs r c)++List.replicate (r.length - i) 0)=A at *
    have hiA:i < A.length:=by omega
    have hnx:=ih (i+1) (by omega)
    rw [← hs] at hnx
    rw [Int.natCast_add,Int.natCast_one] at hnx
    refine wp_loop ?_
    repeat (first|refine wp_as ?_|refine wp_ss ?_|refine wr (by simp [hi2,hfl,w2,h5,e3,w3,hA,hiA];with_reducible rfl) ?_|refine wq (by simp [hi2,hfl,w2,h5,e3,w3,hA,hiA];with_reducible rfl) ?_|refine wt (by simpa [hi2,hfl,w2,h5,e3,w3,hA,hiA]) ?_|refine wf (by simpa [hi2,hfl,w2,h5,e3,w3,hA,hiA]) ?_|refine xt (by simpa [hi2,hfl,w2,h5,e3,w3,hA,hiA]) ?_|refine xf (by simpa [hi2,hfl,w2,h5,e3,w3,hA,hiA]) ?_|refine wp_bs ?_|refine wp_b ?_|refine wp_sr ?_|refine wp_sx ?_|refine wp_ret' ?_|refine wp_skip' ?_|refine wp_exit' ?_)
    refine wp_imp hin ?_
    rintro ex st ⟨rfl,rfl⟩
    simp only [if_true]
    repeat (first|refine wp_as ?_|refine wp_ss ?_|refine wr (by simp [w2];with_reducible rfl) ?_|refine wq (by simp [w2];with_reducible rfl) ?_|refine wt (by simpa [w2]) ?_|refine wf (by simpa [w2]) ?_|refine xt (by simpa [w2]) ?_|refine xf (by simpa [w2]) ?_|refine wp_bs ?_|refine wp_b ?_|refine wp_sr ?_|refine wp_sx ?_|refine wp_ret' ?_|refine wp_skip' ?_|refine wp_exit' ?_)
    exact hnx
theorem ev_GaleSlacks (r c:List Int) (k l:Bool) (hv:vMar r c=true) :
    Ev tb zl165 [] [L r k,L c l] [] ⟨O (gale r c),[],[],[]⟩:=by
  obtain ⟨hr,hc,hr5,hc5⟩:=vMar_few hv
  have e1:=ev_lim (ev_ValidMargins r c k l (by omega) (by omega))
  rw [hv] at e1
  have e2:=ev_lim (ev_falling r k (by omega))
  have hfl:(fall r).length=r.length:=fall_len r
  refine call_of_wp zt165 rfl ?_
  repeat (first|refine wp_as ?_|refine wp_ss ?_|refine wr (by simp [e1,e2,show r.length≤274877906944 by omega];with_reducible rfl) ?_|refine wq (by simp [e1,e2,show r.length≤274877906944 by omega];with_reducible rfl) ?_|refine wt (by simpa [e1,e2,show r.length≤274877906944 by omega]) ?_|refine wf (by simpa [e1,e2,show r.length≤274877906944 by omega]) ?_|refine xt (by simpa [e1,e2,show r.length≤274877906944 by omega]) ?_|refine xf (by simpa [e1,e2,show r.length≤274877906944 by omega]) ?_|refine wp_bs ?_|refine wp_b ?_|refine wp_sr ?_|refine wp_sx ?_|refine wp_ret' ?_|refine wp_skip' ?_|refine wp_exit' ?_)
  have:=gl_out r c l hr hc r.length 0 (by omega)
  simp [mapR] at this
  refine wp_imp this ?_
  rintro ex st ⟨rfl,rfl⟩
  simp only [if_true]
  repeat (first|refine wp_as ?_|refine wp_ss ?_|refine wr (by simp;with_reducible rfl) ?_|refine wq (by simp;with_reducible rfl) ?_|refine wt (by simpa) ?_|refine wf (by simpa) ?_|refine xt (by simpa) ?_|refine xf (by simpa) ?_|refine wp_bs ?_|refine wp_b ?_|refine wp_sr ?_|refine wp_sx ?_|refine wp_ret' ?_|refine wp_skip' ?_|refine wp_exit' ?_)
  simp [zi165,gale,mapR]
end Go.Idl
namespace Go.Idl
open Go
def bigr (r c:List Int):Bool:=vMar r c && (decide (r.sum=c.sum) && noneNeg (gale r c))
theorem gale_len (r c:List Int):(gale r c).length=r.length:=by simp [gale,mapR]
theorem ev_IsBigraphic (r c:List Int) (k l:Bool) (hr:r.length≤1000000) (hc:c.length≤1000000) :
    Ev tb zl176 [] [L r k,L c l] [] ⟨Bo (bigr r c),[],[],[]⟩:=by
  have e1:=ev_lim (ev_ValidMargins r c k l hr hc)
  unfold bigr
  cases hv:vMar r c with
  | false =>
    rw [hv] at e1
    refine call_of_wp zt176 rfl ?_
    repeat (first|refine wp_as ?_|refine wp_ss ?_|refine wr (by simp [e1];with_reducible rfl) ?_|refine wq (by simp [e1];with_reducible rfl) ?_|refine wt (by simpa [e1]) ?_|refine wf (by simpa [e1]) ?_|refine xt (by simpa [e1]) ?_|refine xf (by simpa [e1]) ?_|refine wp_bs ?_|refine wp_b ?_|refine wp_sr ?_|refine wp_sx ?_|refine wp_ret' ?_|refine wp_skip' ?_|refine wp_exit' ?_)
    simp [zi176]
  | true =>
  rw [hv] at e1
  obtain ⟨fr,fc,hr5,hc5⟩:=vMar_few hv
  have e2:=ev_lim (ev_sum r k fr.small)
  have e3:=ev_lim (ev_sum c l fc.small)
  have e4:=ev_lim (ev_GaleSlacks r c k l hv)
  by_cases hs:r.sum=c.sum
  rotate_left
  · refine call_of_wp zt176 rfl ?_
    repeat (first|refine wp_as ?_|refine wp_ss ?_|refine wr (by simp [e1,e2,e3,hs];with_reducible rfl) ?_|refine wq (by simp [e1,e2,e3,hs];with_reducible rfl) ?_|refine wt (by simpa [e1,e2,e3,hs]) ?_|refine wf (by simpa [e1,e2,e3,hs]) ?_|refine xt (by simpa [e1,e2,e3,hs]) ?_|refine xf (by simpa [e1,e2,e3,hs]) ?_|refine wp_bs ?_|refine wp_b ?_|refine wp_sr ?_|refine wp_sx ?_|refine wp_ret' ?_|refine wp_skip' ?_|refine wp_exit' ?_)
    simp [zi176,hs]
  have hgl:=gale_len r c
  obtain ⟨mn,e5,hg⟩:∃ mn,limF tb zl75 [] [L (gale r c)] []=some ⟨I mn,[],[],[]⟩∧(0≤mn ↔ noneNeg (gale r c)=true):=by
    cases ho:gale r c with
    | nil=>rw [ho] at hgl;simp at hgl;omega
    | cons x q =>
      rw [ho] at hgl
      simp only [List.length_cons] at hgl
      refine ⟨_,ev_lim (ev_Min x q false (by omega)),?_⟩
      rw [least1_ge q x 0]
      simp [noneNeg]
  by_cases h1:0≤mn
  · have h2:=hg.1 h1
    refine call_of_wp zt176 rfl ?_
    repeat (first|refine wp_as ?_|refine wp_ss ?_|refine wr (by simp [e1,e2,e3,hs,e4,e5,h1];with_reducible rfl) ?_|refine wq (by simp [e1,e2,e3,hs,e4,e5,h1];with_reducible rfl) ?_|refine wt (by simpa [e1,e2,e3,hs,e4,e5,h1]) ?_|refine wf (by simpa [e1,e2,e3,hs,e4,e5,h1]) ?_|refine xt (by simpa [e1,e2,e3,hs,e4,e5,h1]) ?_|refine xf (by simpa [e1,e2,e3,hs,e4,e5,h1]) ?_|refine wp_bs ?_|refine wp_b ?_|refine wp_sr ?_|refine wp_sx ?_|refine wp_ret' ?_|refine wp_skip' ?_|refine wp_exit' ?_)
    simp [zi176,hs,h2]
  · have h2:noneNeg (gale r c)=false:=by rw [← Bool.not_eq_true];exact fun h=>h1 (hg.2 h)
    refine call_of_wp zt176 rfl ?_
    repeat (first|refine wp_as ?_|refine wp_ss ?_|refine wr (by simp [e1,e2,e3,hs,e4,e5,h1];with_reducible rfl) ?_|refine wq (by simp [e1,e2,e3,hs,e4,e5,h1];with_reducible rfl) ?_|refine wt (by simpa [e1,e2,e3,hs,e4,e5,h1]) ?_|refine wf (by simpa [e1,e2,e3,hs,e4,e5,h1]) ?_|refine xt (by simpa [e1,e2,e3,hs,e4,e5,h1]) ?_|refine xf (by simpa [e1,e2,e3,hs,e4,e5,h1]) ?_|refine wp_bs ?_|refine wp_b ?_|refine wp_sr ?_|refine wp_sx ?_|refine wp_ret' ?_|refine wp_skip' ?_|refine wp_exit' ?_)
    simp [zi176,hs,h2]
end Go.Idl
namespace Go.Idl
open Go
def MM (h w:Nat) (t:List (List Int)):Prop:=t.length=h∧∀ r ∈ t,r.length=w∧∀ x ∈ r,0≤x∧x≤1
theorem am_in (code:List Int) (c:Bool) (hc:CodeOk code) (h w:Nat) (hw:w≤5) (bs:Boxes) (Ms:List Boxes) (t:List (List Int)) (i:Nat) :
    ∀ (m j cnt:Nat) (r:List Int),j+m=w→cnt+m≤90000→r.length=j→(∀ x ∈ r,0≤x∧x≤1) →
    wp tb (.loop z331l9) { T:=[(0,.bptr 0 0 0),(1,I h),(2,I w),(7,OT t),(8,I i),(9,O r),(10,I j)],loc:=[],M:=(R code c cnt::bs)::Ms }
      (fun ex st=>ex=.exit 2∧∃ (r':List Int) (k:Nat),(r'.length=w∧∀ x ∈ r',0≤x∧x≤1)∧k≤cnt+m ∧
        st={ T:=[(0,.bptr 0 0 0),(1,I h),(2,I w),(7,OT t),(8,I i),(9,O r'),(10,I w),(20,Bo false)],loc:=[],M:=(R code c k::bs)::Ms }):=by
  intro m
  induction m with
  | zero =>
    intro j cnt r hj hcn hr h01
    have h3:j=w:=hj
    subst h3
    refine wp_loop ?_
    repeat (first|refine wp_as ?_|refine wp_ss ?_|refine wr (by simp;with_reducible rfl) ?_|refine wq (by simp;with_reducible rfl) ?_|refine wt (by simpa) ?_|refine wf (by simpa) ?_|refine xt (by simpa) ?_|refine xf (by simpa) ?_|refine wp_bs ?_|refine wp_b ?_|refine wp_sr ?_|refine wp_sx ?_|refine wp_ret' ?_|refine wp_skip' ?_|refine wp_exit' ?_)
    exact ⟨rfl,r,cnt,⟨hr,h01⟩,by omega,rfl⟩
  | succ m ih =>
    intro j cnt r hj hcn hr h01
    have hjw:j < w:=by omega
    have w2:IntKind.i64.wrap ((j:Int)+1)=((j+1:Nat):Int):=wrapS (by omega)
    obtain ⟨v,k,hv,hk,e1⟩:=pick' code c hc cnt (by omega) 2 (by omega) bs (Ms++[[]])
    have hv:=hv (by omega)
    have hrl:r.length≤274877906943:=by omega
    have hrt:r.take r.length=r:=List.take_of_length_le (by omega)
    refine wp_loop ?_
    repeat (first|refine wp_as ?_|refine wp_ss ?_|refine wr (by simp [hjw,e1,w2,hrl,hrt];with_reducible rfl) ?_|refine wq (by simp [hjw,e1,w2,hrl,hrt];with_reducible rfl) ?_|refine wt (by simpa [hjw,e1,w2,hrl,hrt]) ?_|refine wf (by simpa [hjw,e1,w2,hrl,hrt]) ?_|refine xt (by simpa [hjw,e1,w2,hrl,hrt]) ?_|refine xf (by simpa [hjw,e1,w2,hrl,hrt]) ?_|refine wp_bs ?_|refine wp_b ?_|refine wp_sr ?_|refine wp_sx ?_|refine wp_ret' ?_|refine wp_skip' ?_|refine wp_exit' ?_)
    refine wp_imp (ih (j+1) k (r++[(v:Int)]) (by omega) (by omega) (by simp [hr]) (fun x hx=>?_)) ?_
    · rcases List.mem_append.1 hx with hx | hx
      · exact h01 x hx
      · simp at hx;omega
    · rintro ex st ⟨rfl,r',k',h1,h2,rfl⟩
      exact ⟨rfl,r',k',h1,by omega,rfl⟩
theorem am_out (code:List Int) (c:Bool) (hc:CodeOk code) (h w:Nat) (hh:h≤5) (hw:w≤5) (bs:Boxes) (Ms:List Boxes) :
    ∀ (m i cnt:Nat) (t:List (List Int)),i+m=h→cnt+5 * m≤90000→MM i w t →
    wp tb (.loop z331l12) { T:=[(0,.bptr 0 0 0),(1,I h),(2,I w),(7,OT t),(8,I i)],loc:=[],M:=(R code c cnt::bs)::Ms }
      (fun ex st=>ex=.exit 0∧∃ (t':List (List Int)) (k:Nat),MM h w t'∧k≤cnt+5 * m ∧
        st={ T:=[(0,.bptr 0 0 0),(1,I h),(2,I w),(7,OT t'),(8,I h),(14,Bo false)],loc:=[],M:=(R code c k::bs)::Ms }):=by
  intro m
  induction m with
  | zero =>
    intro i cnt t hi hcn ht
    have h3:i=h:=hi
    subst h3
    refine wp_loop ?_
    repeat (first|refine wp_as ?_|refine wp_ss ?_|refine wr (by simp;with_reducible rfl) ?_|refine wq (by simp;with_reducible rfl) ?_|refine wt (by simpa) ?_|refine wf (by simpa) ?_|refine xt (by simpa) ?_|refine xf (by simpa) ?_|refine wp_bs ?_|refine wp_b ?_|refine wp_sr ?_|refine wp_sx ?_|refine wp_ret' ?_|refine wp_skip' ?_|refine wp_exit' ?_)
    exact ⟨rfl,t,cnt,ht,by omega,rfl⟩
  | succ m ih =>
    intro i cnt t hi hcn ht
    have hih:i < h:=by omega
    have w2:IntKind.i64.wrap ((i:Int)+1)=((i+1:Nat):Int):=wrapS (by omega)
    refine wp_loop ?_
    repeat (first|refine wp_as ?_|refine wp_ss ?_|refine wr (by simp [hih];with_reducible rfl) ?_|refine wq (by simp [hih];with_reducible rfl) ?_|refine wt (by simpa [hih]) ?_|refine wf (by simpa [hih]) ?_|refine xt (by simpa [hih]) ?_|refine xf (by simpa [hih]) ?_|refine wp_bs ?_|refine wp_b ?_|refine wp_sr ?_|refine wp_sx ?_|refine wp_ret' ?_|refine wp_skip' ?_|refine wp_exit' ?_)
    have hin:=am_in code c hc h w hw bs Ms t i w 0 cnt [] (by omega) (by omega) rfl (by simp)
    rw [show ((0:Nat):Int)=0 from rfl] at hin
    refine wp_imp hin ?_
    rintro ex st ⟨rfl,r',k',h1,h2,rfl⟩
    simp only [if_true]
    have htl:=ht.1
    have htt:t.length≤274877906943:=by omega
    have hto:t.take t.length=t:=List.take_of_length_le (by omega)
    repeat (first|refine wp_as ?_|refine wp_ss ?_|refine wr (by simp [w2,htt,hto];with_reducible rfl) ?_|refine wq (by simp [w2,htt,hto];with_reducible rfl) ?_|refine wt (by simpa [w2,htt,hto]) ?_|refine wf (by simpa [w2,htt,hto]) ?_|refine xt (by simpa [w2,htt,hto]) ?_|refine xf (by simpa [w2,htt,hto]) ?_|refine wp_bs ?_|refine wp_b ?_|refine wp_sr ?_|refine wp_sx ?_|refine wp_ret' ?_|refine wp_skip' ?_|refine wp_exit' ?_)
    refine wp_imp (ih (i+1) k' (t++[r']) (by omega) (by omega) ⟨by simp [htl],fun r hr=>?_⟩) ?_
    · rcases List.mem_append.1 hr with hr | hr
      · exact ht.2 r hr
      · simp at hr;subst hr;exact h1
    · rintro ex st ⟨rfl,t'',k'',h3,h4,rfl⟩
      exact ⟨rfl,t'',k'',h3,by omega,rfl⟩
theorem ev_aMatrix (code:List Int) (c:Bool) (hc:CodeOk code) (cnt:Nat) (hn:cnt≤80000) (h w:Nat) (hh:h≤5) (hw:w≤5) (bs:Boxes) (Ms:List Boxes) :
    ∃ (t:List (List Int)) (k:Nat),MM h w t∧k≤cnt+25 ∧
      limF tb zl331 [] [.bptr 0 0 0,I h,I w] ((R code c cnt::bs)::Ms)=some ⟨OT t,[],(R code c k::bs)::Ms,[]⟩:=by
  suffices h:∃ r,(∃ (t:List (List Int)) (k:Nat),MM h w t∧k≤cnt+25∧r=⟨OT t,[],(R code c k::bs)::Ms,[]⟩)∧Ev tb zl331 [] [.bptr 0 0 0,I h,I w] ((R code c cnt::bs)::Ms) r by
    obtain ⟨r,⟨t,k,h1,h2,rfl⟩,h⟩:=h
    exact ⟨t,k,h1,h2,ev_lim h⟩
  refine call_ex zt331 rfl ?_
  repeat (first|refine wp_as ?_|refine wp_ss ?_|refine wr (by simp;with_reducible rfl) ?_|refine wq (by simp;with_reducible rfl) ?_|refine wt (by simpa) ?_|refine wf (by simpa) ?_|refine xt (by simpa) ?_|refine xf (by simpa) ?_|refine wp_bs ?_|refine wp_b ?_|refine wp_sr ?_|refine wp_sx ?_|refine wp_ret' ?_|refine wp_skip' ?_|refine wp_exit' ?_)
  have hin:=am_out code c hc h w hh hw bs Ms h 0 cnt [] (by omega) (by omega) ⟨rfl,by simp⟩
  rw [show ((0:Nat):Int)=0 from rfl] at hin
  refine wp_imp hin ?_
  rintro ex st ⟨rfl,t',k',h1,h2,rfl⟩
  simp only [if_true]
  repeat (first|refine wp_as ?_|refine wp_ss ?_|refine wr (by simp;with_reducible rfl) ?_|refine wq (by simp;with_reducible rfl) ?_|refine wt (by simpa) ?_|refine wf (by simpa) ?_|refine xt (by simpa) ?_|refine xf (by simpa) ?_|refine wp_bs ?_|refine wp_b ?_|refine wp_sr ?_|refine wp_sx ?_|refine wp_ret' ?_|refine wp_skip' ?_|refine wp_exit' ?_)
  exact ⟨.inr rfl,_,⟨t',k',h1,by omega,rfl⟩,by simp [zi331]⟩
theorem ev_rowSums (t:List (List Int)) (c:Bool) (hl:t.length≤1000) (h:∀ r ∈ t,Few r) :
    Ev tb zl371 [] [TL t c] [] ⟨O (t.map List.sum),[],[],[]⟩:=by
  have loop:∀ (m i:Nat),i+m=t.length→wp tb (.loop z371l6) { T:=[(0,TL t c),(3,O ((t.take i).map List.sum)),(4,I i)],loc:=[],M:=[] }
      (fun ex st=>ex=.exit 0∧st={ T:=[(0,TL t c),(3,O (t.map List.sum)),(4,I t.length),(9,Bo false)],loc:=[],M:=[] }):=by
    intro m
    induction m with
    | zero =>
      intro i hi
      have h3:i=t.length:=hi
      subst h3
      refine wp_loop ?_
      repeat (first|refine wp_as ?_|refine wp_ss ?_|refine wr (by simp;with_reducible rfl) ?_|refine wq (by simp;with_reducible rfl) ?_|refine wt (by simpa) ?_|refine wf (by simpa) ?_|refine xt (by simpa) ?_|refine xf (by simpa) ?_|refine wp_bs ?_|refine wp_b ?_|refine wp_sr ?_|refine wp_sx ?_|refine wp_ret' ?_|refine wp_skip' ?_|refine wp_exit' ?_)
      exact ⟨rfl,by simp⟩
    | succ m ih =>
      intro i hi
      have hi2:i < t.length:=by omega
      have w2:IntKind.i64.wrap ((i:Int)+1)=((i+1:Nat):Int):=wrapS (by omega)
      have e1:=ev_lim (ev_spec_sum t[i] false (h _ (List.getElem_mem hi2)).small)
      have hs:(t.take (i+1)).map List.sum=(t.take i).map List.sum++[t[i].sum]:=by
        rw [List.take_succ_eq_append_getElem hi2,List.map_append];rfl
      have hg:=ih (i+1) (by omega)
      have hlt:((t.take i).map List.sum).length≤274877906943:=by simp;omega
      rw [hs] at hg
      generalize (t.take i).map List.sum=o at *
      have hot:o.take o.length=o:=List.take_of_length_le (by omega)
      refine wp_loop ?_
      repeat (first|refine wp_as ?_|refine wp_ss ?_|refine wr (by simp [hi2,e1,hlt,w2,hot];with_reducible rfl) ?_|refine wq (by simp [hi2,e1,hlt,w2,hot];with_reducible rfl) ?_|refine wt (by simpa [hi2,e1,hlt,w2,hot]) ?_|refine wf (by simpa [hi2,e1,hlt,w2,hot]) ?_|refine xt (by simpa [hi2,e1,hlt,w2,hot]) ?_|refine xf (by simpa [hi2,e1,hlt,w2,hot]) ?_|refine wp_bs ?_|refine wp_b ?_|refine wp_sr ?_|refine wp_sx ?_|refine wp_ret' ?_|refine wp_skip' ?_|refine wp_exit' ?_)
      exact hg
  refine call_of_wp zt371 rfl ?_
  repeat (first|refine wp_as ?_|refine wp_ss ?_|refine wr (by simp;with_reducible rfl) ?_|refine wq (by simp;with_reducible rfl) ?_|refine wt (by simpa) ?_|refine wf (by simpa) ?_|refine xt (by simpa) ?_|refine xf (by simpa) ?_|refine wp_bs ?_|refine wp_b ?_|refine wp_sr ?_|refine wp_sx ?_|refine wp_ret' ?_|refine wp_skip' ?_|refine wp_exit' ?_)
  have:=loop t.length 0 (by omega)
  simp at this
  refine wp_imp this ?_
  rintro ex st ⟨rfl,rfl⟩
  simp only [if_true]
  repeat (first|refine wp_as ?_|refine wp_ss ?_|refine wr (by simp;with_reducible rfl) ?_|refine wq (by simp;with_reducible rfl) ?_|refine wt (by simpa) ?_|refine wf (by simpa) ?_|refine xt (by simpa) ?_|refine xf (by simpa) ?_|refine wp_bs ?_|refine wp_b ?_|refine wp_sr ?_|refine wp_sx ?_|refine wp_ret' ?_|refine wp_skip' ?_|refine wp_exit' ?_)
  simp [zi371]
  rw [List.take_of_length_le (by simp)]
end Go.Idl
namespace Go.Idl
open Go
theorem tr_in (h w:Nat) (t:List (List Int)) (c:Bool) (ht:MM h w t) (hh:h≤5) (u:List (List Int)) (k:Nat) (hk:k < w) :
    ∀ (m i:Nat),i+m=h →
    wp tb (.loop z385l9) { T:=[(0,TL t c),(3,OT u),(4,I k),(5,O (mapR i fun i=>g2 t i k)),(6,I i)],loc:=[],M:=[] }
      (fun ex st=>ex=.exit 2∧st={ T:=[(0,TL t c),(3,OT u),(4,I k),(5,O (mapR h fun i=>g2 t i k)),(6,I h),(20,Bo false)],loc:=[],M:=[] }):=by
  intro m
  induction m with
  | zero =>
    intro i hi
    have h3:i=h:=hi
    subst h3
    have hl:=ht.1
    refine wp_loop ?_
    repeat (first|refine wp_as ?_|refine wp_ss ?_|refine wr (by simp [hl];with_reducible rfl) ?_|refine wq (by simp [hl];with_reducible rfl) ?_|refine wt (by simpa [hl]) ?_|refine wf (by simpa [hl]) ?_|refine xt (by simpa [hl]) ?_|refine xf (by simpa [hl]) ?_|refine wp_bs ?_|refine wp_b ?_|refine wp_sr ?_|refine wp_sx ?_|refine wp_ret' ?_|refine wp_skip' ?_|refine wp_exit' ?_)
    exact ⟨rfl,rfl⟩
  | succ m ih =>
    intro i hi
    have hih:i < h:=by omega
    have hl:=ht.1
    have hit:i < t.length:=by omega
    have hkr:k < t[i].length:=by have:=(ht.2 _ (List.getElem_mem hit)).1;omega
    have w2:IntKind.i64.wrap ((i:Int)+1)=((i+1:Nat):Int):=wrapS (by omega)
    have hm:(mapR (i+1) fun i=>g2 t i k)=(mapR i fun i=>g2 t i k)++[t[i][k]]:=by simp [mapR,List.range_succ,g2_eq hit hkr]
    have hg:=ih (i+1) (by omega)
    rw [hm] at hg
    have hlt:(mapR i fun i=>g2 t i k).length≤274877906943:=by simp [mapR];omega
    generalize (mapR i fun i=>g2 t i k)=o at *
    have hot:o.take o.length=o:=List.take_of_length_le (by omega)
    refine wp_loop ?_
    repeat (first|refine wp_as ?_|refine wp_ss ?_|refine wr (by simp [hih,hit,hl,hkr,w2,hlt,hot];with_reducible rfl) ?_|refine wq (by simp [hih,hit,hl,hkr,w2,hlt,hot];with_reducible rfl) ?_|refine wt (by simpa [hih,hit,hl,hkr,w2,hlt,hot]) ?_|refine wf (by simpa [hih,hit,hl,hkr,w2,hlt,hot]) ?_|refine xt (by simpa [hih,hit,hl,hkr,w2,hlt,hot]) ?_|refine xf (by simpa [hih,hit,hl,hkr,w2,hlt,hot]) ?_|refine wp_bs ?_|refine wp_b ?_|refine wp_sr ?_|refine wp_sx ?_|refine wp_ret' ?_|refine wp_skip' ?_|refine wp_exit' ?_)
    exact hg
theorem ev_transpose (h w:Nat) (t:List (List Int)) (c:Bool) (ht:MM h w t) (h0:0 < h) (hh:h≤5) (hw:w≤5) :
    ∃ u,MM w h u∧limF tb zl385 [] [TL t c] []=some ⟨OT u,[],[],[]⟩:=by
  have hl:=ht.1
  have h0t:0 < t.length:=by omega
  have hr0:=(ht.2 _ (List.getElem_mem h0t)).1
  have loop:∀ (m k:Nat),k+m=w→wp tb (.loop z385l12) { T:=[(0,TL t c),(3,OT (tabF k h fun k i=>g2 t i k)),(4,I k)],loc:=[],M:=[] }
      (fun ex st=>ex=.exit 0∧st={ T:=[(0,TL t c),(3,OT (tabF w h fun k i=>g2 t i k)),(4,I w),(13,Bo false)],loc:=[],M:=[] }):=by
    intro m
    induction m with
    | zero =>
      intro k hk
      have h3:k=w:=hk
      subst h3
      refine wp_loop ?_
      repeat (first|refine wp_as ?_|refine wp_ss ?_|refine wr (by simp [h0,h0t,hr0];with_reducible rfl) ?_|refine wq (by simp [h0,h0t,hr0];with_reducible rfl) ?_|refine wt (by simpa [h0,h0t,hr0]) ?_|refine wf (by simpa [h0,h0t,hr0]) ?_|refine xt (by simpa [h0,h0t,hr0]) ?_|refine xf (by simpa [h0,h0t,hr0]) ?_|refine wp_bs ?_|refine wp_b ?_|refine wp_sr ?_|refine wp_sx ?_|refine wp_ret' ?_|refine wp_skip' ?_|refine wp_exit' ?_)
      exact ⟨rfl,rfl⟩
    | succ m ih =>
      intro k hk
      have hkw:k < w:=by omega
      have w2:IntKind.i64.wrap ((k:Int)+1)=((k+1:Nat):Int):=wrapS (by omega)
      have hm:(tabF (k+1) h fun k i=>g2 t i k)=(tabF k h fun k i=>g2 t i k)++[mapR h fun i=>g2 t i k]:=by simp [tabF,List.range_succ]
      have hg:=ih (k+1) (by omega)
      rw [hm] at hg
      have hlt:(tabF k h fun k i=>g2 t i k).length≤274877906943:=by simp [tabF];omega
      generalize (tabF k h fun k i=>g2 t i k)=o at *
      have hot:o.take o.length=o:=List.take_of_length_le (by omega)
      have hin:=tr_in h w t c ht hh o k hkw h 0 (by omega)
      rw [show (mapR 0 fun i=>g2 t i k)=[] from rfl] at hin
      have hql:(mapR h fun i=>g2 t i k).length=h:=by simp [mapR]
      have hrt:(mapR h fun i=>g2 t i k).take h=mapR h fun i=>g2 t i k:=List.take_of_length_le (by omega)
      generalize (mapR h fun i=>g2 t i k)=q at *
      rw [show ((0:Nat):Int)=0 from rfl] at hin
      refine wp_loop ?_
      repeat (first|refine wp_as ?_|refine wp_ss ?_|refine wr (by simp [h0,h0t,hr0,hkw];with_reducible rfl) ?_|refine wq (by simp [h0,h0t,hr0,hkw];with_reducible rfl) ?_|refine wt (by simpa [h0,h0t,hr0,hkw]) ?_|refine wf (by simpa [h0,h0t,hr0,hkw]) ?_|refine xt (by simpa [h0,h0t,hr0,hkw]) ?_|refine xf (by simpa [h0,h0t,hr0,hkw]) ?_|refine wp_bs ?_|refine wp_b ?_|refine wp_sr ?_|refine wp_sx ?_|refine wp_ret' ?_|refine wp_skip' ?_|refine wp_exit' ?_)
      refine wp_imp hin ?_
      rintro ex st ⟨rfl,rfl⟩
      simp only [if_true]
      repeat (first|refine wp_as ?_|refine wp_ss ?_|refine wr (by simp [w2,hlt,hot,hql,hrt];with_reducible rfl) ?_|refine wq (by simp [w2,hlt,hot,hql,hrt];with_reducible rfl) ?_|refine wt (by simpa [w2,hlt,hot,hql,hrt]) ?_|refine wf (by simpa [w2,hlt,hot,hql,hrt]) ?_|refine xt (by simpa [w2,hlt,hot,hql,hrt]) ?_|refine xf (by simpa [w2,hlt,hot,hql,hrt]) ?_|refine wp_bs ?_|refine wp_b ?_|refine wp_sr ?_|refine wp_sx ?_|refine wp_ret' ?_|refine wp_skip' ?_|refine wp_exit' ?_)
      exact hg
  refine ⟨tabF w h fun k i=>g2 t i k,⟨by simp [tabF],fun r hr=>?_⟩,ev_lim ?_⟩
  · simp only [tabF,List.mem_map,List.mem_range] at hr
    obtain ⟨k,hk,rfl⟩:=hr
    refine ⟨by simp [mapR],fun x hx=>?_⟩
    simp only [mapR,List.mem_map,List.mem_range] at hx
    obtain ⟨i,hi,rfl⟩:=hx
    have hit:i < t.length:=by omega
    have hri:=ht.2 _ (List.getElem_mem hit)
    have hkr:k < t[i].length:=by omega
    rw [g2_eq hit hkr]
    exact hri.2 _ (List.getElem_mem hkr)
  · refine call_of_wp zt385 rfl ?_
    repeat (first|refine wp_as ?_|refine wp_ss ?_|refine wr (by simp;with_reducible rfl) ?_|refine wq (by simp;with_reducible rfl) ?_|refine wt (by simpa) ?_|refine wf (by simpa) ?_|refine xt (by simpa) ?_|refine xf (by simpa) ?_|refine wp_bs ?_|refine wp_b ?_|refine wp_sr ?_|refine wp_sx ?_|refine wp_ret' ?_|refine wp_skip' ?_|refine wp_exit' ?_)
    have:=loop w 0 (by omega)
    simp only [tabF,List.range_zero,List.map_nil] at this
    rw [show ((0:Nat):Int)=0 from rfl] at this
    refine wp_imp this ?_
    rintro ex st ⟨rfl,rfl⟩
    simp only [if_true]
    repeat (first|refine wp_as ?_|refine wp_ss ?_|refine wr (by simp;with_reducible rfl) ?_|refine wq (by simp;with_reducible rfl) ?_|refine wt (by simpa) ?_|refine wf (by simpa) ?_|refine xt (by simpa) ?_|refine xf (by simpa) ?_|refine wp_bs ?_|refine wp_b ?_|refine wp_sr ?_|refine wp_sx ?_|refine wp_ret' ?_|refine wp_skip' ?_|refine wp_exit' ?_)
    simp [zi385,tabF]
    rw [List.take_of_length_le (by simp)]
end Go.Idl
namespace Go.Idl
open Go
theorem MM.few {h w:Nat} {t:List (List Int)} (ht:MM h w t) (hw:w≤5):∀ r ∈ t,Few r:=fun r hr=>⟨by have:=(ht.2 r hr).1;omega,fun x hx=>by have:=(ht.2 r hr).2 x hx;omega⟩
theorem MM.sums {h w:Nat} {t:List (List Int)} (ht:MM h w t) (hw:w≤5):∀ x ∈ t.map List.sum,0≤x∧x≤5:=by
  intro x hx
  obtain ⟨r,hr,rfl⟩:=List.mem_map.1 hx
  have h1:=ht.2 r hr
  have:=sum01 r h1.2
  omega
end Go.Idl
namespace Go.Idl
open Go
theorem MM.set {h w:Nat} {t:List (List Int)} (ht:MM h w t) {i j:Nat} {v:Int} (hi:i < t.length) (hv:0≤v∧v≤1):MM h w (t.set i (t[i].set j v)):=by
  refine ⟨by simpa using ht.1,fun r hr=>?_⟩
  have h1:=ht.2 _ (List.getElem_mem hi)
  rcases List.mem_or_eq_of_mem_set hr with hr | rfl
  · exact ht.2 r hr
  · refine ⟨by simpa using h1.1,fun x hx=>?_⟩
    rcases List.mem_or_eq_of_mem_set hx with hx | rfl
    · exact h1.2 x hx
    · exact hv
theorem dd_diag (n:Nat) (hn:n≤5) (lo:Boxes):∀ (m i:Nat) (t:List (List Int)),i+m=n→MM n n t →
    wp tb (.loop z307l8) { T:=[(4,.bptr 0 0 0),(5,I n),(6,OT t),(7,I i)],loc:=lo,M:=[] }
      (fun ex st=>ex=.exit 0∧∃ t,MM n n t∧st={ T:=[(4,.bptr 0 0 0),(5,I n),(6,OT t),(7,I n),(22,Bo false)],loc:=lo,M:=[] }):=by
  intro m
  induction m with
  | zero =>
    intro i t hi ht
    have h3:i=n:=hi
    subst h3
    refine wp_loop ?_
    repeat (first|apply wp_as|apply wp_ss|refine wr (by simp;with_reducible rfl) ?_|refine wq (by simp;with_reducible rfl) ?_|refine wt (by simpa) ?_|refine wf (by simpa) ?_|refine xt (by simpa) ?_|refine xf (by simpa) ?_|apply wp_bs|apply wp_b|refine wp_sr ?_|refine wp_sx ?_|refine wp_ret' ?_|refine wp_skip' ?_|refine wp_exit' ?_)
    exact ⟨rfl,t,ht,rfl⟩
  | succ m ih =>
    intro i t hi ht
    have hi2:i < n:=by omega
    have hit:i < t.length:=by rw [ht.1];omega
    have hii:i < t[i].length:=by rw [(ht.2 _ (List.getElem_mem hit)).1];omega
    have w2:IntKind.i64.wrap ((i:Int)+1)=((i+1:Nat):Int):=wrapS (by omega)
    refine wp_loop ?_
    repeat (first|apply wp_as|apply wp_ss|refine wr (by simp [hi2,hit,hii,w2];with_reducible rfl) ?_|refine wq (by simp [hi2,hit,hii,w2];with_reducible rfl) ?_|refine wt (by simpa [hi2,hit,hii,w2]) ?_|refine wf (by simpa [hi2,hit,hii,w2]) ?_|refine xt (by simpa [hi2,hit,hii,w2]) ?_|refine xf (by simpa [hi2,hit,hii,w2]) ?_|apply wp_bs|apply wp_b|refine wp_sr ?_|refine wp_sx ?_|refine wp_ret' ?_|refine wp_skip' ?_|refine wp_exit' ?_)
    exact ih (i+1) _ (by omega) (ht.set hit (by omega))
set_option maxHeartbeats 4000000 in
theorem ev_DrawIsDigraphic (code:List Int) (c:Bool) (h:∀ x ∈ code,0≤x∧x≤255) (hl:code.length≤10000000) :
    ∃ a b:List Int,a.length≤6∧b.length≤5∧limF tb zl307 [] [.lst 1 (bytes code) c] []=some ⟨.tup [O a,O b],[],[],[]⟩:=by
  suffices h:∃ r,(∃ (a b:List Int),a.length≤6∧b.length≤5∧r=⟨.tup [O a,O b],[],[],[]⟩)∧Ev tb zl307 [] [.lst 1 (bytes code) c] [] r by
    obtain ⟨r,⟨a,b,h1,h2,rfl⟩,h⟩:=h
    exact ⟨a,b,h1,h2,ev_lim h⟩
  refine call_ex zt307 rfl ?_
  obtain ⟨c',e⟩:=ev_newReader code c [[]] (by omega)
  have e0:=ev_lim e
  have hc:=code_ok h
  obtain ⟨v1,k1,hv1,hk1,p1⟩:=pick' (code.take 2000) c' hc 0 (by omega) 5 (by omega) [] []
  have hv1:=hv1 (by omega)
  rw [show ((0:Nat):Int)=0 from rfl] at p1
  obtain ⟨n,hn⟩:∃ n,n=1+v1:=⟨_,rfl⟩
  have w1:IntKind.i64.wrap (1+(v1:Int))=(n:Int):=by rw [wrap64 (by omega) (by omega)];omega
  obtain ⟨t,k2,ht,hk2,p2⟩:=ev_aMatrix (code.take 2000) c' hc k1 (by omega) n n (by omega) (by omega) [] []
  repeat (first|apply wp_as|apply wp_ss|refine wr (by simp [e0,p1,w1,p2];with_reducible rfl) ?_|refine wq (by simp [e0,p1,w1,p2];with_reducible rfl) ?_|refine wt (by simpa [e0,p1,w1,p2]) ?_|refine wf (by simpa [e0,p1,w1,p2]) ?_|refine xt (by simpa [e0,p1,w1,p2]) ?_|refine xf (by simpa [e0,p1,w1,p2]) ?_|apply wp_bs|apply wp_b|refine wp_sr ?_|refine wp_sx ?_|refine wp_ret' ?_|refine wp_skip' ?_|refine wp_exit' ?_)
  refine wp_imp (dd_diag n (by omega) [R (code.take 2000) c' k2] n 0 t (by omega) ht) ?_
  clear p2 ht t
  rintro ex st ⟨rfl,t,ht,rfl⟩
  simp only [if_true]
  have e1:=ev_lim (ev_rowSums t false (by have:=ht.1;omega) (ht.few (by omega)))
  obtain ⟨u,hu,e2⟩:=ev_transpose n n t false ht (by omega) (by omega) (by omega)
  have e3:=ev_lim (ev_rowSums u false (by have:=hu.1;omega) (hu.few (by omega)))
  have sa:=ht.sums (by omega)
  have sb:=hu.sums (by omega)
  have la:(t.map List.sum).length=n:=by simp [ht.1]
  have lb:(u.map List.sum).length=n:=by simp [hu.1]
  have hto:t.take t.length=t:=List.take_of_length_le (by omega)
  generalize t.map List.sum=a at *
  generalize u.map List.sum=b at *
  obtain ⟨v3,k3,hv3,hk3,p3⟩:=pick' (code.take 2000) c' hc k2 (by omega) 6 (by omega) [] []
  have loa:Low 1000 a:=fun x hx=>by have:=sa x hx;omega
  have lob:Low 1000 b:=fun x hx=>by have:=sb x hx;omega
  have hat:a.take a.length=a:=List.take_of_length_le (by omega)
  have hbt:b.take b.length=b:=List.take_of_length_le (by omega)
  by_cases z0:v3=0
  · subst z0
    rw [show ((0:Nat):Int)=0 from rfl] at p3
    obtain ⟨a',k4,ha',hlo',hk4,p4⟩:=ev_lifted (code.take 2000) c' hc k3 (by omega) a (by omega) loa [] []
    have hat':a'.take a'.length=a':=List.take_of_length_le (by omega)
    repeat (first|apply wp_as|apply wp_ss|refine wr (by simp [e1,e2,e3,p3,p4,hto,hat,hbt,hat'];with_reducible rfl) ?_|refine wq (by simp [e1,e2,e3,p3,p4,hto,hat,hbt,hat'];with_reducible rfl) ?_|refine wt (by simpa [e1,e2,e3,p3,p4,hto,hat,hbt,hat']) ?_|refine wf (by simpa [e1,e2,e3,p3,p4,hto,hat,hbt,hat']) ?_|refine xt (by simpa [e1,e2,e3,p3,p4,hto,hat,hbt,hat']) ?_|refine xf (by simpa [e1,e2,e3,p3,p4,hto,hat,hbt,hat']) ?_|apply wp_bs|apply wp_b|refine wp_sr ?_|refine wp_sx ?_|refine wp_ret' ?_|refine wp_skip' ?_|refine wp_exit' ?_)
    exact ⟨.inr rfl,_,⟨a',b,by omega,by omega,rfl⟩,by simp [zi307,hat,hbt,hat']⟩
  by_cases z1:v3=1
  · subst z1
    rw [show ((1:Nat):Int)=1 from rfl] at p3
    obtain ⟨b',k4,hb',hlo',hk4,p4⟩:=ev_lifted (code.take 2000) c' hc k3 (by omega) b (by omega) lob [] []
    have hbt':b'.take b'.length=b':=List.take_of_length_le (by omega)
    repeat (first|apply wp_as|apply wp_ss|refine wr (by simp [e1,e2,e3,p3,p4,hto,hat,hbt,hbt'];with_reducible rfl) ?_|refine wq (by simp [e1,e2,e3,p3,p4,hto,hat,hbt,hbt'];with_reducible rfl) ?_|refine wt (by simpa [e1,e2,e3,p3,p4,hto,hat,hbt,hbt']) ?_|refine wf (by simpa [e1,e2,e3,p3,p4,hto,hat,hbt,hbt']) ?_|refine xt (by simpa [e1,e2,e3,p3,p4,hto,hat,hbt,hbt']) ?_|refine xf (by simpa [e1,e2,e3,p3,p4,hto,hat,hbt,hbt']) ?_|apply wp_bs|apply wp_b|refine wp_sr ?_|refine wp_sx ?_|refine wp_ret' ?_|refine wp_skip' ?_|refine wp_exit' ?_)
    exact ⟨.inr rfl,_,⟨a,b',by omega,by omega,rfl⟩,by simp [zi307,hat,hbt,hbt']⟩
  have z1':¬ (v3:Int)=1:=by omega
  by_cases z2:v3=2
  · subst z2
    rw [show ((2:Nat):Int)=2 from rfl] at p3
    by_cases hn1:1 < n
    · have hn1':(1:Int) < (n:Int):=by omega
      have w2:IntKind.i64.wrap ((n:Int) - 1)=((n - 1:Nat):Int):=by rw [wrap64 (by omega) (by omega)];omega
      have hb0:0 < b.length:=by omega
      have hbn:n - 1 < b.length:=by omega
      have w3:∀ i (h:i < b.length),IntKind.i64.wrap b[i]=b[i]:=fun i h=>wrap64 (by have:=sb _ (List.getElem_mem h);omega) (by have:=sb _ (List.getElem_mem h);omega)
      repeat (first|apply wp_as|apply wp_ss|refine wr (by simp [e1,e2,e3,p3,hto,hat,hbt,hn1,hn1',w2,hb0,hbn,w3];with_reducible rfl) ?_|refine wq (by simp [e1,e2,e3,p3,hto,hat,hbt,hn1,hn1',w2,hb0,hbn,w3];with_reducible rfl) ?_|refine wt (by simpa [e1,e2,e3,p3,hto,hat,hbt,hn1,hn1',w2,hb0,hbn,w3]) ?_|refine wf (by simpa [e1,e2,e3,p3,hto,hat,hbt,hn1,hn1',w2,hb0,hbn,w3]) ?_|refine xt (by simpa [e1,e2,e3,p3,hto,hat,hbt,hn1,hn1',w2,hb0,hbn,w3]) ?_|refine xf (by simpa [e1,e2,e3,p3,hto,hat,hbt,hn1,hn1',w2,hb0,hbn,w3]) ?_|apply wp_bs|apply wp_b|refine wp_sr ?_|refine wp_sx ?_|refine wp_ret' ?_|refine wp_skip' ?_|refine wp_exit' ?_)
      refine ⟨.inr rfl,_,⟨a,(b.set 0 b[n - 1]).set (n - 1) b[0],by omega,by simp;omega,rfl⟩,?_⟩
      simp [zi307,hat,hbt]
      rw [List.take_of_length_le (by simp)]
    · have hn1':¬ (1:Int) < (n:Int):=by omega
      repeat (first|apply wp_as|apply wp_ss|refine wr (by simp [e1,e2,e3,p3,hto,hat,hbt,hn1,hn1'];with_reducible rfl) ?_|refine wq (by simp [e1,e2,e3,p3,hto,hat,hbt,hn1,hn1'];with_reducible rfl) ?_|refine wt (by simpa [e1,e2,e3,p3,hto,hat,hbt,hn1,hn1']) ?_|refine wf (by simpa [e1,e2,e3,p3,hto,hat,hbt,hn1,hn1']) ?_|refine xt (by simpa [e1,e2,e3,p3,hto,hat,hbt,hn1,hn1']) ?_|refine xf (by simpa [e1,e2,e3,p3,hto,hat,hbt,hn1,hn1']) ?_|apply wp_bs|apply wp_b|refine wp_sr ?_|refine wp_sx ?_|refine wp_ret' ?_|refine wp_skip' ?_|refine wp_exit' ?_)
      exact ⟨.inr rfl,_,⟨a,b,by omega,by omega,rfl⟩,by simp [zi307,hat,hbt]⟩
  have z2':¬ (v3:Int)=2:=by omega
  by_cases z3:v3=3
  · subst z3
    rw [show ((3:Nat):Int)=3 from rfl] at p3
    obtain ⟨v5,k5,hv5,hk5,p5⟩:=pick' (code.take 2000) c' hc k3 (by omega) 4 (by omega) [] []
    by_cases y0:v5=0
    · subst y0
      rw [show ((0:Nat):Int)=0 from rfl] at p5
      repeat (first|apply wp_as|apply wp_ss|refine wr (by simp [e1,e2,e3,p3,p5,hto,hat,hbt,show a.length+1≤274877906944 by omega,show a.length≤274877906943 by omega];with_reducible rfl) ?_|refine wq (by simp [e1,e2,e3,p3,p5,hto,hat,hbt,show a.length+1≤274877906944 by omega,show a.length≤274877906943 by omega];with_reducible rfl) ?_|refine wt (by simpa [e1,e2,e3,p3,p5,hto,hat,hbt,show a.length+1≤274877906944 by omega,show a.length≤274877906943 by omega]) ?_|refine wf (by simpa [e1,e2,e3,p3,p5,hto,hat,hbt,show a.length+1≤274877906944 by omega,show a.length≤274877906943 by omega]) ?_|refine xt (by simpa [e1,e2,e3,p3,p5,hto,hat,hbt,show a.length+1≤274877906944 by omega,show a.length≤274877906943 by omega]) ?_|refine xf (by simpa [e1,e2,e3,p3,p5,hto,hat,hbt,show a.length+1≤274877906944 by omega,show a.length≤274877906943 by omega]) ?_|apply wp_bs|apply wp_b|refine wp_sr ?_|refine wp_sx ?_|refine wp_ret' ?_|refine wp_skip' ?_|refine wp_exit' ?_)
      refine ⟨.inr rfl,_,⟨a++[0],b,by simp;omega,by omega,rfl⟩,?_⟩
      simp [zi307,hat,hbt]
      rw [List.take_of_length_le (by simp)]
    · have y0':¬ (v5:Int)=0:=by omega
      repeat (first|apply wp_as|apply wp_ss|refine wr (by simp [e1,e2,e3,p3,p5,hto,hat,hbt,y0,y0'];with_reducible rfl) ?_|refine wq (by simp [e1,e2,e3,p3,p5,hto,hat,hbt,y0,y0'];with_reducible rfl) ?_|refine wt (by simpa [e1,e2,e3,p3,p5,hto,hat,hbt,y0,y0']) ?_|refine wf (by simpa [e1,e2,e3,p3,p5,hto,hat,hbt,y0,y0']) ?_|refine xt (by simpa [e1,e2,e3,p3,p5,hto,hat,hbt,y0,y0']) ?_|refine xf (by simpa [e1,e2,e3,p3,p5,hto,hat,hbt,y0,y0']) ?_|apply wp_bs|apply wp_b|refine wp_sr ?_|refine wp_sx ?_|refine wp_ret' ?_|refine wp_skip' ?_|refine wp_exit' ?_)
      exact ⟨.inr rfl,_,⟨a,b,by omega,by omega,rfl⟩,by simp [zi307,hat,hbt]⟩
  have z3':¬ (v3:Int)=3:=by omega
  repeat (first|apply wp_as|apply wp_ss|refine wr (by simp [e1,e2,e3,p3,hto,hat,hbt,z0,z1,z2,z3,z1',z2',z3'];with_reducible rfl) ?_|refine wq (by simp [e1,e2,e3,p3,hto,hat,hbt,z0,z1,z2,z3,z1',z2',z3'];with_reducible rfl) ?_|refine wt (by simpa [e1,e2,e3,p3,hto,hat,hbt,z0,z1,z2,z3,z1',z2',z3']) ?_|refine wf (by simpa [e1,e2,e3,p3,hto,hat,hbt,z0,z1,z2,z3,z1',z2',z3']) ?_|refine xt (by simpa [e1,e2,e3,p3,hto,hat,hbt,z0,z1,z2,z3,z1',z2',z3']) ?_|refine xf (by simpa [e1,e2,e3,p3,hto,hat,hbt,z0,z1,z2,z3,z1',z2',z3']) ?_|apply wp_bs|apply wp_b|refine wp_sr ?_|refine wp_sx ?_|refine wp_ret' ?_|refine wp_skip' ?_|refine wp_exit' ?_)
  exact ⟨.inr rfl,_,⟨a,b,by omega,by omega,rfl⟩,by simp [zi307,hat,hbt]⟩
end Go.Idl
namespace Go.Idl
open Go
def DigLaw (a b:List Int):Prop:=implD b a=implD a b∧(graphic a=true→implD a a=true)∧(implD a b=true→bigr a b=true)
set_option maxHeartbeats 2000000 in
theorem ev_FnIsDigraphic (law1:∀ a b:List Int,a.length≤6→b.length≤5→implD a b=specD a b)
    (law2:∀ a b:List Int,a.length=b.length→valid a=true→valid b=true→1≤a.length→a.length≤5→DigLaw a b)
    (code:List Int) (c:Bool) (h:∀ x ∈ code,0≤x∧x≤255) :
    Ev tb zl434 [] [.lst 1 (bytes code) c] [] ⟨Bo true,[],[],[]⟩:=by
  by_cases hc:(1048576:Int) < code.length
  · refine call_of_wp zt434 rfl ?_
    repeat (first|apply wp_as|apply wp_ss|refine wr (by simp [hc];with_reducible rfl) ?_|refine wq (by simp [hc];with_reducible rfl) ?_|refine wt (by simpa [hc]) ?_|refine wf (by simpa [hc]) ?_|refine xt (by simpa [hc]) ?_|refine xf (by simpa [hc]) ?_|apply wp_bs|apply wp_b|refine wp_sr ?_|refine wp_sx ?_|refine wp_ret' ?_|refine wp_skip' ?_|refine wp_exit' ?_)
    simp [zi434]
  obtain ⟨a,b,ha,hb,e1⟩:=ev_DrawIsDigraphic code c h (by omega)
  have e2:=ev_lim (ev_impl_IsDigraphic a b false false (by omega) (by omega))
  have e3:=ev_lim (ev_spec_IsDigraphic a b false false (by omega) (by omega))
  rw [← law1 a b ha hb] at e3
  have e4:=ev_lim (ev_ValidDegrees a false (by omega))
  have e5:=ev_lim (ev_ValidDegrees b false (by omega))
  have hat:a.take a.length=a:=List.take_of_length_le (by omega)
  have hbt:b.take b.length=b:=List.take_of_length_le (by omega)
  have hq:((a.length:Int)=(b.length:Int)) ↔ a.length=b.length:=by omega
  have hz:((a.length:Int)=0) ↔ a.length=0:=by omega
  have h5:((5:Int) < (a.length:Int)) ↔ 5 < a.length:=by omega
  by_cases hok:a.length=b.length∧valid a=true∧valid b=true∧¬ a.length=0∧¬ 5 < a.length
  rotate_left
  · generalize implD a b=g at *
    by_cases x1:a.length=b.length
    rotate_left
    · refine call_of_wp zt434 rfl ?_
      repeat (first|apply wp_as|apply wp_ss|refine wr (by simp [hc,e1,e2,e3,hat,hbt,hq,x1];with_reducible rfl) ?_|refine wq (by simp [hc,e1,e2,e3,hat,hbt,hq,x1];with_reducible rfl) ?_|refine wt (by simpa [hc,e1,e2,e3,hat,hbt,hq,x1]) ?_|refine wf (by simpa [hc,e1,e2,e3,hat,hbt,hq,x1]) ?_|refine xt (by simpa [hc,e1,e2,e3,hat,hbt,hq,x1]) ?_|refine xf (by simpa [hc,e1,e2,e3,hat,hbt,hq,x1]) ?_|apply wp_bs|apply wp_b|refine wp_sr ?_|refine wp_sx ?_|refine wp_ret' ?_|refine wp_skip' ?_|refine wp_exit' ?_)
      simp [zi434]
    have hat':a.take b.length=a:=by rw [← x1];exact hat
    cases x2:valid a with
    | false =>
      refine call_of_wp zt434 rfl ?_
      repeat (first|apply wp_as|apply wp_ss|refine wr (by simp [hc,e1,e2,e3,e4,hat,hat',hbt,hq,x1,x2];with_reducible rfl) ?_|refine wq (by simp [hc,e1,e2,e3,e4,hat,hat',hbt,hq,x1,x2];with_reducible rfl) ?_|refine wt (by simpa [hc,e1,e2,e3,e4,hat,hat',hbt,hq,x1,x2]) ?_|refine wf (by simpa [hc,e1,e2,e3,e4,hat,hat',hbt,hq,x1,x2]) ?_|refine xt (by simpa [hc,e1,e2,e3,e4,hat,hat',hbt,hq,x1,x2]) ?_|refine xf (by simpa [hc,e1,e2,e3,e4,hat,hat',hbt,hq,x1,x2]) ?_|apply wp_bs|apply wp_b|refine wp_sr ?_|refine wp_sx ?_|refine wp_ret' ?_|refine wp_skip' ?_|refine wp_exit' ?_)
      simp [zi434]
    | true =>
    cases x3:valid b with
    | false =>
      refine call_of_wp zt434 rfl ?_
      repeat (first|apply wp_as|apply wp_ss|refine wr (by simp [hc,e1,e2,e3,e4,e5,hat,hat',hbt,hq,x1,x2,x3];with_reducible rfl) ?_|refine wq (by simp [hc,e1,e2,e3,e4,e5,hat,hat',hbt,hq,x1,x2,x3];with_reducible rfl) ?_|refine wt (by simpa [hc,e1,e2,e3,e4,e5,hat,hat',hbt,hq,x1,x2,x3]) ?_|refine wf (by simpa [hc,e1,e2,e3,e4,e5,hat,hat',hbt,hq,x1,x2,x3]) ?_|refine xt (by simpa [hc,e1,e2,e3,e4,e5,hat,hat',hbt,hq,x1,x2,x3]) ?_|refine xf (by simpa [hc,e1,e2,e3,e4,e5,hat,hat',hbt,hq,x1,x2,x3]) ?_|apply wp_bs|apply wp_b|refine wp_sr ?_|refine wp_sx ?_|refine wp_ret' ?_|refine wp_skip' ?_|refine wp_exit' ?_)
      simp [zi434]
    | true =>
    by_cases x4:a.length=0
    · have x4':b.length=0:=by omega
      have ha0:a=[]:=List.length_eq_zero_iff.1 x4
      have hb0:b=[]:=List.length_eq_zero_iff.1 x4'
      subst ha0 hb0
      simp only [L,show ints []=[] from rfl] at e2 e3 e4 e5
      refine call_of_wp zt434 rfl ?_
      repeat (first|apply wp_as|apply wp_ss|refine wr (by simp [hc,e1,e2,e3,e4,e5,x2,x3];with_reducible rfl) ?_|refine wq (by simp [hc,e1,e2,e3,e4,e5,x2,x3];with_reducible rfl) ?_|refine wt (by simpa [hc,e1,e2,e3,e4,e5,x2,x3]) ?_|refine wf (by simpa [hc,e1,e2,e3,e4,e5,x2,x3]) ?_|refine xt (by simpa [hc,e1,e2,e3,e4,e5,x2,x3]) ?_|refine xf (by simpa [hc,e1,e2,e3,e4,e5,x2,x3]) ?_|apply wp_bs|apply wp_b|refine wp_sr ?_|refine wp_sx ?_|refine wp_ret' ?_|refine wp_skip' ?_|refine wp_exit' ?_)
      simp [zi434]
    have x5:5 < a.length:=by
      by_cases x5:5 < a.length
      · exact x5
      · exact absurd ⟨x1,x2,x3,x4,x5⟩ hok
    omega
  · obtain ⟨x1,x2,x3,x4,x5⟩:=hok
    obtain ⟨k1,k2,k3⟩:=law2 a b x1 x2 x3 (by omega) (by omega)
    have e6:=ev_lim (ev_impl_IsDigraphic b a false false (by omega) (by omega))
    have e7:=ev_lim (ev_impl_IsDigraphic a a false false (by omega) (by omega))
    have e8:=ev_lim (ev_IsGraphic a false (by omega))
    have e9:=ev_lim (ev_IsBigraphic a b false false (by omega) (by omega))
    rw [k1] at e6
    have hat':a.take b.length=a:=by rw [← x1];exact hat
    have x4':¬ b.length=0:=by omega
    have x5':¬ 5 < b.length:=by omega
    have y4:¬ ((b.length:Int)=0):=by omega
    have y5:¬ ((5:Int) < (b.length:Int)):=by omega
    generalize implD a b=g at *
    generalize implD a a=g2 at *
    generalize bigr a b=g3 at *
    cases hg:graphic a with
    | false =>
      rw [hg] at e8
      cases g with
      | false =>
        refine call_of_wp zt434 rfl ?_
        repeat (first|apply wp_as|apply wp_ss|refine wr (by simp [hc,e1,e2,e3,e4,e5,e6,e7,e8,e9,hat,hat',hbt,hq,hz,h5,x1,x2,x3,x4,x5,x4',x5',y4,y5];with_reducible rfl) ?_|refine wq (by simp [hc,e1,e2,e3,e4,e5,e6,e7,e8,e9,hat,hat',hbt,hq,hz,h5,x1,x2,x3,x4,x5,x4',x5',y4,y5];with_reducible rfl) ?_|refine wt (by simpa [hc,e1,e2,e3,e4,e5,e6,e7,e8,e9,hat,hat',hbt,hq,hz,h5,x1,x2,x3,x4,x5,x4',x5',y4,y5]) ?_|refine wf (by simpa [hc,e1,e2,e3,e4,e5,e6,e7,e8,e9,hat,hat',hbt,hq,hz,h5,x1,x2,x3,x4,x5,x4',x5',y4,y5]) ?_|refine xt (by simpa [hc,e1,e2,e3,e4,e5,e6,e7,e8,e9,hat,hat',hbt,hq,hz,h5,x1,x2,x3,x4,x5,x4',x5',y4,y5]) ?_|refine xf (by simpa [hc,e1,e2,e3,e4,e5,e6,e7,e8,e9,hat,hat',hbt,hq,hz,h5,x1,x2,x3,x4,x5,x4',x5',y4,y5]) ?_|apply wp_bs|apply wp_b|refine wp_sr ?_|refine wp_sx ?_|refine wp_ret' ?_|refine wp_skip' ?_|refine wp_exit' ?_)
        simp [zi434]
      | true =>
        have k3:=k3 rfl
        subst k3
        refine call_of_wp zt434 rfl ?_
        repeat (first|apply wp_as|apply wp_ss|refine wr (by simp [hc,e1,e2,e3,e4,e5,e6,e7,e8,e9,hat,hat',hbt,hq,hz,h5,x1,x2,x3,x4,x5,x4',x5',y4,y5];with_reducible rfl) ?_|refine wq (by simp [hc,e1,e2,e3,e4,e5,e6,e7,e8,e9,hat,hat',hbt,hq,hz,h5,x1,x2,x3,x4,x5,x4',x5',y4,y5];with_reducible rfl) ?_|refine wt (by simpa [hc,e1,e2,e3,e4,e5,e6,e7,e8,e9,hat,hat',hbt,hq,hz,h5,x1,x2,x3,x4,x5,x4',x5',y4,y5]) ?_|refine wf (by simpa [hc,e1,e2,e3,e4,e5,e6,e7,e8,e9,hat,hat',hbt,hq,hz,h5,x1,x2,x3,x4,x5,x4',x5',y4,y5]) ?_|refine xt (by simpa [hc,e1,e2,e3,e4,e5,e6,e7,e8,e9,hat,hat',hbt,hq,hz,h5,x1,x2,x3,x4,x5,x4',x5',y4,y5]) ?_|refine xf (by simpa [hc,e1,e2,e3,e4,e5,e6,e7,e8,e9,hat,hat',hbt,hq,hz,h5,x1,x2,x3,x4,x5,x4',x5',y4,y5]) ?_|apply wp_bs|apply wp_b|refine wp_sr ?_|refine wp_sx ?_|refine wp_ret' ?_|refine wp_skip' ?_|refine wp_exit' ?_)
        simp [zi434]
    | true =>
      have k2:=k2 hg
      subst k2
      rw [hg] at e8
      cases g with
      | false =>
        refine call_of_wp zt434 rfl ?_
        repeat (first|apply wp_as|apply wp_ss|refine wr (by simp [hc,e1,e2,e3,e4,e5,e6,e7,e8,e9,hat,hat',hbt,hq,hz,h5,x1,x2,x3,x4,x5,x4',x5',y4,y5];with_reducible rfl) ?_|refine wq (by simp [hc,e1,e2,e3,e4,e5,e6,e7,e8,e9,hat,hat',hbt,hq,hz,h5,x1,x2,x3,x4,x5,x4',x5',y4,y5];with_reducible rfl) ?_|refine wt (by simpa [hc,e1,e2,e3,e4,e5,e6,e7,e8,e9,hat,hat',hbt,hq,hz,h5,x1,x2,x3,x4,x5,x4',x5',y4,y5]) ?_|refine wf (by simpa [hc,e1,e2,e3,e4,e5,e6,e7,e8,e9,hat,hat',hbt,hq,hz,h5,x1,x2,x3,x4,x5,x4',x5',y4,y5]) ?_|refine xt (by simpa [hc,e1,e2,e3,e4,e5,e6,e7,e8,e9,hat,hat',hbt,hq,hz,h5,x1,x2,x3,x4,x5,x4',x5',y4,y5]) ?_|refine xf (by simpa [hc,e1,e2,e3,e4,e5,e6,e7,e8,e9,hat,hat',hbt,hq,hz,h5,x1,x2,x3,x4,x5,x4',x5',y4,y5]) ?_|apply wp_bs|apply wp_b|refine wp_sr ?_|refine wp_sx ?_|refine wp_ret' ?_|refine wp_skip' ?_|refine wp_exit' ?_)
        simp [zi434]
      | true =>
        have k3:=k3 rfl
        subst k3
        refine call_of_wp zt434 rfl ?_
        repeat (first|apply wp_as|apply wp_ss|refine wr (by simp [hc,e1,e2,e3,e4,e5,e6,e7,e8,e9,hat,hat',hbt,hq,hz,h5,x1,x2,x3,x4,x5,x4',x5',y4,y5];with_reducible rfl) ?_|refine wq (by simp [hc,e1,e2,e3,e4,e5,e6,e7,e8,e9,hat,hat',hbt,hq,hz,h5,x1,x2,x3,x4,x5,x4',x5',y4,y5];with_reducible rfl) ?_|refine wt (by simpa [hc,e1,e2,e3,e4,e5,e6,e7,e8,e9,hat,hat',hbt,hq,hz,h5,x1,x2,x3,x4,x5,x4',x5',y4,y5]) ?_|refine wf (by simpa [hc,e1,e2,e3,e4,e5,e6,e7,e8,e9,hat,hat',hbt,hq,hz,h5,x1,x2,x3,x4,x5,x4',x5',y4,y5]) ?_|refine xt (by simpa [hc,e1,e2,e3,e4,e5,e6,e7,e8,e9,hat,hat',hbt,hq,hz,h5,x1,x2,x3,x4,x5,x4',x5',y4,y5]) ?_|refine xf (by simpa [hc,e1,e2,e3,e4,e5,e6,e7,e8,e9,hat,hat',hbt,hq,hz,h5,x1,x2,x3,x4,x5,x4',x5',y4,y5]) ?_|apply wp_bs|apply wp_b|refine wp_sr ?_|refine wp_sx ?_|refine wp_ret' ?_|refine wp_skip' ?_|refine wp_exit' ?_)
        simp [zi434]
end Go.Idl
namespace Go.Idl
open Go
theorem getD_map (a:List Int):a=(List.range a.length).map fun v=>a.getD v 0:=by
  refine List.ext_getElem (by simp) fun i k1 k2=>?_
  simp [List.getD_eq_getElem?_getD,List.getElem?_eq_getElem k1]
theorem map_sum_S (b:List Int) (g:Int→Int):(b.map g).sum=S (List.range b.length) (fun v=>g (b.getD v 0)):=by
  conv=>lhs;rw [getD_map b,List.map_map]
  rfl
theorem sum_S (a:List Int):a.sum=S (List.range a.length) (fun v=>a.getD v 0):=by
  conv=>lhs;rw [getD_map a]
  rfl
theorem Dg_gale {a b:List Int} {n:Nat} (ha:a.length=n) (hb:b.length=n) (h:Dg n a b) (i:Nat):0≤gs a b i:=by
  obtain ⟨p,h1,h2,h3⟩:=h
  obtain ⟨π,hπ,hf⟩:=perm_map_inv (f:=fun v=>a.getD v 0) (fall_perm a) (getD_map a)
  rw [ha] at hπ
  have e1:((fall a).take (i+1)).sum=S (π.take (i+1)) (fun v=>a.getD v 0):=by rw [hf,← List.map_take];rfl
  have hsub:(π.take (i+1)).Sublist π:=List.take_sublist _ _
  have e2:S (π.take (i+1)) (fun v=>a.getD v 0)=S (List.range n) (fun u=>S (π.take (i+1)) (fun v=>if p v u then 1 else 0)):=by
    rw [← S_swap]
    exact S_congr fun v hv=>(h2 v (List.mem_range.1 (hπ.mem_iff.1 (hsub.subset hv)))).symm
  have e3:S (List.range n) (fun u=>S (π.take (i+1)) (fun v=>if p v u then 1 else 0))≤S (List.range n) (fun u=>min (b.getD u 0) ((i:Int)+1)):=by
    refine S_le fun u hu=>?_
    have a1:S (π.take (i+1)) (fun v=>if p v u then (1:Int) else 0)≤b.getD u 0:=by
      rw [← h3 u (List.mem_range.1 hu),← S_perm hπ]
      exact S_sublist hsub fun v _=>by split <;> omega
    have a2:S (π.take (i+1)) (fun v=>if p v u then (1:Int) else 0)≤(i:Int)+1:=by
      have s1:S (π.take (i+1)) (fun v=>if p v u then (1:Int) else 0)≤S (π.take (i+1)) (fun _=>1):=S_le fun v _=>by split <;> omega
      rw [S_const] at s1
      have:(π.take (i+1)).length≤i+1:=by simp;omega
      omega
    omega
  have e4:=map_sum_S b fun x=>min x ((i:Int)+1)
  rw [hb] at e4
  rw [gs,e1,e2,e4];omega
theorem Dg_sum {a b:List Int} {n:Nat} (ha:a.length=n) (hb:b.length=n) (h:Dg n a b):a.sum=b.sum:=by
  obtain ⟨p,h1,h2,h3⟩:=h
  rw [sum_S a,sum_S b,ha,hb,S_congr fun v hv=>(h2 v (List.mem_range.1 hv)).symm,S_swap]
  exact S_congr fun v hv=>h3 v (List.mem_range.1 hv)
theorem implD_bigr {a b:List Int} (h:implD a b=true):bigr a b=true:=by
  simp only [implD,Bool.and_eq_true,decide_eq_true_eq] at h
  obtain ⟨hab,hva,hvb,hM⟩:=h
  have ha:=valS_lil hva
  have hb:=valS_lil hvb
  have hD:=(hasM2_iff (n:=a.length) rfl hab.symm (by omega) ha.1 hb.1).1 hM
  simp only [valS,Bool.and_eq_true,List.all_eq_true,decide_eq_true_eq] at hva hvb
  have hv:vMar a b=true:=by
    simp only [vMar,sideOk,inAll,Bool.and_eq_true,decide_eq_true_eq,List.all_eq_true]
    refine ⟨by omega,by omega,fun x hx=>?_,fun x hx=>?_⟩
    · have:=hva.1 x hx;omega
    · have:=hvb.1 x hx;omega
  rw [bigr,hv,decide_eq_true (Dg_sum rfl hab.symm hD),noneNeg,gale,mapR,List.all_map]
  simp only [Bool.true_and,List.all_eq_true]
  intro i hi
  exact decide_eq_true (Dg_gale rfl hab.symm hD i)
theorem digLaw2 (a b:List Int) (hab:a.length=b.length) (va:valid a=true) (vb:valid b=true) (h1:1≤a.length) (h5:a.length≤5):DigLaw a b :=
  ⟨implD_symm a b,fun hg=>implD_graphic va h1 h5 hg,implD_bigr⟩
end Go.Idl
namespace Go.Idl
open Go
def lhsN:List (Nat×Nat)→Nat→Nat
  | [],_=>0
  | _::_,0=>0
  | x::r,c+1=>Nat.add x.1 (lhsN r c)
def minN (a b:Nat):Nat:=cond (Nat.ble a b) a b
def rhsN (k:Nat):List (Nat×Nat)→Nat→Nat
  | [],_=>0
  | x::r,0=>Nat.add (minN x.2 k) (rhsN k r 0)
  | x::r,c+1=>Nat.add (minN x.2 (Nat.pred k)) (rhsN k r c)
def allN:Nat→(Nat→Bool)→Bool
  | 0,_=>true
  | k+1,f=>f k && allN k f
def okN (o:List (Nat×Nat)):Bool:=allN o.length fun i=>Nat.ble (lhsN o (i+1)) (rhsN (i+1) o (i+1))
def keys2:List Nat→List Nat→Nat→List Nat
  | [],_,_=>[]
  | y::r,[],w=>Nat.add (Nat.mul y 64) w::keys2 r [] (Nat.pred w)
  | y::r,a::l,w=>Nat.add (Nat.mul y 64) (Nat.add (Nat.mul a 8) w)::keys2 r l (Nat.pred w)
def keys1:List Nat→Nat→List Nat→Nat→List Nat
  | [],_,_,_=>[]
  | _::r,0,l,w=>0::keys2 r l (Nat.pred w)
  | y::r,c+1,l,w=>Nat.add (Nat.mul y 64) w::keys1 r c l (Nat.pred w)
def cntG (x:Nat):List Nat→Nat
  | []=>0
  | y::r=>cond (Nat.blt x y) (Nat.succ (cntG x r)) (cntG x r)
def selN (ks:List Nat) (a:Nat):List Nat→List Bool
  | []=>[]
  | x::r=>cond (Nat.beq x 0) false (Nat.blt (cntG x ks) a)::selN ks a r
def selR (i a:Nat) (l b:List Nat):List Bool:=selN (keys1 b i l 7) a (keys1 b i l 7)
def cntB:List Bool→Nat
  | []=>0
  | true::r=>Nat.succ (cntB r)
  | false::r=>cntB r
def leB:List Nat→List Bool→Bool
  | [],[]=>true
  | y::r,true::t=>Nat.blt 0 y && leB r t
  | _::r,false::t=>leB r t
  | _,_=>false
def subB:List Nat→List Bool→List Nat
  | y::r,true::t=>Nat.pred y::subB r t
  | y::r,false::t=>y::subB r t
  | b,[]=>b
  | [],_=>[]
def allZ:List Nat→Bool
  | []=>true
  | y::r=>Nat.beq y 0 && allZ r
def realN:List Nat→Nat→List Nat→Bool
  | [],_,b=>allZ b
  | a::l,i,b=>leB b (selR i a l b) && (Nat.beq (cntB (selR i a l b)) a && (!((selR i a l b).getD i false) && realN l (i+1) (subB b (selR i a l b))))
def allC (n:Nat) (p:List (Nat×Nat)→Bool):Nat→Nat→List (Nat×Nat)→Nat→Nat→Bool
  | 0,_,acc,sa,sb=>cond (Nat.beq sa sb) (p acc) true
  | m+1,t,acc,sa,sb=>allN (t+1) fun c=>allC n p m c ((Nat.div c n,Nat.mod c n)::acc) (Nat.add sa (Nat.div c n)) (Nat.add sb (Nat.mod c n))
def chkN (acc:List (Nat×Nat)):Bool:=!(okN acc.reverse) || realN (acc.reverse.map fun x=>x.1) 0 (acc.reverse.map fun x=>x.2)
theorem allN_in {f:Nat→Bool}:∀ {k:Nat},(∀ i,i < k→f i=true)→allN k f=true
  | 0,_=>rfl
  | k+1,h=>by rw [allN,h k (by omega),allN_in fun i hi=>h i (by omega)];rfl
set_option maxRecDepth 100000 in
theorem chk5_0:allC 5 chkN 4 0 [(Nat.div 0 5,Nat.mod 0 5)] (Nat.add 0 (Nat.div 0 5)) (Nat.add 0 (Nat.mod 0 5))=true:=by kernel_rfl
set_option maxRecDepth 100000 in
theorem chk5_1:allC 5 chkN 4 1 [(Nat.div 1 5,Nat.mod 1 5)] (Nat.add 0 (Nat.div 1 5)) (Nat.add 0 (Nat.mod 1 5))=true:=by kernel_rfl
set_option maxRecDepth 100000 in
theorem chk5_2:allC 5 chkN 4 2 [(Nat.div 2 5,Nat.mod 2 5)] (Nat.add 0 (Nat.div 2 5)) (Nat.add 0 (Nat.mod 2 5))=true:=by kernel_rfl
set_option maxRecDepth 100000 in
theorem chk5_3:allC 5 chkN 4 3 [(Nat.div 3 5,Nat.mod 3 5)] (Nat.add 0 (Nat.div 3 5)) (Nat.add 0 (Nat.mod 3 5))=true:=by kernel_rfl
set_option maxRecDepth 100000 in
theorem chk5_4:allC 5 chkN 4 4 [(Nat.div 4 5,Nat.mod 4 5)] (Nat.add 0 (Nat.div 4 5)) (Nat.add 0 (Nat.mod 4 5))=true:=by kernel_rfl
set_option maxRecDepth 100000 in
theorem chk5_5:allC 5 chkN 4 5 [(Nat.div 5 5,Nat.mod 5 5)] (Nat.add 0 (Nat.div 5 5)) (Nat.add 0 (Nat.mod 5 5))=true:=by kernel_rfl
set_option maxRecDepth 100000 in
theorem chk5_6:allC 5 chkN 4 6 [(Nat.div 6 5,Nat.mod 6 5)] (Nat.add 0 (Nat.div 6 5)) (Nat.add 0 (Nat.mod 6 5))=true:=by kernel_rfl
set_option maxRecDepth 100000 in
theorem chk5_7:allC 5 chkN 4 7 [(Nat.div 7 5,Nat.mod 7 5)] (Nat.add 0 (Nat.div 7 5)) (Nat.add 0 (Nat.mod 7 5))=true:=by kernel_rfl
set_option maxRecDepth 100000 in
theorem chk5_8:allC 5 chkN 4 8 [(Nat.div 8 5,Nat.mod 8 5)] (Nat.add 0 (Nat.div 8 5)) (Nat.add 0 (Nat.mod 8 5))=true:=by kernel_rfl
set_option maxRecDepth 100000 in
theorem chk5_9:allC 5 chkN 4 9 [(Nat.div 9 5,Nat.mod 9 5)] (Nat.add 0 (Nat.div 9 5)) (Nat.add 0 (Nat.mod 9 5))=true:=by kernel_rfl
set_option maxRecDepth 100000 in
theorem chk5_10:allC 5 chkN 4 10 [(Nat.div 10 5,Nat.mod 10 5)] (Nat.add 0 (Nat.div 10 5)) (Nat.add 0 (Nat.mod 10 5))=true:=by kernel_rfl
set_option maxRecDepth 100000 in
theorem chk5_11:allC 5 chkN 4 11 [(Nat.div 11 5,Nat.mod 11 5)] (Nat.add 0 (Nat.div 11 5)) (Nat.add 0 (Nat.mod 11 5))=true:=by kernel_rfl
set_option maxRecDepth 100000 in
theorem chk5_12:allC 5 chkN 4 12 [(Nat.div 12 5,Nat.mod 12 5)] (Nat.add 0 (Nat.div 12 5)) (Nat.add 0 (Nat.mod 12 5))=true:=by kernel_rfl
set_option maxRecDepth 100000 in
theorem chk5_13:allC 5 chkN 4 13 [(Nat.div 13 5,Nat.mod 13 5)] (Nat.add 0 (Nat.div 13 5)) (Nat.add 0 (Nat.mod 13 5))=true:=by kernel_rfl
set_option maxRecDepth 100000 in
theorem chk5_14:allC 5 chkN 4 14 [(Nat.div 14 5,Nat.mod 14 5)] (Nat.add 0 (Nat.div 14 5)) (Nat.add 0 (Nat.mod 14 5))=true:=by kernel_rfl
set_option maxRecDepth 100000 in
theorem chk5_15:allC 5 chkN 4 15 [(Nat.div 15 5,Nat.mod 15 5)] (Nat.add 0 (Nat.div 15 5)) (Nat.add 0 (Nat.mod 15 5))=true:=by kernel_rfl
set_option maxRecDepth 100000 in
theorem chk5_16:allC 5 chkN 4 16 [(Nat.div 16 5,Nat.mod 16 5)] (Nat.add 0 (Nat.div 16 5)) (Nat.add 0 (Nat.mod 16 5))=true:=by kernel_rfl
set_option maxRecDepth 100000 in
theorem chk5_17:allC 5 chkN 4 17 [(Nat.div 17 5,Nat.mod 17 5)] (Nat.add 0 (Nat.div 17 5)) (Nat.add 0 (Nat.mod 17 5))=true:=by kernel_rfl
set_option maxRecDepth 100000 in
theorem chk5_18:allC 5 chkN 4 18 [(Nat.div 18 5,Nat.mod 18 5)] (Nat.add 0 (Nat.div 18 5)) (Nat.add 0 (Nat.mod 18 5))=true:=by kernel_rfl
set_option maxRecDepth 100000 in
theorem chk5_19:allC 5 chkN 4 19 [(Nat.div 19 5,Nat.mod 19 5)] (Nat.add 0 (Nat.div 19 5)) (Nat.add 0 (Nat.mod 19 5))=true:=by kernel_rfl
set_option maxRecDepth 100000 in
theorem chk5_20:allC 5 chkN 4 20 [(Nat.div 20 5,Nat.mod 20 5)] (Nat.add 0 (Nat.div 20 5)) (Nat.add 0 (Nat.mod 20 5))=true:=by kernel_rfl
set_option maxRecDepth 100000 in
theorem chk5_21:allC 5 chkN 4 21 [(Nat.div 21 5,Nat.mod 21 5)] (Nat.add 0 (Nat.div 21 5)) (Nat.add 0 (Nat.mod 21 5))=true:=by kernel_rfl
set_option maxRecDepth 100000 in
theorem chk5_22:allC 5 chkN 4 22 [(Nat.div 22 5,Nat.mod 22 5)] (Nat.add 0 (Nat.div 22 5)) (Nat.add 0 (Nat.mod 22 5))=true:=by kernel_rfl
set_option maxRecDepth 100000 in
theorem chk5_23:allC 5 chkN 4 23 [(Nat.div 23 5,Nat.mod 23 5)] (Nat.add 0 (Nat.div 23 5)) (Nat.add 0 (Nat.mod 23 5))=true:=by kernel_rfl
set_option maxRecDepth 100000 in
theorem chk5_24:allC 5 chkN 4 24 [(Nat.div 24 5,Nat.mod 24 5)] (Nat.add 0 (Nat.div 24 5)) (Nat.add 0 (Nat.mod 24 5))=true:=by kernel_rfl
theorem chk5:allN 25 (fun c=>allC 5 chkN 4 c [(Nat.div c 5,Nat.mod c 5)] (Nat.add 0 (Nat.div c 5)) (Nat.add 0 (Nat.mod c 5)))=true :=
  allN_in fun c hc=>match c,hc with
    | 0,_=>chk5_0
    | 1,_=>chk5_1
    | 2,_=>chk5_2
    | 3,_=>chk5_3
    | 4,_=>chk5_4
    | 5,_=>chk5_5
    | 6,_=>chk5_6
    | 7,_=>chk5_7
    | 8,_=>chk5_8
    | 9,_=>chk5_9
    | 10,_=>chk5_10
    | 11,_=>chk5_11
    | 12,_=>chk5_12
    | 13,_=>chk5_13
    | 14,_=>chk5_14
    | 15,_=>chk5_15
    | 16,_=>chk5_16
    | 17,_=>chk5_17
    | 18,_=>chk5_18
    | 19,_=>chk5_19
    | 20,_=>chk5_20
    | 21,_=>chk5_21
    | 22,_=>chk5_22
    | 23,_=>chk5_23
    | 24,_=>chk5_24
    | c+25,h=>absurd h (by omega)
set_option maxRecDepth 100000 in
theorem chkS_0:allC 0 chkN 0 (0 * 0 - 1) [] 0 0=true:=by kernel_rfl
set_option maxRecDepth 100000 in
theorem chkS_1:allC 1 chkN 1 (1 * 1 - 1) [] 0 0=true:=by kernel_rfl
set_option maxRecDepth 100000 in
theorem chkS_2:allC 2 chkN 2 (2 * 2 - 1) [] 0 0=true:=by kernel_rfl
set_option maxRecDepth 100000 in
theorem chkS_3:allC 3 chkN 3 (3 * 3 - 1) [] 0 0=true:=by kernel_rfl
set_option maxRecDepth 100000 in
theorem chkS_4:allC 4 chkN 4 (4 * 4 - 1) [] 0 0=true:=by kernel_rfl
theorem chkN_all:allN 6 (fun n=>allC n chkN n (n * n - 1) [] 0 0)=true :=
  allN_in fun n hn=>match n,hn with
    | 0,_=>chkS_0
    | 1,_=>chkS_1
    | 2,_=>chkS_2
    | 3,_=>chkS_3
    | 4,_=>chkS_4
    | 5,_=>chk5
    | n+6,h=>absurd h (by omega)
end Go.Idl
namespace Go.Idl
open Go
theorem allN_ok {f:Nat→Bool}:∀ {k:Nat},allN k f=true→∀ i,i < k→f i=true
  | 0,_,_,hi=>absurd hi (by omega)
  | k+1,h,i,hi=>by
    simp only [allN,Bool.and_eq_true] at h
    by_cases hk:i=k
    · subst hk;exact h.1
    · exact allN_ok h.2 i (by omega)
def FallL:Nat→List Nat→Prop
  | _,[]=>True
  | t,c::r=>c≤t∧FallL c r
theorem allC_ok (n:Nat) (p:List (Nat×Nat)→Bool):∀ (m t:Nat) (acc:List (Nat×Nat)) (sa sb:Nat) (l:List Nat),allC n p m t acc sa sb=true→l.length=m→FallL t l →
    sa+(l.map fun c=>c / n).sum=sb+(l.map fun c=>c % n).sum→p ((l.map fun c=>(c / n,c % n)).reverse++acc)=true
  | 0,t,acc,sa,sb,l,h,hl,hf,hs=>by
    have:l=[]:=List.length_eq_zero_iff.1 hl
    subst this
    simp only [List.map_nil,List.sum_nil,Nat.add_zero] at hs
    subst hs
    have hb:Nat.beq sa sa=true:=Nat.beq_refl sa
    simpa [allC,hb] using h
  | m+1,t,acc,sa,sb,l,h,hl,hf,hs=>by
    cases l with
    | nil=>simp at hl
    | cons c r =>
      have h1:=allN_ok h c (by have:=hf.1;omega)
      have h2:=allC_ok n p m c _ _ _ r h1 (by simpa using hl) hf.2 (by
        simp only [List.map_cons,List.sum_cons] at hs
        show sa+c / n+_=sb+c % n+_
        omega)
      rw [List.map_cons,List.reverse_cons,List.append_assoc]
      exact h2
theorem leB_len:∀ (b:List Nat) (s:List Bool),leB b s=true→s.length=b.length
  | [],[],_=>rfl
  | [],_::_,h=>by simp [leB] at h
  | _::_,[],h=>by simp [leB] at h
  | y::r,true::t,h=>by
    simp only [leB,Bool.and_eq_true] at h
    simp [leB_len r t h.2]
  | y::r,false::t,h=>by
    simp only [leB] at h
    simp [leB_len r t h]
theorem sub_get:∀ (b:List Nat) (s:List Bool),leB b s=true→∀ u,(b.getD u 0:Int)=(if s.getD u false=true then 1 else 0)+((subB b s).getD u 0:Int)
  | [],[],_,u=>by simp [subB]
  | [],_::_,h,_=>by simp [leB] at h
  | _::_,[],h,_=>by simp [leB] at h
  | y::r,true::t,h,u=>by
    simp only [leB,Bool.and_eq_true] at h
    have h0:1≤y:=by simpa [Nat.blt] using h.1
    cases u with
    | zero=>simp [subB];omega
    | succ u=>simpa [subB] using sub_get r t h.2 u
  | y::r,false::t,h,u=>by
    simp only [leB] at h
    cases u with
    | zero=>simp [subB]
    | succ u=>simpa [subB] using sub_get r t h u
theorem subB_len:∀ (b:List Nat) (s:List Bool),leB b s=true→(subB b s).length=b.length
  | [],[],_=>rfl
  | [],_::_,h=>by simp [leB] at h
  | _::_,[],h=>by simp [leB] at h
  | y::r,true::t,h=>by
    simp only [leB,Bool.and_eq_true] at h
    simp [subB,subB_len r t h.2]
  | y::r,false::t,h=>by
    simp only [leB] at h
    simp [subB,subB_len r t h]
theorem S_range_succ (n:Nat) (f:Nat→Int):S (List.range (n+1)) f=f 0+S (List.range n) (fun i=>f (i+1)):=by
  rw [List.range_succ_eq_map,S_cons,S_map]
theorem cntB_S:∀ (s:List Bool),(cntB s:Int)=S (List.range s.length) (fun u=>if s.getD u false=true then 1 else 0)
  | []=>rfl
  | true::t=>by
    have:=cntB_S t
    rw [List.length_cons,S_range_succ]
    simp only [cntB,List.getD_cons_zero,List.getD_cons_succ,if_true]
    omega
  | false::t=>by
    have:=cntB_S t
    rw [List.length_cons,S_range_succ]
    simp only [cntB,List.getD_cons_zero,List.getD_cons_succ]
    simp only [Bool.false_eq_true,if_false]
    omega
theorem allZ_get:∀ (b:List Nat),allZ b=true→∀ u,b.getD u 0=0
  | [],_,u=>by simp
  | y::r,h,u=>by
    simp only [allZ,Bool.and_eq_true] at h
    cases u with
    | zero=>simpa using Nat.eq_of_beq_eq_true h.1
    | succ u=>simpa using allZ_get r h.2 u
theorem realN_ok (n:Nat):∀ (l:List Nat) (i:Nat) (b:List Nat),realN l i b=true→b.length=n→∃ p:Nat→Nat→Bool,(∀ v,p v v=false) ∧
    (∀ v,v < l.length→S (List.range n) (fun u=>if p (i+v) u then 1 else 0)=(l.getD v 0:Int))∧(∀ u,u < n→S (List.range l.length) (fun v=>if p (i+v) u then 1 else 0)=(b.getD u 0:Int))
  | [],i,b,h,hb=>⟨fun _ _=>false,fun _=>rfl,fun v hv=>by simp at hv,fun u _=>by
      rw [allZ_get b h u];rfl⟩
  | a::l,i,b,h,hb=>by
    simp only [realN,Bool.and_eq_true,Bool.not_eq_true'] at h
    generalize selR i a l b=s at h
    obtain ⟨k1,k2,k3,k4⟩:=h
    have k2:=Nat.eq_of_beq_eq_true k2
    obtain ⟨q,q1,q2,q3⟩:=realN_ok n l (i+1) (subB b s) k4 (by rw [subB_len b s k1];exact hb)
    have hsl:=leB_len b s k1
    refine ⟨fun v u=>if v=i then s.getD u false else q v u,fun v=>?_,fun v hv=>?_,fun u hu=>?_⟩
    · by_cases hv:v=i
      · subst hv;simpa using k3
      · simp [hv,q1]
    · cases v with
      | zero =>
        have:=cntB_S s
        rw [hsl,hb,k2] at this
        simp only [Nat.add_zero,if_true,List.getD_cons_zero]
        exact this.symm
      | succ v =>
        have:=q2 v (by simpa using hv)
        rw [show i+1+v=i+(v+1) by omega] at this
        have hne:¬ i+(v+1)=i:=by omega
        simpa [hne] using this
    · rw [List.length_cons,S_range_succ,sub_get b s k1 u,← q3 u hu]
      have hne:∀ v,¬ i+(v+1)=i:=fun v=>by omega
      have hq:∀ v,i+1+v=i+(v+1):=fun v=>by omega
      simp only [Nat.add_zero,if_true,hne,if_false,hq]
end Go.Idl
namespace Go.Idl
open Go
theorem arcF_iff (x y:Int×Int):arcF x y=true ↔ y.1 < x.1 ∨ (x.1=y.1∧y.2≤x.2):=by simp [arcF]
theorem insA_pw (e:Int×Int):∀ (es:List (Int×Int)),es.Pairwise (fun x y=>arcF x y=true)→(insA e es).Pairwise (fun x y=>arcF x y=true)
  | [],_=>by simp [insA]
  | x::r,h=>by
    rw [List.pairwise_cons] at h
    rw [insA]
    split
    · rename_i hx
      refine List.pairwise_cons.2 ⟨fun y hy=>?_,insA_pw e r h.2⟩
      rcases (insA_mem e y r).1 hy with rfl | hy
      · exact hx
      · exact h.1 y hy
    · rename_i hx
      refine List.pairwise_cons.2 ⟨fun y hy=>?_,List.pairwise_cons.2 h⟩
      have hx2:¬ (e.1 < x.1 ∨ (x.1=e.1∧e.2≤x.2)):=fun q=>hx ((arcF_iff x e).2 q)
      rcases List.mem_cons.1 hy with rfl | hy
      · rw [arcF_iff];omega
      · have:=(arcF_iff x y).1 (h.1 y hy)
        rw [arcF_iff];omega
theorem arcO_pw (ps:List (Int×Int)):(arcO ps).Pairwise (fun x y=>arcF x y=true):=by
  have:∀ (ps o:List (Int×Int)),o.Pairwise (fun x y=>arcF x y=true)→(ps.foldl (fun o e=>insA e o) o).Pairwise (fun x y=>arcF x y=true):=by
    intro ps
    induction ps with
    | nil=>intro o h;exact h
    | cons e r ih=>intro o h;exact ih _ (insA_pw e o h)
  exact this ps [] List.Pairwise.nil
def cod (n:Nat) (x:Int×Int):Nat:=x.1.toNat * n+x.2.toNat
def toN (x:Int×Int):Nat×Nat:=(x.1.toNat,x.2.toNat)
def InP (n:Nat) (o:List (Int×Int)):Prop:=∀ x ∈ o,(0≤x.1∧x.1 < n)∧0≤x.2∧x.2 < n
theorem cod_dec {n:Nat} {x:Int×Int} (h:0≤x.2∧x.2 < n):cod n x / n=x.1.toNat∧cod n x % n=x.2.toNat:=blk_div (by omega)
theorem cod_le {n:Nat} {x y:Int×Int} (hx:(0≤x.1∧x.1 < n)∧0≤x.2∧x.2 < n) (hy:(0≤y.1∧y.1 < n)∧0≤y.2∧y.2 < n) (h:arcF x y=true):cod n y≤cod n x:=by
  rcases (arcF_iff x y).1 h with h | h
  · have h1:(y.1.toNat+1) * n≤x.1.toNat * n:=Nat.mul_le_mul_right n (by omega)
    rw [Nat.succ_mul] at h1
    simp only [cod];omega
  · have h1:x.1.toNat=y.1.toNat:=by omega
    simp only [cod,h1];omega
theorem cod_fall {n:Nat}:∀ (o:List (Int×Int)) (t:Nat),InP n o→o.Pairwise (fun x y=>arcF x y=true)→(∀ x ∈ o,cod n x≤t)→FallL t (o.map (cod n))
  | [],_,_,_,_=>trivial
  | x::r,t,hi,hp,ht=>by
    rw [List.pairwise_cons] at hp
    exact ⟨ht x (by simp),cod_fall r _ (fun y hy=>hi y (by simp [hy])) hp.2 fun y hy=>cod_le (hi x (by simp)) (hi y (by simp [hy])) (hp.1 y hy)⟩
theorem slk_link (k:Nat) (hk:1≤k):∀ (o:List (Int×Int)) (c:Nat),(∀ x ∈ o,0≤x.1∧0≤x.2) →
    S (List.range o.length) (fun i=>if i < c then min (o.getD i (0,0)).2 ((k:Int) - 1) - (o.getD i (0,0)).1 else min (o.getD i (0,0)).2 k)=(rhsN k (o.map toN) c:Int) - (lhsN (o.map toN) c:Int)
  | [],c,_=>by cases c <;> rfl
  | x::r,c,h=>by
    have hx:=h x (by simp)
    have m1:((minN x.2.toNat k:Nat):Int)=min x.2 k:=by
      unfold minN
      cases hb:Nat.ble x.2.toNat k with
      | true=>have:=Nat.le_of_ble_eq_true hb;simp only [cond_true];omega
      | false=>have:¬ x.2.toNat≤k:=fun q=>by rw [Nat.ble_eq_true_of_le q] at hb;cases hb
               simp only [cond_false];omega
    have m2:((minN x.2.toNat (Nat.pred k):Nat):Int)=min x.2 ((k:Int) - 1):=by
      unfold minN
      have hp:Nat.pred k=k - 1:=rfl
      rw [hp]
      cases hb:Nat.ble x.2.toNat (k - 1) with
      | true=>have:=Nat.le_of_ble_eq_true hb;simp only [cond_true];omega
      | false=>have:¬ x.2.toNat≤k - 1:=fun q=>by rw [Nat.ble_eq_true_of_le q] at hb;cases hb
               simp only [cond_false];omega
    rw [List.length_cons,S_range_succ]
    cases c with
    | zero =>
      have ih:=slk_link k hk r 0 fun y hy=>h y (by simp [hy])
      have l0:lhsN (r.map toN) 0=0:=by cases r <;> rfl
      rw [l0] at ih
      simp only [Nat.not_lt_zero,if_false,List.getD_cons_zero,List.getD_cons_succ] at ih ⊢
      rw [ih]
      have e1:rhsN k ((x::r).map toN) 0=minN x.2.toNat k+rhsN k (r.map toN) 0:=rfl
      have e2:lhsN ((x::r).map toN) 0=0:=rfl
      rw [e1,e2];omega
    | succ c =>
      have ih:=slk_link k hk r c fun y hy=>h y (by simp [hy])
      simp only [List.getD_cons_zero,List.getD_cons_succ,Nat.add_lt_add_iff_right,Nat.zero_lt_succ,if_true]
      rw [ih]
      have e1:rhsN k ((x::r).map toN) (c+1)=minN x.2.toNat (Nat.pred k)+rhsN k (r.map toN) c:=rfl
      have e2:lhsN ((x::r).map toN) (c+1)=x.1.toNat+lhsN (r.map toN) c:=rfl
      rw [e1,e2];omega
theorem allP_ok (o:List (Int×Int)):∀ (m k:Nat),allP o m k=true→∀ j,k≤j→j < k+m→0≤slkP o j o.length
  | 0,k,_,j,h1,h2=>absurd h2 (by omega)
  | m+1,k,h,j,h1,h2=>by
    simp only [allP,Bool.and_eq_true,decide_eq_true_eq] at h
    by_cases hj:j=k
    · subst hj;exact h.1
    · exact allP_ok o m (k+1) h.2 j (by omega) (by omega)
theorem toNat_sum:∀ (o:List (Int×Int)) (g:Int×Int→Int),(∀ x ∈ o,0≤g x)→(((o.map fun x=>(g x).toNat).sum:Nat):Int)=S o g
  | [],_,_=>rfl
  | x::r,g,h=>by
    have h1:=h x (by simp)
    rw [List.map_cons,List.sum_cons,S_cons,← toNat_sum r g fun y hy=>h y (by simp [hy])];omega
theorem ok_DgP {o:List (Int×Int)} {n:Nat} (hn:o.length=n) (h5:n≤5) (hi:InP n o) (hp:o.Pairwise (fun x y=>arcF x y=true)) (hs:S o (fun x=>x.1)=S o (fun x=>x.2)) (ha:allP o n 1=true):DgP o:=by
  have hc:=allN_ok chkN_all n (by omega)
  have hcl:∀ x ∈ o,cod n x≤n * n - 1:=fun x hx=>by
    have:=hi x hx
    have h1:(x.1.toNat+1) * n≤n * n:=Nat.mul_le_mul_right n (by omega)
    rw [Nat.succ_mul] at h1
    simp only [cod];omega
  have d1:(o.map (cod n)).map (fun c=>c / n)=o.map fun x=>x.1.toNat:=by
    rw [List.map_map];exact List.map_congr_left fun x hx=>(cod_dec (hi x hx).2).1
  have d2:(o.map (cod n)).map (fun c=>c % n)=o.map fun x=>x.2.toNat:=by
    rw [List.map_map];exact List.map_congr_left fun x hx=>(cod_dec (hi x hx).2).2
  have d3:(o.map (cod n)).map (fun c=>(c / n,c % n))=o.map toN:=by
    rw [List.map_map]
    refine List.map_congr_left fun x hx=>?_
    exact Prod.ext (cod_dec (hi x hx).2).1 (cod_dec (hi x hx).2).2
  have hk:=allC_ok n chkN n (n * n - 1) [] 0 0 (o.map (cod n)) hc (by simpa using hn) (cod_fall o _ hi hp hcl) (by
    rw [d1,d2]
    have s1:=toNat_sum o (fun x=>x.1) fun x hx=>(hi x hx).1.1
    have s2:=toNat_sum o (fun x=>x.2) fun x hx=>(hi x hx).2.1
    omega)
  rw [d3,List.append_nil,chkN,List.reverse_reverse] at hk
  have hok:okN (o.map toN)=true:=by
    refine allN_in fun i hil=>?_
    rw [List.length_map] at hil
    have h1:=allP_ok o n 1 ha (i+1) (by omega) (by omega)
    rw [slkP_S] at h1
    have h2:=slk_link (i+1) (by omega) o (i+1) fun x hx=>⟨(hi x hx).1.1,(hi x hx).2.1⟩
    have h3:S (List.range o.length) (dtm o (i+1))=_:=h2
    rw [h3] at h1
    exact Nat.ble_eq_true_of_le (by omega)
  rw [hok] at hk
  simp only [Bool.not_true,Bool.false_or] at hk
  obtain ⟨p,p1,p2,p3⟩:=realN_ok n _ 0 _ hk (by simp [hn])
  have g1:∀ v,v < n→((((o.map toN).map fun x:Nat×Nat=>x.1).getD v 0:Nat):Int)=(o.getD v (0,0)).1:=fun v hv=>by
    have hv2:v < o.length:=by omega
    have:=hi _ (List.getElem_mem hv2)
    simp [List.getD_eq_getElem?_getD,List.getElem?_eq_getElem hv2,toN];omega
  have g2:∀ v,v < n→((((o.map toN).map fun x:Nat×Nat=>x.2).getD v 0:Nat):Int)=(o.getD v (0,0)).2:=fun v hv=>by
    have hv2:v < o.length:=by omega
    have:=hi _ (List.getElem_mem hv2)
    simp [List.getD_eq_getElem?_getD,List.getElem?_eq_getElem hv2,toN];omega
  simp only [List.length_map,hn,Nat.zero_add] at p2 p3
  rw [DgP,hn]
  exact ⟨p,p1,fun v hv=>by rw [p2 v hv,g1 v hv],fun v hv=>by rw [p3 v hv,g2 v hv]⟩
theorem digLaw1 (a b:List Int) (_:a.length≤6) (_:b.length≤5):implD a b=specD a b:=by
  unfold implD specD
  by_cases hab:a.length=b.length
  rotate_left
  · simp [hab]
  cases hva:valS a with
  | false=>simp
  | true =>
  cases hvb:valS b with
  | false=>simp
  | true =>
  have la:=valS_lil hva
  have lb:=valS_lil hvb
  simp only [hab,decide_true,Bool.true_and]
  have hzl:(a.zip b).length=a.length:=by simp;omega
  have hol:(arcO (a.zip b)).length=a.length:=by rw [arcO_len,hzl]
  have hz1:S (a.zip b) (fun x=>x.1)=a.sum:=by
    show ((a.zip b).map Prod.fst).sum=a.sum
    rw [List.map_fst_zip (by omega)]
  have hz2:S (a.zip b) (fun x=>x.2)=b.sum:=by
    show ((a.zip b).map Prod.snd).sum=b.sum
    rw [List.map_snd_zip (by omega)]
  rw [Bool.eq_iff_iff,hasM2_iff (n:=a.length) rfl hab.symm (by omega) la.1 lb.1,Dg_iff rfl hab.symm,isDg,Bool.and_eq_true,decide_eq_true_eq,hzl]
  constructor
  · intro h
    have h2:=DgP_perm (arcO_perm (a.zip b)) h
    refine ⟨DgP_allP h2 _ 1 (by omega) (by omega),?_⟩
    exact Dg_sum rfl hab.symm ((Dg_iff rfl hab.symm).2 h)
  · rintro ⟨h1,h2⟩
    simp only [valS,Bool.and_eq_true,List.all_eq_true,decide_eq_true_eq] at hva hvb
    refine DgP_perm (arcO_perm (a.zip b)).symm (ok_DgP hol (by omega) (fun x hx=>?_) (arcO_pw _) ?_ h1)
    · rw [arcO_mem] at hx
      have m1:=hva.1 _ (List.of_mem_zip hx).1
      have m2:=hvb.1 _ (List.of_mem_zip hx).2
      omega
    · rw [S_perm (arcO_perm _),S_perm (arcO_perm _),hz1,hz2,h2]
end Go.Idl
