/- Part 7 of a proof by an ideal interpreter of the code: its definitions and lemmas. Conditions: none. -/
import Derived.KernelRfl
import Derived.Test.YtnpcdnpfncdbnaaA6
set_option linter.all false
set_option linter.unusedVariables false
set_option linter.unusedSimpArgs false
namespace Go.Idl
open Go
def durfA:List Int→Nat→Nat→Nat
  | [],_,k=>k
  | x::q,i,k=>durfA q (i+1) (if (i:Int)≤x then i+1 else k)
def durf (s:List Int):Nat:=durfA s 0 0
def splitt (d:List Int):Int:=if graphic d then (if d.length=0 then 0 else ((slacks d).getD (durf (fall d) - 1) 0).tdiv 2) else -1
end Go.Idl
namespace Go.Idl
open Go
structure ThrLaw (d:List Int):Prop where
  com:thr (comp d)=thr d
  one:d.length≤6→decide ((reals d).length=1)=thr d
  spl:thr d=true→splitt d=0
end Go.Idl
namespace Go.Idl
def insP (x:Nat×Nat):List (Nat×Nat)→List (Nat×Nat)
  | []=>[x]
  | y::r=>if Nat.ble y.1 x.1 then x::y::r else y::insP x r
def hh:Nat→List (Nat×Nat)→List (Nat×Nat)
  | 0,_=>[]
  | _+1,[]=>[]
  | m+1,x::r=>(r.take x.1).map (fun y:Nat×Nat=>(x.2,y.2))++hh m ((((r.take x.1).map (fun y:Nat×Nat=>(y.1 - 1,y.2))++r.drop x.1:List (Nat×Nat))).foldr insP [])
theorem getD_zero_all {left:List Int} {N:Nat} (hl:left.length=N):left.all (fun x=>decide (x=0))=true ↔ ∀ v,v < N→(0:Int)=left.getD v 0:=by
  rw [List.all_eq_true]
  constructor
  · intro h v hv
    rw [List.getD_eq_getElem?_getD,List.getElem?_eq_getElem (by omega)]
    have:=of_decide_eq_true (h _ (List.getElem_mem (show v < left.length by omega)))
    simp [this]
  · intro h x hx
    obtain ⟨v,hv,rfl⟩:=List.getElem_of_mem hx
    have:=h v (by omega)
    rw [List.getD_eq_getElem?_getD,List.getElem?_eq_getElem hv] at this
    simpa using this.symm
theorem decAt_get {o:List Int} {i v:Nat} (hv:v < o.length):(decAt o i).getD v 0=o.getD v 0 - (if i=v then 1 else 0):=by
  rw [decAt,List.getD_eq_getElem?_getD,List.getElem?_set]
  by_cases h:i=v
  · subst h;simp [hv,List.getD_eq_getElem?_getD]
  · simp [h,List.getD_eq_getElem?_getD]
theorem inc_nonneg (v:Nat) (e:Int×Int):0≤inc v e:=by simp only [inc];split <;> split <;> decide
theorem mem_subs {N:Nat}:∀ (r:List (Int×Int)) (left:List Int) (ch g:List (Int×Int)),(∀ e ∈ r,0≤e.1∧e.1 < e.2∧e.2 < N)→left.length=N →
    (g ∈ subs r left ch ↔ ∃ s:List (Int×Int),s.Sublist r∧g=ch++s∧∀ v,v < N→deg s v=left.getD v 0)
  | [],left,ch,g,_,hl=>by
    rw [subs]
    constructor
    · intro h
      split at h
      · rename_i hz
        simp at h
        subst h
        exact ⟨[],List.Sublist.refl _,by simp,fun v hv=>(getD_zero_all hl).1 hz v hv⟩
      · simp at h
    · rintro ⟨s,hs,rfl,hd⟩
      have:s=[]:=by simpa using hs
      subst this
      rw [if_pos ((getD_zero_all hl).2 fun v hv=>hd v hv)]
      simp
  | e::r,left,ch,g,hr,hl=>by
    have he:=hr e (by simp)
    have hr':∀ x ∈ r,0≤x.1∧x.1 < x.2∧x.2 < N:=fun x hx=>hr x (by simp [hx])
    have hdl:(decAt (decAt left e.1.toNat) e.2.toNat).length=N:=by simp [decAt,hl]
    have hget:∀ v,v < N→(decAt (decAt left e.1.toNat) e.2.toNat).getD v 0=left.getD v 0 - inc v e:=fun v hv=>by
      rw [decAt_get (by simp [decAt];omega),decAt_get (by omega),inc]
      have c1:(e.1.toNat=v)=(e.1=(v:Int)):=by rw [eq_iff_iff];omega
      have c2:(e.2.toNat=v)=(e.2=(v:Int)):=by rw [eq_iff_iff];omega
      simp only [c1,c2];omega
    rw [subs,List.mem_append]
    constructor
    · rintro (h | h)
      · split at h
        rotate_left
        · simp at h
        obtain ⟨s,hs,rfl,hd⟩:=(mem_subs r _ _ g hr' hdl).1 h
        refine ⟨e::s,hs.cons_cons e,by simp,fun v hv=>?_⟩
        have h1:=hd v hv
        rw [hget v hv] at h1
        rw [deg,S_cons]
        have h2:S s (inc v)=left.getD v 0 - inc v e:=h1
        rw [h2];omega
      · obtain ⟨s,hs,rfl,hd⟩:=(mem_subs r _ _ g hr' hl).1 h
        exact ⟨s,hs.cons e,rfl,hd⟩
    · rintro ⟨s,hs,rfl,hd⟩
      rcases List.sublist_cons_iff.1 hs with hs2 | ⟨s',rfl,hs2⟩
      · exact .inr ((mem_subs r _ _ _ hr' hl).2 ⟨s,hs2,rfl,hd⟩)
      · refine .inl ?_
        have hd':∀ v,v < N→inc v e+deg s' v=left.getD v 0:=fun v hv=>by
          rw [← hd v hv,deg,deg,S_cons]
        have pos:∀ x:Int,0≤x→x < N→(e.1=x ∨ e.2=x)→0 < left.getD x.toNat 0:=fun x h0 h1 h2=>by
          have h3:=hd' x.toNat (by omega)
          have h4:0≤deg s' x.toNat:=S_nonneg fun y _=>inc_nonneg _ y
          have h5:1≤inc x.toNat e:=by
            simp only [inc,show ((x.toNat:Nat):Int)=x by omega]
            rcases h2 with h2 | h2
            · rw [if_pos h2];split <;> decide
            · rw [if_pos h2];split <;> decide
          omega
        rw [if_pos ⟨pos e.1 (by omega) (by omega) (.inl rfl),pos e.2 (by omega) (by omega) (.inr rfl)⟩]
        refine (mem_subs r _ _ _ hr' hdl).2 ⟨s',hs2,by simp,fun v hv=>?_⟩
        rw [hget v hv,← hd' v hv];omega
theorem ite_iff {α:Type} {p q:Prop} [Decidable p] [Decidable q] (h:p ↔ q) (a b:α):(if p then a else b)=if q then a else b:=by
  by_cases hp:p
  · rw [if_pos hp,if_pos (h.1 hp)]
  · rw [if_neg hp,if_neg fun hq=>hp (h.2 hq)]
def mk (u v:Nat):Int×Int:=(min (u:Int) v,max (u:Int) v)
theorem inc_mk_all:(List.range 8).all (fun n=>(prs n).all fun e=>(List.range n).all fun v=>decide (inc v e=S (List.range n) (fun u=>if u=v then 0 else if e=mk u v then 1 else 0)))=true:=by decide +kernel
theorem inc_mk {n:Nat} (hn:n≤7) {e:Int×Int} (he:e ∈ prs n) {v:Nat} (hv:v < n):inc v e=S (List.range n) (fun u=>if u=v then 0 else if e=mk u v then 1 else 0):=by
  have:=List.all_eq_true.1 (List.all_eq_true.1 (List.all_eq_true.1 inc_mk_all n (List.mem_range.2 (by omega))) e he) v (List.mem_range.2 hv)
  exact of_decide_eq_true this
theorem S_ite {α:Type} (l:List α) (p:α→Bool) (f:α→Int):S (l.filter p) f=S l (fun a=>if p a then f a else 0):=by
  induction l with
  | nil=>rfl
  | cons a l ih =>
    rw [List.filter_cons,S_cons]
    split <;> rename_i h
    · rw [S_cons,ih]
    · rw [ih];omega
theorem mk_mem {n u v:Nat} (hu:u < n) (hv:v < n) (h:u ≠ v):mk u v ∈ prs n:=mem_prs.2 (by simp only [mk];omega)
theorem deg_filter {n:Nat} (hn:n≤7) (p:Int×Int→Bool) {v:Nat} (hv:v < n):deg ((prs n).filter p) v=S (List.range n) (fun u=>if u=v then 0 else if p (mk u v) then 1 else 0):=by
  rw [deg,S_ite,S_congr (g:=fun e=>S (List.range n) (fun u=>if u=v then 0 else if e=mk u v then (if p (mk u v) then 1 else 0) else 0)) fun e he=>?_,S_swap]
  · refine S_congr fun u hu=>?_
    have hu:=List.mem_range.1 hu
    by_cases huv:u=v
    · simp only [huv,if_true];exact S_zero _
    · simp only [if_neg huv]
      have hm:=mk_mem hu hv huv
      have h1:=S_one (pw_nodup (prs_pw n)) (mk u v)
      rw [if_pos hm] at h1
      by_cases hp:p (mk u v)=true
      · simp only [hp,if_true]
        exact Eq.trans (S_congr fun e _=>ite_iff eq_comm _ _) h1
      · simp only [if_neg hp,ite_self];exact S_zero _
  · rw [inc_mk hn he hv]
    by_cases hp:p e=true
    · rw [if_pos hp]
      refine S_congr fun u _=>?_
      by_cases huv:u=v
      · simp [huv]
      · simp only [if_neg huv]
        by_cases hem:e=mk u v
        · rw [if_pos hem,if_pos hem,← hem,if_pos hp]
        · rw [if_neg hem,if_neg hem]
    · rw [if_neg hp]
      symm
      rw [S_congr (g:=fun _=>0),S_zero]
      intro u _
      by_cases huv:u=v
      · simp [huv]
      · simp only [if_neg huv]
        by_cases hem:e=mk u v
        · rw [if_pos hem,← hem,if_neg hp]
        · rw [if_neg hem]
theorem mk_comm (u v:Nat):mk u v=mk v u:=Prod.ext (by simp only [mk];omega) (by simp only [mk];omega)
end Go.Idl
namespace Go.Idl
theorem insE_pw {e:Int×Int}:∀ {es:List (Int×Int)},PW es→e ∉ es→PW (insE e es)
  | [],_,_=>by simp [insE,PW]
  | x::r,h,hn=>by
    have h':=List.pairwise_cons.1 h
    rw [insE]
    split
    · rename_i hx
      refine List.pairwise_cons.2 ⟨fun y hy=>?_,insE_pw h'.2 fun hm=>hn (by simp [hm])⟩
      rcases (insE_mem _ _ _).1 hy with rfl | hy
      · exact hx
      · exact h'.1 y hy
    · rename_i hx
      have hxe:below e x=true:=by
        rcases below_total (a:=e) (b:=x) (fun h=>hn (by simp [h])) with q | q
        · exact q
        · exact absurd q hx
      refine List.pairwise_cons.2 ⟨fun y hy=>?_,h⟩
      rcases List.mem_cons.1 hy with rfl | hy
      · exact hxe
      · exact below_trans hxe (h'.1 y hy)
end Go.Idl
namespace Go.Idl
theorem mem_idxB {n:Nat} {x:Int}:x ∈ idxB n (-1) ↔ 0≤x∧x < n:=by
  rw [idxB_all,List.mem_map]
  constructor
  · rintro ⟨v,hv,rfl⟩;have:=List.mem_range.1 hv;omega
  · intro h;exact ⟨x.toNat,List.mem_range.2 (by omega),by omega⟩
end Go.Idl
namespace Go.Idl
theorem mem_sw {es:List (Int×Int)} {a b c d:Int} {e:Int×Int}:e ∈ sw es a b c d ↔ (e ∈ es∧e ≠ (min a b,max a b)∧e ≠ (min c d,max c d)) ∨ e=(min a c,max a c) ∨ e=(min b d,max b d):=by
  rw [sw,(srtE_perm _).mem_iff,swX,List.mem_append,List.mem_filter]
  simp only [gone,Bool.not_eq_true',Bool.or_eq_false_iff,decide_eq_false_iff_not,List.mem_cons,List.not_mem_nil,or_false,ne_eq]
theorem has_hasM {n:Nat} {es:List (Int×Int)} (h:∀ e ∈ es,e ∈ prs n) (a b:Int):has es a b=hasM es a b:=by
  rw [Bool.eq_iff_iff,hasM_iff,has,List.any_eq_true]
  constructor
  · rintro ⟨e,he,hi⟩
    have hp:=mem_prs.1 (h e he)
    simp only [isE,Bool.or_eq_true,Bool.and_eq_true,decide_eq_true_eq] at hi
    have h2:e=(min a b,max a b):=Prod.ext (by simp only;omega) (by simp only;omega)
    rw [← h2];exact he
  · intro hm
    refine ⟨_,hm,?_⟩
    simp only [isE,Bool.or_eq_true,Bool.and_eq_true,decide_eq_true_eq]
    omega
theorem may_eq {n:Nat} {es:List (Int×Int)} (h:vGraph n es=true) (a b c d:Int):mayS es a b c d=mayI es a b c d:=by
  have hin:=(vG_iff.1 h).2.1
  rw [Bool.eq_iff_iff,mayI_iff]
  simp only [mayS,has_hasM hin,Bool.and_eq_true,decide_eq_true_eq,Bool.not_eq_true',hasM_iff,hasM_no,and_assoc]
  constructor
  · rintro ⟨h1,h2,h3,h4,m1,m2,m3,m4⟩
    have p1:=mem_prs.1 (hin _ m1)
    have p2:=mem_prs.1 (hin _ m2)
    simp only at p1 p2
    exact ⟨by omega,h1,h3,fun h=>h4 h,h2,by omega,m1,m2,m3,m4⟩
  · rintro ⟨h1,h2,h3,h4,h5,h6,m1,m2,m3,m4⟩
    exact ⟨h2,h5,h3,h4,m1,m2,m3,m4⟩
theorem four_ne {a b c d:Int} (h:a ≠ b∧a ≠ c∧a ≠ d∧b ≠ c∧b ≠ d∧c ≠ d) :
    ((min a b,max a b):Int×Int) ≠ (min c d,max c d)∧((min a b,max a b):Int×Int) ≠ (min a c,max a c)∧((min a b,max a b):Int×Int) ≠ (min b d,max b d) ∧
    ((min c d,max c d):Int×Int) ≠ (min a c,max a c)∧((min c d,max c d):Int×Int) ≠ (min b d,max b d)∧((min a c,max a c):Int×Int) ≠ (min b d,max b d):=by
  simp only [ne_eq,Prod.mk.injEq]
  omega
theorem sw_eq {n:Nat} {es:List (Int×Int)} {a b c d:Int} (h:vGraph n es=true) (hm:mayI es a b c d=true):swS es a b c d=sw es a b c d:=by
  obtain ⟨h1,h2,h3⟩:=vG_iff.1 h
  obtain ⟨hd,m1,m2,m3,m4⟩:=mayI_iff.1 hm
  have f4:=four_ne hd
  have hs1:PW (dropE c d (dropE a b es)):=(h1.filter _).filter _
  have hs2:∀ e,e ∈ dropE c d (dropE a b es) ↔ e ∈ es∧e ≠ (min a b,max a b)∧e ≠ (min c d,max c d):=fun e=>by
    simp only [dropE,List.mem_filter,dropP,Bool.not_eq_true',Bool.and_eq_false_imp,decide_eq_true_eq,decide_eq_false_iff_not,and_assoc,ne_eq,Prod.ext_iff,not_and]
  have n1:((min a c,max a c):Int×Int) ∉ dropE c d (dropE a b es):=fun hh=>m3 ((hs2 _).1 hh).1
  have n2:((min b d,max b d):Int×Int) ∉ insE (min a c,max a c) (dropE c d (dropE a b es)):=fun hh=>by
    rcases (insE_mem _ _ _).1 hh with hh | hh
    · exact f4.2.2.2.2.2 hh.symm
    · exact m4 ((hs2 _).1 hh).1
  refine pw_ext (insE_pw (insE_pw hs1 n1) n2) (srtE_pw (swX_ok h hm).1) fun e=>?_
  show e ∈ insE _ _ ↔ e ∈ sw es a b c d
  rw [insE_mem,insE_mem,hs2,mem_sw]
  constructor
  · rintro (h | h | h)
    · exact .inr (.inr h)
    · exact .inr (.inl h)
    · exact .inl h
  · rintro (h | h | h)
    · exact .inr (.inr h)
    · exact .inr (.inl h)
    · exact .inl h
theorem inc_mm (v:Nat) (a c:Int):inc v (min a c,max a c)=(if a=v then 1 else 0)+(if c=v then 1 else 0):=by
  rcases Int.le_total a c with h | h
  · rw [inc,Int.min_eq_left h,Int.max_eq_right h]
  · rw [inc,Int.min_eq_right h,Int.max_eq_left h,Int.add_comm]
theorem sw_deg {n:Nat} {es:List (Int×Int)} {a b c d:Int} (h:vGraph n es=true) (hm:mayI es a b c d=true) (v:Nat):deg (sw es a b c d) v=deg es v:=by
  obtain ⟨h1,h2,h3⟩:=vG_iff.1 h
  obtain ⟨hd,m1,m2,m3,m4⟩:=mayI_iff.1 hm
  have f4:=four_ne hd
  have hp:(es.filter (gone a b c d)).Perm [(min a b,max a b),(min c d,max c d)]:=by
    refine (List.perm_ext_iff_of_nodup ((pw_nodup h1).filter _) (by simpa using f4.1)).2 fun e=>?_
    simp only [List.mem_filter,gone,Bool.or_eq_true,decide_eq_true_eq,List.mem_cons,List.not_mem_nil,or_false]
    constructor
    · exact fun h=>h.2
    · rintro (rfl | rfl)
      · exact ⟨m1,.inl rfl⟩
      · exact ⟨m2,.inr rfl⟩
  have e1:=S_filter es (gone a b c d) (inc v)
  have e2:=S_perm hp (inc v)
  have e3:=S_perm (srtE_perm (swX es a b c d)) (inc v)
  rw [deg,deg,sw,e3,swX,S_app,← e1,e2]
  simp only [S,List.map_cons,List.map_nil,List.sum_cons,List.sum_nil,inc_mm]
  omega
theorem sw_degs {n:Nat} {es:List (Int×Int)} {a b c d:Int} (h:vGraph n es=true) (hm:mayI es a b c d=true):degs n (sw es a b c d)=degs n es:=by
  have i1:EdgesIn n es:=fun e he=>by have:=mem_prs.1 ((vG_iff.1 h).2.1 e he);omega
  have i2:EdgesIn n (sw es a b c d):=fun e he=>by have:=mem_prs.1 ((vG_iff.1 (swX_ok h hm).2.2.1).2.1 e he);omega
  rw [degs_eq i1,degs_eq i2]
  exact List.map_congr_left fun v _=>sw_deg h hm v
theorem sw_back {n:Nat} {es:List (Int×Int)} {a b c d:Int} (h:vGraph n es=true) (hm:mayI es a b c d=true) :
    mayI (sw es a b c d) a c b d=true∧sw (sw es a b c d) a c b d=es:=by
  obtain ⟨h1,h2,h3⟩:=vG_iff.1 h
  obtain ⟨hd,m1,m2,m3,m4⟩:=mayI_iff.1 hm
  have f4:=four_ne hd
  have hm':mayI (sw es a b c d) a c b d=true:=by
    refine mayI_iff.2 ⟨by omega,mem_sw.2 (.inr (.inl rfl)),mem_sw.2 (.inr (.inr rfl)),fun hh=>?_,fun hh=>?_⟩
    · rcases mem_sw.1 hh with hh | hh | hh
      · exact hh.2.1 rfl
      · exact f4.2.1 hh
      · exact f4.2.2.1 hh
    · rcases mem_sw.1 hh with hh | hh | hh
      · exact hh.2.2 rfl
      · exact f4.2.2.2.1 hh
      · exact f4.2.2.2.2.1 hh
  refine ⟨hm',pw_ext (srtE_pw (swX_ok (swX_ok h hm).2.2.1 hm').1) h1 fun e=>?_⟩
  show e ∈ sw (sw es a b c d) a c b d ↔ _
  rw [mem_sw,mem_sw]
  constructor
  · rintro (⟨(h | h),k1,k2⟩ | h | h)
    · exact h.1
    · rcases h with h | h
      · exact absurd h k1
      · exact absurd h k2
    · rw [h];exact m1
    · rw [h];exact m2
  · intro he
    by_cases k1:e=(min a b,max a b)
    · exact .inr (.inl k1)
    by_cases k2:e=(min c d,max c d)
    · exact .inr (.inr k2)
    exact .inl ⟨.inl ⟨he,k1,k2⟩,fun h=>m3 (h ▸ he),fun h=>m4 (h ▸ he)⟩
theorem sw_diffs {n:Nat} {es:List (Int×Int)} {a b c d:Int} (h:vGraph n es=true) (hm:mayI es a b c d=true):diffN es (sw es a b c d) (prs n)=4:=by
  obtain ⟨h1,h2,h3⟩:=vG_iff.1 h
  obtain ⟨hd,m1,m2,m3,m4⟩:=mayI_iff.1 hm
  have f4:=four_ne hd
  have h2':=(vG_iff.1 (swX_ok h hm).2.2.1).2.1
  have hp:((prs n).filter (diffP es (sw es a b c d))).Perm [(min a b,max a b),(min c d,max c d),(min a c,max a c),(min b d,max b d)]:=by
    refine (List.perm_ext_iff_of_nodup ((pw_nodup (prs_pw n)).filter _) ?_).2 fun e=>?_
    · simp only [List.nodup_cons,List.mem_cons,List.not_mem_nil,or_false,not_or,not_false_eq_true,List.nodup_nil,and_true]
      exact ⟨⟨f4.1,f4.2.1,f4.2.2.1⟩,⟨f4.2.2.2.1,f4.2.2.2.2.1⟩,f4.2.2.2.2.2⟩
    · rw [List.mem_filter]
      simp only [List.mem_cons,List.not_mem_nil,or_false]
      constructor
      · rintro ⟨he,hx⟩
        rw [diffP,hasM_mem he,hasM_mem he] at hx
        by_cases k1:e ∈ es
        · have k2:e ∉ sw es a b c d:=fun k2=>by simp [k1,k2] at hx
          by_cases q1:e=(min a b,max a b)
          · exact .inl q1
          by_cases q2:e=(min c d,max c d)
          · exact .inr (.inl q2)
          exact absurd (mem_sw.2 (.inl ⟨k1,q1,q2⟩)) k2
        · have k2:e ∈ sw es a b c d:=by
            by_cases k2:e ∈ sw es a b c d
            · exact k2
            · simp [k1,k2] at hx
          rcases mem_sw.1 k2 with h | h | h
          · exact absurd h.1 k1
          · exact .inr (.inr (.inl h))
          · exact .inr (.inr (.inr h))
      · have key:∀ e,e ∈ prs n→(e ∈ es∧e ∉ sw es a b c d) ∨ (e ∉ es∧e ∈ sw es a b c d)→e ∈ prs n∧diffP es (sw es a b c d) e=true:=fun e he hh=>by
          refine ⟨he,?_⟩
          rw [diffP,hasM_mem he,hasM_mem he]
          rcases hh with ⟨h1,h2⟩ | ⟨h1,h2⟩ <;> simp [h1,h2]
        have no1:((min a b,max a b):Int×Int) ∉ sw es a b c d:=fun hh=>by
          rcases mem_sw.1 hh with hh | hh | hh
          · exact hh.2.1 rfl
          · exact f4.2.1 hh
          · exact f4.2.2.1 hh
        have no2:((min c d,max c d):Int×Int) ∉ sw es a b c d:=fun hh=>by
          rcases mem_sw.1 hh with hh | hh | hh
          · exact hh.2.2 rfl
          · exact f4.2.2.2.1 hh
          · exact f4.2.2.2.2.1 hh
        have y3:((min a c,max a c):Int×Int) ∈ sw es a b c d:=mem_sw.2 (.inr (.inl rfl))
        have y4:((min b d,max b d):Int×Int) ∈ sw es a b c d:=mem_sw.2 (.inr (.inr rfl))
        rintro (rfl | rfl | rfl | rfl)
        · exact key _ (h2 _ m1) (.inl ⟨m1,no1⟩)
        · exact key _ (h2 _ m2) (.inl ⟨m2,no2⟩)
        · exact key _ (h2' _ y3) (.inr ⟨m3,y3⟩)
        · exact key _ (h2' _ y4) (.inr ⟨m4,y4⟩)
  rw [diffN,hp.length_eq]
  rfl
theorem swLaw:∀ (n:Nat) es a b c d,vGraph n es=true→SwLaw n es a b c d:=fun _ es a b c d h =>
  ⟨may_eq h a b c d,sw_eq h,sw_degs h,sw_back h,sw_diffs h⟩
end Go.Idl
namespace Go.Idl
open Go
def nl4:List Q4→IV
  | []=>Z
  | x::r=>O4 (x::r)
theorem nl4_app (acc:List Q4) (x:Q4):nl4 (acc++[x])=O4 (acc++[x]):=by cases acc <;> rfl
abbrev mayQ (es:List (Int×Int)) (s:Q4):Bool:=mayI es s.1 s.2.1 s.2.2.1 s.2.2.2
set_option maxHeartbeats 4000000 in
theorem gs_in (n:Nat) (es:List (Int×Int)) (c:Bool) (hv:vGraph n es=true) (kb N i k:Nat) (zs:List (Int×Int)) (c2:Bool) (qs:List Q4) (hq:qs.length≤100):∀ (m j:Nat) (acc:List Q4) (B:Boxes),j+m=qs.length→acc.length+m≤4000000 →
    wp tb (.loop z173l15) { T:=[(1,.bptr 0 0 0),(3,nl4 acc),(5,.bptr 0 kb 0),(13,L2 es c),(14,I N),(15,I i),(24,L2 zs c2),(25,I zs.length),(26,I k),(48,O4 qs),(49,I qs.length),(50,I j)],loc:=[I n,L2 es c]::B,M:=[] }
      (fun ex st=>ex=.exit 4∧∃ D,st={ T:=[(1,.bptr 0 0 0),(3,nl4 (acc++(qs.drop j).filter (mayQ es))),(5,.bptr 0 kb 0),(13,L2 es c),(14,I N),(15,I i),(24,L2 zs c2),(25,I zs.length),(26,I k),(48,O4 qs),(49,I qs.length),(50,I qs.length),(51,Bo false)],loc:=[I n,L2 es c]::(B++D),M:=[] }):=by
  intro m
  induction m with
  | zero =>
    intro j acc B hj ha
    have h3:j=qs.length:=hj
    subst h3
    rw [List.drop_length,List.filter_nil,List.append_nil]
    cases acc with
    | nil =>
      simp only [nl4]
      refine wp_loop ?_
      repeat (first|apply wp_as|apply wp_ss|refine wr (by simp;with_reducible rfl) ?_|refine wq (by simp;with_reducible rfl) ?_|refine wt (by simpa) ?_|refine wf (by simpa) ?_|refine xt (by simpa) ?_|refine xf (by simpa) ?_|apply wp_bs|apply wp_b|refine wp_sr ?_|refine wp_sx ?_|refine wp_ret' ?_|refine wp_skip' ?_|refine wp_exit' ?_)
      exact ⟨rfl,[],by simp⟩
    | cons s r =>
      simp only [nl4]
      refine wp_loop ?_
      repeat (first|apply wp_as|apply wp_ss|refine wr (by simp;with_reducible rfl) ?_|refine wq (by simp;with_reducible rfl) ?_|refine wt (by simpa) ?_|refine wf (by simpa) ?_|refine xt (by simpa) ?_|refine xf (by simpa) ?_|apply wp_bs|apply wp_b|refine wp_sr ?_|refine wp_sx ?_|refine wp_ret' ?_|refine wp_skip' ?_|refine wp_exit' ?_)
      exact ⟨rfl,[],by simp⟩
  | succ m ih =>
    intro j acc B hj ha
    have hj2:j < qs.length:=by omega
    have hd:qs.drop j=qs[j]::qs.drop (j+1):=List.drop_eq_getElem_cons hj2
    obtain ⟨⟨a,b,x,y⟩,hx⟩:∃ s,s=qs[j]:=⟨_,rfl⟩
    have hx2:=hx.symm
    have w1:IntKind.i64.wrap ((j:Int)+1)=((j+1:Nat):Int):=wrapS (by omega)
    have e1:=fun cc=>ev_lim (ev_change n es cc a b x y hv)
    have hl1:acc.length+1≤274877906944:=by omega
    rw [hd,← hx,List.filter_cons]
    cases hm:mayI es a b x y with
    | false =>
      simp only [OS,hm,Bool.false_eq_true,if_false] at e1
      simp only [mayQ,hm,Bool.false_eq_true,if_false]
      have hn:=fun q=>ih (j+1) acc (B++q) (by omega) (by omega)
      have fin:∀ q:Boxes,wp tb (.loop z173l15) { T:=[(1,.bptr 0 0 0),(3,nl4 acc),(5,.bptr 0 kb 0),(13,L2 es c),(14,I N),(15,I i),(24,L2 zs c2),(25,I zs.length),(26,I k),(48,O4 qs),(49,I qs.length),(50,I (j+1:Nat))],loc:=[I n,L2 es c]::(B++q),M:=[] }
        (fun ex st=>ex=.exit 4∧∃ D,st={ T:=[(1,.bptr 0 0 0),(3,nl4 (acc++(qs.drop (j+1)).filter (mayQ es))),(5,.bptr 0 kb 0),(13,L2 es c),(14,I N),(15,I i),(24,L2 zs c2),(25,I zs.length),(26,I k),(48,O4 qs),(49,I qs.length),(50,I qs.length),(51,Bo false)],loc:=[I n,L2 es c]::(B++D),M:=[] }):=fun q=>by
        refine wp_imp (hn q) ?_
        rintro ex st ⟨rfl,D,rfl⟩
        exact ⟨rfl,q++D,by simp⟩
      cases acc with
      | nil =>
        simp only [nl4] at fin ⊢
        refine wp_loop ?_
        repeat (first|apply wp_as|apply wp_ss|refine wr (by simp [hj2,hx2,w1,e1];with_reducible rfl) ?_|refine wq (by simp [hj2,hx2,w1,e1];with_reducible rfl) ?_|refine wt (by simpa [hj2,hx2,w1,e1]) ?_|refine wf (by simpa [hj2,hx2,w1,e1]) ?_|refine xt (by simpa [hj2,hx2,w1,e1]) ?_|refine xf (by simpa [hj2,hx2,w1,e1]) ?_|apply wp_bs|apply wp_b|refine wp_sr ?_|refine wp_sx ?_|refine wp_ret' ?_|refine wp_skip' ?_|refine wp_exit' ?_)
        exact fin _
      | cons s r =>
        simp only [nl4] at fin ⊢
        refine wp_loop ?_
        repeat (first|apply wp_as|apply wp_ss|refine wr (by simp [hj2,hx2,w1,e1];with_reducible rfl) ?_|refine wq (by simp [hj2,hx2,w1,e1];with_reducible rfl) ?_|refine wt (by simpa [hj2,hx2,w1,e1]) ?_|refine wf (by simpa [hj2,hx2,w1,e1]) ?_|refine xt (by simpa [hj2,hx2,w1,e1]) ?_|refine xf (by simpa [hj2,hx2,w1,e1]) ?_|apply wp_bs|apply wp_b|refine wp_sr ?_|refine wp_sx ?_|refine wp_ret' ?_|refine wp_skip' ?_|refine wp_exit' ?_)
        exact fin _
    | true =>
      simp only [OS,hm,if_true] at e1
      simp only [mayQ,hm,if_true]
      generalize sw es a b x y=R at *
      have hn:=fun q=>ih (j+1) (acc++[(a,b,x,y)]) (B++q) (by omega) (by simp;omega)
      have fin:∀ q:Boxes,wp tb (.loop z173l15) { T:=[(1,.bptr 0 0 0),(3,O4 (acc++[(a,b,x,y)])),(5,.bptr 0 kb 0),(13,L2 es c),(14,I N),(15,I i),(24,L2 zs c2),(25,I zs.length),(26,I k),(48,O4 qs),(49,I qs.length),(50,I (j+1:Nat))],loc:=[I n,L2 es c]::(B++q),M:=[] }
        (fun ex st=>ex=.exit 4∧∃ D,st={ T:=[(1,.bptr 0 0 0),(3,nl4 (acc++(a,b,x,y)::(qs.drop (j+1)).filter (mayQ es))),(5,.bptr 0 kb 0),(13,L2 es c),(14,I N),(15,I i),(24,L2 zs c2),(25,I zs.length),(26,I k),(48,O4 qs),(49,I qs.length),(50,I qs.length),(51,Bo false)],loc:=[I n,L2 es c]::(B++D),M:=[] }):=fun q=>by
        have hn:=hn q
        rw [nl4_app] at hn
        refine wp_imp hn ?_
        rintro ex st ⟨rfl,D,rfl⟩
        exact ⟨rfl,q++D,by simp⟩
      cases acc with
      | nil =>
        simp only [nl4] at fin ⊢
        refine wp_loop ?_
        repeat (first|apply wp_as|apply wp_ss|refine wr (by simp [hj2,hx2,w1,e1];with_reducible rfl) ?_|refine wq (by simp [hj2,hx2,w1,e1];with_reducible rfl) ?_|refine wt (by simpa [hj2,hx2,w1,e1]) ?_|refine wf (by simpa [hj2,hx2,w1,e1]) ?_|refine xt (by simpa [hj2,hx2,w1,e1]) ?_|refine xf (by simpa [hj2,hx2,w1,e1]) ?_|apply wp_bs|apply wp_b|refine wp_sr ?_|refine wp_sx ?_|refine wp_ret' ?_|refine wp_skip' ?_|refine wp_exit' ?_)
        exact fin _
      | cons s r =>
        have hT2:List.take (s::r).length (s::r)=s::r:=List.take_of_length_le (Nat.le_refl _)
        simp only [List.length_cons] at hl1 hT2
        generalize hacc:s::r=acc at *
        have hlen:r.length+1=acc.length:=by rw [← hacc];rfl
        rw [hlen] at hl1 hT2
        have hnl:nl4 acc=O4 acc:=by rw [← hacc];rfl
        rw [hnl] at *
        refine wp_loop ?_
        repeat (first|apply wp_as|apply wp_ss|refine wr (by simp [hj2,hx2,w1,e1,hl1,hT2];with_reducible rfl) ?_|refine wq (by simp [hj2,hx2,w1,e1,hl1,hT2];with_reducible rfl) ?_|refine wt (by simpa [hj2,hx2,w1,e1,hl1,hT2]) ?_|refine wf (by simpa [hj2,hx2,w1,e1,hl1,hT2]) ?_|refine xt (by simpa [hj2,hx2,w1,e1,hl1,hT2]) ?_|refine xf (by simpa [hj2,hx2,w1,e1,hl1,hT2]) ?_|apply wp_bs|apply wp_b|refine wp_sr ?_|refine wp_sx ?_|refine wp_ret' ?_|refine wp_skip' ?_|refine wp_exit' ?_)
        exact fin _
set_option maxHeartbeats 4000000 in
theorem gs_mid (n:Nat) (es:List (Int×Int)) (c:Bool) (hv:vGraph n es=true) (kb N i:Nat) (e:Int×Int) (zs:List (Int×Int)) (c2:Bool) (hz:zs.length≤100):∀ (m k:Nat) (acc:List Q4) (B:Boxes),k+m=zs.length→acc.length+2 * m≤3000000→B[kb]? = some [I e.1,I e.2] →
    wp tb (.loop z173l17) { T:=[(1,.bptr 0 0 0),(3,nl4 acc),(5,.bptr 0 (kb+1) 0),(13,L2 es c),(14,I N),(15,I i),(24,L2 zs c2),(25,I zs.length),(26,I k)],loc:=[I n,L2 es c]::B,M:=[] }
      (fun ex st=>ex=.exit 2∧∃ D,st={ T:=[(1,.bptr 0 0 0),(3,nl4 (acc++(zs.drop k).flatMap fun f=>[(e.1,e.2,f.1,f.2),(e.1,e.2,f.2,f.1)].filter (mayQ es))),(5,.bptr 0 (kb+1) 0),(13,L2 es c),(14,I N),(15,I i),(24,L2 zs c2),(25,I zs.length),(26,I zs.length),(27,Bo false)],loc:=[I n,L2 es c]::(B++D),M:=[] }):=by
  intro m
  induction m with
  | zero =>
    intro k acc B hk ha hB
    have h3:k=zs.length:=hk
    subst h3
    rw [List.drop_length,List.flatMap_nil,List.append_nil]
    cases acc with
    | nil =>
      simp only [nl4]
      refine wp_loop ?_
      repeat (first|apply wp_as|apply wp_ss|refine wr (by simp;with_reducible rfl) ?_|refine wq (by simp;with_reducible rfl) ?_|refine wt (by simpa) ?_|refine wf (by simpa) ?_|refine xt (by simpa) ?_|refine xf (by simpa) ?_|apply wp_bs|apply wp_b|refine wp_sr ?_|refine wp_sx ?_|refine wp_ret' ?_|refine wp_skip' ?_|refine wp_exit' ?_)
      exact ⟨rfl,[],by simp⟩
    | cons s r =>
      simp only [nl4]
      refine wp_loop ?_
      repeat (first|apply wp_as|apply wp_ss|refine wr (by simp;with_reducible rfl) ?_|refine wq (by simp;with_reducible rfl) ?_|refine wt (by simpa) ?_|refine wf (by simpa) ?_|refine xt (by simpa) ?_|refine xf (by simpa) ?_|apply wp_bs|apply wp_b|refine wp_sr ?_|refine wp_sx ?_|refine wp_ret' ?_|refine wp_skip' ?_|refine wp_exit' ?_)
      exact ⟨rfl,[],by simp⟩
  | succ m ih =>
    intro k acc B hk ha hB
    have hk2:k < zs.length:=by omega
    have hd:zs.drop k=zs[k]::zs.drop (k+1):=List.drop_eq_getElem_cons hk2
    obtain ⟨⟨x,y⟩,hx⟩:∃ s,s=zs[k]:=⟨_,rfl⟩
    have hx2:=hx.symm
    obtain ⟨a,b⟩:=e
    have w1:IntKind.i64.wrap ((k:Int)+1)=((k+1:Nat):Int):=wrapS (by omega)
    have hkB:kb < B.length:=(List.getElem?_eq_some_iff.1 hB).1
    have hB2:∀ q,(B++q)[kb]? = some [I a,I b]:=fun q=>by rw [List.getElem?_append_left hkB,hB]
    have hF:([(a,b,x,y),(a,b,y,x)].filter (mayQ es)).length≤2:=List.length_filter_le _ _
    have inner:=fun q=>gs_in n es c hv (kb+1) N i k zs c2 [(a,b,x,y),(a,b,y,x)] (by simp) 2 0 acc (B++q) rfl (by omega)
    rw [hd,← hx,List.flatMap_cons]
    simp only [List.drop_zero] at inner
    have hn:=fun D=>ih (k+1) (acc++[(a,b,x,y),(a,b,y,x)].filter (mayQ es)) (B++D) (by omega) (by rw [List.length_append];omega) (hB2 D)
    generalize [(a,b,x,y),(a,b,y,x)].filter (mayQ es)=F at *
    have fin:∀ D:Boxes,wp tb (.loop z173l17) { T:=[(1,.bptr 0 0 0),(3,nl4 (acc++F)),(5,.bptr 0 (kb+1) 0),(13,L2 es c),(14,I N),(15,I i),(24,L2 zs c2),(25,I zs.length),(26,I (k+1:Nat))],loc:=[I n,L2 es c]::(B++D),M:=[] }
      (fun ex st=>ex=.exit 2∧∃ D,st={ T:=[(1,.bptr 0 0 0),(3,nl4 (acc++(F++(zs.drop (k+1)).flatMap fun f=>[(a,b,f.1,f.2),(a,b,f.2,f.1)].filter (mayQ es)))),(5,.bptr 0 (kb+1) 0),(13,L2 es c),(14,I N),(15,I i),(24,L2 zs c2),(25,I zs.length),(26,I zs.length),(27,Bo false)],loc:=[I n,L2 es c]::(B++D),M:=[] }):=fun D=>by
      refine wp_imp (hn D) ?_
      rintro ex st ⟨rfl,D',rfl⟩
      exact ⟨rfl,D++D',by simp⟩
    simp only [O4,sws,List.map_cons,List.map_nil,List.length_cons,List.length_nil,Nat.zero_add,Nat.reduceAdd,show ((2:Nat):Int)=2 from rfl,show ((0:Nat):Int)=0 from rfl] at inner
    have back:∀ G:List Q4,nl4 G=Z∧G=[] ∨ nl4 G=O4 G:=fun G=>by cases G <;> simp [nl4]
    rcases back acc with ⟨hb,-⟩ | hb
    · rw [hb] at inner ⊢
      refine wp_loop ?_
      repeat (first|apply wp_as|apply wp_ss|refine wr (by simp [hk2,hx2,hB,hB2];with_reducible rfl) ?_|refine wq (by simp [hk2,hx2,hB,hB2];with_reducible rfl) ?_|refine wt (by simpa [hk2,hx2,hB,hB2]) ?_|refine wf (by simpa [hk2,hx2,hB,hB2]) ?_|refine xt (by simpa [hk2,hx2,hB,hB2]) ?_|refine xf (by simpa [hk2,hx2,hB,hB2]) ?_|apply wp_bs|apply wp_b|refine wp_sr ?_|refine wp_sx ?_|refine wp_ret' ?_|refine wp_skip' ?_|refine wp_exit' ?_)
      refine wp_imp (inner _) ?_
      rintro ex st ⟨rfl,D,rfl⟩
      simp only [if_true]
      rw [List.append_assoc]
      rcases back (acc++F) with ⟨h,-⟩ | h
      · rw [h] at fin ⊢
        repeat (first|apply wp_as|apply wp_ss|refine wr (by simp [w1];with_reducible rfl) ?_|refine wq (by simp [w1];with_reducible rfl) ?_|refine wt (by simpa [w1]) ?_|refine wf (by simpa [w1]) ?_|refine xt (by simpa [w1]) ?_|refine xf (by simpa [w1]) ?_|apply wp_bs|apply wp_b|refine wp_sr ?_|refine wp_sx ?_|refine wp_ret' ?_|refine wp_skip' ?_|refine wp_exit' ?_)
        exact fin _
      · rw [h] at fin ⊢
        repeat (first|apply wp_as|apply wp_ss|refine wr (by simp [w1];with_reducible rfl) ?_|refine wq (by simp [w1];with_reducible rfl) ?_|refine wt (by simpa [w1]) ?_|refine wf (by simpa [w1]) ?_|refine xt (by simpa [w1]) ?_|refine xf (by simpa [w1]) ?_|apply wp_bs|apply wp_b|refine wp_sr ?_|refine wp_sx ?_|refine wp_ret' ?_|refine wp_skip' ?_|refine wp_exit' ?_)
        exact fin _
    · rw [hb] at inner ⊢
      refine wp_loop ?_
      repeat (first|apply wp_as|apply wp_ss|refine wr (by simp [hk2,hx2,hB,hB2];with_reducible rfl) ?_|refine wq (by simp [hk2,hx2,hB,hB2];with_reducible rfl) ?_|refine wt (by simpa [hk2,hx2,hB,hB2]) ?_|refine wf (by simpa [hk2,hx2,hB,hB2]) ?_|refine xt (by simpa [hk2,hx2,hB,hB2]) ?_|refine xf (by simpa [hk2,hx2,hB,hB2]) ?_|apply wp_bs|apply wp_b|refine wp_sr ?_|refine wp_sx ?_|refine wp_ret' ?_|refine wp_skip' ?_|refine wp_exit' ?_)
      refine wp_imp (inner _) ?_
      rintro ex st ⟨rfl,D,rfl⟩
      simp only [if_true]
      rw [List.append_assoc]
      rcases back (acc++F) with ⟨h,-⟩ | h
      · rw [h] at fin ⊢
        repeat (first|apply wp_as|apply wp_ss|refine wr (by simp [w1];with_reducible rfl) ?_|refine wq (by simp [w1];with_reducible rfl) ?_|refine wt (by simpa [w1]) ?_|refine wf (by simpa [w1]) ?_|refine xt (by simpa [w1]) ?_|refine xf (by simpa [w1]) ?_|apply wp_bs|apply wp_b|refine wp_sr ?_|refine wp_sx ?_|refine wp_ret' ?_|refine wp_skip' ?_|refine wp_exit' ?_)
        exact fin _
      · rw [h] at fin ⊢
        repeat (first|apply wp_as|apply wp_ss|refine wr (by simp [w1];with_reducible rfl) ?_|refine wq (by simp [w1];with_reducible rfl) ?_|refine wt (by simpa [w1]) ?_|refine wf (by simpa [w1]) ?_|refine xt (by simpa [w1]) ?_|refine xf (by simpa [w1]) ?_|apply wp_bs|apply wp_b|refine wp_sr ?_|refine wp_sx ?_|refine wp_ret' ?_|refine wp_skip' ?_|refine wp_exit' ?_)
        exact fin _
theorem row2_mayQ {n:Nat} {es:List (Int×Int)} (hv:vGraph n es=true) (e f:Int×Int):[(e.1,e.2,f.1,f.2),(e.1,e.2,f.2,f.1)].filter (mayQ es)=row2 es e f:=by
  simp only [row2,may_eq hv,List.filter_cons,List.filter_nil,mayQ]
  split <;> split <;> simp_all
theorem flat_row {n:Nat} {es:List (Int×Int)} (hv:vGraph n es=true) (e:Int×Int) (zs:List (Int×Int)):(zs.flatMap fun f=>[(e.1,e.2,f.1,f.2),(e.1,e.2,f.2,f.1)].filter (mayQ es))=zs.flatMap (row2 es e):=by
  congr 1
  funext f
  exact row2_mayQ hv e f
set_option maxHeartbeats 4000000 in
theorem gs_out (n:Nat) (es:List (Int×Int)) (c:Bool) (hv:vGraph n es=true):∀ (m i:Nat) (acc:List Q4) (B:Boxes),i+m=es.length→acc.length+200 * m≤2000000 →
    wp tb (.loop z173l19) { T:=[(1,.bptr 0 0 0),(3,nl4 acc),(13,L2 es c),(14,I es.length),(15,I i)],loc:=[I n,L2 es c]::B,M:=[] }
      (fun ex st=>ex=.exit 0∧∃ D,st={ T:=[(1,.bptr 0 0 0),(3,nl4 (acc++swl es (es.drop i))),(13,L2 es c),(14,I es.length),(15,I es.length),(16,Bo false)],loc:=[I n,L2 es c]::D,M:=[] }):=by
  have hn7:=(vG_iff.1 hv).2.2
  have h21:=vG21 hn7 hv
  have back:∀ G:List Q4,nl4 G=Z∧G=[] ∨ nl4 G=O4 G:=fun G=>by cases G <;> simp [nl4]
  intro m
  induction m with
  | zero =>
    intro i acc B hi ha
    have h3:i=es.length:=hi
    subst h3
    rw [List.drop_length,swl,List.append_nil]
    rcases back acc with ⟨h,-⟩ | h
    · rw [h]
      refine wp_loop ?_
      repeat (first|apply wp_as|apply wp_ss|refine wr (by simp;with_reducible rfl) ?_|refine wq (by simp;with_reducible rfl) ?_|refine wt (by simpa) ?_|refine wf (by simpa) ?_|refine xt (by simpa) ?_|refine xf (by simpa) ?_|apply wp_bs|apply wp_b|refine wp_sr ?_|refine wp_sx ?_|refine wp_ret' ?_|refine wp_skip' ?_|refine wp_exit' ?_)
      exact ⟨rfl,_,rfl⟩
    · rw [h]
      refine wp_loop ?_
      repeat (first|apply wp_as|apply wp_ss|refine wr (by simp;with_reducible rfl) ?_|refine wq (by simp;with_reducible rfl) ?_|refine wt (by simpa) ?_|refine wf (by simpa) ?_|refine xt (by simpa) ?_|refine xf (by simpa) ?_|apply wp_bs|apply wp_b|refine wp_sr ?_|refine wp_sx ?_|refine wp_ret' ?_|refine wp_skip' ?_|refine wp_exit' ?_)
      exact ⟨rfl,_,rfl⟩
  | succ m ih =>
    intro i acc B hi ha
    have hi2:i < es.length:=by omega
    have hd:es.drop i=es[i]::es.drop (i+1):=List.drop_eq_getElem_cons hi2
    obtain ⟨⟨a,b⟩,hx⟩:∃ s,s=es[i]:=⟨_,rfl⟩
    have hx2:=hx.symm
    have w1:IntKind.i64.wrap ((i:Int)+1)=((i+1:Nat):Int):=wrapS (by omega)
    have hzl:(es.drop (i+1)).length=es.length - (i+1):=List.length_drop
    have hrl:=row2s_len es (a,b) (es.drop (i+1))
    have mid:=fun c2=>gs_mid n es c hv (B.length) es.length i (a,b) (es.drop (i+1)) c2 (by omega) (es.drop (i+1)).length 0 acc (B++[[I a,I b]]) (by omega) (by omega) (by simp)
    have fr:=flat_row hv (a,b) (es.drop (i+1))
    simp only at fr
    simp only [List.drop_zero,fr,show ((0:Nat):Int)=0 from rfl] at mid
    rw [hd,← hx,swl]
    have hn:=fun D=>ih (i+1) (acc++(es.drop (i+1)).flatMap (row2 es (a,b))) D (by omega) (by rw [List.length_append];omega)
    generalize (es.drop (i+1)).flatMap (row2 es (a,b))=F at *
    simp only [List.append_assoc] at hn
    rw [hzl] at mid
    have hi3:i+1≤es.length:=by omega
    have hcast:((es.length - (i+1):Nat):Int)=(es.length:Int) - ((i:Int)+1):=by omega
    have htk:(es.drop (i+1)).take (es.length - (i+1))=es.drop (i+1):=List.take_of_length_le (by omega)
    rcases back acc with ⟨hb,-⟩ | hb
    · rw [hb] at mid ⊢
      refine wp_loop ?_
      repeat (first|apply wp_as|apply wp_ss|refine wr (by simp [hi2,hx2,w1,hi3,htk];with_reducible rfl) ?_|refine wq (by simp [hi2,hx2,w1,hi3,htk];with_reducible rfl) ?_|refine wt (by simpa [hi2,hx2,w1,hi3,htk]) ?_|refine wf (by simpa [hi2,hx2,w1,hi3,htk]) ?_|refine xt (by simpa [hi2,hx2,w1,hi3,htk]) ?_|refine xf (by simpa [hi2,hx2,w1,hi3,htk]) ?_|apply wp_bs|apply wp_b|refine wp_sr ?_|refine wp_sx ?_|refine wp_ret' ?_|refine wp_skip' ?_|refine wp_exit' ?_)
      refine wp_imp (mid _) ?_
      rintro ex st ⟨rfl,D,rfl⟩
      simp only [if_true]
      rcases back (acc++F) with ⟨h,-⟩ | h
      · rw [h] at hn ⊢
        repeat (first|apply wp_as|apply wp_ss|refine wr (by simp [w1];with_reducible rfl) ?_|refine wq (by simp [w1];with_reducible rfl) ?_|refine wt (by simpa [w1]) ?_|refine wf (by simpa [w1]) ?_|refine xt (by simpa [w1]) ?_|refine xf (by simpa [w1]) ?_|apply wp_bs|apply wp_b|refine wp_sr ?_|refine wp_sx ?_|refine wp_ret' ?_|refine wp_skip' ?_|refine wp_exit' ?_)
        exact hn _
      · rw [h] at hn ⊢
        repeat (first|apply wp_as|apply wp_ss|refine wr (by simp [w1];with_reducible rfl) ?_|refine wq (by simp [w1];with_reducible rfl) ?_|refine wt (by simpa [w1]) ?_|refine wf (by simpa [w1]) ?_|refine xt (by simpa [w1]) ?_|refine xf (by simpa [w1]) ?_|apply wp_bs|apply wp_b|refine wp_sr ?_|refine wp_sx ?_|refine wp_ret' ?_|refine wp_skip' ?_|refine wp_exit' ?_)
        exact hn _
    · rw [hb] at mid ⊢
      refine wp_loop ?_
      repeat (first|apply wp_as|apply wp_ss|refine wr (by simp [hi2,hx2,w1,hi3,htk];with_reducible rfl) ?_|refine wq (by simp [hi2,hx2,w1,hi3,htk];with_reducible rfl) ?_|refine wt (by simpa [hi2,hx2,w1,hi3,htk]) ?_|refine wf (by simpa [hi2,hx2,w1,hi3,htk]) ?_|refine xt (by simpa [hi2,hx2,w1,hi3,htk]) ?_|refine xf (by simpa [hi2,hx2,w1,hi3,htk]) ?_|apply wp_bs|apply wp_b|refine wp_sr ?_|refine wp_sx ?_|refine wp_ret' ?_|refine wp_skip' ?_|refine wp_exit' ?_)
      refine wp_imp (mid _) ?_
      rintro ex st ⟨rfl,D,rfl⟩
      simp only [if_true]
      rcases back (acc++F) with ⟨h,-⟩ | h
      · rw [h] at hn ⊢
        repeat (first|apply wp_as|apply wp_ss|refine wr (by simp [w1];with_reducible rfl) ?_|refine wq (by simp [w1];with_reducible rfl) ?_|refine wt (by simpa [w1]) ?_|refine wf (by simpa [w1]) ?_|refine xt (by simpa [w1]) ?_|refine xf (by simpa [w1]) ?_|apply wp_bs|apply wp_b|refine wp_sr ?_|refine wp_sx ?_|refine wp_ret' ?_|refine wp_skip' ?_|refine wp_exit' ?_)
        exact hn _
      · rw [h] at hn ⊢
        repeat (first|apply wp_as|apply wp_ss|refine wr (by simp [w1];with_reducible rfl) ?_|refine wq (by simp [w1];with_reducible rfl) ?_|refine wt (by simpa [w1]) ?_|refine wf (by simpa [w1]) ?_|refine xt (by simpa [w1]) ?_|refine xf (by simpa [w1]) ?_|apply wp_bs|apply wp_b|refine wp_sr ?_|refine wp_sx ?_|refine wp_ret' ?_|refine wp_skip' ?_|refine wp_exit' ?_)
        exact hn _
theorem ev_Clip4 (xs:List Q4):Ev tb zl260 [] [nl4 xs] [] ⟨nl4 xs,[],[],[]⟩:=by
  cases xs with
  | nil =>
    simp only [nl4]
    refine call_of_wp zt260 rfl ?_
    repeat (first|apply wp_as|apply wp_ss|refine wr (by simp;with_reducible rfl) ?_|refine wq (by simp;with_reducible rfl) ?_|refine wt (by simpa) ?_|refine wf (by simpa) ?_|refine xt (by simpa) ?_|refine xf (by simpa) ?_|apply wp_bs|apply wp_b|refine wp_sr ?_|refine wp_sx ?_|refine wp_ret' ?_|refine wp_skip' ?_|refine wp_exit' ?_)
    simp [zi260]
  | cons s r =>
    simp only [nl4]
    refine call_of_wp zt260 rfl ?_
    repeat (first|apply wp_as|apply wp_ss|refine wr (by simp;with_reducible rfl) ?_|refine wq (by simp;with_reducible rfl) ?_|refine wt (by simpa) ?_|refine wf (by simpa) ?_|refine xt (by simpa) ?_|refine xf (by simpa) ?_|apply wp_bs|apply wp_b|refine wp_sr ?_|refine wp_sx ?_|refine wp_ret' ?_|refine wp_skip' ?_|refine wp_exit' ?_)
    simp [zi260]
theorem ev_Graph_switches (n:Nat) (es:List (Int×Int)) (c:Bool) (hv:vGraph n es=true) :
    Ev tb zl173 [] [Gr n es c] [] ⟨nl4 (swl es es),[],[],[]⟩:=by
  have hn7:=(vG_iff.1 hv).2.2
  have h21:=vG21 hn7 hv
  have loop:=gs_out n es c hv es.length 0 [] [] (by omega) (by simp;omega)
  rw [show ((0:Nat):Int)=0 from rfl,List.drop_zero,List.nil_append,show nl4 []=Z from rfl] at loop
  have e1:=ev_lim (ev_Clip4 (swl es es))
  generalize swl es es=G at *
  cases G with
  | nil =>
    simp only [nl4] at loop e1 ⊢
    refine call_of_wp zt173 rfl ?_
    repeat (first|apply wp_as|apply wp_ss|refine wr (by simp;with_reducible rfl) ?_|refine wq (by simp;with_reducible rfl) ?_|refine wt (by simpa) ?_|refine wf (by simpa) ?_|refine xt (by simpa) ?_|refine xf (by simpa) ?_|apply wp_bs|apply wp_b|refine wp_sr ?_|refine wp_sx ?_|refine wp_ret' ?_|refine wp_skip' ?_|refine wp_exit' ?_)
    refine wp_imp loop ?_
    rintro ex st ⟨rfl,D,rfl⟩
    simp only [if_true]
    repeat (first|apply wp_as|apply wp_ss|refine wr (by simp [e1];with_reducible rfl) ?_|refine wq (by simp [e1];with_reducible rfl) ?_|refine wt (by simpa [e1]) ?_|refine wf (by simpa [e1]) ?_|refine xt (by simpa [e1]) ?_|refine xf (by simpa [e1]) ?_|apply wp_bs|apply wp_b|refine wp_sr ?_|refine wp_sx ?_|refine wp_ret' ?_|refine wp_skip' ?_|refine wp_exit' ?_)
    simp [zi173]
  | cons s r =>
    simp only [nl4] at loop e1 ⊢
    refine call_of_wp zt173 rfl ?_
    repeat (first|apply wp_as|apply wp_ss|refine wr (by simp;with_reducible rfl) ?_|refine wq (by simp;with_reducible rfl) ?_|refine wt (by simpa) ?_|refine wf (by simpa) ?_|refine xt (by simpa) ?_|refine xf (by simpa) ?_|apply wp_bs|apply wp_b|refine wp_sr ?_|refine wp_sx ?_|refine wp_ret' ?_|refine wp_skip' ?_|refine wp_exit' ?_)
    refine wp_imp loop ?_
    rintro ex st ⟨rfl,D,rfl⟩
    simp only [if_true]
    repeat (first|apply wp_as|apply wp_ss|refine wr (by simp [e1];with_reducible rfl) ?_|refine wq (by simp [e1];with_reducible rfl) ?_|refine wt (by simpa [e1]) ?_|refine wf (by simpa [e1]) ?_|refine xt (by simpa [e1]) ?_|refine xf (by simpa [e1]) ?_|apply wp_bs|apply wp_b|refine wp_sr ?_|refine wp_sx ?_|refine wp_ret' ?_|refine wp_skip' ?_|refine wp_exit' ?_)
    simp [zi173]
theorem ev_SwitchesOf (n:Nat) (es:List (Int×Int)) (c:Bool) (hv:vGraph n es=true) :
    Ev tb zl199 [] [Gr n es c] [] ⟨nl4 (swl es es),[],[],[]⟩:=by
  have hn7:=(vG_iff.1 hv).2.2
  have h21:=vG21 hn7 hv
  have hf:Fit es:=fun e he=>by have:=mem_prs.1 ((vG_iff.1 hv).2.1 e he);omega
  have v1:=fun c=>ev_lim (ev_ValidGraph n es c hf (by omega))
  rw [hv] at v1
  have e1:=fun c=>ev_lim (ev_Graph_switches n es c hv)
  generalize swl es es=G at *
  cases G with
  | nil =>
    simp only [nl4] at e1 ⊢
    refine call_of_wp zt199 rfl ?_
    repeat (first|apply wp_as|apply wp_ss|refine wr (by simp [v1,e1];with_reducible rfl) ?_|refine wq (by simp [v1,e1];with_reducible rfl) ?_|refine wt (by simpa [v1,e1]) ?_|refine wf (by simpa [v1,e1]) ?_|refine xt (by simpa [v1,e1]) ?_|refine xf (by simpa [v1,e1]) ?_|apply wp_bs|apply wp_b|refine wp_sr ?_|refine wp_sx ?_|refine wp_ret' ?_|refine wp_skip' ?_|refine wp_exit' ?_)
    simp [zi199]
  | cons s r =>
    simp only [nl4] at e1 ⊢
    refine call_of_wp zt199 rfl ?_
    repeat (first|apply wp_as|apply wp_ss|refine wr (by simp [v1,e1];with_reducible rfl) ?_|refine wq (by simp [v1,e1];with_reducible rfl) ?_|refine wt (by simpa [v1,e1]) ?_|refine wf (by simpa [v1,e1]) ?_|refine xt (by simpa [v1,e1]) ?_|refine xf (by simpa [v1,e1]) ?_|apply wp_bs|apply wp_b|refine wp_sr ?_|refine wp_sx ?_|refine wp_ret' ?_|refine wp_skip' ?_|refine wp_exit' ?_)
    simp [zi199]
theorem ev_SwitchesOf_no (n:Int) (es:List (Int×Int)) (c:Bool) (hf:Fit es) (hl:es.length≤1000) (hv:vGraph n es=false) :
    Ev tb zl199 [] [Gr n es c] [] ⟨Z,[],[],[]⟩:=by
  have v1:=fun c=>ev_lim (ev_ValidGraph n es c hf (by omega))
  rw [hv] at v1
  refine call_of_wp zt199 rfl ?_
  repeat (first|apply wp_as|apply wp_ss|refine wr (by simp [v1];with_reducible rfl) ?_|refine wq (by simp [v1];with_reducible rfl) ?_|refine wt (by simpa [v1]) ?_|refine wf (by simpa [v1]) ?_|refine xt (by simpa [v1]) ?_|refine xf (by simpa [v1]) ?_|apply wp_bs|apply wp_b|refine wp_sr ?_|refine wp_sx ?_|refine wp_ret' ?_|refine wp_skip' ?_|refine wp_exit' ?_)
  simp [zi199]
theorem ev_spec_SwitchesOf (n:Int) (es:List (Int×Int)) (c:Bool) (hl:es.length≤1000) (hv:vGraph n es=true) :
    Ev tb zl329 [] [Gr n es c] [] ⟨O4 (swl es es),[],[],[]⟩:=by
  have v1:=fun c=>ev_lim (ev_validGraph n es c (by omega))
  rw [hv] at v1
  have e1:=fun c=>ev_lim (ev_spec_switches n es c hl)
  refine call_of_wp zt329 rfl ?_
  repeat (first|apply wp_as|apply wp_ss|refine wr (by simp [v1,e1];with_reducible rfl) ?_|refine wq (by simp [v1,e1];with_reducible rfl) ?_|refine wt (by simpa [v1,e1]) ?_|refine wf (by simpa [v1,e1]) ?_|refine xt (by simpa [v1,e1]) ?_|refine xf (by simpa [v1,e1]) ?_|apply wp_bs|apply wp_b|refine wp_sr ?_|refine wp_sx ?_|refine wp_ret' ?_|refine wp_skip' ?_|refine wp_exit' ?_)
  simp [zi329]
theorem ev_spec_SwitchesOf_no (n:Int) (es:List (Int×Int)) (c:Bool) (hl:es.length≤1000) (hv:vGraph n es=false) :
    Ev tb zl329 [] [Gr n es c] [] ⟨Z,[],[],[]⟩:=by
  have v1:=fun c=>ev_lim (ev_validGraph n es c (by omega))
  rw [hv] at v1
  refine call_of_wp zt329 rfl ?_
  repeat (first|apply wp_as|apply wp_ss|refine wr (by simp [v1];with_reducible rfl) ?_|refine wq (by simp [v1];with_reducible rfl) ?_|refine wt (by simpa [v1]) ?_|refine wf (by simpa [v1]) ?_|refine xt (by simpa [v1]) ?_|refine xf (by simpa [v1]) ?_|apply wp_bs|apply wp_b|refine wp_sr ?_|refine wp_sx ?_|refine wp_ret' ?_|refine wp_skip' ?_|refine wp_exit' ?_)
  simp [zi329]
end Go.Idl
namespace Go.Idl
open Go
@[simp] theorem glf_get (n:Int) (R:GF) (i:Nat) (h:i < (glf n R).length):(glf n R)[i]=[IV.sc (.int .i64 n),.lst 2 (eds (R[i]'(by simpa [glf] using h)).1) (R[i]'(by simpa [glf] using h)).2]:=by simp [glf]
@[simp] theorem glf_get? (n:Int) (R:GF) (i:Nat):(glf n R)[i]? = R[i]?.map fun x=>[IV.sc (.int .i64 n),.lst 2 (eds x.1) x.2]:=by simp [glf]
@[simp] theorem frz_glf (n:Int) (R:GF):frzLL (glf n R)=glf n R:=by
  induction R with
  | nil=>rfl
  | cons x xs ih=>simp only [glf,List.map_cons,frzLL,frzL,frzV] at *;rw [ih]
@[simp] theorem frz_gls (n:Int) (gl:List (List (Int×Int))):frzLL (gls n gl)=glf n (gl.map fun es=>(es,false)):=by
  induction gl with
  | nil=>rfl
  | cons x xs ih=>simp only [gls,glf,List.map_cons,frzLL,frzL,frzV,frz_eds] at *;rw [ih]
end Go.Idl
namespace Go.Idl
open Go
def wiB (h:Int→Int→Bool) (u v x:Int):Bool:=decide (x ≠ u) && decide (x ≠ v) && h u x && !h v x
def wi (n:Nat) (h:Int→Int→Bool) (u v:Int):Bool:=!((idxB n (-1)).any (wiB h u v))
def neP (n:Nat) (h:Int→Int→Bool) (e:Int×Int):Bool:=!wi n h e.1 e.2 && !wi n h e.2 e.1
def nest (n:Nat) (h:Int→Int→Bool):Bool:=!((prs n).any (neP n h))
end Go.Idl
namespace Go.Idl
open Go
structure NestLaw (n:Nat) (es:List (Int×Int)):Prop where
  same:nest n (has es)=nest n (hasM es)
  thr:thr (degs n es)=nest n (hasM es)
  com:nest n (hasM (compM n es))=nest n (hasM es)
end Go.Idl
namespace Go.Idl
theorem deg_degs {n:Nat} {s:List (Int×Int)} (hs:s.Sublist (prs n)) {d:List Int} (hl:d.length=n):(∀ v,v < n→deg s v=d.getD v 0) ↔ degs n s=d:=by
  rw [degs_eq (prs_in hs)]
  constructor
  · intro h
    refine List.ext_getElem (by simp [hl]) fun v h1 h2=>?_
    rw [List.getElem_map,List.getElem_range,h v (by omega),List.getD_eq_getElem?_getD,List.getElem?_eq_getElem h2];rfl
  · intro h v hv
    rw [← h,List.getD_eq_getElem?_getD,List.getElem?_map,List.getElem?_range hv];rfl
theorem mem_reals {d:List Int} (h7:d.length≤7) (g:List (Int×Int)):g ∈ reals d ↔ vGraph d.length g=true∧degs d.length g=d:=by
  rw [reals,mem_subs (N:=d.length) _ _ _ _ (fun e he=>mem_prs.1 he) rfl]
  constructor
  · rintro ⟨s,hs,rfl,hd⟩
    exact ⟨vG_iff.2 ⟨(prs_pw _).sublist hs,fun e he=>hs.mem he,h7⟩,(deg_degs hs rfl).1 hd⟩
  · rintro ⟨h1,h2⟩
    exact ⟨g,vG_sub h1,rfl,(deg_degs (vG_sub h1) rfl).2 h2⟩
end Go.Idl
namespace Go.Idl
def hv:Nat→List Int→Bool
  | 0,_=>true
  | _+1,[]=>true
  | m+1,x::r=>decide (x≤r.length) && (r.take x.toNat).all (fun y=>!decide (y=0)) && hv m (fall ((r.take x.toNat).map (fun y=>y - 1)++r.drop x.toNat))
end Go.Idl
namespace Go.Idl
theorem len_sub {α:Type} [DecidableEq α]:∀ {l k:List α},l.Nodup→(∀ x ∈ l,x ∈ k)→l.length≤k.length
  | [],_,_,_=>by simp
  | a::l,k,hn,hs=>by
    have hn':=List.nodup_cons.1 hn
    have h1:=len_sub (l:=l) (k:=k.erase a) hn'.2 (fun x hx=>(List.mem_erase_of_ne (fun h=>hn'.1 (by rw [← h];exact hx))).2 (hs x (by simp [hx])))
    have h2:=List.length_erase_of_mem (hs a (by simp))
    have h3:0 < k.length:=List.length_pos_of_mem (hs a (by simp))
    simp only [List.length_cons];omega
theorem len_inj {α β:Type} [DecidableEq β] {l:List α} {k:List β} (f:α→β) (hn:l.Nodup) (hi:∀ x ∈ l,∀ y ∈ l,f x=f y→x=y) (hf:∀ x ∈ l,f x ∈ k):l.length≤k.length:=by
  have h1:(l.map f).Nodup:=by
    rw [List.Nodup,List.pairwise_map]
    exact List.Pairwise.imp_of_mem (fun ha hb h hab=>h (hi _ ha _ hb hab)) hn
  have:=len_sub h1 (fun y hy=>by obtain ⟨x,hx,rfl⟩:=List.mem_map.1 hy;exact hf x hx)
  simpa using this
theorem subs_nodup {N:Nat}:∀ (r:List (Int×Int)) (left:List Int) (ch:List (Int×Int)),(∀ e ∈ r,0≤e.1∧e.1 < e.2∧e.2 < N)→left.length=N→r.Nodup→(subs r left ch).Nodup
  | [],left,ch,_,_,_=>by rw [subs];split <;> simp
  | e::r,left,ch,hr,hl,hn=>by
    have hn':=List.nodup_cons.1 hn
    have hr':∀ x ∈ r,0≤x.1∧x.1 < x.2∧x.2 < N:=fun x hx=>hr x (by simp [hx])
    rw [subs]
    refine List.nodup_append.2 ⟨?_,subs_nodup r left ch hr' hl hn'.2,?_⟩
    · split
      · exact subs_nodup r _ _ hr' (by simp [decAt,hl]) hn'.2
      · exact .nil
    · intro g hg g2 hg2 hgg
      subst hgg
      split at hg
      · obtain ⟨s1,-,h1,-⟩:=(mem_subs r _ _ g hr' (by simp [decAt,hl])).1 hg
        obtain ⟨s2,hs2,h2,-⟩:=(mem_subs r _ _ g hr' hl).1 hg2
        rw [h1,List.append_assoc] at h2
        have h3:=List.append_cancel_left h2
        exact hn'.1 (hs2.mem (by rw [← h3];simp))
      · cases hg
theorem reals_nodup (d:List Int):(reals d).Nodup:=subs_nodup _ _ _ (fun _ he=>mem_prs.1 he) rfl (pw_nodup (prs_pw _))
def rel (n:Nat) (σ:Nat→Nat) (g:List (Int×Int)):List (Int×Int):=(prs n).filter fun e=>decide (mk (σ e.1.toNat) (σ e.2.toNat) ∈ g)
theorem mk_nat {n:Nat} {e:Int×Int} (he:e ∈ prs n):mk e.1.toNat e.2.toNat=e:=by
  have:=mem_prs.1 he
  exact Prod.ext (by simp only [mk];omega) (by simp only [mk];omega)
theorem rel_deg {n:Nat} (hn:n≤7) {σ:Nat→Nat} (hσ:∀ u,u < n→σ u < n) (hi:∀ u v,u < n→v < n→(σ u=σ v ↔ u=v)) (hp:((List.range n).map σ).Perm (List.range n)) {g:List (Int×Int)} (hg:vGraph n g=true) {v:Nat} (hv:v < n) :
    deg (rel n σ g) v=deg g (σ v):=by
  conv=>rhs;rw [vG_filter hg]
  rw [rel,deg_filter hn _ hv,deg_filter hn _ (hσ v hv)]
  conv=>rhs;rw [← S_perm hp,S_map]
  refine S_congr fun u hu=>?_
  have hu:=List.mem_range.1 hu
  have hm:mk (σ (mk u v).1.toNat) (σ (mk u v).2.toNat)=mk (σ u) (σ v):=by
    rcases Nat.le_total u v with h | h
    · rw [show (mk u v).1.toNat=u by simp only [mk];omega,show (mk u v).2.toNat=v by simp only [mk];omega]
    · rw [show (mk u v).1.toNat=v by simp only [mk];omega,show (mk u v).2.toNat=u by simp only [mk];omega,mk_comm]
  rw [hm]
  exact ite_iff (hi u v hu hv).symm _ _
theorem rel_rel {n:Nat} {σ τ:Nat→Nat} (hτ:∀ u,u < n→τ u < n) (hi:∀ u v,u < n→v < n→(τ u=τ v ↔ u=v)) (hst:∀ u,u < n→σ (τ u)=u) {g:List (Int×Int)} (hg:vGraph n g=true) :
    rel n τ (rel n σ g)=g:=by
  conv=>rhs;rw [vG_filter hg]
  refine List.filter_congr fun e he=>?_
  have hb:=mem_prs.1 he
  obtain ⟨a,ha⟩:=Int.eq_ofNat_of_zero_le (show 0≤e.1 by omega)
  obtain ⟨b,hb2⟩:=Int.eq_ofNat_of_zero_le (show 0≤e.2 by omega)
  have he2:=mk_nat he
  rw [ha,hb2,Int.toNat_natCast,Int.toNat_natCast] at he2 ⊢
  have han:a < n:=by omega
  have hbn:b < n:=by omega
  have hm:mk (τ a) (τ b) ∈ prs n:=mk_mem (hτ a han) (hτ b hbn) (fun h=>by have:=(hi a b han hbn).1 h;omega)
  rw [decide_eq_decide,rel,List.mem_filter,decide_eq_true_eq]
  have hm2:mk (σ (mk (τ a) (τ b)).1.toNat) (σ (mk (τ a) (τ b)).2.toNat)=e:=by
    rcases Nat.le_total (τ a) (τ b) with h | h
    · rw [show (mk (τ a) (τ b)).1.toNat=τ a by simp only [mk];omega,show (mk (τ a) (τ b)).2.toNat=τ b by simp only [mk];omega,hst a han,hst b hbn,he2]
    · rw [show (mk (τ a) (τ b)).1.toNat=τ b by simp only [mk];omega,show (mk (τ a) (τ b)).2.toNat=τ a by simp only [mk];omega,hst a han,hst b hbn,mk_comm,he2]
  rw [hm2]
  exact ⟨fun h=>h.2,fun h=>⟨hm,h⟩⟩
theorem reals_rel {d f:List Int} (h7:d.length≤7) (hl:f.length=d.length) {σ τ:Nat→Nat} (hσ:∀ u,u < d.length→σ u < d.length) (hτ:∀ u,u < d.length→τ u < d.length)
    (hst:∀ u,u < d.length→σ (τ u)=u) (hts:∀ u,u < d.length→τ (σ u)=u) (hp:((List.range d.length).map σ).Perm (List.range d.length)) (hd:∀ u,u < d.length→f.getD u 0=d.getD (σ u) 0) :
    (reals d).length≤(reals f).length:=by
  have hiσ:∀ u v,u < d.length→v < d.length→(σ u=σ v ↔ u=v):=fun u v hu hv=>⟨fun h=>by rw [← hts u hu,h,hts v hv],fun h=>by rw [h]⟩
  have hiτ:∀ u v,u < d.length→v < d.length→(τ u=τ v ↔ u=v):=fun u v hu hv=>⟨fun h=>by rw [← hst u hu,h,hst v hv],fun h=>by rw [h]⟩
  refine len_inj (rel d.length σ) (reals_nodup d) (fun x hx y hy h=>?_) fun g hg=>?_
  · rw [← rel_rel hτ hiτ hst ((mem_reals h7 x).1 hx).1,h,rel_rel hτ hiτ hst ((mem_reals h7 y).1 hy).1]
  · obtain ⟨h1,h2⟩:=(mem_reals h7 g).1 hg
    have hv:vGraph d.length (rel d.length σ g)=true:=filter_vG h7 _
    refine (mem_reals (by omega) _).2 ?_
    rw [hl]
    refine ⟨hv,(deg_degs (vG_sub hv) hl).1 fun v hv=>?_⟩
    rw [rel_deg h7 hσ hiσ hp h1 hv,hd v hv]
    exact (deg_degs (vG_sub h1) rfl).2 h2 _ (hσ v hv)
theorem reals_fall {d:List Int} (h7:d.length≤7):(reals (fall d)).length=(reals d).length:=by
  obtain ⟨n,hn⟩:∃ n,n=d.length:=⟨_,rfl⟩
  have hd:d=(List.range n).map fun v=>d.getD v 0:=by
    refine List.ext_getElem (by simp [hn]) fun i k1 k2=>?_
    simp [List.getD_eq_getElem?_getD,List.getElem?_eq_getElem k1]
  obtain ⟨π,hπ,hfp⟩:=perm_map_inv (f:=fun v=>d.getD v 0) (fall_perm d) hd
  have hπn:π.Nodup:=hπ.nodup_iff.2 List.nodup_range
  have hπl:π.length=n:=by rw [hπ.length_eq,List.length_range]
  have hσ:∀ v,v < n→π.idxOf v < n:=fun v hv=>by
    have hm:v ∈ π:=hπ.mem_iff.2 (List.mem_range.2 hv)
    have:=List.idxOf_lt_length_of_mem hm
    omega
  have hτσ:∀ v,v < n→π.getD (π.idxOf v) 0=v:=fun v hv=>by
    have hm:v ∈ π:=hπ.mem_iff.2 (List.mem_range.2 hv)
    have:=List.idxOf_lt_length_of_mem hm
    rw [List.getD_eq_getElem?_getD,List.getElem?_eq_getElem this,List.getElem_idxOf];rfl
  have hτ:∀ i,i < n→π.getD i 0 < n:=fun i hi=>by
    rw [List.getD_eq_getElem?_getD,List.getElem?_eq_getElem (by omega)]
    exact List.mem_range.1 (hπ.mem_iff.1 (List.getElem_mem _))
  have hστ:∀ i,i < n→π.idxOf (π.getD i 0)=i:=fun i hi=>by
    rw [List.getD_eq_getElem?_getD,List.getElem?_eq_getElem (by omega)]
    exact hπn.idxOf_getElem i (by omega)
  have hp1:((List.range n).map (π.getD · 0)).Perm (List.range n):=by
    have:(List.range n).map (π.getD · 0)=π:=by
      refine List.ext_getElem (by simp [hπl]) fun i k1 k2=>?_
      simp [List.getD_eq_getElem?_getD,List.getElem?_eq_getElem k2]
    rw [this];exact hπ
  have hp2:((List.range n).map (π.idxOf ·)).Perm (List.range n):=by
    have hmap:π.map (π.idxOf ·)=List.range n:=by
      refine List.ext_getElem (by simp [hπl]) fun i k1 k2=>?_
      rw [List.getElem_map,List.getElem_range]
      exact hπn.idxOf_getElem i (by simpa using k1)
    have:=hπ.symm.map (π.idxOf ·)
    rwa [hmap] at this
  have hf:∀ i,i < n→(fall d).getD i 0=d.getD (π.getD i 0) 0:=fun i hi=>by
    rw [hfp,List.getD_eq_getElem?_getD,List.getElem?_map,List.getD_eq_getElem?_getD (l:=π),List.getElem?_eq_getElem (by omega:i < π.length)];rfl
  have hfl:=fall_len d
  have a1:=reals_rel (d:=d) (f:=fall d) h7 hfl (σ:=(π.getD · 0)) (τ:=(π.idxOf ·)) (by rw [← hn];exact hτ) (by rw [← hn];exact hσ) (by rw [← hn];exact hτσ) (by rw [← hn];exact hστ) (by rw [← hn];exact hp1) (by rw [← hn];exact hf)
  have a2:=reals_rel (d:=fall d) (f:=d) (by omega) hfl.symm (σ:=(π.idxOf ·)) (τ:=(π.getD · 0)) (by rw [hfl,← hn];exact hσ) (by rw [hfl,← hn];exact hτ) (by rw [hfl,← hn];exact hστ) (by rw [hfl,← hn];exact hτσ) (by rw [hfl,← hn];exact hp2) (fun i hi=>by
    rw [hfl,← hn] at hi
    rw [hf _ (hσ i hi),hτσ i hi])
  omega
theorem insE_end {e:Int×Int}:∀ {es:List (Int×Int)},(∀ x ∈ es,below x e=true)→insE e es=es++[e]
  | [],_=>rfl
  | x::es,h=>by rw [insE,if_pos (h x (by simp)),insE_end fun y hy=>h y (by simp [hy])];rfl
theorem sum_zero:∀ {l:List Int},(∀ x ∈ l,0≤x)→(l.sum=0 ↔ l.all (fun x=>decide (x=0))=true)
  | [],_=>by simp
  | x::l,h=>by
    have h1:=h x (by simp)
    have h2:0≤l.sum:=by
      have:∀ {l:List Int},(∀ x ∈ l,0≤x)→0≤l.sum:=by
        intro l
        induction l with
        | nil=>intro _;simp
        | cons y l ih=>intro h;have:=ih fun z hz=>h z (by simp [hz]);have:=h y (by simp);simp only [List.sum_cons];omega
      exact this fun y hy=>h y (by simp [hy])
    rw [List.sum_cons,List.all_cons,Bool.and_eq_true,← sum_zero fun y hy=>h y (by simp [hy]),decide_eq_true_eq]
    omega
theorem srS_subs {n:Nat}:∀ (r:List (Int×Int)) (left:List Int) (es:List (Int×Int)),PW r→(∀ e ∈ r,e ∈ prs n)→left.length=n→(∀ x ∈ left,0≤x)→(∀ x ∈ es,∀ e ∈ r,below x e=true) →
    srS n es left r=subs r left es
  | [],left,es,_,_,_,hb,_=>by rw [srS,subs];exact ite_iff (sum_zero hb) _ _
  | e::r,left,es,hp,hr,hl,hb,hes=>by
    have hp':=List.pairwise_cons.1 hp
    have he:=mem_prs.1 (hr e (by simp))
    have hr':∀ x ∈ r,x ∈ prs n:=fun x hx=>hr x (by simp [hx])
    have hes':∀ x ∈ es,∀ y ∈ r,below x y=true:=fun x hx y hy=>hes x hx y (by simp [hy])
    have h2:=srS_subs r left es hp'.2 hr' hl hb hes'
    rw [srS,subs,insE_end fun x hx=>hes x hx e (by simp)]
    congr 1
    · split
      · rename_i hq
        refine srS_subs r _ _ hp'.2 hr' (by simp [decAt,hl]) (fun x hx=>?_) fun x hx y hy=>?_
        · obtain ⟨i,hi,rfl⟩:=List.mem_iff_getElem.1 hx
          have hi2:i < left.length:=by simpa [decAt] using hi
          have g1:=decAt_get (o:=decAt left e.1.toNat) (i:=e.2.toNat) (v:=i) (by simpa [decAt] using hi2)
          have g2:=decAt_get (o:=left) (i:=e.1.toNat) (v:=i) hi2
          rw [List.getD_eq_getElem?_getD,List.getElem?_eq_getElem hi] at g1
          have g3:=hb left[i] (List.getElem_mem hi2)
          have g4:left.getD i 0=left[i]:=by rw [List.getD_eq_getElem?_getD,List.getElem?_eq_getElem hi2];rfl
          simp only [Option.getD_some] at g1
          rw [g1,g2,g4]
          by_cases k1:e.1.toNat=i
          · rw [k1] at hq
            have:¬ e.2.toNat=i:=by omega
            rw [if_pos k1,if_neg this];omega
          · by_cases k2:e.2.toNat=i
            · rw [k2] at hq
              rw [if_neg k1,if_pos k2];omega
            · rw [if_neg k1,if_neg k2];omega
        · rcases List.mem_append.1 hx with hx | hx
          · exact hes' x hx y hy
          · simp at hx;subst hx;exact hp'.1 y hy
      · rfl
    · by_cases hq:e.2+1 < n ∨ left.getD e.1.toNat 0=0
      · rw [if_pos hq,h2]
      · rw [if_neg hq]
        cases hs:subs r left es with
        | nil=>rfl
        | cons g gl =>
          exfalso
          have hg:g ∈ subs r left es:=by rw [hs];simp
          obtain ⟨s,hsr,-,hd⟩:=(mem_subs r left es g (fun x hx=>mem_prs.1 (hr' x hx)) hl).1 hg
          have h3:=hd e.1.toNat (by omega)
          have h4:deg s e.1.toNat=0:=by
            rw [deg,S_congr (g:=fun _=>0),S_zero]
            intro x hx
            have hx1:=hp'.1 x (hsr.mem hx)
            have hx2:=mem_prs.1 (hr' x (hsr.mem hx))
            rw [below_iff] at hx1
            rw [inc,if_neg (by omega),if_neg (by omega)];rfl
          omega
theorem srS_reals {d:List Int} (hv:valid d=true):srS d.length [] d (prs d.length)=reals d :=
  srS_subs _ _ _ (prs_pw _) (fun _ h=>h) rfl (fun x hx=>(valid_mem hv x hx).1) (by simp)
end Go.Idl
namespace Go.Idl
def gS (s:List Int):Bool:=s.all (fun x=>decide (0≤x) && decide (x < s.length)) && decide (s.sum % 2=0) && noneNeg (slS s)
theorem all_perm' {xs ys:List Int} (h:xs.Perm ys) (p:Int→Bool):xs.all p=ys.all p:=by
  rw [Bool.eq_iff_iff,List.all_eq_true,List.all_eq_true]
  exact ⟨fun k x hx=>k x (h.mem_iff.2 hx),fun k x hx=>k x (h.mem_iff.1 hx)⟩
theorem graphic_gS {d:List Int} (hl:d.length≤7):graphic d=gS (fall d):=by
  rw [graphic,gS,valid,slacks_S,fall_len,fall_sum,all_perm' (fall_perm d),decide_eq_true hl,Bool.true_and]
  rfl
end Go.Idl
namespace Go.Idl
def encI:List Int→Nat
  | []=>0
  | x::r=>x.toNat+8 * encI r
theorem dig_enc:∀ (l:List Int) (i:Nat),(∀ x ∈ l,0≤x∧x < 8)→encI l / 8 ^ i % 8=(l.getD i 0).toNat
  | [],i,_=>by simp [encI]
  | x::r,0,h=>by
    have:=h x (by simp)
    simp only [encI,Nat.pow_zero,Nat.div_one,List.getD_cons_zero];omega
  | x::r,i+1,h=>by
    have h1:=h x (by simp)
    have h2:=dig_enc r i fun y hy=>h y (by simp [hy])
    rw [encI,Nat.pow_succ,Nat.mul_comm (8 ^ i),← Nat.div_div_eq_div_mul,show (x.toNat+8 * encI r) / 8=encI r by omega,h2,List.getD_cons_succ]
theorem enc_dec:∀ (l:List Int) (i:Nat),(∀ x ∈ l,0≤x∧x < 8)→0 < l.getD i 0→encI (decAt l i)+8 ^ i=encI l
  | [],i,_,h=>by simp at h
  | x::r,0,h,hp=>by
    simp only [List.getD_cons_zero] at hp
    simp only [decAt,List.getD_cons_zero,List.set_cons_zero,encI,Nat.pow_zero];omega
  | x::r,i+1,h,hp=>by
    rw [List.getD_cons_succ] at hp
    have h2:=enc_dec r i (fun y hy=>h y (by simp [hy])) hp
    rw [decAt] at h2
    rw [decAt,List.getD_cons_succ,List.set_cons_succ,encI,encI,Nat.pow_succ];omega
theorem enc_zero:∀ l:List Int,(∀ x ∈ l,0≤x∧x < 8)→(encI l=0 ↔ l.sum=0)
  | [],_=>by simp [encI]
  | x::r,h=>by
    have h1:=h x (by simp)
    have h2:=enc_zero r fun y hy=>h y (by simp [hy])
    have h3:0≤r.sum:=by
      have:∀ {l:List Int},(∀ x ∈ l,0≤x∧x < 8)→0≤l.sum:=by
        intro l
        induction l with
        | nil=>intro _;simp
        | cons y l ih=>intro h;have:=ih fun z hz=>h z (by simp [hz]);have:=h y (by simp);simp only [List.sum_cons];omega
      exact this fun y hy=>h y (by simp [hy])
    rw [encI,List.sum_cons];omega
noncomputable def sN (n:Nat) (P:List (Nat×Nat)):Nat→Nat :=
  List.rec (motive:=fun _=>Nat→Nat) (fun q=>Bool.rec 0 1 (Nat.beq q 0))
    (fun e _ ih q=>Nat.add
      (Bool.rec 0 (Bool.rec 0 (ih (Nat.sub (Nat.sub q (Nat.pow 8 e.1)) (Nat.pow 8 e.2))) (Nat.ble 1 (Nat.mod (Nat.div q (Nat.pow 8 e.2)) 8))) (Nat.ble 1 (Nat.mod (Nat.div q (Nat.pow 8 e.1)) 8)))
      (Bool.rec (Bool.rec 0 (ih q) (Nat.beq (Nat.mod (Nat.div q (Nat.pow 8 e.1)) 8) 0)) (ih q) (Nat.ble (e.2+2) n))) P
theorem rec_ite (b:Bool) (x y:Nat):(Bool.rec x y b:Nat)=if b=true then y else x:=by cases b <;> rfl
theorem sN_cons (n:Nat) (a b:Nat) (P:List (Nat×Nat)) (q:Nat):sN n ((a,b)::P) q =
    (if 1≤q / 8 ^ a % 8 then (if 1≤q / 8 ^ b % 8 then sN n P (q - 8 ^ a - 8 ^ b) else 0) else 0)+(if b+2≤n then sN n P q else if q / 8 ^ a % 8=0 then sN n P q else 0):=by
  show Nat.add (Bool.rec 0 (Bool.rec 0 (sN n P (Nat.sub (Nat.sub q (Nat.pow 8 a)) (Nat.pow 8 b))) (Nat.ble 1 (Nat.mod (Nat.div q (Nat.pow 8 b)) 8))) (Nat.ble 1 (Nat.mod (Nat.div q (Nat.pow 8 a)) 8)))
      (Bool.rec (Bool.rec 0 (sN n P q) (Nat.beq (Nat.mod (Nat.div q (Nat.pow 8 a)) 8) 0)) (sN n P q) (Nat.ble (b+2) n))=_
  simp only [rec_ite,Nat.ble_eq,Nat.beq_eq]
  rfl
theorem dec_bound {l:List Int} {i:Nat} (h:∀ x ∈ l,0≤x∧x < 8) (hp:0 < l.getD i 0):∀ x ∈ decAt l i,0≤x∧x < 8:=by
  intro x hx
  rcases List.mem_or_eq_of_mem_set hx with hx | rfl
  · exact h x hx
  · have:l.getD i 0 < 8:=by
      rw [List.getD_eq_getElem?_getD] at hp ⊢
      cases hq:l[i]? with
      | none=>rw [hq] at hp;simp at hp
      | some y=>have:=h y (List.mem_of_getElem? hq);simpa using this.2
    omega
theorem dec_other {l:List Int} {i j:Nat} (h:i ≠ j):(decAt l i).getD j 0=l.getD j 0:=by
  rw [decAt,List.getD_eq_getElem?_getD,List.getElem?_set_ne h,List.getD_eq_getElem?_getD]
theorem srS_sN (n:Nat):∀ (r:List (Int×Int)) (es:List (Int×Int)) (left:List Int),(∀ e ∈ r,0≤e.1∧e.1 < e.2)→(∀ x ∈ left,0≤x∧x < 8) →
    (srS n es left r).length=sN n (r.map fun e=>(e.1.toNat,e.2.toNat)) (encI left)
  | [],es,left,_,hb=>by
    rw [srS]
    show _=(Bool.rec 0 1 (Nat.beq (encI left) 0):Nat)
    rw [rec_ite]
    simp only [Nat.beq_eq]
    by_cases h0:left.sum=0
    · rw [if_pos h0,if_pos ((enc_zero left hb).2 h0)];rfl
    · rw [if_neg h0,if_neg fun h=>h0 ((enc_zero left hb).1 h)];rfl
  | e::r,es,left,hr,hb=>by
    have he:=hr e (by simp)
    have hr':∀ x ∈ r,0≤x.1∧x.1 < x.2:=fun x hx=>hr x (by simp [hx])
    have d1:=dig_enc left e.1.toNat hb
    have d2:=dig_enc left e.2.toNat hb
    have hne:e.1.toNat ≠ e.2.toNat:=by omega
    rw [srS,List.map_cons,sN_cons,d1,d2,List.length_append]
    have i2:=srS_sN n r es left hr' hb
    congr 1
    · by_cases h1:0 < left.getD e.1.toNat 0
      · rw [if_pos (show 1≤(left.getD e.1.toNat 0).toNat by omega)]
        by_cases h2:0 < left.getD e.2.toNat 0
        · rw [if_pos ⟨h1,h2⟩,if_pos (show 1≤(left.getD e.2.toNat 0).toNat by omega)]
          have k1:=enc_dec left e.1.toNat hb h1
          have b1:=dec_bound hb h1
          have h2':0 < (decAt left e.1.toNat).getD e.2.toNat 0:=by rw [dec_other hne];exact h2
          have k2:=enc_dec _ e.2.toNat b1 h2'
          rw [srS_sN n r _ _ hr' (dec_bound b1 h2')]
          congr 1
          omega
        · rw [if_neg (fun h=>h2 h.2),if_neg (show ¬ 1≤(left.getD e.2.toNat 0).toNat by omega)];rfl
      · rw [if_neg (fun h=>h1 h.1),if_neg (show ¬ 1≤(left.getD e.1.toNat 0).toNat by omega)];rfl
    · have hz:(left.getD e.1.toNat 0).toNat=0 ↔ left.getD e.1.toNat 0=0:=by
        have:0≤left.getD e.1.toNat 0:=by
          rw [List.getD_eq_getElem?_getD]
          cases hq:left[e.1.toNat]? with
          | none=>simp
          | some y=>exact (hb y (List.mem_of_getElem? hq)).1
        omega
      by_cases h3:e.2+1 < n
      · rw [if_pos (.inl h3),if_pos (by omega),i2]
      · rw [if_neg (show ¬ e.2.toNat+2≤n by omega)]
        by_cases h4:left.getD e.1.toNat 0=0
        · rw [if_pos (.inr h4),if_pos (hz.2 h4),i2]
        · rw [if_neg (fun h=>h.elim h3 h4),if_neg fun h=>h4 (hz.1 h)];rfl
def thS (s:List Int):Bool:=decide (s=corrs s)
def spS (s:List Int):Int:=if gS s then (if s.length=0 then 0 else ((slS s).getD (durf s - 1) 0).tdiv 2) else -1
def chkT (s:List Int):Bool:=decide (thS (compS s)=thS s) && (!thS s || decide (spS s=0))
noncomputable def chkU (s:List Int):Bool:=Bool.rec (!(Nat.beq (sN s.length ((prs s.length).map fun e=>(e.1.toNat,e.2.toNat)) (encI s)) 1)) (Nat.beq (sN s.length ((prs s.length).map fun e=>(e.1.toNat,e.2.toNat)) (encI s)) 1) (thS s)
set_option maxRecDepth 100000 in
theorem chkT_all:(List.range 8).all (fun n=>allD chkT n (n - 1) [])=true:=by kernel_rfl
set_option maxRecDepth 100000 in
theorem chkU_all:(List.range 7).all (fun n=>allD chkU n (n - 1) [])=true:=by kernel_rfl
theorem thrLaw:∀ d,valid d=true→ThrLaw d:=fun d hv=>by
  have h1:=(valid_few hv).1
  have h2:=valid_mem hv
  have hb:∀ x ∈ fall d,0≤x∧x≤((d.length - 1:Nat):Int):=fun x hx=>by
    have:=h2 x (fall_mem.1 hx)
    omega
  have hc:=List.all_eq_true.1 chkT_all d.length (List.mem_range.2 (by omega))
  have h3:=allD_ok chkT d.length (d.length - 1) [] (fall d) hc (fall_len d) (fall_desc d) hb
  simp only [List.reverse_nil,List.nil_append,chkT,Bool.and_eq_true,decide_eq_true_eq,Bool.or_eq_true,Bool.not_eq_true'] at h3
  have ht:thr d=thS (fall d):=by rw [thr,hv,thS,Bool.true_and]
  have hs:splitt d=spS (fall d):=by rw [splitt,spS,graphic_gS h1,slacks_S,fall_len]
  refine ⟨?_,fun h6=>?_,fun h=>?_⟩
  · rw [thr,comp_valid hv,Bool.true_and,fall_comp,ht];exact of_decide_eq_true h3.1
  · have hc:=List.all_eq_true.1 chkU_all d.length (List.mem_range.2 (by omega))
    have h4:=allD_ok chkU d.length (d.length - 1) [] (fall d) hc (fall_len d) (fall_desc d) hb
    have h5:=srS_sN (fall d).length (prs (fall d).length) [] (fall d) (fun e he=>by have:=mem_prs.1 he;omega) (fun x hx=>by have:=hb x hx;omega)
    rw [srS_reals (fall_valid hv),reals_fall h1] at h5
    simp only [List.reverse_nil,List.nil_append,chkU] at h4
    rw [← h5] at h4
    rw [ht]
    cases hq:thS (fall d) with
    | false =>
      rw [hq] at h4
      have h4:(!(Nat.beq (reals d).length 1))=true:=h4
      refine decide_eq_false fun h=>?_
      rw [h] at h4
      cases h4
    | true =>
      rw [hq] at h4
      have h4:Nat.beq (reals d).length 1=true:=h4
      exact decide_eq_true (Nat.eq_of_beq_eq_true h4)
  · rw [hs]
    rw [ht] at h
    rcases h3.2 with h3 | h3
    · rw [h] at h3;cases h3
    · exact of_decide_eq_true h3
end Go.Idl
namespace Go.Idl
theorem S_zero_iff {α:Type}:∀ {l:List α} {f:α→Int},(∀ a ∈ l,0≤f a)→(S l f=0 ↔ ∀ a ∈ l,f a=0)
  | [],f,_=>by simp [S]
  | a::l,f,h=>by
    have h1:=h a (by simp)
    have h2:0≤S l f:=S_nonneg fun b hb=>h b (by simp [hb])
    have h3:=S_zero_iff (l:=l) (f:=f) fun b hb=>h b (by simp [hb])
    rw [S_cons,List.forall_mem_cons,← h3]
    omega
end Go.Idl
namespace Go.Idl
def NA (n:Nat) (es:List (Int×Int)) (u v:Nat):Prop:=∀ x,x < n→x ≠ u→x ≠ v→mk u x ∈ es→mk v x ∈ es
theorem hasM_mk (es:List (Int×Int)) (u v:Nat):hasM es u v=decide (mk u v ∈ es):=by
  rw [Bool.eq_iff_iff,hasM_iff,decide_eq_true_eq];rfl
theorem wi_iff {n:Nat} {es:List (Int×Int)} {u v:Nat}:wi n (hasM es) u v=true ↔ NA n es u v:=by
  rw [wi,Bool.not_eq_true',List.any_eq_false]
  constructor
  · intro h x hx h1 h2 h3
    have hm:((x:Nat):Int) ∈ idxB n (-1):=mem_idxB.2 (by omega)
    have:=h _ hm
    simp only [wiB,hasM_mk,Bool.and_eq_true,decide_eq_true_eq,Bool.not_eq_true',decide_eq_false_iff_not,not_and,Classical.not_not] at this
    exact this ⟨⟨by omega,by omega⟩,h3⟩
  · intro h x hx
    have hb:=mem_idxB.1 hx
    obtain ⟨k,rfl⟩:=Int.eq_ofNat_of_zero_le hb.1
    simp only [wiB,hasM_mk,Bool.and_eq_true,decide_eq_true_eq,Bool.not_eq_true',decide_eq_false_iff_not,not_and,Classical.not_not]
    rintro ⟨⟨h1,h2⟩,h3⟩
    exact h k (by omega) (by omega) (by omega) h3
theorem nest_iff {n:Nat} {es:List (Int×Int)}:nest n (hasM es)=true ↔ ∀ u v,u < v→v < n→NA n es u v ∨ NA n es v u:=by
  rw [nest,Bool.not_eq_true',List.any_eq_false]
  constructor
  · intro h u v h1 h2
    have:=h ((u:Int),(v:Int)) (mem_prs.2 (by simp only;omega))
    simp only [neP,Bool.and_eq_true,Bool.not_eq_true',not_and,Bool.not_eq_false] at this
    by_cases hq:wi n (hasM es) u v=true
    · exact .inl (wi_iff.1 hq)
    · exact .inr (wi_iff.1 (this (by simpa using hq)))
  · intro h e he
    have hb:=mem_prs.1 he
    obtain ⟨a,ha⟩:=Int.eq_ofNat_of_zero_le (show 0≤e.1 by omega)
    obtain ⟨b,hb2⟩:=Int.eq_ofNat_of_zero_le (show 0≤e.2 by omega)
    rw [neP,ha,hb2]
    rcases h a b (by omega) (by omega) with h | h
    · rw [wi_iff.2 h];simp
    · rw [wi_iff.2 h];simp
noncomputable def chkV (s:List Int):Bool:=Bool.rec true (Nat.beq (sN s.length ((prs s.length).map fun e=>(e.1.toNat,e.2.toNat)) (encI s)) 1) (thS s)
set_option maxRecDepth 100000 in
theorem chkV_all:(List.range 8).all (fun n=>allD chkV n (n - 1) [])=true:=by kernel_rfl
theorem thr_one {d:List Int} (hv:valid d=true) (h:thr d=true):(reals d).length=1:=by
  have h1:=(valid_few hv).1
  have h2:=valid_mem hv
  have hb:∀ x ∈ fall d,0≤x∧x≤((d.length - 1:Nat):Int):=fun x hx=>by
    have:=h2 x (fall_mem.1 hx)
    omega
  have ht:thr d=thS (fall d):=by rw [thr,hv,thS,Bool.true_and]
  have hc:=List.all_eq_true.1 chkV_all d.length (List.mem_range.2 (by omega))
  have h4:=allD_ok chkV d.length (d.length - 1) [] (fall d) hc (fall_len d) (fall_desc d) hb
  have h5:=srS_sN (fall d).length (prs (fall d).length) [] (fall d) (fun e he=>by have:=mem_prs.1 he;omega) (fun x hx=>by have:=hb x hx;omega)
  rw [srS_reals (fall_valid hv),reals_fall h1] at h5
  simp only [List.reverse_nil,List.nil_append,chkV] at h4
  rw [← h5,← ht,h] at h4
  exact Nat.eq_of_beq_eq_true h4
theorem nest_no {n:Nat} {es:List (Int×Int)} (h:vGraph n es=true) (hn:nest n (hasM es)=false):thr (degs n es)=false:=by
  have hin:=(vG_iff.1 h).2.1
  have hn7:=(vG_iff.1 h).2.2
  have hno:¬ ∀ u v,u < v→v < n→NA n es u v ∨ NA n es v u:=fun hh=>by have:=nest_iff.2 hh;rw [hn] at this;cases this
  simp only [Classical.not_forall,not_or,NA] at hno
  obtain ⟨u,v,huv,hvn,⟨x,hx,hxu,hxv,m1,m2⟩,⟨y,hy,hyv,hyu,m3,m4⟩⟩:=hno
  have hxy:x ≠ y:=fun hh=>m4 (hh ▸ m1)
  have hm:mayI es u x y v=true:=mayI_iff.2 ⟨by omega,m1,by
    have:mk y v ∈ es:=by rw [mk_comm];exact m3
    exact this,fun hh=>m4 hh,fun hh=>m2 (by rw [mk_comm];exact hh)⟩
  have hl:=swLaw n es u x y v h
  have q3:=(swX_ok h hm).2.2.1
  have hdl:(degs n es).length=n:=by rw [degs,dfold_len];simp
  have hne:sw es u x y v ≠ es:=fun hh=>by
    have:((min (u:Int) y,max (u:Int) y):Int×Int) ∈ sw es u x y v:=mem_sw.2 (.inr (.inl rfl))
    rw [hh] at this
    exact m4 this
  have r1:es ∈ reals (degs n es):=(mem_reals (by omega) _).2 (by rw [hdl];exact ⟨h,rfl⟩)
  have r2:sw es u x y v ∈ reals (degs n es):=(mem_reals (by omega) _).2 (by rw [hdl];exact ⟨q3,hl.deg hm⟩)
  cases ht:thr (degs n es) with
  | false=>rfl
  | true =>
    have h1:=thr_one (degs_valid h) ht
    have h2:[es,sw es u x y v].length≤(reals (degs n es)).length:=len_sub (by simpa using hne.symm) (fun z hz=>by
      simp only [List.mem_cons,List.not_mem_nil,or_false] at hz
      rcases hz with rfl | rfl
      · exact r1
      · exact r2)
    simp at h2
    omega
theorem S_countP {α:Type} (p:α→Bool):∀ l:List α,S l (fun a=>if p a=true then 1 else 0)=(l.countP p:Int)
  | []=>rfl
  | a::l=>by rw [S_cons,S_countP p l,List.countP_cons];split <;> simp_all <;> omega
theorem deg_nb {n:Nat} {es:List (Int×Int)} (h:vGraph n es=true) {v:Nat} (hv:v < n):deg es v=S (List.range n) (fun u=>if u=v then 0 else if mk u v ∈ es then 1 else 0):=by
  have h1:=deg_filter (vG_iff.1 h).2.2 (fun e=>decide (e ∈ es)) hv
  rw [← vG_filter h] at h1
  rw [h1]
  exact S_congr fun u _=>by simp only [decide_eq_true_eq]
theorem nest_deg {n:Nat} {es:List (Int×Int)} (h:vGraph n es=true) (hn:∀ u v,u < v→v < n→NA n es u v ∨ NA n es v u) {u v:Nat} (hu:u < n) (hv:v < n) (huv:u ≠ v) (hd:deg es v≤deg es u):NA n es v u:=by
  have hor:NA n es u v ∨ NA n es v u:=by
    rcases Nat.lt_or_gt_of_ne huv with h1 | h1
    · exact hn u v h1 hv
    · exact (hn v u h1 hu).symm
  refine hor.elim (fun ha=>?_) id
  have hsp:∀ a b,a < n→b < n→a ≠ b→deg es a=S (List.range n) (fun x=>if x=a ∨ x=b then 0 else if mk x a ∈ es then 1 else 0)+(if mk a b ∈ es then 1 else 0):=fun a b ha hb hab=>by
    have h1:=S_one (List.nodup_range (n:=n)) b
    rw [if_pos (List.mem_range.2 hb)] at h1
    have h2:(if mk a b ∈ es then (1:Int) else 0)=S (List.range n) (fun x=>(if mk a b ∈ es then (1:Int) else 0) * (if b=x then 1 else 0)):=by rw [S_mul,h1];omega
    rw [deg_nb h ha,h2,← S_add]
    refine S_congr fun x _=>?_
    by_cases k1:x=a
    · subst k1
      have:¬ b=x:=fun hh=>hab hh.symm
      simp [this]
    · by_cases k2:x=b
      · subst k2
        rw [mk_comm a x]
        simp [k1]
      · have:¬ b=x:=fun hh=>k2 hh.symm
        simp [k1,k2,this]
  have e1:=hsp u v hu hv huv
  have e2:=hsp v u hv hu (Ne.symm huv)
  rw [mk_comm v u] at e2
  have hnn:∀ x ∈ List.range n,(0:Int)≤(if x=v ∨ x=u then 0 else if mk x v ∈ es then 1 else 0) - (if x=u ∨ x=v then 0 else if mk x u ∈ es then 1 else 0):=fun x hx=>by
    have hx:=List.mem_range.1 hx
    by_cases k:x=u ∨ x=v
    · rw [if_pos k,if_pos k.symm];decide
    · rw [if_neg k,if_neg fun hh=>k hh.symm]
      by_cases m:mk x u ∈ es
      · rw [if_pos m,if_pos (by rw [mk_comm];exact ha x hx (fun hh=>k (.inl hh)) (fun hh=>k (.inr hh)) (by rw [mk_comm];exact m))];decide
      · rw [if_neg m];split <;> decide
  have hz:S (List.range n) (fun x=>(if x=v ∨ x=u then 0 else if mk x v ∈ es then 1 else 0) - (if x=u ∨ x=v then 0 else if mk x u ∈ es then 1 else 0))=0:=by
    have h0:=S_nonneg hnn
    rw [S_sub] at h0 ⊢
    omega
  intro x hx h1 h2 h3
  have:=(S_zero_iff hnn).1 hz x (List.mem_range.2 hx)
  simp only [if_neg (show ¬ (x=v ∨ x=u) from fun hh=>hh.elim h1 h2),if_neg (show ¬ (x=u ∨ x=v) from fun hh=>hh.elim h2 h1),if_pos (show mk x v ∈ es by rw [mk_comm];exact h3)] at this
  by_cases m:mk x u ∈ es
  · rw [mk_comm];exact m
  · rw [if_neg m] at this;omega
theorem init_count (g:Nat→Bool):∀ m,(∀ i j,i < j→j < m→g j=true→g i=true)→∀ i,i < m→(g i=true ↔ i < (List.range m).countP g)
  | 0,_,i,hi=>absurd hi (by omega)
  | m+1,h,i,hi=>by
    have ih:=init_count g m (fun i j h1 h2=>h i j h1 (by omega))
    rw [List.range_succ,List.countP_append,List.countP_singleton]
    have hle:(List.range m).countP g≤m:=by have:=List.countP_le_length (p:=g) (l:=List.range m);simpa using this
    by_cases hm:g m=true
    · have hall:(List.range m).countP g=m:=by
        have h1:(List.range m).countP g=(List.range m).length:=List.countP_eq_length.2 fun a ha=>h a m (List.mem_range.1 ha) (by omega) hm
        simpa using h1
      rw [if_pos hm,hall]
      refine ⟨fun _=>by omega,fun _=>?_⟩
      by_cases hq:i=m
      · rw [hq];exact hm
      · exact h i m (by omega) (by omega) hm
    · rw [if_neg hm,Nat.add_zero]
      by_cases hq:i=m
      · subst hq
        refine ⟨fun h=>absurd h hm,fun h=>by omega⟩
      · exact ih i (by omega)
theorem skip_all:∀ n,n≤7→∀ k,k < n→(List.range n).filter (fun i=>decide (i ≠ k))=(List.range (n - 1)).map (fun r=>if r < k then r else r+1):=by decide +kernel
theorem skip_count {n k:Nat} (hn:n≤7) (hk:k < n) (F:Nat→Bool) (hF:∀ i j,i < j→j < n→i ≠ k→j ≠ k→F j=true→F i=true) :
    (∀ i,i < k→(F i=true ↔ i < (List.range n).countP fun i=>decide (i ≠ k) && F i))∧(∀ i,k < i→i < n→(F i=true ↔ i≤(List.range n).countP fun i=>decide (i ≠ k) && F i)):=by
  have h1:((List.range n).countP fun i=>decide (i ≠ k) && F i)=(List.range (n - 1)).countP fun r=>F (if r < k then r else r+1):=by
    have:=List.countP_filter (p:=F) (q:=fun i=>decide (i ≠ k)) (l:=List.range n)
    rw [skip_all n hn k hk,List.countP_map] at this
    rw [show ((List.range n).countP fun i=>decide (i ≠ k) && F i)=(List.range n).countP fun a=>F a && decide (a ≠ k) from List.countP_congr fun i _=>by simp [and_comm]]
    exact this.symm
  rw [h1]
  have ic:=init_count (fun r=>F (if r < k then r else r+1)) (n - 1) (fun i j hij hj h=>by
    refine hF _ (if j < k then j else j+1) ?_ ?_ ?_ ?_ h <;> split <;> (try split) <;> omega)
  refine ⟨fun i hi=>?_,fun i hi hin=>?_⟩
  · have:=ic i (by omega)
    simp only [if_pos hi] at this
    exact this
  · have:=ic (i - 1) (by omega)
    simp only [if_neg (show ¬ i - 1 < k by omega),show i - 1+1=i by omega] at this
    rw [this];omega
theorem nest_yes {n:Nat} {es:List (Int×Int)} (h:vGraph n es=true) (hn:nest n (hasM es)=true):thr (degs n es)=true:=by
  have hn7:=(vG_iff.1 h).2.2
  have hN:=nest_iff.1 hn
  have hin:EdgesIn n es:=fun e he=>by have:=mem_prs.1 ((vG_iff.1 h).2.1 e he);omega
  have hdl:(degs n es).length=n:=by rw [degs,dfold_len];simp
  rw [thr,degs_valid h,Bool.true_and,decide_eq_true_eq]
  have hd:=degs_eq hin
  obtain ⟨π,hπ,hfp⟩:=perm_map_inv (fall_perm (degs n es)) hd
  have hπn:π.Nodup:=hπ.nodup_iff.2 List.nodup_range
  have hπl:π.length=n:=by rw [hπ.length_eq,List.length_range]
  have hlt:∀ i,(hi:i < π.length)→π[i] < n:=fun i hi=>List.mem_range.1 (hπ.mem_iff.1 (List.getElem_mem hi))
  have hdesc:=fall_desc (degs n es)
  have hsl:(fall (degs n es)).length=n:=by rw [fall_len,hdl]
  have hs:∀ i,(hi:i < n)→(fall (degs n es))[i]'(by omega)=deg es (π[i]'(by omega)):=fun i hi=>by
    simp only [hfp,List.getElem_map]
  obtain ⟨F,hF⟩:∃ F:Nat→Nat→Bool,F=fun i j=>decide (mk (π.getD i 0) (π.getD j 0) ∈ es):=⟨_,rfl⟩
  have hFg:∀ i j,(hi:i < n)→(hj:j < n)→F i j=decide (mk (π[i]'(by omega)) (π[j]'(by omega)) ∈ es):=fun i j hi hj=>by
    rw [hF]
    simp only [List.getD_eq_getElem?_getD,List.getElem?_eq_getElem (show i < π.length by omega),List.getElem?_eq_getElem (show j < π.length by omega),Option.getD_some]
  have hFs:∀ i j,F i j=F j i:=fun i j=>by rw [hF];simp only [mk_comm]
  have hinj:∀ i j,(hi:i < n)→(hj:j < n)→i ≠ j→π[i]'(by omega) ≠ π[j]'(by omega):=fun i j hi hj hij hh=>by
    have a1:=hπn.idxOf_getElem i (by omega)
    have a2:=hπn.idxOf_getElem j (by omega)
    rw [hh] at a1
    omega
  have hcnt:∀ k,(hk:k < n)→(fall (degs n es))[k]'(by omega)=(((List.range n).countP fun i=>decide (i ≠ k) && F k i:Nat):Int):=fun k hk=>by
    rw [hs k hk,deg_nb h (hlt k (by omega)),← S_perm hπ,← S_countP]
    have hπm:π=(List.range n).map fun i=>π.getD i 0:=by
      refine List.ext_getElem (by simp [hπl]) fun i k1 k2=>?_
      simp [List.getD_eq_getElem?_getD,List.getElem?_eq_getElem k1]
    obtain ⟨w,hw⟩:∃ w,w=π[k]'(by omega):=⟨_,rfl⟩
    simp only [← hw]
    conv=>lhs;rw [hπm]
    rw [S_map]
    refine S_congr fun i hi=>?_
    have hi:=List.mem_range.1 hi
    have hg:π.getD i 0=π[i]'(by omega):=by rw [List.getD_eq_getElem?_getD,List.getElem?_eq_getElem (show i < π.length by omega)];rfl
    rw [hg]
    by_cases hik:i=k
    · subst hik;simp [hw]
    · rw [if_neg (by rw [hw];exact hinj i k hi hk hik)]
      refine ite_iff ?_ _ _
      rw [hFg k i hk hi,mk_comm,← hw]
      simp [hik]
  have hini:∀ k,k < n→∀ i j,i < j→j < n→i ≠ k→j ≠ k→F k j=true→F k i=true:=fun k hk i j hij hj hik hjk hh=>by
    have hi:i < n:=by omega
    rw [hFg k j hk hj,decide_eq_true_eq] at hh
    rw [hFg k i hk hi,decide_eq_true_eq]
    have hge:deg es (π[j]'(by omega))≤deg es (π[i]'(by omega)):=by
      rw [← hs i hi,← hs j hj]
      exact desc_get hdesc (Nat.le_of_lt hij) (by omega)
    have hna:=nest_deg h hN (hlt i (by omega)) (hlt j (by omega)) (hinj i j hi hj (by omega)) hge
    have:=hna _ (hlt k (by omega)) (hinj k j hk hj (Ne.symm hjk)) (hinj k i hk hi (Ne.symm hik)) (by rw [mk_comm];exact hh)
    rw [mk_comm];exact this
  refine List.ext_getElem (by simp [corrs]) fun k k1 k2=>?_
  have hk:k < n:=by omega
  rw [hcnt k hk]
  simp only [corrs,List.getElem_map,List.getElem_range,corr]
  have hsm:fall (degs n es)=(List.range n).map fun i=>(fall (degs n es)).getD i 0:=by
    refine List.ext_getElem (by simp [hsl]) fun i k1 k2=>?_
    simp [List.getD_eq_getElem?_getD,List.getElem?_eq_getElem k1]
  have hgd:∀ i,(hi:i < n)→(fall (degs n es)).getD i 0=(((List.range n).countP fun j=>decide (j ≠ i) && F i j:Nat):Int):=fun i hi=>by
    rw [← hcnt i hi,List.getD_eq_getElem?_getD,List.getElem?_eq_getElem (by omega)];rfl
  have c1:((fall (degs n es)).take k).countP (fun x=>decide ((k:Int)≤x))=((List.range n).take k).countP fun i=>decide (i ≠ k) && F k i:=by
    conv=>lhs;rw [hsm,← List.map_take,List.countP_map]
    refine List.countP_congr fun i hi=>?_
    have hik:i < k:=by
      rw [List.take_range] at hi
      have:=List.mem_range.1 hi;omega
    have:=(skip_count hn7 (show i < n by omega) (F i) (hini i (by omega))).2 k hik hk
    simp only [Function.comp_apply,hgd i (by omega),decide_eq_true_eq,Bool.and_eq_true]
    rw [hFs k i,this];omega
  have c2:((fall (degs n es)).drop (k+1)).countP (fun x=>decide ((k:Int) < x))=((List.range n).drop (k+1)).countP fun i=>decide (i ≠ k) && F k i:=by
    conv=>lhs;rw [hsm,← List.map_drop,List.countP_map]
    refine List.countP_congr fun i hi=>?_
    obtain ⟨j,hj,rfl⟩:=List.mem_iff_getElem.1 hi
    simp only [List.length_drop,List.length_range] at hj
    simp only [List.getElem_drop,List.getElem_range]
    have hi2:k+1+j < n:=by omega
    have:=(skip_count hn7 hi2 (F (k+1+j)) (hini _ hi2)).1 k (by omega)
    simp only [Function.comp_apply,hgd _ hi2,decide_eq_true_eq,Bool.and_eq_true]
    rw [hFs k,this];omega
  rw [c1,c2]
  have c3:(List.range n).countP (fun i=>decide (i ≠ k) && F k i)=((List.range n).take k).countP (fun i=>decide (i ≠ k) && F k i)+((List.range n).drop (k+1)).countP (fun i=>decide (i ≠ k) && F k i):=by
    conv=>lhs;rw [← List.take_append_drop k (List.range n),List.countP_append,List.drop_eq_getElem_cons (show k < (List.range n).length by simpa using hk),List.countP_cons]
    simp
  rw [c3];omega
theorem nestLaw:∀ (n:Nat) es,vGraph n es=true→NestLaw n es:=fun n es h=>by
  have hin:=(vG_iff.1 h).2.1
  have hn7:=(vG_iff.1 h).2.2
  have key:∀ es,vGraph n es=true→thr (degs n es)=nest n (hasM es):=fun es h=>by
    cases hq:nest n (hasM es) with
    | false=>exact nest_no h hq
    | true=>exact nest_yes h hq
  refine ⟨?_,key es h,?_⟩
  · have:has es=hasM es:=funext fun a=>funext fun b=>has_hasM hin a b
    rw [this]
  · rw [← key es h,← key _ (compM_vG hn7 es),degs_compM h]
    exact (thrLaw _ (degs_valid h)).com
end Go.Idl
namespace Go.Idl
theorem may_no {n:Nat} {es:List (Int×Int)} (h:vGraph n es=true) {a b c d:Int} (hm:mayI es a b c d=true):thr (degs n es)=false:=by
  have hn7:=(vG_iff.1 h).2.2
  have hl:=swLaw n es a b c d h
  have q3:=(swX_ok h hm).2.2.1
  have hdl:(degs n es).length=n:=by rw [degs,dfold_len];simp
  have m4:=(mayI_iff.1 hm).2.2.2.1
  have hne:sw es a b c d ≠ es:=fun hh=>by
    have:((min a c,max a c):Int×Int) ∈ sw es a b c d:=mem_sw.2 (.inr (.inl rfl))
    rw [hh] at this
    exact m4 this
  have r1:es ∈ reals (degs n es):=(mem_reals (by omega) _).2 (by rw [hdl];exact ⟨h,rfl⟩)
  have r2:sw es a b c d ∈ reals (degs n es):=(mem_reals (by omega) _).2 (by rw [hdl];exact ⟨q3,hl.deg hm⟩)
  cases ht:thr (degs n es) with
  | false=>rfl
  | true =>
    have h1:=thr_one (degs_valid h) ht
    have h2:[es,sw es a b c d].length≤(reals (degs n es)).length:=len_sub (by simpa using hne.symm) (fun z hz=>by
      simp only [List.mem_cons,List.not_mem_nil,or_false] at hz
      rcases hz with rfl | rfl
      · exact r1
      · exact r2)
    simp at h2
    omega
theorem mem_row2 {es:List (Int×Int)} {e f:Int×Int} {s:Q4}:s ∈ row2 es e f ↔ mayS es s.1 s.2.1 s.2.2.1 s.2.2.2=true∧(s=(e.1,e.2,f.1,f.2) ∨ s=(e.1,e.2,f.2,f.1)):=by
  rw [row2,List.mem_append]
  constructor
  · rintro (h | h)
    · split at h
      · rename_i hq
        rw [List.mem_singleton] at h
        subst h
        exact ⟨hq,.inl rfl⟩
      · cases h
    · split at h
      · rename_i hq
        rw [List.mem_singleton] at h
        subst h
        exact ⟨hq,.inr rfl⟩
      · cases h
  · rintro ⟨h,rfl | rfl⟩
    · left;rw [if_pos h];simp
    · right;rw [if_pos h];simp
theorem mem_swl {es:List (Int×Int)} {s:Q4}:∀ {r:List (Int×Int)},s ∈ swl es r ↔ ∃ e f,[e,f].Sublist r∧s ∈ row2 es e f
  | []=>by
    rw [swl]
    constructor
    · intro h;cases h
    · rintro ⟨e,f,h,-⟩;cases h
  | x::r=>by
    rw [swl,List.mem_append,List.mem_flatMap,mem_swl]
    constructor
    · rintro (⟨f,hf,h⟩ | ⟨e,f,h1,h2⟩)
      · exact ⟨x,f,(List.singleton_sublist.2 hf).cons₂ x,h⟩
      · exact ⟨e,f,h1.cons x,h2⟩
    · rintro ⟨e,f,h1,h2⟩
      rcases List.sublist_cons_iff.1 h1 with h | ⟨t,ht,h⟩
      · exact .inr ⟨e,f,h,h2⟩
      · cases ht
        exact .inl ⟨f,List.singleton_sublist.1 h,h2⟩
structure SwIn (n:Nat) (es:List (Int×Int)) (s:Q4):Prop where
  may:mayI es s.1 s.2.1 s.2.2.1 s.2.2.2=true
  lt:s.1 < s.2.1
  bel:below (s.1,s.2.1) (min s.2.2.1 s.2.2.2,max s.2.2.1 s.2.2.2)=true
theorem swl_in {n:Nat} {es:List (Int×Int)} (h:vGraph n es=true) {s:Q4} (hs:s ∈ swl es es):SwIn n es s:=by
  obtain ⟨e,f,h1,h2⟩:=mem_swl.1 hs
  obtain ⟨h3,h4⟩:=mem_row2.1 h2
  have hv:=vG_iff.1 h
  have hp:PW [e,f]:=hv.1.sublist h1
  have he:=mem_prs.1 (hv.2.1 e (h1.subset (by simp)))
  have hf:=mem_prs.1 (hv.2.1 f (h1.subset (by simp)))
  have hb:below e f=true:=(List.pairwise_cons.1 hp).1 f (by simp)
  rw [may_eq h] at h3
  rcases h4 with rfl | rfl
  · refine ⟨h3,by simp only;omega,?_⟩
    simp only
    rw [show min f.1 f.2=f.1 by omega,show max f.1 f.2=f.2 by omega]
    exact hb
  · refine ⟨h3,by simp only;omega,?_⟩
    simp only
    rw [show min f.2 f.1=f.1 by omega,show max f.2 f.1=f.2 by omega]
    exact hb
theorem sw_tell {n:Nat} {es:List (Int×Int)} (h:vGraph n es=true) {s t:Q4} (hs:SwIn n es s) (ht:SwIn n es t) (hq:sw es s.1 s.2.1 s.2.2.1 s.2.2.2=sw es t.1 t.2.1 t.2.2.1 t.2.2.2):s=t:=by
  obtain ⟨a,b,c,d⟩:=s
  obtain ⟨a',b',c',d'⟩:=t
  obtain ⟨m,l,k⟩:=hs
  obtain ⟨m',l',k'⟩:=ht
  simp only at m l k m' l' k' hq
  obtain ⟨⟨n1,n2,n3,n4,n5,n6⟩,i1,i2,i3,i4⟩:=mayI_iff.1 m
  obtain ⟨⟨n1',n2',n3',n4',n5',n6'⟩,i1',i2',i3',i4'⟩:=mayI_iff.1 m'
  have e1:∀ x:Int×Int,x ∈ es→(x ∉ sw es a b c d ↔ x=(min a b,max a b) ∨ x=(min c d,max c d)):=fun x hx=>by
    rw [mem_sw]
    constructor
    · intro hn
      refine Classical.byContradiction fun hno=>hn (.inl ⟨hx,fun e=>hno (.inl e),fun e=>hno (.inr e)⟩)
    · rintro hh (⟨-,g1,g2⟩ | g | g)
      · exact hh.elim g1 g2
      · exact i3 (g ▸ hx)
      · exact i4 (g ▸ hx)
  have e2:∀ x:Int×Int,x ∈ es→(x ∉ sw es a' b' c' d' ↔ x=(min a' b',max a' b') ∨ x=(min c' d',max c' d')):=fun x hx=>by
    rw [mem_sw]
    constructor
    · intro hn
      refine Classical.byContradiction fun hno=>hn (.inl ⟨hx,fun e=>hno (.inl e),fun e=>hno (.inr e)⟩)
    · rintro hh (⟨-,g1,g2⟩ | g | g)
      · exact hh.elim g1 g2
      · exact i3' (g ▸ hx)
      · exact i4' (g ▸ hx)
  rw [show min a b=a by omega,show max a b=b by omega] at e1 i1
  rw [show min a' b'=a' by omega,show max a' b'=b' by omega] at e2 i1'
  have f1:=(e2 _ i1).1 (by rw [← hq];exact (e1 _ i1).2 (.inl rfl))
  have f2:=(e2 _ i2).1 (by rw [← hq];exact (e1 _ i2).2 (.inr rfl))
  have f3:=(e1 _ i1').1 (by rw [hq];exact (e2 _ i1').2 (.inl rfl))
  rw [below_iff] at k k'
  simp only [Prod.mk.injEq] at f1 f2 f3 k k'
  have hab:a=a'∧b=b':=by omega
  have hcd:min c d=min c' d'∧max c d=max c' d':=by omega
  obtain ⟨rfl,rfl⟩:=hab
  by_cases hc:c=c'
  · have:d=d':=by omega
    subst hc this
    rfl
  · have hx:c'=d∧d'=c:=by omega
    obtain ⟨rfl,rfl⟩:=hx
    exfalso
    have g1:((min a d',max a d'):Int×Int) ∈ sw es a b d' c':=mem_sw.2 (.inr (.inl rfl))
    rw [hq] at g1
    rcases mem_sw.1 g1 with g | g | g
    · exact i3 g.1
    · simp only [Prod.mk.injEq] at g;omega
    · simp only [Prod.mk.injEq] at g;omega
theorem row2_nodup {es:List (Int×Int)} {e f:Int×Int} (h:f.1 ≠ f.2):(row2 es e f).Nodup:=by
  have hne:((e.1,e.2,f.1,f.2):Q4) ≠ (e.1,e.2,f.2,f.1):=fun hh=>by
    simp only [Prod.mk.injEq] at hh
    exact h hh.2.2.1
  rw [row2]
  split <;> split <;> simp [h]
theorem swl_nodup {es:List (Int×Int)}:∀ {r:List (Int×Int)},PW r→(∀ e ∈ r,e.1 < e.2)→(swl es r).Nodup
  | [],_,_=>by rw [swl];exact .nil
  | x::r,hp,hb=>by
    have hp':=List.pairwise_cons.1 hp
    have hbr:∀ e ∈ r,e.1 < e.2:=fun e he=>hb e (by simp [he])
    rw [swl,List.nodup_append]
    refine ⟨?_,swl_nodup hp'.2 hbr,?_⟩
    · rw [List.Nodup,List.pairwise_flatMap]
      refine ⟨fun f hf=>row2_nodup (by have:=hbr f hf;omega),hp'.2.imp_of_mem fun {f g} hf hg hfg s hs t ht hst=>?_⟩
      subst hst
      have h1:=(mem_row2.1 hs).2
      have h2:=(mem_row2.1 ht).2
      have b1:=hbr f hf
      have b2:=hbr g hg
      refine below_ne hfg (Prod.ext ?_ ?_) <;> rcases h1 with rfl | rfl <;> rcases h2 with h2 | h2 <;> simp only [Prod.mk.injEq] at h2 <;> omega
    · intro s hs t ht hst
      subst hst
      obtain ⟨f,hf,hs⟩:=List.mem_flatMap.1 hs
      obtain ⟨e,g,h1,h2⟩:=mem_swl.1 ht
      have k1:=(mem_row2.1 hs).2
      have k2:=(mem_row2.1 h2).2
      have he:e ∈ r:=h1.subset (by simp)
      refine below_ne (hp'.1 e he) (Prod.ext ?_ ?_) <;> rcases k1 with rfl | rfl <;> rcases k2 with k2 | k2 <;> simp only [Prod.mk.injEq] at k2 <;> omega
theorem may_turn {es:List (Int×Int)} {a b c d:Int} (h:mayI es a b c d=true):mayI es b a d c=true:=by
  obtain ⟨⟨n1,n2,n3,n4,n5,n6⟩,i1,i2,i3,i4⟩:=mayI_iff.1 h
  exact mayI_iff.2 ⟨by omega,by rw [Int.min_comm,Int.max_comm];exact i1,by rw [Int.min_comm,Int.max_comm];exact i2,i4,i3⟩
theorem may_swap {es:List (Int×Int)} {a b c d:Int} (h:mayI es a b c d=true):mayI es c d a b=true:=by
  obtain ⟨⟨n1,n2,n3,n4,n5,n6⟩,i1,i2,i3,i4⟩:=mayI_iff.1 h
  exact mayI_iff.2 ⟨by omega,i2,i1,by rw [Int.min_comm,Int.max_comm];exact i3,by rw [Int.min_comm,Int.max_comm];exact i4⟩
theorem pair_sub {e f:Int×Int}:∀ {r:List (Int×Int)},PW r→e ∈ r→f ∈ r→below e f=true→[e,f].Sublist r
  | x::r,hp,he,hf,h=>by
    have hp':=List.pairwise_cons.1 hp
    rcases List.mem_cons.1 he with he1 | he1
    · rcases List.mem_cons.1 hf with hf1 | hf1
      · exact absurd (he1.trans hf1.symm) (below_ne h)
      · rw [he1];exact (List.singleton_sublist.2 hf1).cons₂ _
    · rcases List.mem_cons.1 hf with hf1 | hf1
      · have:=below_asymm (hp'.1 e he1);rw [← hf1,h] at this;cases this
      · exact (pair_sub hp'.2 he1 hf1 h).cons x
theorem may_swl {n:Nat} {es:List (Int×Int)} (h:vGraph n es=true) {a b c d:Int} (hm:mayI es a b c d=true):swl es es ≠ []:=by
  have hv:=vG_iff.1 h
  have fin:∀ a b c d:Int,a < b→below (a,b) (min c d,max c d)=true→mayI es a b c d=true→swl es es ≠ []:=by
    intro a b c d hab hb hm
    obtain ⟨⟨n1,n2,n3,n4,n5,n6⟩,i1,i2,i3,i4⟩:=mayI_iff.1 hm
    rw [show min a b=a by omega,show max a b=b by omega] at i1
    have hs:=pair_sub hv.1 i1 i2 hb
    refine List.ne_nil_of_mem (a:=(a,b,c,d)) (mem_swl.2 ⟨_,_,hs,mem_row2.2 ⟨by rw [may_eq h];exact hm,?_⟩⟩)
    by_cases hcd:c < d
    · left;rw [show min c d=c by omega,show max c d=d by omega]
    · right;rw [show min c d=d by omega,show max c d=c by omega]
  have one:∀ a b c d:Int,below (min a b,max a b) (min c d,max c d)=true→mayI es a b c d=true→swl es es ≠ []:=by
    intro a b c d hb hm
    obtain ⟨⟨n1,n2,n3,n4,n5,n6⟩,i1,i2,i3,i4⟩:=mayI_iff.1 hm
    by_cases hab:a < b
    · rw [show min a b=a by omega,show max a b=b by omega] at hb
      exact fin a b c d hab hb hm
    · rw [show min a b=b by omega,show max a b=a by omega,Int.min_comm,Int.max_comm] at hb
      exact fin b a d c (by omega) hb (may_turn hm)
  obtain ⟨⟨n1,n2,n3,n4,n5,n6⟩,i1,i2,i3,i4⟩:=mayI_iff.1 hm
  rcases below_total (a:=(min a b,max a b)) (b:=(min c d,max c d)) (fun hh=>by simp only [Prod.mk.injEq] at hh;omega) with hb | hb
  · exact one a b c d hb hm
  · exact one c d a b hb (may_swap hm)
structure SwsLaw (n:Nat) (es:List (Int×Int)):Prop where
  may:∀ s ∈ swl es es,mayI es s.1 s.2.1 s.2.2.1 s.2.2.2=true
  dif:(swl es es).Pairwise fun s t=>sw es s.1 s.2.1 s.2.2.1 s.2.2.2 ≠ sw es t.1 t.2.1 t.2.2.1 t.2.2.2
  thr:thr (degs n es)=decide (swl es es=[])
theorem swsLaw (n:Nat) (es:List (Int×Int)) (h:vGraph n es=true):SwsLaw n es where
  may s hs:=(swl_in h hs).may
  dif:=by
    have hv:=vG_iff.1 h
    have hn:=swl_nodup (es:=es) hv.1 (fun e he=>by have:=mem_prs.1 (hv.2.1 e he);omega)
    exact hn.imp_of_mem fun {s t} hs ht hne hq=>hne (sw_tell h (swl_in h hs) (swl_in h ht) hq)
  thr:=by
    cases hl:swl es es with
    | nil =>
      rw [(nestLaw n es h).thr,decide_eq_true rfl]
      rw [nest_iff]
      intro u v huv hvn
      refine Classical.byContradiction fun hno=>?_
      simp only [not_or,NA,Classical.not_forall] at hno
      obtain ⟨⟨x,hx,hxu,hxv,m1,m2⟩,⟨y,hy,hyv,hyu,m3,m4⟩⟩:=hno
      have hxy:x ≠ y:=fun hh=>m4 (hh ▸ m1)
      have hm:mayI es u x y v=true:=mayI_iff.2 ⟨by omega,m1,by
        have:mk y v ∈ es:=by rw [mk_comm];exact m3
        exact this,fun hh=>m4 hh,fun hh=>m2 (by rw [mk_comm];exact hh)⟩
      exact may_swl h hm hl
    | cons s r =>
      rw [decide_eq_false (by simp)]
      exact may_no h (swl_in h (s:=s) (by rw [hl];simp)).may
end Go.Idl
namespace Go.Idl
open Go
@[simp] theorem noLst_sws4 (xs:List Q4) (c:Bool):frzV (IV.lst 4 (sws xs) c)=.lst 4 (sws xs) c:=rfl
theorem ev_equalSwitches (xs:List Q4) (c1 c2:Bool) (hl:xs.length≤1000000):Ev tb zl472 [] [L4 xs c1,L4 xs c2] [] ⟨Bo true,[],[],[]⟩:=by
  have loop:∀ (m i:Nat),i+m=xs.length→wp tb (.loop z472l8) { T:=[(0,L4 xs c1),(1,L4 xs c2),(5,I i)],loc:=[],M:=[] }
      (fun ex st=>ex=.exit 0∧st={ T:=[(0,L4 xs c1),(1,L4 xs c2),(5,I xs.length),(14,Bo false)],loc:=[],M:=[] }):=by
    intro m
    induction m with
    | zero =>
      intro i hi
      have h3:i=xs.length:=hi
      subst h3
      refine wp_loop ?_
      repeat (first|apply wp_as|apply wp_ss|refine wr (by simp;with_reducible rfl) ?_|refine wq (by simp;with_reducible rfl) ?_|refine wt (by simpa) ?_|refine wf (by simpa) ?_|refine xt (by simpa) ?_|refine xf (by simpa) ?_|apply wp_bs|apply wp_b|refine wp_sr ?_|refine wp_sx ?_|refine wp_ret' ?_|refine wp_skip' ?_|refine wp_exit' ?_)
      exact ⟨rfl,rfl⟩
    | succ m ih =>
      intro i hi
      have hi2:i < xs.length:=by omega
      have w1:IntKind.i64.wrap ((i:Int)+1)=((i+1:Nat):Int):=wrapS (by omega)
      obtain ⟨⟨a,b,x,y⟩,hx⟩:∃ s,s=xs[i]:=⟨_,rfl⟩
      have hx2:=hx.symm
      have hn:=ih (i+1) (by omega)
      refine wp_loop ?_
      repeat (first|apply wp_as|apply wp_ss|refine wr (by simp [hi2,hx2,w1];with_reducible rfl) ?_|refine wq (by simp [hi2,hx2,w1];with_reducible rfl) ?_|refine wt (by simpa [hi2,hx2,w1]) ?_|refine wf (by simpa [hi2,hx2,w1]) ?_|refine xt (by simpa [hi2,hx2,w1]) ?_|refine xf (by simpa [hi2,hx2,w1]) ?_|apply wp_bs|apply wp_b|refine wp_sr ?_|refine wp_sx ?_|refine wp_ret' ?_|refine wp_skip' ?_|refine wp_exit' ?_)
      exact hn
  have loop:=loop xs.length 0 (by omega)
  rw [show ((0:Nat):Int)=0 from rfl] at loop
  refine call_of_wp zt472 rfl ?_
  repeat (first|apply wp_as|apply wp_ss|refine wr (by simp;with_reducible rfl) ?_|refine wq (by simp;with_reducible rfl) ?_|refine wt (by simpa) ?_|refine wf (by simpa) ?_|refine xt (by simpa) ?_|refine xf (by simpa) ?_|apply wp_bs|apply wp_b|refine wp_sr ?_|refine wp_sx ?_|refine wp_ret' ?_|refine wp_skip' ?_|refine wp_exit' ?_)
  refine wp_imp loop ?_
  rintro ex st ⟨rfl,rfl⟩
  simp only [if_true]
  repeat (first|apply wp_as|apply wp_ss|refine wr (by simp;with_reducible rfl) ?_|refine wq (by simp;with_reducible rfl) ?_|refine wt (by simpa) ?_|refine wf (by simpa) ?_|refine xt (by simpa) ?_|refine xf (by simpa) ?_|apply wp_bs|apply wp_b|refine wp_sr ?_|refine wp_sx ?_|refine wp_ret' ?_|refine wp_skip' ?_|refine wp_exit' ?_)
  simp [zi472]
theorem ev_equalSwitches_Z (x:IV) (hx:x=Z ∨ ∃ c,x=L4 [] c):Ev tb zl472 [] [Z,x] [] ⟨Bo true,[],[],[]⟩:=by
  rcases hx with rfl | ⟨c,rfl⟩
  · refine call_of_wp zt472 rfl ?_
    repeat (first|apply wp_as|apply wp_ss|refine wr (by simp;with_reducible rfl) ?_|refine wq (by simp;with_reducible rfl) ?_|refine wt (by simpa) ?_|refine wf (by simpa) ?_|refine xt (by simpa) ?_|refine xf (by simpa) ?_|apply wp_bs|apply wp_b|refine wp_sr ?_|refine wp_sx ?_|refine wp_ret' ?_|refine wp_skip' ?_|refine wp_exit' ?_)
    refine wp_loop ?_
    repeat (first|apply wp_as|apply wp_ss|refine wr (by simp;with_reducible rfl) ?_|refine wq (by simp;with_reducible rfl) ?_|refine wt (by simpa) ?_|refine wf (by simpa) ?_|refine xt (by simpa) ?_|refine xf (by simpa) ?_|apply wp_bs|apply wp_b|refine wp_sr ?_|refine wp_sx ?_|refine wp_ret' ?_|refine wp_skip' ?_|refine wp_exit' ?_)
    simp [zi472]
  · refine call_of_wp zt472 rfl ?_
    repeat (first|apply wp_as|apply wp_ss|refine wr (by simp;with_reducible rfl) ?_|refine wq (by simp;with_reducible rfl) ?_|refine wt (by simpa) ?_|refine wf (by simpa) ?_|refine xt (by simpa) ?_|refine xf (by simpa) ?_|apply wp_bs|apply wp_b|refine wp_sr ?_|refine wp_sx ?_|refine wp_ret' ?_|refine wp_skip' ?_|refine wp_exit' ?_)
    refine wp_loop ?_
    repeat (first|apply wp_as|apply wp_ss|refine wr (by simp;with_reducible rfl) ?_|refine wq (by simp;with_reducible rfl) ?_|refine wt (by simpa) ?_|refine wf (by simpa) ?_|refine xt (by simpa) ?_|refine xf (by simpa) ?_|apply wp_bs|apply wp_b|refine wp_sr ?_|refine wp_sx ?_|refine wp_ret' ?_|refine wp_skip' ?_|refine wp_exit' ?_)
    simp [zi472]
theorem ev_DrawSwitchesOf (code:List Int) (c:Bool) (h:∀ x ∈ code,0≤x∧x≤255) (hl:code.length≤10000000) :
    ∃ (n:Int) (es:List (Int×Int)),SmallG n es∧limF tb zl569 [] [.lst 1 (bytes code) c] []=some ⟨Gr n es false,[],[],[]⟩:=by
  obtain ⟨c',e⟩:=ev_newReader code c [[[I 0,Z]]] (by omega)
  have e1:=ev_lim e
  obtain ⟨n,es,k,h1,h2,e2⟩:=ev_someGraph (code.take 2000) c' (code_ok h) 0 (by omega) [[I 0,Z]] [] []
  refine ⟨n,es,h1,ev_lim ?_⟩
  rw [show ((0:Nat):Int)=0 from rfl] at e2
  simp only [List.length_cons,List.length_nil,List.cons_append,List.nil_append,Nat.zero_add] at e2
  refine call_of_wp zt569 rfl ?_
  repeat (first|apply wp_as|apply wp_ss|refine wr (by simp [e1,e2];with_reducible rfl) ?_|refine wq (by simp [e1,e2];with_reducible rfl) ?_|refine wt (by simpa [e1,e2]) ?_|refine wf (by simpa [e1,e2]) ?_|refine xt (by simpa [e1,e2]) ?_|refine xf (by simpa [e1,e2]) ?_|apply wp_bs|apply wp_b|refine wp_sr ?_|refine wp_sx ?_|refine wp_ret' ?_|refine wp_skip' ?_|refine wp_exit' ?_)
  simp [zi569]
theorem so_in (n:Nat) (es hs:List (Int×Int)) (hhl:hs.length≤1000) (G:List Q4) (k kb:Nat) (R:GF) (hR:∀ x ∈ R,x.1 ≠ hs∧x.1.length≤1000) (hRl:R.length≤1000000) (B:Boxes) (hB:B[kb]? = some [I n,L2 hs false]):∀ (m i:Nat),i+m=R.length →
    wp tb (.loop z606l18) { T:=[(3,.bptr 0 0 0),(4,O4 G),(5,.own 2 (glf n R)),(6,I k),(7,.bptr 0 (kb+1) 0),(9,I i)],loc:=[I n,L2 es false]::B,M:=[] }
      (fun ex st=>ex=.exit 2∧st={ T:=[(3,.bptr 0 0 0),(4,O4 G),(5,.own 2 (glf n R)),(6,I k),(7,.bptr 0 (kb+1) 0),(9,I R.length),(52,Bo false)],loc:=[I n,L2 es false]::B,M:=[] }):=by
  intro m
  induction m with
  | zero =>
    intro i hi
    have h3:i=R.length:=hi
    subst h3
    refine wp_loop ?_
    repeat (first|apply wp_as|apply wp_ss|refine wr (by simp;with_reducible rfl) ?_|refine wq (by simp;with_reducible rfl) ?_|refine wt (by simpa) ?_|refine wf (by simpa) ?_|refine xt (by simpa) ?_|refine xf (by simpa) ?_|apply wp_bs|apply wp_b|refine wp_sr ?_|refine wp_sx ?_|refine wp_ret' ?_|refine wp_skip' ?_|refine wp_exit' ?_)
    exact ⟨rfl,rfl⟩
  | succ m ih =>
    intro i hi
    have hi2:i < R.length:=by omega
    have w1:IntKind.i64.wrap ((i:Int)+1)=((i+1:Nat):Int):=wrapS (by omega)
    obtain ⟨⟨xs,cx⟩,hx⟩:∃ s,s=R[i]:=⟨_,rfl⟩
    have hx2:=hx.symm
    obtain ⟨r1,r2⟩:=hR _ (List.getElem_mem hi2)
    rw [hx2] at r1 r2
    have e1:=fun c1 c2=>ev_lim (ev_equalGraph n n xs hs (L2 xs c1) (L2 hs c2) (.inl ⟨_,rfl⟩) (.inl ⟨_,rfl⟩) (by simp only at r2;omega) (by omega))
    rw [decide_eq_false r1,Bool.and_false] at e1
    have hn:=ih (i+1) (by omega)
    refine wp_loop ?_
    repeat (first|apply wp_as|apply wp_ss|refine wr (by simp [hi2,hx2,hB,e1,w1];with_reducible rfl) ?_|refine wq (by simp [hi2,hx2,hB,e1,w1];with_reducible rfl) ?_|refine wt (by simpa [hi2,hx2,hB,e1,w1]) ?_|refine wf (by simpa [hi2,hx2,hB,e1,w1]) ?_|refine xt (by simpa [hi2,hx2,hB,e1,w1]) ?_|refine xf (by simpa [hi2,hx2,hB,e1,w1]) ?_|apply wp_bs|apply wp_b|refine wp_sr ?_|refine wp_sx ?_|refine wp_ret' ?_|refine wp_skip' ?_|refine wp_exit' ?_)
    exact hn
abbrev swF (es:List (Int×Int)) (G:List Q4):GF:=G.map fun s=>(sw es s.1 s.2.1 s.2.2.1 s.2.2.2,false)
set_option maxHeartbeats 8000000 in
theorem so_out (n:Nat) (es:List (Int×Int)) (hv:vGraph n es=true) (G:List Q4) (hGl:G.length≤100000) (hm:∀ s ∈ G,mayI es s.1 s.2.1 s.2.2.1 s.2.2.2=true) (hd:G.Pairwise fun s t=>sw es s.1 s.2.1 s.2.2.1 s.2.2.2 ≠ sw es t.1 t.2.1 t.2.2.1 t.2.2.2):∀ (m k:Nat) (B:Boxes),k+m=G.length →
    wp tb (.loop z606l21) { T:=[(3,.bptr 0 0 0),(4,O4 G),(5,.own 2 (glf n (swF es (G.take k)))),(6,I k)],loc:=[I n,L2 es false]::B,M:=[] }
      (fun ex st=>ex=.exit 0∧∃ B',st={ T:=[(3,.bptr 0 0 0),(4,O4 G),(5,.own 2 (glf n (swF es G))),(6,I G.length),(35,Bo false)],loc:=[I n,L2 es false]::B',M:=[] }):=by
  have hn7:=(vG_iff.1 hv).2.2
  have h21:=vG21 hn7 hv
  have hf:Fit es:=fun e he=>by have:=mem_prs.1 ((vG_iff.1 hv).2.1 e he);omega
  intro m
  induction m with
  | zero =>
    intro k B hk
    have h3:k=G.length:=hk
    subst h3
    rw [List.take_length]
    refine wp_loop ?_
    repeat (first|apply wp_as|apply wp_ss|refine wr (by simp;with_reducible rfl) ?_|refine wq (by simp;with_reducible rfl) ?_|refine wt (by simpa) ?_|refine wf (by simpa) ?_|refine xt (by simpa) ?_|refine xf (by simpa) ?_|apply wp_bs|apply wp_b|refine wp_sr ?_|refine wp_sx ?_|refine wp_ret' ?_|refine wp_skip' ?_|refine wp_exit' ?_)
    exact ⟨rfl,_,rfl⟩
  | succ m ih =>
    intro k B hk
    have hk2:k < G.length:=by omega
    have w1:IntKind.i64.wrap ((k:Int)+1)=((k+1:Nat):Int):=wrapS (by omega)
    have htk:G.take (k+1)=G.take k++[G[k]]:=by rw [List.take_succ,List.getElem?_eq_getElem hk2];rfl
    have hmk:=hm _ (List.getElem_mem hk2)
    have hdk:∀ x ∈ swF es (G.take k),x.1 ≠ sw es (G[k]).1 (G[k]).2.1 (G[k]).2.2.1 (G[k]).2.2.2∧x.1.length≤1000:=fun x hx=>by
      obtain ⟨s,hs,rfl⟩:=List.mem_map.1 hx
      obtain ⟨j,hj,hjs⟩:=List.getElem_of_mem hs
      have hjk:j < k:=by rw [List.length_take] at hj;omega
      rw [List.getElem_take] at hjs
      subst hjs
      refine ⟨List.pairwise_iff_getElem.1 hd j k (by omega) hk2 hjk,?_⟩
      have hjG:j < G.length:=by omega
      have:=vG21 hn7 (swX_ok hv (hm G[j] (List.getElem_mem hjG))).2.2.1
      simp only;omega
    have hn:=fun B=>ih (k+1) B (by omega)
    rw [htk] at hn
    obtain ⟨⟨a,b,x,y⟩,hx⟩:∃ s,s=G[k]:=⟨_,rfl⟩
    have hx2:=hx.symm
    rw [hx2] at hmk hdk hn
    simp only at hmk hdk
    have hlen:=vG21 hn7 (swX_ok hv hmk).2.2.1
    have e1:=fun cc=>ev_lim (ev_SwitchEdges n es cc a b x y hv hf (by omega))
    simp only [OS,hmk,if_true] at e1
    have hmap:swF es (G.take k++[(a,b,x,y)])=swF es (G.take k)++[(sw es a b x y,false)]:=by simp [swF]
    rw [hmap] at hn
    have hRl:(swF es (G.take k)).length=k:=by simp [swF];omega
    generalize sw es a b x y=hs at *
    generalize swF es (G.take k)=R at *
    have inner:=fun B hB=>so_in n es hs (by omega) G k B.length R hdk (by omega) (B++[[I n,L2 hs false]]) hB R.length 0 (by omega)
    have inner:=fun B=>inner B (by simp)
    rw [show ((0:Nat):Int)=0 from rfl] at inner
    have hT:∀ q:List (Int×Int)×Bool,List.take (k+1) (R++[q])=R++[q]:=fun q=>List.take_of_length_le (by simp;omega)
    have hT2:List.take k R=R:=List.take_of_length_le (by omega)
    have hlim:k+1≤274877906944:=by omega
    rw [hRl] at inner
    refine wp_loop ?_
    repeat (first|apply wp_as|apply wp_ss|refine wr (by simp [hk2,hx2];with_reducible rfl) ?_|refine wq (by simp [hk2,hx2];with_reducible rfl) ?_|refine wt (by simpa [hk2,hx2]) ?_|refine wf (by simpa [hk2,hx2]) ?_|refine xt (by simpa [hk2,hx2]) ?_|refine xf (by simpa [hk2,hx2]) ?_|apply wp_bs|apply wp_b|refine wp_sr ?_|refine wp_sx ?_|refine wp_ret' ?_|refine wp_skip' ?_|refine wp_exit' ?_)
    refine wp_rds rfl (by simp [e1,hk2,hx2];with_reducible rfl) (by simp;with_reducible rfl) ?_ ?_
    · intro p hp
      simp only [List.mem_cons,List.not_mem_nil,or_false] at hp
      rcases hp with rfl | rfl
      · exact ⟨_,by simp [e1,hk2,hx2];with_reducible rfl,by simp⟩
      · exact ⟨_,by simp [e1,hk2,hx2];with_reducible rfl,by simp⟩
    repeat (first|apply wp_as|apply wp_ss|refine wr (by simp;with_reducible rfl) ?_|refine wq (by simp;with_reducible rfl) ?_|refine wt (by simpa) ?_|refine wf (by simpa) ?_|refine xt (by simpa) ?_|refine xf (by simpa) ?_|apply wp_bs|apply wp_b|refine wp_sr ?_|refine wp_sx ?_|refine wp_ret' ?_|refine wp_skip' ?_|refine wp_exit' ?_)
    refine wp_imp (inner _) ?_
    rintro ex st ⟨rfl,rfl⟩
    simp only [if_true]
    repeat (first|apply wp_as|apply wp_ss|refine wr (by simp [w1,hRl,hT,hT2,hlim,glf_one];with_reducible rfl) ?_|refine wq (by simp [w1,hRl,hT,hT2,hlim,glf_one];with_reducible rfl) ?_|refine wt (by simpa [w1,hRl,hT,hT2,hlim,glf_one]) ?_|refine wf (by simpa [w1,hRl,hT,hT2,hlim,glf_one]) ?_|refine xt (by simpa [w1,hRl,hT,hT2,hlim,glf_one]) ?_|refine xf (by simpa [w1,hRl,hT,hT2,hlim,glf_one]) ?_|apply wp_bs|apply wp_b|refine wp_sr ?_|refine wp_sx ?_|refine wp_ret' ?_|refine wp_skip' ?_|refine wp_exit' ?_)
    exact hn _
set_option maxHeartbeats 4000000 in
theorem ev_FnSwitchesOf (code:List Int) (cl:Bool) (h:∀ x ∈ code,0≤x∧x≤255) :
    Ev tb zl606 [] [.lst 1 (bytes code) cl] [] ⟨Bo true,[],[],[]⟩:=by
  by_cases hc:(1048576:Int) < code.length
  · refine call_of_wp zt606 rfl ?_
    repeat (first|apply wp_as|apply wp_ss|refine wr (by simp [hc];with_reducible rfl) ?_|refine wq (by simp [hc];with_reducible rfl) ?_|refine wt (by simpa [hc]) ?_|refine wf (by simpa [hc]) ?_|refine xt (by simpa [hc]) ?_|refine xf (by simpa [hc]) ?_|apply wp_bs|apply wp_b|refine wp_sr ?_|refine wp_sx ?_|refine wp_ret' ?_|refine wp_skip' ?_|refine wp_exit' ?_)
    simp [zi606]
  obtain ⟨n,es,hS,e1⟩:=ev_DrawSwitchesOf code cl h (by omega)
  have hlen:=hS.len
  have v1:=ev_lim (ev_ValidGraph n es false hS.fit (by omega))
  have ez:=ev_lim (ev_equalSwitches_Z Z (.inl rfl))
  cases hv:vGraph n es with
  | false =>
    rw [hv] at v1
    have e2:=ev_lim (ev_SwitchesOf_no n es false hS.fit (by omega) hv)
    have e3:=ev_lim (ev_spec_SwitchesOf_no n es false (by omega) hv)
    refine call_of_wp zt606 rfl ?_
    repeat (first|apply wp_as|apply wp_ss|refine wr (by simp [hc,e1,e2,e3,v1,ez];with_reducible rfl) ?_|refine wq (by simp [hc,e1,e2,e3,v1,ez];with_reducible rfl) ?_|refine wt (by simpa [hc,e1,e2,e3,v1,ez]) ?_|refine wf (by simpa [hc,e1,e2,e3,v1,ez]) ?_|refine xt (by simpa [hc,e1,e2,e3,v1,ez]) ?_|refine xf (by simpa [hc,e1,e2,e3,v1,ez]) ?_|apply wp_bs|apply wp_b|refine wp_sr ?_|refine wp_sx ?_|refine wp_ret' ?_|refine wp_skip' ?_|refine wp_exit' ?_)
    simp [zi606]
  | true =>
  have hn:=vG_n hv
  obtain ⟨n,rfl⟩:=Int.eq_ofNat_of_zero_le hn.1
  rw [hv] at v1
  have hn7:=(vG_iff.1 hv).2.2
  have h21:=vG21 hn7 hv
  obtain ⟨l1,l2,l3⟩:=swsLaw n es hv
  have e2:=ev_lim (ev_SwitchesOf n es false hv)
  have e3:=ev_lim (ev_spec_SwitchesOf n es false (by omega) hv)
  have e5:=ev_lim (ev_impl_DegreesOf n es false hS.fit (by omega) hv)
  have hdl:(degs n es).length=n:=degs_len n es
  have e6:=ev_lim (ev_IsThreshold (degs n es) false (by omega))
  rw [l3] at e6
  have hGl:=swl_len es es (by omega)
  have ey:=ev_lim (ev_equalSwitches_Z (L4 [] false) (.inr ⟨_,rfl⟩))
  have ex:=fun c1 c2=>ev_lim (ev_equalSwitches (swl es es) c1 c2 (by omega))
  have loop:=so_out n es hv (swl es es) (by omega) l1 l2 (swl es es).length 0 [] (by omega)
  rw [show ((0:Nat):Int)=0 from rfl,List.take_zero,show swF es []=[] from rfl,glf_nil] at loop
  generalize swl es es=G at *
  generalize degs n es=D at *
  cases G with
  | nil =>
    simp only [nl4,O4,L4,sws_nil] at e2 e3 ey
    refine call_of_wp zt606 rfl ?_
    repeat (first|apply wp_as|apply wp_ss|refine wr (by simp [hc,e1,e2,e3,v1,ey];with_reducible rfl) ?_|refine wq (by simp [hc,e1,e2,e3,v1,ey];with_reducible rfl) ?_|refine wt (by simpa [hc,e1,e2,e3,v1,ey]) ?_|refine wf (by simpa [hc,e1,e2,e3,v1,ey]) ?_|refine xt (by simpa [hc,e1,e2,e3,v1,ey]) ?_|refine xf (by simpa [hc,e1,e2,e3,v1,ey]) ?_|apply wp_bs|apply wp_b|refine wp_sr ?_|refine wp_sx ?_|refine wp_ret' ?_|refine wp_skip' ?_|refine wp_exit' ?_)
    refine wp_loop ?_
    repeat (first|apply wp_as|apply wp_ss|refine wr (by simp [e5,e6];with_reducible rfl) ?_|refine wq (by simp [e5,e6];with_reducible rfl) ?_|refine wt (by simpa [e5,e6]) ?_|refine wf (by simpa [e5,e6]) ?_|refine xt (by simpa [e5,e6]) ?_|refine xf (by simpa [e5,e6]) ?_|apply wp_bs|apply wp_b|refine wp_sr ?_|refine wp_sx ?_|refine wp_ret' ?_|refine wp_skip' ?_|refine wp_exit' ?_)
    simp [zi606]
  | cons s r =>
    simp only [nl4] at e2
    generalize hG:s::r=G at *
    have hGn:¬ G=[]:=by rw [← hG];simp
    have hGn2:¬ G.length=0:=fun h=>hGn (List.length_eq_zero_iff.1 h)
    have hGn3:¬ (G.length:Int)=0:=by omega
    rw [decide_eq_false hGn] at e6
    refine call_of_wp zt606 rfl ?_
    repeat (first|apply wp_as|apply wp_ss|refine wr (by simp [hc,e1,e2,e3,v1,ex];with_reducible rfl) ?_|refine wq (by simp [hc,e1,e2,e3,v1,ex];with_reducible rfl) ?_|refine wt (by simpa [hc,e1,e2,e3,v1,ex]) ?_|refine wf (by simpa [hc,e1,e2,e3,v1,ex]) ?_|refine xt (by simpa [hc,e1,e2,e3,v1,ex]) ?_|refine xf (by simpa [hc,e1,e2,e3,v1,ex]) ?_|apply wp_bs|apply wp_b|refine wp_sr ?_|refine wp_sx ?_|refine wp_ret' ?_|refine wp_skip' ?_|refine wp_exit' ?_)
    refine wp_imp loop ?_
    rintro ex st ⟨rfl,B',rfl⟩
    simp only [if_true]
    repeat (first|apply wp_as|apply wp_ss|refine wr (by simp [e5,e6,hGn,hGn2,hGn3];with_reducible rfl) ?_|refine wq (by simp [e5,e6,hGn,hGn2,hGn3];with_reducible rfl) ?_|refine wt (by simpa [e5,e6,hGn,hGn2,hGn3]) ?_|refine wf (by simpa [e5,e6,hGn,hGn2,hGn3]) ?_|refine xt (by simpa [e5,e6,hGn,hGn2,hGn3]) ?_|refine xf (by simpa [e5,e6,hGn,hGn2,hGn3]) ?_|apply wp_bs|apply wp_b|refine wp_sr ?_|refine wp_sx ?_|refine wp_ret' ?_|refine wp_skip' ?_|refine wp_exit' ?_)
    simp [zi606]
    exact hGn
end Go.Idl
