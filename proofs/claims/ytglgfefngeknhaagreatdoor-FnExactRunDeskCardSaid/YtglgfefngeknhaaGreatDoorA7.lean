/- Part 7 of a proof by an ideal interpreter of the code: its definitions and lemmas. Conditions: none. -/
import Derived.KernelRfl
import Derived.SliceStrings
import Derived.Test.YtglgfefngeknhaaGreatDoorA6
set_option linter.all false
set_option linter.unusedVariables false
set_option linter.unusedSimpArgs false
namespace Go.Idl
def Qoo (left:List Int) (a b:Int):Prop:=left.getD b.toNat 0 < left.getD a.toNat 0 \/ (left.getD a.toNat 0=left.getD b.toNat 0/\a < b)
theorem Qop {left:List Int} {a b c:Int} (h:Qoo left a b) (k:Qoo left b c):Qoo left a c:=by
 simp only [Qoo] at *;omega
theorem Qxn {left:List Int} {a:Int} (h:Qoo left a a):False:=by
 simp only [Qoo] at h;omega
theorem Qxc {left:List Int} {x:Int}:∀ (r B:List Int),(r.reverse++B).Pairwise (Qoo left)->(∀ y ∈ r,y < x)->(∀ b ∈ B,left.getD b.toNat 0 < left.getD x.toNat 0)->(Qnd (gtD left) x r B).Pairwise (Qoo left)
 | [],B,h,_,hb=>Kbe.2 ⟨fun b hb'=>.inl (hb b hb'),by simpa using h⟩
 | a::r,B,h,hr,hb=>by
   rw [Kcv,Kal] at h;unfold Qnd;split
   . rename_i hx;refine Qxc r (a::B) h (fun y hy=>hr y (by simp [hy])) fun b hb'=>?_;rcases Kaf.1 hb' with rfl | hb'
     . simpa [gtD] using hx
     . exact hb b hb'
   . rename_i hx;have hx:left.getD x.toNat 0<=left.getD a.toNat 0:=by
      simp only [gtD,Kai] at hx;omega
     have hax:Qoo left a x:=by
      have:=hr a (by simp);simp only [Qoo];omega
     obtain ⟨h1,h2,h3⟩:=Kdt.1 (show (r.reverse++a::B).Pairwise (Qoo left) from h);have h2:=Kbe.1 h2;refine Kdt.2 ⟨h1,?_,fun p hp q hq=>?_⟩
     . refine Kbe.2 ⟨fun q hq=>?_,Kbe.2 ⟨fun b hb'=>.inl (hb b hb'),h2.2⟩⟩;rcases Kaf.1 hq with rfl | hq
       . exact hax
       . exact h2.1 q hq
     . have h4:=h3 p hp a (by simp);rcases Kaf.1 hq with rfl | hq
       . exact h4
       . rcases Kaf.1 hq with rfl | hq
         . exact Qop h4 hax
         . exact h3 p hp q (by simp [hq])
theorem Qqo {left:List Int}:∀ (T S:List Int),S.Pairwise (Qoo left)->(∀ y ∈ S,∀ x ∈ T,y < x)->T.Pairwise (fun a b:Int=>a < b)->(Qem (gtD left) S T).Pairwise (Qoo left)
 | [],S,h,_,_=>h
 | x::r,S,h,hs,ht=>by
   have ht':=Kbe.1 ht;rw [Qem];refine Qqo r _ (Qxc _ _ (by simpa using h) (fun y hy=>hs y (by simpa using hy) x (by simp)) (by simp)) (fun y hy z hz=>?_) ht'.2;have:=(Qdr (gtD left) x S.reverse []).mem_iff.1 hy;simp only [Kde,Kah,Kaf,Kaw,Kcf] at this;rcases this with h1 | rfl
   . exact hs y h1 z (by simp [hz])
   . exact ht'.1 z hz
theorem Qpw (P:Nat->Bool) (left:List Int):∀ (k q:Nat),fmx P left k=(q:Int)->∀ i,i < k->P i=true->i=q \/ Qoo left q i
 | 0,q,h,i,hi,_=>by omega
 | k+1,q,h,i,hi,hp=>by
   rw [fmx] at h;split at h
   . rename_i hc;have hkq:k=q:=by omega
     subst hkq;by_cases hik:i=k
     . exact .inl hik
     . right;simp only [Kac,Kbj,Kai] at hc;rcases hc.2 with hc2 | hc2
       . rcases Qcf P left k with h1 | ⟨q1,_,h1,_⟩
         . have:=Qmg P left k h1 i (by omega);rw [hp] at this;cases this
         . rw [h1] at hc2;omega
       . rcases Qcf P left k with h1 | ⟨q1,_,h1,_⟩
         . have:=Qmg P left k h1 i (by omega);rw [hp] at this;cases this
         . rw [h1,Kax] at hc2;rcases Qpw P left k q1 h1 i (by omega) hp with rfl | h2
           . left;simpa using hc2
           . simp only [Qoo,Kax] at h2 |-;omega
   . rename_i hc;by_cases hik:i=k
     . subst hik;right;simp only [hp,Kbx,Kbj,Kai,not_or] at hc;rw [h,Kax] at hc;have hqi:q < i:=by
        rcases Qcf P left i with h1 | ⟨q1,h2,h1,_⟩
        . rw [h1] at h;omega
        . rw [h1] at h;omega
       simp only [Qoo,Kax];omega
     . exact Qpw P left k q h i (by omega) hp
theorem Qw5 {P:Nat->Bool} {left:List Int} {n:Nat} {i:Int} {r:List Int} (hpw:(i::r).Pairwise (Qoo left)) (hin:∀ x ∈ i::r,0<=x/\x < n) (hP:∀ w:Nat,w < n->(P w=true <-> (w:Int) ∈ i::r)):fmx P left n=i:=by
 have hi:=hin i (by simp);obtain ⟨p,rfl⟩:=Kbm hi.1;have hp:P p=true:=(hP p (by omega)).2 (by simp);rcases Qcf P left n with h | ⟨q,hq,h,hPq⟩
 . have:=Qmg P left n h p (by omega);rw [hp] at this;cases this
 . rw [h];have hm:=(hP q hq).1 hPq;rcases Kaf.1 hm with h1 | h1
   . exact h1
   . have h2:=(Kbe.1 hpw).1 _ h1;rcases Qpw P left n q h p (by omega) hp with h3 | h3
     . rw [h3]
     . exact absurd (Qop h2 h3) Qxn
theorem Jlp {P:Nat->Bool} {left:List Int} {n:Nat} (hP:∀ w:Nat,w < n->P w=false):fmx P left n=-1:=by
 rcases Qcf P left n with h | ⟨q,hq,h,hPq⟩
 . exact h
 . rw [hP q hq] at hPq;cases hPq
theorem Jdw {e:Int×Int}:∀ {es:List (Int×Int)},PW es->e ∉ es->PW (Qtw e es)
 | [],_,_=>by simp [Qtw,PW]
 | x::r,h,hn=>by
   have h':=Kbe.1 h;rw [Qtw];split
   . rename_i hx;refine Kbe.2 ⟨fun y hy=>?_,Jdw h'.2 fun hm=>hn (by simp [hm])⟩;rcases (Qxf _ _ _).1 hy with rfl | hy
     . exact hx
     . exact h'.1 y hy
   . rename_i hx;have hxe:Qal e x=true:=by
      rcases Qcl (a:=e) (b:=x) (fun h=>hn (by simp [h])) with q | q
      . exact q
      . exact absurd q hx
     refine Kbe.2 ⟨fun y hy=>?_,h⟩;rcases Kaf.1 hy with rfl | hy
     . exact hxe
     . exact Qdm hxe (h'.1 y hy)
theorem Jfo {e:Int×Int} {es:List (Int×Int)} (hn:es.Nodup) (he:e ∉ es):Qtw e (Qfl es)=Qfl (es++[e]):=by
 have hn2:(es++[e]).Nodup:=Kan.2 ⟨hn,by simp,fun a ha b hb=>by simp at hb;subst hb;exact fun h=>he (h ▸ ha)⟩;refine Jew (Jdw (Qqp hn) fun h=>he ((Qc2 es).mem_iff.1 h)) (Qqp hn2) fun x=>?_;rw [Qxf,(Qc2 es).mem_iff,(Qc2 _).mem_iff];simp [or_comm]
end Go.Idl
namespace Go.Idl
theorem Qxa (es:List (Int×Int)) (a b:Int):has (Qfl es) a b=has es a b:=by
 rw [has,has];exact (Qc2 es).any_eq
theorem Jdx {v i a b:Int}:isE a b (min v i,max v i)=true <-> (a=v/\b=i) \/ (a=i/\b=v):=by
 simp only [isE,Kbj,Kac,Kai];omega
theorem Jdp (es fs:List (Int×Int)) (a b:Int):has (es++fs) a b=(has es a b || has fs a b):=by simp [has]
theorem Jpl {es:List (Int×Int)} {v i:Int} (h:has es v i=false):(min v i,max v i) ∉ es:=fun hm=>by
 rw [has,List.any_eq_false] at h;exact h _ hm (Jdx.2 (.inl ⟨rfl,rfl⟩))
theorem Qi2 {o:List Int} {i x:Int} (hi:0<=i) (hx:0<=x) (hl:x < o.length):(Qeo o i.toNat).getD x.toNat 0=o.getD x.toNat 0 - (if x=i then 1 else 0):=by
 rw [Jcw (by omega)];by_cases h:x=i
 . subst h;simp
 . rw [if_neg h,if_neg (by omega)]
theorem iteQ {p q:Prop} [Decidable p] [Decidable q] (h:p <-> q):(if p then (1:Int) else 0)=if q then 1 else 0:=by
 by_cases hp:p
 . rw [if_pos hp,if_pos (h.1 hp)]
 . rw [if_neg hp,if_neg fun k=>hp (h.2 k)]
theorem Jpm {v:Int} {n:Nat} {done:List Int} (hv:0<=v/\v < n):∀ (k:Nat) (rest left:List Int) (es:List (Int×Int)),left.length=n->rest.Pairwise (Qoo left)->(∀ x ∈ rest,0<=x/\x < n)->(∀ x ∈ left,0<=x)->es.Nodup ->
 (∀ w:Nat,w < n->(((w:Int) ∉ done/\has es v w=false) <-> (w:Int) ∈ rest)) ->
 Qzp v n done k left (Qfl es)=if k<=rest.length then (Qon v (rest.take k) left es).map (fun q=>(q.1,Qfl q.2)) else none
 | 0,rest,left,es,_,_,_,_,_,_=>by simp [Qzp,Qon]
 | k+1,[],left,es,_,_,_,_,_,hc=>by
   rw [Qzp];have:fmx (fun i=>!decide ((i:Int) ∈ done) && !has (Qfl es) v i) left n=-1:=Jlp fun w hw=>by
    have:¬ ((w:Int) ∉ done/\has es v w=false):=fun h=>by have:=(hc w hw).1 h;cases this
    rw [Qxa];cases h1:has es v w <;> simp [h1] at this |-;exact this
   simp [this]
 | k+1,i::r,left,es,hl,hp,hr,hb,hn,hc=>by
   rw [Qzp];have hi:=hr i (by simp);have hm:fmx (fun i=>!decide ((i:Int) ∈ done) && !has (Qfl es) v i) left n=i:=Qw5 hp hr fun w hw=>by
    rw [Qxa,<- hc w hw];simp
   simp only [hm];have hi0:¬ i < 0:=by omega
   have hil:i.toNat < left.length:=by omega
   have g:left.getD i.toNat 0=left[i.toNat]:=by simp [Kad,Kag hil]
   have g0:0<=left.getD i.toNat 0:=by rw [g];exact hb _ (Kao _)
   rw [Kbc,Kfg,Qon];by_cases hz:left.getD i.toNat 0=0
   . rw [if_pos (.inr (by omega)),if_pos hz];simp
   . rw [if_neg (by omega),if_neg hz];have hhas:has es v i=false:=by
      have:=(hc i.toNat (by omega)).2 (by rw [Int.toNat_of_nonneg hi.1];simp);rw [Int.toNat_of_nonneg hi.1] at this;exact this.2
     have hne:=Jpl hhas;rw [Jfo hn hne];have hp':=Kbe.1 hp;have hri:∀ x ∈ r,x ≠ i:=fun x hx h=>by have:=hp'.1 x hx;rw [h] at this;exact Qxn this
     have ih:=Jpm hv k r (Qeo left i.toNat) (es++[(min v i,max v i)]) (by simp [Qeo,hl]) ?_ (fun x hx=>hr x (by simp [hx])) ?_ ?_ ?_ (done:=done)
     . rw [ih];simp only [Nat.succ_le_succ_iff,Nat.add_le_add_iff_right]
     . refine hp'.2.imp_of_mem fun {a b} ha hb' hab=>?_;have h1:=hr a (by simp [ha]);have h2:=hr b (by simp [hb']);rw [Qoo,Qi2 hi.1 h1.1 (by omega),Qi2 hi.1 h2.1 (by omega),if_neg (hri a ha),if_neg (hri b hb')];simpa [Qoo] using hab
     . intro x hx;rcases Kch hx with hx | rfl
       . exact hb x hx
       . omega
     . exact Kan.2 ⟨hn,by simp,fun a ha b hb=>by simp at hb;subst hb;exact fun h=>hne (h ▸ ha)⟩
     . intro w hw;have h1:=hc w hw;have h2:has [(min v i,max v i)] v w=true <-> (w:Int)=i:=by
        rw [has,List.any_cons,List.any_nil,Bool.or_false,Jdx];omega
       rw [Jdp];have h3:(w:Int) ∈ r <-> (w:Int) ∈ i::r/\(w:Int) ≠ i:=by
        constructor
        . exact fun h=>⟨by simp [h],hri _ h⟩
        . rintro ⟨h,h'⟩;rcases Kaf.1 h with h | h
          . exact absurd h h'
          . exact h
       rw [h3,<- h1];cases h4:has [(min v i,max v i)] v w
       . have:¬ (w:Int)=i:=fun h=>by rw [h2.2 h] at h4;cases h4
         simp [this]
       . simp [h2.1 h4]
termination_by k=>k
theorem Je0 (n:Nat):∀ (m:Nat) (left todo done:List Int) (es:List (Int×Int)),left.length=n->(∀ x ∈ left,0<=x/\x<=1000)->todo.length=m->todo.Pairwise (fun a b:Int=>a < b)->(∀ x ∈ todo,0<=x/\x < n) ->
 (∀ w:Nat,w < n->((w:Int) ∉ done <-> (w:Int) ∈ todo))->es.Nodup->(∀ a ∈ todo,∀ b ∈ todo,has es a b=false) ->
 Qs7 n m left done (Qfl es)=(Qkk m left todo es).map Qfl
 | 0,left,todo,done,es,_,_,_,_,_,_,_,_=>rfl
 | m+1,left,todo,done,es,hl,hb,htl,htp,htb,hd,hn,hh=>by
   rw [Qs7,Qkk];have hperm:=Qb5 (gtD left) todo [];cases hs:Qem (gtD left) [] todo with
   | nil=>rw [hs] at hperm;have:=hperm.length_eq;simp at this;omega
   | cons v r =>
     rw [hs,Kaq] at hperm;have hlex:=Qqo (left:=left) todo [] .nil (by simp) htp;rw [hs] at hlex;have hv:v ∈ todo:=hperm.mem_iff.1 (by simp);have hvb:=htb v hv;have hmx:fmx (fun i=>!decide ((i:Int) ∈ done)) left n=v:=Qw5 hlex (fun x hx=>htb x (hperm.mem_iff.1 hx)) fun w hw=>by
      rw [hperm.mem_iff,<- hd w hw];simp
     simp only [hmx];obtain ⟨t2,ht2⟩:∃ t2,t2=todo.filter fun x=>!decide (x=v):=⟨_,rfl⟩
     rw [<- ht2];have hm2:∀ x,x ∈ t2 <-> x ∈ todo/\x ≠ v:=fun x=>by rw [ht2,Kbr];simp
     have ht2p:t2.Pairwise (fun a b:Int=>a < b):=by rw [ht2];exact htp.filter _
     have ht2l:t2.length=m:=by
      have h1:=Qhg (fun x=>decide (x=v)) todo;have h2:(todo.filter fun x=>decide (x=v)).length=1:=by
       have hnd:todo.Nodup:=htp.imp fun h=>by omega
       have:=List.nodup_iff_count.1 hnd v;have h3:=List.count_pos_iff.2 hv;rw [<- List.countP_eq_length_filter];have h4:todo.countP (fun x=>decide (x=v))=todo.count v:=by
        rw [List.count];exact List.countP_congr fun x _=>by simp
       omega
      rw [<- ht2] at h1;omega
     have hgv:left.getD v.toNat 0=left[v.toNat]'(by omega):=by simp [Kad,Kag (show v.toNat < left.length by omega)]
     have hk0:0<=left.getD v.toNat 0:=by rw [hgv];exact (hb _ (Kao _)).1
     obtain ⟨k,hk⟩:=Kbm hk0;have hp2:=Qb5 (gtD left) t2 [];rw [Kaq] at hp2;rw [hk,Kax];have hlay:=Jpm (done:=done++[v]) hvb k (Qem (gtD left) [] t2) left es hl (Qqo _ _ .nil (by simp) ht2p) (fun x hx=>htb x ((hm2 x).1 (hp2.mem_iff.1 hx)).1) (fun x hx=>(hb x hx).1) hn (fun w hw=>by
      rw [hp2.mem_iff,hm2,<- hd w hw];constructor
      . rintro ⟨h1,_⟩;simp only [Kah,Kce,not_or] at h1;exact h1
      . rintro ⟨h1,h2⟩;exact ⟨by simp [h1,h2],hh v hv _ ((hd w hw).1 h1)⟩)
     rw [hlay,hp2.length_eq,ht2l];by_cases hkm:k<=m
     . rw [if_pos hkm,if_neg (by omega),Qvj];cases hli:Qon v ((Qem (gtD left) [] t2).take k) left es with
       | none=>rfl
       | some q =>
         obtain ⟨left',es'⟩:=q;obtain ⟨k1,k2,k3⟩:=Qky v _ _ _ _ _ hli hb;have htm:∀ x ∈ (Qem (gtD left) [] t2).take k,x ∈ t2:=fun x hx=>hp2.mem_iff.1 (Kbv hx);have htn:((Qem (gtD left) [] t2).take k).Nodup:=(hp2.nodup_iff.2 (ht2p.imp fun h=>by omega)).sublist (List.take_sublist _ _);refine Je0 n m left' t2 (done++[v]) es' (by omega) k2 ht2l ht2p (fun x hx=>htb x ((hm2 x).1 hx).1) (fun w hw=>?_) ?_ ?_
         . rw [hm2,<- hd w hw];simp
         . rw [k3];refine Kan.2 ⟨hn,?_,?_⟩
           . rw [List.Nodup,List.pairwise_map];refine List.Pairwise.imp_of_mem (fun {i j} hi hj hij he=>?_) htn;have h1:=((hm2 i).1 (htm i hi)).2;have h2:=((hm2 j).1 (htm j hj)).2;simp only [Kab] at he;omega
           . intro a ha b hb' hab;subst hab;obtain ⟨i,hi,rfl⟩:=Kck.1 hb';exact Jpl (hh v hv i ((hm2 i).1 (htm i hi)).1) ha
         . intro a ha b hb';have h1:=(hm2 a).1 ha;have h2:=(hm2 b).1 hb';rw [k3,Jdp,hh a h1.1 b h2.1,Kdz,has,List.any_eq_false];intro e he;obtain ⟨i,hi,rfl⟩:=Kck.1 he;rw [Jdx];omega
     . rw [if_neg hkm,if_pos (by omega)];rfl
theorem Qmm (n:Nat):(Qbx n (-1)).Pairwise (fun a b:Int=>a < b):=by
 rw [Qbc,List.pairwise_map];exact (List.pairwise_lt_range).imp fun h=>by omega
theorem Qij {n:Nat} {x:Int}:x ∈ Qbx n (-1) <-> 0<=x/\x < n:=by
 rw [Qbc,Kck];constructor
 . rintro ⟨v,hv,rfl⟩;have:=Kaz.1 hv;omega
 . intro h;exact ⟨x.toNat,Kaz.2 (by omega),by omega⟩
theorem Qx1 {d:List Int} (hb:∀ x ∈ d,0<=x/\x<=1000):Jmp d=(Qkj d).map Qfl :=
 Je0 d.length d.length d (Qbx d.length (-1)) [] [] rfl hb (by rw [Qbc];simp) (Qmm _) (fun x hx=>Qij.1 hx) (fun w hw=>by rw [Qij];simp;omega) .nil (by simp [has])
theorem Qxl {n:Nat} (v:Int):∀ (Qc5 left:List Int) (es:List (Int×Int)) (left':List Int) (es':List (Int×Int)),Qon v Qc5 left es=some (left',es')->Qc5.Nodup->left.length=n->(∀ x ∈ Qc5,0<=x/\x < n) ->
 ∀ x:Int,0<=x->x < n->left'.getD x.toNat 0=left.getD x.toNat 0 - (if x ∈ Qc5 then 1 else 0)
 | [],left,es,left',es',h,_,_,_,x,_,_=>by
   simp only [Qon,Kaa,Kab] at h;rw [h.1];simp
 | i::r,left,es,left',es',h,hn,hl,hb,x,h0,h1=>by
   rw [Qon] at h;split at h
   . cases h
   have hn':=Kbq.1 hn;have hi:=hb i (by simp);rw [Qxl v r _ _ _ _ h hn'.2 (by simp [Qeo,hl]) (fun x hx=>hb x (by simp [hx])) x h0 h1,Qi2 hi.1 h0 (by omega)];by_cases hx:x=i
   . subst hx;simp [hn'.1]
   . simp [hx]
theorem Qx2 (n:Nat):∀ (m:Nat) (left todo:List Int) (es es':List (Int×Int)),Qkk m left todo es=some es'->todo.Nodup->(∀ x ∈ todo,0<=x/\x < n)->left.length=n->(∀ x ∈ left,0<=x/\x<=1000)->todo.length<=m ->
 ∀ new,es'=es++new->∀ u:Nat,(u:Int) ∈ todo->deg new u=left.getD u 0
 | 0,left,todo,es,es',h,_,_,_,_,hm,new,_,u,hu=>by
   rw [Kav.1 (by omega:todo.length=0)] at hu;cases hu
 | m+1,left,todo,es,es',h,hn,hb,hl,hle,hm,new,hnew,u,hu=>by
   rw [Qkk] at h;have hperm:=Qb5 (gtD left) todo [];cases hs:Qem (gtD left) [] todo with
   | nil =>
     rw [hs] at hperm;rw [Kav.1 (by have:=hperm.length_eq;simp at this;omega:todo.length=0)] at hu;cases hu
   | cons v r =>
     rw [hs] at h;rw [hs,Kaq] at hperm;have hv:v ∈ todo:=hperm.mem_iff.1 (by simp);have hvb:=hb v hv;simp only at h;split at h
     . cases h
     rename_i hge;obtain ⟨t2,ht2⟩:∃ t2,t2=todo.filter fun x=>!decide (x=v):=⟨_,rfl⟩
     rw [<- ht2] at h hge;have hm2:∀ x,x ∈ t2 <-> x ∈ todo/\x ≠ v:=fun x=>by rw [ht2,Kbr];simp
     have ht2n:t2.Nodup:=by rw [ht2];exact hn.filter _
     have ht2l:t2.length<=m:=by
      have h1:=Qhg (fun x=>decide (x=v)) todo;have h2:0 < (todo.filter fun x=>decide (x=v)).length:=Kev (Kbr.2 ⟨hv,by simp⟩);rw [<- ht2] at h1;omega
     have hp2:=Qb5 (gtD left) t2 [];rw [Kaq] at hp2;obtain ⟨Qc5,htops⟩:∃ Qc5,Qc5=Qvj left t2 (left.getD v.toNat 0).toNat:=⟨_,rfl⟩;rw [<- htops] at h;have htm:∀ x ∈ Qc5,x ∈ t2:=fun x hx=>by rw [htops] at hx;exact hp2.mem_iff.1 (Kbv hx)
     have htn:Qc5.Nodup:=by rw [htops];exact (hp2.nodup_iff.2 ht2n).sublist (List.take_sublist _ _)
     cases hli:Qon v Qc5 left es with
     | none=>rw [hli] at h;cases h
     | some q =>
       obtain ⟨left',es1⟩:=q;rw [hli] at h;simp only at h;obtain ⟨k1,k2,k3⟩:=Qky v _ _ _ _ _ hli hle;obtain ⟨new2,q1,q2,q3⟩:=Qhl n m left' t2 es1 es' h ht2n (fun x hx=>hb x ((hm2 x).1 hx).1);have ih:=Qx2 n m left' t2 es1 es' h ht2n (fun x hx=>hb x ((hm2 x).1 hx).1) (by omega) k2 ht2l new2 q1;have hnn:new=(Qc5.map fun i=>(min v i,max v i))++new2:=by
        have:es++new=es++((Qc5.map fun i=>(min v i,max v i))++new2):=by rw [<- hnew,q1,k3];simp
        exact List.append_cancel_left this
       rw [hnn,deg,S_app];have hvt:v ∉ Qc5:=fun h=>((hm2 v).1 (htm v h)).2 rfl;have hinc:∀ i,i ≠ v->inc u (min v i,max v i)=(if (u:Int)=v then 1 else 0)+(if (u:Int)=i then 1 else 0):=by
        intro i hi;simp only [inc];rcases Int.le_total v i with h | h
        . rw [Int.min_eq_left h,Int.max_eq_right h];congr 1
          . exact iteQ (by omega)
          . exact iteQ (by omega)
        . rw [Int.min_eq_right h,Int.max_eq_left h,Int.add_comm];congr 1
          . exact iteQ (by omega)
          . exact iteQ (by omega)
       have hsum:S (Qc5.map fun i=>(min v i,max v i)) (inc u)=(if (u:Int)=v then (Qc5.length:Int) else 0)+(if (u:Int) ∈ Qc5 then 1 else 0):=by
        rw [S_map,Qey (g:=fun i=>(if (u:Int)=v then 1 else 0)+(if (u:Int)=i then 1 else 0)) fun i hi=>hinc i fun h=>hvt (h ▸ hi),S_add,S_one htn,Jrj];split <;> simp
       rw [hsum];by_cases huv:(u:Int)=v
       . have:S new2 (inc u)=0:=by
          rw [<- Qn7 new2];refine Qey fun e he=>?_;obtain ⟨_,a1,a2⟩:=q3 e he;have b1:=((hm2 _).1 a1).2;have b2:=((hm2 _).1 a2).2;rw [inc,if_neg (by omega),if_neg (by omega)];rfl
         rw [this,if_pos huv,if_neg (by rw [huv];exact hvt)];have hkl:Qc5.length=(left.getD v.toNat 0).toNat:=by
          rw [htops,Qvj,Kas,hp2.length_eq];omega
         have hgv:left.getD v.toNat 0=left[v.toNat]'(by omega):=by simp [Kad,Kag (show v.toNat < left.length by omega)]
         have hk0:0<=left.getD v.toNat 0:=by rw [hgv];exact (hle _ (Kao _)).1
         rw [hkl,<- huv,Kax] at *
         omega
       . have h1:=ih u ((hm2 _).2 ⟨hu,huv⟩);have h2:=Qxl v _ _ _ _ _ hli htn hl (fun x hx=>hb x ((hm2 x).1 (htm x hx)).1) (u:Int) (by omega) (hb _ hu).2;rw [Kax] at h2;rw [deg] at h1;rw [h1,h2,if_neg huv];omega
theorem Qz4 {d:List Int} (h7:d.length<=7) (hb:∀ x ∈ d,0<=x/\x<=1000) {es:List (Int×Int)} (h:Qkj d=some es):Qdf d.length (Qfl es)=d:=by
 obtain ⟨k1,k2,k3,k4⟩:=Qqe h7 h;have h1:=Qx2 d.length _ _ _ _ _ h ((Qmm _).imp fun h=>by omega) (fun x hx=>Qij.1 hx) rfl hb (by rw [Qbc];simp) es (by simp);rw [Qt6 (fun e he=>by have:=Qej.1 ((Qee.1 k4).2.1 e he);omega)];refine List.ext_getElem (by simp) fun i hi hj=>?_;rw [List.getElem_map,List.getElem_range];have:=h1 i (Qij.2 (by omega));rw [deg,S_perm (Qc2 es),<- deg,this];simp [Kad,Kag hj]
end Go.Idl
namespace Go.Idl
theorem Qvb:∀ d,Qbb d=true->Jri d:=fun d hv=>by
 have hf:=Qan hv;have hb:∀ x ∈ d,0<=x/\x<=1000:=fun x hx=>by have:=hf.2 x hx;omega
 exact ⟨Qx1 hb,fun es h=>⟨(Qqe hf.1 h).2.2.2,Qz4 hf.1 hb h⟩⟩
end Go.Idl
namespace Go.Idl
def hv:Nat->List Int->Bool
 | 0,_=>true
 | _+1,[]=>true
 | m+1,x::r=>decide (x<=r.length) && (r.take x.toNat).all (fun y=>!decide (y=0)) && hv m (fall ((r.take x.toNat).map (fun y=>y - 1)++r.drop x.toNat))
end Go.Idl
namespace Go.Idl
theorem Jd1 {α:Type} [DecidableEq α]:∀ {l k:List α},l.Nodup->(∀ x ∈ l,x ∈ k)->l.length<=k.length
 | [],_,_,_=>by simp
 | a::l,k,hn,hs=>by
   have hn':=Kbq.1 hn;have h1:=Jd1 (l:=l) (k:=k.erase a) hn'.2 (fun x hx=>(List.mem_erase_of_ne (fun h=>hn'.1 (by rw [<- h];exact hx))).2 (hs x (by simp [hx])));have h2:=List.length_erase_of_mem (hs a (by simp));have h3:0 < k.length:=Kev (hs a (by simp));simp only [Kbc];omega
def rel (n:Nat) (σ:Nat->Nat) (g:List (Int×Int)):List (Int×Int):=(prs n).filter fun e=>decide (mk (σ e.1.toNat) (σ e.2.toNat) ∈ g)
end Go.Idl
namespace Go.Idl
open Go
theorem Qkv {es:List (Int×Int)} {a b:Int}:Qn0 es a b=true <-> (min a b,max a b) ∈ es:=by
 simp [Qn0]
end Go.Idl
namespace Go.Idl
theorem Jlr {n:Nat} {es:List (Int×Int)} (h:∀ e ∈ es,e ∈ prs n) (a b:Int):has es a b=Qn0 es a b:=by
 rw [Kdq,Qkv,has,Kfb];constructor
 . rintro ⟨e,he,hi⟩;have hp:=Qej.1 (h e he);simp only [isE,Kbj,Kac,Kai] at hi;have h2:e=(min a b,max a b):=Prod.ext (by simp only;omega) (by simp only;omega);rw [<- h2];exact he
 . intro hm;refine ⟨_,hm,?_⟩;simp only [isE,Kbj,Kac,Kai];omega
end Go.Idl
namespace Go.Idl
theorem Qi5:∀ (s:List Int) (i k:Nat),k<=i->k<=Qgx s i k
 | [],_,_,_=>Kam _
 | x::q,i,k,h=>by
   rw [Qgx];split
   . exact Kcp (by omega) (Qi5 q (i+1) (i+1) (by omega))
   . exact Qi5 q (i+1) k (by omega)
theorem Qwt:∀ (s:List Int) (i k j:Nat),k<=i->Qgx s i k<=i+j->(h:j < s.length)->s[j] < (i:Int)+j
 | x::q,i,k,0,hk,hd,_=>by
   rw [Qgx] at hd;by_cases hx:(i:Int)<=x
   . rw [if_pos hx] at hd;have:=Qi5 q (i+1) (i+1) (by omega);omega
   . simpa using hx
 | x::q,i,k,j+1,hk,hd,h=>by
   rw [Qgx] at hd;have:=Qwt q (i+1) _ j (by split <;> omega) (Kcp hd (by omega)) (by simpa using h);simp only [List.getElem_cons_succ];omega
theorem Jna {s:List Int} (hs:Jbk s):slk s (Qd3 s)=(Qd3 s:Int) * ((Qd3 s:Int) - 1)+s.sum - 2 * (s.take (Qd3 s)).sum:=by
 have h1:((s.drop (Qd3 s)).map fun x:Int=>min x (Qd3 s:Int))=s.drop (Qd3 s):=by
  refine List.ext_getElem (by simp) fun j h1 h2=>?_;simp only [Kcu,Kco] at h1;rw [List.getElem_map,List.getElem_drop];have h3:=Qwt s 0 0 (Qd3 s) (by omega) (by rw [Qd3];omega) (by omega);have h4:=Jk9 hs (i:=Qd3 s) (j:=Qd3 s+j) (by omega) (by omega);omega
 have h2:=Qqs s (Qd3 s);rw [slk,h1];omega
end Go.Idl
namespace Go.Idl
theorem Jsp (es:List (Int×Int)) (u v:Nat):Qn0 es u v=decide (mk u v ∈ es):=by
 rw [Kdq,Qkv,Kai];rfl
theorem Qwh {α:Type} (p:α->Bool):∀ l:List α,S l (fun a=>if p a=true then 1 else 0)=(l.countP p:Int)
 | []=>rfl
 | a::l=>by rw [Qdz,Qwh p l,List.countP_cons];split <;> simp_all <;> omega
theorem deg_nb {n:Nat} {es:List (Int×Int)} (h:Qak n es=true) {v:Nat} (hv:v < n):deg es v=S (List.range n) (fun u=>if u=v then 0 else if mk u v ∈ es then 1 else 0):=by
 have h1:=Qyx (Qee.1 h).2.2 (fun e=>decide (e ∈ es)) hv;rw [<- Qm5 h] at h1;rw [h1];exact Qey fun u _=>by simp only [Kai]
end Go.Idl
namespace Go.Idl
open Go
theorem Jt3 {n:Nat} {g h:List (Int×Int)} (hg:Qak n g=true) (hs:h.Sublist g):Qak n h=true:=by
 obtain ⟨a,b,c⟩:=Qee.1 hg;exact Qee.2 ⟨a.sublist hs,fun e he=>b e (hs.subset he),c⟩
def lfC (n:Nat) (g:List Int):List Int:=(Qbx n (-1)).filter fun u=>decide (u ∉ g)
def nwC (g:List Int) (es:List (Int×Int)):List (Int×Int):=es.filter fun e=>decide (e.1 ∉ g) && decide (e.2 ∉ g)
theorem Jss {n:Nat} {g:List Int} {u:Int}:u ∈ lfC n g <-> (0<=u/\u < n)/\u ∉ g:=by
 rw [lfC,Kbr,Qij,Kai]
theorem Jcx {n:Nat} {es:List (Int×Int)} (h:Qak n es=true) (g:List Int) {v:Nat} (hv:v < n) (hvg:(v:Int) ∉ g):(Qdf n (nwC g es)).getD v 0=Qhc es (lfC n g) v:=by
 have hs:(nwC g es).Sublist es:=List.filter_sublist;have hN:=Jt3 h hs;rw [Qt6 (Qqx hN)];rw [Kad,Kdx,Kfh hv];simp only [Kes,Kdf];rw [deg_nb hN hv,Qhc,lfC,List.countP_filter,Qbc,List.countP_map,<- Qwh];refine Qey fun u hu=>?_;have hu:=Kaz.1 hu;have hm:mk u v ∈ nwC g es <-> mk u v ∈ es/\(u:Int) ∉ g:=by
  rw [nwC,Kbr,Kac,Kai,Kai];refine and_congr_right fun _=>?_;rcases Int.le_total (u:Int) v with hq | hq
  . simp only [mk,Int.min_eq_left hq,Int.max_eq_right hq];exact ⟨fun h=>h.1,fun h=>⟨h,hvg⟩⟩
  . simp only [mk,Int.min_eq_right hq,Int.max_eq_left hq];exact ⟨fun h=>h.2,fun h=>⟨hvg,h⟩⟩
 by_cases huv:u=v
 . subst huv;simp
 . have huv2:¬ (u:Int)=v:=by omega
   rw [if_neg huv];refine Qu4 ?_ _ _;rw [hm];simp only [Function.comp_apply,Kac,Kai,Jsp];exact ⟨fun ⟨a,b⟩=>⟨⟨huv2,a⟩,b⟩,fun ⟨⟨_,a⟩,b⟩=>⟨a,b⟩⟩
def toI:Option Int->Int
 | some v=>v
 | none=>-1
theorem Jdr (n:Nat):Qbx (n+1) (-1)=Qbx n (-1)++[(n:Int)]:=by
 rw [Qbc,Qbc,Kff,Kct];rfl
theorem Jpx {d g left:List Int} {es:List (Int×Int)} {m:Nat}:∀ (u:Nat),(∀ v:Nat,v < u->(v:Int) ∉ g->d.getD v 0=Qhc es left v) ->
 Qk7 d g ((m:Int)+1) u=toI (bkF es left m ((lfC u g).reverse))
 | 0,_=>by simp [Qk7,lfC,Qbx,bkF,toI]
 | u+1,h=>by
   have ih:=Jpx (d:=d) (g:=g) (left:=left) (es:=es) (m:=m) u fun v hv=>h v (by omega);rw [lfC,Jdr,List.filter_append,Qk7];by_cases hg:(u:Int) ∈ g
   . rw [if_neg (fun hh=>hh.1 hg),ih];simp [lfC,hg]
   . rw [Kdd (by simpa using hg),Kdw,Kea,List.reverse_singleton,List.singleton_append,bkF];have hd:=h u (by omega) hg;rw [hd];by_cases hc:Qhc es left u=0 \/ Qhc es left u=m
     . rw [if_pos ⟨hg,by omega⟩,if_pos hc];rfl
     . rw [if_neg (fun hh=>hc (by have:=hh.2;omega)),if_neg hc,ih];rfl
theorem Qo6 {es:List (Int×Int)} {left:List Int} {k:Nat}:∀ {l:List Int} {v:Int},bkF es left k l=some v->v ∈ l/\(Qhc es left v=0 \/ Qhc es left v=k)
 | [],_,h=>by cases h
 | x::l,v,h=>by
   rw [bkF] at h;split at h
   . cases h;exact ⟨List.mem_cons_self,by assumption⟩
   . have:=Qo6 h;exact ⟨Kdu _ this.1,this.2⟩
theorem Jcz (v:Int):∀ (m u:Nat) (es:List (Int×Int)),Qi4 v m u es=es.filter fun e=>(List.range' u m).all fun w=>Qnj (min v w) (max v w) e
 | 0,u,es=>by rw [Qi4];exact (Keb.2 fun _ _=>by simp).symm
 | m+1,u,es=>by
   rw [Qi4,Jcz v m (u+1),Qua,List.filter_filter];refine Kel fun e _=>?_;rw [List.range'_succ,Kcj,Bool.and_comm]
theorem Jl2 {n:Nat} {es:List (Int×Int)} (h:Qak n es=true) (g:List Int) (v:Int) (hv:0<=v/\v < n):Qi4 v n 0 (nwC g es)=nwC (g++[v]) es:=by
 rw [Jcz,nwC,nwC,List.filter_filter];refine Kel fun e he=>?_;have hb:=Qqw h e he;have key:((List.range' 0 n).all fun w=>Qnj (min v w) (max v w) e)=(decide (e.1 ≠ v) && decide (e.2 ≠ v)):=by
  rw [Kdq,Kaj,Kac,Kai,Kai];constructor
  . intro hh;refine ⟨fun h1=>?_,fun h1=>?_⟩
    . have:=hh e.2.toNat (List.mem_range'_1.2 (by omega));simp only [Qnj,Kby,Bool.and_eq_false_imp,Kai,Kcr] at this;exact this (by omega) (by omega)
    . have:=hh e.1.toNat (List.mem_range'_1.2 (by omega));simp only [Qnj,Kby,Bool.and_eq_false_imp,Kai,Kcr] at this;exact this (by omega) (by omega)
  . rintro ⟨h1,h2⟩ w hw;simp only [Qnj,Kby,Bool.and_eq_false_imp,Kai,Kcr];omega
 rw [key];by_cases k1:e.1 ∈ g <;> by_cases k2:e.2 ∈ g <;> by_cases k3:e.1=v <;> by_cases k4:e.2=v <;> simp [k1,k2,k3,k4]
theorem Jd7 (n:Nat) (g:List Int):(lfC n g).Nodup:=by
 exact ((Qmm n).imp fun h=>by omega:(Qbx n (-1)).Nodup).filter _
theorem Qxo (n:Nat) (g:List Int) (v:Int):((lfC n g).filter fun u=>!decide (u=v))=lfC n (g++[v]):=by
 rw [lfC,lfC,List.filter_filter];refine Kel fun e _=>?_;by_cases k1:e ∈ g <;> by_cases k2:e=v <;> simp [k1,k2]
theorem Jd0 {l:List Int} (hn:l.Nodup) {v:Int} (hv:v ∈ l):(l.filter fun u=>!decide (u=v)).length+1=l.length:=by
 have h1:(l.filter fun u=>!decide (u=v))=l.filter (fun u=>u != v):=Kel fun u _=>by simp [bne,BEq.beq]
 rw [h1,<- hn.erase_eq_filter,List.length_erase_of_mem hv];have:=Kev hv;omega
theorem Jph {n:Nat} {es:List (Int×Int)} (h:Qak n es=true):∀ (m:Nat) (g ls os:List Int),(lfC n g).length=m->Qfn n m (nwC g es) g ls os=coI es m (lfC n g) ls os
 | 0,g,ls,os,_=>rfl
 | m+1,g,ls,os,hm=>by
   have hs:=Jpx (d:=Qdf n (nwC g es)) (g:=g) (left:=lfC n g) (es:=es) (m:=m) n fun v hv hg=>Jcx h g hv hg;cases hb:bkF es (lfC n g) m (lfC n g).reverse with
   | none =>
     rw [hb] at hs;simp only [toI] at hs;rw [Qfn,coI,hb,hs];rfl
   | some v =>
     rw [hb] at hs;simp only [toI] at hs;rw [Qfn,coI,hb,hs];have hv:=List.mem_reverse.1 (Qo6 hb).1;have hv2:=Jss.1 hv;obtain ⟨k,rfl⟩:=Kbm hv2.1.1;simp only;rw [if_neg (by omega),Jl2 h g _ hv2.1,Qxo];have hl:=Jd0 (Jd7 n g) hv;rw [Qxo] at hl;rw [Jph h m (g++[(k:Int)]) _ _ (by omega),Kax,Jcx h g (by omega) hv2.2,ltr];rw [Qu4 (show (0:Int) < (Qhc es (lfC n g) (k:Int):Int) <-> 0 < Qhc es (lfC n g) (k:Int) by omega) (100:Int) 105]
theorem codLaw {n:Nat} {es:List (Int×Int)} (h:Qak n es=true):Qfn n n es [] [] []=coI es n (Qbx n (-1)) [] []:=by
 have h1:lfC n []=Qbx n (-1):=by rw [lfC];exact Keb.2 fun _ _=>by simp
 have h2:nwC [] es=es:=by rw [nwC];exact Keb.2 fun _ _=>by simp
 have h3:=Jph h n [] [] [] (by rw [h1,Qbc];simp)
 rwa [h1,h2] at h3
structure Jbr (es:List (Int×Int)) (l o:List Int):Prop where
 len:l.length=o.length
 let_:∀ x ∈ l,x=100 \/ x=105
 fst:∀ x,l[0]? = some x->x=105
 adj:∀ a b,b < a->a < o.length->Qn0 es (o.getD a 0) (o.getD b 0)=decide (l.getD a 0=100)
theorem Jcs {es:List (Int×Int)} {left:List Int} {v:Int} (h:Qhc es left v=0) {u:Int} (hu:u ∈ left) (hne:u ≠ v):Qn0 es u v=false:=by
 have:=List.countP_eq_zero.1 h u hu;simpa [hne] using this
theorem Qyw {es:List (Int×Int)} {left:List Int} {v:Int}:Qhc es left v=Qhc es (left.filter fun u=>!decide (u=v)) v:=by
 rw [Qhc,Qhc,List.countP_filter];refine List.countP_congr fun u _=>?_;by_cases h:u=v <;> simp [h]
theorem Jk4 {es:List (Int×Int)} {left:List Int} {v:Int} {k:Nat} (hl:(left.filter fun u=>!decide (u=v)).length=k) (h:Qhc es left v=k) {u:Int} (hu:u ∈ left) (hne:u ≠ v):Qn0 es u v=true:=by
 rw [Qyw,Qhc,<- hl] at h;have:=List.countP_eq_length.1 h u (Kbr.2 ⟨hu,by simp [hne]⟩);simpa [hne] using this
theorem Jdo (es:List (Int×Int)) (a b:Int):Qn0 es a b=Qn0 es b a:=by
 rw [Kdq,Qkv,Qkv,Int.min_comm,Int.max_comm]
theorem Jpg {es:List (Int×Int)}:∀ (k:Nat) (left ls os l o:List Int),left.Nodup->left.length=k->coI es k left ls os=some (l,o) ->
 ∃ l1 o1,l=l1++ls/\o=o1++os/\l1.length=k/\o1.Perm left/\Jbr es l1 o1
 | 0,left,ls,os,l,o,_,hl,h=>by
   cases h;have:left=[]:=Kav.1 hl;subst this;exact ⟨[],[],rfl,rfl,rfl,.refl _,⟨rfl,by simp,by simp,fun a b _ h=>by simp at h⟩⟩
 | k+1,left,ls,os,l,o,hn,hl,h=>by
   rw [coI] at h;cases hb:bkF es left k left.reverse with
   | none=>rw [hb] at h;cases h
   | some v =>
     rw [hb] at h;simp only at h;have hv:=Qo6 hb;have hvm:=List.mem_reverse.1 hv.1;have hlen:=Jd0 hn hvm;obtain ⟨l1,o1,r1,r2,r3,r4,c⟩:=Jpg k _ _ _ l o (hn.filter _) (by omega) h;have ho:o1.length=k:=by rw [r4.length_eq];omega
     refine ⟨l1++[ltr es left v],o1++[v],by rw [r1];simp,by rw [r2];simp,by simp [r3],?_,?_⟩
     . have h1:left.Perm (v::left.erase v):=List.perm_cons_erase hvm;have h2:(left.filter fun u=>!decide (u=v))=left.erase v:=by
        rw [hn.erase_eq_filter];exact Kel fun u _=>by simp [bne,BEq.beq]
       rw [h2] at r4;exact (Kcm.trans (r4.cons v)).trans h1.symm
     . have hlt:ltr es left v=100 \/ ltr es left v=105:=by rw [ltr];split <;> simp
       refine ⟨by simp [r3,ho],fun x hx=>?_,fun x hx=>?_,fun a b hb1 ha=>?_⟩
       . rcases Kah.1 hx with hx | hx
         . exact c.let_ x hx
         . rw [Kce.1 hx];exact hlt
       . cases k with
         | zero =>
           have hl1:l1=[]:=Kav.1 r3;subst hl1;simp only [Kaq,Kcs,Kaa] at hx;have:Qhc es left v=0:=by rcases hv.2 with h | h <;> exact h
           rw [<- hx,ltr,if_neg (by omega)]
         | succ k =>
           rw [Kba (by omega)] at hx;exact c.fst x hx
       . have hak:a < k+1:=by rw [Kbu,ho] at ha;exact ha
         by_cases hak2:a < k
         . have g:∀ i,i < k->(o1++[v]).getD i 0=o1.getD i 0:=fun i hi=>by
            rw [Kad,Kba (by omega),Kad]
           have g2:(l1++[ltr es left v]).getD a 0=l1.getD a 0:=by
            rw [Kad,Kba (by omega),Kad]
           rw [g a hak2,g b (by omega),g2];exact c.adj a b hb1 (by omega)
         . have hak3:a=k:=by omega
           subst hak3;have g1:(o1++[v]).getD a 0=v:=by
            rw [Kad,Kat (by omega),ho];simp
           have g2:(l1++[ltr es left v]).getD a 0=ltr es left v:=by
            rw [Kad,Kat (by omega),r3];simp
           have g3:(o1++[v]).getD b 0=o1[b]'(by omega):=by
            rw [Kad,Kba (by omega),Kag (by omega)];rfl
           rw [g1,g2,g3];have hm:=r4.mem_iff.1 (Kao (show b < o1.length by omega));have hm:=Kbr.1 hm;have hne:o1[b]'(by omega) ≠ v:=by simpa using hm.2
           rw [Jdo];rcases hv.2 with h0 | h0
           . rw [Jcs h0 hm.1 hne,ltr,if_neg (by omega)];rfl
           . rw [Jk4 (by omega) h0 hm.1 hne,ltr,if_pos (by omega)];rfl
theorem Jr1 {n:Nat} {es:List (Int×Int)} {l o:List Int} (h:coI es n (Qbx n (-1)) [] []=some (l,o)):l.length=n/\o.Perm (Qbx n (-1))/\Jbr es l o:=by
 obtain ⟨l1,o1,r1,r2,r3,r4,c⟩:=Jpg n (Qbx n (-1)) [] [] l o ((Qmm n).imp fun h=>by omega) (by rw [Qbc];simp) h;rw [Kbb] at r1 r2;subst r1 r2;exact ⟨r3,r4,c⟩
end Go.Idl
namespace Go.Idl
open Go
def Qeb (d:List Int):Bool:=d.all fun x=>decide (0 < x)
def Jr2 (d:List Int):Bool:=Qa2 d && (decide (0 < d.length) && ((decide (d.length=1) || Qeb d) && decide (2 * (d.length:Int) - 2<=d.sum)))
def Qfc (d:List Int):Bool:=Jr2 d && decide (d.sum=2 * (d.length:Int) - 2)
theorem Qig {d:List Int} (h:Qa2 d=true):Qbb d=true:=by simp only [Qa2,Kac] at h;exact h.1.1
theorem Jd4 {x:Int} {r:List Int}:(decide (0 < Qcq x r))=Qeb (x::r):=by
 rw [Kdq,Kai];have:=Qsq r x 1;simp only [Qeb,Kaj,Kai,Kaf];constructor
 . intro h y hy;have h2:=this.1 (by omega);rcases hy with rfl | hy
   . omega
   . have:=h2.2 y hy;omega
 . intro h;have:=this.2 ⟨by have:=h x (.inl rfl);omega,fun y hy=>by have:=h y (.inr hy);omega⟩;omega
theorem Qka (d:List Int) (c:Bool) (hl:d.length<=2000000):Ev tb Ji6 [] [L d c] [] ⟨Bo (Jr2 d),[],[],[]⟩:=by
 have e1:=Qaa (Qfs d c hl);unfold Jr2;cases hg:Qa2 d with
 | false =>
   refine jC Jkc rfl ?_;have Hq:=cj2 e1 hg;repeat refine go1 ?_
   simp [Qtn]
 | true =>
 have hf:=Qan (Qig hg);have hsm:=hf.sum;have e2:=Qaa (Qwx d c hf.small);have h7:=hf.1;cases d with
 | nil =>
   refine jC Jkc rfl ?_;have Hq:=cj2 e1 hg;repeat refine go1 ?_
   simp [Qtn]
 | cons x r =>
 have e3:=Qaa (ev_Min x r c (by simp at h7;omega));have hmp:=Jd4 (x:=x) (r:=r);have w1:IntKind.i64.wrap (2 * ((r.length:Int)+1))=2 * ((r.length:Int)+1):=Qac (by omega) (by simp at h7;omega);have w2:IntKind.i64.wrap (2 * ((r.length:Int)+1) - 2)=2 * ((r.length:Int)+1) - 2:=Qac (by omega) (by simp at h7;omega);by_cases h1:r=[]
 . subst h1;refine jC Jkc rfl ?_;have Hq:=cj5 e1 e2 hg (show IntKind.i64.wrap 2=2 from rfl) (show IntKind.i64.wrap 0=0 from rfl);repeat refine go1 ?_
   simp [Qtn]
 . have h2:¬ r.length=0:=fun h=>h1 (Kav.1 h);have h3:¬ (r.length:Int)=0:=by omega
   have h4:¬ (r.length:Int)+1=1:=by omega
   have h5:(0:Int) < (r.length:Int)+1:=by omega
   rw [show Qeb (x::r)=decide (0 < Qcq x r) from hmp.symm];by_cases hp:0 < Qcq x r
   . refine jC Jkc rfl ?_;have Hq:=Qwo e1 e2 e3 hg h1 h2 h3 h4 h5 hp w1 w2;repeat refine go1 ?_
     simp [Qtn,h1,hp];rfl
   . refine jC Jkc rfl ?_;have Hq:=Qwo e1 e2 e3 hg h1 h2 h3 h4 h5 hp w1 w2;repeat refine go1 ?_
     simp [Qtn,h1,hp]
theorem Qkc (d:List Int) (c:Bool) (hl:d.length<=2000000):Ev tb Ji9 [] [L d c] [] ⟨Bo (Qfc d),[],[],[]⟩:=by
 have e1:=Qaa (Qka d c hl);unfold Qfc;cases hc:Jr2 d with
 | false =>
   rw [hc] at e1;refine jC zt188 rfl ?_;have Hq:=e1;repeat refine go1 ?_
   simp [Jh2]
 | true =>
 rw [hc] at e1;have hg:Qa2 d=true:=by simp only [Jr2,Kac] at hc;exact hc.1
 have hf:=Qan (Qig hg);have h7:=hf.1;have e2:=Qaa (Qwx d c hf.small);have w1:IntKind.i64.wrap (2 * (d.length:Int))=2 * (d.length:Int):=Qac (by omega) (by omega);have w2:IntKind.i64.wrap (2 * (d.length:Int) - 2)=2 * (d.length:Int) - 2:=Qac (by omega) (by omega);refine jC zt188 rfl ?_;have Hq:=cj4 e1 e2 w1 w2;repeat refine go1 ?_
 simp [Jh2]
 try rfl
def facN:Nat->Nat
 | 0=>1
 | n+1=>(n+1) * facN n
theorem Qw0:∀ n,0 < facN n
 | 0=>by decide
 | n+1=>Nat.mul_pos (by omega) (Qw0 n)
def divs:List Int->Nat->Nat
 | [],o=>o
 | x::r,o=>divs r (o / facN (x - 1).toNat)
def cntT (d:List Int):Nat:=divs d (facN ((d.length:Int) - 2).toNat)
end Go.Idl
namespace Go.Idl
open Go
theorem Qup (x:Int) (r:List Int) (c:Bool) (hl:r.length<=2000000):Ev tb Jj3 [] [L (x::r) c] [] ⟨I (Qcq x r),[],[],[]⟩:=by
 have loop:∀ (m i:Nat) (y:Int),i+m=(x::r).length->wp tb (.loop Jq6) { T:=[(0,L (x::r) c),(3,I y),(4,I i)],loc:=[],M:=[] }
  (fun ex st=>ex=.exit 0/\st={ T:=[(0,L (x::r) c),(3,I (Qcq y ((x::r).drop i))),(4,I (x::r).length),(11,Bo false)],loc:=[],M:=[] }):=by
  generalize hd:x::r=d at *
  have hdl:d.length<=2000001:=by rw [<- hd];simp;omega
  intro m
  induction m with
  | zero =>
    intro i y hi;obtain ⟨h1,h2⟩:=Qcg hi;have h3:i=d.length:=hi;subst h3;refine jL ?_
    repeat refine go0 ?_
    rw [h2];exact ⟨rfl,rfl⟩
  | succ m ih =>
    intro i y hi;obtain ⟨hi2,h2,h3⟩:=Qch hi;have w2:IntKind.i64.wrap ((i:Int)+1)=((i+1:Nat):Int):=Qas (by omega);have hm:(if d[i] < y then d[i] else y)=min y d[i]:=by split <;> omega
    rw [h2,Qcq];refine jL ?_;have Hq:=cj3 hi2 w2 hm;repeat refine go1 ?_
    exact ih (i+1) (min y d[i]) (by omega)
 have hx:Qcq x ((x::r).drop 0)=Qcq x r:=by
  simp only [Kcb,Qcq];congr 1;omega
 have hlo:=loop (x::r).length 0 x (by simp);rw [hx] at hlo;refine jC zt376 rfl ?_
 repeat refine go0 ?_
 refine Qab hlo ?_;rintro ex st ⟨rfl,rfl⟩
 try simp only [if_true]
 repeat refine go0 ?_
 simp [Jor]
def Jfw (d:List Int):Bool:=Qbb d && (decide (d.length=1) || (decide (1 < d.length) && (Qeb d && decide (d.sum=2 * ((d.length:Int) - 1)))))
def Qt0 (d:List Int):Bool:=(Qfc d == Jfw d) && (!Qfc d || decide (0 < cntT d))
end Go.Idl
namespace Go.Idl
open Go
def Qdy (o:List Int) (e:Int×Int):List Int:=(o.set e.1.toNat (min (o.getD e.1.toNat 0) (o.getD e.2.toNat 0))).set e.2.toNat (min (o.getD e.1.toNat 0) (o.getD e.2.toNat 0))
def Qj0 (es:List (Int×Int)):Nat->List Int->List Int
 | 0,o=>o
 | m+1,o=>Qj0 es m (es.foldl Qdy o)
theorem Qf9 (o:List Int) (e:Int×Int):(Qdy o e).length=o.length:=by simp [Qdy]
theorem Qsj (es:List (Int×Int)):∀ o:List Int,(es.foldl Qdy o).length=o.length:=by
 induction es with
 | nil=>intro o;rfl
 | cons e es ih=>intro o;rw [Kdv,ih,Qf9]
theorem Qx5 (es:List (Int×Int)):∀ (m:Nat) (o:List Int),(Qj0 es m o).length=o.length
 | 0,_=>rfl
 | m+1,o=>by rw [Qj0,Qx5 es m,Qsj]
theorem ro_in (n:Nat) (e0:Nat) (es:List (Int×Int)) (c:Bool) (he0:e0=2 \/ es=[]) (hes:∀ e ∈ es,0<=e.1/\e.1 < n/\0<=e.2/\e.2 < n) (hel:es.length<=1000) (k:Nat):∀ (m j:Nat) (out:List Int) (B:Qad),j+m=es.length->out.length=n ->
 wp tb (.loop Jgl) { T:=[(1,.bptr 0 0 0),(3,O out),(11,I n),(12,I k),(15,.lst e0 (eds es) c),(16,I es.length),(17,I j)],loc:=[I n,.lst e0 (eds es) c]::B,M:=[] }
  (fun ex st=>ex=.exit 2/\∃ B',st={ T:=[(1,.bptr 0 0 0),(3,O ((es.drop j).foldl Qdy out)),(11,I n),(12,I k),(15,.lst e0 (eds es) c),(16,I es.length),(17,I es.length),(18,Bo false)],loc:=[I n,.lst e0 (eds es) c]::B',M:=[] }):=by
 intro m
 induction m with
 | zero =>
   intro j out B hj hl;have h3:j=es.length:=hj;subst h3;refine jL ?_
   repeat refine go0 ?_
   exact ⟨rfl,_,by simp;rfl⟩
 | succ m ih =>
   intro j out B hj hl;have hj2:j < es.length:=by omega
   have he2:e0=2:=by
    rcases he0 with h | h
    . exact h
    . rw [h] at hj2;cases hj2
   subst he2;have hd:es.drop j=es[j]::es.drop (j+1):=Kay hj2;have hb:=hes _ (Kao hj2);obtain ⟨⟨x,y⟩,hx⟩:∃ e,e=es[j]:=⟨_,rfl⟩;rw [<- hx] at hb;simp only at hb;obtain ⟨a,rfl⟩:=Kbm hb.1;obtain ⟨b,rfl⟩:=Kbm hb.2.2.1;have hx2:=hx.symm;have han:a < n:=by omega
   have hbn:b < n:=by omega
   have ha:a < out.length:=by omega
   have hbl:b < out.length:=by omega
   have w1:IntKind.i64.wrap ((j:Int)+1)=((j+1:Nat):Int):=Qas (by omega);have hmn:(if out[b] < out[a] then out[b] else out[a])=min out[a] out[b]:=by split <;> omega
   have hn:=ih (j+1) (Qdy out ((a:Int),(b:Int))) (B++[[I a,I b]]) (by omega) (by rw [Qf9,hl]);have ga:out.getD a 0=out[a]:=by rw [Kad,Kag ha];rfl
   have gb:out.getD b 0=out[b]:=by rw [Kad,Kag hbl];rfl
   have hr:Qdy out ((a:Int),(b:Int))=(out.set a (min out[a] out[b])).set b (min out[a] out[b]):=by
    simp only [Qdy,Kax,ga,gb]
   rw [hd,<- hx,Kdv];rw [hr] at hn |-;refine jL ?_;have Hq:=cj8 hj2 hx2 ha hbl hl hmn han hbn;repeat refine go1 ?_
   refine Qhp (by simp [ha,hbl,hl,han,hbn];with_reducible rfl) (by simp;with_reducible rfl) ?_ ?_
   . intro p hp;simp only [Kaf,Kaw,Kcf] at hp;subst hp;exact ⟨_,by simp [ha,hbl,hl,han,hbn];with_reducible rfl,by simp⟩
   have Hq:=w1;repeat refine go1 ?_
   exact hn
theorem ro_out (n:Nat) (e0:Nat) (es:List (Int×Int)) (c:Bool) (he0:e0=2 \/ es=[]) (hes:∀ e ∈ es,0<=e.1/\e.1 < n/\0<=e.2/\e.2 < n) (hel:es.length<=1000) (hn7:n<=7):∀ (m k:Nat) (out:List Int) (B:Qad),k+m=n->out.length=n ->
 wp tb (.loop Jgm) { T:=[(1,.bptr 0 0 0),(3,O out),(11,I n),(12,I k)],loc:=[I n,.lst e0 (eds es) c]::B,M:=[] }
  (fun ex st=>ex=.exit 0/\∃ B',st={ T:=[(1,.bptr 0 0 0),(3,O (Qj0 es m out)),(11,I n),(12,I n),(13,Bo false)],loc:=[I n,.lst e0 (eds es) c]::B',M:=[] }):=by
 intro m
 induction m with
 | zero =>
   intro k out B hk hl;have h3:k=n:=hk;subst h3;refine jL ?_
   repeat refine go0 ?_
   exact ⟨rfl,_,rfl⟩
 | succ m ih =>
   intro k out B hk hl;have hk2:k < n:=by omega
   have w1:IntKind.i64.wrap ((k:Int)+1)=((k+1:Nat):Int):=Qas (by omega);refine jL ?_;have Hq:=hk2;repeat refine go1 ?_
   refine Qab (ro_in n e0 es c he0 hes hel k es.length 0 out B (by omega) hl) ?_;rintro ex st ⟨rfl,B',rfl⟩;simp only [if_true,Kcb];have Hq:=w1;repeat refine go1 ?_
   exact ih (k+1) (es.foldl Qdy out) B' (by omega) (by rw [Qsj,hl])
theorem Jln (n:Nat) (hn1:1<=n) (hn7:n<=7) (e0:Nat) (es:List (Int×Int)) (c:Bool) (he0:e0=2 \/ es=[]) (hes:∀ e ∈ es,0<=e.1/\e.1 < n/\0<=e.2/\e.2 < n) (hel:es.length<=1000) :
 Ev tb Ja0 [] [.agg [I n,.lst e0 (eds es) c]] [] ⟨O (Qj0 es n (Qbx n (-1))),[],[],[]⟩:=by
 have e1:=Qaa (Qb6 n (-1) (by omega));have hil:(Qbx n (-1)).length=n:=by rw [Qbc];simp
 have loop:=ro_out n e0 es c he0 hes hel hn7 n 0 (Qbx n (-1)) [] (by omega) hil;rw [show ((0:Nat):Int)=0 from rfl] at loop;generalize Qbx n (-1)=L at *
 cases L with
 | nil=>simp at hil;omega
 | cons x L =>
   simp only [nlI] at e1;refine jC zt172 rfl ?_;have Hq:=e1;repeat refine go1 ?_
   refine Qab loop ?_;rintro ex st ⟨rfl,B',rfl⟩;simp only [if_true]
   repeat refine go0 ?_
   simp [Jh0]
end Go.Idl
namespace Go.Idl
open Go
def nlT:List (List Int)->IV
 | []=>Z
 | x::r=>OT (x::r)
theorem Qwv (t:List (List Int)):Ev tb Jji [] [nlT t] [] ⟨nlT t,[],[],[]⟩:=by
 cases t with
 | nil =>
   simp only [nlT];refine jC zt257 rfl ?_
   repeat refine go0 ?_
   simp [Jib]
 | cons x t =>
   simp only [nlT];have h2:(oab (x::t)).take (t.length+1)=oab (x::t):=Kae (by simp);refine jC zt257 rfl ?_;have Hq:=h2;repeat refine go1 ?_
   simp [Jib,h2]
def inP (rt:List Int) (r:Int) (v:Int):Bool:=decide (rt.getD v.toNat 0=r)
def isR (rt:List Int) (v:Int):Bool:=inP rt v v
def Qjy (n:Nat) (rt:List Int) (i:Nat):List (List Int):=((rgF n i).filter (isR rt)).map fun r=>(rgF n 0).filter (inP rt r)
theorem co_in (n:Nat) (hn:n<=7) (rt:List Int) (hl:rt.length=n) (acc:List (List Int)) (r:Nat) (B:Qad):∀ (m i:Nat) (part:List Int),i+m=n->part.length<=i ->
 wp tb (.loop Qqz) { T:=[(3,nlT acc),(4,O rt),(5,I r),(6,nlI part),(12,I n),(13,I r),(22,.arr (.S 4) 0 [] 1 0 n false),(23,I n),(24,I i)],loc:=B,M:=[] }
  (fun ex st=>ex=.exit 2/\st={ T:=[(3,nlT acc),(4,O rt),(5,I r),(6,nlI (part++(rgF n i).filter (inP rt r))),(12,I n),(13,I r),(22,.arr (.S 4) 0 [] 1 0 n false),(23,I n),(24,I n),(25,Bo false)],loc:=B,M:=[] }):=by
 intro m
 induction m with
 | zero =>
   intro i part hi hp;have h3:i=n:=hi;subst h3;rw [Qqg,Kdw,Kbb];cases acc <;> cases part <;> simp only [nlT,nlI]
   . refine jL ?_
     repeat refine go0 ?_
     exact ⟨rfl,rfl⟩
   . refine jL ?_
     repeat refine go0 ?_
     exact ⟨rfl,rfl⟩
   . refine jL ?_
     repeat refine go0 ?_
     exact ⟨rfl,rfl⟩
   . refine jL ?_
     repeat refine go0 ?_
     exact ⟨rfl,rfl⟩
 | succ m ih =>
   intro i part hi hp;have hi2:i < n:=by omega
   have hil:i < rt.length:=by omega
   have w1:IntKind.i64.wrap ((i:Int)+1)=((i+1:Nat):Int):=Qas (by omega);have gi:rt.getD i 0=rt[i]:=by rw [Kad,Kag hil];rfl
   rw [Qgq hi2];by_cases hq:rt[i]=(r:Int)
   . have hpr:inP rt r (i:Int)=true:=by rw [inP,Kax,gi];exact Kbo hq
     rw [Kdd hpr];have hn2:=ih (i+1) (part++[(i:Int)]) (by omega) (by simp;omega);rw [Kal,Kbk,Kaq] at hn2;have hl1:part.length+1<=274877906944:=by omega
     have hT:∀ x:Int,List.take (part.length+1) (part++[x])=part++[x]:=fun x=>Kae (by simp);have hT2:List.take part.length part=part:=Kae (Kam _);cases part with
     | nil =>
       rw [Kaq] at hn2 |-;have hn2:wp tb (.loop Qqz) { T:=[(3,nlT acc),(4,O rt),(5,I r),(6,O [(i:Int)]),(12,I n),(13,I r),(22,.arr (.S 4) 0 [] 1 0 n false),(23,I n),(24,I ((i+1:Nat):Int))],loc:=B,M:=[] } _:=hn2;cases acc <;> simp only [nlT,nlI] at hn2 |-
       . refine jL ?_;have Hq:=cj5 hi2 hil hl hq w1;repeat refine go1 ?_
         exact hn2
       . refine jL ?_;have Hq:=cj5 hi2 hil hl hq w1;repeat refine go1 ?_
         exact hn2
     | cons y ys =>
       rw [Kbk] at hn2;simp only [Kbc,Kbk] at hl1 hT hT2;have hn2:wp tb (.loop Qqz) { T:=[(3,nlT acc),(4,O rt),(5,I r),(6,O (y::(ys++[(i:Int)]))),(12,I n),(13,I r),(22,.arr (.S 4) 0 [] 1 0 n false),(23,I n),(24,I ((i+1:Nat):Int))],loc:=B,M:=[] } _:=hn2;cases acc <;> simp only [nlT,nlI] at hn2 |-
       . refine jL ?_;have Hq:=cj8 hi2 hil hl hq w1 hl1 hT hT2;repeat refine go1 ?_
         exact hn2
       . refine jL ?_;have Hq:=cj8 hi2 hil hl hq w1 hl1 hT hT2;repeat refine go1 ?_
         exact hn2
   . have hpr:¬ inP rt r (i:Int)=true:=by rw [inP,Kax,gi,Kai];exact hq
     rw [Keu hpr];have hn2:=ih (i+1) part (by omega) (by omega);cases acc <;> cases part <;> simp only [nlT,nlI] at hn2 |-
     . refine jL ?_;have Hq:=cj5 hi2 hil hl hq w1;repeat refine go1 ?_
       exact hn2
     . refine jL ?_;have Hq:=cj5 hi2 hil hl hq w1;repeat refine go1 ?_
       exact hn2
     . refine jL ?_;have Hq:=cj5 hi2 hil hl hq w1;repeat refine go1 ?_
       exact hn2
     . refine jL ?_;have Hq:=cj5 hi2 hil hl hq w1;repeat refine go1 ?_
       exact hn2
theorem Qzw {xs:List Int} {p:Int->Bool} {r:Int} (h:r ∈ xs) (hp:p r=true):∃ y ys,xs.filter p=y::ys:=by
 cases hq:xs.filter p with
 | nil=>have:r ∈ xs.filter p:=Kbr.2 ⟨h,hp⟩;rw [hq] at this;cases this
 | cons y ys=>exact ⟨y,ys,rfl⟩
theorem Qhk {n i:Nat} {x:Int}:x ∈ rgF n i <-> (i:Int)<=x/\x < n:=by
 rw [rgF,Kck];constructor
 . rintro ⟨a,ha,rfl⟩;obtain ⟨j,hj,rfl⟩:=List.mem_iff_getElem.1 ha;simp only [Kco,List.length_range] at hj;simp only [List.getElem_drop,List.getElem_range];omega
 . rintro ⟨h1,h2⟩;obtain ⟨k,rfl⟩:=Kbm (show 0<=x by omega);refine ⟨k,List.mem_iff_getElem.2 ⟨k - i,by simp;omega,?_⟩,rfl⟩;simp only [List.getElem_drop,List.getElem_range];omega
theorem co_out (n:Nat) (hn:n<=7) (rt:List Int) (hl:rt.length=n) (B:Qad):∀ (m r:Nat) (acc:List (List Int)),r+m=n->acc.length<=r ->
 wp tb (.loop Jgk) { T:=[(3,nlT acc),(4,O rt),(12,I n),(13,I r)],loc:=B,M:=[] }
  (fun ex st=>ex=.exit 0/\st={ T:=[(3,nlT (acc++Qjy n rt r)),(4,O rt),(12,I n),(13,I n),(14,Bo false)],loc:=B,M:=[] }):=by
 intro m
 induction m with
 | zero =>
   intro r acc hr ha;have h3:r=n:=hr;subst h3;rw [Qjy,Qqg,Kdw,Kdn,Kbb];cases acc <;> simp only [nlT]
   . refine jL ?_
     repeat refine go0 ?_
     exact ⟨rfl,rfl⟩
   . refine jL ?_
     repeat refine go0 ?_
     exact ⟨rfl,rfl⟩
 | succ m ih =>
   intro r acc hr ha;have hr2:r < n:=by omega
   have hrl:r < rt.length:=by omega
   have w1:IntKind.i64.wrap ((r:Int)+1)=((r+1:Nat):Int):=Qas (by omega);have gi:rt.getD r 0=rt[r]:=by rw [Kad,Kag hrl];rfl
   rw [Qjy,Qgq hr2];by_cases hq:rt[r]=(r:Int)
   . have hpr:isR rt (r:Int)=true:=by rw [isR,inP,Kax,gi];exact Kbo hq
     rw [Kdd hpr,Kbd];obtain ⟨y,ys,hy⟩:=Qzw (xs:=rgF n 0) (p:=inP rt r) (Qhk.2 ⟨by omega,by omega⟩) hpr;have hn2:=ih (r+1) (acc++[(rgF n 0).filter (inP rt r)]) (by omega) (by simp;omega);rw [Kal,Kbk,Kaq,Qjy] at hn2;have inner:=co_in n hn rt hl acc r B n 0 [] (by omega) (by simp);rw [Kaq,hy] at inner;rw [hy] at hn2 |-;have e1:=Qaa (Qph (y::ys));have hl1:acc.length+1<=274877906944:=by omega
     have hT:∀ x:List Int,List.take (acc.length+1) (acc++[x])=acc++[x]:=fun x=>Kae (by simp);have hT2:List.take acc.length acc=acc:=Kae (Kam _);cases acc with
     | nil =>
       simp only [Kaq,nlT,nlI] at hn2 inner |-;rw [show ((0:Nat):Int)=0 from rfl] at inner;refine jL ?_;have Hq:=cj4 hr2 hrl hl hq;repeat refine go1 ?_
       refine Qab inner ?_;rintro ex st ⟨rfl,rfl⟩;simp only [if_true];have Hq:=cj2 e1 w1;repeat refine go1 ?_
       exact hn2
     | cons a as_ =>
       simp only [Kbk,nlT,nlI] at hn2 inner |-;simp only [Kbc,Kbk] at hl1 hT hT2;rw [show ((0:Nat):Int)=0 from rfl] at inner;refine jL ?_;have Hq:=cj4 hr2 hrl hl hq;repeat refine go1 ?_
       refine Qab inner ?_;rintro ex st ⟨rfl,rfl⟩;simp only [if_true];have Hq:=cj5 e1 w1 hl1 hT hT2;repeat refine go1 ?_
       exact hn2
   . have hpr:¬ isR rt (r:Int)=true:=by rw [isR,inP,Kax,gi,Kai];exact hq
     rw [Keu hpr];have hn2:=ih (r+1) acc (by omega) (by omega);cases acc <;> simp only [nlT] at hn2 |-
     . refine jL ?_;have Hq:=cj5 hr2 hrl hl hq w1;repeat refine go1 ?_
       exact hn2
     . refine jL ?_;have Hq:=cj5 hr2 hrl hl hq w1;repeat refine go1 ?_
       exact hn2
def Qlk (n:Nat) (es:List (Int×Int)):List (List Int):=Qjy n (Qj0 es n (Qbx n (-1))) 0
theorem Qpm (n:Nat) (hn1:1<=n) (hn7:n<=7) (e0:Nat) (es:List (Int×Int)) (c:Bool) (he0:e0=2 \/ es=[]) (hes:∀ e ∈ es,0<=e.1/\e.1 < n/\0<=e.2/\e.2 < n) (hel:es.length<=1000) :
 Ev tb Jay [] [.agg [I n,.lst e0 (eds es) c]] [] ⟨nlT (Qlk n es),[],[],[]⟩:=by
 have e1:=Qaa (Jln n hn1 hn7 e0 es c he0 hes hel);have hrl:(Qj0 es n (Qbx n (-1))).length=n:=by rw [Qx5,Qbc];simp
 rw [Qlk];generalize Qj0 es n (Qbx n (-1))=rt at *
 have loop:=co_out n hn7 rt hrl [[I n,.lst e0 (eds es) c]] n 0 [] (by omega) (by simp);rw [Kaq,show ((0:Nat):Int)=0 from rfl] at loop;simp only [nlT] at loop;have e2:=Qaa (Qwv (Qjy n rt 0));generalize Qjy n rt 0=P at *
 refine jC zt170 rfl ?_;have Hq:=e1;repeat refine go1 ?_
 refine Qab loop ?_;rintro ex st ⟨rfl,rfl⟩;simp only [if_true];cases P with
 | nil =>
   simp only [nlT] at e2 |-;have Hq:=e2;repeat refine go1 ?_
   simp [Jah]
 | cons p P =>
   simp only [nlT] at e2 |-;have Hq:=e2;repeat refine go1 ?_
   simp [Jah]
theorem Qnm (n:Nat) (hn1:1<=n) (e0:Nat) (es:List (Int×Int)) (c:Bool) (he0:e0=2 \/ es=[]) (hel:es.length<=1000) (hv:Qak n es=true) (v1:Qbq tb Qq8 [] [.agg [I n,.lst e0 (eds es) c]] []=some ⟨Bo true,[],[],[]⟩) :
 Ev tb Qvv [] [.agg [I n,.lst e0 (eds es) c]] [] ⟨Bo (decide ((Qlk n es).length=1)),[],[],[]⟩:=by
 have hes:∀ e ∈ es,0<=e.1/\e.1 < n/\0<=e.2/\e.2 < n:=fun e he=>by have:=Qej.1 ((Qee.1 hv).2.1 e he);omega
 have e1:=Qaa (Qpm n hn1 (Qee.1 hv).2.2 e0 es c he0 hes hel);generalize Qlk n es=P at *
 cases P with
 | nil =>
   simp only [nlT] at e1;refine jC Jo4 rfl ?_;have Hq:=cj2 v1 e1;repeat refine go1 ?_
   simp [Qvo]
 | cons p P =>
   simp only [nlT] at e1;by_cases h1:P.length=0
   . have h1':P=[]:=Kav.1 h1;subst h1';refine jC Jo4 rfl ?_;have Hq:=cj2 v1 e1;repeat refine go1 ?_
     simp [Qvo]
   . have h2:¬ (P.length:Int)+1=1:=by omega
     have h3:¬ P=[]:=fun h=>h1 (by rw [h];rfl);refine jC Jo4 rfl ?_;have Hq:=cj4 v1 e1 h1 h2;repeat refine go1 ?_
     simp [Qvo,h3];exact h2
end Go.Idl
namespace Go.Idl
open Go
def bls (l:List Bool):List (List IV):=l.map fun b=>[Bo b]
abbrev OB (l:List Bool):IV:=.own 1 (bls l)
@[simp] theorem bls_len (l:List Bool):(bls l).length=l.length:=by simp [bls]
@[simp] theorem bls_rep (n:Nat):List.replicate n [IV.sc (Value.bool false)]=bls (List.replicate n false):=by simp [bls]
@[simp] theorem bls_get (l:List Bool) (i:Nat) (h:i < (bls l).length):(bls l)[i]=[IV.sc (.bool (l[i]'(by simpa [bls] using h)))]:=by simp [bls]
@[simp] theorem bls_get? (l:List Bool) (i:Nat):(bls l)[i]? = l[i]?.map fun b=>[IV.sc (.bool b)]:=by simp [bls]
@[simp] theorem bls_set (l:List Bool) (i:Nat) (b:Bool):(bls l).set i [IV.sc (.bool b)]=bls (l.set i b):=by simp [bls,Ker]
def Qq6 (l:List Bool) (e:Int×Int):List Bool:=if (l.getD e.1.toNat false || l.getD e.2.toNat false)=true then (l.set e.1.toNat true).set e.2.toNat true else l
def Qsw (es:List (Int×Int)):Nat->List Bool->List Bool
 | 0,l=>l
 | m+1,l=>Qsw es m (es.foldl Qq6 l)
theorem Qkz (l:List Bool) (e:Int×Int):(Qq6 l e).length=l.length:=by rw [Qq6];split <;> simp
theorem Qmi (es:List (Int×Int)):∀ l:List Bool,(es.foldl Qq6 l).length=l.length:=by
 induction es with
 | nil=>intro l;rfl
 | cons e es ih=>intro l;rw [Kdv,ih,Qkz]
theorem Qp7 (es:List (Int×Int)):∀ (m:Nat) (l:List Bool),(Qsw es m l).length=l.length
 | 0,_=>rfl
 | m+1,l=>by rw [Qsw,Qp7 es m,Qmi]
def Qwp (n:Nat) (es:List (Int×Int)) (v:Nat):List Int:=(rgF n 0).filter fun u=>(Qsw es n ((List.replicate n false).set v true)).getD u.toNat false
theorem cs_in (n:Nat) (es:List (Int×Int)) (c:Bool) (hes:∀ e ∈ es,0<=e.1/\e.1 < n/\0<=e.2/\e.2 < n) (hel:es.length<=1000) (k:Nat):∀ (m j:Nat) (l:List Bool) (B:Qad),j+m=es.length->l.length=n ->
 wp tb (.loop Jhl) { T:=[(2,.bptr 0 0 0),(5,OB l),(6,I k),(7,I j)],loc:=[I n,L2 es c]::B,M:=[] }
  (fun ex st=>ex=.exit 2/\∃ B',st={ T:=[(2,.bptr 0 0 0),(5,OB ((es.drop j).foldl Qq6 l)),(6,I k),(7,I es.length),(27,Bo false)],loc:=[I n,L2 es c]::B',M:=[] }):=by
 intro m
 induction m with
 | zero =>
   intro j l B hj hl;have h3:j=es.length:=hj;subst h3;refine jL ?_
   repeat refine go0 ?_
   exact ⟨rfl,_,by simp;rfl⟩
 | succ m ih =>
   intro j l B hj hl;have hj2:j < es.length:=by omega
   have hd:es.drop j=es[j]::es.drop (j+1):=Kay hj2;have hb:=hes _ (Kao hj2);obtain ⟨⟨x,y⟩,hx⟩:∃ e,e=es[j]:=⟨_,rfl⟩;rw [<- hx] at hb;simp only at hb;obtain ⟨a,rfl⟩:=Kbm hb.1;obtain ⟨b,rfl⟩:=Kbm hb.2.2.1;have hx2:=hx.symm;have han:a < n:=by omega
   have hbn:b < n:=by omega
   have ha:a < l.length:=by omega
   have hbl:b < l.length:=by omega
   have w1:IntKind.i64.wrap ((j:Int)+1)=((j+1:Nat):Int):=Qas (by omega);have ga:l.getD a false=l[a]:=by rw [Kad,Kag ha];rfl
   have gb:l.getD b false=l[b]:=by rw [Kad,Kag hbl];rfl
   have hn:=ih (j+1) (Qq6 l ((a:Int),(b:Int))) (B++[[I a,I b]]) (by omega) (by rw [Qkz,hl]);have hr:Qq6 l ((a:Int),(b:Int))=if (l[a] || l[b])=true then (l.set a true).set b true else l:=by
    simp only [Qq6,Kax,ga,gb]
   rw [hd,<- hx,Kdv];rw [hr] at hn |-;cases k1:l[a] with
   | true =>
     simp only [k1,Bool.true_or,if_true] at hn |-;refine jL ?_;have Hq:=cj9 hj2 hx2 ha hbl hl han hbn k1 w1;repeat refine go1 ?_
     exact hn
   | false =>
     cases k2:l[b] with
     | true =>
       simp only [k1,k2,Bool.or_true,if_true] at hn |-;refine jL ?_;have Hq:=Qri hj2 hx2 ha hbl hl han hbn k1 k2 w1;repeat refine go1 ?_
       exact hn
     | false =>
       simp only [k1,k2,Bool.or_false,Kap,Kbs] at hn |-;refine jL ?_;have Hq:=Qri hj2 hx2 ha hbl hl han hbn k1 k2 w1;repeat refine go1 ?_
       exact hn
theorem cs_out (n:Nat) (es:List (Int×Int)) (c:Bool) (hes:∀ e ∈ es,0<=e.1/\e.1 < n/\0<=e.2/\e.2 < n) (hel:es.length<=1000) (hn7:n<=7):∀ (m k:Nat) (l:List Bool) (B:Qad),k+m=n->l.length=n ->
 wp tb (.loop Jhm) { T:=[(2,.bptr 0 0 0),(5,OB l),(6,I k)],loc:=[I n,L2 es c]::B,M:=[] }
  (fun ex st=>ex=.exit 0/\∃ B',st={ T:=[(2,.bptr 0 0 0),(5,OB (Qsw es m l)),(6,I n),(20,Bo false)],loc:=[I n,L2 es c]::B',M:=[] }):=by
 intro m
 induction m with
 | zero =>
   intro k l B hk hl;have h3:k=n:=hk;subst h3;refine jL ?_
   repeat refine go0 ?_
   exact ⟨rfl,_,rfl⟩
 | succ m ih =>
   intro k l B hk hl;have hk2:k < n:=by omega
   have w1:IntKind.i64.wrap ((k:Int)+1)=((k+1:Nat):Int):=Qas (by omega);have inner:=cs_in n es c hes hel k es.length 0 l B (by omega) hl;rw [show ((0:Nat):Int)=0 from rfl] at inner;refine jL ?_;have Hq:=hk2;repeat refine go1 ?_
   refine Qab inner ?_;rintro ex st ⟨rfl,B',rfl⟩;simp only [if_true,Kcb];have Hq:=w1;repeat refine go1 ?_
   exact ih (k+1) (es.foldl Qq6 l) B' (by omega) (by rw [Qmi,hl])
theorem Jr4 (n:Nat) (hn7:n<=7) (es:List (Int×Int)) (c:Bool) (l:List Bool) (hl:l.length=n) (B:Qad):∀ (m i:Nat) (acc:List Int),i+m=n->acc.length<=i ->
 wp tb (.loop Jhn) { T:=[(2,.bptr 0 0 0),(5,OB l),(9,O acc),(10,I i)],loc:=[I n,L2 es c]::B,M:=[] }
  (fun ex st=>ex=.exit 4/\st={ T:=[(2,.bptr 0 0 0),(5,OB l),(9,O (acc++(rgF n i).filter fun u=>l.getD u.toNat false)),(10,I n),(59,Bo false)],loc:=[I n,L2 es c]::B,M:=[] }):=by
 intro m
 induction m with
 | zero =>
   intro i acc hi ha;have h3:i=n:=hi;subst h3;rw [Qqg,Kdw,Kbb];refine jL ?_
   repeat refine go0 ?_
   exact ⟨rfl,rfl⟩
 | succ m ih =>
   intro i acc hi ha;have hi2:i < n:=by omega
   have hil:i < l.length:=by omega
   have w1:IntKind.i64.wrap ((i:Int)+1)=((i+1:Nat):Int):=Qas (by omega);have gi:l.getD i false=l[i]:=by rw [Kad,Kag hil];rfl
   rw [Qgq hi2];cases hq:l[i] with
   | true =>
     rw [Kdd (by rw [Kax,gi,hq])];have hn2:=ih (i+1) (acc++[(i:Int)]) (by omega) (by simp;omega);rw [Kal,Kbk,Kaq] at hn2;have hl1:acc.length+1<=274877906944:=by omega
     have hT:∀ x:Int,List.take (acc.length+1) (acc++[x])=acc++[x]:=fun x=>Kae (by simp);have hT2:List.take acc.length acc=acc:=Kae (Kam _);refine jL ?_;have Hq:=cj8 hi2 hil hl hq w1 hl1 hT hT2;repeat refine go1 ?_
     exact hn2
   | false =>
     rw [Keu (by rw [Kax,gi,hq];simp)];have hn2:=ih (i+1) acc (by omega) (by omega);refine jL ?_;have Hq:=cj5 hi2 hil hl hq w1;repeat refine go1 ?_
     exact hn2
theorem Qrx (n:Nat) (hn7:n<=7) (es:List (Int×Int)) (c:Bool) (hes:∀ e ∈ es,0<=e.1/\e.1 < n/\0<=e.2/\e.2 < n) (hel:es.length<=1000) (v:Nat) (hv:v < n) :
 Ev tb Jjs [] [Gr n es c,I v] [] ⟨O (Qwp n es v),[],[],[]⟩:=by
 have hl1:n<=274877906944:=by omega
 have h1:=fun B=>cs_out n es c hes hel hn7 n 0 ((List.replicate n false).set v true) B (by omega) (by simp);have hml:(Qsw es n ((List.replicate n false).set v true)).length=n:=by rw [Qp7];simp
 have h2:=fun B=>Jr4 n hn7 es c (Qsw es n ((List.replicate n false).set v true)) hml B n 0 [] (by omega) (by simp);rw [Qwp];generalize Qsw es n ((List.replicate n false).set v true)=R at *
 simp only [Kaq,show ((0:Nat):Int)=0 from rfl] at h1 h2;refine jC zt342 rfl ?_
 repeat (first|apply jA|apply jQ|refine wr (by simp [hl1,hv];with_reducible rfl) ?_|refine wq (by simp [hl1,hv];with_reducible rfl) ?_|refine wt (by simpa [hl1,hv]) ?_|refine wf (by simpa [hl1,hv]) ?_|refine xt (by simpa [hl1,hv]) ?_|refine xf (by simpa [hl1,hv]) ?_|apply jB|apply Jaf|refine jX ?_|refine jY ?_|refine jR ?_|refine jK ?_|refine jE ?_)
 refine Qab (h1 []) ?_;rintro ex st ⟨rfl,B',rfl⟩;simp only [if_true]
 repeat refine go0 ?_
 refine Qab (h2 B') ?_;rintro ex st ⟨rfl,rfl⟩;simp only [if_true]
 repeat refine go0 ?_
 simp [Jof]
end Go.Idl
namespace Go.Idl
open Go
def hdV (n:Nat) (es:List (Int×Int)) (v:Int):Bool:=decide ((Qwp n es v.toNat).getD 0 0=v)
def Qlj (n:Nat) (es:List (Int×Int)) (i:Nat):List (List Int):=((rgF n i).filter (hdV n es)).map fun v=>Qwp n es v.toNat
theorem Qmr {l:List Bool} {e:Int×Int} {v:Nat} (h:l.getD v false=true):(Qq6 l e).getD v false=true:=by
 have hv:v < l.length:=by
  rw [Kad] at h;by_cases hv:v < l.length
  . exact hv
  . rw [Kar (by omega)] at h;cases h
 rw [Qq6];split
 . rw [Kad] at h |-;rw [Kdp,Kdp];split
   . split
     . rfl
     . rename_i h1 h2;simp at h2;omega
   . split
     . split
       . rfl
       . omega
     . exact h
 . exact h
theorem Qf0 {v:Nat}:∀ (es:List (Int×Int)) {l:List Bool},l.getD v false=true->(es.foldl Qq6 l).getD v false=true
 | [],_,h=>h
 | e::es,_,h=>Qf0 es (Qmr h)
theorem Qsx {es:List (Int×Int)} {v:Nat}:∀ (m:Nat) {l:List Bool},l.getD v false=true->(Qsw es m l).getD v false=true
 | 0,_,h=>h
 | m+1,_,h=>Qsx m (Qf0 es h)
theorem Qxq {n:Nat} {es:List (Int×Int)} {v:Nat} (hv:v < n):(v:Int) ∈ Qwp n es v:=by
 refine Kbr.2 ⟨Qhk.2 ⟨by omega,by omega⟩,?_⟩;refine Qsx n ?_;rw [Kax,Kad,Kbl (by simpa using hv)];rfl
theorem Jr3 (n:Nat) (hn7:n<=7) (es:List (Int×Int)) (c:Bool) (hes:∀ e ∈ es,0<=e.1/\e.1 < n/\0<=e.2/\e.2 < n) (hel:es.length<=1000):∀ (m i:Nat) (acc:List (List Int)),i+m=n->acc.length<=i ->
 wp tb (.loop Jqv) { T:=[(1,.bptr 0 0 0),(3,OT acc),(4,I i)],loc:=[[I n,L2 es c]],M:=[] }
  (fun ex st=>ex=.exit 0/\st={ T:=[(1,.bptr 0 0 0),(3,OT (acc++Qlj n es i)),(4,I n),(10,Bo false)],loc:=[[I n,L2 es c]],M:=[] }):=by
 intro m
 induction m with
 | zero =>
   intro i acc hi ha;have h3:i=n:=hi;subst h3;rw [Qlj,Qqg,Kdw,Kdn,Kbb];refine jL ?_
   repeat refine go0 ?_
   exact ⟨rfl,rfl⟩
 | succ m ih =>
   intro i acc hi ha;have hi2:i < n:=by omega
   have w1:IntKind.i64.wrap ((i:Int)+1)=((i+1:Nat):Int):=Qas (by omega);have e1:=fun c=>Qaa (Qrx n hn7 es c hes hel i hi2);have hm:=Qxq (es:=es) hi2;have hh:hdV n es (i:Int)=decide ((Qwp n es i).getD 0 0=(i:Int)):=by rw [hdV,Kax]
   rw [Qlj,Qgq hi2];have hn0:=ih (i+1) acc (by omega) (by omega);have hn1:=ih (i+1) (acc++[Qwp n es i]) (by omega) (by simp;omega);rw [Kal,Kbk,Kaq] at hn1;have hl1:acc.length+1<=274877906944:=by omega
   have hT:∀ x:List Int,List.take (acc.length+1) (acc++[x])=acc++[x]:=fun x=>Kae (by simp);have hT2:List.take acc.length acc=acc:=Kae (Kam _);by_cases hq:(Qwp n es i).getD 0 0=(i:Int)
   . rw [Kdd (by rw [hh];exact Kbo hq),Kbd,Kax];rw [Qlj] at hn1;generalize Qwp n es i=C at *
     cases C with
     | nil=>cases hm
     | cons y ys =>
       have hq:y=(i:Int):=hq;subst hq;refine jL ?_;have Hq:=cj6 hi2 e1 w1 hl1 hT hT2;repeat refine go1 ?_
       exact hn1
   . rw [Keu (by rw [hh,Kai];exact hq)];rw [Qlj] at hn0;generalize Qwp n es i=C at *
     cases C with
     | nil=>cases hm
     | cons y ys =>
       have hq:¬ y=(i:Int):=hq;refine jL ?_;have Hq:=cj4 hi2 e1 w1 hq;repeat refine go1 ?_
       exact hn0
theorem Qib (n:Nat) (hn7:n<=7) (es:List (Int×Int)) (c:Bool) (hes:∀ e ∈ es,0<=e.1/\e.1 < n/\0<=e.2/\e.2 < n) (hel:es.length<=1000) :
 Ev tb Jjt [] [Gr n es c] [] ⟨OT (Qlj n es 0),[],[],[]⟩:=by
 have loop:=Jr3 n hn7 es c hes hel n 0 [] (by omega) (by simp);rw [Kaq,show ((0:Nat):Int)=0 from rfl] at loop;simp only [OT,Jsw] at loop;refine jC zt343 rfl ?_
 repeat refine go0 ?_
 refine Qab loop ?_;rintro ex st ⟨rfl,rfl⟩;simp only [if_true]
 repeat refine go0 ?_
 simp [Jog]
theorem Qkb (es:List (Int×Int)) (c:Bool) (v1:Qbq tb Qq8 [] [Gr 0 es c] []=some ⟨Bo true,[],[],[]⟩):Ev tb Qvv [] [Gr 0 es c] [] ⟨Bo false,[],[],[]⟩:=by
 have e1:Qbq tb Qhs [] [I 0,I (-1)] []=some ⟨Z,[],[],[]⟩:=Qaa (Qb6 0 (-1) (by omega));have e2:Qbq tb Ja0 [] [Gr 0 es c] []=some ⟨Z,[],[],[]⟩:=by
  refine Qaa ?_;refine jC zt172 rfl ?_;have Hq:=e1;repeat refine go1 ?_
  refine jL ?_
  repeat refine go0 ?_
  simp [Jh0]
 have e3:=Qaa (Qwv []);simp only [nlT] at e3;have e4:Qbq tb Jay [] [Gr 0 es c] []=some ⟨Z,[],[],[]⟩:=by
  refine Qaa ?_;refine jC zt170 rfl ?_;have Hq:=e2;repeat refine go1 ?_
  refine jL ?_;have Hq:=e3;repeat refine go1 ?_
  simp [Jah]
 refine jC Jo4 rfl ?_;have Hq:=cj2 v1 e4;repeat refine go1 ?_
 simp [Qvo]
end Go.Idl
namespace Go.Idl
open Go
theorem Qkg (d:List Int) (c:Bool) (hv:Qbb d=true):Ev tb Jjz [] [L d c] [] ⟨Bo (decide (d.length=1) || (decide (1 < d.length) && (Qeb d && decide (d.sum=2 * ((d.length:Int) - 1))))),[],[],[]⟩:=by
 have hf:=Qan hv;have e2:=Qaa (Ql6 d c hf.small);have h7:=hf.1;cases d with
 | nil =>
   refine jC Jo6 rfl ?_
   repeat refine go0 ?_
   simp [Qvq]
 | cons x r =>
 have e3:=Qaa (Qup x r c (by simp at h7;omega));have w1:IntKind.i64.wrap (r.length:Int)=(r.length:Int):=Qac (by omega) (by simp at h7;omega);have w2:IntKind.i64.wrap (2 * (r.length:Int))=2 * (r.length:Int):=Qac (by omega) (by simp at h7;omega);by_cases h1:r=[]
 . subst h1;refine jC Jo6 rfl ?_
   repeat refine go0 ?_
   simp [Qvq]
 . have h2:¬ r.length=0:=fun h=>h1 (Kav.1 h);have h3:¬ (r.length:Int)=0:=by omega
   have h4:¬ (r.length:Int)+1=1:=by omega
   have h5:(1:Int) < (r.length:Int)+1:=by omega
   have h6:(0:Int) < (r.length:Int):=by omega
   have h6':0 < r.length:=by omega
   rw [show Qeb (x::r)=decide (0 < Qcq x r) from Jd4.symm];by_cases hp:0 < Qcq x r
   . refine jC Jo6 rfl ?_;have Hq:=Qtv e2 e3 h1 h2 h3 h4 h5 h6 hp w1 w2;repeat refine go1 ?_
     simp [Qvq,h1,hp,h6']
     try rfl
   . refine jC Jo6 rfl ?_;have Hq:=Qtv e2 e3 h1 h2 h3 h4 h5 h6 hp w1 w2;repeat refine go1 ?_
     simp [Qvq,h1,hp]
end Go.Idl
namespace Go.Idl
open Go
theorem Jda (d:List Int) (c:Bool) (hl:d.length<=7):Ev tb Jjx [] [L d c] [] ⟨I (Qd3 (fall d)),[],[],[]⟩:=by
 have e1:=Qaa (Qdo d c (by omega));have hfl:=Qay d;generalize fall d=s at *
 have loop:∀ (m i k:Nat),i+m=s.length->k<=i->wp tb (.loop Jq0) { T:=[(3,O s),(4,I k),(5,I i)],loc:=[],M:=[] }
  (fun ex st=>ex=.exit 0/\st={ T:=[(3,O s),(4,I (Qgx (s.drop i) i k)),(5,I s.length),(11,Bo false)],loc:=[],M:=[] }):=by
  intro m
  induction m with
  | zero =>
    intro i k hi hk;obtain ⟨h1,h2⟩:=Qcg hi;have h3:i=s.length:=hi;subst h3;refine jL ?_
    repeat refine go0 ?_
    rw [h2];exact ⟨rfl,rfl⟩
  | succ m ih =>
    intro i k hi hk;obtain ⟨hi2,h2,h3⟩:=Qch hi;have w2:IntKind.i64.wrap ((i:Int)+1)=((i+1:Nat):Int):=Qas (by omega);rw [h2,Qgx];by_cases hq:(i:Int)<=s[i]
    . rw [if_pos hq];refine jL ?_;have Hq:=cj3 hi2 hq w2;repeat refine go1 ?_
      exact ih (i+1) (i+1) (by omega) (by omega)
    . rw [if_neg hq];refine jL ?_;have Hq:=cj3 hi2 hq w2;repeat refine go1 ?_
      exact ih (i+1) k (by omega) (by omega)
 refine jC zt349 rfl ?_;have Hq:=e1;repeat refine go1 ?_
 refine Qab (loop s.length 0 0 (by simp) (by omega)) ?_;rintro ex st ⟨rfl,rfl⟩
 try simp only [if_true]
 repeat refine go0 ?_
 simp [Jom,Qd3]
theorem Qpr (d:List Int) (c:Bool) (hv:Qbb d=true):Ev tb Jj5 [] [L d c] [] ⟨I (if d.length=0 then 0 else (Qa7 d).getD (Qd3 (fall d) - 1) 0),[],[],[]⟩:=by
 have hf:=Qan hv;have e1:=Qaa (Jda d c hf.1);by_cases h0:d.length=0
 . have hd:d=[]:=Kav.1 h0;subst hd;have hz:Qd3 (fall [])=0:=rfl;rw [hz,show ((0:Nat):Int)=0 from rfl] at e1;rw [if_pos h0];refine jC zt381 rfl ?_;have Hq:=e1;repeat refine go1 ?_
   simp [Jip]
 have e2:=Qaa (Qr3 d c hf);have hd1:=Qud (fall d);have hd2:1<=Qd3 (fall d):=Quc (fun h=>h0 (by rw [<- Qay,h];rfl)) (fun x hx=>(hf.fall.2 x hx).1);rw [Qay] at hd1;have hsl:=Qet d;obtain ⟨k,hk⟩:∃ k,Qd3 (fall d)=k+1:=⟨Qd3 (fall d) - 1,by omega⟩;have hl:=hf.1;have w1:IntKind.i64.wrap (k:Int)=(k:Int):=Qac (by omega) (by omega);have hk2:k < (Qa7 d).length:=by omega
 have hs:(Qa7 d).getD (Qd3 (fall d) - 1) 0=(Qa7 d)[k]:=by
  rw [hk,Nat.add_sub_cancel,Kad,Kag hk2];rfl
 have hkz:¬ (k:Int)+1=0:=by omega
 rw [if_neg h0,hs];rw [hk] at e1;refine jC zt381 rfl ?_;have Hq:=cj5 e1 e2 w1 hk2 hkz;repeat refine go1 ?_
 simp [Jip]
end Go.Idl
namespace Go.Idl
open Go
theorem Ql5 (d:List Int) (c:Bool) (hv:Qbb d=true):Ev tb Jj1 [] [L d c] [] ⟨RS d.length (Jmp d),[],[],[]⟩:=by
 have hf:=Qan hv;have h7:=hf.1;have e2:=Qaa (Qly d c (by omega));have hlo:=sr_out d c d.length h7 rfl d.length d [] [] (by simp) rfl (fun x hx=>by have:=hf.2 x hx;omega) (by simp;omega);unfold Jmp;cases hr:Qs7 d.length d.length d [] [] with
 | none =>
   simp only [hr] at hlo;refine jC zt370 rfl ?_;have Hq:=e2;repeat refine go1 ?_
   refine Qab hlo ?_;rintro ex st ⟨rfl,B,rfl⟩;simp [Jio]
 | some es =>
   simp only [hr] at hlo;refine jC zt370 rfl ?_;have Hq:=e2;repeat refine go1 ?_
   refine Qab hlo ?_;rintro ex st ⟨rfl,left',done',rfl⟩;simp only [if_true];have het:es.take es.length=es:=Kae (Kam _);have Hq:=het;repeat refine go1 ?_
   simp [Jio]
theorem Qnv (d:List Int) (c:Bool) (hv:Qbb d=true):Ev tb Jjy [] [L d c] [] ⟨Bo (decide (fall d=Qda (fall d))),[],[],[]⟩:=by
 have h7:=(Qan hv).1;have hcl:(Qda (fall d)).length=d.length:=by simp [Qda,Qay]
 have hfl:=Qay d;have e2:=Qaa (Qdo d c (by omega));have e3:=fun c=>Qaa (Qry (fall d) c (by omega));have e4:=fun c1 c2=>Qaa (Jsi (fall d) (Qda (fall d)) c1 c2 (by omega) (by omega));generalize Qda (fall d)=cs at *
 generalize fall d=fs at *
 generalize decide (fs=cs)=b at *
 refine jC zt358 rfl ?_;have Hq:=cj3 e2 e3 e4;repeat refine go1 ?_
 simp [Joo]
def Qj3 (b:Bool):List UInt8:=if b then [121,101,115] else [110,111]
theorem Qd4 (b:Bool):Ev tb Qq4 [] [Bo b] [] ⟨SB (Qj3 b),[],[],[]⟩:=by
 cases b <;>
 . refine jC zt389 rfl ?_
   repeat (first|apply jA|apply jQ|refine wr (by simp;with_reducible rfl) ?_|refine wt (by simpa) ?_|refine wf (by simpa) ?_|refine xt (by simpa) ?_|refine xf (by simpa) ?_|apply jB|apply Jaf|refine jX ?_|refine jY ?_|refine jR ?_|refine jK ?_|refine jE ?_)
   simp [Jou,Qj3]
theorem Ql3 (l:List UInt8) (hl:l.length<=1500000):Ev tb Jbf [] [SB l] [] ⟨.tup [O (l.map rds),Bo (Qbb (l.map rds))],[],[],[]⟩:=by
 have hs:(⟨l.toArray⟩:ByteArray).size=l.length:=rfl;have loop:∀ (m i:Nat),i+m=l.length->wp tb (.loop Jq3) { T:=[(0,SB l),(4,O ((l.take i).map rds)),(5,I i)],loc:=[],M:=[] }
  fun ex st=>ex=.exit 0/\st={ T:=[(0,SB l),(4,O (l.map rds)),(5,I l.length),(10,Bo false)],loc:=[],M:=[] }:=by
  intro m
  induction m with
  | zero =>
    intro i hi;have:i=l.length:=by omega
    subst this;rw [Kdb];refine jL ?_;have Hq:=hs;repeat refine go1 ?_
    exact ⟨rfl,rfl⟩
  | succ m ih =>
    intro i hi;have hlt:i < l.length:=by omega
    have hlt':(i:Int) < l.length:=by omega
    have w1:IntKind.i64.wrap ((i:Int)+1)=((i+1:Nat):Int):=Qas (by omega);have g1:=bs_get? l i hlt;have g2:∀ h:i < (⟨l.toArray⟩:ByteArray).size,(⟨l.toArray⟩:ByteArray)[i]'h=l[i]:=fun _=>rfl;have b1:=l[i].toNat_lt;have x1:IntKind.i64.wrap (l[i].toNat:Int)=l[i].toNat:=Qac (by omega) (by omega);have x2:IntKind.i64.wrap ((l[i].toNat:Int) - 48)=rds l[i]:=Qac (by omega) (by omega);have hn:=ih (i+1) (by omega);rw [Kau hlt,Kct,Kbd,Kdn] at hn;have hal:((l.take i).map rds).length=i:=by simp;omega
    generalize (l.take i).map rds=A at *
    have hlm:i+1<=274877906944:=by omega
    have htA:A.take i=A:=Kae (by omega);refine jL ?_;have Hq:=Qtv w1 hs hlt hlt' hal g1 g2 x1 x2 hlm htA;repeat refine go1 ?_
    exact hn
 have v1:=Qaa (Ql7 (l.map rds) false (by simp;omega));have lp:=loop l.length 0 (by omega);rw [Kcz,Kdn] at lp;have htA:(l.map rds).take (l.map rds).length=l.map rds:=Kae (Kam _);have hll:(l.map rds).length=l.length:=by simp
 generalize l.map rds=A at *
 refine jC zt366 rfl ?_
 repeat refine go0 ?_
 refine Qab lp ?_;rintro ex st ⟨rfl,rfl⟩;show wp tb _ _ _;have Hq:=cj2 v1 htA;repeat refine go1 ?_
 simp [Joq]
def Qdx (l:List UInt8):Option (List Int):=if Qbb (l.map rdb) then some (l.map rdb) else none
theorem Qtm (l:List UInt8):Qbb (l.map rds)=Qbb (l.map rdb)/\(Qbb (l.map rdb)=true->l.map rds=l.map rdb):=by
 by_cases h:∀ b ∈ l,48<=b.toNat
 . have:l.map rds=l.map rdb:=Kdr fun b hb=>by
    have:=h b hb;rw [rds,rdb,if_neg (by omega)]
   rw [this];exact ⟨rfl,fun _=>rfl⟩
 . have h2:∃ b ∈ l,b.toNat < 48:=by
    refine Kcx fun hh=>h fun b hb=>?_;refine Kcx fun hq=>hh ⟨b,hb,by omega⟩
   obtain ⟨b,hb,hq⟩:=h2;have n1:Qbb (l.map rdb)=false:=by
    cases hv:Qbb (l.map rdb) with
    | false=>rfl
    | true =>
      have h1:=Qdv hv (rdb b) (List.mem_map_of_mem hb);have h3:=(Qan hv).1;rw [rdb,if_pos (by omega)] at h1;omega
   have n2:Qbb (l.map rds)=false:=by
    cases hv:Qbb (l.map rds) with
    | false=>rfl
    | true =>
      have h1:=Qdv hv (rds b) (List.mem_map_of_mem hb);rw [rds] at h1;omega
   rw [n1,n2];exact ⟨rfl,fun h=>by cases h⟩
theorem Qkh (l:List UInt8) (hl:l.length<=1500000):∃ X,Ev tb Jbf [] [SB l] [] ⟨.tup [O X,Bo (Qdx l).isSome],[],[],[]⟩/\∀ d,Qdx l=some d->X=d:=by
 refine ⟨l.map rds,?_,fun d hd=>?_⟩
 . have:=Ql3 l hl;have hq:(Qdx l).isSome=Qbb (l.map rds):=by
    rw [(Qtm l).1,Qdx];split <;> simp_all
   rw [hq];exact this
 . rw [Qdx] at hd;split at hd
   . rename_i hv;cases hd;exact (Qtm l).2 hv
   . cases hd
theorem Qcw {l:List UInt8} {d:List Int} (h:Qdx l=some d):Qbb d=true:=by
 rw [Qdx] at h;split at h
 . rename_i hv;cases h;exact hv
 . cases h
theorem Qnw (l:List UInt8) (hl:l.length<=1500000):∃ G,(∃ n es,G=.agg [I n,Z] \/ G=OG n es)/\Ev tb Qv6 [] [SB l] [] ⟨.tup [G,Bo (Qc7 l).isSome],[],[],[]⟩/\∀ n es,Qc7 l=some (n,es)->G=OG n es:=by
 by_cases hf:l.length < 2
 . have hp:Qc7 l=none:=by
    rw [Jeo,Jmi];have:Qyv l=none:=by
     match l,hf with
     | [],_=>rfl
     | [_],_=>rfl
    rw [this]
   refine ⟨.agg [I 0,Z],⟨0,[],.inl rfl⟩,?_,fun n es h=>by rw [hp] at h;cases h⟩;rw [hp];exact Qpq l hf
 . obtain ⟨h0,h1,r,rfl⟩:∃ h0 h1 r,l=h0::h1::r:=by
    match l,hf with
    | [],h=>exact absurd (by simp) h
    | [_],h=>exact absurd (by simp) h
    | a::b::r,_=>exact ⟨a,b,r,rfl⟩
   have e:=Jdh h0 h1 r (by simp at hl;omega);refine ⟨OG (rds h0) (Qfi r),⟨_,_,.inr rfl⟩,?_,?_⟩
   . have hq:(Qc7 (h0::h1::r)).isSome=(Qak (rds h0) (Qfi r) && decide (gtx (rds h0) (Qfi r)=h0::h1::r)):=by
      rw [Jeo,Jmi,Qyv];by_cases hc:Qak (rds h0) (Qfi r)=true/\gtx (rds h0) (Qfi r)=h0::h1::r
      . show (if _ then _ else none:Option (Int×List (Int×Int))).isSome=_;rw [if_pos hc,hc.1,Kbo hc.2];rfl
      . show (if _ then _ else none:Option (Int×List (Int×Int))).isSome=_;rw [if_neg hc]
        symm
        show _=false;rw [Bool.and_eq_false_iff,Kcr];cases hv:Qak (rds h0) (Qfi r) with
        | false=>exact .inl rfl
        | true=>exact .inr fun h=>hc ⟨hv,h⟩
     rw [hq];exact e
   . intro n es h;rw [Jeo,Jmi,Qyv] at h;simp only at h;split at h
     . cases h;rfl
     . cases h
theorem Jfl {c:UInt8}:∀ {x:List UInt8},c ∉ x->Qck c x=[x]
 | [],_=>rfl
 | b::x,h=>by
   simp only [Kaf,not_or] at h;rw [Qck,if_neg (Ne.symm h.1),Jfl h.2]
theorem Qtf {c:UInt8}:∀ {x:List UInt8} (y:List UInt8),c ∉ x->Qck c (x++c::y)=x::Qck c y
 | [],y,_=>by simp [Qck]
 | b::x,y,h=>by
   simp only [Kaf,not_or] at h;rw [Kbk,Qck,if_neg (Ne.symm h.1),Qtf y h.2]
def strsB (l:List (List UInt8)):List (List IV):=l.map fun x=>[SB x]
theorem Qzg (l:List UInt8) (hl:l.length<=1500000):Ev tb Jj4 [] [SB l] [] ⟨.own 1 (strsB (Qck 32 l)),[],[],[]⟩:=by
 have hs:(⟨l.toArray⟩:ByteArray).size=l.length:=rfl;have loop:∀ (m i f:Nat) (A:List (List UInt8)),i+m=l.length->f<=i->A.length<=f->32 ∉ (l.drop f).take (i - f)->A++Qck 32 (l.drop f)=Qck 32 l ->
  wp tb (.loop Jq7) { T:=[(0,SB l),(3,.own 1 (strsB A)),(4,I f),(5,I i)],loc:=[],M:=[] }
  fun ex st=>ex=.exit 0/\∃ (f:Nat) (A:List (List UInt8)),(f<=l.length/\A.length<=f/\A++[l.drop f]=Qck 32 l)/\st={ T:=[(0,SB l),(3,.own 1 (strsB A)),(4,I f),(5,I l.length),(10,Bo false)],loc:=[],M:=[] }:=by
  intro m
  induction m with
  | zero =>
    intro i f A hi hf hA hn hsp;have:i=l.length:=by omega
    subst this;refine jL ?_;have Hq:=hs;repeat refine go1 ?_
    refine ⟨rfl,f,A,⟨hf,hA,?_⟩,rfl⟩;rw [Kae (by simp)] at hn;rw [<- hsp,Jfl hn]
  | succ m ih =>
    intro i f A hi hf hA hn hsp;have hlt:i < l.length:=by omega
    have hlt':(i:Int) < l.length:=by omega
    have w1:IntKind.i64.wrap ((i:Int)+1)=((i+1:Nat):Int):=Qas (by omega);have g1:=bs_get? l i hlt;have hsplit:l.drop f=(l.drop f).take (i - f)++l[i]::l.drop (i+1):=by
     have h1:(l.drop f).drop (i - f)=l.drop i:=by rw [Kdo];congr 1;omega
     conv=>lhs;rw [<- Kcg (i - f) (l.drop f),h1,Kay hlt]
    by_cases hq:l[i]=32
    . have hq2:l[i].toNat=32:=by rw [hq];rfl
      have hq3:((l[i].toNat:Nat):Int)=32:=by omega
      rw [hq] at hsplit;have hn2:=ih (i+1) (i+1) (A++[(l.drop f).take (i - f)]) (by omega) (Kam _) (by simp;omega) (by simp) (by
       have e2:Qck 32 (l.drop f)=(l.drop f).take (i - f)::Qck 32 (l.drop (i+1)):=by
        conv=>lhs;rw [hsplit]
        exact Qtf _ hn
       rw [<- hsp,e2,Kal];rfl)
      have c1:=Qoc l f i;have hAl:(strsB A).length=A.length:=by simp [strsB]
      have hlm:A.length+1<=274877906944:=by omega
      rw [show strsB (A++[(l.drop f).take (i - f)])=strsB A++[[SB ((l.drop f).take (i - f))]] from by simp [strsB]] at hn2;generalize (l.drop f).take (i - f)=P at *
      generalize strsB A=S at *
      have htA:S.take A.length=S:=Kae (by omega);have hfi:f<=i/\i<=l.length:=by omega
      have k1:f<=i:=by omega
      have k2:i<=l.length:=by omega
      refine jL ?_;have Hq:=Jrz hs hlt hlt' g1 hq2 hq3 hAl c1 k1 k2 hlm htA w1;repeat refine go1 ?_
      exact hn2
    . have hq2:¬ l[i].toNat=32:=fun h=>hq (by rw [<- UInt8.toNat_inj];exact h);have hq3:¬ ((l[i].toNat:Nat):Int)=32:=by omega
      have hn2:=ih (i+1) f A (by omega) (by omega) hA (by
       rw [show i+1 - f=(i - f)+1 by omega,List.take_succ,Kbp,show f+(i - f)=i by omega,Kag hlt];simp only [Option.toList_some,Kah,Kce,not_or];exact ⟨hn,Ne.symm hq⟩) hsp
      refine jL ?_;have Hq:=cj7 hs hlt hlt' g1 hq2 hq3 w1;repeat refine go1 ?_
      exact hn2
 have lp:=loop l.length 0 0 [] (by omega) (Kam _) (Kam _) (by simp) (by simp);refine jC zt379 rfl ?_
 repeat refine go0 ?_
 refine Qab lp ?_;rintro ex st ⟨rfl,f,A,⟨h1,h2,h3⟩,rfl⟩;show wp tb _ _ _;have c1:=Qoc l f l.length;rw [Kae (by simp)] at c1;have hAl:(strsB A).length=A.length:=by simp [strsB]
 have hlm:A.length+1<=274877906944:=by omega
 rw [<- h3,show strsB (A++[l.drop f])=strsB A++[[SB (l.drop f)]] from by simp [strsB]];generalize l.drop f=P at *
 generalize strsB A=S at *
 have htA:S.take A.length=S:=Kae (by omega);have Hq:=cj6 hs hAl c1 h1 hlm htA;repeat refine go1 ?_
 simp [Jos]
end Go.Idl
namespace Go.Idl
def Qin:List Int->Nat
 | []=>1
 | x::r=>facN (x - 1).toNat * Qin r
theorem Qz1 {xs ys:List Int} (h:xs.Perm ys):Qin xs=Qin ys:=by
 induction h with
 | nil=>rfl
 | cons x _ ih=>rw [Qin,Qin,ih]
 | swap x y r=>rw [Qin,Qin,Qin,Qin,Nat.mul_left_comm]
 | trans _ _ h1 h2=>rw [h1,h2]
theorem Qrp:∀ (d:List Int) (o:Nat),divs d o=o / Qin d
 | [],o=>by simp [divs,Qin]
 | x::r,o=>by rw [divs,Qrp r,Qin,Nat.div_div_eq_div_mul]
theorem Qs4:∀ d:List Int,0 < Qin d
 | []=>by decide
 | x::r=>Nat.mul_pos (Qw0 _) (Qs4 r)
def Jry (s:List Int):Bool:=!(decide (s.sum=2 * ((s.length:Int) - 1)) && Qeb s) || (Jd8 (slS s) && decide (Qin s<=facN ((s.length:Int) - 2).toNat))
set_option maxRecDepth 100000 in
theorem Jcp:(List.range 8).all (fun n=>allD Jry n (n - 1) [])=true:=by kernel_rfl
theorem Qu9 {xs ys:List Int} (h:xs.Perm ys):Qeb xs=Qeb ys:=by
 rw [Kdq,Qeb,Qeb,Kaj,Kaj];exact ⟨fun h1 x hx=>h1 x (h.mem_iff.2 hx),fun h1 x hx=>h1 x (h.mem_iff.1 hx)⟩
theorem Jtz (d:List Int) (h:Qbb d=true):Qt0 d=true:=by
 have h1:=(Qan h).1;have h2:=Qdv h;have hc:=Kaj.1 Jcp d.length (Kaz.2 (by omega));have h3:=Jbx Jry d.length (d.length - 1) [] (fall d) hc (Qay d) (Qmf d) (fun x hx=>by
  have:=h2 x (Qw2.1 hx);omega)
 simp only [Ken,Kaq,Jry,Qw3,Qay,Qu9 (Qdp d),Qz1 (Qdp d),<- Qya] at h3;simp only [Qt0,Kac,Kbt,Kbj,Kby,Kai];simp only [Kbj,Kby,Bool.and_eq_false_iff,Kac,Kai,Kcr] at h3;have hgr:∀ hs:d.sum=2 * ((d.length:Int) - 1),Jd8 (Qa7 d)=true->Qa2 d=true:=fun hs hn=>by
  rw [Qa2,h];have:d.sum % 2=0:=by omega
  simp only [this,decide_true,Bool.and_true,Kbx];exact hn
 by_cases hd0:d.length=0
 . have:d=[]:=Kav.1 hd0;subst this;decide
 by_cases hd1:d.length=1
 . match d,hd1 with
   | [x],_ =>
     have:=h2 x (by simp);have:x=0:=by simp at this;omega
     subst this;decide +kernel
 by_cases hs:d.sum=2 * ((d.length:Int) - 1);rotate_left
 . have ht:Qfc d=false:=by
    simp only [Qfc,Bool.and_eq_false_iff,Kcr];exact .inr (by omega)
   rw [ht];refine ⟨?_,.inl rfl⟩;simp [Jfw,hd1,hs]
 cases hp:Qeb d with
 | false =>
   have ht:Qfc d=false:=by simp [Qfc,Jr2,hp,hd1]
   rw [ht];refine ⟨?_,.inl rfl⟩;simp [Jfw,hd1,hp]
 | true =>
   rcases h3 with h3 | ⟨h3,h4⟩
   . rcases h3 with h3 | h3
     . exact absurd hs h3
     . rw [hp] at h3;cases h3
   . have ht:Qfc d=true:=by
      simp only [Qfc,Jr2,hgr hs h3,hp,Bool.or_true,Kbx,Kac,Kai];exact ⟨⟨by omega,by omega⟩,by omega⟩
     rw [ht];refine ⟨?_,.inr ?_⟩
     . simp only [Jfw,h,hp,hs,Kbx,decide_true,Bool.and_true]
       symm
       simp only [Kbj,Kai];exact .inr (by omega)
     . rw [cntT,Qrp];exact Nat.div_pos h4 (Qs4 d)
end Go.Idl
namespace Go.Idl
def Cl (es:List (Int×Int)) (p:Nat->Bool):Prop:=∀ e ∈ es,p e.1.toNat=p e.2.toNat
def Con (n:Nat) (es:List (Int×Int)):Prop:=∀ p,Cl es p->∀ u v,u < n->v < n->p u=p v
theorem Qfr {α:Type} {p q:α->Bool}:∀ {l:List α},(∀ a ∈ l,p a=true->q a=true)->(∃ a ∈ l,p a=false/\q a=true)->l.countP p < l.countP q
 | [],_,⟨a,h,_⟩=>by cases h
 | b::l,hi,⟨a,ha,h1,h2⟩=>by
   rw [List.countP_cons,List.countP_cons];have hle:l.countP p<=l.countP q:=List.countP_mono_left fun x hx=>hi x (by simp [hx]);by_cases hab:a=b
   . subst hab;rw [h1,h2];simp;omega
   . have ha2:a ∈ l:=by
      rcases Kaf.1 ha with h | h
      . exact absurd h hab
      . exact h
     have:=Qfr (l:=l) (fun x hx=>hi x (by simp [hx])) ⟨a,ha2,h1,h2⟩;have hb:=hi b (by simp);cases hp:p b with
     | false=>cases q b <;> simp <;> omega
     | true=>rw [hb hp];simp;omega
theorem grow {n:Nat} {es:List (Int×Int)} (hC:Con n es) (hes:∀ e ∈ es,e.1.toNat < n/\e.2.toNat < n) (Z:Nat->Nat->Bool) (h0:∃ v,v < n/\Z 0 v=true) (hm:∀ k v,Z k v=true->Z (k+1) v=true)
 (he:∀ k,∀ e ∈ es,(Z k e.1.toNat=true \/ Z k e.2.toNat=true)->Z (k+1) e.1.toNat=true/\Z (k+1) e.2.toNat=true):∀ k,min (k+1) n<=(List.range n).countP (Z k)/\∃ v,v < n/\Z k v=true
 | 0=>by
   obtain ⟨v,hv,hz⟩:=h0;have:0 < (List.range n).countP (Z 0):=List.countP_pos_iff.2 ⟨v,Kaz.2 hv,hz⟩;exact ⟨by omega,v,hv,hz⟩
 | k+1=>by
   obtain ⟨ih,v,hv,hz⟩:=grow hC hes Z h0 hm he k;refine ⟨?_,v,hv,hm k v hz⟩;have hle:(List.range n).countP (Z k)<=(List.range n).countP (Z (k+1)):=List.countP_mono_left fun x _=>hm k x;by_cases hall:∀ u,u < n->Z k u=true
   . have:(List.range n).countP (Z k)=(List.range n).length:=List.countP_eq_length.2 fun a ha=>hall a (Kaz.1 ha);simp at this;omega
   . simp only [Kfd] at hall;obtain ⟨u,hu,hzu⟩:=hall;have hncl:¬ Cl es (Z k):=fun hc=>hzu (by rw [hC _ hc u v hu hv];exact hz);simp only [Cl,Kfd] at hncl;obtain ⟨e,hee,hne⟩:=hncl;have hlt:(List.range n).countP (Z k) < (List.range n).countP (Z (k+1)):=by
      have hb:=hes e hee;refine Qfr (fun x _=>hm k x) ?_;cases h1:Z k e.1.toNat with
      | true =>
        have h2:Z k e.2.toNat=false:=by
         cases h2:Z k e.2.toNat with
         | false=>rfl
         | true=>rw [h1,h2] at hne;exact absurd rfl hne
        exact ⟨_,Kaz.2 hb.2,h2,(he k e hee (.inl h1)).2⟩
      | false =>
        have h2:Z k e.2.toNat=true:=by
         cases h2:Z k e.2.toNat with
         | true=>rfl
         | false=>rw [h1,h2] at hne;exact absurd rfl hne
        exact ⟨_,Kaz.2 hb.1,h1,(he k e hee (.inr h2)).1⟩
     omega
theorem Qw9 {n:Nat} {es:List (Int×Int)} (hC:Con n es) (hes:∀ e ∈ es,e.1.toNat < n/\e.2.toNat < n) (Z:Nat->Nat->Bool) (h0:∃ v,v < n/\Z 0 v=true) (hm:∀ k v,Z k v=true->Z (k+1) v=true)
 (he:∀ k,∀ e ∈ es,(Z k e.1.toNat=true \/ Z k e.2.toNat=true)->Z (k+1) e.1.toNat=true/\Z (k+1) e.2.toNat=true):∀ v,v < n->Z n v=true:=fun v hv=>by
 have h1:=(grow hC hes Z h0 hm he n).1;have h2:(List.range n).countP (Z n)<=(List.range n).length:=Kej;simp at h2;have h3:(List.range n).countP (Z n)=(List.range n).length:=by simp;omega
 exact List.countP_eq_length.1 h3 v (Kaz.2 hv)
theorem Qga (es:List (Int×Int)):∀ (k:Nat) (o:List Int),Qj0 es (k+1) o=es.foldl Qdy (Qj0 es k o)
 | 0,_=>rfl
 | k+1,o=>by rw [Qj0,Qga es k,Qj0]
theorem Qf8 {o:List Int} {e:Int×Int} (h1:e.1.toNat < o.length) (h2:e.2.toNat < o.length) (v:Nat) :
 (Qdy o e).getD v 0=if v=e.1.toNat \/ v=e.2.toNat then min (o.getD e.1.toNat 0) (o.getD e.2.toNat 0) else o.getD v 0:=by
 rw [Qdy,Kad,Kdp,Kdp];by_cases k2:v=e.2.toNat
 . subst k2;simp [h2]
 . by_cases k1:v=e.1.toNat
   . subst k1;simp [h1,Ne.symm k2]
   . simp [k1,k2,Ne.symm k1,Ne.symm k2]
def Jbu (n:Nat) (p:Nat->Bool) (o:List Int):Prop:=o.length=n/\∀ v,v < n->0<=o.getD v 0/\o.getD v 0<=v/\p (o.getD v 0).toNat=p v
theorem Qm0 {n:Nat} {p:Nat->Bool} {o:List Int} {e:Int×Int} (h1:e.1.toNat < n) (h2:e.2.toNat < n) (hp:p e.1.toNat=p e.2.toNat) (h:Jbu n p o):Jbu n p (Qdy o e):=by
 refine ⟨by rw [Qf9];exact h.1,fun v hv=>?_⟩;rw [Qf8 (by rw [h.1];exact h1) (by rw [h.1];exact h2)];have a:=h.2 _ h1;have b:=h.2 _ h2;split
 . rename_i hq;have hpm:p (min (o.getD e.1.toNat 0) (o.getD e.2.toNat 0)).toNat=p v:=by
    have hpv:p v=p e.1.toNat:=by
     rcases hq with rfl | rfl
     . rfl
     . exact hp.symm
    rcases Int.le_total (o.getD e.1.toNat 0) (o.getD e.2.toNat 0) with hl | hl
    . rw [Int.min_eq_left hl,a.2.2,hpv]
    . rw [Int.min_eq_right hl,b.2.2,hpv,hp]
   refine ⟨by omega,?_,hpm⟩;rcases hq with rfl | rfl <;> omega
 . exact h.2 v hv
theorem Qw6 {n:Nat} {p:Nat->Bool}:∀ (es:List (Int×Int)) {o:List Int},(∀ e ∈ es,e.1.toNat < n/\e.2.toNat < n)->Cl es p->Jbu n p o->Jbu n p (es.foldl Qdy o)
 | [],_,_,_,h=>h
 | e::es,_,he,hc,h=>Qw6 es (fun x hx=>he x (by simp [hx])) (fun x hx=>hc x (by simp [hx])) (Qm0 (he e (by simp)).1 (he e (by simp)).2 (hc e (by simp)) h)
theorem Qk6 {n:Nat} {p:Nat->Bool} {es:List (Int×Int)} (he:∀ e ∈ es,e.1.toNat < n/\e.2.toNat < n) (hc:Cl es p):∀ (k:Nat) {o:List Int},Jbu n p o->Jbu n p (Qj0 es k o)
 | 0,_,h=>h
 | k+1,_,h=>Qk6 he hc k (Qw6 es he hc h)
theorem Qkq (n:Nat) (p:Nat->Bool):Jbu n p (Qbx n (-1)):=by
 have hg:∀ v,v < n->(Qbx n (-1)).getD v 0=(v:Int):=fun v hv=>by
  rw [Qbc,Kad,Kdx,Kfh hv];rfl
 refine ⟨by rw [Qbc];simp,fun v hv=>?_⟩;rw [hg v hv];exact ⟨by omega,by omega,by rw [Kax]⟩
theorem Qie {n:Nat}:∀ (es:List (Int×Int)) {o:List Int} {v:Nat},(∀ e ∈ es,e.1.toNat < n/\e.2.toNat < n)->Jbu n (fun _=>true) o->v < n->o.getD v 0=0->(es.foldl Qdy o).getD v 0=0
 | [],_,_,_,_,_,h=>h
 | e::es,o,v,he,hi,hv,h=>by
   have hb:=he e (by simp);have hi2:=Qm0 hb.1 hb.2 rfl hi;refine Qie es (fun x hx=>he x (by simp [hx])) hi2 hv ?_;rw [Qf8 (by rw [hi.1];exact hb.1) (by rw [hi.1];exact hb.2)];have a:=hi.2 _ hb.1;have b:=hi.2 _ hb.2;split
   . rename_i hq;rcases hq with rfl | rfl <;> omega
   . exact h
theorem Qsh {n:Nat}:∀ (es:List (Int×Int)) {o:List Int},(∀ e ∈ es,e.1.toNat < n/\e.2.toNat < n)->Jbu n (fun _=>true) o->∀ e ∈ es,(o.getD e.1.toNat 0=0 \/ o.getD e.2.toNat 0=0) ->
 (es.foldl Qdy o).getD e.1.toNat 0=0/\(es.foldl Qdy o).getD e.2.toNat 0=0
 | [],_,_,_,_,h,_=>by cases h
 | f::es,o,he,hi,e,hm,h=>by
   have hb:=he f (by simp);have hbe:=he e hm;have he':∀ e ∈ es,e.1.toNat < n/\e.2.toNat < n:=fun x hx=>he x (by simp [hx]);have hi2:=Qm0 hb.1 hb.2 rfl hi;have a:=hi.2 _ hb.1;have b:=hi.2 _ hb.2;have rg:=fun v=>Qf8 (o:=o) (e:=f) (by rw [hi.1];exact hb.1) (by rw [hi.1];exact hb.2) v;rcases Kaf.1 hm with rfl | hm2
   . refine ⟨Qie es he' hi2 hb.1 ?_,Qie es he' hi2 hb.2 ?_⟩
     . rw [rg,if_pos (.inl rfl)];omega
     . rw [rg,if_pos (.inr rfl)];omega
   . refine Qsh es he' hi2 e hm2 ?_;rcases h with h | h
     . left;rw [rg];split
       . rename_i hq;rcases hq with hq | hq <;> rw [hq] at h <;> omega
       . exact h
     . right;rw [rg];split
       . rename_i hq;rcases hq with hq | hq <;> rw [hq] at h <;> omega
       . exact h
theorem Jk5 {n:Nat} (hn1:1<=n) {es:List (Int×Int)} (hes:∀ e ∈ es,e.1.toNat < n/\e.2.toNat < n) (hC:Con n es):∀ v,v < n->(Qj0 es n (Qbx n (-1))).getD v 0=0:=by
 have hi:∀ k,Jbu n (fun _=>true) (Qj0 es k (Qbx n (-1))):=fun k=>Qk6 hes (fun _ _=>rfl) k (Qkq n _);have hb:=Qkq n (fun _=>true);have hA:∀ v,v < n->(fun (k v:Nat)=>decide (v < n) && decide ((Qj0 es k (Qbx n (-1))).getD v 0=0)) n v=true:=by
  refine Qw9 hC hes (fun k v=>decide (v < n) && decide ((Qj0 es k (Qbx n (-1))).getD v 0=0)) ⟨0,by omega,?_⟩ (fun k v h=>?_) (fun k e he h=>?_)
  . have hz:=hb.2 0 (by omega);have hz2:(Qbx n (-1)).getD 0 0=0:=by
     have h1:=hz.1;have h2:=hz.2.1;omega
    show (decide (0 < n) && decide ((Qbx n (-1)).getD 0 0=0))=true;rw [Kbo (show 0 < n by omega),Kbo hz2];rfl
  . simp only [Kac,Kai] at h |-;rw [Qga];exact ⟨h.1,Qie es hes (hi k) h.1 h.2⟩
  . have hbe:=hes e he;simp only [Kac,Kai] at h |-;rw [Qga];have:=Qsh es hes (hi k) e he (h.elim (fun h=>.inl h.2) (fun h=>.inr h.2));exact ⟨⟨hbe.1,this.1⟩,⟨hbe.2,this.2⟩⟩
 intro v hv;have:=hA v hv;simp only [Kac,Kai] at this;exact this.2
theorem Qrl (n:Nat) (es:List (Int×Int)):(Qlk n es).length=((rgF n 0).filter (isR (Qj0 es n (Qbx n (-1))))).length:=by rw [Qlk,Qjy,Kcu]
theorem Jcq (n:Nat) (es:List (Int×Int)):(Qlj n es 0).length=((rgF n 0).filter (hdV n es)).length:=by rw [Qlj,Kcu]
theorem Qxu {n:Nat} (hn1:1<=n) (p:Int->Bool) (h0:p 0=true) (h:∀ v:Nat,v < n->1<=v->p v=false):((rgF n 0).filter p).length=1:=by
 rw [Qgq (show 0 < n by omega),show ((0:Nat):Int)=0 from rfl,Kdd h0,List.filter_eq_nil_iff.2 fun x hx=>?_]
 . rfl
 . have hb:=Qhk.1 hx;obtain ⟨k,rfl⟩:=Kbm (show 0<=x by omega);rw [h k (by omega) (by omega)];simp
theorem Qyj {n:Nat} (p:Int->Bool) {a b:Nat} (ha:a < n) (hb:b < n) (hab:a ≠ b) (pa:p a=true) (pb:p b=true):2<=((rgF n 0).filter p).length:=by
 have:[(a:Int),(b:Int)].length<=((rgF n 0).filter p).length:=Jd1 (by simp;omega) fun x hx=>by
  simp only [Kaf,Kaw,Kcf] at hx;rcases hx with rfl | rfl
  . exact Kbr.2 ⟨Qhk.2 (by omega),pa⟩
  . exact Kbr.2 ⟨Qhk.2 (by omega),pb⟩
 simpa using this
theorem Qp1 {n:Nat} {p:Nat->Bool} {b:Bool} {v:Nat} (hv:v < n) (h:p v=b):∃ r,r < n/\p r=b/\∀ u,u < r->p u ≠ b:=by
 induction v using Nat.strongRecOn with
 | _ v ih =>
   by_cases hq:∃ u,u < v/\p u=b
   . obtain ⟨u,hu,hpu⟩:=hq;exact ih u hu (by omega) hpu
   . exact ⟨v,hv,h,fun u hu hpu=>hq ⟨u,hu,hpu⟩⟩
theorem Jd9 {n:Nat} {es:List (Int×Int)} (h:¬ Con n es):∃ p a b,Cl es p/\a < n/\b < n/\p a=true/\p b=false/\(∀ u,u < a->p u ≠ true)/\∀ u,u < b->p u ≠ false:=by
 simp only [Con,Kfd] at h;obtain ⟨p,hc,u,v,hu,hv,hne⟩:=h;have ht:∃ x,x < n/\p x=true:=by
  cases h1:p u with
  | true=>exact ⟨u,hu,h1⟩
  | false =>
    cases h2:p v with
    | true=>exact ⟨v,hv,h2⟩
    | false=>rw [h1,h2] at hne;exact absurd rfl hne
 have hf:∃ x,x < n/\p x=false:=by
  cases h1:p u with
  | false=>exact ⟨u,hu,h1⟩
  | true =>
    cases h2:p v with
    | false=>exact ⟨v,hv,h2⟩
    | true=>rw [h1,h2] at hne;exact absurd rfl hne
 obtain ⟨x,hx,hpx⟩:=ht;obtain ⟨y,hy,hpy⟩:=hf;obtain ⟨a,a1,a2,a3⟩:=Qp1 hx hpx;obtain ⟨b,b1,b2,b3⟩:=Qp1 hy hpy;exact ⟨p,a,b,hc,a1,b1,a2,b2,a3,b3⟩
theorem Jct {n:Nat} (hn1:1<=n) {es:List (Int×Int)} (hes:∀ e ∈ es,e.1.toNat < n/\e.2.toNat < n):(Qlk n es).length=1 <-> Con n es:=by
 rw [Qrl];constructor
 . intro h1;refine Kcx fun hC=>?_;obtain ⟨p,a,b,hc,ha,hb,pa,pb,la,lb⟩:=Jd9 hC;have hi:=Qk6 hes hc n (Qkq n p);have key:∀ (r:Nat) (x:Bool),r < n->p r=x->(∀ u,u < r->p u ≠ x)->isR (Qj0 es n (Qbx n (-1))) r=true:=fun r x hr hpr hl=>by
    rw [isR,inP,Kax,Kai];have:=hi.2 r hr;by_cases hq:(Qj0 es n (Qbx n (-1))).getD r 0=r
    . exact hq
    . exact absurd (this.2.2.trans hpr) (hl _ (by omega))
   have:=Qyj (isR (Qj0 es n (Qbx n (-1)))) ha hb (fun h=>by rw [h,pb] at pa;cases pa) (key a true ha pa la) (key b false hb pb lb);omega
 . intro hC;have hz:=Jk5 hn1 hes hC;refine Qxu hn1 _ ?_ fun v hv h1=>?_
   . rw [isR,inP,Kai];exact hz 0 (by omega)
   . rw [isR,inP,Kax,hz v hv,Kcr];omega
theorem Qms (es:List (Int×Int)):∀ (k:Nat) (o:List Bool),Qsw es (k+1) o=es.foldl Qq6 (Qsw es k o)
 | 0,_=>rfl
 | k+1,o=>by rw [Qsw,Qms es k,Qsw]
theorem Qp5 {l:List Bool} {e:Int×Int} (h1:e.1.toNat < l.length) (h2:e.2.toNat < l.length) (v:Nat) :
 (Qq6 l e).getD v false=if (l.getD e.1.toNat false || l.getD e.2.toNat false)=true/\(v=e.1.toNat \/ v=e.2.toNat) then true else l.getD v false:=by
 rw [Qq6];by_cases hq:(l.getD e.1.toNat false || l.getD e.2.toNat false)=true
 . by_cases k2:v=e.2.toNat
   . have hR:(if (l.getD e.1.toNat false || l.getD e.2.toNat false)=true/\(v=e.1.toNat \/ v=e.2.toNat) then true else l.getD v false)=true:=if_pos ⟨hq,.inr k2⟩;rw [hR,if_pos hq,Kad,k2,Kbl (by simpa using h2)];rfl
   . by_cases k1:v=e.1.toNat
     . have hR:(if (l.getD e.1.toNat false || l.getD e.2.toNat false)=true/\(v=e.1.toNat \/ v=e.2.toNat) then true else l.getD v false)=true:=if_pos ⟨hq,.inl k1⟩;rw [hR,if_pos hq,Kad,Kbi (Ne.symm k2),k1,Kbl h1];rfl
     . have hR:(if (l.getD e.1.toNat false || l.getD e.2.toNat false)=true/\(v=e.1.toNat \/ v=e.2.toNat) then true else l.getD v false)=l.getD v false:=if_neg fun h=>h.2.elim k1 k2;rw [hR,if_pos hq,Kad,Kbi (Ne.symm k2),Kbi (Ne.symm k1),Kad]
 . rw [if_neg hq,if_neg fun h=>hq h.1]
theorem Qok {n:Nat}:∀ (es:List (Int×Int)) {l:List Bool},l.length=n->(∀ e ∈ es,e.1.toNat < n/\e.2.toNat < n)->∀ e ∈ es,(l.getD e.1.toNat false=true \/ l.getD e.2.toNat false=true) ->
 (es.foldl Qq6 l).getD e.1.toNat false=true/\(es.foldl Qq6 l).getD e.2.toNat false=true
 | [],_,_,_,_,h,_=>by cases h
 | f::es,l,hl,he,e,hm,h=>by
   have he':∀ e ∈ es,e.1.toNat < n/\e.2.toNat < n:=fun x hx=>he x (by simp [hx]);have hb:=he f (by simp);rcases Kaf.1 hm with rfl | hm2
   . have hq:(l.getD e.1.toNat false || l.getD e.2.toNat false)=true:=by
      rcases h with h | h <;> rw [h] <;> simp
     refine ⟨Qf0 es ?_,Qf0 es ?_⟩
     . rw [Qp5 (by omega) (by omega),if_pos ⟨hq,.inl rfl⟩]
     . rw [Qp5 (by omega) (by omega),if_pos ⟨hq,.inr rfl⟩]
   . exact Qok es (by rw [Qkz,hl]) he' e hm2 (h.elim (fun h=>.inl (Qmr h)) (fun h=>.inr (Qmr h)))
theorem Qsi {p:Nat->Bool} {v n:Nat}:∀ (es:List (Int×Int)) {l:List Bool},l.length=n->(∀ e ∈ es,e.1.toNat < n/\e.2.toNat < n)->Cl es p->(∀ u,l.getD u false=true->p u=p v)->∀ u,(es.foldl Qq6 l).getD u false=true->p u=p v
 | [],_,_,_,_,h=>h
 | e::es,l,hl,he,hc,h=>by
   have hb:=he e (by simp);refine Qsi es (by rw [Qkz,hl]) (fun x hx=>he x (by simp [hx])) (fun x hx=>hc x (by simp [hx])) fun u hu=>?_;rw [Qp5 (by omega) (by omega)] at hu;split at hu
   . rename_i hq;have hce:=hc e (by simp);have h1:p e.1.toNat=p v:=by
      have hq1:=hq.1;rw [Kbj] at hq1;rcases hq1 with hq1 | hq1
      . exact h _ hq1
      . rw [hce];exact h _ hq1
     rcases hq.2 with rfl | rfl
     . exact h1
     . rw [<- hce];exact h1
   . exact h u hu
theorem Qxs {p:Nat->Bool} {v n:Nat} {es:List (Int×Int)} (he:∀ e ∈ es,e.1.toNat < n/\e.2.toNat < n) (hc:Cl es p):∀ (k:Nat) {l:List Bool},l.length=n->(∀ u,l.getD u false=true->p u=p v)->∀ u,(Qsw es k l).getD u false=true->p u=p v
 | 0,_,_,h=>h
 | k+1,l,hl,h=>Qxs he hc k (by rw [Qmi,hl]) (Qsi es hl he hc h)
theorem Qth {n v:Nat} (hv:v < n) (u:Nat):((List.replicate n false).set v true).getD u false=decide (u=v):=by
 rw [Kad,Kdp];by_cases h:v=u
 . subst h;simp [hv]
 . have:¬ u=v:=fun hh=>h hh.symm;rw [if_neg h,Kbf this,List.getElem?_replicate];split <;> rfl
theorem Jr0 (n:Nat) (es:List (Int×Int)) (v:Nat):(Qwp n es v).Pairwise (fun a b:Int=>a < b):=by
 refine List.Pairwise.filter _ ?_;rw [Jtn];exact Qmm n
theorem Jcr {n:Nat} (hn1:1<=n) {es:List (Int×Int)} (hes:∀ e ∈ es,e.1.toNat < n/\e.2.toNat < n):(Qlj n es 0).length=1 <-> Con n es:=by
 rw [Jcq];constructor
 . intro h1;refine Kcx fun hC=>?_;obtain ⟨p,a,b,hc,ha,hb,pa,pb,la,lb⟩:=Jd9 hC;have key:∀ (r:Nat) (x:Bool),r < n->p r=x->(∀ u,u < r->p u ≠ x)->hdV n es r=true:=fun r x hr hpr hl=>by
    rw [hdV,Kax,Kai];have hm:=Qxq (es:=es) hr;have hpw:=Jr0 n es r;have hall:∀ u ∈ Qwp n es r,(r:Int)<=u:=fun u hu=>by
     have h2:=Kbr.1 hu;have hb:=Qhk.1 h2.1;have h3:=Qxs (v:=r) hes hc n (l:=(List.replicate n false).set r true) (by simp) (fun w hw=>by rw [Qth hr,Kai] at hw;rw [hw]) u.toNat h2.2;by_cases hq:(r:Int)<=u
     . exact hq
     . exact absurd (h3.trans hpr) (hl _ (by omega))
    cases hC:Qwp n es r with
    | nil=>rw [hC] at hm;cases hm
    | cons y ys =>
      rw [hC] at hm hpw hall;have hy:=hall y (by simp);rcases Kaf.1 hm with h | h
      . exact h.symm
      . have:=(Kbe.1 hpw).1 _ h;show y=r;omega
   have:=Qyj (hdV n es) ha hb (fun h=>by rw [h,pb] at pa;cases pa) (key a true ha pa la) (key b false hb pb lb);omega
 . intro hC;have hall:∀ v,v < n->∀ u,u < n->(Qsw es n ((List.replicate n false).set v true)).getD u false=true:=fun v hv=>by
    have hlen:∀ k,(Qsw es k ((List.replicate n false).set v true)).length=n:=fun k=>by rw [Qp7];simp
    refine Qw9 hC hes (fun k u=>(Qsw es k ((List.replicate n false).set v true)).getD u false) ⟨v,hv,?_⟩ (fun k u h=>?_) (fun k e he h=>?_)
    . show ((List.replicate n false).set v true).getD v false=true;rw [Qth hv];simp
    . rw [Qms];exact Qf0 es h
    . rw [Qms];exact Qok es (hlen k) hes e he h
   have hcm:∀ v,v < n->Qwp n es v=rgF n 0:=fun v hv=>Keb.2 fun u hu=>by
    have hb:=Qhk.1 hu;exact hall v hv _ (by omega)
   have hhd:∀ v:Nat,v < n->hdV n es v=decide ((0:Int)=v):=fun v hv=>by
    rw [hdV,Kax,hcm v hv,Qgq (show 0 < n by omega)];rfl
   refine Qxu hn1 _ ?_ fun v hv h1=>?_
   . have:=hhd 0 (by omega);rw [show ((0:Nat):Int)=0 from rfl] at this;rw [this];rfl
   . rw [hhd v hv,Kcr];omega
end Go.Idl
namespace Go.Idl
def Qkn (es:List (Int×Int)) (u v:Nat):Prop:=∀ p,Cl es p->p u=p v
theorem Qkn.symm {es:List (Int×Int)} {u v:Nat} (h:Qkn es u v):Qkn es v u:=fun p hp=>(h p hp).symm
theorem Qkn.trans {es:List (Int×Int)} {u v w:Nat} (h:Qkn es u v) (k:Qkn es v w):Qkn es u w:=fun p hp=>(h p hp).trans (k p hp)
theorem Qkn.mono {es fs:List (Int×Int)} (h:∀ e ∈ es,e ∈ fs) {u v:Nat} (k:Qkn es u v):Qkn fs u v:=fun p hp=>k p fun e he=>hp e (h e he)
theorem Jfe {es:List (Int×Int)} {e:Int×Int} (h:e ∈ es):Qkn es e.1.toNat e.2.toNat:=fun _ hp=>hp e h
theorem grow2 {n:Nat} {es:List (Int×Int)} (S:Nat->Bool) (hSn:∀ u,S u=true->u < n) (hCl:Cl es S) (hC:∀ p,Cl es p->∀ u v,S u=true->S v=true->p u=p v) (Z:Nat->Nat->Bool) (h0:∃ v,S v=true/\Z 0 v=true) (hm:∀ k v,Z k v=true->Z (k+1) v=true)
 (he:∀ k,∀ e ∈ es,(Z k e.1.toNat=true \/ Z k e.2.toNat=true)->Z (k+1) e.1.toNat=true/\Z (k+1) e.2.toNat=true):∀ k,min (k+1) ((List.range n).countP S)<=(List.range n).countP (fun v=>S v && Z k v)/\∃ v,S v=true/\Z k v=true
 | 0=>by
   obtain ⟨v,hv,hz⟩:=h0;have:0 < (List.range n).countP (fun v=>S v && Z 0 v):=List.countP_pos_iff.2 ⟨v,Kaz.2 (hSn v hv),by rw [hv,hz];rfl⟩;exact ⟨by omega,v,hv,hz⟩
 | k+1=>by
   obtain ⟨ih,v,hv,hz⟩:=grow2 S hSn hCl hC Z h0 hm he k;refine ⟨?_,v,hv,hm k v hz⟩;have hmono:∀ x ∈ List.range n,(S x && Z k x)=true->(S x && Z (k+1) x)=true:=fun x _ h=>by
    rw [Kac] at h |-;exact ⟨h.1,hm k x h.2⟩
   have hle:=List.countP_mono_left hmono;by_cases hall:∀ u,S u=true->Z k u=true
   . have:(List.range n).countP (fun v=>S v && Z k v)=(List.range n).countP S:=List.countP_congr fun x _=>by
      rw [Kac];exact ⟨fun h=>h.1,fun h=>⟨h,hall x h⟩⟩
     omega
   . simp only [Kfd] at hall;obtain ⟨u,hu,hzu⟩:=hall;have hncl:¬ Cl es (fun x=>S x && Z k x):=fun hc=>by
      have:=hC _ hc u v hu hv;simp only [hu,hv,hz,Kbx] at this;exact hzu this
     simp only [Cl,Kfd] at hncl;obtain ⟨e,hee,hne⟩:=hncl;have hS:=hCl e hee;have hlt:(List.range n).countP (fun v=>S v && Z k v) < (List.range n).countP (fun v=>S v && Z (k+1) v):=by
      refine Qfr hmono ?_;cases h1:S e.1.toNat with
      | false=>rw [<- hS,h1] at hne;exact absurd rfl hne
      | true =>
        rw [<- hS,h1,Kbx,Kbx] at hne;have h1':=hS.symm.trans h1;cases h3:Z k e.1.toNat with
        | true =>
          have h2:Z k e.2.toNat=false:=by
           cases h2:Z k e.2.toNat with
           | false=>rfl
           | true=>rw [h3,h2] at hne;exact absurd rfl hne
          exact ⟨_,Kaz.2 (hSn _ h1'),by rw [h2,Bool.and_false],by rw [h1',(he k e hee (.inl h3)).2];rfl⟩
        | false =>
          have h2:Z k e.2.toNat=true:=by
           cases h2:Z k e.2.toNat with
           | true=>rfl
           | false=>rw [h3,h2] at hne;exact absurd rfl hne
          exact ⟨_,Kaz.2 (hSn _ h1),by rw [h3,Bool.and_false],by rw [h1,(he k e hee (.inr h2)).1];rfl⟩
     omega
theorem Qpx {n:Nat}:∀ (es:List (Int×Int)) {o:List Int},o.length=n->(∀ e ∈ es,e.1.toNat < n/\e.2.toNat < n)->∀ v,(es.foldl Qdy o).getD v 0<=o.getD v 0
 | [],_,_,_,_=>Int.le_refl _
 | e::es,o,hl,he,v=>by
   have hb:=he e (by simp);refine Int.le_trans (Qpx es (by rw [Qf9];exact hl) (fun x hx=>he x (by simp [hx])) v) ?_;rw [Qf8 (by omega) (by omega)];split
   . rename_i hq;rcases hq with rfl | rfl <;> omega
   . exact Int.le_refl _
theorem Qju {n:Nat}:∀ (es:List (Int×Int)) {o:List Int},o.length=n->(∀ e ∈ es,e.1.toNat < n/\e.2.toNat < n)->∀ e ∈ es,
 (es.foldl Qdy o).getD e.1.toNat 0<=min (o.getD e.1.toNat 0) (o.getD e.2.toNat 0)/\(es.foldl Qdy o).getD e.2.toNat 0<=min (o.getD e.1.toNat 0) (o.getD e.2.toNat 0)
 | [],_,_,_,_,h=>by cases h
 | f::es,o,hl,he,e,hm=>by
   have hb:=he f (by simp);have he':∀ e ∈ es,e.1.toNat < n/\e.2.toNat < n:=fun x hx=>he x (by simp [hx]);have hl2:(Qdy o f).length=n:=by rw [Qf9];exact hl
   have rg:=fun v=>Qf8 (o:=o) (e:=f) (by omega) (by omega) v;rw [Kdv];rcases Kaf.1 hm with rfl | hm2
   . have a:=Qpx es hl2 he' e.1.toNat;have b:=Qpx es hl2 he' e.2.toNat;rw [rg,if_pos (.inl rfl)] at a;rw [rg,if_pos (.inr rfl)] at b;exact ⟨a,b⟩
   . have ih:=Qju es hl2 he' e hm2;have le1:∀ v,(Qdy o f).getD v 0<=o.getD v 0:=fun v=>by
      rw [rg];split
      . rename_i hq;rcases hq with rfl | rfl <;> omega
      . exact Int.le_refl _
     have a:=le1 e.1.toNat;have b:=le1 e.2.toNat;omega
abbrev rtF (n:Nat) (es:List (Int×Int)):List Int:=Qj0 es n (Qbx n (-1))
open Classical in
theorem Qqj {n:Nat} {es:List (Int×Int)} (hes:∀ e ∈ es,e.1.toNat < n/\e.2.toNat < n) {v:Nat} (hv:v < n) :
 ∃ m:Nat,m < n/\Qkn es v m/\(∀ u,u < n->Qkn es v u->m<=u)/\∀ u,u < n->Qkn es v u->(rtF n es).getD u 0=m:=by
 obtain ⟨S,hS⟩:∃ S:Nat->Bool,S=fun u=>decide (u < n/\Qkn es v u):=⟨_,rfl⟩
 have hSi:∀ u,S u=true <-> u < n/\Qkn es v u:=fun u=>by rw [hS];exact decide_eq_true_iff
 have hSv:S v=true:=(hSi v).2 ⟨hv,fun _ _=>rfl⟩;obtain ⟨m,hm1,hm2,hm3⟩:=Qp1 hv hSv;have hSm:=(hSi m).1 hm2;have hmin:∀ u,S u=true->m<=u:=fun u hu=>Nat.le_of_not_lt fun h=>hm3 u h hu;have hCl:Cl es S:=fun e he=>by
  have hb:=hes e he;have hse:=Jfe he;rw [Kdq,hSi,hSi];exact ⟨fun h=>⟨hb.2,h.2.trans hse⟩,fun h=>⟨hb.1,h.2.trans hse.symm⟩⟩
 have hC:∀ p,Cl es p->∀ u w,S u=true->S w=true->p u=p w:=fun p hp u w hu hw =>
  (((hSi u).1 hu).2 p hp).symm.trans (((hSi w).1 hw).2 p hp)
 have hinv:∀ k,Jbu n S (Qj0 es k (Qbx n (-1))):=fun k=>Qk6 hes hCl k (Qkq n S);have hlow:∀ k u,S u=true->(m:Int)<=(Qj0 es k (Qbx n (-1))).getD u 0:=fun k u hu=>by
  have h1:=(hinv k).2 u ((hSi u).1 hu).1;have:=hmin _ (h1.2.2.trans hu);omega
 have g:=grow2 S (fun u hu=>((hSi u).1 hu).1) hCl hC (fun k u=>S u && decide ((Qj0 es k (Qbx n (-1))).getD u 0=m)) ⟨m,hm2,by
  show (S m && decide ((Qbx n (-1)).getD m 0=m))=true;rw [hm2,Kbx];refine Kbo ?_;rw [Qbc,Kad,Kdx,Kfh hm1];rfl⟩ (fun k u h=>by
  simp only [Kac,Kai] at h |-;have h1:=Qpx es (hinv k).1 hes u;have h2:=hlow (k+1) u h.1;rw [Qga] at h2 |-;exact ⟨h.1,by omega⟩) (fun k e he h=>by
  simp only [Kac,Kai] at h |-;have hse:=hCl e he;have hs1:S e.1.toNat=true:=h.elim (fun h=>h.1) (fun h=>hse.trans h.1);have hs2:=hse.symm.trans hs1;have h1:=Qju es (hinv k).1 hes e he;have h2:=hlow (k+1) _ hs1;have h3:=hlow (k+1) _ hs2;have h4:=hlow k _ hs1;have h5:=hlow k _ hs2;rw [Qga] at h2 h3 |-;refine ⟨⟨hs1,?_⟩,hs2,?_⟩ <;> rcases h with h | h <;> omega) n
 have hcS:(List.range n).countP S<=n:=by have:=Kej (p:=S) (l:=List.range n);simpa using this
 have hall:∀ u,S u=true->(rtF n es).getD u 0=m:=fun u hu=>by
  refine Kcx fun hno=>?_;have hlt:(List.range n).countP (fun v=>S v && (S v && decide ((Qj0 es n (Qbx n (-1))).getD v 0=m))) < (List.range n).countP S :=
   Qfr (fun x _ h=>by rw [Kac] at h;exact h.1) ⟨u,Kaz.2 ((hSi u).1 hu).1,by
    rw [Kbf hno];simp,hu⟩
  have:=g.1;omega
 exact ⟨m,hm1,hSm.2,fun u hu hs=>hmin u ((hSi u).2 ⟨hu,hs⟩),fun u hu hs=>hall u ((hSi u).2 ⟨hu,hs⟩)⟩
def Lb (n:Nat) (es:List (Int×Int)) (r:Nat):Bool:=decide ((rtF n es).getD r 0=r)
theorem Qrk (n:Nat) (es:List (Int×Int)):(Qlk n es).length=(List.range n).countP (Lb n es):=by
 rw [Qrl,rgF,Kcb,<- List.countP_eq_length_filter,List.countP_map];rfl
theorem Qwe {n:Nat} {es:List (Int×Int)} (hes:∀ e ∈ es,e.1.toNat < n/\e.2.toNat < n) {r:Nat} (hr:r < n):Lb n es r=true <-> ∀ u,u < n->Qkn es r u->r<=u:=by
 obtain ⟨m,h1,h2,h3,h4⟩:=Qqj hes hr;have h5:=h4 r hr (fun _ _=>rfl);rw [Lb,h5,Kai];constructor
 . intro h u hu hs;have:=h3 u hu hs;omega
 . intro h;have a:=h m h1 h2;have b:=h3 r hr (fun _ _=>rfl);omega
theorem joins {n:Nat} {es fs:List (Int×Int)} (hes:∀ e ∈ es,e.1.toNat < n/\e.2.toNat < n) (hfs:∀ e ∈ fs,e.1.toNat < n/\e.2.toNat < n) (h:∀ u v,Qkn es u v->Qkn fs u v) {x y:Nat} (hx:x < n) (hy:y < n) (h1:Qkn fs x y) (h2:¬ Qkn es x y) :
 (Qlk n fs).length < (Qlk n es).length:=by
 rw [Qrk,Qrk];refine Qfr (fun r hr hl=>(Qwe hes (Kaz.1 hr)).2 fun u hu hs=>(Qwe hfs (Kaz.1 hr)).1 hl u hu (h _ _ hs)) ?_;obtain ⟨a,a1,a2,a3,a4⟩:=Qqj hes hx;obtain ⟨b,b1,b2,b3,b4⟩:=Qqj hes hy;have hab:a ≠ b:=fun hh=>h2 (a2.trans (hh ▸ b2.symm));have hs:Qkn fs a b:=(h _ _ a2.symm).trans (h1.trans (h _ _ b2));have key:∀ c d,c < n->d < n->c < d->Qkn fs d c->(∀ u,u < n->Qkn es d u->d<=u)->∃ r ∈ List.range n,Lb n fs r=false/\Lb n es r=true:=fun c d hc hd hcd hsd hl =>
  ⟨d,Kaz.2 hd,by
    cases hq:Lb n fs d with
    | false=>rfl
    | true=>have:=(Qwe hfs hd).1 hq c hc hsd;omega,(Qwe hes hd).2 hl⟩
 rcases Nat.lt_or_gt_of_ne hab with hlt | hlt
 . exact key a b a1 b1 hlt hs.symm fun u hu hs2=>b3 u hu (b2.trans hs2)
 . exact key b a b1 a1 hlt hs fun u hu hs2=>a3 u hu (a2.trans hs2)
end Go.Idl
namespace Go.Idl
open Go
theorem Jfn {d:List Int} (hv:Qbb d=true):(Qa2 d && decide ((if d.length=0 then 0 else (Qa7 d).getD (Qd3 (fall d) - 1) 0)=0))=decide (Qec d=0):=by
 cases hg:Qa2 d with
 | false=>simp [Qec,hg]
 | true =>
   rw [Qec,hg,if_pos rfl,Kbx];by_cases h0:d.length=0
   . rw [if_pos h0,if_pos h0]
   rw [if_neg h0,if_neg h0];have hnn:∀ x ∈ fall d,0<=x:=fun x hx=>by
    have:=Qdv hv x ((Qdp _).mem_iff.1 hx);omega
   have h1:=Quc (s:=fall d) (fun hh=>by have:=Qay d;rw [hh] at this;simp at this;omega) hnn;have h2:=Qud (fall d);rw [Qay] at h2;have h7:=(Qan hv).1;have hget:(Qa7 d).getD (Qd3 (fall d) - 1) 0=slk (fall d) (Qd3 (fall d)):=by
    rw [Qya,slS,Qay,Kad,Kdx,Kfh (by omega)];simp only [Kes,Kdf];rw [show Qd3 (fall d) - 1+1=Qd3 (fall d) by omega]
   have hsl:=Jna (Qmf d);rw [Qw3] at hsl;simp only [Qa2,Kac,Kai,Kaj] at hg;have hge:0<=(Qa7 d).getD (Qd3 (fall d) - 1) 0:=by
    rw [Kad];cases hq:(Qa7 d)[Qd3 (fall d) - 1]? with
    | none=>simp
    | some x=>exact hg.2 x (Kbn hq)
   have hev:((Qd3 (fall d):Int) * ((Qd3 (fall d):Int) - 1)) % 2=0:=by
    generalize Qd3 (fall d)=k at *
    have:k=1 \/ k=2 \/ k=3 \/ k=4 \/ k=5 \/ k=6 \/ k=7:=by omega
    rcases this with h | h | h | h | h | h | h <;> rw [h] <;> decide
   rw [hget] at hge |-;have he:=hg.1.2;generalize (Qd3 (fall d):Int) * ((Qd3 (fall d):Int) - 1)=A at *
   generalize slk (fall d) (Qd3 (fall d))=s at *
   generalize ((fall d).take (Qd3 (fall d))).sum=t at *
   rw [Kfa,Kds hge];omega
theorem Qt4 {n:Nat} {es:List (Int×Int)} (h:Qak n es=true):Jcu n es=Qfk n es:=by
 rw [Jcu,Qfk];exact Kel fun e _=>by rw [Jlr (Qee.1 h).2.1]
abbrev Jl1:List UInt8:=[110,111,110,101]
abbrev Qew:List UInt8:=[119,114,111,110,103]
abbrev Jnf:List UInt8:=[119,104,97,116]
abbrev wG:List UInt8:=[103,114,97,112,104,105,99]
abbrev wT:List UInt8:=[116,114,101,101]
abbrev wH:List UInt8:=[116,104,114,101,115,104,111,108,100]
abbrev wS:List UInt8:=[115,112,108,105,116]
abbrev wR:List UInt8:=[114,101,97,108,105,122,101]
abbrev wD:List UInt8:=[100,101,103,114,101,101,115]
abbrev wC:List UInt8:=[99,111,110,110,101,99,116,101,100]
abbrev wM:List UInt8:=[99,111,109,112,108,101,109,101,110,116]
abbrev wK:List UInt8:=[99,111,100,101]
theorem Jkl (w C:List UInt8):Op.stringOp .eql (⟨w.toArray⟩:ByteArray) ⟨C.toArray⟩=Sem.pure (.bool (decide (w=C))):=by
 rw [Jfi];congr 2;rw [Kfa];constructor
 . intro h;have:=congrArg (fun b:ByteArray=>b.data.toList) h;simpa using this
 . intro h;rw [h]
structure SwW (B:ByteArray) (b0 b1 b2 b3 b4 b5 b6 b7 b8:Bool):Prop where
 s0:Op.stringOp .eql B ⟨#[103,114,97,112,104,105,99]⟩=Sem.pure (.bool b0)
 s1:Op.stringOp .eql B ⟨#[116,114,101,101]⟩=Sem.pure (.bool b1)
 s2:Op.stringOp .eql B ⟨#[116,104,114,101,115,104,111,108,100]⟩=Sem.pure (.bool b2)
 s3:Op.stringOp .eql B ⟨#[115,112,108,105,116]⟩=Sem.pure (.bool b3)
 s4:Op.stringOp .eql B ⟨#[114,101,97,108,105,122,101]⟩=Sem.pure (.bool b4)
 s5:Op.stringOp .eql B ⟨#[100,101,103,114,101,101,115]⟩=Sem.pure (.bool b5)
 s6:Op.stringOp .eql B ⟨#[99,111,110,110,101,99,116,101,100]⟩=Sem.pure (.bool b6)
 s7:Op.stringOp .eql B ⟨#[99,111,109,112,108,101,109,101,110,116]⟩=Sem.pure (.bool b7)
 s8:Op.stringOp .eql B ⟨#[99,111,100,101]⟩=Sem.pure (.bool b8)
theorem Qfh (w:List UInt8):SwW ⟨w.toArray⟩ (decide (w=wG)) (decide (w=wT)) (decide (w=wH)) (decide (w=wS)) (decide (w=wR)) (decide (w=wD)) (decide (w=wC)) (decide (w=wM)) (decide (w=wK)) :=
 ⟨Jkl w wG,Jkl w wT,Jkl w wH,Jkl w wS,Jkl w wR,Jkl w wD,Jkl w wC,Jkl w wM,Jkl w wK⟩
def Jcg (w:List UInt8) (d:List Int):List UInt8 :=
 if w=wG then Qj3 (Qa2 d) else if w=wT then Qj3 (Qfc d) else if w=wH then Qj3 (thr d) else if w=wS then Qj3 (decide (Qec d=0)) else
 match Qkj d with
 | some es=>gtx d.length (Qfl es)
 | none=>Jl1
def cnB (n:Nat) (es:List (Int×Int)):Bool:=decide (1<=n) && decide ((Qlk n es).length=1)
def Jkg (w:List UInt8) (n:Nat) (es:List (Int×Int)):List UInt8 :=
 if w=wD then (Qdf n es).map dgt else if w=wC then Qj3 (cnB n es) else if w=wM then gtx n (Qfk n es) else if n=0 then Qew else
 match coI es n (Qbx n (-1)) [] [] with
 | some (l,_)=>l.map fun x=>UInt8.ofNat x.toNat
 | none=>Jl1
def Qgh (w t:List UInt8):List UInt8 :=
 if w ∈ [wG,wT,wH,wS,wR] then (match Qdx t with | some d=>Jcg w d | none=>Qew) else if w ∈ [wD,wC,wM,wK] then (match Qc7 t with | some (n,es)=>Jkg w n.toNat es | none=>Qew) else Jnf
def Qpc (l:List UInt8):List UInt8:=match Qix 32 l with
 | some (w,t)=>if (Qix 32 t).isSome then Jnf else Qgh w t
 | none=>Jnf
theorem Jpk (b:Bool):Ev tb Qq2 [] [Bo b] [] ⟨SB (Qj3 b),[],[],[]⟩:=by
 cases b <;>
 . refine jC zt221 rfl ?_
   repeat (first|apply jA|apply jQ|refine wr (by simp;with_reducible rfl) ?_|refine wt (by simpa) ?_|refine wf (by simpa) ?_|refine xt (by simpa) ?_|refine xf (by simpa) ?_|apply jB|apply Jaf|refine jX ?_|refine jY ?_|refine jR ?_|refine jK ?_|refine jE ?_)
   simp [Jn4,Qj3]
theorem Qlu (l:List UInt8) (hl:l.length<=1500000):Ev tb Jja [] [SB l] [] ⟨match Qdx l with | some d=>.tup [nlI d,Bo true] | none=>.tup [Z,Bo false],[],[],[]⟩:=by
 have e1:=Qaa (Qe2 l (by omega));have e2:=fun c=>Qaa (Qbh (l.map rdb) c (by simp;omega));rw [Qdx];cases hv:Qbb (l.map rdb) with
 | false =>
   rw [hv] at e2;rw [if_neg (by simp)];have e2z:l.map rdb ≠ []:=fun h=>by rw [h] at hv;cases hv
   generalize l.map rdb=A at *
   cases A with
   | nil=>exact absurd rfl e2z
   | cons a A =>
     rw [show nlI (a::A)=O (a::A) from rfl] at e1;refine jC zt191 rfl ?_;have Hq:=cj2 e1 e2;repeat refine go1 ?_
     simp [Jai]
 | true =>
   rw [hv] at e2;rw [if_pos rfl];generalize l.map rdb=A at *
   cases A with
   | nil =>
     rw [show nlI []=Z from rfl] at *
     have e3:∀ c,Qbq tb Jbp [] [.lst 1 [] c] []=some ⟨Bo true,[],[],[]⟩:=e2;refine jC zt191 rfl ?_;have Hq:=cj2 e1 e3;repeat refine go1 ?_
     simp [Jai,nlI]
   | cons a A =>
     rw [show nlI (a::A)=O (a::A) from rfl] at *
     refine jC zt191 rfl ?_;have Hq:=cj2 e1 e2;repeat refine go1 ?_
     simp [Jai,nlI]
theorem Qnl (d:List Int) (c:Bool) (hv:Qbb d=true):Ev tb Ji3 [] [L d c] [] ⟨SB (d.map dgt),[],[],[]⟩:=by
 have h7:=(Qan hv).1;have e1:=fun c=>Qaa (Qbh d c (by omega));rw [hv] at e1;have e2:=fun c=>Qaa (Qh8 d c (by omega) (fun x hx=>by have:=Qdv hv x hx;omega));generalize d.map dgt=S at *
 refine jC zt162 rfl ?_;have Hq:=cj2 e1 e2;repeat refine go1 ?_
 simp [Jnu]
theorem Qhe (n:Nat) (hn:n<=7):Ev tb Qtp [] [.agg [I n,Z]] [] ⟨SB (gtx n []),[],[],[]⟩:=by
 have v1:=Qaa (Qlx n);rw [show Qak n []=true by simp [Qak,vEs];omega] at v1;have e1:Qbq tb Qnb [] [.lst 1 [[I (n:Int)]] false] []=some ⟨SB [dgt n],[],[],[]⟩:=Qaa (Qh8 [(n:Int)] false (by simp) (by simp;omega));have e2:=Qaa (Qrv [44]);have a1:=Qeu (a:=[dgt n]) (b:=[58]) (by simp);have a2:=Qeu (a:=[dgt n]++[58]) (b:=[]) (by simp);have hg:gtx (n:Int) []=[dgt n]++[58]++[]:=rfl;rw [hg];generalize hG:[dgt (n:Int)]++[58]++[]=G at *
 generalize [dgt (n:Int)]++[58]=H at a1 a2;refine jC zt166 rfl ?_;have Hq:=v1;repeat refine go1 ?_
 refine jL ?_;have Hq:=cj4 e1 e2 a1 a2;repeat refine go1 ?_
 simp [Qvn]
end Go.Idl
namespace Go.Idl
open Go
theorem Qpk (w:List UInt8) (d:List Int) (c:Bool) (hv:Qbb d=true):Ev tb Ja2 [] [SB w,L d c] [] ⟨SB (Jcg w d),[],[],[]⟩:=by
 have h7:=(Qan hv).1;have hS:=Qfh w;have e1:=fun c=>Qaa (Qfs d c (by omega));have e2:=fun c=>Qaa (Qkc d c (by omega));have e3:=fun c=>Qaa (Qnn d c (by omega));have e4:=fun c=>Qaa (Qza d c (by omega));have y:=fun b=>Qaa (Jpk b);rw [Jcg];by_cases h0:w=wG
 . rw [if_pos h0];rw [Kbo h0] at hS;obtain ⟨s0,-,-,-,-,-,-,-,-⟩:=hS;have y1:=y (Qa2 d);generalize Qj3 (Qa2 d)=Y at *
   generalize Qa2 d=b at *
   refine jC Jbj rfl ?_;have Hq:=cj3 s0 e1 y1;repeat refine go1 ?_
   simp [Qq0]
 rw [if_neg h0];rw [Kbf h0] at hS;by_cases h1:w=wT
 . rw [if_pos h1];rw [Kbo h1] at hS;obtain ⟨s0,s1,-,-,-,-,-,-,-⟩:=hS;have y1:=y (Qfc d);generalize Qj3 (Qfc d)=Y at *
   generalize Qfc d=b at *
   refine jC Jbj rfl ?_;have Hq:=cj4 s0 s1 e2 y1;repeat refine go1 ?_
   simp [Qq0]
 rw [if_neg h1];rw [Kbf h1] at hS;by_cases h2:w=wH
 . rw [if_pos h2];rw [Kbo h2] at hS;obtain ⟨s0,s1,s2,-,-,-,-,-,-⟩:=hS;have y1:=y (thr d);generalize Qj3 (thr d)=Y at *
   generalize thr d=b at *
   refine jC Jbj rfl ?_;have Hq:=cj5 s0 s1 s2 e3 y1;repeat refine go1 ?_
   simp [Qq0]
 rw [if_neg h2];rw [Kbf h2] at hS;by_cases h3:w=wS
 . rw [if_pos h3];rw [Kbo h3] at hS;obtain ⟨s0,s1,s2,s3,-,-,-,-,-⟩:=hS;have y1:=y (decide (Qec d=0));generalize Qj3 (decide (Qec d=0))=Y at *
   generalize decide (Qec d=0)=b at *
   refine jC Jbj rfl ?_;have Hq:=cj6 s0 s1 s2 s3 e4 y1;repeat refine go1 ?_
   simp [Qq0]
 rw [if_neg h3];rw [Kbf h3] at hS;obtain ⟨s0,s1,s2,s3,-,-,-,-,-⟩:=hS;have e5:=fun c=>Qaa (Qi7 d c hv);have hlaw:=(Qvb d hv).2;cases hr:Qkj d with
 | none =>
   rw [hr] at e5;refine jC Jbj rfl ?_;have Hq:=cj5 s0 s1 s2 s3 e5;repeat refine go1 ?_
   simp [Qq0]
 | some es =>
   rw [hr] at e5;obtain ⟨k1,-⟩:=hlaw es hr;have hf:Fit (Qfl es):=fun e he=>by have:=Qqx k1 e he;omega
   have hel:=Qev k1;have g1:=fun c=>Qaa (Qcs d.length (Qfl es) c hf (by omega));rw [k1,if_pos rfl] at g1;have e5:∀ c,Qbq tb Qvw [] [L d c] []=some ⟨.tup [OG d.length (Qfl es),Bo true],[],[],[]⟩:=e5;simp only;generalize gtx (d.length:Int) (Qfl es)=Y at *
   generalize Qfl es=E at *
   refine jC Jbj rfl ?_;have Hq:=cj6 s0 s1 s2 s3 e5 g1;repeat refine go1 ?_
   simp [Qq0]
theorem Quj (w:List UInt8) (n:Nat) (es:List (Int×Int)) (c:Bool) (hv:Qak n es=true):Ev tb Jjc [] [SB w,Gr n es c] [] ⟨SB (Jkg w n es),[],[],[]⟩:=by
 have h7:=(Qee.1 hv).2.2;have hel:=Qev hv;have hin:=Qqx hv;have hf:Fit es:=fun e he=>by have:=hin e he;omega
 have hS:=Qfh w;rw [Jkg];by_cases h0:w=wD
 . rw [if_pos h0];rw [Kbo h0] at hS;obtain ⟨-,-,-,-,-,s5,-,-,-⟩:=hS;have e1:=fun c=>Qaa (Qj9 n es c (by omega) (by omega) hin);have e2:=fun c=>Qaa (Qnl (Qdf n es) c (Qod hv));generalize (Qdf n es).map dgt=Y at *
   generalize Qdf n es=D at *
   refine jC Qwd rfl ?_;have Hq:=cj3 s5 e1 e2;repeat refine go1 ?_
   simp [Qn6]
 rw [if_neg h0];rw [Kbf h0] at hS;by_cases h1:w=wC
 . rw [if_pos h1];rw [Kbo h1] at hS;obtain ⟨-,-,-,-,-,s5,s6,-,-⟩:=hS;have e1:∀ c,Qbq tb Qvv [] [Gr n es c] []=some ⟨Bo (cnB n es),[],[],[]⟩:=fun c=>by
    have v1:=Qaa (Qdb n es c hf (by omega));rw [hv] at v1;rw [cnB];by_cases hn:1<=n
    . rw [Kbo hn,Kbx];exact Qaa (Qnm n hn 2 es c (.inl rfl) (by omega) hv v1)
    . have hn0:n=0:=by omega
      subst hn0;rw [Kbf (by omega),Kee];exact Qaa (Qkb es c v1)
   have y1:=Qaa (Jpk (cnB n es));generalize Qj3 (cnB n es)=Y at *
   generalize cnB n es=b at *
   refine jC Qwd rfl ?_;have Hq:=cj4 s5 s6 e1 y1;repeat refine go1 ?_
   simp [Qn6]
 rw [if_neg h1];rw [Kbf h1] at hS;by_cases h2:w=wM
 . rw [if_pos h2];rw [Kbo h2] at hS;obtain ⟨-,-,-,-,-,s5,s6,s7,-⟩:=hS;have e1:=fun c=>Qaa (Qhd n (by omega) es c (by omega));have k1:Qak n (Qfk n es)=true:=Qpa h7 es;have kf:Fit (Qfk n es):=fun e he=>by have:=Qqx k1 e he;omega
   have kel:=Qev k1;have g1:=fun c=>Qaa (Qcs n (Qfk n es) c kf (by omega));rw [k1,if_pos rfl] at g1;have g2:=Qaa (Qhe n h7);cases hE:Qfk n es with
   | nil =>
     rw [hE] at e1;rw [Qcu] at e1;generalize gtx (n:Int) []=Y at *
     refine jC Qwd rfl ?_;have Hq:=cj5 s5 s6 s7 e1 g2;repeat refine go1 ?_
     simp [Qn6]
   | cons x r =>
     rw [hE] at e1 g1;rw [Qcj] at e1;generalize gtx (n:Int) (x::r)=Y at *
     generalize x::r=E at *
     refine jC Qwd rfl ?_;have Hq:=cj5 s5 s6 s7 e1 g1;repeat refine go1 ?_
     simp [Qn6]
 rw [if_neg h2];rw [Kbf h2] at hS;obtain ⟨-,-,-,-,-,s5,s6,s7,-⟩:=hS;by_cases hn:n=0
 . subst hn;rw [if_pos rfl];refine jC Qwd rfl ?_;have Hq:=cj3 s5 s6 s7;repeat refine go1 ?_
   simp [Qn6]
 rw [if_neg hn];have hn1:¬ (n:Int)=0:=by omega
 have hn2:((n:Int) == 0)=false:=by simpa using hn
 have e1:=fun c=>Qaa (Qnu n es c hf (by omega) hv hn1);rw [Kax] at e1;cases hq:coI es n (Qbx n (-1)) [] [] with
 | none =>
   rw [hq] at e1;simp only [Qiq] at e1;refine jC Qwd rfl ?_;have Hq:=cj7 s5 s6 s7 hn hn1 hn2 e1;repeat refine go1 ?_
   simp [Qn6]
 | some r =>
   obtain ⟨l,o⟩:=r;rw [hq] at e1;simp only [Qiq,Qbj] at e1;show Ev tb _ _ _ _ ⟨SB (l.map fun x=>UInt8.ofNat x.toNat),[],[],[]⟩;generalize (l.map fun x=>UInt8.ofNat x.toNat)=Y at *
   refine jC Qwd rfl ?_;have Hq:=cj7 s5 s6 s7 hn hn1 hn2 e1;repeat refine go1 ?_
   simp [Qn6]
theorem Qjo (cs:List (List UInt8)) (c:Bool) (w:List UInt8) (hl:cs.length<=1000):Ev tb Qtr [] [.lst 1 (strsB cs) c,SB w] [] ⟨Bo (decide (w ∈ cs)),[],[],[]⟩:=by
 have hsl:(strsB cs).length=cs.length:=by simp [strsB]
 have loop:∀ (m i:Nat),i+m=cs.length->w ∉ cs.take i->wp tb (.loop Jql) { T:=[(0,.lst 1 (strsB cs) c),(1,SB w),(7,I cs.length),(8,I i)],loc:=[],M:=[] }
  fun ex st=>(w ∉ cs/\ex=.exit 0/\st={ T:=[(0,.lst 1 (strsB cs) c),(1,SB w),(7,I cs.length),(8,I cs.length),(9,Bo false)],loc:=[],M:=[] }) \/ (w ∈ cs/\ex=.ret/\∃ j:Nat,st={ T:=[(4,I j)],loc:=[],M:=[] }):=by
  intro m
  induction m with
  | zero =>
    intro i hi hn;have:i=cs.length:=by omega
    subst this;rw [Kdb] at hn;refine jL ?_
    repeat refine go0 ?_
    exact .inl ⟨hn,rfl,rfl⟩
  | succ m ih =>
    intro i hi hn;have hlt:i < cs.length:=by omega
    have hlt':(i:Int) < cs.length:=by omega
    have w1:IntKind.i64.wrap ((i:Int)+1)=((i+1:Nat):Int):=Qas (by omega);have hlt2:i < (strsB cs).length:=by omega
    have g1:(strsB cs)[i]? = some [SB cs[i]]:=by simp [strsB,hlt]
    have g2:(strsB cs)[i]=[SB cs[i]]:=by simp [strsB]
    have s0:=Jkl w cs[i];by_cases hq:w=cs[i]
    . rw [Kbo hq] at s0;have hm:w ∈ cs:=hq ▸ Kao hlt;refine jL ?_;have Hq:=cj8 hsl hlt hlt' hlt2 g1 g2 s0 w1;repeat refine go1 ?_
      exact .inr ⟨hm,rfl,i,rfl⟩
    . rw [Kbf hq] at s0;have hn2:=ih (i+1) (by omega) (by
       rw [Kau hlt];simp only [Kah,Kce,not_or];exact ⟨hn,hq⟩)
      refine jL ?_;have Hq:=cj8 hsl hlt hlt' hlt2 g1 g2 s0 w1;repeat refine go1 ?_
      exact hn2
 have lp:=loop cs.length 0 (by omega) (by simp);rw [show ((0:Nat):Int)=0 from rfl] at lp;have e1:∃ j:Int,(decide (0<=j)=decide (w ∈ cs))/\Qbq tb Ja6 [] [.lst 1 (strsB cs) c,SB w] []=some ⟨I j,[],[],[]⟩:=by
  suffices hh:∃ r,(∃ j:Int,decide (0<=j)=decide (w ∈ cs)/\r=⟨I j,[],[],[]⟩)/\Ev tb Ja6 [] [.lst 1 (strsB cs) c,SB w] [] r by
   obtain ⟨r,⟨j,q1,rfl⟩,q2⟩:=hh;exact ⟨j,q1,Qaa q2⟩
  refine Qlg zt270 rfl ?_;have Hq:=hsl;repeat refine go1 ?_
  refine Qab lp ?_;rintro ex st (⟨hm,rfl,rfl⟩ | ⟨hm,rfl,j,rfl⟩)
  . show wp tb _ _ _
    repeat refine go0 ?_
    refine ⟨.inr rfl,_,⟨-1,by simp [hm],rfl⟩,?_⟩;simp [Jig]
  . refine ⟨.inr rfl,_,⟨j,by simp [hm],rfl⟩,?_⟩;simp [Jig]
 obtain ⟨j,hj,e1⟩:=e1;rw [<- hj];generalize strsB cs=S at *
 refine jC zt264 rfl ?_;have Hq:=e1;repeat refine go1 ?_
 simp [Jn9]
theorem Qr1 (l:List UInt8) (c:UInt8):Ev tb Jbh [] [SB l,SB [c]] [] ⟨Bo (Qix c l).isSome,[],[],[]⟩:=by
 have e1:=Qaa (Qr2 l c);cases hc:Qix c l with
 | none =>
   rw [(Qen hc).1] at e1;refine jC zt395 rfl ?_;have Hq:=e1;repeat refine go1 ?_
   simp [Jiq]
 | some p =>
   obtain ⟨x,y⟩:=p;rw [(Qcp hc).1] at e1;have h0:(0:Int)<=x.length:=by omega
   refine jC zt395 rfl ?_;have Hq:=cj2 e1 h0;repeat refine go1 ?_
   simp [Jiq]
end Go.Idl
namespace Go.Idl
open Go
theorem Quk (l:List UInt8) (hl:l.length<=1500000):Ev tb Qna [] [SB l] [] ⟨SB (Qpc l),[],[],[]⟩:=by
 have e1:Qbq tb Qv7 [] [SB l,Str ⟨#[32]⟩] []=some ⟨Jbl l (Qix 32 l),[],[],[]⟩:=Qaa (Quo l 32 (by omega));rw [Qpc];cases hc:Qix 32 l with
 | none =>
   rw [hc] at e1;simp only [Jbl] at e1;refine jC Qtu rfl ?_;have Hq:=e1;repeat refine go1 ?_
   simp [Qm9]
 | some p =>
   obtain ⟨w,t⟩:=p;obtain ⟨-,-,-,h4⟩:=Qcp hc;have htl:t.length<=l.length:=by rw [h4];simp;omega
   rw [hc] at e1;simp only [Jbl] at e1;have e2:Qbq tb Jbh [] [SB t,Str ⟨#[32]⟩] []=some ⟨Bo (Qix 32 t).isSome,[],[],[]⟩:=Qaa (Qr1 t 32);simp only;cases hs:(Qix 32 t).isSome with
   | true =>
     rw [hs] at e2;rw [if_pos rfl];refine jC Qtu rfl ?_;have Hq:=cj2 e1 e2;repeat refine go1 ?_
     simp [Qm9]
   | false =>
     rw [hs] at e2;rw [if_neg (by simp),Qgh];have e3:Qbq tb Qtr [] [.lst 1 [[Str ⟨#[103,114,97,112,104,105,99]⟩],[Str ⟨#[116,114,101,101]⟩],[Str ⟨#[116,104,114,101,115,104,111,108,100]⟩],[Str ⟨#[115,112,108,105,116]⟩],[Str ⟨#[114,101,97,108,105,122,101]⟩]] false,SB w] []=some ⟨Bo (decide (w ∈ [wG,wT,wH,wS,wR])),[],[],[]⟩:=Qaa (Qjo [wG,wT,wH,wS,wR] false w (by simp));have e4:Qbq tb Qtr [] [.lst 1 [[Str ⟨#[100,101,103,114,101,101,115]⟩],[Str ⟨#[99,111,110,110,101,99,116,101,100]⟩],[Str ⟨#[99,111,109,112,108,101,109,101,110,116]⟩],[Str ⟨#[99,111,100,101]⟩]] false,SB w] []=some ⟨Bo (decide (w ∈ [wD,wC,wM,wK])),[],[],[]⟩:=Qaa (Qjo [wD,wC,wM,wK] false w (by simp));by_cases hw:w ∈ [wG,wT,wH,wS,wR]
     . rw [if_pos hw];rw [Kbo hw] at e3;have e5:=Qaa (Qlu t (by omega));cases hp:Qdx t with
       | none =>
         rw [hp] at e5;simp only at e5 |-;refine jC Qtu rfl ?_;have Hq:=cj4 e1 e2 e3 e5;repeat refine go1 ?_
         simp [Qm9]
       | some d =>
         rw [hp] at e5;simp only at e5 |-;have e6:=fun c=>Qaa (Qpk w d c (Qcw hp));generalize Jcg w d=Y at *
         cases d with
         | nil =>
           have e6:∀ c,Qbq tb Ja2 [] [SB w,.lst 1 [] c] []=some ⟨SB Y,[],[],[]⟩:=e6;simp only [nlI] at e5;refine jC Qtu rfl ?_;have Hq:=cj5 e1 e2 e3 e5 e6;repeat refine go1 ?_
           simp [Qm9]
         | cons a A =>
           simp only [nlI] at e5;generalize a::A=D at *
           refine jC Qtu rfl ?_;have Hq:=cj5 e1 e2 e3 e5 e6;repeat refine go1 ?_
           simp [Qm9]
     rw [if_neg hw];rw [Kbf hw] at e3;by_cases hw2:w ∈ [wD,wC,wM,wK]
     . rw [if_pos hw2];rw [Kbo hw2] at e4;have e5:=Qaa (Qh9 t (by omega));cases hp:Qc7 t with
       | none =>
         rw [hp] at e5;simp only [Jkk] at e5 |-;refine jC Qtu rfl ?_;have Hq:=cj5 e1 e2 e3 e4 e5;repeat refine go1 ?_
         simp [Qm9]
       | some p =>
         obtain ⟨n,es⟩:=p;obtain ⟨hv,-⟩:=Qds hp;obtain ⟨m,rfl,h7⟩:=Qn4 hv;rw [hp] at e5;simp only [Jkk,Kax] at e5 |-;have e6:=fun c=>Qaa (Quj w m es c hv);generalize Jkg w m es=Y at *
         refine jC Qtu rfl ?_;have Hq:=cj6 e1 e2 e3 e4 e5 e6;repeat refine go1 ?_
         simp [Qm9]
     rw [if_neg hw2];rw [Kbf hw2] at e4;refine jC Qtu rfl ?_;have Hq:=cj4 e1 e2 e3 e4;repeat refine go1 ?_
     simp [Qm9]
theorem Qns (d:List Int) (c:Bool) (hl:d.length<=1000) (h:∀ x ∈ d,0<=x/\x<=9):Ev tb Jjv [] [L d c] [] ⟨SB (d.map dgt),[],[],[]⟩:=by
 have loop:∀ (m i:Nat),i+m=d.length->wp tb (.loop Jqy) { T:=[(0,L d c),(3,SB ((d.take i).map dgt)),(4,I i)],loc:=[],M:=[] }
  fun ex st=>ex=.exit 0/\st={ T:=[(0,L d c),(3,SB (d.map dgt)),(4,I d.length),(8,Bo false)],loc:=[],M:=[] }:=by
  intro m
  induction m with
  | zero =>
    intro i hi;have:i=d.length:=by omega
    subst this;rw [Kdb];refine jL ?_
    repeat refine go0 ?_
    exact ⟨rfl,rfl⟩
  | succ m ih =>
    intro i hi;have hlt:i < d.length:=by omega
    have hlt':(i:Int) < d.length:=by omega
    have w1:IntKind.i64.wrap ((i:Int)+1)=((i+1:Nat):Int):=Qas (by omega);have hb:=h d[i] (Kao hlt);have e1:=Qaa (Qku d[i].toNat (by omega));rw [show ((d[i].toNat:Nat):Int)=d[i] by omega] at e1;have hn:=ih (i+1) (by omega);rw [Kau hlt,Kct,Kbd,Kdn] at hn;have hal:((d.take i).map dgt).length=i:=by simp;omega
    have a1:=Qeu (a:=(d.take i).map dgt) (b:=[dgt d[i]]) (by simp;omega);generalize (d.take i).map dgt++[dgt d[i]]=N at *
    generalize (d.take i).map dgt=A at *
    refine jL ?_;have Hq:=cj5 hlt hlt' e1 a1 w1;repeat refine go1 ?_
    exact hn
 have lp:=loop d.length 0 (by omega);rw [Kcz,Kdn] at lp;generalize d.map dgt=Y at *
 refine jC zt346 rfl ?_
 repeat refine go0 ?_
 refine Qab lp ?_;rintro ex st ⟨rfl,rfl⟩;show wp tb _ _ _
 repeat refine go0 ?_
 simp [Joj]
def Qc6:IC->IC
 | .seq _ b=>b
 | x=>x
theorem ans_0 (t:List UInt8):Qgh wG t=(match Qdx t with | some d=>Qj3 (Qa2 d) | none=>Qew):=by
 cases h:Qdx t <;> simp [Qgh,Jcg,h]
theorem ans_1 (t:List UInt8):Qgh wT t=(match Qdx t with | some d=>Qj3 (Qfc d) | none=>Qew):=by
 cases h:Qdx t <;> simp [Qgh,Jcg,h]
theorem ans_2 (t:List UInt8):Qgh wH t=(match Qdx t with | some d=>Qj3 (thr d) | none=>Qew):=by
 cases h:Qdx t <;> simp [Qgh,Jcg,h]
theorem ans_3 (t:List UInt8):Qgh wS t=(match Qdx t with | some d=>Qj3 (decide (Qec d=0)) | none=>Qew):=by
 cases h:Qdx t <;> simp [Qgh,Jcg,h]
theorem ans_4 (t:List UInt8):Qgh wR t=(match Qdx t with | some d=>(match Qkj d with | some es=>gtx d.length (Qfl es) | none=>Jl1) | none=>Qew):=by
 cases h:Qdx t <;> simp [Qgh,Jcg,h] <;> rfl
theorem ans_5 (t:List UInt8):Qgh wD t=(match Qc7 t with | some (n,es)=>(Qdf n.toNat es).map dgt | none=>Qew):=by
 cases h:Qc7 t <;> simp [Qgh,Jkg,h]
theorem ans_6 (t:List UInt8):Qgh wC t=(match Qc7 t with | some (n,es)=>Qj3 (cnB n.toNat es) | none=>Qew):=by
 cases h:Qc7 t <;> simp [Qgh,Jkg,h]
theorem ans_7 (t:List UInt8):Qgh wM t=(match Qc7 t with | some (n,es)=>gtx n.toNat (Qfk n.toNat es) | none=>Qew):=by
 cases h:Qc7 t <;> simp [Qgh,Jkg,h]
theorem ans_8 (t:List UInt8):Qgh wK t=(match Qc7 t with | some (n,es)=>(if n.toNat=0 then Qew else match coI es n.toNat (Qbx n.toNat (-1)) [] [] with | some (l,_)=>l.map fun x=>UInt8.ofNat x.toNat | none=>Jl1) | none=>Qew):=by
 cases h:Qc7 t <;> simp [Qgh,Jkg,h] <;> rfl
end Go.Idl
namespace Go.Idl
open Go
theorem Jt0 {d:List Int} (hv:Qbb d=true):Qfc d=(decide (d.length=1) || (decide (1 < d.length) && (Qeb d && decide (d.sum=2 * ((d.length:Int) - 1))))):=by
 have:=Jtz d hv;simp only [Qt0,Kac,Kbt] at this;rw [this.1,Jfw,hv,Kbx]
theorem cnB_eq {n:Nat} {es:List (Int×Int)} (hv:Qak n es=true):cnB n es=decide ((Qlj n es 0).length=1):=by
 rw [cnB];by_cases hn:1<=n
 . have hes:∀ e ∈ es,e.1.toNat < n/\e.2.toNat < n:=fun e he=>by have:=Qej.1 ((Qee.1 hv).2.1 e he);omega
   rw [Kbo hn,Kbx,Kfa,Jct hn hes,Jcr hn hes]
 . have:n=0:=by omega
   subst this;rfl
abbrev Qnc:IC:=Qc6 (Qc6 (Qc6 (Qc6 (Qc6 Qfm.body))))
theorem Jbz (t:List UInt8) (X:List Int) (okd okg:Bool) (hX:∀ d,Qdx t=some d->X=d) (hokd:okd=(Qdx t).isSome) (hokg:okg=(Qc7 t).isSome) (m:Int) (x:IV) (hG:∀ n es,Qc7 t=some (n,es)->m=n/\x=O2 es) :
 wp tb Qnc { T:=[(3,.own 1 [[SB wG],[SB t]]),(4,O X),(5,Bo okd),(6,.bptr 0 0 0),(7,Bo okg)],loc:=[[I m,x]],M:=[] } fun ex st=>ex=.ret/\∃ B,st={ T:=[(2,SB (Qgh wG t))],loc:=B,M:=[] }:=by
 have hS:SwW (⟨wG.toArray⟩:ByteArray) true false false false false false false false false:=Qfh wG;obtain ⟨s0,s1,s2,s3,s4,s5,s6,s7,s8⟩:=hS;rw [ans_0];simp only [Qnc,Qc6,Qfm];cases hp:Qdx t with
 | none =>
   rw [hp] at hokd;simp only [Kdi] at hokd;subst hokd;have Hq:=cj9 s0 s1 s2 s3 s4 s5 s6 s7 s8;repeat refine go1 ?_
   exact ⟨rfl,_,rfl⟩
 | some d =>
   obtain rfl:=hX d hp;rw [hp] at hokd;simp only [Kdh] at hokd;subst hokd;have hv:=Qcw hp;have h7:=(Qan hv).1;simp only;have e:=fun c=>Qaa (Qjr X c hv);have y:=Qaa (Qd4 (Qa2 X));generalize Qj3 (Qa2 X)=Y at *
   generalize (Qa2 X)=q at *
   have Hq:=Qtv s0 s1 s2 s3 s4 s5 s6 s7 s8 e y;repeat refine go1 ?_
   exact ⟨rfl,_,rfl⟩
theorem Jb0 (t:List UInt8) (X:List Int) (okd okg:Bool) (hX:∀ d,Qdx t=some d->X=d) (hokd:okd=(Qdx t).isSome) (hokg:okg=(Qc7 t).isSome) (m:Int) (x:IV) (hG:∀ n es,Qc7 t=some (n,es)->m=n/\x=O2 es) :
 wp tb Qnc { T:=[(3,.own 1 [[SB wT],[SB t]]),(4,O X),(5,Bo okd),(6,.bptr 0 0 0),(7,Bo okg)],loc:=[[I m,x]],M:=[] } fun ex st=>ex=.ret/\∃ B,st={ T:=[(2,SB (Qgh wT t))],loc:=B,M:=[] }:=by
 have hS:SwW (⟨wT.toArray⟩:ByteArray) false true false false false false false false false:=Qfh wT;obtain ⟨s0,s1,s2,s3,s4,s5,s6,s7,s8⟩:=hS;rw [ans_1];simp only [Qnc,Qc6,Qfm];cases hp:Qdx t with
 | none =>
   rw [hp] at hokd;simp only [Kdi] at hokd;subst hokd;have Hq:=cj9 s0 s1 s2 s3 s4 s5 s6 s7 s8;repeat refine go1 ?_
   exact ⟨rfl,_,rfl⟩
 | some d =>
   obtain rfl:=hX d hp;rw [hp] at hokd;simp only [Kdh] at hokd;subst hokd;have hv:=Qcw hp;have h7:=(Qan hv).1;simp only;have e:=fun c=>Qaa (Qkg X c hv);rw [<- Jt0 hv] at e;have y:=Qaa (Qd4 (Qfc X));generalize Qj3 (Qfc X)=Y at *
   generalize (Qfc X)=q at *
   have Hq:=Qtv s0 s1 s2 s3 s4 s5 s6 s7 s8 e y;repeat refine go1 ?_
   exact ⟨rfl,_,rfl⟩
theorem Jb1 (t:List UInt8) (X:List Int) (okd okg:Bool) (hX:∀ d,Qdx t=some d->X=d) (hokd:okd=(Qdx t).isSome) (hokg:okg=(Qc7 t).isSome) (m:Int) (x:IV) (hG:∀ n es,Qc7 t=some (n,es)->m=n/\x=O2 es) :
 wp tb Qnc { T:=[(3,.own 1 [[SB wH],[SB t]]),(4,O X),(5,Bo okd),(6,.bptr 0 0 0),(7,Bo okg)],loc:=[[I m,x]],M:=[] } fun ex st=>ex=.ret/\∃ B,st={ T:=[(2,SB (Qgh wH t))],loc:=B,M:=[] }:=by
 have hS:SwW (⟨wH.toArray⟩:ByteArray) false false true false false false false false false:=Qfh wH;obtain ⟨s0,s1,s2,s3,s4,s5,s6,s7,s8⟩:=hS;rw [ans_2];simp only [Qnc,Qc6,Qfm];cases hp:Qdx t with
 | none =>
   rw [hp] at hokd;simp only [Kdi] at hokd;subst hokd;have Hq:=cj9 s0 s1 s2 s3 s4 s5 s6 s7 s8;repeat refine go1 ?_
   exact ⟨rfl,_,rfl⟩
 | some d =>
   obtain rfl:=hX d hp;rw [hp] at hokd;simp only [Kdh] at hokd;subst hokd;have hv:=Qcw hp;have h7:=(Qan hv).1;simp only;have e:=fun c=>Qaa (Qnv X c hv);have ht:thr X=decide (fall X=Qda (fall X)):=by rw [thr,hv,Kbx]
   rw [<- ht] at e;have y:=Qaa (Qd4 (thr X));generalize Qj3 (thr X)=Y at *
   generalize (thr X)=q at *
   have Hq:=Qtv s0 s1 s2 s3 s4 s5 s6 s7 s8 e y;repeat refine go1 ?_
   exact ⟨rfl,_,rfl⟩
theorem Jb2 (t:List UInt8) (X:List Int) (okd okg:Bool) (hX:∀ d,Qdx t=some d->X=d) (hokd:okd=(Qdx t).isSome) (hokg:okg=(Qc7 t).isSome) (m:Int) (x:IV) (hG:∀ n es,Qc7 t=some (n,es)->m=n/\x=O2 es) :
 wp tb Qnc { T:=[(3,.own 1 [[SB wS],[SB t]]),(4,O X),(5,Bo okd),(6,.bptr 0 0 0),(7,Bo okg)],loc:=[[I m,x]],M:=[] } fun ex st=>ex=.ret/\∃ B,st={ T:=[(2,SB (Qgh wS t))],loc:=B,M:=[] }:=by
 have hS:SwW (⟨wS.toArray⟩:ByteArray) false false false true false false false false false:=Qfh wS;obtain ⟨s0,s1,s2,s3,s4,s5,s6,s7,s8⟩:=hS;rw [ans_3];simp only [Qnc,Qc6,Qfm];cases hp:Qdx t with
 | none =>
   rw [hp] at hokd;simp only [Kdi] at hokd;subst hokd;have Hq:=cj9 s0 s1 s2 s3 s4 s5 s6 s7 s8;repeat refine go1 ?_
   exact ⟨rfl,_,rfl⟩
 | some d =>
   obtain rfl:=hX d hp;rw [hp] at hokd;simp only [Kdh] at hokd;subst hokd;have hv:=Qcw hp;have h7:=(Qan hv).1;simp only;have e:=fun c=>Qaa (Qjr X c hv);have e2:=fun c=>Qaa (Qpr X c hv);rw [<- Jfn hv];generalize (if X.length=0 then 0 else (Qa7 X).getD (Qd3 (fall X) - 1) 0)=z at *
   cases hg:Qa2 X with
   | false =>
     rw [hg] at e;have y:=Qaa (Qd4 false);rw [Kee];have Hq:=Qtv s0 s1 s2 s3 s4 s5 s6 s7 s8 e y;repeat refine go1 ?_
     exact ⟨rfl,_,rfl⟩
   | true =>
     rw [hg] at e;rw [Kbx];by_cases hz:z=0
     . rw [Kbo hz];have y:=Qaa (Qd4 true);have hz2:(z == 0)=true:=by simpa using hz
       have Hq:=cj14 s0 s1 s2 s3 s4 s5 s6 s7 s8 e e2 hz hz2 y;repeat refine go1 ?_
       exact ⟨rfl,_,rfl⟩
     . rw [Kbf hz];have y:=Qaa (Qd4 false);have hz2:(z == 0)=false:=by simpa using hz
       have Hq:=cj14 s0 s1 s2 s3 s4 s5 s6 s7 s8 e e2 hz hz2 y;repeat refine go1 ?_
       exact ⟨rfl,_,rfl⟩
theorem Jb3 (t:List UInt8) (X:List Int) (okd okg:Bool) (hX:∀ d,Qdx t=some d->X=d) (hokd:okd=(Qdx t).isSome) (hokg:okg=(Qc7 t).isSome) (m:Int) (x:IV) (hG:∀ n es,Qc7 t=some (n,es)->m=n/\x=O2 es) :
 wp tb Qnc { T:=[(3,.own 1 [[SB wR],[SB t]]),(4,O X),(5,Bo okd),(6,.bptr 0 0 0),(7,Bo okg)],loc:=[[I m,x]],M:=[] } fun ex st=>ex=.ret/\∃ B,st={ T:=[(2,SB (Qgh wR t))],loc:=B,M:=[] }:=by
 have hS:SwW (⟨wR.toArray⟩:ByteArray) false false false false true false false false false:=Qfh wR;obtain ⟨s0,s1,s2,s3,s4,s5,s6,s7,s8⟩:=hS;rw [ans_4];simp only [Qnc,Qc6,Qfm];cases hp:Qdx t with
 | none =>
   rw [hp] at hokd;simp only [Kdi] at hokd;subst hokd;have Hq:=cj9 s0 s1 s2 s3 s4 s5 s6 s7 s8;repeat refine go1 ?_
   exact ⟨rfl,_,rfl⟩
 | some d =>
   obtain rfl:=hX d hp;rw [hp] at hokd;simp only [Kdh] at hokd;subst hokd;have hv:=Qcw hp;have h7:=(Qan hv).1;simp only;have e:=fun c=>Qaa (Ql5 X c hv);have hlaw:=(Qvb X hv).2;rw [Qx1 (fun x hx=>by have:=Qdv hv x hx;omega)] at e;cases hr:Qkj X with
   | none =>
     rw [hr] at e;simp only [Option.map_none] at e;have Hq:=Qri s0 s1 s2 s3 s4 s5 s6 s7 s8 e;repeat refine go1 ?_
     exact ⟨rfl,_,rfl⟩
   | some es =>
     rw [hr] at e;simp only [Kes] at e;obtain ⟨k1,-⟩:=hlaw es hr;have hel:=Qev k1;have g1:=fun c=>Qaa (Qfw X.length (Qfl es) c (by omega) (by omega) (Qlo h7 k1));simp only;generalize gtx (X.length:Int) (Qfl es)=Y at *
     generalize Qfl es=E at *
     have Hq:=Qtv s0 s1 s2 s3 s4 s5 s6 s7 s8 e g1;repeat refine go1 ?_
     exact ⟨rfl,_,rfl⟩
theorem Jb4 (t:List UInt8) (X:List Int) (okd okg:Bool) (hX:∀ d,Qdx t=some d->X=d) (hokd:okd=(Qdx t).isSome) (hokg:okg=(Qc7 t).isSome) (m:Int) (x:IV) (hG:∀ n es,Qc7 t=some (n,es)->m=n/\x=O2 es) :
 wp tb Qnc { T:=[(3,.own 1 [[SB wD],[SB t]]),(4,O X),(5,Bo okd),(6,.bptr 0 0 0),(7,Bo okg)],loc:=[[I m,x]],M:=[] } fun ex st=>ex=.ret/\∃ B,st={ T:=[(2,SB (Qgh wD t))],loc:=B,M:=[] }:=by
 have hS:SwW (⟨wD.toArray⟩:ByteArray) false false false false false true false false false:=Qfh wD;obtain ⟨s0,s1,s2,s3,s4,s5,s6,s7,s8⟩:=hS;rw [ans_5];simp only [Qnc,Qc6,Qfm];cases hp:Qc7 t with
 | none =>
   rw [hp] at hokg;simp only [Kdi] at hokg;subst hokg;have Hq:=cj9 s0 s1 s2 s3 s4 s5 s6 s7 s8;repeat refine go1 ?_
   exact ⟨rfl,_,rfl⟩
 | some p =>
   obtain ⟨n,es⟩:=p;obtain ⟨hv,-⟩:=Qds hp;obtain ⟨rfl,rfl⟩:=hG n es hp;obtain ⟨n,rfl,h7⟩:=Qn4 hv;rw [hp] at hokg;simp only [Kdh] at hokg;subst hokg;have hel:=Qev hv;have hin:=Qqx hv;simp only [Kax];have e:=fun c=>Qaa (Qi8 n es c (by omega) (by omega) hin);have hdv:=Qod hv;have hd7:=(Qan hdv).1;have e2:=fun c=>Qaa (Qns (Qdf n es) c (by omega) (fun z hz=>by have:=Qdv hdv z hz;omega));generalize (Qdf n es).map dgt=Y at *
   generalize Qdf n es=D at *
   have Hq:=Qtv s0 s1 s2 s3 s4 s5 s6 s7 s8 e e2;repeat refine go1 ?_
   exact ⟨rfl,_,rfl⟩
theorem Jb5 (t:List UInt8) (X:List Int) (okd okg:Bool) (hX:∀ d,Qdx t=some d->X=d) (hokd:okd=(Qdx t).isSome) (hokg:okg=(Qc7 t).isSome) (m:Int) (x:IV) (hG:∀ n es,Qc7 t=some (n,es)->m=n/\x=O2 es) :
 wp tb Qnc { T:=[(3,.own 1 [[SB wC],[SB t]]),(4,O X),(5,Bo okd),(6,.bptr 0 0 0),(7,Bo okg)],loc:=[[I m,x]],M:=[] } fun ex st=>ex=.ret/\∃ B,st={ T:=[(2,SB (Qgh wC t))],loc:=B,M:=[] }:=by
 have hS:SwW (⟨wC.toArray⟩:ByteArray) false false false false false false true false false:=Qfh wC;obtain ⟨s0,s1,s2,s3,s4,s5,s6,s7,s8⟩:=hS;rw [ans_6];simp only [Qnc,Qc6,Qfm];cases hp:Qc7 t with
 | none =>
   rw [hp] at hokg;simp only [Kdi] at hokg;subst hokg;have Hq:=cj9 s0 s1 s2 s3 s4 s5 s6 s7 s8;repeat refine go1 ?_
   exact ⟨rfl,_,rfl⟩
 | some p =>
   obtain ⟨n,es⟩:=p;obtain ⟨hv,-⟩:=Qds hp;obtain ⟨rfl,rfl⟩:=hG n es hp;obtain ⟨n,rfl,h7⟩:=Qn4 hv;rw [hp] at hokg;simp only [Kdh] at hokg;subst hokg;have hel:=Qev hv;have hin:=Qqx hv;simp only [Kax];have e:=fun c=>Qaa (Qib n h7 es c hin (by omega));rw [cnB_eq hv];generalize Qlj n es 0=P at *
   by_cases hz:P.length=1
   . rw [Kbo hz];have y:=Qaa (Qd4 true);have hz1:(P.length:Int)=1:=by omega
     have Hq:=Jrz s0 s1 s2 s3 s4 s5 s6 s7 s8 e hz hz1 y;repeat refine go1 ?_
     exact ⟨rfl,_,rfl⟩
   . rw [Kbf hz];have y:=Qaa (Qd4 false);have hz1:¬ (P.length:Int)=1:=by omega
     have hz2:((P.length:Int) == 1)=false:=by simpa using hz1
     have Hq:=cj14 s0 s1 s2 s3 s4 s5 s6 s7 s8 e hz hz1 hz2 y;repeat refine go1 ?_
     exact ⟨rfl,_,rfl⟩
theorem Jb6 (t:List UInt8) (X:List Int) (okd okg:Bool) (hX:∀ d,Qdx t=some d->X=d) (hokd:okd=(Qdx t).isSome) (hokg:okg=(Qc7 t).isSome) (m:Int) (x:IV) (hG:∀ n es,Qc7 t=some (n,es)->m=n/\x=O2 es) :
 wp tb Qnc { T:=[(3,.own 1 [[SB wM],[SB t]]),(4,O X),(5,Bo okd),(6,.bptr 0 0 0),(7,Bo okg)],loc:=[[I m,x]],M:=[] } fun ex st=>ex=.ret/\∃ B,st={ T:=[(2,SB (Qgh wM t))],loc:=B,M:=[] }:=by
 have hS:SwW (⟨wM.toArray⟩:ByteArray) false false false false false false false true false:=Qfh wM;obtain ⟨s0,s1,s2,s3,s4,s5,s6,s7,s8⟩:=hS;rw [ans_7];simp only [Qnc,Qc6,Qfm];cases hp:Qc7 t with
 | none =>
   rw [hp] at hokg;simp only [Kdi] at hokg;subst hokg;have Hq:=cj9 s0 s1 s2 s3 s4 s5 s6 s7 s8;repeat refine go1 ?_
   exact ⟨rfl,_,rfl⟩
 | some p =>
   obtain ⟨n,es⟩:=p;obtain ⟨hv,-⟩:=Qds hp;obtain ⟨rfl,rfl⟩:=hG n es hp;obtain ⟨n,rfl,h7⟩:=Qn4 hv;rw [hp] at hokg;simp only [Kdh] at hokg;subst hokg;have hel:=Qev hv;have hin:=Qqx hv;simp only [Kax];have e:=fun c=>Qaa (Qia n (by omega) es c (by omega));rw [Qt4 hv] at e;have k1:Qak n (Qfk n es)=true:=Qpa h7 es;have kel:=Qev k1;have g1:=fun c=>Qaa (Qfw n (Qfk n es) c (by omega) (by omega) (Qlo h7 k1));generalize gtx (n:Int) (Qfk n es)=Y at *
   generalize Qfk n es=E at *
   have Hq:=Qtv s0 s1 s2 s3 s4 s5 s6 s7 s8 e g1;repeat refine go1 ?_
   exact ⟨rfl,_,rfl⟩
theorem Jb7 (t:List UInt8) (X:List Int) (okd okg:Bool) (hX:∀ d,Qdx t=some d->X=d) (hokd:okd=(Qdx t).isSome) (hokg:okg=(Qc7 t).isSome) (m:Int) (x:IV) (hG:∀ n es,Qc7 t=some (n,es)->m=n/\x=O2 es) :
 wp tb Qnc { T:=[(3,.own 1 [[SB wK],[SB t]]),(4,O X),(5,Bo okd),(6,.bptr 0 0 0),(7,Bo okg)],loc:=[[I m,x]],M:=[] } fun ex st=>ex=.ret/\∃ B,st={ T:=[(2,SB (Qgh wK t))],loc:=B,M:=[] }:=by
 have hS:SwW (⟨wK.toArray⟩:ByteArray) false false false false false false false false true:=Qfh wK;obtain ⟨s0,s1,s2,s3,s4,s5,s6,s7,s8⟩:=hS;rw [ans_8];simp only [Qnc,Qc6,Qfm];cases hp:Qc7 t with
 | none =>
   rw [hp] at hokg;simp only [Kdi] at hokg;subst hokg;have Hq:=cj9 s0 s1 s2 s3 s4 s5 s6 s7 s8;repeat refine go1 ?_
   exact ⟨rfl,_,rfl⟩
 | some p =>
   obtain ⟨n,es⟩:=p;obtain ⟨hv,-⟩:=Qds hp;obtain ⟨rfl,rfl⟩:=hG n es hp;obtain ⟨n,rfl,h7⟩:=Qn4 hv;rw [hp] at hokg;simp only [Kdh] at hokg;subst hokg;have hel:=Qev hv;have hin:=Qqx hv;simp only [Kax];by_cases hn:n=0
   . subst hn;rw [if_pos rfl];have Hq:=cj9 s0 s1 s2 s3 s4 s5 s6 s7 s8;repeat refine go1 ?_
     exact ⟨rfl,_,rfl⟩
   rw [if_neg hn];have hn1:(0:Int) < n:=by omega
   have hn2:0 < n:=by omega
   have e:=fun c=>Qaa (Qnx n h7 es c (by omega) hin);rw [codLaw hv] at e;cases hq:coI es n (Qbx n (-1)) [] [] with
   | none =>
     rw [hq] at e;simp only [Qiq] at e |-;have Hq:=Qwo s0 s1 s2 s3 s4 s5 s6 s7 s8 e hn1 hn2;repeat refine go1 ?_
     exact ⟨rfl,_,rfl⟩
   | some r =>
     obtain ⟨l,o⟩:=r;rw [hq] at e;simp only [Qiq,Qbj] at e |-;generalize (l.map fun x=>UInt8.ofNat x.toNat)=Y at *
     have Hq:=Qwo s0 s1 s2 s3 s4 s5 s6 s7 s8 e hn1 hn2;repeat refine go1 ?_
     exact ⟨rfl,_,rfl⟩
theorem Jb8 (w t:List UInt8) (X:List Int) (okd okg:Bool) (m:Int) (x:IV) (hw:w ∉ [wG,wT,wH,wS,wR]) (hw2:w ∉ [wD,wC,wM,wK]) :
 wp tb Qnc { T:=[(3,.own 1 [[SB w],[SB t]]),(4,O X),(5,Bo okd),(6,.bptr 0 0 0),(7,Bo okg)],loc:=[[I m,x]],M:=[] } fun ex st=>ex=.ret/\∃ B,st={ T:=[(2,SB (Qgh w t))],loc:=B,M:=[] }:=by
 have hS:=Qfh w;rw [Qgh,if_neg hw,if_neg hw2];simp only [Kaf,Kaw,Kcf,not_or] at hw hw2;rw [Kbf hw.1,Kbf hw.2.1,Kbf hw.2.2.1,Kbf hw.2.2.2.1,Kbf hw.2.2.2.2,Kbf hw2.1,Kbf hw2.2.1,Kbf hw2.2.2.1,Kbf hw2.2.2.2] at hS;obtain ⟨s0,s1,s2,s3,s4,s5,s6,s7,s8⟩:=hS;simp only [Qnc,Qc6,Qfm];have Hq:=cj9 s0 s1 s2 s3 s4 s5 s6 s7 s8;repeat refine go1 ?_
 exact ⟨rfl,_,rfl⟩
end Go.Idl
namespace Go.Idl
open Go
theorem Qqm (l:List UInt8):(Qix 32 l=none/\Qck 32 l=[l]) \/ ∃ w t,Qix 32 l=some (w,t)/\Qck 32 l=w::Qck 32 t:=by
 cases hc:Qix 32 l with
 | none=>exact .inl ⟨rfl,(Qen hc).2.1⟩
 | some p =>
   obtain ⟨w,t⟩:=p;exact .inr ⟨w,t,rfl,(Qcp hc).2.1⟩
set_option maxHeartbeats 1000000 in
theorem Jc9 (l:List UInt8) (hl:l.length<=1500000):Ev tb Jjq [] [SB l] [] ⟨SB (Qpc l),[],[],[]⟩:=by
 have e1:=Qaa (Qzg l hl);by_cases h2:∃ w t,Qck 32 l=[w,t]
 . obtain ⟨w,t,hs⟩:=h2;have hd:Qpc l=Qgh w t/\t.length<=l.length:=by
    rcases Qqm l with ⟨h1,h2⟩ | ⟨w',t',h1,h2⟩
    . rw [hs] at h2;cases h2
    . rw [hs] at h2;simp only [Ket] at h2;obtain ⟨rfl,h3⟩:=h2;rcases Qqm t' with ⟨k1,k2⟩ | ⟨w2,t2,k1,k2⟩
      . rw [k2] at h3;simp only [Ket,and_true] at h3;subst h3;obtain ⟨-,-,-,h4⟩:=Qcp h1;refine ⟨by rw [Qpc,h1];simp only;rw [k1];rfl,by rw [h4];simp;omega⟩
      . rw [k2] at h3;simp only [Ket] at h3;exact absurd h3.2.symm (Jfk 32 t2)
   rw [hd.1];rw [hs,show strsB [w,t]=[[SB w],[SB t]] from rfl] at e1;obtain ⟨X,e2,hX⟩:=Qkh t (by omega);have e2:=Qaa e2;obtain ⟨G,⟨gn,ges,hGs⟩,e3,hG⟩:=Qnw t (by omega);have e3:=Qaa e3;have key:∀ (m:Int) (x:IV),(∀ n es,Qc7 t=some (n,es)->m=n/\x=O2 es) ->
    wp tb Qnc { T:=[(3,.own 1 [[SB w],[SB t]]),(4,O X),(5,Bo (Qdx t).isSome),(6,.bptr 0 0 0),(7,Bo (Qc7 t).isSome)],loc:=[[I m,x]],M:=[] } fun ex st=>ex=.ret/\∃ B,st={ T:=[(2,SB (Qgh w t))],loc:=B,M:=[] }:=fun m x hx=>by
    by_cases h1:w ∈ [wG,wT,wH,wS,wR]
    . simp only [Kaf,Kaw,Kcf] at h1;rcases h1 with rfl | rfl | rfl | rfl | rfl
      . exact Jbz t X _ _ hX rfl rfl m x hx
      . exact Jb0 t X _ _ hX rfl rfl m x hx
      . exact Jb1 t X _ _ hX rfl rfl m x hx
      . exact Jb2 t X _ _ hX rfl rfl m x hx
      . exact Jb3 t X _ _ hX rfl rfl m x hx
    by_cases h2:w ∈ [wD,wC,wM,wK]
    . simp only [Kaf,Kaw,Kcf] at h2;rcases h2 with rfl | rfl | rfl | rfl
      . exact Jb4 t X _ _ hX rfl rfl m x hx
      . exact Jb5 t X _ _ hX rfl rfl m x hx
      . exact Jb6 t X _ _ hX rfl rfl m x hx
      . exact Jb7 t X _ _ hX rfl rfl m x hx
    exact Jb8 w t X _ _ m x h1 h2
   simp only [Qnc,Qc6,Qfm] at key;generalize (Qdx t).isSome=okd at *
   generalize (Qc7 t).isSome=okg at *
   rcases hGs with rfl | rfl
   . have kk:=key gn Z (fun n es h=>by have:=hG n es h;simp at this);refine jC zt336 rfl ?_;refine wr (by simp [e1,e2,e3];with_reducible rfl) ?_;refine wr (by simp [e1,e2,e3];with_reducible rfl) ?_;apply jA;refine wr (by simp [e1,e2,e3];with_reducible rfl) ?_;refine wf (by simpa [e1,e2,e3]) ?_;apply jQ;refine wr (by simp [e1,e2,e3];with_reducible rfl) ?_;refine wr (by simp [e1,e2,e3];with_reducible rfl) ?_;refine Qab kk ?_;rintro ex st ⟨rfl,B,rfl⟩;simp [Qfm]
   . have kk:=key gn (O2 ges) (fun n es h=>by have:=hG n es h;simp at this;exact ⟨this.1,by show IV.own 2 (eds ges)=_;rw [this.2]⟩);refine jC zt336 rfl ?_;refine wr (by simp [e1,e2,e3];with_reducible rfl) ?_;refine wr (by simp [e1,e2,e3];with_reducible rfl) ?_;apply jA;refine wr (by simp [e1,e2,e3];with_reducible rfl) ?_;refine wf (by simpa [e1,e2,e3]) ?_;apply jQ;refine wr (by simp [e1,e2,e3];with_reducible rfl) ?_;refine wr (by simp [e1,e2,e3];with_reducible rfl) ?_;refine Qab kk ?_;rintro ex st ⟨rfl,B,rfl⟩;simp [Qfm]
 . have hd:Qpc l=Jnf:=by
    rw [Qpc];rcases Qqm l with ⟨h1,-⟩ | ⟨w,t,h1,h3⟩
    . rw [h1]
    . rw [h1];simp only;rcases Qqm t with ⟨k1,k2⟩ | ⟨w2,t2,k1,k2⟩
      . rw [k2] at h3;exact absurd ⟨w,t,h3⟩ h2
      . rw [k1];rfl
   rw [hd];have hlen:¬ (Qck 32 l).length=2:=fun h=>by
    match hq:Qck 32 l,h with
    | [a,b],_=>exact h2 ⟨a,b,hq⟩
   have hl2:(strsB (Qck 32 l)).length=(Qck 32 l).length:=by simp [strsB]
   have hl3:¬ ((strsB (Qck 32 l)).length:Int)=2:=by omega
   have hl4:¬ (strsB (Qck 32 l)).length=2:=by omega
   generalize strsB (Qck 32 l)=S at *
   refine jC zt336 rfl ?_;have Hq:=cj3 e1 hl3 hl4;repeat refine go1 ?_
   simp [Qfm]
def Qlp (ls:List (List UInt8)):List UInt8:=(ls.map fun l=>Qpc l++[10]).flatten
theorem Jc0 (A:List (List UInt8)) (l:List UInt8):Qlp (A++[l])=Qlp A++Qpc l++[10]:=by simp [Qlp]
theorem Jdn (n:Int) (es:List (Int×Int)):(gtx n es).length<=2+3 * es.length+3:=by
 have:=Qpg es;rw [gtx];simp;omega
theorem Jku (w:List UInt8) {d:List Int} (hv:Qbb d=true):(Jcg w d).length<=1000:=by
 have hy:∀ b,(Qj3 b).length<=1000:=fun b=>by cases b <;> simp [Qj3]
 rw [Jcg]
 (repeat' split) <;> first | exact hy _ | (rename_i es hr;obtain ⟨k1,-⟩:=(Qvb d hv).2 es hr;have:=Qev k1;have:=Jdn d.length (Qfl es);omega) | simp
theorem Jkv (w:List UInt8) {n:Nat} {es:List (Int×Int)} (hv:Qak n es=true):(Jkg w n es).length<=1000:=by
 have hy:∀ b,(Qj3 b).length<=1000:=fun b=>by cases b <;> simp [Qj3]
 have h7:=(Qee.1 hv).2.2;rw [Jkg];split
 . rw [Kcu,Jk7];omega
 split
 . exact hy _
 split
 . have k1:Qak n (Qfk n es)=true:=Qpa h7 es;have:=Qev k1;have:=Jdn n (Qfk n es);omega
 split
 . simp
 split
 . rename_i l o hq;rw [Kcu,(Jr1 hq).1];omega
 . simp
theorem Qpd (l:List UInt8):(Qpc l).length<=1000:=by
 rw [Qpc];split
 . split
   . simp
   . rw [Qgh];split
     . split
       . rename_i d hp;exact Jku _ (Qcw hp)
       . simp
     split
     . split
       . rename_i n es hp;obtain ⟨hv,-⟩:=Qds hp;obtain ⟨m,rfl,h7⟩:=Qn4 hv;rw [Kax];exact Jkv _ hv
       . simp
     . simp
 . simp
theorem Qwq:∀ ls:List (List UInt8),(Qlp ls).length<=ls.length * 1001
 | []=>by simp [Qlp]
 | l::ls=>by
   have h1:=Qpd l;have h2:=Qwq ls;have e:Qlp (l::ls)=(Qpc l++[10])++Qlp ls:=rfl;have h3:([10]:List UInt8).length=1:=rfl;have h4:(l::ls).length=ls.length+1:=rfl;rw [e,Kbu,Kbu,h3,h4];omega
theorem Ql4 (ls:List (List UInt8)) (c:Bool) (h:∀ l ∈ ls,l.length<=1500000) (hl:ls.length<=20):Ev tb Qv4 [] [.lst 1 (strsB ls) c] [] ⟨SB (Qlp ls),[],[],[]⟩:=by
 have hsl:(strsB ls).length=ls.length:=by simp [strsB]
 have loop:∀ (m i:Nat),i+m=ls.length->wp tb (.loop Jqt) { T:=[(0,.lst 1 (strsB ls) c),(3,SB (Qlp (ls.take i))),(4,I i)],loc:=[],M:=[] }
  fun ex st=>ex=.exit 0/\st={ T:=[(0,.lst 1 (strsB ls) c),(3,SB (Qlp ls)),(4,I ls.length),(11,Bo false)],loc:=[],M:=[] }:=by
  intro m
  induction m with
  | zero =>
    intro i hi;have:i=ls.length:=by omega
    subst this;rw [Kdb];refine jL ?_;have Hq:=hsl;repeat refine go1 ?_
    exact ⟨rfl,rfl⟩
  | succ m ih =>
    intro i hi;have hlt:i < ls.length:=by omega
    have hlt':(i:Int) < ls.length:=by omega
    have w1:IntKind.i64.wrap ((i:Int)+1)=((i+1:Nat):Int):=Qas (by omega);have hlt2:i < (strsB ls).length:=by omega
    have g1:(strsB ls)[i]? = some [SB ls[i]]:=by simp [strsB,hlt]
    have g2:(strsB ls)[i]=[SB ls[i]]:=by simp [strsB]
    have e1:=Qaa (Jc9 ls[i] (h _ (Kao hlt)));have hn:=ih (i+1) (by omega);rw [Kau hlt,Jc0] at hn;have k1:=Qwq (ls.take i);have k2:=Qpd ls[i];rw [Kas,Nat.min_eq_left (by omega)] at k1;have a1:=Qeu (a:=Qlp (ls.take i)) (b:=Qpc ls[i]) (by omega);have a2:=Qeu (a:=Qlp (ls.take i)++Qpc ls[i]) (b:=[10]) (by simp;omega);generalize Qlp (ls.take i)++Qpc ls[i]++[10]=N2 at *
    generalize Qlp (ls.take i)++Qpc ls[i]=N1 at *
    generalize Qlp (ls.take i)=N0 at *
    generalize Qpc ls[i]=Y at *
    refine jL ?_;have Hq:=Qri hsl hlt hlt' hlt2 g1 g2 e1 a1 a2 w1;repeat refine go1 ?_
    exact hn
 have lp:=loop ls.length 0 (by omega);rw [Kcz,show Qlp []=[] from rfl,show ((0:Nat):Int)=0 from rfl] at lp;have h20:¬ ((20:Int) < ls.length):=by omega
 have h20':¬ (20 < ls.length):=by omega
 generalize Qlp ls=Y at *
 refine jC zt325 rfl ?_;have Hq:=cj3 hsl h20 h20';repeat refine go1 ?_
 refine Qab lp ?_;rintro ex st ⟨rfl,rfl⟩;show wp tb _ _ _
 repeat refine go0 ?_
 simp [Jil]
theorem Qgz (es:List (List IV)) (c:Bool) (hl:20 < es.length):Ev tb Qv4 [] [.lst 1 es c] [] ⟨.sc (.string ByteArray.empty),[],[],[]⟩:=by
 have h20:(20:Int) < es.length:=by omega
 refine jC zt325 rfl ?_;have Hq:=cj2 h20 hl;repeat refine go1 ?_
 simp [Jil]
theorem Jf5 {g:CF->List IV->Option IV} {st:St} {Q:Ex->St->Prop} {v:IV} (h:∃ N,∀ n,N<=n->g (Qb1 tb n) (st.T.map (·.2))=some v) (q:Q .ret { st with T:=[(0,v)] }):wp tb (.ext g) st Q:=⟨v,h,q⟩
theorem Qoi:∀ (ls:List (List UInt8)),(∀ l ∈ ls,l.length<=1500000)->∃ N,∀ n,N<=n->Qmb Qna (Qb1 tb n) (strsB ls)=some (Qlp ls)
 | [],_=>⟨0,fun _ _=>rfl⟩
 | l::ls,h=>by
   obtain ⟨N1,h1⟩:=Qoi ls fun x hx=>h x (by simp [hx])
   obtain ⟨N2,h2⟩:=Quk l (h l (by simp));refine ⟨max N1 N2,fun n hn=>?_⟩;have e1:=h1 n (by omega);have e2:=h2 n (by omega);have hs:(⟨(Qpc l).toArray⟩:ByteArray).size<=1000000:=by
    have:=Qpd l;show (Qpc l).toArray.size<=_;rw [List.size_toArray];omega
   show (match Qb1 tb n Qna [] [SB l] [] with
    | some ⟨.sc (.string t),[],[],[]⟩=>if t.size<=1000000 then (match Qmb Qna (Qb1 tb n) (strsB ls) with
      | some x=>some (t.data.toList++10::x)
      | none=>none) else none
    | _=>none)=some (Qlp (l::ls))
   rw [e2,e1];simp only;rw [if_pos hs];simp [Qlp]
theorem Ql2 (ls:List (List UInt8)) (c:Bool) (h:∀ l ∈ ls,l.length<=1500000) (hl:ls.length<=20):Ev tb Qq1 [] [.lst 1 (strsB ls) c] [] ⟨SB (Qlp ls),[],[],[]⟩:=by
 obtain ⟨N,hN⟩:=Qoi ls h;refine jC zt195 rfl ?_;refine Jf5 (v:=SB (Qlp ls)) ⟨N,fun n hn=>?_⟩ ⟨.inr rfl,?_⟩
 . show Qa9 Qna (Qb1 tb n) [.lst 1 (strsB ls) c]=_;have hsl:(strsB ls).length=ls.length:=by simp [strsB]
   rw [Qa9,if_neg (by omega),if_pos (.inl rfl),hN n hn]
 . simp [Qd6,Jh3]
theorem Qgy (es:List (List IV)) (c:Bool) (hl:20 < es.length):Ev tb Qq1 [] [.lst 1 es c] [] ⟨.sc (.string ByteArray.empty),[],[],[]⟩:=by
 refine jC zt195 rfl ?_;refine Jf5 (v:=.sc (.string ByteArray.empty)) ⟨0,fun n hn=>?_⟩ ⟨.inr rfl,?_⟩
 . show Qa9 Qna (Qb1 tb n) [.lst 1 es c]=_;rw [Qa9,if_pos hl]
 . simp [Qd6,Jh3]
end Go.Idl
namespace Go.Idl
open Go
def Lo9 (d:List Int):Prop:=∀ x ∈ d,0<=x/\x<=9
theorem Lo9.set {d:List Int} (h:Lo9 d) {i:Nat} {x:Int} (hx:0<=x/\x<=9):Lo9 (d.set i x):=by
 intro y hy;rcases Kch hy with hy | rfl
 . exact h y hy
 . exact hx
end Go.Idl
namespace Go.Idl
open Go
@[simp] theorem Qmj:∀ (l:List (List UInt8)),Qdq (strsB l)=strsB l
  | []=>rfl
  | s::l=>by
    show [SB s]::Qdq (strsB l)=[SB s]::strsB l;rw [Qmj l]
@[simp] theorem Qik:∀ (l:List (List UInt8)),Qb7 (strsB l)=true
  | []=>rfl
  | s::l=>by
    show (Qbl [SB s] && Qb7 (strsB l))=true;rw [Qik l];rfl
end Go.Idl
namespace Go.Idl
open Go Go.ChangeShapes
theorem Jks {w:World} {x:Addr} {len cap:Nat} {ss:List ByteArray} (h1:len<=cap) (h2:len<=ss.length) (h3:∀ i,i < ss.length->w.cell? (x.add i)=some (.string (ss.getD i ByteArray.empty))) :
 ArgR w (.lst 1 ((ss.take len).map fun s=>[.sc (.string s)]) false) (.slice (some x) len cap):=by
 rcases Kdj len with h0 | h0
 . subst h0;simp only [Kcz,Kdn];exact .one (.lst0 (by simp) .nil)
 . have hx:=h3 0 (by omega);rw [show x.add 0=x from rfl] at hx;obtain ⟨b,o,sp⟩:=x;unfold World.cell? at hx;split at hx;rotate_left
   . cases hx
   rename_i C ty fr hb;simp only at hb;cases sp with
   | some _=>simp at hx
   | none =>
   have hcell:∀ i,i < ss.length->C[o+i]? = some (.string (ss.getD i ByteArray.empty)):=fun i hi=>by
    have:=h3 i hi;rw [Qb0,Qau hb] at this;exact this
   have hlen:((ss.take len).map fun s=>[IV.sc (.string s)]).length=len:=by simp;omega
   have hd:∀ (l:List ByteArray) (m:Nat),(∀ i,i < l.length->C[m+i]? = some (.string (l.getD i ByteArray.empty)))->RDs w (Jkj w) (l.map fun s=>[IV.sc (.string s)]).flatten ((C.toList.drop m).take l.length) []:=by
    intro l
    induction l with
    | nil=>intro m _;simp;exact .nil
    | cons n l ih =>
      intro m hl;have h0:=hl 0 (by simp);have hm:C.toList.drop m=.string n::C.toList.drop (m+1):=by
       rw [List.drop_eq_getElem?_toList_append];have:C.toList[m]? = some (.string n):=by simpa using h0
       rw [this];rfl
      rw [hm,Kbc,Kfg,Kbd,Kca];refine .sc rfl (ih (m+1) fun i hi=>?_);have:=hl (i+1) (by simp;omega);simpa [Kcq,Nat.add_comm 1 i] using this
   have hb':b < w.heap.size:=by
    rcases Kbw b w.heap.size with h | h
    . exact h
    . rw [Array.getElem?_eq_none h] at hb;cases hb
   have hdd:=hd (ss.take len) o (fun i hi=>by
    rw [Kas] at hi;rw [hcell i (by omega)];simp [Kad,Kbg (show i < len by omega)])
   have hll:(ss.take len).length=len:=by rw [Kas];omega
   rw [hll] at hdd;have:=RDs.lst (w:=w) (F:=Jkj w) (e:=1) (es:=(ss.take len).map fun s=>[IV.sc (.string s)]) (clip:=false) (b:=b) (o:=o) (cap:=cap) (xs:=[]) (vs:=[]) (fp:=[]) hb' hb
    (by rw [hlen,Nat.mul_one];exact hdd) (fun x hx=>by simp only [Kck] at hx;obtain ⟨n,_,rfl⟩:=hx;rfl) (by simp) (by rw [hlen];exact h1) .nil
   rw [hlen] at this;exact .one this
section
variable {H:Type} {enc:TypeId×Value->H} {P:Program} {w:World} {base:Nat} {spare:Nat->Bool} {held:Bool}
theorem strings_in {t e:TypeId} {n2:Nat} {u1:Value} {y1:DataW H×List MemPlace}
 (ht:P.underlying t=some (.slice e)) (he:P.underlying e=some .string) (hone:P.cellsOf e=1)
 (g1:DataW.trod enc P w base spare held n2 t u1.cells.toList=some y1) (hs:∃ a l c,u1=.slice a l c) :
 ∃ l:List (List UInt8),l.length < 9223372036854775808/\(∀ x ∈ l,x.length < 9223372036854775808)/\ArgR w (.lst 1 (strsB l) false) u1:=by
 have hmx:maxLen=9223372036854775807:=by decide
 obtain ⟨a,l,c,rfl⟩:=hs;rcases open_strings ht he hone g1 with ⟨hcs,-⟩ | ⟨a,len,cap,ss,hcs,-,hl,hm,hz,-,hcell,hws⟩
 . simp [Value.cells] at hcs;obtain ⟨rfl,rfl,rfl⟩:=hcs;exact ⟨[],by simp,by simp,.one (.lst0 (by simp [strsB]) .nil)⟩
 . simp [Value.cells] at hcs;obtain ⟨rfl,rfl,rfl⟩:=hcs;have h2:l<=ss.length:=by rw [hz];split <;> omega
   refine ⟨(ss.take l).map fun s=>s.data.toList,by simp;omega,fun x hx=>?_,?_⟩
   . simp only [Kck] at hx;obtain ⟨s,hs,rfl⟩:=hx;have:=hws s (Kbv hs);have e:s.size=s.data.toList.length:=by show s.data.size=_;exact Keq.symm
     omega
   . have:=Jks hl h2 hcell;rw [strsB,List.map_map];exact this
end
def szB:Int->List (List UInt8)->Int
 | z,[]=>z
 | z,l::r=>if z - l.length < 0 then -1 else szB (z - l.length) r
theorem Jpz:∀ {ls:List (List UInt8)} {z:Int},0<=z->szB z ls=-1 \/ (0<=szB z ls/\∀ l ∈ ls,(l.length:Int)<=z)
 | [],z,h=>.inr ⟨h,by simp⟩
 | l::r,z,h=>by
   rw [szB];split
   . exact .inl rfl
   . rename_i h2;rcases Jpz (ls:=r) (z:=z - l.length) (by omega) with h3 | ⟨h3,h4⟩
     . exact .inl h3
     . refine .inr ⟨h3,fun x hx=>?_⟩;rcases Kaf.1 hx with rfl | hx
       . omega
       . have:=h4 x hx;omega
theorem Jty (a:List (List UInt8)) (c:Bool) (hl:a.length<=2000000) (hb:∀ l ∈ a,l.length < 9223372036854775808):∀ (m i:Nat) (z:Int),i+m=a.length->0<=z->z<=2000000 ->
 wp tb (.loop Jgr) { T:=[(0,.lst 1 (strsB a) c),(1,I z),(5,I i)],loc:=[],M:=[] }
  (fun ex st=>(ex=.exit 0/\0<=szB z (a.drop i)/\st={ T:=[(0,.lst 1 (strsB a) c),(1,I (szB z (a.drop i))),(5,I a.length),(15,Bo false)],loc:=[],M:=[] }) \/
    (ex=.ret/\szB z (a.drop i)=-1/\st={ T:=[(4,I (-1))],loc:=[],M:=[] })):=by
 have hsl:(strsB a).length=a.length:=by simp [strsB]
 intro m
 induction m with
 | zero =>
   intro i z hi hz hz2;have h3:i=a.length:=hi;subst h3;have hd:szB z (a.drop a.length)=z:=by rw [List.drop_length];rfl
   rw [hd];refine jL ?_;have Hq:=hsl;repeat refine go1 ?_
   exact .inl ⟨rfl,hz,rfl⟩
 | succ m ih =>
   intro i z hi hz hz2;have hlt:i < a.length:=by omega
   have hlt':(i:Int) < a.length:=by omega
   have hlt2:i < (strsB a).length:=by omega
   have w1:IntKind.i64.wrap ((i:Int)+1)=((i+1:Nat):Int):=Qas (by omega);have g1:(strsB a)[i]? = some [SB a[i]]:=by simp [strsB,hlt]
   have g2:(strsB a)[i]=[SB a[i]]:=by simp [strsB]
   have hd:szB z (a.drop i)=if z - (a[i].length:Int) < 0 then -1 else szB (z - (a[i].length:Int)) (a.drop (i+1)):=by
    rw [Kay hlt,szB]
   have hbi:=hb _ (Kao hlt);generalize a[i]=X at *
   have hs:(⟨X.toArray⟩:ByteArray).size=X.length:=rfl;have w2:IntKind.i64.wrap (z - (X.length:Int))=z - (X.length:Int):=Qac (by omega) (by omega);rw [hd];by_cases hn:z - (X.length:Int) < 0
   . rw [if_pos hn];refine jL ?_;have Hq:=Qri hsl hlt hlt' hlt2 g1 g2 hs w1 w2 hn;repeat refine go1 ?_
     exact .inr ⟨rfl,rfl,rfl⟩
   . rw [if_neg hn];have h:=ih (i+1) (z - (X.length:Int)) (by omega) (by omega) (by omega);refine jL ?_;have Hq:=Qri hsl hlt hlt' hlt2 g1 g2 hs w1 w2 hn;repeat refine go1 ?_
     exact h
theorem Qr4 (a:List (List UInt8)) (c:Bool) (hl:a.length < 9223372036854775808) (hb:∀ l ∈ a,l.length < 9223372036854775808) :
 Ev tb Jjh [] [.lst 1 (strsB a) c,I 1048576] [] ⟨I (if (1048576:Int) - (a.length:Int) < 0 then -1 else szB (1048576 - (a.length:Int)) a),[],[],[]⟩:=by
 have hsl:(strsB a).length=a.length:=by simp [strsB]
 have w2:IntKind.i64.wrap (1048576 - (a.length:Int))=1048576 - (a.length:Int):=Qac (by omega) (by omega);by_cases hn:(1048576:Int) - (a.length:Int) < 0
 . rw [if_pos hn];refine jC zt246 rfl ?_;have Hq:=cj3 hsl w2 hn;repeat refine go1 ?_
   simp [Jak]
 . rw [if_neg hn];have hlo:=Jty a c (by omega) hb a.length 0 (1048576 - (a.length:Int)) (by omega) (by omega) (by omega);rw [show ((0:Nat):Int)=0 from rfl,Kcb] at hlo;refine jC zt246 rfl ?_;have Hq:=cj3 hsl w2 hn;repeat refine go1 ?_
   refine Qab hlo ?_;rintro ex st (⟨rfl,h,rfl⟩ | ⟨rfl,h,rfl⟩)
   . try simp only [if_true]
     repeat refine go0 ?_
     simp [Jak]
   . simp [Jak,h]
theorem Jfv (a:List (List UInt8)) (c:Bool) (hl:a.length<=2000000):∀ (m i:Nat) (A:List (List UInt8)),i+m=a.length->A.length=a.length->A.take i=a.take i ->
 wp tb (.loop Jqi) { T:=[(0,.lst 1 (strsB a) c),(3,.own 1 (strsB A)),(4,I i)],loc:=[],M:=[] }
  (fun ex st=>ex=.exit 0/\st={ T:=[(0,.lst 1 (strsB a) c),(3,.own 1 (strsB a)),(4,I a.length),(11,Bo false)],loc:=[],M:=[] }):=by
 have hsl:(strsB a).length=a.length:=by simp [strsB]
 intro m
 induction m with
 | zero =>
   intro i A hi hA ht;have h3:i=a.length:=hi;subst h3;rw [Kae (by omega),Kae (by omega)] at ht;rw [ht];refine jL ?_;have Hq:=hsl;repeat refine go1 ?_
   exact ⟨rfl,rfl⟩
 | succ m ih =>
   intro i A hi hA ht;have hlt:i < a.length:=by omega
   have hlt':(i:Int) < a.length:=by omega
   have hlt2:i < (strsB a).length:=by omega
   have hAl:(strsB A).length=a.length:=by simp [strsB,hA]
   have hlt3:i < (strsB A).length:=by omega
   have hlt4:i < A.length:=by omega
   have w1:IntKind.i64.wrap ((i:Int)+1)=((i+1:Nat):Int):=Qas (by omega);have g1:(strsB a)[i]? = some [SB a[i]]:=by simp [strsB,hlt]
   have g2:(strsB a)[i]=[SB a[i]]:=by simp [strsB]
   have g3:(strsB A)[i]? = some [SB A[i]]:=by simp [strsB,hlt4]
   have g4:(strsB A)[i]=[SB A[i]]:=by simp [strsB]
   have s1:(strsB A).set i [SB a[i]]=strsB (A.set i a[i]):=by simp [strsB,Ker]
   have hg:=ih (i+1) (A.set i a[i]) (by omega) (by simpa using hA) (by
    rw [Kau (by simpa using hlt4),Kau hlt,List.take_set_of_le (Kam _),ht];simp)
   rw [<- s1] at hg;generalize A[i]=Y at *
   generalize a[i]=X at *
   generalize strsB A=S at *
   generalize strsB a=R at *
   refine jL ?_;have Hq:=cj9 hsl hlt hlt' hlt2 hAl hlt3 g1 g2 (cj3 g3 g4 w1);repeat refine go1 ?_
   exact hg
theorem Qr5 (a:List (List UInt8)) (c:Bool) (hl:a.length<=2000000):Ev tb Qv2 [] [.lst 1 (strsB a) c] [] ⟨.own 1 (strsB a),[],[],[]⟩:=by
 have hsl:(strsB a).length=a.length:=by simp [strsB]
 have hlo:=Jfv a c hl a.length 0 (List.replicate a.length []) (by omega) (by simp) (by simp);rw [show ((0:Nat):Int)=0 from rfl] at hlo;have hr:strsB (List.replicate a.length [])=List.replicate a.length [IV.sc (.string ByteArray.empty)]:=by rw [strsB,List.map_replicate];rfl
 rw [hr] at hlo;have hl2:a.length<=274877906944:=by omega
 refine jC zt249 rfl ?_;have Hq:=cj2 hsl hl2;repeat refine go1 ?_
 refine Qab hlo ?_;rintro ex st ⟨rfl,rfl⟩
 try simp only [if_true]
 repeat refine go0 ?_
 simp [Jn7]
theorem Jc1 (a:List (List UInt8)) (c d:Bool) (hl:a.length<=2000000):∀ (m i:Nat),i+m=a.length ->
 wp tb (.loop Jqh) { T:=[(0,.lst 1 (strsB a) c),(1,.lst 1 (strsB a) d),(5,I i)],loc:=[],M:=[] }
  (fun ex st=>ex=.exit 0/\st={ T:=[(0,.lst 1 (strsB a) c),(1,.lst 1 (strsB a) d),(5,I a.length),(14,Bo false)],loc:=[],M:=[] }):=by
 have hsl:(strsB a).length=a.length:=by simp [strsB]
 intro m
 induction m with
 | zero =>
   intro i hi;have h3:i=a.length:=hi;subst h3;refine jL ?_;have Hq:=hsl;repeat refine go1 ?_
   exact ⟨rfl,rfl⟩
 | succ m ih =>
   intro i hi;have hlt:i < a.length:=by omega
   have hlt':(i:Int) < a.length:=by omega
   have hlt2:i < (strsB a).length:=by omega
   have w1:IntKind.i64.wrap ((i:Int)+1)=((i+1:Nat):Int):=Qas (by omega);have g1:(strsB a)[i]? = some [SB a[i]]:=by simp [strsB,hlt]
   have g2:(strsB a)[i]=[SB a[i]]:=by simp [strsB]
   have hg:=ih (i+1) (by omega);generalize a[i]=X at *
   have n1:Op.stringOp .neq (⟨X.toArray⟩:ByteArray) ⟨X.toArray⟩=Sem.pure (.bool false):=by rw [Jfj];simp
   generalize strsB a=R at *
   refine jL ?_;have Hq:=cj8 hsl hlt hlt' hlt2 g1 g2 w1 n1;repeat refine go1 ?_
   exact hg
theorem Qrz (a:List (List UInt8)) (c d:Bool) (hl:a.length<=2000000):Ev tb Jjg [] [.lst 1 (strsB a) c,.lst 1 (strsB a) d] [] ⟨Bo true,[],[],[]⟩:=by
 have hsl:(strsB a).length=a.length:=by simp [strsB]
 have hlo:=Jc1 a c d hl a.length 0 (by omega);rw [show ((0:Nat):Int)=0 from rfl] at hlo;refine jC zt234 rfl ?_;have Hq:=hsl;repeat refine go1 ?_
 refine Qab hlo ?_;rintro ex st ⟨rfl,rfl⟩
 try simp only [if_true]
 repeat refine go0 ?_
 simp [Jn6]
theorem ev_FnExactRunDesk (a:List (List UInt8)) (c:Bool) (hl:a.length < 9223372036854775808) (hb:∀ l ∈ a,l.length < 9223372036854775808) :
 Ev tb Jo2 [] [.lst 1 (strsB a) c] [] ⟨Bo true,[],[],[]⟩:=by
 have hsl:(strsB a).length=a.length:=by simp [strsB]
 have e1:=Qaa (Qr4 a c hl hb);have hz:(if (1048576:Int) - (a.length:Int) < 0 then -1 else szB (1048576 - (a.length:Int)) a)=-1 \/
  (0<=(if (1048576:Int) - (a.length:Int) < 0 then -1 else szB (1048576 - (a.length:Int)) a)/\a.length<=1048576/\∀ l ∈ a,l.length<=1500000):=by
  split
  . exact .inl rfl
  . rename_i h;rcases Jpz (ls:=a) (z:=1048576 - (a.length:Int)) (by omega) with h2 | ⟨h2,h3⟩
    . exact .inl h2
    . exact .inr ⟨h2,by omega,fun l hm=>by have:=h3 l hm;omega⟩
 generalize (if (1048576:Int) - (a.length:Int) < 0 then -1 else szB (1048576 - (a.length:Int)) a)=z at *
 rcases hz with rfl | ⟨hz,hl2,hb2⟩
 . refine jC zt427 rfl ?_;have Hq:=e1;repeat refine go1 ?_
   simp [Jit]
 . have hz':¬ z < 0:=by omega
   have e2:=fun c=>Qaa (Qr5 a c (by omega));have e3:=fun c d=>Qaa (Qrz a c d (by omega));obtain ⟨X,e4,e5⟩:∃ X:ByteArray,(∀ c,Qbq tb Qv4 [] [.lst 1 (strsB a) c] []=some ⟨.sc (.string X),[],[],[]⟩)/\(∀ c,Qbq tb Qq1 [] [.lst 1 (strsB a) c] []=some ⟨.sc (.string X),[],[],[]⟩):=by
    by_cases h20:a.length<=20
    . exact ⟨⟨(Qlp a).toArray⟩,fun c=>Qaa (Ql4 a c hb2 h20),fun c=>Qaa (Ql2 a c hb2 h20)⟩
    . exact ⟨ByteArray.empty,fun c=>Qaa (Qgz (strsB a) c (by omega)),fun c=>Qaa (Qgy (strsB a) c (by omega))⟩
   have htk:(strsB a).take a.length=strsB a:=Kae (by omega);have hf:Qdq (strsB a)=strsB a:=Qmj a;have hno:Qb7 (strsB a)=true:=Qik a;generalize strsB a=R at *
   refine jC zt427 rfl ?_;have n1:Op.stringOp .neq X X=Sem.pure (.bool false):=by rw [Jfj];simp
   have Hq:=Qtv e1 hz' hsl htk e2 e3 e4 e5 n1 hf hno;repeat refine go1 ?_
   simp [Jit]
end Go.Idl
