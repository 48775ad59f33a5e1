/- Part 8 of a proof by an ideal interpreter of the code: its definitions and lemmas. Conditions: none. -/
import Derived.KernelRfl
import Derived.Test.YtgcdgdmpdbhdhaaGreatA7
set_option linter.all false
set_option linter.unusedVariables false
set_option linter.unusedSimpArgs false
namespace Go.Idl
def Qk1 (left:List Int) (a b:Int):Prop:=left.getD b.toNat 0 < left.getD a.toNat 0 ∨ (left.getD a.toNat 0=left.getD b.toNat 0∧a < b)
theorem Qh7 {left:List Int} {a b c:Int} (h:Qk1 left a b) (k:Qk1 left b c):Qk1 left a c:=by
 simp only [Qk1] at *;omega
theorem Qmw {left:List Int} {a:Int} (h:Qk1 left a a):False:=by
 simp only [Qk1] at h;omega
theorem Qse {left:List Int} {x:Int}:∀ (r B:List Int),(r.reverse++B).Pairwise (Qk1 left)→(∀ y ∈ r,y < x)→(∀ b ∈ B,left.getD b.toNat 0 < left.getD x.toNat 0)→(Qk4 (gtD left) x r B).Pairwise (Qk1 left)
 | [],B,h,_,hb=>List.pairwise_cons.2 ⟨fun b hb'=>.inl (hb b hb'),by simpa using h⟩
 | a::r,B,h,hr,hb=>by
   rw [List.reverse_cons,List.append_assoc] at h
   unfold Qk4
   split
   · rename_i hx
     refine Qse r (a::B) h (fun y hy=>hr y (by simp [hy])) fun b hb'=>?_
     rcases List.mem_cons.1 hb' with rfl | hb'
     · simpa [gtD] using hx
     · exact hb b hb'
   · rename_i hx
     have hx:left.getD x.toNat 0≤left.getD a.toNat 0:=by
      simp only [gtD,decide_eq_true_eq] at hx;omega
     have hax:Qk1 left a x:=by
      have:=hr a (by simp)
      simp only [Qk1];omega
     obtain ⟨h1,h2,h3⟩:=List.pairwise_append.1 (show (r.reverse++a::B).Pairwise (Qk1 left) from h)
     have h2:=List.pairwise_cons.1 h2
     refine List.pairwise_append.2 ⟨h1,?_,fun p hp q hq=>?_⟩
     · refine List.pairwise_cons.2 ⟨fun q hq=>?_,List.pairwise_cons.2 ⟨fun b hb'=>.inl (hb b hb'),h2.2⟩⟩
       rcases List.mem_cons.1 hq with rfl | hq
       · exact hax
       · exact h2.1 q hq
     · have h4:=h3 p hp a (by simp)
       rcases List.mem_cons.1 hq with rfl | hq
       · exact h4
       · rcases List.mem_cons.1 hq with rfl | hq
         · exact Qh7 h4 hax
         · exact h3 p hp q (by simp [hq])
theorem Qf4 {left:List Int}:∀ (T S:List Int),S.Pairwise (Qk1 left)→(∀ y ∈ S,∀ x ∈ T,y < x)→T.Pairwise (fun a b:Int=>a < b)→(Qd0 (gtD left) S T).Pairwise (Qk1 left)
 | [],S,h,_,_=>h
 | x::r,S,h,hs,ht=>by
   have ht':=List.pairwise_cons.1 ht
   rw [Qd0]
   refine Qf4 r _ (Qse _ _ (by simpa using h) (fun y hy=>hs y (by simpa using hy) x (by simp)) (by simp)) (fun y hy z hz=>?_) ht'.2
   have:=(Qdy (gtD left) x S.reverse []).mem_iff.1 hy
   simp only [List.reverse_reverse,List.mem_append,List.mem_cons,List.not_mem_nil,or_false] at this
   rcases this with h1 | rfl
   · exact hs y h1 z (by simp [hz])
   · exact ht'.1 z hz
theorem Ql9 (P:Nat→Bool) (left:List Int):∀ (k q:Nat),fmx P left k=(q:Int)→∀ i,i < k→P i=true→i=q ∨ Qk1 left q i
 | 0,q,h,i,hi,_=>by omega
 | k+1,q,h,i,hi,hp=>by
   rw [fmx] at h
   split at h
   · rename_i hc
     have hkq:k=q:=by omega
     subst hkq
     by_cases hik:i=k
     · exact .inl hik
     · right
       simp only [Qba,Bool.or_eq_true,decide_eq_true_eq] at hc
       rcases hc.2 with hc2 | hc2
       · rcases Qee P left k with h1 | ⟨q1,_,h1,_⟩
         · have:=Qmg P left k h1 i (by omega)
           rw [hp] at this;cases this
         · rw [h1] at hc2;omega
       · rcases Qee P left k with h1 | ⟨q1,_,h1,_⟩
         · have:=Qmg P left k h1 i (by omega)
           rw [hp] at this;cases this
         · rw [h1,Int.toNat_natCast] at hc2
           rcases Ql9 P left k q1 h1 i (by omega) hp with rfl | h2
           · left;simpa using hc2
           · simp only [Qk1,Int.toNat_natCast] at h2 ⊢
             omega
   · rename_i hc
     by_cases hik:i=k
     · subst hik
       right
       simp only [hp,Bool.true_and,Bool.or_eq_true,decide_eq_true_eq,not_or] at hc
       rw [h,Int.toNat_natCast] at hc
       have hqi:q < i:=by
        rcases Qee P left i with h1 | ⟨q1,h2,h1,_⟩
        · rw [h1] at h;omega
        · rw [h1] at h;omega
       simp only [Qk1,Int.toNat_natCast]
       omega
     · exact Ql9 P left k q h i (by omega) hp
theorem Qtg {P:Nat→Bool} {left:List Int} {n:Nat} {i:Int} {r:List Int} (hpw:(i::r).Pairwise (Qk1 left)) (hin:∀ x ∈ i::r,0≤x∧x < n) (hP:∀ w:Nat,w < n→(P w=true ↔ (w:Int) ∈ i::r)):fmx P left n=i:=by
 have hi:=hin i (by simp)
 obtain ⟨p,rfl⟩:=Int.eq_ofNat_of_zero_le hi.1
 have hp:P p=true:=(hP p (by omega)).2 (by simp)
 rcases Qee P left n with h | ⟨q,hq,h,hPq⟩
 · have:=Qmg P left n h p (by omega)
   rw [hp] at this;cases this
 · rw [h]
   have hm:=(hP q hq).1 hPq
   rcases List.mem_cons.1 hm with h1 | h1
   · exact h1
   · have h2:=(List.pairwise_cons.1 hpw).1 _ h1
     rcases Ql9 P left n q h p (by omega) hp with h3 | h3
     · rw [h3]
     · exact absurd (Qh7 h2 h3) Qmw
theorem Jb9 {P:Nat→Bool} {left:List Int} {n:Nat} (hP:∀ w:Nat,w < n→P w=false):fmx P left n=-1:=by
 rcases Qee P left n with h | ⟨q,hq,h,hPq⟩
 · exact h
 · rw [hP q hq] at hPq;cases hPq
theorem Qw9 {e:Int×Int}:∀ {es:List (Int×Int)},PW es→e ∉ es→PW (Qk5 e es)
 | [],_,_=>by simp [Qk5,PW]
 | x::r,h,hn=>by
   have h':=List.pairwise_cons.1 h
   rw [Qk5]
   split
   · rename_i hx
     refine List.pairwise_cons.2 ⟨fun y hy=>?_,Qw9 h'.2 fun hm=>hn (by simp [hm])⟩
     rcases (Qn1 _ _ _).1 hy with rfl | hy
     · exact hx
     · exact h'.1 y hy
   · rename_i hx
     have hxe:Qam e x=true:=by
      rcases Qce (a:=e) (b:=x) (fun h=>hn (by simp [h])) with q | q
      · exact q
      · exact absurd q hx
     refine List.pairwise_cons.2 ⟨fun y hy=>?_,h⟩
     rcases List.mem_cons.1 hy with rfl | hy
     · exact hxe
     · exact Qdt hxe (h'.1 y hy)
theorem Qwg {e:Int×Int} {es:List (Int×Int)} (hn:es.Nodup) (he:e ∉ es):Qk5 e (Qgm es)=Qgm (es++[e]):=by
 have hn2:(es++[e]).Nodup:=List.nodup_append.2 ⟨hn,by simp,fun a ha b hb=>by simp at hb;subst hb;exact fun h=>he (h ▸ ha)⟩
 refine Jaj (Qw9 (Qki hn) fun h=>he ((Qbv es).mem_iff.1 h)) (Qki hn2) fun x=>?_
 rw [Qn1,(Qbv es).mem_iff,(Qbv _).mem_iff]
 simp [or_comm]
end Go.Idl
namespace Go.Idl
theorem Qr5 (es:List (Int×Int)) (a b:Int):has (Qgm es) a b=has es a b:=by
 rw [has,has];exact (Qbv es).any_eq
theorem Qx0 {v i a b:Int}:isE a b (min v i,max v i)=true ↔ (a=v∧b=i) ∨ (a=i∧b=v):=by
 simp only [isE,Bool.or_eq_true,Qba,decide_eq_true_eq]
 omega
theorem Qx6 (es fs:List (Int×Int)) (a b:Int):has (es++fs) a b=(has es a b || has fs a b):=by simp [has]
theorem Jgc {es:List (Int×Int)} {v i:Int} (h:has es v i=false):(min v i,max v i) ∉ es:=fun hm=>by
 rw [has,List.any_eq_false] at h
 exact h _ hm (Qx0.2 (.inl ⟨rfl,rfl⟩))
theorem Qf0 {o:List Int} {i x:Int} (hi:0≤i) (hx:0≤x) (hl:x < o.length):(Qf6 o i.toNat).getD x.toNat 0=o.getD x.toNat 0 - (if x=i then 1 else 0):=by
 rw [Jbt (by omega)]
 by_cases h:x=i
 · subst h;simp
 · rw [if_neg h,if_neg (by omega)]
theorem iteQ {p q:Prop} [Decidable p] [Decidable q] (h:p ↔ q):(if p then (1:Int) else 0)=if q then 1 else 0:=by
 by_cases hp:p
 · rw [if_pos hp,if_pos (h.1 hp)]
 · rw [if_neg hp,if_neg fun k=>hp (h.2 k)]
theorem Jga {v:Int} {n:Nat} {done:List Int} (hv:0≤v∧v < n):∀ (k:Nat) (rest left:List Int) (es:List (Int×Int)),left.length=n→rest.Pairwise (Qk1 left)→(∀ x ∈ rest,0≤x∧x < n)→(∀ x ∈ left,0≤x)→es.Nodup →
 (∀ w:Nat,w < n→(((w:Int) ∉ done∧has es v w=false) ↔ (w:Int) ∈ rest)) →
 Jnq v n done k left (Qgm es)=if k≤rest.length then (Qks v (rest.take k) left es).map (fun q=>(q.1,Qgm q.2)) else none
 | 0,rest,left,es,_,_,_,_,_,_=>by simp [Jnq,Qks]
 | k+1,[],left,es,_,_,_,_,_,hc=>by
   rw [Jnq]
   have:fmx (fun i=>!decide ((i:Int) ∈ done) && !has (Qgm es) v i) left n=-1:=Jb9 fun w hw=>by
    have:¬ ((w:Int) ∉ done∧has es v w=false):=fun h=>by have:=(hc w hw).1 h;cases this
    rw [Qr5]
    cases h1:has es v w <;> simp [h1] at this ⊢
    exact this
   simp [this]
 | k+1,i::r,left,es,hl,hp,hr,hb,hn,hc=>by
   rw [Jnq]
   have hi:=hr i (by simp)
   have hm:fmx (fun i=>!decide ((i:Int) ∈ done) && !has (Qgm es) v i) left n=i:=Qtg hp hr fun w hw=>by
    rw [Qr5,← hc w hw]
    simp
   simp only [hm]
   have hi0:¬ i < 0:=by omega
   have hil:i.toNat < left.length:=by omega
   have g:left.getD i.toNat 0=left[i.toNat]:=by simp [List.getD_eq_getElem?_getD,List.getElem?_eq_getElem hil]
   have g0:0≤left.getD i.toNat 0:=by rw [g];exact hb _ (List.getElem_mem _)
   rw [List.length_cons,List.take_succ_cons,Qks]
   by_cases hz:left.getD i.toNat 0=0
   · rw [if_pos (.inr (by omega)),if_pos hz];simp
   · rw [if_neg (by omega),if_neg hz]
     have hhas:has es v i=false:=by
      have:=(hc i.toNat (by omega)).2 (by rw [Int.toNat_of_nonneg hi.1];simp)
      rw [Int.toNat_of_nonneg hi.1] at this
      exact this.2
     have hne:=Jgc hhas
     rw [Qwg hn hne]
     have hp':=List.pairwise_cons.1 hp
     have hri:∀ x ∈ r,x ≠ i:=fun x hx h=>by have:=hp'.1 x hx;rw [h] at this;exact Qmw this
     have ih:=Jga hv k r (Qf6 left i.toNat) (es++[(min v i,max v i)]) (by simp [Qf6,hl]) ?_ (fun x hx=>hr x (by simp [hx])) ?_ ?_ ?_ (done:=done)
     · rw [ih]
       simp only [Nat.succ_le_succ_iff,Nat.add_le_add_iff_right]
     · refine hp'.2.imp_of_mem fun {a b} ha hb' hab=>?_
       have h1:=hr a (by simp [ha])
       have h2:=hr b (by simp [hb'])
       rw [Qk1,Qf0 hi.1 h1.1 (by omega),Qf0 hi.1 h2.1 (by omega),if_neg (hri a ha),if_neg (hri b hb')]
       simpa [Qk1] using hab
     · intro x hx
       rcases List.mem_or_eq_of_mem_set hx with hx | rfl
       · exact hb x hx
       · omega
     · exact List.nodup_append.2 ⟨hn,by simp,fun a ha b hb=>by simp at hb;subst hb;exact fun h=>hne (h ▸ ha)⟩
     · intro w hw
       have h1:=hc w hw
       have h2:has [(min v i,max v i)] v w=true ↔ (w:Int)=i:=by
        rw [has,List.any_cons,List.any_nil,Bool.or_false,Qx0];omega
       rw [Qx6]
       have h3:(w:Int) ∈ r ↔ (w:Int) ∈ i::r∧(w:Int) ≠ i:=by
        constructor
        · exact fun h=>⟨by simp [h],hri _ h⟩
        · rintro ⟨h,h'⟩
          rcases List.mem_cons.1 h with h | h
          · exact absurd h h'
          · exact h
       rw [h3,← h1]
       cases h4:has [(min v i,max v i)] v w
       · have:¬ (w:Int)=i:=fun h=>by rw [h2.2 h] at h4;cases h4
         simp [this]
       · simp [h2.1 h4]
termination_by k=>k
theorem Qyp (n:Nat):∀ (m:Nat) (left todo done:List Int) (es:List (Int×Int)),left.length=n→(∀ x ∈ left,0≤x∧x≤1000)→todo.length=m→todo.Pairwise (fun a b:Int=>a < b)→(∀ x ∈ todo,0≤x∧x < n) →
 (∀ w:Nat,w < n→((w:Int) ∉ done ↔ (w:Int) ∈ todo))→es.Nodup→(∀ a ∈ todo,∀ b ∈ todo,has es a b=false) →
 Jc3 n m left done (Qgm es)=(Qhi m left todo es).map Qgm
 | 0,left,todo,done,es,_,_,_,_,_,_,_,_=>rfl
 | m+1,left,todo,done,es,hl,hb,htl,htp,htb,hd,hn,hh=>by
   rw [Jc3,Qhi]
   have hperm:=Qbf (gtD left) todo []
   cases hs:Qd0 (gtD left) [] todo with
   | nil=>rw [hs] at hperm;have:=hperm.length_eq;simp at this;omega
   | cons v r =>
     rw [hs,List.nil_append] at hperm
     have hlex:=Qf4 (left:=left) todo [] .nil (by simp) htp
     rw [hs] at hlex
     have hv:v ∈ todo:=hperm.mem_iff.1 (by simp)
     have hvb:=htb v hv
     have hmx:fmx (fun i=>!decide ((i:Int) ∈ done)) left n=v:=Qtg hlex (fun x hx=>htb x (hperm.mem_iff.1 hx)) fun w hw=>by
      rw [hperm.mem_iff,← hd w hw];simp
     simp only [hmx]
     obtain ⟨t2,ht2⟩:∃ t2,t2=todo.filter fun x=>!decide (x=v):=⟨_,rfl⟩
     rw [← ht2]
     have hm2:∀ x,x ∈ t2 ↔ x ∈ todo∧x ≠ v:=fun x=>by rw [ht2,List.mem_filter];simp
     have ht2p:t2.Pairwise (fun a b:Int=>a < b):=by rw [ht2];exact htp.filter _
     have ht2l:t2.length=m:=by
      have h1:=Qgj (fun x=>decide (x=v)) todo
      have h2:(todo.filter fun x=>decide (x=v)).length=1:=by
       have hnd:todo.Nodup:=htp.imp fun h=>by omega
       have:=List.nodup_iff_count.1 hnd v
       have h3:=List.count_pos_iff.2 hv
       rw [← List.countP_eq_length_filter]
       have h4:todo.countP (fun x=>decide (x=v))=todo.count v:=by
        rw [List.count];exact List.countP_congr fun x _=>by simp
       omega
      rw [← ht2] at h1
      omega
     have hgv:left.getD v.toNat 0=left[v.toNat]'(by omega):=by simp [List.getD_eq_getElem?_getD,List.getElem?_eq_getElem (show v.toNat < left.length by omega)]
     have hk0:0≤left.getD v.toNat 0:=by rw [hgv];exact (hb _ (List.getElem_mem _)).1
     obtain ⟨k,hk⟩:=Int.eq_ofNat_of_zero_le hk0
     have hp2:=Qbf (gtD left) t2 []
     rw [List.nil_append] at hp2
     rw [hk,Int.toNat_natCast]
     have hlay:=Jga (done:=done++[v]) hvb k (Qd0 (gtD left) [] t2) left es hl (Qf4 _ _ .nil (by simp) ht2p) (fun x hx=>htb x ((hm2 x).1 (hp2.mem_iff.1 hx)).1) (fun x hx=>(hb x hx).1) hn (fun w hw=>by
      rw [hp2.mem_iff,hm2,← hd w hw]
      constructor
      · rintro ⟨h1,_⟩
        simp only [List.mem_append,List.mem_singleton,not_or] at h1
        exact h1
      · rintro ⟨h1,h2⟩
        exact ⟨by simp [h1,h2],hh v hv _ ((hd w hw).1 h1)⟩)
     rw [hlay,hp2.length_eq,ht2l]
     by_cases hkm:k≤m
     · rw [if_pos hkm,if_neg (by omega),Qqj]
       cases hli:Qks v ((Qd0 (gtD left) [] t2).take k) left es with
       | none=>rfl
       | some q =>
         obtain ⟨left',es'⟩:=q
         obtain ⟨k1,k2,k3⟩:=Qg0 v _ _ _ _ _ hli hb
         have htm:∀ x ∈ (Qd0 (gtD left) [] t2).take k,x ∈ t2:=fun x hx=>hp2.mem_iff.1 (List.mem_of_mem_take hx)
         have htn:((Qd0 (gtD left) [] t2).take k).Nodup:=(hp2.nodup_iff.2 (ht2p.imp fun h=>by omega)).sublist (List.take_sublist _ _)
         refine Qyp n m left' t2 (done++[v]) es' (by omega) k2 ht2l ht2p (fun x hx=>htb x ((hm2 x).1 hx).1) (fun w hw=>?_) ?_ ?_
         · rw [hm2,← hd w hw];simp
         · rw [k3]
           refine List.nodup_append.2 ⟨hn,?_,?_⟩
           · rw [List.Nodup,List.pairwise_map]
             refine List.Pairwise.imp_of_mem (fun {i j} hi hj hij he=>?_) htn
             have h1:=((hm2 i).1 (htm i hi)).2
             have h2:=((hm2 j).1 (htm j hj)).2
             simp only [Qpi] at he
             omega
           · intro a ha b hb' hab
             subst hab
             obtain ⟨i,hi,rfl⟩:=List.mem_map.1 hb'
             exact Jgc (hh v hv i ((hm2 i).1 (htm i hi)).1) ha
         · intro a ha b hb'
           have h1:=(hm2 a).1 ha
           have h2:=(hm2 b).1 hb'
           rw [k3,Qx6,hh a h1.1 b h2.1,Bool.false_or,has,List.any_eq_false]
           intro e he
           obtain ⟨i,hi,rfl⟩:=List.mem_map.1 he
           rw [Qx0]
           omega
     · rw [if_neg hkm,if_pos (by omega)];rfl
theorem Qqv (n:Nat):(Qc2 n (-1)).Pairwise (fun a b:Int=>a < b):=by
 rw [Qbl,List.pairwise_map]
 exact (List.pairwise_lt_range).imp fun h=>by omega
theorem Qgy {n:Nat} {x:Int}:x ∈ Qc2 n (-1) ↔ 0≤x∧x < n:=by
 rw [Qbl,List.mem_map]
 constructor
 · rintro ⟨v,hv,rfl⟩;have:=List.mem_range.1 hv;omega
 · intro h;exact ⟨x.toNat,List.mem_range.2 (by omega),by omega⟩
theorem Jdg {d:List Int} (hb:∀ x ∈ d,0≤x∧x≤1000):Jqs d=(Qh5 d).map Qgm :=
 Qyp d.length d.length d (Qc2 d.length (-1)) [] [] rfl hb (by rw [Qbl];simp) (Qqv _) (fun x hx=>Qgy.1 hx) (fun w hw=>by rw [Qgy];simp;omega) .nil (by simp [has])
theorem Qm2 {n:Nat} (v:Int):∀ (Qcl left:List Int) (es:List (Int×Int)) (left':List Int) (es':List (Int×Int)),Qks v Qcl left es=some (left',es')→Qcl.Nodup→left.length=n→(∀ x ∈ Qcl,0≤x∧x < n) →
 ∀ x:Int,0≤x→x < n→left'.getD x.toNat 0=left.getD x.toNat 0 - (if x ∈ Qcl then 1 else 0)
 | [],left,es,left',es',h,_,_,_,x,_,_=>by
   simp only [Qks,Qoi,Qpi] at h
   rw [h.1];simp
 | i::r,left,es,left',es',h,hn,hl,hb,x,h0,h1=>by
   rw [Qks] at h
   split at h
   · cases h
   have hn':=List.nodup_cons.1 hn
   have hi:=hb i (by simp)
   rw [Qm2 v r _ _ _ _ h hn'.2 (by simp [Qf6,hl]) (fun x hx=>hb x (by simp [hx])) x h0 h1,Qf0 hi.1 h0 (by omega)]
   by_cases hx:x=i
   · subst hx;simp [hn'.1]
   · simp [hx]
theorem Qr9 (n:Nat):∀ (m:Nat) (left todo:List Int) (es es':List (Int×Int)),Qhi m left todo es=some es'→todo.Nodup→(∀ x ∈ todo,0≤x∧x < n)→left.length=n→(∀ x ∈ left,0≤x∧x≤1000)→todo.length≤m →
 ∀ new,es'=es++new→∀ u:Nat,(u:Int) ∈ todo→deg new u=left.getD u 0
 | 0,left,todo,es,es',h,_,_,_,_,hm,new,_,u,hu=>by
   rw [List.length_eq_zero_iff.1 (by omega:todo.length=0)] at hu;cases hu
 | m+1,left,todo,es,es',h,hn,hb,hl,hle,hm,new,hnew,u,hu=>by
   rw [Qhi] at h
   have hperm:=Qbf (gtD left) todo []
   cases hs:Qd0 (gtD left) [] todo with
   | nil =>
     rw [hs] at hperm
     rw [List.length_eq_zero_iff.1 (by have:=hperm.length_eq;simp at this;omega:todo.length=0)] at hu;cases hu
   | cons v r =>
     rw [hs] at h
     rw [hs,List.nil_append] at hperm
     have hv:v ∈ todo:=hperm.mem_iff.1 (by simp)
     have hvb:=hb v hv
     simp only at h
     split at h
     · cases h
     rename_i hge
     obtain ⟨t2,ht2⟩:∃ t2,t2=todo.filter fun x=>!decide (x=v):=⟨_,rfl⟩
     rw [← ht2] at h hge
     have hm2:∀ x,x ∈ t2 ↔ x ∈ todo∧x ≠ v:=fun x=>by rw [ht2,List.mem_filter];simp
     have ht2n:t2.Nodup:=by rw [ht2];exact hn.filter _
     have ht2l:t2.length≤m:=by
      have h1:=Qgj (fun x=>decide (x=v)) todo
      have h2:0 < (todo.filter fun x=>decide (x=v)).length:=List.length_pos_of_mem (List.mem_filter.2 ⟨hv,by simp⟩)
      rw [← ht2] at h1
      omega
     have hp2:=Qbf (gtD left) t2 []
     rw [List.nil_append] at hp2
     obtain ⟨Qcl,htops⟩:∃ Qcl,Qcl=Qqj left t2 (left.getD v.toNat 0).toNat:=⟨_,rfl⟩
     rw [← htops] at h
     have htm:∀ x ∈ Qcl,x ∈ t2:=fun x hx=>by rw [htops] at hx;exact hp2.mem_iff.1 (List.mem_of_mem_take hx)
     have htn:Qcl.Nodup:=by rw [htops];exact (hp2.nodup_iff.2 ht2n).sublist (List.take_sublist _ _)
     cases hli:Qks v Qcl left es with
     | none=>rw [hli] at h;cases h
     | some q =>
       obtain ⟨left',es1⟩:=q
       rw [hli] at h
       simp only at h
       obtain ⟨k1,k2,k3⟩:=Qg0 v _ _ _ _ _ hli hle
       obtain ⟨new2,q1,q2,q3⟩:=Qgi n m left' t2 es1 es' h ht2n (fun x hx=>hb x ((hm2 x).1 hx).1)
       have ih:=Qr9 n m left' t2 es1 es' h ht2n (fun x hx=>hb x ((hm2 x).1 hx).1) (by omega) k2 ht2l new2 q1
       have hnn:new=(Qcl.map fun i=>(min v i,max v i))++new2:=by
        have:es++new=es++((Qcl.map fun i=>(min v i,max v i))++new2):=by rw [← hnew,q1,k3];simp
        exact List.append_cancel_left this
       rw [hnn,deg,Jz2]
       have hvt:v ∉ Qcl:=fun h=>((hm2 v).1 (htm v h)).2 rfl
       have hinc:∀ i,i ≠ v→inc u (min v i,max v i)=(if (u:Int)=v then 1 else 0)+(if (u:Int)=i then 1 else 0):=by
        intro i hi
        simp only [inc]
        rcases Int.le_total v i with h | h
        · rw [Int.min_eq_left h,Int.max_eq_right h]
          congr 1
          · exact iteQ (by omega)
          · exact iteQ (by omega)
        · rw [Int.min_eq_right h,Int.max_eq_left h,Int.add_comm]
          congr 1
          · exact iteQ (by omega)
          · exact iteQ (by omega)
       have hsum:S (Qcl.map fun i=>(min v i,max v i)) (inc u)=(if (u:Int)=v then (Qcl.length:Int) else 0)+(if (u:Int) ∈ Qcl then 1 else 0):=by
        rw [S_map,Qdn (g:=fun i=>(if (u:Int)=v then 1 else 0)+(if (u:Int)=i then 1 else 0)) fun i hi=>hinc i fun h=>hvt (h ▸ hi),Qoy,Qw4 htn,Qim]
        split <;> simp
       rw [hsum]
       by_cases huv:(u:Int)=v
       · have:S new2 (inc u)=0:=by
          rw [← Qta new2]
          refine Qdn fun e he=>?_
          obtain ⟨_,a1,a2⟩:=q3 e he
          have b1:=((hm2 _).1 a1).2
          have b2:=((hm2 _).1 a2).2
          rw [inc,if_neg (by omega),if_neg (by omega)];rfl
         rw [this,if_pos huv,if_neg (by rw [huv];exact hvt)]
         have hkl:Qcl.length=(left.getD v.toNat 0).toNat:=by
          rw [htops,Qqj,List.length_take,hp2.length_eq];omega
         have hgv:left.getD v.toNat 0=left[v.toNat]'(by omega):=by simp [List.getD_eq_getElem?_getD,List.getElem?_eq_getElem (show v.toNat < left.length by omega)]
         have hk0:0≤left.getD v.toNat 0:=by rw [hgv];exact (hle _ (List.getElem_mem _)).1
         rw [hkl,← huv,Int.toNat_natCast] at *
         omega
       · have h1:=ih u ((hm2 _).2 ⟨hu,huv⟩)
         have h2:=Qm2 v _ _ _ _ _ hli htn hl (fun x hx=>hb x ((hm2 x).1 (htm x hx)).1) (u:Int) (by omega) (hb _ hu).2
         rw [Int.toNat_natCast] at h2
         rw [deg] at h1
         rw [h1,h2,if_neg huv]
         omega
theorem Quz {d:List Int} (h7:d.length≤7) (hb:∀ x ∈ d,0≤x∧x≤1000) {es:List (Int×Int)} (h:Qh5 d=some es):Qda d.length (Qgm es)=d:=by
 obtain ⟨k1,k2,k3,k4⟩:=Qn4 h7 h
 have h1:=Qr9 d.length _ _ _ _ _ h ((Qqv _).imp fun h=>by omega) (fun x hx=>Qgy.1 hx) rfl hb (by rw [Qbl];simp) es (by simp)
 rw [Qfb (fun e he=>by have:=Qan.1 ((Qa9.1 k4).2.1 e he);omega)]
 refine List.ext_getElem (by simp) fun i hi hj=>?_
 rw [List.getElem_map,List.getElem_range]
 have:=h1 i (Qgy.2 (by omega))
 rw [deg,Qr8 (Qbv es),← deg,this]
 simp [List.getD_eq_getElem?_getD,List.getElem?_eq_getElem hj]
end Go.Idl
namespace Go.Idl
theorem Jli:∀ d,Qcm d=true→Ji5 d:=fun d hv=>by
 have hf:=Qbw hv
 have hb:∀ x ∈ d,0≤x∧x≤1000:=fun x hx=>by have:=hf.2 x hx;omega
 exact ⟨Jdg hb,fun es h=>⟨(Qn4 hf.1 h).2.2.2,Quz hf.1 hb h⟩⟩
end Go.Idl
namespace Go.Idl
def hv:Nat→List Int→Bool
 | 0,_=>true
 | _+1,[]=>true
 | m+1,x::r=>decide (x≤r.length) && (r.take x.toNat).all (fun y=>!decide (y=0)) && hv m (fall ((r.take x.toNat).map (fun y=>y - 1)++r.drop x.toNat))
def chkH (s:List Int):Bool:=decide (hv s.length s=(decide (s.sum % 2=0) && Jki (slS s)))
set_option maxRecDepth 100000 in
theorem Jfl:(List.range 8).all (fun n=>Jzr chkH n (n - 1) [])=true:=by kernel_rfl
theorem Quk {d:List Int} (hv':Qcm d=true):hv d.length (fall d)=Qbn d:=by
 have h1:=(Qbw hv').1
 have h2:=Qoo hv'
 have hc:=List.all_eq_true.1 Jfl d.length (List.mem_range.2 (by omega))
 have h3:=Qv8 chkH d.length (d.length - 1) [] (fall d) hc (Qd8 d) (Qg7 d) (fun x hx=>by
  have:=h2 x (Qs5.1 hx)
  omega)
 simp only [List.reverse_nil,List.nil_append,chkH,decide_eq_true_eq,Qd8,Qti] at h3
 rw [h3,Qbn,hv',Je6,Bool.true_and]
 rfl
theorem Qpt {n:Nat} (v:Int):∀ (Qcl left:List Int) (es:List (Int×Int)),Qcl.Nodup→left.length=n→(∀ x ∈ Qcl,0≤x∧x < n) →
 (Qks v Qcl left es).isSome=Qcl.all (fun i=>!decide (left.getD i.toNat 0=0))
 | [],left,es,_,_,_=>rfl
 | i::r,left,es,hn,hl,hb=>by
   have hn':=List.nodup_cons.1 hn
   have hi:=hb i (by simp)
   rw [Qks]
   by_cases h0:left.getD i.toNat 0=0
   · rw [if_pos h0,List.all_cons,h0];rfl
   · rw [if_neg h0,Qpt v r _ _ hn'.2 (by simp [Qf6,hl]) (fun x hx=>hb x (by simp [hx])),List.all_cons]
     simp only [h0,decide_false,Bool.not_false,Bool.true_and]
     rw [Bool.eq_iff_iff,List.all_eq_true,List.all_eq_true]
     refine forall_congr' fun x=>?_
     refine forall_congr' fun (hx:x ∈ r)=>?_
     have hxb:=hb x (by simp [hx])
     rw [Qf0 hi.1 hxb.1 (by omega),if_neg (fun h=>hn'.1 (by rw [← h];exact hx))]
     simp
theorem Qvk {left xs ys:List Int} (hx:xs.Pairwise (Qk1 left)) (hy:ys.Pairwise (Qk1 left)) (h:xs.Perm ys):xs=ys :=
 h.eq_of_pairwise (fun a b _ _ h k=>absurd (Qh7 h k) Qmw) hx hy
theorem Qtf (n:Nat):∀ (m:Nat) (left todo:List Int) (es:List (Int×Int)),left.length=n→(∀ x ∈ left,0≤x∧x≤1000)→todo.length=m→todo.Pairwise (fun a b:Int=>a < b)→(∀ x ∈ todo,0≤x∧x < n) →
 (Qhi m left todo es).isSome=hv m (fall (todo.map fun x=>left.getD x.toNat 0))
 | 0,left,todo,es,_,_,_,_,_=>rfl
 | m+1,left,todo,es,hl,hb,htl,htp,htb=>by
   have hsorted:∀ (left' T:List Int),T.Pairwise (fun a b:Int=>a < b)→fall (T.map fun x=>left'.getD x.toNat 0)=(Qd0 (gtD left') [] T).map fun x=>left'.getD x.toNat 0:=fun left' T hT=>by
    refine (Qgq ?_ (((Qbf (gtD left') T [])).map _)).symm
    rw [Qvs,List.pairwise_map]
    exact (Qf4 (left:=left') T [] .nil (by simp) hT).imp fun h=>by simp only [Qk1] at h;omega
   rw [hsorted left todo htp,Qhi]
   have hperm:=Qbf (gtD left) todo []
   have hlex:=Qf4 (left:=left) todo [] .nil (by simp) htp
   cases hs:Qd0 (gtD left) [] todo with
   | nil=>rw [hs] at hperm;have:=hperm.length_eq;simp at this;omega
   | cons v r =>
     rw [hs,List.nil_append] at hperm
     rw [hs] at hlex
     have hv0:v ∈ todo:=hperm.mem_iff.1 (by simp)
     have hvb:=htb v hv0
     obtain ⟨t2,ht2⟩:∃ t2,t2=todo.filter fun x=>!decide (x=v):=⟨_,rfl⟩
     simp only [← ht2]
     have ht2p:t2.Pairwise (fun a b:Int=>a < b):=by rw [ht2];exact htp.filter _
     have hnd:todo.Nodup:=htp.imp fun h=>by omega
     have hm2:∀ x,x ∈ t2 ↔ x ∈ todo∧x ≠ v:=fun x=>by rw [ht2,List.mem_filter];simp
     have hrn:(v::r).Nodup:=hperm.nodup_iff.2 hnd
     have hr2:r.Perm t2:=by
      refine (List.perm_ext_iff_of_nodup (List.nodup_cons.1 hrn).2 (ht2p.imp fun h=>by omega)).2 fun x=>?_
      rw [hm2,← hperm.mem_iff,List.mem_cons]
      constructor
      · exact fun h=>⟨.inr h,fun k=>(List.nodup_cons.1 hrn).1 (k ▸ h)⟩
      · rintro ⟨rfl | h,k⟩
        · exact absurd rfl k
        · exact h
     have hsr:Qd0 (gtD left) [] t2=r:=Qvk (Qf4 _ _ .nil (by simp) ht2p) (List.pairwise_cons.1 hlex).2 ((Qbf (gtD left) t2 []).trans (by simpa using hr2.symm))
     have hrl:r.length=m:=by have:=hperm.length_eq;simp at this;omega
     rw [List.map_cons,hv,List.length_map,← hr2.length_eq,Qqj,hsr,← List.map_take,← List.map_drop]
     by_cases hk:left.getD v.toNat 0≤r.length
     · rw [if_neg (by omega)]
       simp only [hk,decide_true,Bool.true_and]
       generalize (left.getD v.toNat 0).toNat=k
       have htn:(r.take k).Nodup:=(List.nodup_cons.1 hrn).2.sublist (List.take_sublist _ _)
       have htb2:∀ x ∈ r,0≤x∧x < n:=fun x hx=>htb x ((hm2 x).1 (hr2.mem_iff.1 hx)).1
       have htb3:∀ x ∈ r.take k,0≤x∧x < n:=fun x hx=>htb2 x (List.mem_of_mem_take hx)
       have hsome:=Qpt v (r.take k) left es htn hl htb3
       rw [List.all_map]
       cases hli:Qks v (r.take k) left es with
       | none =>
         rw [hli] at hsome
         have:(r.take k).all ((fun y=>!decide (y=0)) ∘ fun x=>left.getD x.toNat 0)=false:=hsome.symm
         rw [this];rfl
       | some q =>
         obtain ⟨left',es'⟩:=q
         rw [hli] at hsome
         have:(r.take k).all ((fun y=>!decide (y=0)) ∘ fun x=>left.getD x.toNat 0)=true:=hsome.symm
         rw [this,Bool.true_and]
         obtain ⟨k1,k2,k3⟩:=Qg0 v _ _ _ _ _ hli hb
         have hg:=Qm2 v _ _ _ _ _ hli htn hl htb3
         simp only
         rw [Qtf n m left' t2 es' (by omega) k2 (by rw [← hr2.length_eq];exact hrl) ht2p (fun x hx=>htb x ((hm2 x).1 hx).1)]
         refine congrArg (hv m) (Qu5 ((hr2.symm.map _).trans ?_))
         conv=>lhs;rw [← List.take_append_drop k r,List.map_append]
         rw [List.map_map]
         have hdis:∀ x ∈ r.drop k,x ∉ r.take k:=by
          have:=(List.nodup_append.1 (by rw [List.take_append_drop];exact (List.nodup_cons.1 hrn).2:(r.take k++r.drop k).Nodup)).2.2
          exact fun x hx hx'=>this x hx' x hx rfl
         refine List.Perm.append (.of_eq (List.map_congr_left fun x hx=>?_)) (.of_eq (List.map_congr_left fun x hx=>?_))
         · have hx2:=htb3 x hx
           rw [hg x hx2.1 hx2.2,if_pos hx];rfl
         · have hx2:=htb2 x (List.mem_of_mem_drop hx)
           rw [hg x hx2.1 hx2.2,if_neg (hdis x hx)];simp
     · rw [if_pos (by omega),decide_eq_false hk]
       rfl
theorem Qu6 {d:List Int} (hv':Qcm d=true):(Qh5 d).isSome=Qbn d:=by
 have hf:=Qbw hv'
 have hb:∀ x ∈ d,0≤x∧x≤1000:=fun x hx=>by have:=hf.2 x hx;omega
 rw [Qh5,Qtf d.length d.length d _ [] rfl hb (by rw [Qbl];simp) (Qqv _) (fun x hx=>Qgy.1 hx),← Quk hv']
 congr 2
 rw [Qbl,List.map_map]
 refine List.ext_getElem (by simp) fun i h1 h2=>?_
 simp [List.getD_eq_getElem?_getD,List.getElem?_eq_getElem h2]
end Go.Idl
namespace Go.Idl
theorem Qzs {α:Type} [DecidableEq α]:∀ {l k:List α},l.Nodup→(∀ x ∈ l,x ∈ k)→l.length≤k.length
 | [],_,_,_=>by simp
 | a::l,k,hn,hs=>by
   have hn':=List.nodup_cons.1 hn
   have h1:=Qzs (l:=l) (k:=k.erase a) hn'.2 (fun x hx=>(List.mem_erase_of_ne (fun h=>hn'.1 (by rw [← h];exact hx))).2 (hs x (by simp [hx])))
   have h2:=List.length_erase_of_mem (hs a (by simp))
   have h3:0 < k.length:=List.length_pos_of_mem (hs a (by simp))
   simp only [List.length_cons];omega
end Go.Idl
namespace Go.Idl
theorem Qhy {α:Type}:∀ {l:List α} {f:α→Int},(∀ a ∈ l,0≤f a)→(S l f=0 ↔ ∀ a ∈ l,f a=0)
 | [],f,_=>by simp [S]
 | a::l,f,h=>by
   have h1:=h a (by simp)
   have h2:0≤S l f:=Qho fun b hb=>h b (by simp [hb])
   have h3:=Qhy (l:=l) (f:=f) fun b hb=>h b (by simp [hb])
   rw [Qck,List.forall_mem_cons,← h3]
   omega
end Go.Idl
namespace Go.Idl
def Cl (es:List (Int×Int)) (p:Nat→Bool):Prop:=∀ e ∈ es,p e.1.toNat=p e.2.toNat
def Con (n:Nat) (es:List (Int×Int)):Prop:=∀ p,Cl es p→∀ u v,u < n→v < n→p u=p v
theorem Qej {α:Type} {p q:α→Bool}:∀ {l:List α},(∀ a ∈ l,p a=true→q a=true)→(∃ a ∈ l,p a=false∧q a=true)→l.countP p < l.countP q
 | [],_,⟨a,h,_⟩=>by cases h
 | b::l,hi,⟨a,ha,h1,h2⟩=>by
   rw [List.countP_cons,List.countP_cons]
   have hle:l.countP p≤l.countP q:=List.countP_mono_left fun x hx=>hi x (by simp [hx])
   by_cases hab:a=b
   · subst hab
     rw [h1,h2];simp;omega
   · have ha2:a ∈ l:=by
      rcases List.mem_cons.1 ha with h | h
      · exact absurd h hab
      · exact h
     have:=Qej (l:=l) (fun x hx=>hi x (by simp [hx])) ⟨a,ha2,h1,h2⟩
     have hb:=hi b (by simp)
     cases hp:p b with
     | false=>cases q b <;> simp <;> omega
     | true=>rw [hb hp];simp;omega
theorem Qiu {α:Type} (p q:α→Bool):∀ l:List α,(l.countP fun a=>p a || q a)≤l.countP p+l.countP q
 | []=>by simp
 | a::l=>by
   have:=Qiu p q l
   rw [List.countP_cons,List.countP_cons,List.countP_cons]
   cases p a <;> cases q a <;> simp <;> omega
theorem Qpx {α:Type} (p:α→Bool):∀ l:List α,S l (fun a=>if p a=true then 1 else 0)=(l.countP p:Int)
 | []=>rfl
 | a::l=>by rw [Qck,Qpx p l,List.countP_cons];split <;> simp_all <;> omega
theorem Qi2 (n w:Nat):(List.range n).countP (fun v=>decide (v=w))≤1:=by
 have h1:=Qpx (fun v=>decide (v=w)) (List.range n)
 have h2:=Qw4 (List.nodup_range (n:=n)) w
 have h3:S (List.range n) (fun a=>if decide (a=w)=true then (1:Int) else 0)=S (List.range n) (fun a=>if w=a then 1 else 0):=Qdn fun a _=>Jif (by simp [eq_comm]) _ _
 rw [h3,h2] at h1
 split at h1 <;> omega
theorem grow {n:Nat} {es:List (Int×Int)} (hC:Con n es) (hes:∀ e ∈ es,e.1.toNat < n∧e.2.toNat < n) (Z:Nat→Nat→Bool) (h0:∃ v,v < n∧Z 0 v=true) (hm:∀ k v,Z k v=true→Z (k+1) v=true)
 (he:∀ k,∀ e ∈ es,(Z k e.1.toNat=true ∨ Z k e.2.toNat=true)→Z (k+1) e.1.toNat=true∧Z (k+1) e.2.toNat=true):∀ k,min (k+1) n≤(List.range n).countP (Z k)∧∃ v,v < n∧Z k v=true
 | 0=>by
   obtain ⟨v,hv,hz⟩:=h0
   have:0 < (List.range n).countP (Z 0):=List.countP_pos_iff.2 ⟨v,List.mem_range.2 hv,hz⟩
   exact ⟨by omega,v,hv,hz⟩
 | k+1=>by
   obtain ⟨ih,v,hv,hz⟩:=grow hC hes Z h0 hm he k
   refine ⟨?_,v,hv,hm k v hz⟩
   have hle:(List.range n).countP (Z k)≤(List.range n).countP (Z (k+1)):=List.countP_mono_left fun x _=>hm k x
   by_cases hall:∀ u,u < n→Z k u=true
   · have:(List.range n).countP (Z k)=(List.range n).length:=List.countP_eq_length.2 fun a ha=>hall a (List.mem_range.1 ha)
     simp at this
     omega
   · simp only [Classical.not_forall] at hall
     obtain ⟨u,hu,hzu⟩:=hall
     have hncl:¬ Cl es (Z k):=fun hc=>hzu (by rw [hC _ hc u v hu hv];exact hz)
     simp only [Cl,Classical.not_forall] at hncl
     obtain ⟨e,hee,hne⟩:=hncl
     have hlt:(List.range n).countP (Z k) < (List.range n).countP (Z (k+1)):=by
      have hb:=hes e hee
      refine Qej (fun x _=>hm k x) ?_
      cases h1:Z k e.1.toNat with
      | true =>
        have h2:Z k e.2.toNat=false:=by
         cases h2:Z k e.2.toNat with
         | false=>rfl
         | true=>rw [h1,h2] at hne;exact absurd rfl hne
        exact ⟨_,List.mem_range.2 hb.2,h2,(he k e hee (.inl h1)).2⟩
      | false =>
        have h2:Z k e.2.toNat=true:=by
         cases h2:Z k e.2.toNat with
         | true=>rfl
         | false=>rw [h1,h2] at hne;exact absurd rfl hne
        exact ⟨_,List.mem_range.2 hb.1,h1,(he k e hee (.inr h2)).1⟩
     omega
theorem Jfd {n:Nat} {es:List (Int×Int)} (hC:Con n es) (hes:∀ e ∈ es,e.1.toNat < n∧e.2.toNat < n) (Z:Nat→Nat→Bool) (h0:∃ v,v < n∧Z 0 v=true) (hm:∀ k v,Z k v=true→Z (k+1) v=true)
 (he:∀ k,∀ e ∈ es,(Z k e.1.toNat=true ∨ Z k e.2.toNat=true)→Z (k+1) e.1.toNat=true∧Z (k+1) e.2.toNat=true):∀ v,v < n→Z n v=true:=fun v hv=>by
 have h1:=(grow hC hes Z h0 hm he n).1
 have h2:(List.range n).countP (Z n)≤(List.range n).length:=List.countP_le_length
 simp at h2
 have h3:(List.range n).countP (Z n)=(List.range n).length:=by simp;omega
 exact List.countP_eq_length.1 h3 v (List.mem_range.2 hv)
theorem Qfo (es:List (Int×Int)):∀ (k:Nat) (o:List Int),Qhv es (k+1) o=es.foldl Qd2 (Qhv es k o)
 | 0,_=>rfl
 | k+1,o=>by rw [Qhv,Qfo es k,Qhv]
theorem Qfl {o:List Int} {e:Int×Int} (h1:e.1.toNat < o.length) (h2:e.2.toNat < o.length) (v:Nat) :
 (Qd2 o e).getD v 0=if v=e.1.toNat ∨ v=e.2.toNat then min (o.getD e.1.toNat 0) (o.getD e.2.toNat 0) else o.getD v 0:=by
 rw [Qd2,List.getD_eq_getElem?_getD,List.getElem?_set,List.getElem?_set]
 by_cases k2:v=e.2.toNat
 · subst k2
   simp [h2]
 · by_cases k1:v=e.1.toNat
   · subst k1
     simp [h1,Ne.symm k2]
   · simp [k1,k2,Ne.symm k1,Ne.symm k2]
def Qwx (n:Nat) (p:Nat→Bool) (o:List Int):Prop:=o.length=n∧∀ v,v < n→0≤o.getD v 0∧o.getD v 0≤v∧p (o.getD v 0).toNat=p v
theorem Qkz {n:Nat} {p:Nat→Bool} {o:List Int} {e:Int×Int} (h1:e.1.toNat < n) (h2:e.2.toNat < n) (hp:p e.1.toNat=p e.2.toNat) (h:Qwx n p o):Qwx n p (Qd2 o e):=by
 refine ⟨by rw [Qe7];exact h.1,fun v hv=>?_⟩
 rw [Qfl (by rw [h.1];exact h1) (by rw [h.1];exact h2)]
 have a:=h.2 _ h1
 have b:=h.2 _ h2
 split
 · rename_i hq
   have hpm:p (min (o.getD e.1.toNat 0) (o.getD e.2.toNat 0)).toNat=p v:=by
    have hpv:p v=p e.1.toNat:=by
     rcases hq with rfl | rfl
     · rfl
     · exact hp.symm
    rcases Int.le_total (o.getD e.1.toNat 0) (o.getD e.2.toNat 0) with hl | hl
    · rw [Int.min_eq_left hl,a.2.2,hpv]
    · rw [Int.min_eq_right hl,b.2.2,hpv,hp]
   refine ⟨by omega,?_,hpm⟩
   rcases hq with rfl | rfl <;> omega
 · exact h.2 v hv
theorem Qtd {n:Nat} {p:Nat→Bool}:∀ (es:List (Int×Int)) {o:List Int},(∀ e ∈ es,e.1.toNat < n∧e.2.toNat < n)→Cl es p→Qwx n p o→Qwx n p (es.foldl Qd2 o)
 | [],_,_,_,h=>h
 | e::es,_,he,hc,h=>Qtd es (fun x hx=>he x (by simp [hx])) (fun x hx=>hc x (by simp [hx])) (Qkz (he e (by simp)).1 (he e (by simp)).2 (hc e (by simp)) h)
theorem Qhh {n:Nat} {p:Nat→Bool} {es:List (Int×Int)} (he:∀ e ∈ es,e.1.toNat < n∧e.2.toNat < n) (hc:Cl es p):∀ (k:Nat) {o:List Int},Qwx n p o→Qwx n p (Qhv es k o)
 | 0,_,h=>h
 | k+1,_,h=>Qhh he hc k (Qtd es he hc h)
theorem Qg5 (n:Nat) (p:Nat→Bool):Qwx n p (Qc2 n (-1)):=by
 have hg:∀ v,v < n→(Qc2 n (-1)).getD v 0=(v:Int):=fun v hv=>by
  rw [Qbl,List.getD_eq_getElem?_getD,List.getElem?_map,List.getElem?_range hv];rfl
 refine ⟨by rw [Qbl];simp,fun v hv=>?_⟩
 rw [hg v hv]
 exact ⟨by omega,by omega,by rw [Int.toNat_natCast]⟩
theorem Qhs {n:Nat}:∀ (es:List (Int×Int)) {o:List Int} {v:Nat},(∀ e ∈ es,e.1.toNat < n∧e.2.toNat < n)→Qwx n (fun _=>true) o→v < n→o.getD v 0=0→(es.foldl Qd2 o).getD v 0=0
 | [],_,_,_,_,_,h=>h
 | e::es,o,v,he,hi,hv,h=>by
   have hb:=he e (by simp)
   have hi2:=Qkz hb.1 hb.2 rfl hi
   refine Qhs es (fun x hx=>he x (by simp [hx])) hi2 hv ?_
   rw [Qfl (by rw [hi.1];exact hb.1) (by rw [hi.1];exact hb.2)]
   have a:=hi.2 _ hb.1
   have b:=hi.2 _ hb.2
   split
   · rename_i hq
     rcases hq with rfl | rfl <;> omega
   · exact h
theorem Qps {n:Nat}:∀ (es:List (Int×Int)) {o:List Int},(∀ e ∈ es,e.1.toNat < n∧e.2.toNat < n)→Qwx n (fun _=>true) o→∀ e ∈ es,(o.getD e.1.toNat 0=0 ∨ o.getD e.2.toNat 0=0) →
 (es.foldl Qd2 o).getD e.1.toNat 0=0∧(es.foldl Qd2 o).getD e.2.toNat 0=0
 | [],_,_,_,_,h,_=>by cases h
 | f::es,o,he,hi,e,hm,h=>by
   have hb:=he f (by simp)
   have hbe:=he e hm
   have he':∀ e ∈ es,e.1.toNat < n∧e.2.toNat < n:=fun x hx=>he x (by simp [hx])
   have hi2:=Qkz hb.1 hb.2 rfl hi
   have a:=hi.2 _ hb.1
   have b:=hi.2 _ hb.2
   have rg:=fun v=>Qfl (o:=o) (e:=f) (by rw [hi.1];exact hb.1) (by rw [hi.1];exact hb.2) v
   rcases List.mem_cons.1 hm with rfl | hm2
   · refine ⟨Qhs es he' hi2 hb.1 ?_,Qhs es he' hi2 hb.2 ?_⟩
     · rw [rg,if_pos (.inl rfl)];omega
     · rw [rg,if_pos (.inr rfl)];omega
   · refine Qps es he' hi2 e hm2 ?_
     rcases h with h | h
     · left
       rw [rg]
       split
       · rename_i hq
         rcases hq with hq | hq <;> rw [hq] at h <;> omega
       · exact h
     · right
       rw [rg]
       split
       · rename_i hq
         rcases hq with hq | hq <;> rw [hq] at h <;> omega
       · exact h
theorem Jdr {n:Nat} (hn1:1≤n) {es:List (Int×Int)} (hes:∀ e ∈ es,e.1.toNat < n∧e.2.toNat < n) (hC:Con n es):∀ v,v < n→(Qhv es n (Qc2 n (-1))).getD v 0=0:=by
 have hi:∀ k,Qwx n (fun _=>true) (Qhv es k (Qc2 n (-1))):=fun k=>Qhh hes (fun _ _=>rfl) k (Qg5 n _)
 have hb:=Qg5 n (fun _=>true)
 have hA:∀ v,v < n→(fun (k v:Nat)=>decide (v < n) && decide ((Qhv es k (Qc2 n (-1))).getD v 0=0)) n v=true:=by
  refine Jfd hC hes (fun k v=>decide (v < n) && decide ((Qhv es k (Qc2 n (-1))).getD v 0=0)) ⟨0,by omega,?_⟩ (fun k v h=>?_) (fun k e he h=>?_)
  · have hz:=hb.2 0 (by omega)
    have hz2:(Qc2 n (-1)).getD 0 0=0:=by
     have h1:=hz.1
     have h2:=hz.2.1
     omega
    show (decide (0 < n) && decide ((Qc2 n (-1)).getD 0 0=0))=true
    rw [decide_eq_true (show 0 < n by omega),decide_eq_true hz2];rfl
  · simp only [Qba,decide_eq_true_eq] at h ⊢
    rw [Qfo]
    exact ⟨h.1,Qhs es hes (hi k) h.1 h.2⟩
  · have hbe:=hes e he
    simp only [Qba,decide_eq_true_eq] at h ⊢
    rw [Qfo]
    have:=Qps es hes (hi k) e he (h.elim (fun h=>.inl h.2) (fun h=>.inr h.2))
    exact ⟨⟨hbe.1,this.1⟩,⟨hbe.2,this.2⟩⟩
 intro v hv
 have:=hA v hv
 simp only [Qba,decide_eq_true_eq] at this
 exact this.2
theorem Qo9 (n:Nat) (es:List (Int×Int)):(Qdq n es).length=((rgF n 0).filter (isR (Qhv es n (Qc2 n (-1))))).length:=by rw [Qdq,Qi1,List.length_map]
theorem Jcm {n:Nat} (hn1:1≤n) (p:Int→Bool) (h0:p 0=true) (h:∀ v:Nat,v < n→1≤v→p v=false):((rgF n 0).filter p).length=1:=by
 rw [Qmo (show 0 < n by omega),show ((0:Nat):Int)=0 from rfl,List.filter_cons_of_pos h0,List.filter_eq_nil_iff.2 fun x hx=>?_]
 · rfl
 · have hb:=Qmh.1 hx
   obtain ⟨k,rfl⟩:=Int.eq_ofNat_of_zero_le (show 0≤x by omega)
   rw [h k (by omega) (by omega)];simp
theorem Jeo {n:Nat} (p:Int→Bool) {a b:Nat} (ha:a < n) (hb:b < n) (hab:a ≠ b) (pa:p a=true) (pb:p b=true):2≤((rgF n 0).filter p).length:=by
 have:[(a:Int),(b:Int)].length≤((rgF n 0).filter p).length:=Qzs (by simp;omega) fun x hx=>by
  simp only [List.mem_cons,List.not_mem_nil,or_false] at hx
  rcases hx with rfl | rfl
  · exact List.mem_filter.2 ⟨Qmh.2 (by omega),pa⟩
  · exact List.mem_filter.2 ⟨Qmh.2 (by omega),pb⟩
 simpa using this
theorem Qnd {n:Nat} {p:Nat→Bool} {b:Bool} {v:Nat} (hv:v < n) (h:p v=b):∃ r,r < n∧p r=b∧∀ u,u < r→p u ≠ b:=by
 induction v using Nat.strongRecOn with
 | _ v ih =>
   by_cases hq:∃ u,u < v∧p u=b
   · obtain ⟨u,hu,hpu⟩:=hq
     exact ih u hu (by omega) hpu
   · exact ⟨v,hv,h,fun u hu hpu=>hq ⟨u,hu,hpu⟩⟩
theorem Jj4 {n:Nat} {es:List (Int×Int)} (h:¬ Con n es):∃ p a b,Cl es p∧a < n∧b < n∧p a=true∧p b=false∧(∀ u,u < a→p u ≠ true)∧∀ u,u < b→p u ≠ false:=by
 simp only [Con,Classical.not_forall] at h
 obtain ⟨p,hc,u,v,hu,hv,hne⟩:=h
 have ht:∃ x,x < n∧p x=true:=by
  cases h1:p u with
  | true=>exact ⟨u,hu,h1⟩
  | false =>
    cases h2:p v with
    | true=>exact ⟨v,hv,h2⟩
    | false=>rw [h1,h2] at hne;exact absurd rfl hne
 have hf:∃ x,x < n∧p x=false:=by
  cases h1:p u with
  | false=>exact ⟨u,hu,h1⟩
  | true =>
    cases h2:p v with
    | false=>exact ⟨v,hv,h2⟩
    | true=>rw [h1,h2] at hne;exact absurd rfl hne
 obtain ⟨x,hx,hpx⟩:=ht
 obtain ⟨y,hy,hpy⟩:=hf
 obtain ⟨a,a1,a2,a3⟩:=Qnd hx hpx
 obtain ⟨b,b1,b2,b3⟩:=Qnd hy hpy
 exact ⟨p,a,b,hc,a1,b1,a2,b2,a3,b3⟩
theorem Qo4 {n:Nat} (hn1:1≤n) {es:List (Int×Int)} (hes:∀ e ∈ es,e.1.toNat < n∧e.2.toNat < n):(Qdq n es).length=1 ↔ Con n es:=by
 rw [Qo9]
 constructor
 · intro h1
   refine Classical.byContradiction fun hC=>?_
   obtain ⟨p,a,b,hc,ha,hb,pa,pb,la,lb⟩:=Jj4 hC
   have hi:=Qhh hes hc n (Qg5 n p)
   have key:∀ (r:Nat) (x:Bool),r < n→p r=x→(∀ u,u < r→p u ≠ x)→isR (Qhv es n (Qc2 n (-1))) r=true:=fun r x hr hpr hl=>by
    rw [isR,inP,Int.toNat_natCast,decide_eq_true_eq]
    have:=hi.2 r hr
    by_cases hq:(Qhv es n (Qc2 n (-1))).getD r 0=r
    · exact hq
    · exact absurd (this.2.2.trans hpr) (hl _ (by omega))
   have:=Jeo (isR (Qhv es n (Qc2 n (-1)))) ha hb (fun h=>by rw [h,pb] at pa;cases pa) (key a true ha pa la) (key b false hb pb lb)
   omega
 · intro hC
   have hz:=Jdr hn1 hes hC
   refine Jcm hn1 _ ?_ fun v hv h1=>?_
   · rw [isR,inP,decide_eq_true_eq];exact hz 0 (by omega)
   · rw [isR,inP,Int.toNat_natCast,hz v hv,decide_eq_false_iff_not];omega
theorem Qp4 {n:Nat} {es:List (Int×Int)} (hes:∀ e ∈ es,e.1.toNat < n∧e.2.toNat < n) (hC:Con n es):∀ k,k+1≤n→∃ Z:Nat→Bool,(∃ v,v < n∧Z v=true)∧(List.range n).countP Z≤k+1∧k≤es.countP fun e=>Z e.1.toNat && Z e.2.toNat
 | 0,h=>⟨fun v=>decide (v=0),⟨0,by omega,rfl⟩,Qi2 n 0,by omega⟩
 | k+1,h=>by
   obtain ⟨Z,⟨v,hv,hz⟩,hc,hk⟩:=Qp4 hes hC k (by omega)
   have hex:∃ u,u < n∧Z u=false:=by
    refine Classical.byContradiction fun hno=>?_
    have:(List.range n).countP Z=(List.range n).length:=List.countP_eq_length.2 fun a ha=>by
     cases hq:Z a with
     | true=>rfl
     | false=>exact absurd ⟨a,List.mem_range.1 ha,hq⟩ hno
    simp at this
    omega
   obtain ⟨u,hu,hzu⟩:=hex
   have hncl:¬ Cl es Z:=fun hcl=>by have:=hC _ hcl u v hu hv;rw [hz,hzu] at this;cases this
   simp only [Cl,Classical.not_forall] at hncl
   obtain ⟨e,hee,hne⟩:=hncl
   have hb:=hes e hee
   have step:∀ w,w < n→Z w=false→(∀ x,(x=e.1.toNat ∨ x=e.2.toNat)→(Z x || decide (x=w))=true)→(Z e.1.toNat && Z e.2.toNat)=false→∃ Z:Nat→Bool,(∃ v,v < n∧Z v=true)∧(List.range n).countP Z≤k+1+1∧k+1≤es.countP fun e=>Z e.1.toNat && Z e.2.toNat:=fun w hw hzw hx hin=>by
    refine ⟨fun x=>Z x || decide (x=w),⟨v,hv,by simp [hz]⟩,?_,?_⟩
    · have h1:=Qiu Z (fun x=>decide (x=w)) (List.range n)
      have h2:=Qi2 n w
      omega
    · have:=Qej (p:=fun e:Int×Int=>Z e.1.toNat && Z e.2.toNat) (q:=fun e:Int×Int=>(Z e.1.toNat || decide (e.1.toNat=w)) && (Z e.2.toNat || decide (e.2.toNat=w))) (l:=es) (fun x _ hx=>by
       simp only [Qba] at hx ⊢
       simp [hx.1,hx.2]) ⟨e,hee,hin,by rw [hx _ (.inl rfl),hx _ (.inr rfl)];rfl⟩
      show k+1≤es.countP fun e:Int×Int=>(Z e.1.toNat || decide (e.1.toNat=w)) && (Z e.2.toNat || decide (e.2.toNat=w))
      omega
   cases h1:Z e.1.toNat with
   | true =>
     have h2:Z e.2.toNat=false:=by
      cases h2:Z e.2.toNat with
      | false=>rfl
      | true=>rw [h1,h2] at hne;exact absurd rfl hne
     exact step e.2.toNat hb.2 h2 (fun x hx=>by rcases hx with rfl | rfl <;> simp [h1]) (by simp [h2])
   | false =>
     have h2:Z e.2.toNat=true:=by
      cases h2:Z e.2.toNat with
      | true=>rfl
      | false=>rw [h1,h2] at hne;exact absurd rfl hne
     exact step e.1.toNat hb.1 h1 (fun x hx=>by rcases hx with rfl | rfl <;> simp [h2]) (by simp [h1])
theorem Jd7 {n:Nat} (hn1:1≤n) {es:List (Int×Int)} (h:Qax n es=true) (hC:Con n es):Qk3 (Qda n es)=true:=by
 have hin:=(Qa9.1 h).2.1
 have hes:∀ e ∈ es,e.1.toNat < n∧e.2.toNat < n:=fun e he=>by have:=Qan.1 (hin e he);omega
 have hdl:(Qda n es).length=n:=by rw [Qda,Qc9];simp
 have hE:Qca n es:=fun e he=>by have:=Qan.1 (hin e he);omega
 obtain ⟨Z,-,-,hk⟩:=Qp4 hes hC (n - 1) (by omega)
 have hle:(es.countP fun e=>Z e.1.toNat && Z e.2.toNat)≤es.length:=List.countP_le_length
 rw [Qk3,Qpd h,Qnl hin,hdl]
 simp only [Bool.true_and,Qba,decide_eq_true_eq,Bool.or_eq_true]
 refine ⟨by omega,?_,by omega⟩
 by_cases h1:n=1
 · exact .inl h1
 · refine .inr ?_
   rw [Qhf,Qfb hE,List.all_eq_true]
   intro x hx
   obtain ⟨v,hv,rfl⟩:=List.mem_map.1 hx
   have hv:=List.mem_range.1 hv
   have hnn:∀ e ∈ es,0≤inc v e:=fun e _=>Qlz v e
   have h0:0≤deg es v:=Qho hnn
   by_cases hz:deg es v=0
   · exfalso
     have hz2:=(Qhy hnn).1 hz
     have hcl:Cl es (fun u=>decide (u=v)):=fun e he=>by
      have h1:=hz2 e he
      have hb:=Qan.1 (hin e he)
      simp only [inc] at h1
      by_cases k1:e.1=v
      · rw [if_pos k1] at h1;split at h1 <;> omega
      · by_cases k2:e.2=v
        · rw [if_pos k2,if_neg k1] at h1;omega
        · show decide (e.1.toNat=v)=decide (e.2.toNat=v)
          rw [decide_eq_false (by omega),decide_eq_false (by omega)]
     obtain ⟨w,hw,hwv⟩:∃ w,w < n∧w ≠ v:=by
      by_cases hv0:v=0
      · exact ⟨1,by omega,by omega⟩
      · exact ⟨0,by omega,by omega⟩
     have:=hC _ hcl v w hv hw
     simp only [decide_true] at this
     exact hwv (of_decide_eq_true this.symm)
   · simp only [decide_eq_true_eq];omega
end Go.Idl
namespace Go.Idl
open Go
abbrev Q4:=Int×Int×Int×Int
def sws (xs:List Q4):List (List IV):=xs.map fun s=>[I s.1,I s.2.1,I s.2.2.1,I s.2.2.2]
@[simp] theorem sws_len (xs:List Q4):(sws xs).length=xs.length:=by simp [sws]
@[simp] theorem sws_nil:sws []=[]:=rfl
@[simp] theorem sws_take (xs:List Q4) (n:Nat):(sws xs).take n=sws (xs.take n):=by simp [sws,List.map_take]
@[simp] theorem sws_drop (xs:List Q4) (n:Nat):(sws xs).drop n=sws (xs.drop n):=by simp [sws,List.map_drop]
@[simp] theorem sws_one (xs:List Q4) (a b c d:Int):sws xs++[[IV.sc (.int .i64 a),IV.sc (.int .i64 b),IV.sc (.int .i64 c),IV.sc (.int .i64 d)]]=sws (xs++[(a,b,c,d)]):=by simp [sws]
@[simp] theorem sws_get (xs:List Q4) (i:Nat) (h:i < (sws xs).length):(sws xs)[i]=[IV.sc (.int .i64 (xs[i]'(by simpa [sws] using h)).1),IV.sc (.int .i64 (xs[i]'(by simpa [sws] using h)).2.1),IV.sc (.int .i64 (xs[i]'(by simpa [sws] using h)).2.2.1),IV.sc (.int .i64 (xs[i]'(by simpa [sws] using h)).2.2.2)]:=by simp [sws]
@[simp] theorem sws_get? (xs:List Q4) (i:Nat):(sws xs)[i]? = xs[i]?.map fun s=>[IV.sc (.int .i64 s.1),IV.sc (.int .i64 s.2.1),IV.sc (.int .i64 s.2.2.1),IV.sc (.int .i64 s.2.2.2)]:=by simp [sws]
@[simp] theorem sws_all1 (xs:List Q4):((sws xs).all fun x=>x.all IV.plain1)=true:=by
  induction xs with
  | nil=>rfl
  | cons x xs ih=>simp only [sws,List.map_cons,List.all_cons] at *;rw [ih];rfl
@[simp] theorem sws_all2 (xs:List Q4):((sws xs).all fun x=>x.all IV.isData)=true:=by
  induction xs with
  | nil=>rfl
  | cons x xs ih=>simp only [sws,List.map_cons,List.all_cons] at *;rw [ih];rfl
@[simp] theorem sws_noLst (xs:List Q4):Qb2 (sws xs)=true:=by
  induction xs with
  | nil=>rfl
  | cons x xs ih=>simp only [sws,List.map_cons,Qb2,Qbi,Qcc] at *;rw [ih];rfl
@[simp] theorem frz_sws (xs:List Q4):Qdb (sws xs)=sws xs:=by
  induction xs with
  | nil=>rfl
  | cons x xs ih=>simp only [sws,List.map_cons,Qdb,Qdz,Qia] at *;rw [ih]
end Go.Idl
namespace Go.Idl
theorem Qv5 {es:List (Int×Int)} {a b c d:Int} {e:Int×Int}:e ∈ sw es a b c d ↔ (e ∈ es∧e ≠ (min a b,max a b)∧e ≠ (min c d,max c d)) ∨ e=(min a c,max a c) ∨ e=(min b d,max b d):=by
 rw [sw,(Qbv _).mem_iff,swX,List.mem_append,List.mem_filter]
 simp only [Qa3,Bool.not_eq_true',Bool.or_eq_false_iff,decide_eq_false_iff_not,List.mem_cons,List.not_mem_nil,or_false,ne_eq]
theorem Jl9 {a b c d:Int} (h:a ≠ b∧a ≠ c∧a ≠ d∧b ≠ c∧b ≠ d∧c ≠ d) :
 ((min a b,max a b):Int×Int) ≠ (min c d,max c d)∧((min a b,max a b):Int×Int) ≠ (min a c,max a c)∧((min a b,max a b):Int×Int) ≠ (min b d,max b d) ∧
 ((min c d,max c d):Int×Int) ≠ (min a c,max a c)∧((min c d,max c d):Int×Int) ≠ (min b d,max b d)∧((min a c,max a c):Int×Int) ≠ (min b d,max b d):=by
 simp only [ne_eq,Qpi]
 omega
theorem Jr6 (v:Nat) (a c:Int):inc v (min a c,max a c)=(if a=v then 1 else 0)+(if c=v then 1 else 0):=by
 rcases Int.le_total a c with h | h
 · rw [inc,Int.min_eq_left h,Int.max_eq_right h]
 · rw [inc,Int.min_eq_right h,Int.max_eq_left h,Int.add_comm]
theorem Jue {n:Nat} {es:List (Int×Int)} {a b c d:Int} (h:Qax n es=true) (hm:Ql5 es a b c d=true) (v:Nat):deg (sw es a b c d) v=deg es v:=by
 obtain ⟨h1,h2,h3⟩:=Qa9.1 h
 obtain ⟨hd,m1,m2,m3,m4⟩:=Qne.1 hm
 have f4:=Jl9 hd
 have hp:(es.filter (Qa3 a b c d)).Perm [(min a b,max a b),(min c d,max c d)]:=by
  refine (List.perm_ext_iff_of_nodup ((Qht h1).filter _) (by simpa using f4.1)).2 fun e=>?_
  simp only [List.mem_filter,Qa3,Bool.or_eq_true,decide_eq_true_eq,List.mem_cons,List.not_mem_nil,or_false]
  constructor
  · exact fun h=>h.2
  · rintro (rfl | rfl)
    · exact ⟨m1,.inl rfl⟩
    · exact ⟨m2,.inr rfl⟩
 have e1:=Jdw es (Qa3 a b c d) (inc v)
 have e2:=Qr8 hp (inc v)
 have e3:=Qr8 (Qbv (swX es a b c d)) (inc v)
 rw [deg,deg,sw,e3,swX,Jz2,← e1,e2]
 simp only [S,List.map_cons,List.map_nil,List.sum_cons,List.sum_nil,Jr6]
 omega
theorem Jjq {n:Nat} {es:List (Int×Int)} {a b c d:Int} (h:Qax n es=true) (hm:Ql5 es a b c d=true):Qda n (sw es a b c d)=Qda n es:=by
 have i1:Qca n es:=fun e he=>by have:=Qan.1 ((Qa9.1 h).2.1 e he);omega
 have i2:Qca n (sw es a b c d):=fun e he=>by have:=Qan.1 ((Qa9.1 (Qs7 h hm).2.2.1).2.1 e he);omega
 rw [Qfb i1,Qfb i2]
 exact List.map_congr_left fun v _=>Jue h hm v
end Go.Idl
namespace Go.Idl
def Qdw (es:List (Int×Int)) (u v:Nat):Prop:=∀ p,Cl es p→p u=p v
theorem Qdw.symm {es:List (Int×Int)} {u v:Nat} (h:Qdw es u v):Qdw es v u:=fun p hp=>(h p hp).symm
theorem Qdw.trans {es:List (Int×Int)} {u v w:Nat} (h:Qdw es u v) (k:Qdw es v w):Qdw es u w:=fun p hp=>(h p hp).trans (k p hp)
theorem Qdw.mono {es fs:List (Int×Int)} (h:∀ e ∈ es,e ∈ fs) {u v:Nat} (k:Qdw es u v):Qdw fs u v:=fun p hp=>k p fun e he=>hp e (h e he)
theorem Qc6 {es:List (Int×Int)} {e:Int×Int} (h:e ∈ es):Qdw es e.1.toNat e.2.toNat:=fun _ hp=>hp e h
theorem Jwa {n:Nat} {es:List (Int×Int)} (S:Nat→Bool) (hSn:∀ u,S u=true→u < n) (hCl:Cl es S) (hC:∀ p,Cl es p→∀ u v,S u=true→S v=true→p u=p v) (Z:Nat→Nat→Bool) (h0:∃ v,S v=true∧Z 0 v=true) (hm:∀ k v,Z k v=true→Z (k+1) v=true)
 (he:∀ k,∀ e ∈ es,(Z k e.1.toNat=true ∨ Z k e.2.toNat=true)→Z (k+1) e.1.toNat=true∧Z (k+1) e.2.toNat=true):∀ k,min (k+1) ((List.range n).countP S)≤(List.range n).countP (fun v=>S v && Z k v)∧∃ v,S v=true∧Z k v=true
 | 0=>by
   obtain ⟨v,hv,hz⟩:=h0
   have:0 < (List.range n).countP (fun v=>S v && Z 0 v):=List.countP_pos_iff.2 ⟨v,List.mem_range.2 (hSn v hv),by rw [hv,hz];rfl⟩
   exact ⟨by omega,v,hv,hz⟩
 | k+1=>by
   obtain ⟨ih,v,hv,hz⟩:=Jwa S hSn hCl hC Z h0 hm he k
   refine ⟨?_,v,hv,hm k v hz⟩
   have hmono:∀ x ∈ List.range n,(S x && Z k x)=true→(S x && Z (k+1) x)=true:=fun x _ h=>by
    rw [Qba] at h ⊢
    exact ⟨h.1,hm k x h.2⟩
   have hle:=List.countP_mono_left hmono
   by_cases hall:∀ u,S u=true→Z k u=true
   · have:(List.range n).countP (fun v=>S v && Z k v)=(List.range n).countP S:=List.countP_congr fun x _=>by
      rw [Qba]
      exact ⟨fun h=>h.1,fun h=>⟨h,hall x h⟩⟩
     omega
   · simp only [Classical.not_forall] at hall
     obtain ⟨u,hu,hzu⟩:=hall
     have hncl:¬ Cl es (fun x=>S x && Z k x):=fun hc=>by
      have:=hC _ hc u v hu hv
      simp only [hu,hv,hz,Bool.true_and] at this
      exact hzu this
     simp only [Cl,Classical.not_forall] at hncl
     obtain ⟨e,hee,hne⟩:=hncl
     have hS:=hCl e hee
     have hlt:(List.range n).countP (fun v=>S v && Z k v) < (List.range n).countP (fun v=>S v && Z (k+1) v):=by
      refine Qej hmono ?_
      cases h1:S e.1.toNat with
      | false=>rw [← hS,h1] at hne;exact absurd rfl hne
      | true =>
        rw [← hS,h1,Bool.true_and,Bool.true_and] at hne
        have h1':=hS.symm.trans h1
        cases h3:Z k e.1.toNat with
        | true =>
          have h2:Z k e.2.toNat=false:=by
           cases h2:Z k e.2.toNat with
           | false=>rfl
           | true=>rw [h3,h2] at hne;exact absurd rfl hne
          exact ⟨_,List.mem_range.2 (hSn _ h1'),by rw [h2,Bool.and_false],by rw [h1',(he k e hee (.inl h3)).2];rfl⟩
        | false =>
          have h2:Z k e.2.toNat=true:=by
           cases h2:Z k e.2.toNat with
           | true=>rfl
           | false=>rw [h3,h2] at hne;exact absurd rfl hne
          exact ⟨_,List.mem_range.2 (hSn _ h1),by rw [h3,Bool.and_false],by rw [h1,(he k e hee (.inr h2)).1];rfl⟩
     omega
theorem Qn3 {n:Nat}:∀ (es:List (Int×Int)) {o:List Int},o.length=n→(∀ e ∈ es,e.1.toNat < n∧e.2.toNat < n)→∀ v,(es.foldl Qd2 o).getD v 0≤o.getD v 0
 | [],_,_,_,_=>Int.le_refl _
 | e::es,o,hl,he,v=>by
   have hb:=he e (by simp)
   refine Int.le_trans (Qn3 es (by rw [Qe7];exact hl) (fun x hx=>he x (by simp [hx])) v) ?_
   rw [Qfl (by omega) (by omega)]
   split
   · rename_i hq
     rcases hq with rfl | rfl <;> omega
   · exact Int.le_refl _
theorem Qit {n:Nat}:∀ (es:List (Int×Int)) {o:List Int},o.length=n→(∀ e ∈ es,e.1.toNat < n∧e.2.toNat < n)→∀ e ∈ es,
 (es.foldl Qd2 o).getD e.1.toNat 0≤min (o.getD e.1.toNat 0) (o.getD e.2.toNat 0)∧(es.foldl Qd2 o).getD e.2.toNat 0≤min (o.getD e.1.toNat 0) (o.getD e.2.toNat 0)
 | [],_,_,_,_,h=>by cases h
 | f::es,o,hl,he,e,hm=>by
   have hb:=he f (by simp)
   have he':∀ e ∈ es,e.1.toNat < n∧e.2.toNat < n:=fun x hx=>he x (by simp [hx])
   have hl2:(Qd2 o f).length=n:=by rw [Qe7];exact hl
   have rg:=fun v=>Qfl (o:=o) (e:=f) (by omega) (by omega) v
   rw [List.foldl_cons]
   rcases List.mem_cons.1 hm with rfl | hm2
   · have a:=Qn3 es hl2 he' e.1.toNat
     have b:=Qn3 es hl2 he' e.2.toNat
     rw [rg,if_pos (.inl rfl)] at a
     rw [rg,if_pos (.inr rfl)] at b
     exact ⟨a,b⟩
   · have ih:=Qit es hl2 he' e hm2
     have le1:∀ v,(Qd2 o f).getD v 0≤o.getD v 0:=fun v=>by
      rw [rg]
      split
      · rename_i hq
        rcases hq with rfl | rfl <;> omega
      · exact Int.le_refl _
     have a:=le1 e.1.toNat
     have b:=le1 e.2.toNat
     omega
abbrev rtF (n:Nat) (es:List (Int×Int)):List Int:=Qhv es n (Qc2 n (-1))
open Classical in
theorem Qjm {n:Nat} {es:List (Int×Int)} (hes:∀ e ∈ es,e.1.toNat < n∧e.2.toNat < n) {v:Nat} (hv:v < n) :
 ∃ m:Nat,m < n∧Qdw es v m∧(∀ u,u < n→Qdw es v u→m≤u)∧∀ u,u < n→Qdw es v u→(rtF n es).getD u 0=m:=by
 obtain ⟨S,hS⟩:∃ S:Nat→Bool,S=fun u=>decide (u < n∧Qdw es v u):=⟨_,rfl⟩
 have hSi:∀ u,S u=true ↔ u < n∧Qdw es v u:=fun u=>by rw [hS];exact decide_eq_true_iff
 have hSv:S v=true:=(hSi v).2 ⟨hv,fun _ _=>rfl⟩
 obtain ⟨m,hm1,hm2,hm3⟩:=Qnd hv hSv
 have hSm:=(hSi m).1 hm2
 have hmin:∀ u,S u=true→m≤u:=fun u hu=>Nat.le_of_not_lt fun h=>hm3 u h hu
 have hCl:Cl es S:=fun e he=>by
  have hb:=hes e he
  have hse:=Qc6 he
  rw [Bool.eq_iff_iff,hSi,hSi]
  exact ⟨fun h=>⟨hb.2,h.2.trans hse⟩,fun h=>⟨hb.1,h.2.trans hse.symm⟩⟩
 have hC:∀ p,Cl es p→∀ u w,S u=true→S w=true→p u=p w:=fun p hp u w hu hw =>
  (((hSi u).1 hu).2 p hp).symm.trans (((hSi w).1 hw).2 p hp)
 have hinv:∀ k,Qwx n S (Qhv es k (Qc2 n (-1))):=fun k=>Qhh hes hCl k (Qg5 n S)
 have hlow:∀ k u,S u=true→(m:Int)≤(Qhv es k (Qc2 n (-1))).getD u 0:=fun k u hu=>by
  have h1:=(hinv k).2 u ((hSi u).1 hu).1
  have:=hmin _ (h1.2.2.trans hu)
  omega
 have g:=Jwa S (fun u hu=>((hSi u).1 hu).1) hCl hC (fun k u=>S u && decide ((Qhv es k (Qc2 n (-1))).getD u 0=m)) ⟨m,hm2,by
  show (S m && decide ((Qc2 n (-1)).getD m 0=m))=true
  rw [hm2,Bool.true_and]
  refine decide_eq_true ?_
  rw [Qbl,List.getD_eq_getElem?_getD,List.getElem?_map,List.getElem?_range hm1];rfl⟩ (fun k u h=>by
  simp only [Qba,decide_eq_true_eq] at h ⊢
  have h1:=Qn3 es (hinv k).1 hes u
  have h2:=hlow (k+1) u h.1
  rw [Qfo] at h2 ⊢
  exact ⟨h.1,by omega⟩) (fun k e he h=>by
  simp only [Qba,decide_eq_true_eq] at h ⊢
  have hse:=hCl e he
  have hs1:S e.1.toNat=true:=h.elim (fun h=>h.1) (fun h=>hse.trans h.1)
  have hs2:=hse.symm.trans hs1
  have h1:=Qit es (hinv k).1 hes e he
  have h2:=hlow (k+1) _ hs1
  have h3:=hlow (k+1) _ hs2
  have h4:=hlow k _ hs1
  have h5:=hlow k _ hs2
  rw [Qfo] at h2 h3 ⊢
  refine ⟨⟨hs1,?_⟩,hs2,?_⟩ <;> rcases h with h | h <;> omega) n
 have hcS:(List.range n).countP S≤n:=by have:=List.countP_le_length (p:=S) (l:=List.range n);simpa using this
 have hall:∀ u,S u=true→(rtF n es).getD u 0=m:=fun u hu=>by
  refine Classical.byContradiction fun hno=>?_
  have hlt:(List.range n).countP (fun v=>S v && (S v && decide ((Qhv es n (Qc2 n (-1))).getD v 0=m))) < (List.range n).countP S :=
   Qej (fun x _ h=>by rw [Qba] at h;exact h.1) ⟨u,List.mem_range.2 ((hSi u).1 hu).1,by
    rw [decide_eq_false hno];simp,hu⟩
  have:=g.1
  omega
 exact ⟨m,hm1,hSm.2,fun u hu hs=>hmin u ((hSi u).2 ⟨hu,hs⟩),fun u hu hs=>hall u ((hSi u).2 ⟨hu,hs⟩)⟩
theorem Qmz {n:Nat} {es:List (Int×Int)} (hes:∀ e ∈ es,e.1.toNat < n∧e.2.toNat < n) {u v:Nat} (hu:u < n) (hv:v < n):(rtF n es).getD u 0=(rtF n es).getD v 0 ↔ Qdw es u v:=by
 constructor
 · intro h p hp
   have hi:=Qhh hes hp n (Qg5 n p)
   rw [← (hi.2 u hu).2.2,← (hi.2 v hv).2.2,h]
 · intro h
   obtain ⟨m,-,-,-,h2⟩:=Qjm hes hu
   rw [h2 u hu (fun _ _=>rfl),h2 v hv h]
def Lb (n:Nat) (es:List (Int×Int)) (r:Nat):Bool:=decide ((rtF n es).getD r 0=r)
theorem Qhk (n:Nat) (es:List (Int×Int)):(Qdq n es).length=(List.range n).countP (Lb n es):=by
 rw [Qo9,rgF,List.drop_zero,← List.countP_eq_length_filter,List.countP_map]
 rfl
theorem Qqg {n:Nat} {es:List (Int×Int)} (hes:∀ e ∈ es,e.1.toNat < n∧e.2.toNat < n) {r:Nat} (hr:r < n):Lb n es r=true ↔ ∀ u,u < n→Qdw es r u→r≤u:=by
 obtain ⟨m,h1,h2,h3,h4⟩:=Qjm hes hr
 have h5:=h4 r hr (fun _ _=>rfl)
 rw [Lb,h5,decide_eq_true_eq]
 constructor
 · intro h u hu hs
   have:=h3 u hu hs
   omega
 · intro h
   have a:=h m h1 h2
   have b:=h3 r hr (fun _ _=>rfl)
   omega
theorem Jqr {n:Nat} {es fs:List (Int×Int)} (hes:∀ e ∈ es,e.1.toNat < n∧e.2.toNat < n) (hfs:∀ e ∈ fs,e.1.toNat < n∧e.2.toNat < n) (h:∀ u v,Qdw es u v→Qdw fs u v) {x y:Nat} (hx:x < n) (hy:y < n) (h1:Qdw fs x y) (h2:¬ Qdw es x y) :
 (Qdq n fs).length < (Qdq n es).length:=by
 rw [Qhk,Qhk]
 refine Qej (fun r hr hl=>(Qqg hes (List.mem_range.1 hr)).2 fun u hu hs=>(Qqg hfs (List.mem_range.1 hr)).1 hl u hu (h _ _ hs)) ?_
 obtain ⟨a,a1,a2,a3,a4⟩:=Qjm hes hx
 obtain ⟨b,b1,b2,b3,b4⟩:=Qjm hes hy
 have hab:a ≠ b:=fun hh=>h2 (a2.trans (hh ▸ b2.symm))
 have hs:Qdw fs a b:=(h _ _ a2.symm).trans (h1.trans (h _ _ b2))
 have key:∀ c d,c < n→d < n→c < d→Qdw fs d c→(∀ u,u < n→Qdw es d u→d≤u)→∃ r ∈ List.range n,Lb n fs r=false∧Lb n es r=true:=fun c d hc hd hcd hsd hl =>
  ⟨d,List.mem_range.2 hd,by
    cases hq:Lb n fs d with
    | false=>rfl
    | true=>have:=(Qqg hfs hd).1 hq c hc hsd;omega,(Qqg hes hd).2 hl⟩
 rcases Nat.lt_or_gt_of_ne hab with hlt | hlt
 · exact key a b a1 b1 hlt hs.symm fun u hu hs2=>b3 u hu (b2.trans hs2)
 · exact key b a b1 a1 hlt hs fun u hu hs2=>a3 u hu (a2.trans hs2)
theorem Jfx {n:Nat} {es:List (Int×Int)} (hn:es.Nodup) (hes:∀ e ∈ es,e.1.toNat < n∧e.2.toNat < n) (hb:∀ e ∈ es,¬ Qdw (es.filter fun x=>!decide (x=e)) e.1.toNat e.2.toNat):∀ k,k≤es.length→k+(Qdq n (es.take k)).length≤n
 | 0,_=>by
   rw [Qhk]
   have:=List.countP_le_length (p:=Lb n (es.take 0)) (l:=List.range n)
   simp at this ⊢
   exact this
 | k+1,hk=>by
   have ih:=Jfx hn hes hb k (by omega)
   have hk2:k < es.length:=by omega
   have hmem:=List.getElem_mem hk2
   have ht:es.take (k+1)=es.take k++[es[k]]:=List.take_succ_eq_append_getElem hk2
   have hno:es[k] ∉ es.take k:=fun h=>by
    obtain ⟨j,hj,hjk⟩:=List.mem_iff_getElem.1 h
    simp only [List.length_take] at hj
    rw [List.getElem_take] at hjk
    have a1:=hn.idxOf_getElem j (by omega)
    have a2:=hn.idxOf_getElem k hk2
    rw [hjk] at a1
    omega
   have hr:∀ e ∈ es.take k,e.1.toNat < n∧e.2.toNat < n:=fun e he=>hes e (List.mem_of_mem_take he)
   have hr2:∀ e ∈ es.take (k+1),e.1.toNat < n∧e.2.toNat < n:=fun e he=>hes e (List.mem_of_mem_take he)
   have hlt:=Jqr hr hr2 (fun u v h=>h.mono fun e he=>by rw [ht];exact List.mem_append_left _ he) (hes _ hmem).1 (hes _ hmem).2 (Qc6 (by rw [ht];exact List.mem_append_right _ (List.mem_singleton.2 rfl))) (fun h=>hb _ hmem (h.mono fun e he=>List.mem_filter.2 ⟨List.mem_of_mem_take he,by
    have:e ≠ es[k]:=fun hh=>hno (hh ▸ he)
    simpa using this⟩))
   omega
theorem Jkv {n:Nat} {es:List (Int×Int)} {a:Nat} (h:∀ w,w < n→Qdw es w a):Con n es:=fun p hp u v hu hv=>(h u hu p hp).trans (h v hv p hp).symm
theorem Qob {n:Nat} (hn1:1≤n) {es:List (Int×Int)} (hes:∀ e ∈ es,e.1.toNat < n∧e.2.toNat < n):1≤(Qdq n es).length:=by
 rw [Qhk]
 exact List.countP_pos_iff.2 ⟨0,List.mem_range.2 (by omega),(Qqg hes (by omega)).2 fun u _ _=>by omega⟩
theorem Qut {n:Nat} (hn1:1≤n) {es:List (Int×Int)} (h:Qax n es=true) (hC:(Qdq n es).length ≠ 1) (hc:Qk3 (Qda n es)=true):∃ e ∈ es,Qdw (es.filter fun x=>!decide (x=e)) e.1.toNat e.2.toNat:=by
 have hin:=(Qa9.1 h).2.1
 have hes:∀ e ∈ es,e.1.toNat < n∧e.2.toNat < n:=fun e he=>by have:=Qan.1 (hin e he);omega
 refine Classical.byContradiction fun hno=>?_
 have hf:=Jfx (Qht (Qa9.1 h).1) hes (fun e he hs=>hno ⟨e,he,hs⟩) es.length (Nat.le_refl _)
 rw [List.take_length] at hf
 have hp:=Qob hn1 hes
 have hdl:(Qda n es).length=n:=by rw [Qda,Qc9];simp
 simp only [Qk3,Qba,decide_eq_true_eq,Qnl hin,hdl] at hc
 omega
theorem Qul {n:Nat} {es:List (Int×Int)} (h:Qax n es=true) (hC:¬ Con n es) (hc:Qk3 (Qda n es)=true) {a:Nat} (ha:a < n):∃ f ∈ es,¬ Qdw es f.1.toNat a:=by
 have hin:=(Qa9.1 h).2.1
 have hdl:(Qda n es).length=n:=by rw [Qda,Qc9];simp
 have hE:Qca n es:=fun e he=>by have:=Qan.1 (hin e he);omega
 have hw:∃ w,w < n∧¬ Qdw es w a:=by
  refine Classical.byContradiction fun hno=>hC (Jkv (a:=a) fun w hw=>?_)
  exact Classical.byContradiction fun hs=>hno ⟨w,hw,hs⟩
 obtain ⟨w,hw,hs⟩:=hw
 simp only [Qk3,Qba,decide_eq_true_eq,Bool.or_eq_true,hdl] at hc
 have hn1:n ≠ 1:=fun h1=>hs (by
  have e1:w=0:=by omega
  have e2:a=0:=by omega
  rw [e1,e2];exact fun _ _=>rfl)
 have hpos:=hc.2.2.1.resolve_left hn1
 rw [Qhf,Qfb hE,List.all_eq_true] at hpos
 have hd:=hpos _ (List.mem_map.2 ⟨w,List.mem_range.2 hw,rfl⟩)
 simp only [decide_eq_true_eq] at hd
 have hnn:∀ e ∈ es,0≤inc w e:=fun e _=>Qlz w e
 have hex:∃ f ∈ es,inc w f ≠ 0:=by
  refine Classical.byContradiction fun hno=>?_
  have:deg es w=0:=(Qhy hnn).2 fun e he=>Classical.byContradiction fun hx=>hno ⟨e,he,hx⟩
  omega
 obtain ⟨f,hf,hfi⟩:=hex
 refine ⟨f,hf,fun hsf=>hs ?_⟩
 have hb:=Qan.1 (hin f hf)
 simp only [inc] at hfi
 by_cases k1:f.1=w
 · rw [show w=f.1.toNat by omega];exact hsf
 · by_cases k2:f.2=w
   · rw [show w=f.2.toNat by omega];exact (Qc6 hf).symm.trans hsf
   · rw [if_neg k1,if_neg k2] at hfi;exact absurd rfl hfi
open Classical in
theorem Qpg {n:Nat} {es:List (Int×Int)} (h:Qax n es=true) {e f:Int×Int} (he:e ∈ es) (hf:f ∈ es) (hcy:Qdw (es.filter fun x=>!decide (x=e)) e.1.toNat e.2.toNat) (hoth:¬ Qdw es f.1.toNat e.1.toNat) :
 Ql5 es e.1 e.2 f.1 f.2=true∧(Qdq n (sw es e.1 e.2 f.1 f.2)).length < (Qdq n es).length:=by
 have hin:=(Qa9.1 h).2.1
 have hes:∀ e ∈ es,e.1.toNat < n∧e.2.toNat < n:=fun e he=>by have:=Qan.1 (hin e he);omega
 have be:=Qan.1 (hin e he)
 have bf:=Qan.1 (hin f hf)
 have se:=Qc6 he
 have sf:=Qc6 hf
 have n1:¬ Qdw es e.1.toNat f.1.toNat:=fun hh=>hoth hh.symm
 have n2:¬ Qdw es e.1.toNat f.2.toNat:=fun hh=>n1 (hh.trans sf.symm)
 have n3:¬ Qdw es e.2.toNat f.1.toNat:=fun hh=>n1 (se.trans hh)
 have n4:¬ Qdw es e.2.toNat f.2.toNat:=fun hh=>n2 (se.trans hh)
 have ne:∀ {x y:Int},¬ Qdw es x.toNat y.toNat→x ≠ y:=fun hh hxy=>hh (hxy ▸ fun _ _=>rfl)
 have noE:∀ {x y:Int},0≤x→0≤y→¬ Qdw es x.toNat y.toNat→((min x y,max x y):Int×Int) ∉ es:=fun {x y} hx hy hh hm=>by
  have:=Qc6 hm
  rcases Int.le_total x y with hl | hl
  · rw [Int.min_eq_left hl,Int.max_eq_right hl] at this;exact hh this
  · rw [Int.min_eq_right hl,Int.max_eq_left hl] at this;exact hh this.symm
 have me:((min e.1 e.2,max e.1 e.2):Int×Int)=e:=Prod.ext (by simp only;omega) (by simp only;omega)
 have mf:((min f.1 f.2,max f.1 f.2):Int×Int)=f:=Prod.ext (by simp only;omega) (by simp only;omega)
 have hm:Ql5 es e.1 e.2 f.1 f.2=true:=Qne.2 ⟨⟨by omega,ne n1,ne n2,ne n3,ne n4,by omega⟩,by rw [me];exact he,by rw [mf];exact hf,noE (by omega) (by omega) n1,noE (by omega) (by omega) n4⟩
 refine ⟨hm,?_⟩
 have hv2:=(Qs7 h hm).2.2.1
 have hes2:∀ x ∈ sw es e.1 e.2 f.1 f.2,x.1.toNat < n∧x.2.toNat < n:=fun x hx=>by have:=Qan.1 ((Qa9.1 hv2).2.1 x hx);omega
 have edS:∀ {x y:Int},0≤x→0≤y→∀ {gs:List (Int×Int)},((min x y,max x y):Int×Int) ∈ gs→Qdw gs x.toNat y.toNat:=fun {x y} hx hy {gs} hm=>by
  have:=Qc6 hm
  rcases Int.le_total x y with hl | hl
  · rw [Int.min_eq_left hl,Int.max_eq_right hl] at this;exact this
  · rw [Int.min_eq_right hl,Int.max_eq_left hl] at this;exact this.symm
 have s13:Qdw (sw es e.1 e.2 f.1 f.2) e.1.toNat f.1.toNat:=edS (by omega) (by omega) (Qv5.2 (.inr (.inl rfl)))
 have s24:Qdw (sw es e.1 e.2 f.1 f.2) e.2.toNat f.2.toNat:=edS (by omega) (by omega) (Qv5.2 (.inr (.inr rfl)))
 refine Jqr hes hes2 (fun u v hs p hp=>?_) (hes e he).1 (hes f hf).1 s13 n1
 have keep:∀ x ∈ es,x ≠ e→x ≠ f→p x.1.toNat=p x.2.toNat:=fun x hx h1 h2=>hp x (Qv5.2 (.inl ⟨hx,by rw [me];exact h1,by rw [mf];exact h2⟩))
 have pe:p e.1.toNat=p e.2.toNat:=by
  have hq:Cl (es.filter fun x=>!decide (x=e)) (fun v=>if Qdw es e.1.toNat v then p v else true):=fun x hx=>by
   have hx2:=List.mem_filter.1 hx
   have hxe:x ≠ e:=by simpa using hx2.2
   have sx:=Qc6 hx2.1
   by_cases k:Qdw es e.1.toNat x.1.toNat
   · have k2:=k.trans sx
     simp only [if_pos k,if_pos k2]
     exact keep x hx2.1 hxe fun hh=>n1 (hh ▸ k)
   · have k2:¬ Qdw es e.1.toNat x.2.toNat:=fun hh=>k (hh.trans sx.symm)
     simp only [if_neg k,if_neg k2]
  have:=hcy _ hq
  simp only [if_pos (show Qdw es e.1.toNat e.1.toNat from fun _ _=>rfl),if_pos se] at this
  exact this
 refine hs p fun x hx=>?_
 by_cases h1:x=e
 · rw [h1];exact pe
 · by_cases h2:x=f
   · rw [h2]
     exact (s13 p hp).symm.trans (pe.trans (s24 p hp))
   · exact keep x hx h1 h2
end Go.Idl
namespace Go.Idl
open Go
theorem Qmi (x:Int×Int) (a b:Int) (B:Qac) (hB:B[1]? = some [I a,I b]) (Ms:List Qac):Ev tb Qtv [] [.agg [I x.1,I x.2],.bptr 0 1 0] (B::Ms) ⟨Bo (decide (x=(a,b))),[],B::Ms,[]⟩:=by
 obtain ⟨x1,x2⟩:=x
 have hd:decide (((x1,x2):Int×Int)=(a,b))=(decide (x1=a) && decide (x2=b)):=by simp
 rw [hd]
 by_cases h1:x1=a
 · by_cases h2:x2=b
   · refine cW Jh8 rfl ?_
     repeat (first|apply wA|apply wS|refine wr (by simp [hB,h1,h2];with_reducible rfl) ?_|refine wq (by simp [hB,h1,h2];with_reducible rfl) ?_|refine wt (by simpa [hB,h1,h2]) ?_|refine wf (by simpa [hB,h1,h2]) ?_|refine xt (by simpa [hB,h1,h2]) ?_|refine xf (by simpa [hB,h1,h2]) ?_|apply wB|apply Qab|refine wX ?_|refine wY ?_|refine wR ?_|refine wK ?_|refine wE ?_)
     simp [Qt3,h1,h2]
   · refine cW Jh8 rfl ?_
     repeat (first|apply wA|apply wS|refine wr (by simp [hB,h1,h2];with_reducible rfl) ?_|refine wq (by simp [hB,h1,h2];with_reducible rfl) ?_|refine wt (by simpa [hB,h1,h2]) ?_|refine wf (by simpa [hB,h1,h2]) ?_|refine xt (by simpa [hB,h1,h2]) ?_|refine xf (by simpa [hB,h1,h2]) ?_|apply wB|apply Qab|refine wX ?_|refine wY ?_|refine wR ?_|refine wK ?_|refine wE ?_)
     simp [Qt3,h1,h2]
 · refine cW Jh8 rfl ?_
   repeat (first|apply wA|apply wS|refine wr (by simp [hB,h1];with_reducible rfl) ?_|refine wq (by simp [hB,h1];with_reducible rfl) ?_|refine wt (by simpa [hB,h1]) ?_|refine wf (by simpa [hB,h1]) ?_|refine xt (by simpa [hB,h1]) ?_|refine xf (by simpa [hB,h1]) ?_|apply wB|apply Qab|refine wX ?_|refine wY ?_|refine wR ?_|refine wK ?_|refine wE ?_)
   simp [Qt3,h1]
theorem Qux (n:Int) (es:List (Int×Int)) (c:Bool) (hl:es.length≤1000) (e:Int×Int):Ev tb Jby [] [Gr n es c,.agg [I e.1,I e.2]] [] ⟨OG n (es.filter fun x=>!decide (x=e)),[],[],[]⟩:=by
 have e1:=fun c'=>Qaa (Qjp 2 es c' (.inl rfl) (by omega))
 have e2:=Qaa (Qgc es Qtv [.bptr 0 1 0] [[[I n,L2 es c],[I e.1,I e.2],[I 0,Z]]] (fun x=>decide (x=e)) (by omega) (fun bs M' x _=>Qmi x e.1 e.2 _ rfl _))
 generalize (es.filter fun x=>!decide (x=e))=Q at *
 refine cW zt174 rfl ?_
 repeat (first|apply wA|apply wS|refine wr (by simp;with_reducible rfl) ?_|refine wq (by simp;with_reducible rfl) ?_|refine wt (by simpa) ?_|refine wf (by simpa) ?_|refine xt (by simpa) ?_|refine xf (by simpa) ?_|apply wB|apply Qab|refine wX ?_|refine wY ?_|refine wR ?_|refine wK ?_|refine wE ?_)
 refine Qi6 (by simp [e1,e2];with_reducible rfl) (by simp;with_reducible rfl) ?_ ?_
 · intro p hp
   simp only [List.mem_cons,List.not_mem_nil,or_false] at hp
   rcases hp with rfl | rfl
   · exact ⟨_,by simp [e1,e2];with_reducible rfl,by simp⟩
   · exact ⟨_,by simp [e1,e2];with_reducible rfl,by simp⟩
 repeat (first|apply wA|apply wS|refine wr (by simp;with_reducible rfl) ?_|refine wq (by simp;with_reducible rfl) ?_|refine wt (by simpa) ?_|refine wf (by simpa) ?_|refine xt (by simpa) ?_|refine xf (by simpa) ?_|apply wB|apply Qab|refine wX ?_|refine wY ?_|refine wR ?_|refine wK ?_|refine wE ?_)
 simp [Jc4]
def cyP (n:Nat) (es:List (Int×Int)) (e:Int×Int):Bool:=decide ((rtF n (es.filter fun x=>!decide (x=e))).getD e.1.toNat 0=(rtF n (es.filter fun x=>!decide (x=e))).getD e.2.toNat 0)
theorem Jcx (n:Nat) (hn1:1≤n) (es:List (Int×Int)) (hv:Qax n es=true) (hl:es.length≤1000) (B:Qac) (hB:B[2]? = some [I n,L2 es false]) (Ms:List Qac) (e:Int×Int) (he:e ∈ es) :
 Ev tb Qrz [] [.agg [I e.1,I e.2],.bptr 0 2 0] (B::Ms) ⟨Bo (cyP n es e),[],B::Ms,[]⟩:=by
 have hin:=(Qa9.1 hv).2.1
 have hn7:=(Qa9.1 hv).2.2
 have hes:∀ x ∈ es.filter (fun x=>!decide (x=e)),0≤x.1∧x.1 < n∧0≤x.2∧x.2 < n:=fun x hx=>by have:=Qan.1 (hin x (List.mem_filter.1 hx).1);omega
 have hfl:(es.filter fun x=>!decide (x=e)).length≤1000:=Nat.le_trans (List.length_filter_le _ _) hl
 have e1:=fun c=>Qaa (Qux n es c hl e)
 have e2:=fun c=>Qaa (Qod n hn1 hn7 2 (es.filter fun x=>!decide (x=e)) c (.inl rfl) hes hfl)
 have hrl:(rtF n (es.filter fun x=>!decide (x=e))).length=n:=by rw [rtF,Qjl,Qbl];simp
 have hb:=Qan.1 (hin e he)
 obtain ⟨a,ha⟩:=Int.eq_ofNat_of_zero_le (show 0≤e.1 by omega)
 obtain ⟨b,hb2⟩:=Int.eq_ofNat_of_zero_le (show 0≤e.2 by omega)
 rw [cyP]
 rw [show Qhv (es.filter fun x=>!decide (x=e)) n (Qc2 n (-1))=rtF n (es.filter fun x=>!decide (x=e)) from rfl] at e2
 generalize rtF n (es.filter fun x=>!decide (x=e))=rt at *
 generalize (es.filter fun x=>!decide (x=e))=Q at *
 have hal:a < rt.length:=by omega
 have hbl:b < rt.length:=by omega
 have han:a < n:=by omega
 have hbn:b < n:=by omega
 have ga:rt.getD a 0=rt[a]:=by rw [List.getD_eq_getElem?_getD,List.getElem?_eq_getElem hal];rfl
 have gb:rt.getD b 0=rt[b]:=by rw [List.getD_eq_getElem?_getD,List.getElem?_eq_getElem hbl];rfl
 rw [ha,hb2] at e1 ⊢
 rw [Int.toNat_natCast,Int.toNat_natCast,ga,gb]
 by_cases hq:rt[a]=rt[b]
 · refine cW Jzf rfl ?_
   repeat (first|apply wA|apply wS|refine wr (by simp [hB,e1,e2,hal,hbl,hrl,han,hbn,hq];with_reducible rfl) ?_|refine wq (by simp [hB,e1,e2,hal,hbl,hrl,han,hbn,hq];with_reducible rfl) ?_|refine wt (by simpa [hB,e1,e2,hal,hbl,hrl,han,hbn,hq]) ?_|refine wf (by simpa [hB,e1,e2,hal,hbl,hrl,han,hbn,hq]) ?_|refine xt (by simpa [hB,e1,e2,hal,hbl,hrl,han,hbn,hq]) ?_|refine xf (by simpa [hB,e1,e2,hal,hbl,hrl,han,hbn,hq]) ?_|apply wB|apply Qab|refine wX ?_|refine wY ?_|refine wR ?_|refine wK ?_|refine wE ?_)
   simp [Qz2,hq]
 · refine cW Jzf rfl ?_
   repeat (first|apply wA|apply wS|refine wr (by simp [hB,e1,e2,hal,hbl,hrl,han,hbn,hq];with_reducible rfl) ?_|refine wq (by simp [hB,e1,e2,hal,hbl,hrl,han,hbn,hq];with_reducible rfl) ?_|refine wt (by simpa [hB,e1,e2,hal,hbl,hrl,han,hbn,hq]) ?_|refine wf (by simpa [hB,e1,e2,hal,hbl,hrl,han,hbn,hq]) ?_|refine xt (by simpa [hB,e1,e2,hal,hbl,hrl,han,hbn,hq]) ?_|refine xf (by simpa [hB,e1,e2,hal,hbl,hrl,han,hbn,hq]) ?_|apply wB|apply Qab|refine wX ?_|refine wY ?_|refine wR ?_|refine wK ?_|refine wE ?_)
   simp [Qz2,hq]
def otP (rt:List Int) (a:Int) (f:Int×Int):Bool:=decide (rt.getD f.1.toNat 0 ≠ rt.getD a.toNat 0)
theorem Jee (n:Nat) (rt:List Int) (hrl:rt.length=n) (a b:Int) (ha:0≤a∧a < n) (B:Qac) (k5 k7:Nat) (c5:Bool) (hB5:B[k5]? = some [L rt c5]) (hB7:B[k7]? = some [I a,I b]) (Ms:List Qac) (f:Int×Int) (hf:0≤f.1∧f.1 < n) :
 Ev tb Qtr [] [.agg [I f.1,I f.2],.bptr 0 k5 0,.bptr 0 k7 0] (B::Ms) ⟨Bo (otP rt a f),[],B::Ms,[]⟩:=by
 obtain ⟨x,y⟩:=f
 obtain ⟨i,rfl⟩:=Int.eq_ofNat_of_zero_le ha.1
 simp only at hf
 obtain ⟨j,rfl⟩:=Int.eq_ofNat_of_zero_le hf.1
 have hil:i < rt.length:=by omega
 have hjl:j < rt.length:=by omega
 have hin:i < n:=by omega
 have hjn:j < n:=by omega
 have gi:rt.getD i 0=rt[i]:=by rw [List.getD_eq_getElem?_getD,List.getElem?_eq_getElem hil];rfl
 have gj:rt.getD j 0=rt[j]:=by rw [List.getD_eq_getElem?_getD,List.getElem?_eq_getElem hjl];rfl
 rw [otP]
 simp only [Int.toNat_natCast,gi,gj]
 by_cases hq:rt[j]=rt[i]
 · refine cW Joo rfl ?_
   repeat (first|apply wA|apply wS|refine wr (by simp [hB5,hB7,hil,hjl,hin,hjn,hrl,hq];with_reducible rfl) ?_|refine wq (by simp [hB5,hB7,hil,hjl,hin,hjn,hrl,hq];with_reducible rfl) ?_|refine wt (by simpa [hB5,hB7,hil,hjl,hin,hjn,hrl,hq]) ?_|refine wf (by simpa [hB5,hB7,hil,hjl,hin,hjn,hrl,hq]) ?_|refine xt (by simpa [hB5,hB7,hil,hjl,hin,hjn,hrl,hq]) ?_|refine xf (by simpa [hB5,hB7,hil,hjl,hin,hjn,hrl,hq]) ?_|apply wB|apply Qab|refine wX ?_|refine wY ?_|refine wR ?_|refine wK ?_|refine wE ?_)
   simp [Qw7,hq]
 · refine cW Joo rfl ?_
   repeat (first|apply wA|apply wS|refine wr (by simp [hB5,hB7,hil,hjl,hin,hjn,hrl,hq];with_reducible rfl) ?_|refine wq (by simp [hB5,hB7,hil,hjl,hin,hjn,hrl,hq];with_reducible rfl) ?_|refine wt (by simpa [hB5,hB7,hil,hjl,hin,hjn,hrl,hq]) ?_|refine wf (by simpa [hB5,hB7,hil,hjl,hin,hjn,hrl,hq]) ?_|refine xt (by simpa [hB5,hB7,hil,hjl,hin,hjn,hrl,hq]) ?_|refine xf (by simpa [hB5,hB7,hil,hjl,hin,hjn,hrl,hq]) ?_|apply wB|apply Qab|refine wX ?_|refine wY ?_|refine wR ?_|refine wK ?_|refine wE ?_)
   simp [Qw7,hq]
end Go.Idl
namespace Go.Idl
open Go
set_option maxHeartbeats 4000000 in
theorem Jcv (n:Nat) (hn1:1≤n) (G0:List IV):∀ (m:Nat) (es:List (Int×Int)) (B:Qac),(Qdq n es).length≤m→Qax n es=true →
 wp tb (.loop Qyx) { T:=[(2,.bptr 0 1 0),(4,.bptr 0 2 0)],loc:=G0::[I 0,Z]::[I n,L2 es false]::B,M:=[] }
  (fun ex st=>(ex=.exit 0∧∃ es' B',(Qax n es'=true∧(Qdq n es').length=1∧Qda n es'=Qda n es)∧st={ T:=[(2,.bptr 0 1 0),(4,.bptr 0 2 0),(23,Bo false)],loc:=G0::[I 0,Z]::[I n,L2 es' false]::B',M:=[] }) ∨
    (ex=.ret∧Qk3 (Qda n es)=false∧∃ B',st={ T:=[(2,.bptr 0 1 0),(3,Bo false)],loc:=G0::[I 0,Z]::B',M:=[] })):=by
 intro m
 induction m with
 | zero =>
   intro es B hm hv
   have hes:∀ e ∈ es,e.1.toNat < n∧e.2.toNat < n:=fun e he=>by have:=Qan.1 ((Qa9.1 hv).2.1 e he);omega
   have:=Qob hn1 hes
   omega
 | succ m ih =>
   intro es B hm hv
   have hin:=(Qa9.1 hv).2.1
   have hn7:=(Qa9.1 hv).2.2
   have h21:=Jmk hn7 hv
   have hes:∀ e ∈ es,e.1.toNat < n∧e.2.toNat < n:=fun e he=>by have:=Qan.1 (hin e he);omega
   have hes4:∀ e ∈ es,0≤e.1∧e.1 < n∧0≤e.2∧e.2 < n:=fun e he=>by have:=Qan.1 (hin e he);omega
   have hpos:=Qob hn1 hes
   have e1:=fun c=>Qaa (Qgz n hn1 hn7 2 es c (.inl rfl) hes4 (by omega))
   obtain ⟨p,P,hP⟩:∃ p P,Qdq n es=p::P:=by
    cases hq:Qdq n es with
    | nil=>rw [hq] at hpos;simp at hpos
    | cons p P=>exact ⟨p,P,rfl⟩
   rw [hP] at e1
   simp only [nlT] at e1
   by_cases hc:(Qdq n es).length=1
   · have hP0:P=[]:=by rw [hP] at hc;simpa using hc
     subst hP0
     refine wW ?_
     repeat (first|apply wA|apply wS|refine wr (by simp [e1];with_reducible rfl) ?_|refine wq (by simp [e1];with_reducible rfl) ?_|refine wt (by simpa [e1]) ?_|refine wf (by simpa [e1]) ?_|refine xt (by simpa [e1]) ?_|refine xf (by simpa [e1]) ?_|apply wB|apply Qab|refine wX ?_|refine wY ?_|refine wR ?_|refine wK ?_|refine wE ?_)
     exact .inl ⟨rfl,es,B,⟨hv,hc,rfl⟩,rfl⟩
   · have hPl:¬ P.length=0:=fun h=>hc (by rw [hP];simp [h])
     have hPl2:¬ (P.length:Int)+1=1:=by omega
     have hPl3:¬ P=[]:=fun h=>hPl (by rw [h];rfl)
     have hnc:¬ Con n es:=fun h=>hc ((Qo4 hn1 hes).2 h)
     have e2:=fun c=>Qaa (Qod n hn1 hn7 2 es c (.inl rfl) hes4 (by omega))
     rw [show Qhv es n (Qc2 n (-1))=rtF n es from rfl] at e2
     have hrl:(rtF n es).length=n:=by rw [rtF,Qjl,Qbl];simp
     have e3:=fun c cc B1=>Qaa (Qet 2 es c (.inl rfl) Qrz [.bptr 0 2 0] [G0::[I 0,Z]::[I n,L2 es false]::(B++[[L (rtF n es) cc]]++B1)] (cyP n es) (by omega) (fun x hx=>Jcx n hn1 es hv (by omega) _ rfl [[]] x hx))
     rcases Qgv (cyP n es) es 0 with ⟨k1,k2⟩ | ⟨k,hk,k1,k2,-⟩
     · rw [show ((0:Nat):Int)=0 from rfl] at k1
       have e3:=fun c cc=>e3 c cc []
       simp only [k1,List.append_nil] at e3
       refine wW ?_
       repeat (first|apply wA|apply wS|refine wr (by simp [e1,hPl,hPl2,hPl3,e2,e3];with_reducible rfl) ?_|refine wq (by simp [e1,hPl,hPl2,hPl3,e2,e3];with_reducible rfl) ?_|refine wt (by simpa [e1,hPl,hPl2,hPl3,e2,e3]) ?_|refine wf (by simpa [e1,hPl,hPl2,hPl3,e2,e3]) ?_|refine xt (by simpa [e1,hPl,hPl2,hPl3,e2,e3]) ?_|refine xf (by simpa [e1,hPl,hPl2,hPl3,e2,e3]) ?_|apply wB|apply Qab|refine wX ?_|refine wY ?_|refine wR ?_|refine wK ?_|refine wE ?_)
       refine .inr ⟨rfl,?_,_,rfl⟩
       cases hcn:Qk3 (Qda n es) with
       | false=>rfl
       | true =>
         obtain ⟨e,he,hs⟩:=Qut hn1 hv hc hcn
         have:=k2 e he
         rw [cyP,decide_eq_false_iff_not] at this
         have hb:=hes e he
         exact absurd ((Qmz (fun x hx=>hes x (List.mem_filter.1 hx).1) hb.1 hb.2).2 hs) this
     · rw [show ((0:Nat):Int)=0 from rfl,Nat.zero_add] at k1
       have e3:=fun c cc=>e3 c cc []
       simp only [k1,List.append_nil] at e3
       have hkn:¬ (k:Int) < 0:=by omega
       obtain ⟨⟨a,b⟩,hab⟩:∃ e,e=es[k]:=⟨_,rfl⟩
       have hab2:=hab.symm
       have heM:((a,b):Int×Int) ∈ es:=by rw [hab];exact List.getElem_mem hk
       have hbe:=hes4 _ heM
       simp only at hbe
       have e4:=fun c cc=>Qaa (Qet 2 es c (.inl rfl) Qtr [.bptr 0 (B.length+1+1+1) 0,.bptr 0 (B.length+1+1+1+1) 0] [G0::[I 0,Z]::[I n,L2 es false]::(B++[[L (rtF n es) cc],[I a,I b]])] (otP (rtF n es) a) (by omega) (fun x hx=>Jee n (rtF n es) hrl a b ⟨hbe.1,hbe.2.1⟩ _ _ _ cc (by simp) (by simp) [[]] x (by have:=hes4 x hx;omega)))
       rcases Qgv (otP (rtF n es) a) es 0 with ⟨j1,j2⟩ | ⟨j,hj,j1,j2,-⟩
       · rw [show ((0:Nat):Int)=0 from rfl] at j1
         simp only [j1] at e4
         refine wW ?_
         repeat (first|apply wA|apply wS|refine wr (by simp [e1,hPl,hPl2,hPl3,e2,e3,hkn,hk,hab2,e4];with_reducible rfl) ?_|refine wq (by simp [e1,hPl,hPl2,hPl3,e2,e3,hkn,hk,hab2,e4];with_reducible rfl) ?_|refine wt (by simpa [e1,hPl,hPl2,hPl3,e2,e3,hkn,hk,hab2,e4]) ?_|refine wf (by simpa [e1,hPl,hPl2,hPl3,e2,e3,hkn,hk,hab2,e4]) ?_|refine xt (by simpa [e1,hPl,hPl2,hPl3,e2,e3,hkn,hk,hab2,e4]) ?_|refine xf (by simpa [e1,hPl,hPl2,hPl3,e2,e3,hkn,hk,hab2,e4]) ?_|apply wB|apply Qab|refine wX ?_|refine wY ?_|refine wR ?_|refine wK ?_|refine wE ?_)
         refine .inr ⟨rfl,?_,_,rfl⟩
         cases hcn:Qk3 (Qda n es) with
         | false=>rfl
         | true =>
           obtain ⟨f,hf,hs⟩:=Qul hv hnc hcn (hes _ heM).1
           have:=j2 f hf
           rw [otP,decide_eq_false_iff_not,Classical.not_not] at this
           exact absurd ((Qmz hes (hes f hf).1 (hes _ heM).1).1 this) hs
       · rw [show ((0:Nat):Int)=0 from rfl,Nat.zero_add] at j1
         simp only [j1] at e4
         have hjn:¬ (j:Int) < 0:=by omega
         obtain ⟨⟨c,d⟩,hcd⟩:∃ e,e=es[j]:=⟨_,rfl⟩
         have hcd2:=hcd.symm
         have hfM:((c,d):Int×Int) ∈ es:=by rw [hcd];exact List.getElem_mem hj
         rw [← hab] at k2
         rw [← hcd] at j2
         have hsm:Qdw (es.filter fun x=>!decide (x=(a,b))) a.toNat b.toNat:=by
          rw [cyP,decide_eq_true_eq] at k2
          exact (Qmz (fun x hx=>hes x (List.mem_filter.1 hx).1) (hes _ heM).1 (hes _ heM).2).1 k2
         have hns:¬ Qdw es c.toNat a.toNat:=fun h=>by
          rw [otP,decide_eq_true_eq] at j2
          exact j2 ((Qmz hes (hes _ hfM).1 (hes _ heM).1).2 h)
         obtain ⟨hmay,hlt⟩:=Qpg hv heM hfM hsm hns
         simp only at hmay hlt
         have hv2:=(Qs7 hv hmay).2.2.1
         have e5:=fun cc=>Qaa (Qy0 n es cc a b c d hv)
         simp only [OS,hmay,if_true] at e5
         have hn:=fun B=>ih (sw es a b c d) B (by omega) hv2
         rw [Jjq hv hmay] at hn
         generalize sw es a b c d=R at *
         refine wW ?_
         repeat (first|apply wA|apply wS|refine wr (by simp [e1,hPl,hPl2,hPl3,e2,e3,hkn,hk,hab2,e4,hjn,hj,hcd2,e5];with_reducible rfl) ?_|refine wq (by simp [e1,hPl,hPl2,hPl3,e2,e3,hkn,hk,hab2,e4,hjn,hj,hcd2,e5];with_reducible rfl) ?_|refine wt (by simpa [e1,hPl,hPl2,hPl3,e2,e3,hkn,hk,hab2,e4,hjn,hj,hcd2,e5]) ?_|refine wf (by simpa [e1,hPl,hPl2,hPl3,e2,e3,hkn,hk,hab2,e4,hjn,hj,hcd2,e5]) ?_|refine xt (by simpa [e1,hPl,hPl2,hPl3,e2,e3,hkn,hk,hab2,e4,hjn,hj,hcd2,e5]) ?_|refine xf (by simpa [e1,hPl,hPl2,hPl3,e2,e3,hkn,hk,hab2,e4,hjn,hj,hcd2,e5]) ?_|apply wB|apply Qab|refine wX ?_|refine wY ?_|refine wR ?_|refine wK ?_|refine wE ?_)
         exact hn _
theorem Qj9 (n:Nat) (hn1:1≤n) (es:List (Int×Int)) (c:Bool) (hv:Qax n es=true) :
 ∃ r,((∃ es',(Qax n es'=true∧(Qdq n es').length=1∧Qda n es'=Qda n es)∧r=.tup [Gr n es' false,Bo true]) ∨ (Qk3 (Qda n es)=false∧r=.tup [.agg [I 0,Z],Bo false])) ∧
   Ev tb Qrv [] [Gr n es c] [] ⟨r,[],[],[]⟩:=by
 have hn7:=(Qa9.1 hv).2.2
 have h21:=Jmk hn7 hv
 have hf:Fit es:=fun e he=>by have:=Qan.1 ((Qa9.1 hv).2.1 e he);omega
 have v1:=fun c=>Qaa (Qco n es c hf (by omega))
 rw [hv] at v1
 have e1:=fun c=>Qaa (Qko 2 es c (.inl rfl) (by omega))
 have loop:=Jcv n hn1 [I n,L2 es c] (Qdq n es).length es [] (Nat.le_refl _) hv
 suffices hh:∃ r,(∃ v,((∃ es',(Qax n es'=true∧(Qdq n es').length=1∧Qda n es'=Qda n es)∧v=.tup [Gr n es' false,Bo true]) ∨ (Qk3 (Qda n es)=false∧v=.tup [.agg [I 0,Z],Bo false]))∧r=⟨v,[],[],[]⟩)∧Ev tb Qrv [] [Gr n es c] [] r by
  obtain ⟨r,⟨v,hv,rfl⟩,h⟩:=hh
  exact ⟨v,hv,h⟩
 refine Qe8 Jr3 rfl ?_
 repeat (first|apply wA|apply wS|refine wr (by simp [v1];with_reducible rfl) ?_|refine wq (by simp [v1];with_reducible rfl) ?_|refine wt (by simpa [v1]) ?_|refine wf (by simpa [v1]) ?_|refine xt (by simpa [v1]) ?_|refine xf (by simpa [v1]) ?_|apply wB|apply Qab|refine wX ?_|refine wY ?_|refine wR ?_|refine wK ?_|refine wE ?_)
 refine Qw0 rfl (by simp [e1];with_reducible rfl) (by simp;with_reducible rfl) ?_
 repeat (first|apply wA|apply wS|refine wr (by simp;with_reducible rfl) ?_|refine wq (by simp;with_reducible rfl) ?_|refine wt (by simpa) ?_|refine wf (by simpa) ?_|refine xt (by simpa) ?_|refine xf (by simpa) ?_|apply wB|apply Qab|refine wX ?_|refine wY ?_|refine wR ?_|refine wK ?_|refine wE ?_)
 refine Qaf loop ?_
 rintro ex st (⟨rfl,es',B',h1,rfl⟩ | ⟨rfl,h1,B',rfl⟩)
 · simp only [if_true]
   repeat (first|apply wA|apply wS|refine wr (by simp;with_reducible rfl) ?_|refine wq (by simp;with_reducible rfl) ?_|refine wt (by simpa) ?_|refine wf (by simpa) ?_|refine xt (by simpa) ?_|refine xf (by simpa) ?_|apply wB|apply Qab|refine wX ?_|refine wY ?_|refine wR ?_|refine wK ?_|refine wE ?_)
   refine ⟨.inr rfl,_,⟨_,.inl ⟨es',h1,rfl⟩,rfl⟩,?_⟩
   simp [Qu2]
 · refine ⟨.inr rfl,_,⟨_,.inr ⟨h1,rfl⟩,rfl⟩,?_⟩
   simp [Qu2]
theorem Qkc (es:List (Int×Int)) (c:Bool):Ev tb Qrt [] [Gr 0 es c] [] ⟨Z,[],[],[]⟩:=by
 have e1:Qcg tb Qp2 [] [I 0,I (-1)] []=some ⟨Z,[],[],[]⟩:=Qaa (Qf3 0 (-1) (by omega))
 have e2:Qcg tb Qms [] [Gr 0 es c] []=some ⟨Z,[],[],[]⟩:=by
  refine Qaa ?_
  refine cW Jh1 rfl ?_
  repeat (first|apply wA|apply wS|refine wr (by simp [e1];with_reducible rfl) ?_|refine wq (by simp [e1];with_reducible rfl) ?_|refine wt (by simpa [e1]) ?_|refine wf (by simpa [e1]) ?_|refine xt (by simpa [e1]) ?_|refine xf (by simpa [e1]) ?_|apply wB|apply Qab|refine wX ?_|refine wY ?_|refine wR ?_|refine wK ?_|refine wE ?_)
  refine wW ?_
  repeat (first|apply wA|apply wS|refine wr (by simp;with_reducible rfl) ?_|refine wq (by simp;with_reducible rfl) ?_|refine wt (by simpa) ?_|refine wf (by simpa) ?_|refine xt (by simpa) ?_|refine xf (by simpa) ?_|apply wB|apply Qab|refine wX ?_|refine wY ?_|refine wR ?_|refine wK ?_|refine wE ?_)
  simp [Quy]
 have e3:=Qaa (Qsm [])
 simp only [nlT] at e3
 refine cW Jz7 rfl ?_
 repeat (first|apply wA|apply wS|refine wr (by simp [e2];with_reducible rfl) ?_|refine wq (by simp [e2];with_reducible rfl) ?_|refine wt (by simpa [e2]) ?_|refine wf (by simpa [e2]) ?_|refine xt (by simpa [e2]) ?_|refine xf (by simpa [e2]) ?_|apply wB|apply Qab|refine wX ?_|refine wY ?_|refine wR ?_|refine wK ?_|refine wE ?_)
 refine wW ?_
 repeat (first|apply wA|apply wS|refine wr (by simp [e3];with_reducible rfl) ?_|refine wq (by simp [e3];with_reducible rfl) ?_|refine wt (by simpa [e3]) ?_|refine wf (by simpa [e3]) ?_|refine xt (by simpa [e3]) ?_|refine xf (by simpa [e3]) ?_|apply wB|apply Qab|refine wX ?_|refine wY ?_|refine wR ?_|refine wK ?_|refine wE ?_)
 simp [Qup]
theorem Qug (es:List (Int×Int)) (c:Bool):Ev tb Qms [] [Gr 0 es c] [] ⟨Z,[],[],[]⟩:=by
 have e1:Qcg tb Qp2 [] [I 0,I (-1)] []=some ⟨Z,[],[],[]⟩:=Qaa (Qf3 0 (-1) (by omega))
 refine cW Jh1 rfl ?_
 repeat (first|apply wA|apply wS|refine wr (by simp [e1];with_reducible rfl) ?_|refine wq (by simp [e1];with_reducible rfl) ?_|refine wt (by simpa [e1]) ?_|refine wf (by simpa [e1]) ?_|refine xt (by simpa [e1]) ?_|refine xf (by simpa [e1]) ?_|apply wB|apply Qab|refine wX ?_|refine wY ?_|refine wR ?_|refine wK ?_|refine wE ?_)
 refine wW ?_
 repeat (first|apply wA|apply wS|refine wr (by simp;with_reducible rfl) ?_|refine wq (by simp;with_reducible rfl) ?_|refine wt (by simpa) ?_|refine wf (by simpa) ?_|refine xt (by simpa) ?_|refine xf (by simpa) ?_|apply wB|apply Qab|refine wX ?_|refine wY ?_|refine wR ?_|refine wK ?_|refine wE ?_)
 simp [Quy]
theorem Qef (e0:Nat) (c:Bool) (v1:Qcg tb Qzx [] [.agg [I 0,.lst e0 [] c]] []=some ⟨Bo true,[],[],[]⟩):Ev tb Qrv [] [.agg [I 0,.lst e0 [] c]] [] ⟨.tup [.agg [I 0,Z],Bo false],[],[],[]⟩:=by
 have e1:=Qaa (Qko e0 [] c (.inr rfl) (by simp))
 have e2:=fun c=>Qaa (Qkc [] c)
 have e3:=fun c=>Qaa (Qug [] c)
 have e4:=fun cc=>Qaa (Qet 2 [] cc (.inl rfl) Qrz [.bptr 0 2 0] [[[I 0,.lst e0 [] c],[I 0,Z],[I 0,.lst 2 [] false],[Z]]] (fun _=>false) (by simp) (fun x hx=>by cases hx))
 rw [show Qpr (fun _=>false) 0 []=-1 from rfl] at e4
 simp only [O2,Gr,L2,Qql] at e1 e2 e3 e4
 refine cW Jr3 rfl ?_
 repeat (first|apply wA|apply wS|refine wr (by simp [v1];with_reducible rfl) ?_|refine wq (by simp [v1];with_reducible rfl) ?_|refine wt (by simpa [v1]) ?_|refine wf (by simpa [v1]) ?_|refine xt (by simpa [v1]) ?_|refine xf (by simpa [v1]) ?_|apply wB|apply Qab|refine wX ?_|refine wY ?_|refine wR ?_|refine wK ?_|refine wE ?_)
 refine Qw0 rfl (by simp [e1];with_reducible rfl) (by simp;with_reducible rfl) ?_
 repeat (first|apply wA|apply wS|refine wr (by simp;with_reducible rfl) ?_|refine wq (by simp;with_reducible rfl) ?_|refine wt (by simpa) ?_|refine wf (by simpa) ?_|refine xt (by simpa) ?_|refine xf (by simpa) ?_|apply wB|apply Qab|refine wX ?_|refine wY ?_|refine wR ?_|refine wK ?_|refine wE ?_)
 refine wW ?_
 repeat (first|apply wA|apply wS|refine wr (by simp [e2,e3,e4];with_reducible rfl) ?_|refine wq (by simp [e2,e3,e4];with_reducible rfl) ?_|refine wt (by simpa [e2,e3,e4]) ?_|refine wf (by simpa [e2,e3,e4]) ?_|refine xt (by simpa [e2,e3,e4]) ?_|refine xf (by simpa [e2,e3,e4]) ?_|apply wB|apply Qab|refine wX ?_|refine wY ?_|refine wR ?_|refine wK ?_|refine wE ?_)
 simp [Qu2]
end Go.Idl
namespace Go.Idl
open Go
theorem Qq7 (x:Int) (r:List Int) (c:Bool) (hl:r.length≤1000000):Ev tb Qz3 [] [L (x::r) c] [] ⟨I (Qcr x r),[],[],[]⟩:=by
 have loop:∀ (m i:Nat) (y:Int),i+m=(x::r).length→wp tb (.loop Jg7) { T:=[(0,L (x::r) c),(3,I y),(4,I i)],loc:=[],M:=[] }
  (fun ex st=>ex=.exit 0∧st={ T:=[(0,L (x::r) c),(3,I (Qcr y ((x::r).drop i))),(4,I (x::r).length),(11,Bo false)],loc:=[],M:=[] }):=by
  generalize hd:x::r=d at *
  have hdl:d.length≤1000001:=by rw [← hd];simp;omega
  intro m
  induction m with
  | zero =>
    intro i y hi
    obtain ⟨h1,h2⟩:=Qcz hi
    have h3:i=d.length:=hi
    subst h3
    refine wW ?_
    repeat (first|apply wA|apply wS|refine wr (by simp;with_reducible rfl) ?_|refine wq (by simp;with_reducible rfl) ?_|refine wt (by simpa) ?_|refine wf (by simpa) ?_|refine xt (by simpa) ?_|refine xf (by simpa) ?_|apply wB|apply Qab|refine wX ?_|refine wY ?_|refine wR ?_|refine wK ?_|refine wE ?_)
    rw [h2];exact ⟨rfl,rfl⟩
  | succ m ih =>
    intro i y hi
    obtain ⟨hi2,h2,h3⟩:=Qcw hi
    have w2:IntKind.i64.wrap ((i:Int)+1)=((i+1:Nat):Int):=Qa8 (by omega)
    have hm:(if d[i] < y then d[i] else y)=min y d[i]:=by split <;> omega
    rw [h2,Qcr]
    refine wW ?_
    repeat (first|apply wA|apply wS|refine wr (by simp [hi2,w2,hm];with_reducible rfl) ?_|refine wq (by simp [hi2,w2,hm];with_reducible rfl) ?_|refine wt (by simpa [hi2,w2,hm]) ?_|refine wf (by simpa [hi2,w2,hm]) ?_|refine xt (by simpa [hi2,w2,hm]) ?_|refine xf (by simpa [hi2,w2,hm]) ?_|apply wB|apply Qab|refine wX ?_|refine wY ?_|refine wR ?_|refine wK ?_|refine wE ?_)
    exact ih (i+1) (min y d[i]) (by omega)
 have hx:Qcr x ((x::r).drop 0)=Qcr x r:=by
  simp only [List.drop_zero,Qcr]
  congr 1;omega
 have hlo:=loop (x::r).length 0 x (by simp)
 rw [hx] at hlo
 refine cW zt376 rfl ?_
 repeat (first|apply wA|apply wS|refine wr (by simp;with_reducible rfl) ?_|refine wq (by simp;with_reducible rfl) ?_|refine wt (by simpa) ?_|refine wf (by simpa) ?_|refine xt (by simpa) ?_|refine xf (by simpa) ?_|apply wB|apply Qab|refine wX ?_|refine wY ?_|refine wR ?_|refine wK ?_|refine wE ?_)
 refine Qaf hlo ?_
 rintro ex st ⟨rfl,rfl⟩
 try simp only [if_true]
 repeat (first|apply wA|apply wS|refine wr (by simp;with_reducible rfl) ?_|refine wq (by simp;with_reducible rfl) ?_|refine wt (by simpa) ?_|refine wf (by simpa) ?_|refine xt (by simpa) ?_|refine xf (by simpa) ?_|apply wB|apply Qab|refine wX ?_|refine wY ?_|refine wR ?_|refine wK ?_|refine wE ?_)
 simp [Jd2]
end Go.Idl
namespace Go.Idl
open Go
def Jg3 (d:List Int):Bool:=decide (d.length=1) || (decide (1 < d.length) && (Qbn d && (Qhf d && decide (2 * ((d.length:Int) - 1)≤d.sum))))
theorem Qfj (d:List Int) (c:Bool) (hl:d.length≤1000000):Ev tb Qt5 [] [L d c] [] ⟨Bo (Qcm d && Jg3 d),[],[],[]⟩:=by
 have e1:=Qaa (Qkj d c hl)
 cases hv:Qcm d with
 | false =>
   rw [hv] at e1
   refine cW Jxq rfl ?_
   repeat (first|apply wA|apply wS|refine wr (by simp [e1];with_reducible rfl) ?_|refine wq (by simp [e1];with_reducible rfl) ?_|refine wt (by simpa [e1]) ?_|refine wf (by simpa [e1]) ?_|refine xt (by simpa [e1]) ?_|refine xf (by simpa [e1]) ?_|apply wB|apply Qab|refine wX ?_|refine wY ?_|refine wR ?_|refine wK ?_|refine wE ?_)
   simp [Qws]
 | true =>
 rw [hv] at e1
 have hf:=Qbw hv
 have e2:=Qaa (Qkr d c hf.small)
 have eg:=Qaa (Qqc d c hv)
 have h7:=hf.1
 have e4:Qcg tb Qww [] [L d c] []=some ⟨Bo (Jg3 d),[],[],[]⟩:=by
  refine Qaa ?_
  cases d with
  | nil =>
    refine cW Que rfl ?_
    repeat (first|apply wA|apply wS|refine wr (by simp;with_reducible rfl) ?_|refine wq (by simp;with_reducible rfl) ?_|refine wt (by simpa) ?_|refine wf (by simpa) ?_|refine xt (by simpa) ?_|refine xf (by simpa) ?_|apply wB|apply Qab|refine wX ?_|refine wY ?_|refine wR ?_|refine wK ?_|refine wE ?_)
    simp [Qmp,Jg3]
  | cons x r =>
  have e3:=Qaa (Qq7 x r c (by simp at h7;omega))
  have w1:IntKind.i64.wrap (r.length:Int)=(r.length:Int):=Qad (by omega) (by simp at h7;omega)
  have w2:IntKind.i64.wrap (2 * (r.length:Int))=2 * (r.length:Int):=Qad (by omega) (by simp at h7;omega)
  by_cases h1:r=[]
  · subst h1
    refine cW Que rfl ?_
    repeat (first|apply wA|apply wS|refine wr (by simp;with_reducible rfl) ?_|refine wq (by simp;with_reducible rfl) ?_|refine wt (by simpa) ?_|refine wf (by simpa) ?_|refine xt (by simpa) ?_|refine xf (by simpa) ?_|apply wB|apply Qab|refine wX ?_|refine wY ?_|refine wR ?_|refine wK ?_|refine wE ?_)
    simp [Qmp,Jg3]
  · have h2:¬ r.length=0:=fun h=>h1 (List.length_eq_zero_iff.1 h)
    have h3:¬ (r.length:Int)=0:=by omega
    have h4:¬ (r.length:Int)+1=1:=by omega
    have h5:(1:Int) < (r.length:Int)+1:=by omega
    have h6:(0:Int) < (r.length:Int):=by omega
    have h6':0 < r.length:=by omega
    have hcs:Jg3 (x::r)=(Qbn (x::r) && (Qhf (x::r) && decide (2 * (r.length:Int)≤(x::r).sum))):=by
     rw [Jg3,decide_eq_false (by simpa using h1),decide_eq_true (by simpa using h6'),Bool.false_or,Bool.true_and]
     have e:2 * ((((x::r).length:Nat):Int) - 1)=2 * (r.length:Int):=by simp only [List.length_cons];omega
     simp only [e]
    rw [hcs,show Qhf (x::r)=decide (0 < Qcr x r) from Qyu.symm]
    cases hg:Qbn (x::r) with
    | false =>
      rw [hg] at eg
      refine cW Que rfl ?_
      repeat (first|apply wA|apply wS|refine wr (by simp [eg,h1,h2,h3,h4,h5,h6];with_reducible rfl) ?_|refine wq (by simp [eg,h1,h2,h3,h4,h5,h6];with_reducible rfl) ?_|refine wt (by simpa [eg,h1,h2,h3,h4,h5,h6]) ?_|refine wf (by simpa [eg,h1,h2,h3,h4,h5,h6]) ?_|refine xt (by simpa [eg,h1,h2,h3,h4,h5,h6]) ?_|refine xf (by simpa [eg,h1,h2,h3,h4,h5,h6]) ?_|apply wB|apply Qab|refine wX ?_|refine wY ?_|refine wR ?_|refine wK ?_|refine wE ?_)
      simp [Qmp]
    | true =>
    rw [hg] at eg
    generalize (x::r).sum=s at *
    by_cases hp:0 < Qcr x r
    · by_cases hs:2 * (r.length:Int)≤s
      · refine cW Que rfl ?_
        repeat (first|apply wA|apply wS|refine wr (by simp [eg,e2,e3,h1,h2,h3,h4,h5,h6,hp,w1,w2,hs];with_reducible rfl) ?_|refine wq (by simp [eg,e2,e3,h1,h2,h3,h4,h5,h6,hp,w1,w2,hs];with_reducible rfl) ?_|refine wt (by simpa [eg,e2,e3,h1,h2,h3,h4,h5,h6,hp,w1,w2,hs]) ?_|refine wf (by simpa [eg,e2,e3,h1,h2,h3,h4,h5,h6,hp,w1,w2,hs]) ?_|refine xt (by simpa [eg,e2,e3,h1,h2,h3,h4,h5,h6,hp,w1,w2,hs]) ?_|refine xf (by simpa [eg,e2,e3,h1,h2,h3,h4,h5,h6,hp,w1,w2,hs]) ?_|apply wB|apply Qab|refine wX ?_|refine wY ?_|refine wR ?_|refine wK ?_|refine wE ?_)
        simp [Qmp,hp,hs]
      · refine cW Que rfl ?_
        repeat (first|apply wA|apply wS|refine wr (by simp [eg,e2,e3,h1,h2,h3,h4,h5,h6,hp,w1,w2,hs];with_reducible rfl) ?_|refine wq (by simp [eg,e2,e3,h1,h2,h3,h4,h5,h6,hp,w1,w2,hs];with_reducible rfl) ?_|refine wt (by simpa [eg,e2,e3,h1,h2,h3,h4,h5,h6,hp,w1,w2,hs]) ?_|refine wf (by simpa [eg,e2,e3,h1,h2,h3,h4,h5,h6,hp,w1,w2,hs]) ?_|refine xt (by simpa [eg,e2,e3,h1,h2,h3,h4,h5,h6,hp,w1,w2,hs]) ?_|refine xf (by simpa [eg,e2,e3,h1,h2,h3,h4,h5,h6,hp,w1,w2,hs]) ?_|apply wB|apply Qab|refine wX ?_|refine wY ?_|refine wR ?_|refine wK ?_|refine wE ?_)
        simp [Qmp,hp,hs]
    · refine cW Que rfl ?_
      repeat (first|apply wA|apply wS|refine wr (by simp [eg,e2,e3,h1,h2,h3,h4,h5,h6,hp,w1,w2];with_reducible rfl) ?_|refine wq (by simp [eg,e2,e3,h1,h2,h3,h4,h5,h6,hp,w1,w2];with_reducible rfl) ?_|refine wt (by simpa [eg,e2,e3,h1,h2,h3,h4,h5,h6,hp,w1,w2]) ?_|refine wf (by simpa [eg,e2,e3,h1,h2,h3,h4,h5,h6,hp,w1,w2]) ?_|refine xt (by simpa [eg,e2,e3,h1,h2,h3,h4,h5,h6,hp,w1,w2]) ?_|refine xf (by simpa [eg,e2,e3,h1,h2,h3,h4,h5,h6,hp,w1,w2]) ?_|apply wB|apply Qab|refine wX ?_|refine wY ?_|refine wR ?_|refine wK ?_|refine wE ?_)
      simp [Qmp,hp]
 refine cW Jxq rfl ?_
 repeat (first|apply wA|apply wS|refine wr (by simp [e1,e4];with_reducible rfl) ?_|refine wq (by simp [e1,e4];with_reducible rfl) ?_|refine wt (by simpa [e1,e4]) ?_|refine wf (by simpa [e1,e4]) ?_|refine xt (by simpa [e1,e4]) ?_|refine xf (by simpa [e1,e4]) ?_|apply wB|apply Qab|refine wX ?_|refine wY ?_|refine wR ?_|refine wK ?_|refine wE ?_)
 simp [Qws]
theorem Qf8 (code:List Int) (c:Bool) (h:∀ x ∈ code,0≤x∧x≤255) (hl:code.length≤10000000) :
 ∃ d:List Int,d.length≤8∧Low 1000 d∧Qcg tb Qwi [] [.lst 1 (bytes code) c] []=some ⟨O d,[],[],[]⟩:=by
 obtain ⟨c',e⟩:=Qon code c [[]] (by omega)
 have e1:=Qaa e
 obtain ⟨v,k1,hv,hk1,e2⟩:=Qlb (code.take 2000) c' (Qmb h) 0 (by omega) 4 (by omega) [] []
 rw [show ((0:Nat):Int)=0 from rfl] at e2
 by_cases hv0:v=0
 · subst hv0
   obtain ⟨d0,k2,h1,h2,hk2,e3⟩:=Jen (code.take 2000) c' (Qmb h) k1 (by omega) [] []
   obtain ⟨d,k3,h3,h4,hk3,e4⟩:=Qj6 (code.take 2000) c' (Qmb h) k2 (by omega) d0 (by omega) h2 [] []
   refine ⟨d,by omega,h4,Qaa ?_⟩
   refine cW Jzn rfl ?_
   repeat (first|apply wA|apply wS|refine wr (by simp [e1,e2,e3,e4];with_reducible rfl) ?_|refine wq (by simp [e1,e2,e3,e4];with_reducible rfl) ?_|refine wt (by simpa [e1,e2,e3,e4]) ?_|refine wf (by simpa [e1,e2,e3,e4]) ?_|refine xt (by simpa [e1,e2,e3,e4]) ?_|refine xf (by simpa [e1,e2,e3,e4]) ?_|apply wB|apply Qab|refine wX ?_|refine wY ?_|refine wR ?_|refine wK ?_|refine wE ?_)
   simp [Jaw]
 have hv0':¬ (v:Int)=0:=by omega
 obtain ⟨d,k,h1,h2,h3,e3⟩:=Qny (code.take 2000) c' (Qmb h) k1 (by omega) [] []
 refine ⟨d,h1,h2,Qaa ?_⟩
 refine cW Jzn rfl ?_
 repeat (first|apply wA|apply wS|refine wr (by simp [e1,e2,e3,hv0,hv0'];with_reducible rfl) ?_|refine wq (by simp [e1,e2,e3,hv0,hv0'];with_reducible rfl) ?_|refine wt (by simpa [e1,e2,e3,hv0,hv0']) ?_|refine wf (by simpa [e1,e2,e3,hv0,hv0']) ?_|refine xt (by simpa [e1,e2,e3,hv0,hv0']) ?_|refine xf (by simpa [e1,e2,e3,hv0,hv0']) ?_|apply wB|apply Qab|refine wX ?_|refine wY ?_|refine wR ?_|refine wK ?_|refine wE ?_)
 simp [Jaw]
structure Jt1 (d:List Int):Prop where
 same:Jg3 d=Qk3 d
 none:Qh5 d=none→Qk3 d=false
 some:∀ es,Qh5 d=some es→Qax d.length (Qgm es)=true∧Qda d.length (Qgm es)=d
theorem ev_FnIsConnectable (law:∀ d,Qcm d=true→Jt1 d) (code:List Int) (c:Bool) (h:∀ x ∈ code,0≤x∧x≤255) :
 Ev tb Jdd [] [.lst 1 (bytes code) c] [] ⟨Bo true,[],[],[]⟩:=by
 by_cases hc:(1048576:Int) < code.length
 · refine cW Qus rfl ?_
   repeat (first|apply wA|apply wS|refine wr (by simp [hc];with_reducible rfl) ?_|refine wq (by simp [hc];with_reducible rfl) ?_|refine wt (by simpa [hc]) ?_|refine wf (by simpa [hc]) ?_|refine xt (by simpa [hc]) ?_|refine xf (by simpa [hc]) ?_|apply wB|apply Qab|refine wX ?_|refine wY ?_|refine wR ?_|refine wK ?_|refine wE ?_)
   simp [Qnt]
 obtain ⟨d,hd,hlo,e1⟩:=Qf8 code c h (by omega)
 have v1:=Qaa (Qcn d false (by omega))
 have e2:=Qaa (Qja d false (by omega))
 have e3:=Qaa (Qfj d false (by omega))
 cases hv:Qcm d with
 | false =>
   rw [hv] at v1 e3
   rw [show Qk3 d=false by simp [Qk3,Qbn,hv]] at e2
   simp only [Bool.false_and] at e3
   refine cW Qus rfl ?_
   repeat (first|apply wA|apply wS|refine wr (by simp [hc,e1,e2,e3,v1];with_reducible rfl) ?_|refine wq (by simp [hc,e1,e2,e3,v1];with_reducible rfl) ?_|refine wt (by simpa [hc,e1,e2,e3,v1]) ?_|refine wf (by simpa [hc,e1,e2,e3,v1]) ?_|refine xt (by simpa [hc,e1,e2,e3,v1]) ?_|refine xf (by simpa [hc,e1,e2,e3,v1]) ?_|apply wB|apply Qab|refine wX ?_|refine wY ?_|refine wR ?_|refine wK ?_|refine wE ?_)
   simp [Qnt]
 | true =>
 rw [hv] at v1 e3
 obtain ⟨l1,l2,l3⟩:=law d hv
 rw [l1,Bool.true_and] at e3
 have e4:=Qaa (Qh8 d false hv)
 cases hr:Qh5 d with
 | none =>
   have hcn:=l2 hr
   rw [hcn] at e2 e3
   simp only [hr,Option.map_none] at e4
   have z1:=Qaa (Qj1 0)
   rw [show Qax 0 []=true from rfl] at z1
   have e5:=Qaa (Qef 0 true z1)
   refine cW Qus rfl ?_
   repeat (first|apply wA|apply wS|refine wr (by simp [hc,e1,e2,e3,v1,e4,e5];with_reducible rfl) ?_|refine wq (by simp [hc,e1,e2,e3,v1,e4,e5];with_reducible rfl) ?_|refine wt (by simpa [hc,e1,e2,e3,v1,e4,e5]) ?_|refine wf (by simpa [hc,e1,e2,e3,v1,e4,e5]) ?_|refine xt (by simpa [hc,e1,e2,e3,v1,e4,e5]) ?_|refine xf (by simpa [hc,e1,e2,e3,v1,e4,e5]) ?_|apply wB|apply Qab|refine wX ?_|refine wY ?_|refine wR ?_|refine wK ?_|refine wE ?_)
   simp [Qnt]
 | some es =>
   obtain ⟨g1,g2⟩:=l3 es hr
   simp only [hr,Option.map_some,RR] at e4
   generalize Qgm es=xs at *
   have hn7:=(Qa9.1 g1).2.2
   have h21:=Jmk hn7 g1
   have hf:Fit xs:=fun e he=>by have:=Qan.1 ((Qa9.1 g1).2.1 e he);omega
   by_cases h0:d.length=0
   · have hxs:xs=[]:=by
      cases xs with
      | nil=>rfl
      | cons e r=>have:=Qan.1 ((Qa9.1 g1).2.1 e (by simp));omega
     subst hxs
     have z1:=Qaa (Qco 0 [] false (fun e he=>by cases he) (by simp))
     rw [show Qax 0 []=true from rfl] at z1
     simp only [Gr,L2,Qql] at z1
     have e5:=Qaa (Qef 2 false z1)
     have hcn:Qk3 d=false:=by rw [Qk3,decide_eq_false (show ¬ 0 < d.length by omega)];simp
     rw [hcn] at e2 e3
     have hd0:(d.length:Int)=0:=by omega
     rw [hd0] at e4
     simp only [OG,O2,Qql] at e4
     refine cW Qus rfl ?_
     repeat (first|apply wA|apply wS|refine wr (by simp [hc,e1,e2,e3,v1,e4,e5];with_reducible rfl) ?_|refine wq (by simp [hc,e1,e2,e3,v1,e4,e5];with_reducible rfl) ?_|refine wt (by simpa [hc,e1,e2,e3,v1,e4,e5]) ?_|refine wf (by simpa [hc,e1,e2,e3,v1,e4,e5]) ?_|refine xt (by simpa [hc,e1,e2,e3,v1,e4,e5]) ?_|refine xf (by simpa [hc,e1,e2,e3,v1,e4,e5]) ?_|apply wB|apply Qab|refine wX ?_|refine wY ?_|refine wR ?_|refine wK ?_|refine wE ?_)
     simp [Qnt]
   obtain ⟨r,hr2,hev⟩:=Qj9 d.length (by omega) xs false g1
   have e5:=Qaa hev
   rw [g2] at hr2
   rcases hr2 with ⟨es',⟨q1,q2,q3⟩,rfl⟩ | ⟨q1,rfl⟩
   · have hes':∀ e ∈ es',e.1.toNat < d.length∧e.2.toNat < d.length:=fun e he=>by have:=Qan.1 ((Qa9.1 q1).2.1 e he);omega
     have hcn:Qk3 d=true:=by
      rw [← q3]
      exact Jd7 (by omega) q1 ((Qo4 (by omega) hes').1 q2)
     rw [hcn] at e2 e3
     have hf':Fit es':=fun e he=>by have:=Qan.1 ((Qa9.1 q1).2.1 e he);omega
     have h21':=Jmk hn7 q1
     have z1:=Qaa (Qco d.length es' false hf' (by omega))
     rw [q1] at z1
     have e6:=Qaa (Qlj d.length (by omega) 2 es' false (.inl rfl) (by omega) q1 z1)
     rw [decide_eq_true q2] at e6
     have e7:=Qaa (Qie d.length es' false hf' (by omega) q1)
     rw [q3] at e7
     have e8:=Qaa (Qqa d d false false (by omega) (by omega))
     refine cW Qus rfl ?_
     repeat (first|apply wA|apply wS|refine wr (by simp [hc,e1,e2,e3,v1,e4,e5,e6,e7,e8];with_reducible rfl) ?_|refine wq (by simp [hc,e1,e2,e3,v1,e4,e5,e6,e7,e8];with_reducible rfl) ?_|refine wt (by simpa [hc,e1,e2,e3,v1,e4,e5,e6,e7,e8]) ?_|refine wf (by simpa [hc,e1,e2,e3,v1,e4,e5,e6,e7,e8]) ?_|refine xt (by simpa [hc,e1,e2,e3,v1,e4,e5,e6,e7,e8]) ?_|refine xf (by simpa [hc,e1,e2,e3,v1,e4,e5,e6,e7,e8]) ?_|apply wB|apply Qab|refine wX ?_|refine wY ?_|refine wR ?_|refine wK ?_|refine wE ?_)
     simp [Qnt]
   · rw [q1] at e2 e3
     refine cW Qus rfl ?_
     repeat (first|apply wA|apply wS|refine wr (by simp [hc,e1,e2,e3,v1,e4,e5];with_reducible rfl) ?_|refine wq (by simp [hc,e1,e2,e3,v1,e4,e5];with_reducible rfl) ?_|refine wt (by simpa [hc,e1,e2,e3,v1,e4,e5]) ?_|refine wf (by simpa [hc,e1,e2,e3,v1,e4,e5]) ?_|refine xt (by simpa [hc,e1,e2,e3,v1,e4,e5]) ?_|refine xf (by simpa [hc,e1,e2,e3,v1,e4,e5]) ?_|apply wB|apply Qab|refine wX ?_|refine wY ?_|refine wR ?_|refine wK ?_|refine wE ?_)
     simp [Qnt]
end Go.Idl
namespace Go.Idl
theorem cnLaw:∀ d,Qcm d=true→Jt1 d:=fun d hv=>by
 refine ⟨?_,fun hr=>?_,(Jli d hv).2⟩
 · rw [Jg3,Qk3]
   by_cases h1:d.length=1
   · obtain ⟨x,rfl⟩:∃ x,d=[x]:=by
      cases d with
      | nil=>simp at h1
      | cons x r=>exact ⟨x,by rw [show r=[] by simpa using h1]⟩
     have hm:=Qoo hv x (by simp)
     have hx:x=0:=by simp at hm;omega
     subst hx
     rfl
   · by_cases h0:d.length=0
     · have:d=[]:=List.length_eq_zero_iff.1 h0
       subst this
       rfl
     · rw [decide_eq_false h1,decide_eq_true (show 1 < d.length by omega),decide_eq_true (show 0 < d.length by omega)]
       simp only [Bool.false_or,Bool.true_and]
       rw [show 2 * ((d.length:Int) - 1)=2 * (d.length:Int) - 2 by omega]
 · have:=Qu6 hv
   rw [hr] at this
   rw [Qk3,← this];rfl
end Go.Idl
