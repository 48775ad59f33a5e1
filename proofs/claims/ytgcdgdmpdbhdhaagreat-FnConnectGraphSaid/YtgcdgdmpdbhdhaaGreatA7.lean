/- Part 7 of a proof by an ideal interpreter of the code: its definitions and lemmas. Conditions: none. -/
import Derived.KernelRfl
import Derived.Test.YtgcdgdmpdbhdhaaGreatA6
set_option linter.all false
set_option linter.unusedVariables false
set_option linter.unusedSimpArgs false
namespace Go.Idl
open Go
def nlT:List (List Int)→IV
 | []=>Z
 | x::r=>OT (x::r)
theorem Qm8 (t:List (List Int)):Ev tb Qva [] [nlT t] [] ⟨nlT t,[],[],[]⟩:=by
 cases t with
 | nil =>
   simp only [nlT]
   refine cW Jwo rfl ?_
   repeat (first|apply wA|apply wS|refine wr (by simp;with_reducible rfl) ?_|refine wq (by simp;with_reducible rfl) ?_|refine wt (by simpa) ?_|refine wf (by simpa) ?_|refine xt (by simpa) ?_|refine xf (by simpa) ?_|apply wB|apply Qab|refine wX ?_|refine wY ?_|refine wR ?_|refine wK ?_|refine wE ?_)
   simp [Qwy]
 | cons x t =>
   simp only [nlT]
   have h2:(oab (x::t)).take (t.length+1)=oab (x::t):=List.take_of_length_le (by simp)
   refine cW Jwo rfl ?_
   repeat (first|apply wA|apply wS|refine wr (by simp [h2];with_reducible rfl) ?_|refine wq (by simp [h2];with_reducible rfl) ?_|refine wt (by simpa [h2]) ?_|refine wf (by simpa [h2]) ?_|refine xt (by simpa [h2]) ?_|refine xf (by simpa [h2]) ?_|apply wB|apply Qab|refine wX ?_|refine wY ?_|refine wR ?_|refine wK ?_|refine wE ?_)
   simp [Qwy,h2]
def inP (rt:List Int) (r:Int) (v:Int):Bool:=decide (rt.getD v.toNat 0=r)
def isR (rt:List Int) (v:Int):Bool:=inP rt v v
def Qii (n:Nat) (rt:List Int) (i:Nat):List (List Int):=((rgF n i).filter (isR rt)).map fun r=>(rgF n 0).filter (inP rt r)
theorem co_in (n:Nat) (hn:n≤7) (rt:List Int) (hl:rt.length=n) (acc:List (List Int)) (r:Nat) (B:Qac):∀ (m i:Nat) (part:List Int),i+m=n→part.length≤i →
 wp tb (.loop Ql6) { T:=[(3,nlT acc),(4,O rt),(5,I r),(6,nlI part),(12,I n),(13,I r),(22,.arr (.S 4) 0 [] 1 0 n false),(23,I n),(24,I i)],loc:=B,M:=[] }
  (fun ex st=>ex=.exit 2∧st={ T:=[(3,nlT acc),(4,O rt),(5,I r),(6,nlI (part++(rgF n i).filter (inP rt r))),(12,I n),(13,I r),(22,.arr (.S 4) 0 [] 1 0 n false),(23,I n),(24,I n),(25,Bo false)],loc:=B,M:=[] }):=by
 intro m
 induction m with
 | zero =>
   intro i part hi hp
   have h3:i=n:=hi
   subst h3
   rw [Ql7,List.filter_nil,List.append_nil]
   cases acc <;> cases part <;> simp only [nlT,nlI]
   · refine wW ?_
     repeat (first|apply wA|apply wS|refine wr (by simp;with_reducible rfl) ?_|refine wq (by simp;with_reducible rfl) ?_|refine wt (by simpa) ?_|refine wf (by simpa) ?_|refine xt (by simpa) ?_|refine xf (by simpa) ?_|apply wB|apply Qab|refine wX ?_|refine wY ?_|refine wR ?_|refine wK ?_|refine wE ?_)
     exact ⟨rfl,rfl⟩
   · refine wW ?_
     repeat (first|apply wA|apply wS|refine wr (by simp;with_reducible rfl) ?_|refine wq (by simp;with_reducible rfl) ?_|refine wt (by simpa) ?_|refine wf (by simpa) ?_|refine xt (by simpa) ?_|refine xf (by simpa) ?_|apply wB|apply Qab|refine wX ?_|refine wY ?_|refine wR ?_|refine wK ?_|refine wE ?_)
     exact ⟨rfl,rfl⟩
   · refine wW ?_
     repeat (first|apply wA|apply wS|refine wr (by simp;with_reducible rfl) ?_|refine wq (by simp;with_reducible rfl) ?_|refine wt (by simpa) ?_|refine wf (by simpa) ?_|refine xt (by simpa) ?_|refine xf (by simpa) ?_|apply wB|apply Qab|refine wX ?_|refine wY ?_|refine wR ?_|refine wK ?_|refine wE ?_)
     exact ⟨rfl,rfl⟩
   · refine wW ?_
     repeat (first|apply wA|apply wS|refine wr (by simp;with_reducible rfl) ?_|refine wq (by simp;with_reducible rfl) ?_|refine wt (by simpa) ?_|refine wf (by simpa) ?_|refine xt (by simpa) ?_|refine xf (by simpa) ?_|apply wB|apply Qab|refine wX ?_|refine wY ?_|refine wR ?_|refine wK ?_|refine wE ?_)
     exact ⟨rfl,rfl⟩
 | succ m ih =>
   intro i part hi hp
   have hi2:i < n:=by omega
   have hil:i < rt.length:=by omega
   have w1:IntKind.i64.wrap ((i:Int)+1)=((i+1:Nat):Int):=Qbg (by omega)
   have gi:rt.getD i 0=rt[i]:=by rw [List.getD_eq_getElem?_getD,List.getElem?_eq_getElem hil];rfl
   rw [Qfe hi2]
   by_cases hq:rt[i]=(r:Int)
   · have hpr:inP rt r (i:Int)=true:=by rw [inP,Int.toNat_natCast,gi];exact decide_eq_true hq
     rw [List.filter_cons_of_pos hpr]
     have hn2:=ih (i+1) (part++[(i:Int)]) (by omega) (by simp;omega)
     rw [List.append_assoc,List.cons_append,List.nil_append] at hn2
     have hl1:part.length+1≤274877906944:=by omega
     have hT:∀ x:Int,List.take (part.length+1) (part++[x])=part++[x]:=fun x=>List.take_of_length_le (by simp)
     have hT2:List.take part.length part=part:=List.take_of_length_le (Nat.le_refl _)
     cases part with
     | nil =>
       rw [List.nil_append] at hn2 ⊢
       have hn2:wp tb (.loop Ql6) { T:=[(3,nlT acc),(4,O rt),(5,I r),(6,O [(i:Int)]),(12,I n),(13,I r),(22,.arr (.S 4) 0 [] 1 0 n false),(23,I n),(24,I ((i+1:Nat):Int))],loc:=B,M:=[] } _:=hn2
       cases acc <;> simp only [nlT,nlI] at hn2 ⊢
       · refine wW ?_
         repeat (first|apply wA|apply wS|refine wr (by simp [hi2,hil,hl,hq,w1];with_reducible rfl) ?_|refine wq (by simp [hi2,hil,hl,hq,w1];with_reducible rfl) ?_|refine wt (by simpa [hi2,hil,hl,hq,w1]) ?_|refine wf (by simpa [hi2,hil,hl,hq,w1]) ?_|refine xt (by simpa [hi2,hil,hl,hq,w1]) ?_|refine xf (by simpa [hi2,hil,hl,hq,w1]) ?_|apply wB|apply Qab|refine wX ?_|refine wY ?_|refine wR ?_|refine wK ?_|refine wE ?_)
         exact hn2
       · refine wW ?_
         repeat (first|apply wA|apply wS|refine wr (by simp [hi2,hil,hl,hq,w1];with_reducible rfl) ?_|refine wq (by simp [hi2,hil,hl,hq,w1];with_reducible rfl) ?_|refine wt (by simpa [hi2,hil,hl,hq,w1]) ?_|refine wf (by simpa [hi2,hil,hl,hq,w1]) ?_|refine xt (by simpa [hi2,hil,hl,hq,w1]) ?_|refine xf (by simpa [hi2,hil,hl,hq,w1]) ?_|apply wB|apply Qab|refine wX ?_|refine wY ?_|refine wR ?_|refine wK ?_|refine wE ?_)
         exact hn2
     | cons y ys =>
       rw [List.cons_append] at hn2
       simp only [List.length_cons,List.cons_append] at hl1 hT hT2
       have hn2:wp tb (.loop Ql6) { T:=[(3,nlT acc),(4,O rt),(5,I r),(6,O (y::(ys++[(i:Int)]))),(12,I n),(13,I r),(22,.arr (.S 4) 0 [] 1 0 n false),(23,I n),(24,I ((i+1:Nat):Int))],loc:=B,M:=[] } _:=hn2
       cases acc <;> simp only [nlT,nlI] at hn2 ⊢
       · refine wW ?_
         repeat (first|apply wA|apply wS|refine wr (by simp [hi2,hil,hl,hq,w1,hl1,hT,hT2];with_reducible rfl) ?_|refine wq (by simp [hi2,hil,hl,hq,w1,hl1,hT,hT2];with_reducible rfl) ?_|refine wt (by simpa [hi2,hil,hl,hq,w1,hl1,hT,hT2]) ?_|refine wf (by simpa [hi2,hil,hl,hq,w1,hl1,hT,hT2]) ?_|refine xt (by simpa [hi2,hil,hl,hq,w1,hl1,hT,hT2]) ?_|refine xf (by simpa [hi2,hil,hl,hq,w1,hl1,hT,hT2]) ?_|apply wB|apply Qab|refine wX ?_|refine wY ?_|refine wR ?_|refine wK ?_|refine wE ?_)
         exact hn2
       · refine wW ?_
         repeat (first|apply wA|apply wS|refine wr (by simp [hi2,hil,hl,hq,w1,hl1,hT,hT2];with_reducible rfl) ?_|refine wq (by simp [hi2,hil,hl,hq,w1,hl1,hT,hT2];with_reducible rfl) ?_|refine wt (by simpa [hi2,hil,hl,hq,w1,hl1,hT,hT2]) ?_|refine wf (by simpa [hi2,hil,hl,hq,w1,hl1,hT,hT2]) ?_|refine xt (by simpa [hi2,hil,hl,hq,w1,hl1,hT,hT2]) ?_|refine xf (by simpa [hi2,hil,hl,hq,w1,hl1,hT,hT2]) ?_|apply wB|apply Qab|refine wX ?_|refine wY ?_|refine wR ?_|refine wK ?_|refine wE ?_)
         exact hn2
   · have hpr:¬ inP rt r (i:Int)=true:=by rw [inP,Int.toNat_natCast,gi,decide_eq_true_eq];exact hq
     rw [List.filter_cons_of_neg hpr]
     have hn2:=ih (i+1) part (by omega) (by omega)
     cases acc <;> cases part <;> simp only [nlT,nlI] at hn2 ⊢
     · refine wW ?_
       repeat (first|apply wA|apply wS|refine wr (by simp [hi2,hil,hl,hq,w1];with_reducible rfl) ?_|refine wq (by simp [hi2,hil,hl,hq,w1];with_reducible rfl) ?_|refine wt (by simpa [hi2,hil,hl,hq,w1]) ?_|refine wf (by simpa [hi2,hil,hl,hq,w1]) ?_|refine xt (by simpa [hi2,hil,hl,hq,w1]) ?_|refine xf (by simpa [hi2,hil,hl,hq,w1]) ?_|apply wB|apply Qab|refine wX ?_|refine wY ?_|refine wR ?_|refine wK ?_|refine wE ?_)
       exact hn2
     · refine wW ?_
       repeat (first|apply wA|apply wS|refine wr (by simp [hi2,hil,hl,hq,w1];with_reducible rfl) ?_|refine wq (by simp [hi2,hil,hl,hq,w1];with_reducible rfl) ?_|refine wt (by simpa [hi2,hil,hl,hq,w1]) ?_|refine wf (by simpa [hi2,hil,hl,hq,w1]) ?_|refine xt (by simpa [hi2,hil,hl,hq,w1]) ?_|refine xf (by simpa [hi2,hil,hl,hq,w1]) ?_|apply wB|apply Qab|refine wX ?_|refine wY ?_|refine wR ?_|refine wK ?_|refine wE ?_)
       exact hn2
     · refine wW ?_
       repeat (first|apply wA|apply wS|refine wr (by simp [hi2,hil,hl,hq,w1];with_reducible rfl) ?_|refine wq (by simp [hi2,hil,hl,hq,w1];with_reducible rfl) ?_|refine wt (by simpa [hi2,hil,hl,hq,w1]) ?_|refine wf (by simpa [hi2,hil,hl,hq,w1]) ?_|refine xt (by simpa [hi2,hil,hl,hq,w1]) ?_|refine xf (by simpa [hi2,hil,hl,hq,w1]) ?_|apply wB|apply Qab|refine wX ?_|refine wY ?_|refine wR ?_|refine wK ?_|refine wE ?_)
       exact hn2
     · refine wW ?_
       repeat (first|apply wA|apply wS|refine wr (by simp [hi2,hil,hl,hq,w1];with_reducible rfl) ?_|refine wq (by simp [hi2,hil,hl,hq,w1];with_reducible rfl) ?_|refine wt (by simpa [hi2,hil,hl,hq,w1]) ?_|refine wf (by simpa [hi2,hil,hl,hq,w1]) ?_|refine xt (by simpa [hi2,hil,hl,hq,w1]) ?_|refine xf (by simpa [hi2,hil,hl,hq,w1]) ?_|apply wB|apply Qab|refine wX ?_|refine wY ?_|refine wR ?_|refine wK ?_|refine wE ?_)
       exact hn2
theorem Qtw {xs:List Int} {p:Int→Bool} {r:Int} (h:r ∈ xs) (hp:p r=true):∃ y ys,xs.filter p=y::ys:=by
 cases hq:xs.filter p with
 | nil=>have:r ∈ xs.filter p:=List.mem_filter.2 ⟨h,hp⟩;rw [hq] at this;cases this
 | cons y ys=>exact ⟨y,ys,rfl⟩
theorem Qdt {n i:Nat} {x:Int}:x ∈ rgF n i ↔ (i:Int)≤x∧x < n:=by
 rw [rgF,List.mem_map]
 constructor
 · rintro ⟨a,ha,rfl⟩
   obtain ⟨j,hj,rfl⟩:=List.mem_iff_getElem.1 ha
   simp only [List.length_drop,List.length_range] at hj
   simp only [List.getElem_drop,List.getElem_range];omega
 · rintro ⟨h1,h2⟩
   obtain ⟨k,rfl⟩:=Int.eq_ofNat_of_zero_le (show 0≤x by omega)
   refine ⟨k,List.mem_iff_getElem.2 ⟨k - i,by simp;omega,?_⟩,rfl⟩
   simp only [List.getElem_drop,List.getElem_range];omega
theorem Jo9 (n:Nat) (hn:n≤7) (rt:List Int) (hl:rt.length=n) (B:Qac):∀ (m r:Nat) (acc:List (List Int)),r+m=n→acc.length≤r →
 wp tb (.loop Qxy) { T:=[(3,nlT acc),(4,O rt),(12,I n),(13,I r)],loc:=B,M:=[] }
  (fun ex st=>ex=.exit 0∧st={ T:=[(3,nlT (acc++Qii n rt r)),(4,O rt),(12,I n),(13,I n),(14,Bo false)],loc:=B,M:=[] }):=by
 intro m
 induction m with
 | zero =>
   intro r acc hr ha
   have h3:r=n:=hr
   subst h3
   rw [Qii,Ql7,List.filter_nil,List.map_nil,List.append_nil]
   cases acc <;> simp only [nlT]
   · refine wW ?_
     repeat (first|apply wA|apply wS|refine wr (by simp;with_reducible rfl) ?_|refine wq (by simp;with_reducible rfl) ?_|refine wt (by simpa) ?_|refine wf (by simpa) ?_|refine xt (by simpa) ?_|refine xf (by simpa) ?_|apply wB|apply Qab|refine wX ?_|refine wY ?_|refine wR ?_|refine wK ?_|refine wE ?_)
     exact ⟨rfl,rfl⟩
   · refine wW ?_
     repeat (first|apply wA|apply wS|refine wr (by simp;with_reducible rfl) ?_|refine wq (by simp;with_reducible rfl) ?_|refine wt (by simpa) ?_|refine wf (by simpa) ?_|refine xt (by simpa) ?_|refine xf (by simpa) ?_|apply wB|apply Qab|refine wX ?_|refine wY ?_|refine wR ?_|refine wK ?_|refine wE ?_)
     exact ⟨rfl,rfl⟩
 | succ m ih =>
   intro r acc hr ha
   have hr2:r < n:=by omega
   have hrl:r < rt.length:=by omega
   have w1:IntKind.i64.wrap ((r:Int)+1)=((r+1:Nat):Int):=Qbg (by omega)
   have gi:rt.getD r 0=rt[r]:=by rw [List.getD_eq_getElem?_getD,List.getElem?_eq_getElem hrl];rfl
   rw [Qii,Qfe hr2]
   by_cases hq:rt[r]=(r:Int)
   · have hpr:isR rt (r:Int)=true:=by rw [isR,inP,Int.toNat_natCast,gi];exact decide_eq_true hq
     rw [List.filter_cons_of_pos hpr,List.map_cons]
     obtain ⟨y,ys,hy⟩:=Qtw (xs:=rgF n 0) (p:=inP rt r) (Qdt.2 ⟨by omega,by omega⟩) hpr
     have hn2:=ih (r+1) (acc++[(rgF n 0).filter (inP rt r)]) (by omega) (by simp;omega)
     rw [List.append_assoc,List.cons_append,List.nil_append,Qii] at hn2
     have inner:=co_in n hn rt hl acc r B n 0 [] (by omega) (by simp)
     rw [List.nil_append,hy] at inner
     rw [hy] at hn2 ⊢
     have e1:=Qaa (Qw1 (y::ys))
     have hl1:acc.length+1≤274877906944:=by omega
     have hT:∀ x:List Int,List.take (acc.length+1) (acc++[x])=acc++[x]:=fun x=>List.take_of_length_le (by simp)
     have hT2:List.take acc.length acc=acc:=List.take_of_length_le (Nat.le_refl _)
     cases acc with
     | nil =>
       simp only [List.nil_append,nlT,nlI] at hn2 inner ⊢
       rw [show ((0:Nat):Int)=0 from rfl] at inner
       refine wW ?_
       repeat (first|apply wA|apply wS|refine wr (by simp [hr2,hrl,hl,hq];with_reducible rfl) ?_|refine wq (by simp [hr2,hrl,hl,hq];with_reducible rfl) ?_|refine wt (by simpa [hr2,hrl,hl,hq]) ?_|refine wf (by simpa [hr2,hrl,hl,hq]) ?_|refine xt (by simpa [hr2,hrl,hl,hq]) ?_|refine xf (by simpa [hr2,hrl,hl,hq]) ?_|apply wB|apply Qab|refine wX ?_|refine wY ?_|refine wR ?_|refine wK ?_|refine wE ?_)
       refine Qah inner ?_
       rintro ex st ⟨rfl,rfl⟩
       simp only [if_true]
       repeat (first|apply wA|apply wS|refine wr (by simp [e1,w1];with_reducible rfl) ?_|refine wq (by simp [e1,w1];with_reducible rfl) ?_|refine wt (by simpa [e1,w1]) ?_|refine wf (by simpa [e1,w1]) ?_|refine xt (by simpa [e1,w1]) ?_|refine xf (by simpa [e1,w1]) ?_|apply wB|apply Qab|refine wX ?_|refine wY ?_|refine wR ?_|refine wK ?_|refine wE ?_)
       exact hn2
     | cons a as =>
       simp only [List.cons_append,nlT,nlI] at hn2 inner ⊢
       simp only [List.length_cons,List.cons_append] at hl1 hT hT2
       rw [show ((0:Nat):Int)=0 from rfl] at inner
       refine wW ?_
       repeat (first|apply wA|apply wS|refine wr (by simp [hr2,hrl,hl,hq];with_reducible rfl) ?_|refine wq (by simp [hr2,hrl,hl,hq];with_reducible rfl) ?_|refine wt (by simpa [hr2,hrl,hl,hq]) ?_|refine wf (by simpa [hr2,hrl,hl,hq]) ?_|refine xt (by simpa [hr2,hrl,hl,hq]) ?_|refine xf (by simpa [hr2,hrl,hl,hq]) ?_|apply wB|apply Qab|refine wX ?_|refine wY ?_|refine wR ?_|refine wK ?_|refine wE ?_)
       refine Qah inner ?_
       rintro ex st ⟨rfl,rfl⟩
       simp only [if_true]
       repeat (first|apply wA|apply wS|refine wr (by simp [e1,w1,hl1,hT,hT2];with_reducible rfl) ?_|refine wq (by simp [e1,w1,hl1,hT,hT2];with_reducible rfl) ?_|refine wt (by simpa [e1,w1,hl1,hT,hT2]) ?_|refine wf (by simpa [e1,w1,hl1,hT,hT2]) ?_|refine xt (by simpa [e1,w1,hl1,hT,hT2]) ?_|refine xf (by simpa [e1,w1,hl1,hT,hT2]) ?_|apply wB|apply Qab|refine wX ?_|refine wY ?_|refine wR ?_|refine wK ?_|refine wE ?_)
       exact hn2
   · have hpr:¬ isR rt (r:Int)=true:=by rw [isR,inP,Int.toNat_natCast,gi,decide_eq_true_eq];exact hq
     rw [List.filter_cons_of_neg hpr]
     have hn2:=ih (r+1) acc (by omega) (by omega)
     cases acc <;> simp only [nlT] at hn2 ⊢
     · refine wW ?_
       repeat (first|apply wA|apply wS|refine wr (by simp [hr2,hrl,hl,hq,w1];with_reducible rfl) ?_|refine wq (by simp [hr2,hrl,hl,hq,w1];with_reducible rfl) ?_|refine wt (by simpa [hr2,hrl,hl,hq,w1]) ?_|refine wf (by simpa [hr2,hrl,hl,hq,w1]) ?_|refine xt (by simpa [hr2,hrl,hl,hq,w1]) ?_|refine xf (by simpa [hr2,hrl,hl,hq,w1]) ?_|apply wB|apply Qab|refine wX ?_|refine wY ?_|refine wR ?_|refine wK ?_|refine wE ?_)
       exact hn2
     · refine wW ?_
       repeat (first|apply wA|apply wS|refine wr (by simp [hr2,hrl,hl,hq,w1];with_reducible rfl) ?_|refine wq (by simp [hr2,hrl,hl,hq,w1];with_reducible rfl) ?_|refine wt (by simpa [hr2,hrl,hl,hq,w1]) ?_|refine wf (by simpa [hr2,hrl,hl,hq,w1]) ?_|refine xt (by simpa [hr2,hrl,hl,hq,w1]) ?_|refine xf (by simpa [hr2,hrl,hl,hq,w1]) ?_|apply wB|apply Qab|refine wX ?_|refine wY ?_|refine wR ?_|refine wK ?_|refine wE ?_)
       exact hn2
def Qbj (n:Nat) (es:List (Int×Int)):List (List Int):=Qii n (Qhl es n (Qd1 n (-1))) 0
theorem Qg9 (n:Nat) (hn1:1≤n) (hn7:n≤7) (e0:Nat) (es:List (Int×Int)) (c:Bool) (he0:e0=2 ∨ es=[]) (hes:∀ e ∈ es,0≤e.1∧e.1 < n∧0≤e.2∧e.2 < n) (hel:es.length≤1000) :
 Ev tb Qo0 [] [.agg [I n,.lst e0 (eds es) c]] [] ⟨nlT (Qbj n es),[],[],[]⟩:=by
 have e1:=Qaa (Qmh n hn1 hn7 e0 es c he0 hes hel)
 have hrl:(Qhl es n (Qd1 n (-1))).length=n:=by rw [Qjc,Qc1];simp
 rw [Qbj]
 generalize Qhl es n (Qd1 n (-1))=rt at *
 have loop:=Jo9 n hn7 rt hrl [[I n,.lst e0 (eds es) c]] n 0 [] (by omega) (by simp)
 rw [List.nil_append,show ((0:Nat):Int)=0 from rfl] at loop
 simp only [nlT] at loop
 have e2:=Qaa (Qm8 (Qii n rt 0))
 generalize Qii n rt 0=P at *
 refine cW Jg2 rfl ?_
 repeat (first|apply wA|apply wS|refine wr (by simp [e1];with_reducible rfl) ?_|refine wq (by simp [e1];with_reducible rfl) ?_|refine wt (by simpa [e1]) ?_|refine wf (by simpa [e1]) ?_|refine xt (by simpa [e1]) ?_|refine xf (by simpa [e1]) ?_|apply wB|apply Qab|refine wX ?_|refine wY ?_|refine wR ?_|refine wK ?_|refine wE ?_)
 refine Qah loop ?_
 rintro ex st ⟨rfl,rfl⟩
 simp only [if_true]
 cases P with
 | nil =>
   simp only [nlT] at e2 ⊢
   repeat (first|apply wA|apply wS|refine wr (by simp [e2];with_reducible rfl) ?_|refine wq (by simp [e2];with_reducible rfl) ?_|refine wt (by simpa [e2]) ?_|refine wf (by simpa [e2]) ?_|refine xt (by simpa [e2]) ?_|refine xf (by simpa [e2]) ?_|apply wB|apply Qab|refine wX ?_|refine wY ?_|refine wR ?_|refine wK ?_|refine wE ?_)
   simp [Qqo]
 | cons p P =>
   simp only [nlT] at e2 ⊢
   repeat (first|apply wA|apply wS|refine wr (by simp [e2];with_reducible rfl) ?_|refine wq (by simp [e2];with_reducible rfl) ?_|refine wt (by simpa [e2]) ?_|refine wf (by simpa [e2]) ?_|refine xt (by simpa [e2]) ?_|refine xf (by simpa [e2]) ?_|apply wB|apply Qab|refine wX ?_|refine wY ?_|refine wR ?_|refine wK ?_|refine wE ?_)
   simp [Qqo]
theorem Qf3 (n:Nat) (hn1:1≤n) (e0:Nat) (es:List (Int×Int)) (c:Bool) (he0:e0=2 ∨ es=[]) (hel:es.length≤1000) (hv:Qao n es=true) (v1:Qco tb Qui [] [.agg [I n,.lst e0 (eds es) c]] []=some ⟨Bo true,[],[],[]⟩) :
 Ev tb Qqm [] [.agg [I n,.lst e0 (eds es) c]] [] ⟨Bo (decide ((Qbj n es).length=1)),[],[],[]⟩:=by
 have hes:∀ e ∈ es,0≤e.1∧e.1 < n∧0≤e.2∧e.2 < n:=fun e he=>by have:=Qak.1 ((Qar.1 hv).2.1 e he);omega
 have e1:=Qaa (Qg9 n hn1 (Qar.1 hv).2.2 e0 es c he0 hes hel)
 generalize Qbj n es=P at *
 cases P with
 | nil =>
   simp only [nlT] at e1
   refine cW Jcg rfl ?_
   repeat (first|apply wA|apply wS|refine wr (by simp [v1,e1];with_reducible rfl) ?_|refine wq (by simp [v1,e1];with_reducible rfl) ?_|refine wt (by simpa [v1,e1]) ?_|refine wf (by simpa [v1,e1]) ?_|refine xt (by simpa [v1,e1]) ?_|refine xf (by simpa [v1,e1]) ?_|apply wB|apply Qab|refine wX ?_|refine wY ?_|refine wR ?_|refine wK ?_|refine wE ?_)
   simp [Qqi]
 | cons p P =>
   simp only [nlT] at e1
   by_cases h1:P.length=0
   · have h1':P=[]:=List.length_eq_zero_iff.1 h1
     subst h1'
     refine cW Jcg rfl ?_
     repeat (first|apply wA|apply wS|refine wr (by simp [v1,e1];with_reducible rfl) ?_|refine wq (by simp [v1,e1];with_reducible rfl) ?_|refine wt (by simpa [v1,e1]) ?_|refine wf (by simpa [v1,e1]) ?_|refine xt (by simpa [v1,e1]) ?_|refine xf (by simpa [v1,e1]) ?_|apply wB|apply Qab|refine wX ?_|refine wY ?_|refine wR ?_|refine wK ?_|refine wE ?_)
     simp [Qqi]
   · have h2:¬ (P.length:Int)+1=1:=by omega
     have h3:¬ P=[]:=fun h=>h1 (by rw [h];rfl)
     refine cW Jcg rfl ?_
     repeat (first|apply wA|apply wS|refine wr (by simp [v1,e1,h1,h2];with_reducible rfl) ?_|refine wq (by simp [v1,e1,h1,h2];with_reducible rfl) ?_|refine wt (by simpa [v1,e1,h1,h2]) ?_|refine wf (by simpa [v1,e1,h1,h2]) ?_|refine xt (by simpa [v1,e1,h1,h2]) ?_|refine xf (by simpa [v1,e1,h1,h2]) ?_|apply wB|apply Qab|refine wX ?_|refine wY ?_|refine wR ?_|refine wK ?_|refine wE ?_)
     simp [Qqi,h3]
     exact h2
end Go.Idl
namespace Go.Idl
open Go
def bls (l:List Bool):List (List IV):=l.map fun b=>[Bo b]
abbrev OB (l:List Bool):IV:=.own 1 (bls l)
@[simp] theorem bls_len (l:List Bool):(bls l).length=l.length:=by simp [bls]
@[simp] theorem Jzy (n:Nat):List.replicate n [IV.sc (Value.bool false)]=bls (List.replicate n false):=by simp [bls]
@[simp] theorem bls_get (l:List Bool) (i:Nat) (h:i < (bls l).length):(bls l)[i]=[IV.sc (.bool (l[i]'(by simpa [bls] using h)))]:=by simp [bls]
@[simp] theorem bls_get? (l:List Bool) (i:Nat):(bls l)[i]? = l[i]?.map fun b=>[IV.sc (.bool b)]:=by simp [bls]
@[simp] theorem Jz9 (l:List Bool) (i:Nat) (b:Bool):(bls l).set i [IV.sc (.bool b)]=bls (l.set i b):=by simp [bls,List.map_set]
def Qnc (l:List Bool) (e:Int×Int):List Bool:=if (l.getD e.1.toNat false || l.getD e.2.toNat false)=true then (l.set e.1.toNat true).set e.2.toNat true else l
def Qi8 (es:List (Int×Int)):Nat→List Bool→List Bool
 | 0,l=>l
 | m+1,l=>Qi8 es m (es.foldl Qnc l)
theorem Qjg (l:List Bool) (e:Int×Int):(Qnc l e).length=l.length:=by rw [Qnc];split <;> simp
theorem Qj3 (es:List (Int×Int)):∀ l:List Bool,(es.foldl Qnc l).length=l.length:=by
 induction es with
 | nil=>intro l;rfl
 | cons e es ih=>intro l;rw [List.foldl_cons,ih,Qjg]
theorem Qjd (es:List (Int×Int)):∀ (m:Nat) (l:List Bool),(Qi8 es m l).length=l.length
 | 0,_=>rfl
 | m+1,l=>by rw [Qi8,Qjd es m,Qj3]
def Qgf (n:Nat) (es:List (Int×Int)) (v:Nat):List Int:=(rgF n 0).filter fun u=>(Qi8 es n ((List.replicate n false).set v true)).getD u.toNat false
theorem Jz3 (n:Nat) (es:List (Int×Int)) (c:Bool) (hes:∀ e ∈ es,0≤e.1∧e.1 < n∧0≤e.2∧e.2 < n) (hel:es.length≤1000) (k:Nat):∀ (m j:Nat) (l:List Bool) (B:Qac),j+m=es.length→l.length=n →
 wp tb (.loop Qyb) { T:=[(2,.bptr 0 0 0),(5,OB l),(6,I k),(7,I j)],loc:=[I n,L2 es c]::B,M:=[] }
  (fun ex st=>ex=.exit 2∧∃ B',st={ T:=[(2,.bptr 0 0 0),(5,OB ((es.drop j).foldl Qnc l)),(6,I k),(7,I es.length),(27,Bo false)],loc:=[I n,L2 es c]::B',M:=[] }):=by
 intro m
 induction m with
 | zero =>
   intro j l B hj hl
   have h3:j=es.length:=hj
   subst h3
   refine wW ?_
   repeat (first|apply wA|apply wS|refine wr (by simp;with_reducible rfl) ?_|refine wq (by simp;with_reducible rfl) ?_|refine wt (by simpa) ?_|refine wf (by simpa) ?_|refine xt (by simpa) ?_|refine xf (by simpa) ?_|apply wB|apply Qab|refine wX ?_|refine wY ?_|refine wR ?_|refine wK ?_|refine wE ?_)
   exact ⟨rfl,_,by simp;rfl⟩
 | succ m ih =>
   intro j l B hj hl
   have hj2:j < es.length:=by omega
   have hd:es.drop j=es[j]::es.drop (j+1):=List.drop_eq_getElem_cons hj2
   have hb:=hes _ (List.getElem_mem hj2)
   obtain ⟨⟨x,y⟩,hx⟩:∃ e,e=es[j]:=⟨_,rfl⟩
   rw [← hx] at hb
   simp only at hb
   obtain ⟨a,rfl⟩:=Int.eq_ofNat_of_zero_le hb.1
   obtain ⟨b,rfl⟩:=Int.eq_ofNat_of_zero_le hb.2.2.1
   have hx2:=hx.symm
   have han:a < n:=by omega
   have hbn:b < n:=by omega
   have ha:a < l.length:=by omega
   have hbl:b < l.length:=by omega
   have w1:IntKind.i64.wrap ((j:Int)+1)=((j+1:Nat):Int):=Qbg (by omega)
   have ga:l.getD a false=l[a]:=by rw [List.getD_eq_getElem?_getD,List.getElem?_eq_getElem ha];rfl
   have gb:l.getD b false=l[b]:=by rw [List.getD_eq_getElem?_getD,List.getElem?_eq_getElem hbl];rfl
   have hn:=ih (j+1) (Qnc l ((a:Int),(b:Int))) (B++[[I a,I b]]) (by omega) (by rw [Qjg,hl])
   have hr:Qnc l ((a:Int),(b:Int))=if (l[a] || l[b])=true then (l.set a true).set b true else l:=by
    simp only [Qnc,Int.toNat_natCast,ga,gb]
   rw [hd,← hx,List.foldl_cons]
   rw [hr] at hn ⊢
   cases k1:l[a] with
   | true =>
     simp only [k1,Bool.true_or,if_true] at hn ⊢
     refine wW ?_
     repeat (first|apply wA|apply wS|refine wr (by simp [hj2,hx2,ha,hbl,hl,han,hbn,k1,w1];with_reducible rfl) ?_|refine wq (by simp [hj2,hx2,ha,hbl,hl,han,hbn,k1,w1];with_reducible rfl) ?_|refine wt (by simpa [hj2,hx2,ha,hbl,hl,han,hbn,k1,w1]) ?_|refine wf (by simpa [hj2,hx2,ha,hbl,hl,han,hbn,k1,w1]) ?_|refine xt (by simpa [hj2,hx2,ha,hbl,hl,han,hbn,k1,w1]) ?_|refine xf (by simpa [hj2,hx2,ha,hbl,hl,han,hbn,k1,w1]) ?_|apply wB|apply Qab|refine wX ?_|refine wY ?_|refine wR ?_|refine wK ?_|refine wE ?_)
     exact hn
   | false =>
     cases k2:l[b] with
     | true =>
       simp only [k1,k2,Bool.or_true,if_true] at hn ⊢
       refine wW ?_
       repeat (first|apply wA|apply wS|refine wr (by simp [hj2,hx2,ha,hbl,hl,han,hbn,k1,k2,w1];with_reducible rfl) ?_|refine wq (by simp [hj2,hx2,ha,hbl,hl,han,hbn,k1,k2,w1];with_reducible rfl) ?_|refine wt (by simpa [hj2,hx2,ha,hbl,hl,han,hbn,k1,k2,w1]) ?_|refine wf (by simpa [hj2,hx2,ha,hbl,hl,han,hbn,k1,k2,w1]) ?_|refine xt (by simpa [hj2,hx2,ha,hbl,hl,han,hbn,k1,k2,w1]) ?_|refine xf (by simpa [hj2,hx2,ha,hbl,hl,han,hbn,k1,k2,w1]) ?_|apply wB|apply Qab|refine wX ?_|refine wY ?_|refine wR ?_|refine wK ?_|refine wE ?_)
       exact hn
     | false =>
       simp only [k1,k2,Bool.or_false,Bool.false_eq_true,if_false] at hn ⊢
       refine wW ?_
       repeat (first|apply wA|apply wS|refine wr (by simp [hj2,hx2,ha,hbl,hl,han,hbn,k1,k2,w1];with_reducible rfl) ?_|refine wq (by simp [hj2,hx2,ha,hbl,hl,han,hbn,k1,k2,w1];with_reducible rfl) ?_|refine wt (by simpa [hj2,hx2,ha,hbl,hl,han,hbn,k1,k2,w1]) ?_|refine wf (by simpa [hj2,hx2,ha,hbl,hl,han,hbn,k1,k2,w1]) ?_|refine xt (by simpa [hj2,hx2,ha,hbl,hl,han,hbn,k1,k2,w1]) ?_|refine xf (by simpa [hj2,hx2,ha,hbl,hl,han,hbn,k1,k2,w1]) ?_|apply wB|apply Qab|refine wX ?_|refine wY ?_|refine wR ?_|refine wK ?_|refine wE ?_)
       exact hn
theorem Juj (n:Nat) (es:List (Int×Int)) (c:Bool) (hes:∀ e ∈ es,0≤e.1∧e.1 < n∧0≤e.2∧e.2 < n) (hel:es.length≤1000) (hn7:n≤7):∀ (m k:Nat) (l:List Bool) (B:Qac),k+m=n→l.length=n →
 wp tb (.loop Qzi) { T:=[(2,.bptr 0 0 0),(5,OB l),(6,I k)],loc:=[I n,L2 es c]::B,M:=[] }
  (fun ex st=>ex=.exit 0∧∃ B',st={ T:=[(2,.bptr 0 0 0),(5,OB (Qi8 es m l)),(6,I n),(20,Bo false)],loc:=[I n,L2 es c]::B',M:=[] }):=by
 intro m
 induction m with
 | zero =>
   intro k l B hk hl
   have h3:k=n:=hk
   subst h3
   refine wW ?_
   repeat (first|apply wA|apply wS|refine wr (by simp;with_reducible rfl) ?_|refine wq (by simp;with_reducible rfl) ?_|refine wt (by simpa) ?_|refine wf (by simpa) ?_|refine xt (by simpa) ?_|refine xf (by simpa) ?_|apply wB|apply Qab|refine wX ?_|refine wY ?_|refine wR ?_|refine wK ?_|refine wE ?_)
   exact ⟨rfl,_,rfl⟩
 | succ m ih =>
   intro k l B hk hl
   have hk2:k < n:=by omega
   have w1:IntKind.i64.wrap ((k:Int)+1)=((k+1:Nat):Int):=Qbg (by omega)
   have inner:=Jz3 n es c hes hel k es.length 0 l B (by omega) hl
   rw [show ((0:Nat):Int)=0 from rfl] at inner
   refine wW ?_
   repeat (first|apply wA|apply wS|refine wr (by simp [hk2];with_reducible rfl) ?_|refine wq (by simp [hk2];with_reducible rfl) ?_|refine wt (by simpa [hk2]) ?_|refine wf (by simpa [hk2]) ?_|refine xt (by simpa [hk2]) ?_|refine xf (by simpa [hk2]) ?_|apply wB|apply Qab|refine wX ?_|refine wY ?_|refine wR ?_|refine wK ?_|refine wE ?_)
   refine Qah inner ?_
   rintro ex st ⟨rfl,B',rfl⟩
   simp only [if_true,List.drop_zero]
   repeat (first|apply wA|apply wS|refine wr (by simp [w1];with_reducible rfl) ?_|refine wq (by simp [w1];with_reducible rfl) ?_|refine wt (by simpa [w1]) ?_|refine wf (by simpa [w1]) ?_|refine xt (by simpa [w1]) ?_|refine xf (by simpa [w1]) ?_|apply wB|apply Qab|refine wX ?_|refine wY ?_|refine wR ?_|refine wK ?_|refine wE ?_)
   exact ih (k+1) (es.foldl Qnc l) B' (by omega) (by rw [Qj3,hl])
theorem Ji9 (n:Nat) (hn7:n≤7) (es:List (Int×Int)) (c:Bool) (l:List Bool) (hl:l.length=n) (B:Qac):∀ (m i:Nat) (acc:List Int),i+m=n→acc.length≤i →
 wp tb (.loop Qwv) { T:=[(2,.bptr 0 0 0),(5,OB l),(9,O acc),(10,I i)],loc:=[I n,L2 es c]::B,M:=[] }
  (fun ex st=>ex=.exit 4∧st={ T:=[(2,.bptr 0 0 0),(5,OB l),(9,O (acc++(rgF n i).filter fun u=>l.getD u.toNat false)),(10,I n),(59,Bo false)],loc:=[I n,L2 es c]::B,M:=[] }):=by
 intro m
 induction m with
 | zero =>
   intro i acc hi ha
   have h3:i=n:=hi
   subst h3
   rw [Ql7,List.filter_nil,List.append_nil]
   refine wW ?_
   repeat (first|apply wA|apply wS|refine wr (by simp;with_reducible rfl) ?_|refine wq (by simp;with_reducible rfl) ?_|refine wt (by simpa) ?_|refine wf (by simpa) ?_|refine xt (by simpa) ?_|refine xf (by simpa) ?_|apply wB|apply Qab|refine wX ?_|refine wY ?_|refine wR ?_|refine wK ?_|refine wE ?_)
   exact ⟨rfl,rfl⟩
 | succ m ih =>
   intro i acc hi ha
   have hi2:i < n:=by omega
   have hil:i < l.length:=by omega
   have w1:IntKind.i64.wrap ((i:Int)+1)=((i+1:Nat):Int):=Qbg (by omega)
   have gi:l.getD i false=l[i]:=by rw [List.getD_eq_getElem?_getD,List.getElem?_eq_getElem hil];rfl
   rw [Qfe hi2]
   cases hq:l[i] with
   | true =>
     rw [List.filter_cons_of_pos (by rw [Int.toNat_natCast,gi,hq])]
     have hn2:=ih (i+1) (acc++[(i:Int)]) (by omega) (by simp;omega)
     rw [List.append_assoc,List.cons_append,List.nil_append] at hn2
     have hl1:acc.length+1≤274877906944:=by omega
     have hT:∀ x:Int,List.take (acc.length+1) (acc++[x])=acc++[x]:=fun x=>List.take_of_length_le (by simp)
     have hT2:List.take acc.length acc=acc:=List.take_of_length_le (Nat.le_refl _)
     refine wW ?_
     repeat (first|apply wA|apply wS|refine wr (by simp [hi2,hil,hl,hq,w1,hl1,hT,hT2];with_reducible rfl) ?_|refine wq (by simp [hi2,hil,hl,hq,w1,hl1,hT,hT2];with_reducible rfl) ?_|refine wt (by simpa [hi2,hil,hl,hq,w1,hl1,hT,hT2]) ?_|refine wf (by simpa [hi2,hil,hl,hq,w1,hl1,hT,hT2]) ?_|refine xt (by simpa [hi2,hil,hl,hq,w1,hl1,hT,hT2]) ?_|refine xf (by simpa [hi2,hil,hl,hq,w1,hl1,hT,hT2]) ?_|apply wB|apply Qab|refine wX ?_|refine wY ?_|refine wR ?_|refine wK ?_|refine wE ?_)
     exact hn2
   | false =>
     rw [List.filter_cons_of_neg (by rw [Int.toNat_natCast,gi,hq];simp)]
     have hn2:=ih (i+1) acc (by omega) (by omega)
     refine wW ?_
     repeat (first|apply wA|apply wS|refine wr (by simp [hi2,hil,hl,hq,w1];with_reducible rfl) ?_|refine wq (by simp [hi2,hil,hl,hq,w1];with_reducible rfl) ?_|refine wt (by simpa [hi2,hil,hl,hq,w1]) ?_|refine wf (by simpa [hi2,hil,hl,hq,w1]) ?_|refine xt (by simpa [hi2,hil,hl,hq,w1]) ?_|refine xf (by simpa [hi2,hil,hl,hq,w1]) ?_|apply wB|apply Qab|refine wX ?_|refine wY ?_|refine wR ?_|refine wK ?_|refine wE ?_)
     exact hn2
theorem Qey (n:Nat) (hn7:n≤7) (es:List (Int×Int)) (c:Bool) (hes:∀ e ∈ es,0≤e.1∧e.1 < n∧0≤e.2∧e.2 < n) (hel:es.length≤1000) (v:Nat) (hv:v < n) :
 Ev tb Qqw [] [Gr n es c,I v] [] ⟨O (Qgf n es v),[],[],[]⟩:=by
 have hl1:n≤274877906944:=by omega
 have h1:=fun B=>Juj n es c hes hel hn7 n 0 ((List.replicate n false).set v true) B (by omega) (by simp)
 have hml:(Qi8 es n ((List.replicate n false).set v true)).length=n:=by rw [Qjd];simp
 have h2:=fun B=>Ji9 n hn7 es c (Qi8 es n ((List.replicate n false).set v true)) hml B n 0 [] (by omega) (by simp)
 rw [Qgf]
 generalize Qi8 es n ((List.replicate n false).set v true)=R at *
 simp only [List.nil_append,show ((0:Nat):Int)=0 from rfl] at h1 h2
 refine cW zt342 rfl ?_
 repeat (first|apply wA|apply wS|refine wr (by simp [hl1,hv];with_reducible rfl) ?_|refine wq (by simp [hl1,hv];with_reducible rfl) ?_|refine wt (by simpa [hl1,hv]) ?_|refine wf (by simpa [hl1,hv]) ?_|refine xt (by simpa [hl1,hv]) ?_|refine xf (by simpa [hl1,hv]) ?_|apply wB|apply Qab|refine wX ?_|refine wY ?_|refine wR ?_|refine wK ?_|refine wE ?_)
 refine Qah (h1 []) ?_
 rintro ex st ⟨rfl,B',rfl⟩
 simp only [if_true]
 repeat (first|apply wA|apply wS|refine wr (by simp;with_reducible rfl) ?_|refine wq (by simp;with_reducible rfl) ?_|refine wt (by simpa) ?_|refine wf (by simpa) ?_|refine xt (by simpa) ?_|refine xf (by simpa) ?_|apply wB|apply Qab|refine wX ?_|refine wY ?_|refine wR ?_|refine wK ?_|refine wE ?_)
 refine Qah (h2 B') ?_
 rintro ex st ⟨rfl,rfl⟩
 simp only [if_true]
 repeat (first|apply wA|apply wS|refine wr (by simp;with_reducible rfl) ?_|refine wq (by simp;with_reducible rfl) ?_|refine wt (by simpa) ?_|refine wf (by simpa) ?_|refine xt (by simpa) ?_|refine xf (by simpa) ?_|apply wB|apply Qab|refine wX ?_|refine wY ?_|refine wR ?_|refine wK ?_|refine wE ?_)
 simp [Jat]
end Go.Idl
namespace Go.Idl
open Go
def Qlf (d:List Int):Bool:=d.all fun x=>decide (0 < x)
def Qtp (d:List Int):Bool:=Qc7 d && (decide (0 < d.length) && ((decide (d.length=1) || Qlf d) && decide (2 * (d.length:Int) - 2≤d.sum)))
theorem Qm0 {d:List Int} (h:Qc7 d=true):Qgw d=true:=by simp only [Qc7,Qba] at h;exact h.1.1
theorem Jeh {x:Int} {r:List Int}:(decide (0 < Qe2 x r))=Qlf (x::r):=by
 rw [Bool.eq_iff_iff,decide_eq_true_eq]
 have:=Qoa r x 1
 simp only [Qlf,List.all_eq_true,decide_eq_true_eq,List.mem_cons]
 constructor
 · intro h y hy
   have h2:=this.1 (by omega)
   rcases hy with rfl | hy
   · omega
   · have:=h2.2 y hy;omega
 · intro h
   have:=this.2 ⟨by have:=h x (.inl rfl);omega,fun y hy=>by have:=h y (.inr hy);omega⟩
   omega
theorem Qej (d:List Int) (c:Bool) (hl:d.length≤1000000):Ev tb Qxc [] [L d c] [] ⟨Bo (Qtp d),[],[],[]⟩:=by
 have e1:=Qaa (Qof d c hl)
 unfold Qtp
 cases hg:Qc7 d with
 | false =>
   refine cW Quu rfl ?_
   repeat (first|apply wA|apply wS|refine wr (by simp [e1,hg];with_reducible rfl) ?_|refine wq (by simp [e1,hg];with_reducible rfl) ?_|refine wt (by simpa [e1,hg]) ?_|refine wf (by simpa [e1,hg]) ?_|refine xt (by simpa [e1,hg]) ?_|refine xf (by simpa [e1,hg]) ?_|apply wB|apply Qab|refine wX ?_|refine wY ?_|refine wR ?_|refine wK ?_|refine wE ?_)
   simp [Qo5]
 | true =>
 have hf:=Qd2 (Qm0 hg)
 have hsm:=hf.sum
 have e2:=Qaa (Qvt d c hf.small)
 have h7:=hf.1
 cases d with
 | nil =>
   refine cW Quu rfl ?_
   repeat (first|apply wA|apply wS|refine wr (by simp [e1,hg];with_reducible rfl) ?_|refine wq (by simp [e1,hg];with_reducible rfl) ?_|refine wt (by simpa [e1,hg]) ?_|refine wf (by simpa [e1,hg]) ?_|refine xt (by simpa [e1,hg]) ?_|refine xf (by simpa [e1,hg]) ?_|apply wB|apply Qab|refine wX ?_|refine wY ?_|refine wR ?_|refine wK ?_|refine wE ?_)
   simp [Qo5]
 | cons x r =>
 have e3:=Qaa (Jqw x r c (by simp at h7;omega))
 have hmp:=Jeh (x:=x) (r:=r)
 have w1:IntKind.i64.wrap (2 * ((r.length:Int)+1))=2 * ((r.length:Int)+1):=Qae (by omega) (by simp at h7;omega)
 have w2:IntKind.i64.wrap (2 * ((r.length:Int)+1) - 2)=2 * ((r.length:Int)+1) - 2:=Qae (by omega) (by simp at h7;omega)
 by_cases h1:r=[]
 · subst h1
   refine cW Quu rfl ?_
   repeat (first|apply wA|apply wS|refine wr (by simp [e1,e2,hg,show IntKind.i64.wrap 2=2 from rfl,show IntKind.i64.wrap 0=0 from rfl];with_reducible rfl) ?_|refine wq (by simp [e1,e2,hg,show IntKind.i64.wrap 2=2 from rfl,show IntKind.i64.wrap 0=0 from rfl];with_reducible rfl) ?_|refine wt (by simpa [e1,e2,hg,show IntKind.i64.wrap 2=2 from rfl,show IntKind.i64.wrap 0=0 from rfl]) ?_|refine wf (by simpa [e1,e2,hg,show IntKind.i64.wrap 2=2 from rfl,show IntKind.i64.wrap 0=0 from rfl]) ?_|refine xt (by simpa [e1,e2,hg,show IntKind.i64.wrap 2=2 from rfl,show IntKind.i64.wrap 0=0 from rfl]) ?_|refine xf (by simpa [e1,e2,hg,show IntKind.i64.wrap 2=2 from rfl,show IntKind.i64.wrap 0=0 from rfl]) ?_|apply wB|apply Qab|refine wX ?_|refine wY ?_|refine wR ?_|refine wK ?_|refine wE ?_)
   simp [Qo5]
 · have h2:¬ r.length=0:=fun h=>h1 (List.length_eq_zero_iff.1 h)
   have h3:¬ (r.length:Int)=0:=by omega
   have h4:¬ (r.length:Int)+1=1:=by omega
   have h5:(0:Int) < (r.length:Int)+1:=by omega
   rw [show Qlf (x::r)=decide (0 < Qe2 x r) from hmp.symm]
   by_cases hp:0 < Qe2 x r
   · refine cW Quu rfl ?_
     repeat (first|apply wA|apply wS|refine wr (by simp [e1,e2,e3,hg,h1,h2,h3,h4,h5,hp,w1,w2];with_reducible rfl) ?_|refine wq (by simp [e1,e2,e3,hg,h1,h2,h3,h4,h5,hp,w1,w2];with_reducible rfl) ?_|refine wt (by simpa [e1,e2,e3,hg,h1,h2,h3,h4,h5,hp,w1,w2]) ?_|refine wf (by simpa [e1,e2,e3,hg,h1,h2,h3,h4,h5,hp,w1,w2]) ?_|refine xt (by simpa [e1,e2,e3,hg,h1,h2,h3,h4,h5,hp,w1,w2]) ?_|refine xf (by simpa [e1,e2,e3,hg,h1,h2,h3,h4,h5,hp,w1,w2]) ?_|apply wB|apply Qab|refine wX ?_|refine wY ?_|refine wR ?_|refine wK ?_|refine wE ?_)
     simp [Qo5,h1,hp]
     rfl
   · refine cW Quu rfl ?_
     repeat (first|apply wA|apply wS|refine wr (by simp [e1,e2,e3,hg,h1,h2,h3,h4,h5,hp,w1,w2];with_reducible rfl) ?_|refine wq (by simp [e1,e2,e3,hg,h1,h2,h3,h4,h5,hp,w1,w2];with_reducible rfl) ?_|refine wt (by simpa [e1,e2,e3,hg,h1,h2,h3,h4,h5,hp,w1,w2]) ?_|refine wf (by simpa [e1,e2,e3,hg,h1,h2,h3,h4,h5,hp,w1,w2]) ?_|refine xt (by simpa [e1,e2,e3,hg,h1,h2,h3,h4,h5,hp,w1,w2]) ?_|refine xf (by simpa [e1,e2,e3,hg,h1,h2,h3,h4,h5,hp,w1,w2]) ?_|apply wB|apply Qab|refine wX ?_|refine wY ?_|refine wR ?_|refine wK ?_|refine wE ?_)
     simp [Qo5,h1,hp]
end Go.Idl
namespace Go.Idl
open Go
def hdV (n:Nat) (es:List (Int×Int)) (v:Int):Bool:=decide ((Qgf n es v.toNat).getD 0 0=v)
def Qhw (n:Nat) (es:List (Int×Int)) (i:Nat):List (List Int):=((rgF n i).filter (hdV n es)).map fun v=>Qgf n es v.toNat
theorem Qjx {l:List Bool} {e:Int×Int} {v:Nat} (h:l.getD v false=true):(Qnc l e).getD v false=true:=by
 have hv:v < l.length:=by
  rw [List.getD_eq_getElem?_getD] at h
  by_cases hv:v < l.length
  · exact hv
  · rw [List.getElem?_eq_none (by omega)] at h;cases h
 rw [Qnc]
 split
 · rw [List.getD_eq_getElem?_getD] at h ⊢
   rw [List.getElem?_set,List.getElem?_set]
   split
   · split
     · rfl
     · rename_i h1 h2;simp at h2;omega
   · split
     · split
       · rfl
       · omega
     · exact h
 · exact h
theorem Qdy {v:Nat}:∀ (es:List (Int×Int)) {l:List Bool},l.getD v false=true→(es.foldl Qnc l).getD v false=true
 | [],_,h=>h
 | e::es,_,h=>Qdy es (Qjx h)
theorem Qnq {es:List (Int×Int)} {v:Nat}:∀ (m:Nat) {l:List Bool},l.getD v false=true→(Qi8 es m l).getD v false=true
 | 0,_,h=>h
 | m+1,_,h=>Qnq m (Qdy es h)
theorem Qma {n:Nat} {es:List (Int×Int)} {v:Nat} (hv:v < n):(v:Int) ∈ Qgf n es v:=by
 refine List.mem_filter.2 ⟨Qdt.2 ⟨by omega,by omega⟩,?_⟩
 refine Qnq n ?_
 rw [Int.toNat_natCast,List.getD_eq_getElem?_getD,List.getElem?_set_self (by simpa using hv)];rfl
theorem Jji (n:Nat) (hn7:n≤7) (es:List (Int×Int)) (c:Bool) (hes:∀ e ∈ es,0≤e.1∧e.1 < n∧0≤e.2∧e.2 < n) (hel:es.length≤1000):∀ (m i:Nat) (acc:List (List Int)),i+m=n→acc.length≤i →
 wp tb (.loop Jc5) { T:=[(1,.bptr 0 0 0),(3,OT acc),(4,I i)],loc:=[[I n,L2 es c]],M:=[] }
  (fun ex st=>ex=.exit 0∧st={ T:=[(1,.bptr 0 0 0),(3,OT (acc++Qhw n es i)),(4,I n),(10,Bo false)],loc:=[[I n,L2 es c]],M:=[] }):=by
 intro m
 induction m with
 | zero =>
   intro i acc hi ha
   have h3:i=n:=hi
   subst h3
   rw [Qhw,Ql7,List.filter_nil,List.map_nil,List.append_nil]
   refine wW ?_
   repeat (first|apply wA|apply wS|refine wr (by simp;with_reducible rfl) ?_|refine wq (by simp;with_reducible rfl) ?_|refine wt (by simpa) ?_|refine wf (by simpa) ?_|refine xt (by simpa) ?_|refine xf (by simpa) ?_|apply wB|apply Qab|refine wX ?_|refine wY ?_|refine wR ?_|refine wK ?_|refine wE ?_)
   exact ⟨rfl,rfl⟩
 | succ m ih =>
   intro i acc hi ha
   have hi2:i < n:=by omega
   have w1:IntKind.i64.wrap ((i:Int)+1)=((i+1:Nat):Int):=Qbg (by omega)
   have e1:=fun c=>Qaa (Qey n hn7 es c hes hel i hi2)
   have hm:=Qma (es:=es) hi2
   have hh:hdV n es (i:Int)=decide ((Qgf n es i).getD 0 0=(i:Int)):=by rw [hdV,Int.toNat_natCast]
   rw [Qhw,Qfe hi2]
   have hn0:=ih (i+1) acc (by omega) (by omega)
   have hn1:=ih (i+1) (acc++[Qgf n es i]) (by omega) (by simp;omega)
   rw [List.append_assoc,List.cons_append,List.nil_append] at hn1
   have hl1:acc.length+1≤274877906944:=by omega
   have hT:∀ x:List Int,List.take (acc.length+1) (acc++[x])=acc++[x]:=fun x=>List.take_of_length_le (by simp)
   have hT2:List.take acc.length acc=acc:=List.take_of_length_le (Nat.le_refl _)
   by_cases hq:(Qgf n es i).getD 0 0=(i:Int)
   · rw [List.filter_cons_of_pos (by rw [hh];exact decide_eq_true hq),List.map_cons,Int.toNat_natCast]
     rw [Qhw] at hn1
     generalize Qgf n es i=C at *
     cases C with
     | nil=>cases hm
     | cons y ys =>
       have hq:y=(i:Int):=hq
       subst hq
       refine wW ?_
       repeat (first|apply wA|apply wS|refine wr (by simp [hi2,e1,w1,hl1,hT,hT2];with_reducible rfl) ?_|refine wq (by simp [hi2,e1,w1,hl1,hT,hT2];with_reducible rfl) ?_|refine wt (by simpa [hi2,e1,w1,hl1,hT,hT2]) ?_|refine wf (by simpa [hi2,e1,w1,hl1,hT,hT2]) ?_|refine xt (by simpa [hi2,e1,w1,hl1,hT,hT2]) ?_|refine xf (by simpa [hi2,e1,w1,hl1,hT,hT2]) ?_|apply wB|apply Qab|refine wX ?_|refine wY ?_|refine wR ?_|refine wK ?_|refine wE ?_)
       exact hn1
   · rw [List.filter_cons_of_neg (by rw [hh,decide_eq_true_eq];exact hq)]
     rw [Qhw] at hn0
     generalize Qgf n es i=C at *
     cases C with
     | nil=>cases hm
     | cons y ys =>
       have hq:¬ y=(i:Int):=hq
       refine wW ?_
       repeat (first|apply wA|apply wS|refine wr (by simp [hi2,e1,w1,hq];with_reducible rfl) ?_|refine wq (by simp [hi2,e1,w1,hq];with_reducible rfl) ?_|refine wt (by simpa [hi2,e1,w1,hq]) ?_|refine wf (by simpa [hi2,e1,w1,hq]) ?_|refine xt (by simpa [hi2,e1,w1,hq]) ?_|refine xf (by simpa [hi2,e1,w1,hq]) ?_|apply wB|apply Qab|refine wX ?_|refine wY ?_|refine wR ?_|refine wK ?_|refine wE ?_)
       exact hn0
theorem Qcf (n:Nat) (hn7:n≤7) (es:List (Int×Int)) (c:Bool) (hes:∀ e ∈ es,0≤e.1∧e.1 < n∧0≤e.2∧e.2 < n) (hel:es.length≤1000) :
 Ev tb Qst [] [Gr n es c] [] ⟨OT (Qhw n es 0),[],[],[]⟩:=by
 have loop:=Jji n hn7 es c hes hel n 0 [] (by omega) (by simp)
 rw [List.nil_append,show ((0:Nat):Int)=0 from rfl] at loop
 simp only [OT,Jhs] at loop
 refine cW zt343 rfl ?_
 repeat (first|apply wA|apply wS|refine wr (by simp;with_reducible rfl) ?_|refine wq (by simp;with_reducible rfl) ?_|refine wt (by simpa) ?_|refine wf (by simpa) ?_|refine xt (by simpa) ?_|refine xf (by simpa) ?_|apply wB|apply Qab|refine wX ?_|refine wY ?_|refine wR ?_|refine wK ?_|refine wE ?_)
 refine Qah loop ?_
 rintro ex st ⟨rfl,rfl⟩
 simp only [if_true]
 repeat (first|apply wA|apply wS|refine wr (by simp;with_reducible rfl) ?_|refine wq (by simp;with_reducible rfl) ?_|refine wt (by simpa) ?_|refine wf (by simpa) ?_|refine xt (by simpa) ?_|refine xf (by simpa) ?_|apply wB|apply Qab|refine wX ?_|refine wY ?_|refine wR ?_|refine wK ?_|refine wE ?_)
 simp [Jbw]
theorem Qiz (es:List (Int×Int)) (c:Bool) (v1:Qco tb Qui [] [Gr 0 es c] []=some ⟨Bo true,[],[],[]⟩):Ev tb Qqm [] [Gr 0 es c] [] ⟨Bo false,[],[],[]⟩:=by
 have e1:Qco tb Qo4 [] [I 0,I (-1)] []=some ⟨Z,[],[],[]⟩:=Qaa (Qfd 0 (-1) (by omega))
 have e2:Qco tb Qkx [] [Gr 0 es c] []=some ⟨Z,[],[],[]⟩:=by
  refine Qaa ?_
  refine cW Jaj rfl ?_
  repeat (first|apply wA|apply wS|refine wr (by simp [e1];with_reducible rfl) ?_|refine wq (by simp [e1];with_reducible rfl) ?_|refine wt (by simpa [e1]) ?_|refine wf (by simpa [e1]) ?_|refine xt (by simpa [e1]) ?_|refine xf (by simpa [e1]) ?_|apply wB|apply Qab|refine wX ?_|refine wY ?_|refine wR ?_|refine wK ?_|refine wE ?_)
  refine wW ?_
  repeat (first|apply wA|apply wS|refine wr (by simp;with_reducible rfl) ?_|refine wq (by simp;with_reducible rfl) ?_|refine wt (by simpa) ?_|refine wf (by simpa) ?_|refine xt (by simpa) ?_|refine xf (by simpa) ?_|apply wB|apply Qab|refine wX ?_|refine wY ?_|refine wR ?_|refine wK ?_|refine wE ?_)
  simp [Qqv]
 have e3:=Qaa (Qm8 [])
 simp only [nlT] at e3
 have e4:Qco tb Qo0 [] [Gr 0 es c] []=some ⟨Z,[],[],[]⟩:=by
  refine Qaa ?_
  refine cW Jg2 rfl ?_
  repeat (first|apply wA|apply wS|refine wr (by simp [e2];with_reducible rfl) ?_|refine wq (by simp [e2];with_reducible rfl) ?_|refine wt (by simpa [e2]) ?_|refine wf (by simpa [e2]) ?_|refine xt (by simpa [e2]) ?_|refine xf (by simpa [e2]) ?_|apply wB|apply Qab|refine wX ?_|refine wY ?_|refine wR ?_|refine wK ?_|refine wE ?_)
  refine wW ?_
  repeat (first|apply wA|apply wS|refine wr (by simp [e3];with_reducible rfl) ?_|refine wq (by simp [e3];with_reducible rfl) ?_|refine wt (by simpa [e3]) ?_|refine wf (by simpa [e3]) ?_|refine xt (by simpa [e3]) ?_|refine xf (by simpa [e3]) ?_|apply wB|apply Qab|refine wX ?_|refine wY ?_|refine wR ?_|refine wK ?_|refine wE ?_)
  simp [Qqo]
 refine cW Jcg rfl ?_
 repeat (first|apply wA|apply wS|refine wr (by simp [v1,e4];with_reducible rfl) ?_|refine wq (by simp [v1,e4];with_reducible rfl) ?_|refine wt (by simpa [v1,e4]) ?_|refine wf (by simpa [v1,e4]) ?_|refine xt (by simpa [v1,e4]) ?_|refine xf (by simpa [v1,e4]) ?_|apply wB|apply Qab|refine wX ?_|refine wY ?_|refine wR ?_|refine wK ?_|refine wE ?_)
 simp [Qqi]
end Go.Idl
namespace Go.Idl
open Go
def apart (a b c d:Int):Bool:=decide (a ≠ b) && decide (a ≠ c) && decide (a ≠ d) && decide (b ≠ c) && decide (b ≠ d) && decide (c ≠ d)
abbrev Sw (a b c d:Int):IV:=.agg [I a,I b,I c,I d]
set_option maxHeartbeats 4000000 in
theorem Qzv (a b c d:Int) (M:List Qac):Ev tb Qyf [] [Sw a b c d] M ⟨Bo (apart a b c d),[],M,[]⟩:=by
 by_cases h1:a=b
 · subst h1
   refine cW Qpz rfl ?_
   repeat (first|apply wA|apply wS|refine wr (by simp;with_reducible rfl) ?_|refine wq (by simp;with_reducible rfl) ?_|refine wt (by simpa) ?_|refine wf (by simpa) ?_|refine xt (by simpa) ?_|refine xf (by simpa) ?_|apply wB|apply Qab|refine wX ?_|refine wY ?_|refine wR ?_|refine wK ?_|refine wE ?_)
   simp [Qko,apart]
 by_cases h2:a=c
 · subst h2
   refine cW Qpz rfl ?_
   repeat (first|apply wA|apply wS|refine wr (by simp [h1];with_reducible rfl) ?_|refine wq (by simp [h1];with_reducible rfl) ?_|refine wt (by simpa [h1]) ?_|refine wf (by simpa [h1]) ?_|refine xt (by simpa [h1]) ?_|refine xf (by simpa [h1]) ?_|apply wB|apply Qab|refine wX ?_|refine wY ?_|refine wR ?_|refine wK ?_|refine wE ?_)
   simp [Qko,apart,h1]
 by_cases h3:a=d
 · subst h3
   refine cW Qpz rfl ?_
   repeat (first|apply wA|apply wS|refine wr (by simp [h1,h2];with_reducible rfl) ?_|refine wq (by simp [h1,h2];with_reducible rfl) ?_|refine wt (by simpa [h1,h2]) ?_|refine wf (by simpa [h1,h2]) ?_|refine xt (by simpa [h1,h2]) ?_|refine xf (by simpa [h1,h2]) ?_|apply wB|apply Qab|refine wX ?_|refine wY ?_|refine wR ?_|refine wK ?_|refine wE ?_)
   simp [Qko,apart,h1,h2]
 by_cases h4:b=c
 · subst h4
   refine cW Qpz rfl ?_
   repeat (first|apply wA|apply wS|refine wr (by simp [h1,h2,h3];with_reducible rfl) ?_|refine wq (by simp [h1,h2,h3];with_reducible rfl) ?_|refine wt (by simpa [h1,h2,h3]) ?_|refine wf (by simpa [h1,h2,h3]) ?_|refine xt (by simpa [h1,h2,h3]) ?_|refine xf (by simpa [h1,h2,h3]) ?_|apply wB|apply Qab|refine wX ?_|refine wY ?_|refine wR ?_|refine wK ?_|refine wE ?_)
   simp [Qko,apart,h1,h2,h3]
 by_cases h5:b=d
 · subst h5
   refine cW Qpz rfl ?_
   repeat (first|apply wA|apply wS|refine wr (by simp [h1,h2,h3,h4];with_reducible rfl) ?_|refine wq (by simp [h1,h2,h3,h4];with_reducible rfl) ?_|refine wt (by simpa [h1,h2,h3,h4]) ?_|refine wf (by simpa [h1,h2,h3,h4]) ?_|refine xt (by simpa [h1,h2,h3,h4]) ?_|refine xf (by simpa [h1,h2,h3,h4]) ?_|apply wB|apply Qab|refine wX ?_|refine wY ?_|refine wR ?_|refine wK ?_|refine wE ?_)
   simp [Qko,apart,h1,h2,h3,h4]
 by_cases h6:c=d
 · subst h6
   refine cW Qpz rfl ?_
   repeat (first|apply wA|apply wS|refine wr (by simp [h1,h2,h3,h4,h5];with_reducible rfl) ?_|refine wq (by simp [h1,h2,h3,h4,h5];with_reducible rfl) ?_|refine wt (by simpa [h1,h2,h3,h4,h5]) ?_|refine wf (by simpa [h1,h2,h3,h4,h5]) ?_|refine xt (by simpa [h1,h2,h3,h4,h5]) ?_|refine xf (by simpa [h1,h2,h3,h4,h5]) ?_|apply wB|apply Qab|refine wX ?_|refine wY ?_|refine wR ?_|refine wK ?_|refine wE ?_)
   simp [Qko,apart,h1,h2,h3,h4,h5]
 refine cW Qpz rfl ?_
 repeat (first|apply wA|apply wS|refine wr (by simp [h1,h2,h3,h4,h5,h6];with_reducible rfl) ?_|refine wq (by simp [h1,h2,h3,h4,h5,h6];with_reducible rfl) ?_|refine wt (by simpa [h1,h2,h3,h4,h5,h6]) ?_|refine wf (by simpa [h1,h2,h3,h4,h5,h6]) ?_|refine xt (by simpa [h1,h2,h3,h4,h5,h6]) ?_|refine xf (by simpa [h1,h2,h3,h4,h5,h6]) ?_|apply wB|apply Qab|refine wX ?_|refine wY ?_|refine wR ?_|refine wK ?_|refine wE ?_)
 simp [Qko,apart,h1,h2,h3,h4,h5,h6]
def Quk (a b c d:Int) (x:Int×Int):Bool:=decide (x=(min a b,max a b)) || decide (x=(min c d,max c d))
set_option maxHeartbeats 4000000 in
theorem Qnm (x:Int×Int) (a b c d:Int) (B:Qac) (k:Nat) (hB:B[k]? = some [I a,I b,I c,I d]) (Ms:List Qac):Ev tb Qtx [] [.agg [I x.1,I x.2],.bptr 0 k 0] (B::Ms) ⟨Bo (Quk a b c d x),[],B::Ms,[]⟩:=by
 have e1:=fun M=>Qaa (Qme a b M)
 have e2:=fun M=>Qaa (Qme c d M)
 obtain ⟨x1,x2⟩:=x
 have hg:Quk a b c d (x1,x2)=(decide (x1=min a b) && decide (x2=max a b) || decide (x1=min c d) && decide (x2=max c d)):=by
  simp [Quk]
 rw [hg]
 generalize min a b=p at *
 generalize max a b=q at *
 generalize min c d=r at *
 generalize max c d=s at *
 by_cases h1:x1=p
 · subst h1
   by_cases h2:x2=q
   · subst h2
     refine cW Qpw rfl ?_
     repeat (first|apply wA|apply wS|refine wr (by simp [e1,e2,hB];with_reducible rfl) ?_|refine wq (by simp [e1,e2,hB];with_reducible rfl) ?_|refine wt (by simpa [e1,e2,hB]) ?_|refine wf (by simpa [e1,e2,hB]) ?_|refine xt (by simpa [e1,e2,hB]) ?_|refine xf (by simpa [e1,e2,hB]) ?_|apply wB|apply Qab|refine wX ?_|refine wY ?_|refine wR ?_|refine wK ?_|refine wE ?_)
     refine Qe7 (by simp [e1,e2,hB];with_reducible rfl) (by simp;with_reducible rfl) ?_ ?_
     · intro p hp
       simp only [List.mem_cons,List.not_mem_nil,or_false] at hp
       rcases hp with rfl | rfl | rfl
       · exact ⟨_,by simp [e1,e2,hB];with_reducible rfl,by simp⟩
       · exact ⟨_,by simp [e1,e2,hB];with_reducible rfl,by simp⟩
       · exact ⟨_,by simp [e1,e2,hB];with_reducible rfl,by simp⟩
     repeat (first|apply wA|apply wS|refine wr (by simp;with_reducible rfl) ?_|refine wq (by simp;with_reducible rfl) ?_|refine wt (by simpa) ?_|refine wf (by simpa) ?_|refine xt (by simpa) ?_|refine xf (by simpa) ?_|apply wB|apply Qab|refine wX ?_|refine wY ?_|refine wR ?_|refine wK ?_|refine wE ?_)
     simp [Qkp]
   · by_cases h3:x1=r
     · subst h3
       by_cases h4:x2=s
       · subst h4
         refine cW Qpw rfl ?_
         repeat (first|apply wA|apply wS|refine wr (by simp [e1,e2,hB,h2];with_reducible rfl) ?_|refine wq (by simp [e1,e2,hB,h2];with_reducible rfl) ?_|refine wt (by simpa [e1,e2,hB,h2]) ?_|refine wf (by simpa [e1,e2,hB,h2]) ?_|refine xt (by simpa [e1,e2,hB,h2]) ?_|refine xf (by simpa [e1,e2,hB,h2]) ?_|apply wB|apply Qab|refine wX ?_|refine wY ?_|refine wR ?_|refine wK ?_|refine wE ?_)
         refine Qe7 (by simp [e1,e2,hB,h2];with_reducible rfl) (by simp;with_reducible rfl) ?_ ?_
         · intro p hp
           simp only [List.mem_cons,List.not_mem_nil,or_false] at hp
           rcases hp with rfl | rfl | rfl
           · exact ⟨_,by simp [e1,e2,hB,h2];with_reducible rfl,by simp⟩
           · exact ⟨_,by simp [e1,e2,hB,h2];with_reducible rfl,by simp⟩
           · exact ⟨_,by simp [e1,e2,hB,h2];with_reducible rfl,by simp⟩
         repeat (first|apply wA|apply wS|refine wr (by simp;with_reducible rfl) ?_|refine wq (by simp;with_reducible rfl) ?_|refine wt (by simpa) ?_|refine wf (by simpa) ?_|refine xt (by simpa) ?_|refine xf (by simpa) ?_|apply wB|apply Qab|refine wX ?_|refine wY ?_|refine wR ?_|refine wK ?_|refine wE ?_)
         simp [Qkp,h2]
       · refine cW Qpw rfl ?_
         repeat (first|apply wA|apply wS|refine wr (by simp [e1,e2,hB,h2,h4];with_reducible rfl) ?_|refine wq (by simp [e1,e2,hB,h2,h4];with_reducible rfl) ?_|refine wt (by simpa [e1,e2,hB,h2,h4]) ?_|refine wf (by simpa [e1,e2,hB,h2,h4]) ?_|refine xt (by simpa [e1,e2,hB,h2,h4]) ?_|refine xf (by simpa [e1,e2,hB,h2,h4]) ?_|apply wB|apply Qab|refine wX ?_|refine wY ?_|refine wR ?_|refine wK ?_|refine wE ?_)
         refine Qe7 (by simp [e1,e2,hB,h2,h4];with_reducible rfl) (by simp;with_reducible rfl) ?_ ?_
         · intro p hp
           simp only [List.mem_cons,List.not_mem_nil,or_false] at hp
           rcases hp with rfl | rfl | rfl
           · exact ⟨_,by simp [e1,e2,hB,h2,h4];with_reducible rfl,by simp⟩
           · exact ⟨_,by simp [e1,e2,hB,h2,h4];with_reducible rfl,by simp⟩
           · exact ⟨_,by simp [e1,e2,hB,h2,h4];with_reducible rfl,by simp⟩
         repeat (first|apply wA|apply wS|refine wr (by simp;with_reducible rfl) ?_|refine wq (by simp;with_reducible rfl) ?_|refine wt (by simpa) ?_|refine wf (by simpa) ?_|refine xt (by simpa) ?_|refine xf (by simpa) ?_|apply wB|apply Qab|refine wX ?_|refine wY ?_|refine wR ?_|refine wK ?_|refine wE ?_)
         simp [Qkp,h2,h4]
     · refine cW Qpw rfl ?_
       repeat (first|apply wA|apply wS|refine wr (by simp [e1,e2,hB,h2,h3];with_reducible rfl) ?_|refine wq (by simp [e1,e2,hB,h2,h3];with_reducible rfl) ?_|refine wt (by simpa [e1,e2,hB,h2,h3]) ?_|refine wf (by simpa [e1,e2,hB,h2,h3]) ?_|refine xt (by simpa [e1,e2,hB,h2,h3]) ?_|refine xf (by simpa [e1,e2,hB,h2,h3]) ?_|apply wB|apply Qab|refine wX ?_|refine wY ?_|refine wR ?_|refine wK ?_|refine wE ?_)
       refine Qe7 (by simp [e1,e2,hB,h2,h3];with_reducible rfl) (by simp;with_reducible rfl) ?_ ?_
       · intro p hp
         simp only [List.mem_cons,List.not_mem_nil,or_false] at hp
         rcases hp with rfl | rfl | rfl
         · exact ⟨_,by simp [e1,e2,hB,h2,h3];with_reducible rfl,by simp⟩
         · exact ⟨_,by simp [e1,e2,hB,h2,h3];with_reducible rfl,by simp⟩
         · exact ⟨_,by simp [e1,e2,hB,h2,h3];with_reducible rfl,by simp⟩
       repeat (first|apply wA|apply wS|refine wr (by simp;with_reducible rfl) ?_|refine wq (by simp;with_reducible rfl) ?_|refine wt (by simpa) ?_|refine wf (by simpa) ?_|refine xt (by simpa) ?_|refine xf (by simpa) ?_|apply wB|apply Qab|refine wX ?_|refine wY ?_|refine wR ?_|refine wK ?_|refine wE ?_)
       simp [Qkp,h2,h3]
 · by_cases h3:x1=r
   · subst h3
     by_cases h4:x2=s
     · subst h4
       refine cW Qpw rfl ?_
       repeat (first|apply wA|apply wS|refine wr (by simp [e1,e2,hB,h1];with_reducible rfl) ?_|refine wq (by simp [e1,e2,hB,h1];with_reducible rfl) ?_|refine wt (by simpa [e1,e2,hB,h1]) ?_|refine wf (by simpa [e1,e2,hB,h1]) ?_|refine xt (by simpa [e1,e2,hB,h1]) ?_|refine xf (by simpa [e1,e2,hB,h1]) ?_|apply wB|apply Qab|refine wX ?_|refine wY ?_|refine wR ?_|refine wK ?_|refine wE ?_)
       refine Qe7 (by simp [e1,e2,hB,h1];with_reducible rfl) (by simp;with_reducible rfl) ?_ ?_
       · intro p hp
         simp only [List.mem_cons,List.not_mem_nil,or_false] at hp
         rcases hp with rfl | rfl | rfl
         · exact ⟨_,by simp [e1,e2,hB,h1];with_reducible rfl,by simp⟩
         · exact ⟨_,by simp [e1,e2,hB,h1];with_reducible rfl,by simp⟩
         · exact ⟨_,by simp [e1,e2,hB,h1];with_reducible rfl,by simp⟩
       repeat (first|apply wA|apply wS|refine wr (by simp;with_reducible rfl) ?_|refine wq (by simp;with_reducible rfl) ?_|refine wt (by simpa) ?_|refine wf (by simpa) ?_|refine xt (by simpa) ?_|refine xf (by simpa) ?_|apply wB|apply Qab|refine wX ?_|refine wY ?_|refine wR ?_|refine wK ?_|refine wE ?_)
       simp [Qkp,h1]
     · refine cW Qpw rfl ?_
       repeat (first|apply wA|apply wS|refine wr (by simp [e1,e2,hB,h1,h4];with_reducible rfl) ?_|refine wq (by simp [e1,e2,hB,h1,h4];with_reducible rfl) ?_|refine wt (by simpa [e1,e2,hB,h1,h4]) ?_|refine wf (by simpa [e1,e2,hB,h1,h4]) ?_|refine xt (by simpa [e1,e2,hB,h1,h4]) ?_|refine xf (by simpa [e1,e2,hB,h1,h4]) ?_|apply wB|apply Qab|refine wX ?_|refine wY ?_|refine wR ?_|refine wK ?_|refine wE ?_)
       refine Qe7 (by simp [e1,e2,hB,h1,h4];with_reducible rfl) (by simp;with_reducible rfl) ?_ ?_
       · intro p hp
         simp only [List.mem_cons,List.not_mem_nil,or_false] at hp
         rcases hp with rfl | rfl | rfl
         · exact ⟨_,by simp [e1,e2,hB,h1,h4];with_reducible rfl,by simp⟩
         · exact ⟨_,by simp [e1,e2,hB,h1,h4];with_reducible rfl,by simp⟩
         · exact ⟨_,by simp [e1,e2,hB,h1,h4];with_reducible rfl,by simp⟩
       repeat (first|apply wA|apply wS|refine wr (by simp;with_reducible rfl) ?_|refine wq (by simp;with_reducible rfl) ?_|refine wt (by simpa) ?_|refine wf (by simpa) ?_|refine xt (by simpa) ?_|refine xf (by simpa) ?_|apply wB|apply Qab|refine wX ?_|refine wY ?_|refine wR ?_|refine wK ?_|refine wE ?_)
       simp [Qkp,h1,h4]
   · refine cW Qpw rfl ?_
     repeat (first|apply wA|apply wS|refine wr (by simp [e1,e2,hB,h1,h3];with_reducible rfl) ?_|refine wq (by simp [e1,e2,hB,h1,h3];with_reducible rfl) ?_|refine wt (by simpa [e1,e2,hB,h1,h3]) ?_|refine wf (by simpa [e1,e2,hB,h1,h3]) ?_|refine xt (by simpa [e1,e2,hB,h1,h3]) ?_|refine xf (by simpa [e1,e2,hB,h1,h3]) ?_|apply wB|apply Qab|refine wX ?_|refine wY ?_|refine wR ?_|refine wK ?_|refine wE ?_)
     refine Qe7 (by simp [e1,e2,hB,h1,h3];with_reducible rfl) (by simp;with_reducible rfl) ?_ ?_
     · intro p hp
       simp only [List.mem_cons,List.not_mem_nil,or_false] at hp
       rcases hp with rfl | rfl | rfl
       · exact ⟨_,by simp [e1,e2,hB,h1,h3];with_reducible rfl,by simp⟩
       · exact ⟨_,by simp [e1,e2,hB,h1,h3];with_reducible rfl,by simp⟩
       · exact ⟨_,by simp [e1,e2,hB,h1,h3];with_reducible rfl,by simp⟩
     repeat (first|apply wA|apply wS|refine wr (by simp;with_reducible rfl) ?_|refine wq (by simp;with_reducible rfl) ?_|refine wt (by simpa) ?_|refine wf (by simpa) ?_|refine xt (by simpa) ?_|refine xf (by simpa) ?_|apply wB|apply Qab|refine wX ?_|refine wY ?_|refine wR ?_|refine wK ?_|refine wE ?_)
     simp [Qkp,h1,h3]
end Go.Idl
namespace Go.Idl
open Go
def swX (es:List (Int×Int)) (a b c d:Int):List (Int×Int):=es.filter (fun x=>!Quk a b c d x)++[(min a c,max a c),(min b d,max b d)]
def sw (es:List (Int×Int)) (a b c d:Int):List (Int×Int):=Jdq (swX es a b c d)
def Qkn (es:List (Int×Int)) (a b c d:Int):Bool:=apart a b c d && Qtv es a b && Qtv es c d && !Qtv es a c && !Qtv es b d
theorem Qsj {es:List (Int×Int)} {a b:Int}:Qtv es a b=true ↔ (min a b,max a b) ∈ es:=by
 simp [Qtv]
theorem Jif {es:List (Int×Int)} {a b:Int}:Qtv es a b=false ↔ (min a b,max a b) ∉ es:=by
 rw [← Qsj];simp
theorem Qi9 {es:List (Int×Int)} {a b c d:Int}:Qkn es a b c d=true ↔ (a ≠ b∧a ≠ c∧a ≠ d∧b ≠ c∧b ≠ d∧c ≠ d)∧(min a b,max a b) ∈ es∧(min c d,max c d) ∈ es∧(min a c,max a c) ∉ es∧(min b d,max b d) ∉ es:=by
 rw [Qkn]
 simp only [Qba,Bool.not_eq_true',apart,decide_eq_true_eq,Qsj,Jif,and_assoc]
theorem Quj {n:Nat} (hn:n≤7) {es:List (Int×Int)} (h:Qao n es=true):es.length≤21:=by
 have h1:=(Qwl h).length_le
 have h2:∀ n,n≤7→(prs n).length≤21:=by decide +kernel
 have:=h2 _ hn
 omega
theorem Qn0 {n:Nat} {es:List (Int×Int)} {a b c d:Int} (h:Qao n es=true) (hm:Qkn es a b c d=true) :
 (swX es a b c d).Nodup∧(∀ e ∈ swX es a b c d,e ∈ prs n)∧Qao n (sw es a b c d)=true∧(swX es a b c d).length≤21:=by
 obtain ⟨h1,h2,h3⟩:=Qar.1 h
 obtain ⟨⟨k1,k2,k3,k4,k5,k6⟩,m1,m2,m3,m4⟩:=Qi9.1 hm
 have p1:=Qak.1 (h2 _ m1)
 have p2:=Qak.1 (h2 _ m2)
 have hn:(swX es a b c d).Nodup:=by
  refine List.nodup_append.2 ⟨(Qhf h1).filter _,?_,?_⟩
  · simp only [List.nodup_cons,List.mem_singleton,List.not_mem_nil,not_false_eq_true,List.nodup_nil,and_true,Qpi]
    omega
  · intro x hx y hy hxy
    subst hxy
    have hx:=(List.mem_filter.1 hx).1
    simp only [List.mem_cons,List.not_mem_nil,or_false] at hy
    rcases hy with rfl | rfl
    · exact m3 hx
    · exact m4 hx
 have hp:∀ e ∈ swX es a b c d,e ∈ prs n:=fun e he=>by
  rcases List.mem_append.1 he with he | he
  · exact h2 _ (List.mem_filter.1 he).1
  · simp only [List.mem_cons,List.not_mem_nil,or_false] at he
    simp only at p1 p2
    rcases he with rfl | rfl
    · exact Qak.2 (by simp only;omega)
    · exact Qak.2 (by simp only;omega)
 have hv:Qao n (sw es a b c d)=true:=Qar.2 ⟨Qpy hn,fun e he=>hp e ((Qe3 _).mem_iff.1 he),h3⟩
 refine ⟨hn,hp,hv,?_⟩
 have:=Quj h3 hv
 rw [sw,(Qe3 _).length_eq] at this
 exact this
abbrev OS (n:Nat) (es:List (Int×Int)) (a b c d:Int):IV:=if Qkn es a b c d then .tup [OG n (sw es a b c d),Bo true] else .tup [.agg [I 0,Z],Bo false]
set_option maxHeartbeats 4000000 in
theorem Qyg (n:Nat) (es:List (Int×Int)) (cc:Bool) (a b c d:Int) (hv:Qao n es=true):Ev tb Qyt [] [Gr n es cc,Sw a b c d] [] ⟨OS n es a b c d,[],[],[]⟩:=by
 have hn7:=(Qar.1 hv).2.2
 have h21:=Quj hn7 hv
 have ea:=fun M=>Qaa (Qzv a b c d M)
 have eh:=fun c' a b M=>Qaa (Jvo n 2 es c' a b (.inl rfl) (by omega) M)
 cases h1:apart a b c d with
 | false =>
   have hm:Qkn es a b c d=false:=by simp [Qkn,h1]
   rw [OS,hm]
   refine cW Qtj rfl ?_
   repeat (first|apply wA|apply wS|refine wr (by simp [ea,eh,h1];with_reducible rfl) ?_|refine wq (by simp [ea,eh,h1];with_reducible rfl) ?_|refine wt (by simpa [ea,eh,h1]) ?_|refine wf (by simpa [ea,eh,h1]) ?_|refine xt (by simpa [ea,eh,h1]) ?_|refine xf (by simpa [ea,eh,h1]) ?_|apply wB|apply Qab|refine wX ?_|refine wY ?_|refine wR ?_|refine wK ?_|refine wE ?_)
   simp [Qmg]
 | true =>
 cases h2:Qtv es a b with
 | false =>
   have hm:Qkn es a b c d=false:=by simp [Qkn,h2]
   rw [OS,hm]
   refine cW Qtj rfl ?_
   repeat (first|apply wA|apply wS|refine wr (by simp [ea,eh,h1,h2];with_reducible rfl) ?_|refine wq (by simp [ea,eh,h1,h2];with_reducible rfl) ?_|refine wt (by simpa [ea,eh,h1,h2]) ?_|refine wf (by simpa [ea,eh,h1,h2]) ?_|refine xt (by simpa [ea,eh,h1,h2]) ?_|refine xf (by simpa [ea,eh,h1,h2]) ?_|apply wB|apply Qab|refine wX ?_|refine wY ?_|refine wR ?_|refine wK ?_|refine wE ?_)
   simp [Qmg]
 | true =>
 cases h3:Qtv es c d with
 | false =>
   have hm:Qkn es a b c d=false:=by simp [Qkn,h3]
   rw [OS,hm]
   refine cW Qtj rfl ?_
   repeat (first|apply wA|apply wS|refine wr (by simp [ea,eh,h1,h2,h3];with_reducible rfl) ?_|refine wq (by simp [ea,eh,h1,h2,h3];with_reducible rfl) ?_|refine wt (by simpa [ea,eh,h1,h2,h3]) ?_|refine wf (by simpa [ea,eh,h1,h2,h3]) ?_|refine xt (by simpa [ea,eh,h1,h2,h3]) ?_|refine xf (by simpa [ea,eh,h1,h2,h3]) ?_|apply wB|apply Qab|refine wX ?_|refine wY ?_|refine wR ?_|refine wK ?_|refine wE ?_)
   simp [Qmg]
 | true =>
 cases h4:Qtv es a c with
 | true =>
   have hm:Qkn es a b c d=false:=by simp [Qkn,h4]
   rw [OS,hm]
   refine cW Qtj rfl ?_
   repeat (first|apply wA|apply wS|refine wr (by simp [ea,eh,h1,h2,h3,h4];with_reducible rfl) ?_|refine wq (by simp [ea,eh,h1,h2,h3,h4];with_reducible rfl) ?_|refine wt (by simpa [ea,eh,h1,h2,h3,h4]) ?_|refine wf (by simpa [ea,eh,h1,h2,h3,h4]) ?_|refine xt (by simpa [ea,eh,h1,h2,h3,h4]) ?_|refine xf (by simpa [ea,eh,h1,h2,h3,h4]) ?_|apply wB|apply Qab|refine wX ?_|refine wY ?_|refine wR ?_|refine wK ?_|refine wE ?_)
   simp [Qmg]
 | false =>
 cases h5:Qtv es b d with
 | true =>
   have hm:Qkn es a b c d=false:=by simp [Qkn,h5]
   rw [OS,hm]
   refine cW Qtj rfl ?_
   repeat (first|apply wA|apply wS|refine wr (by simp [ea,eh,h1,h2,h3,h4,h5];with_reducible rfl) ?_|refine wq (by simp [ea,eh,h1,h2,h3,h4,h5];with_reducible rfl) ?_|refine wt (by simpa [ea,eh,h1,h2,h3,h4,h5]) ?_|refine wf (by simpa [ea,eh,h1,h2,h3,h4,h5]) ?_|refine xt (by simpa [ea,eh,h1,h2,h3,h4,h5]) ?_|refine xf (by simpa [ea,eh,h1,h2,h3,h4,h5]) ?_|apply wB|apply Qab|refine wX ?_|refine wY ?_|refine wR ?_|refine wK ?_|refine wE ?_)
   simp [Qmg]
 | false =>
 have hm:Qkn es a b c d=true:=by simp [Qkn,h1,h2,h3,h4,h5]
 obtain ⟨q1,q2,q3,q4⟩:=Qn0 hv hm
 rw [OS,hm]
 have ec:=fun c'=>Qaa (Qj6 2 es c' (.inl rfl) (by omega))
 have ed:=Qaa (Qfx es Qtx [.bptr 0 1 0] [[[I n,L2 es cc],[I a,I b,I c,I d],[I 0,Z]]] (Quk a b c d) (by omega) (fun bs M' x _=>Qnm x a b c d _ 1 rfl _))
 have ee:=fun a b M=>Qaa (Qme a b M)
 have em:=fun c'=>Qaa (Jfm n 2 (swX es a b c d) c' (.inl rfl) (fun x hx=>by have:=Qak.1 (q2 x hx);simp only [DE];omega) q1 q4)
 have hf:Fit (sw es a b c d):=fun e he=>by have:=Qak.1 ((Qar.1 q3).2.1 e he);omega
 have hl:(sw es a b c d).length≤21:=Quj hn7 q3
 have ev:=fun c'=>Qaa (Qbz n (sw es a b c d) c' hf (by omega))
 rw [q3] at ev
 rw [show Jdq (swX es a b c d)=sw es a b c d from rfl] at em
 simp only [swX] at em
 have hG:(es.filter (fun x=>!Quk a b c d x)).length≤274877906942:=by have:=List.length_filter_le (fun x=>!Quk a b c d x) es;omega
 generalize sw es a b c d=R at *
 generalize es.filter (fun x=>!Quk a b c d x)=G at *
 have hT:Qcw (List.take (G.length+2) (eds G++[[I (min a c),I (max a c)],[I (min b d),I (max b d)]]))=eds (G++[(min a c,max a c),(min b d,max b d)]):=by
  rw [List.take_of_length_le (by simp),← Je3 (G++[(min a c,max a c),(min b d,max b d)]),← Jfk]
  rfl
 refine cW Qtj rfl ?_
 repeat (first|apply wA|apply wS|refine wr (by simp [ea,eh,h1,h2,h3,h4,h5,ec,ed];with_reducible rfl) ?_|refine wq (by simp [ea,eh,h1,h2,h3,h4,h5,ec,ed];with_reducible rfl) ?_|refine wt (by simpa [ea,eh,h1,h2,h3,h4,h5,ec,ed]) ?_|refine wf (by simpa [ea,eh,h1,h2,h3,h4,h5,ec,ed]) ?_|refine xt (by simpa [ea,eh,h1,h2,h3,h4,h5,ec,ed]) ?_|refine xf (by simpa [ea,eh,h1,h2,h3,h4,h5,ec,ed]) ?_|apply wB|apply Qab|refine wX ?_|refine wY ?_|refine wR ?_|refine wK ?_|refine wE ?_)
 refine Qoz rfl (by simp [ee,em,hG,hT];with_reducible rfl) (by simp;with_reducible rfl) ?_ ?_
 · intro p hp
   simp only [List.mem_cons,List.not_mem_nil,or_false] at hp
   rcases hp with rfl | rfl | rfl | rfl | rfl | rfl | rfl | rfl | rfl | rfl | rfl
   · exact ⟨_,by simp [ee,em,hG,hT];with_reducible rfl,by simp⟩
   · exact ⟨_,by simp [ee,em,hG,hT];with_reducible rfl,by simp⟩
   · exact ⟨_,by simp [ee,em,hG,hT];with_reducible rfl,by simp⟩
   · exact ⟨_,by simp [ee,em,hG,hT];with_reducible rfl,by simp⟩
   · exact ⟨_,by simp [ee,em,hG,hT];with_reducible rfl,by simp⟩
   · exact ⟨_,by simp [ee,em,hG,hT];with_reducible rfl,by simp⟩
   · exact ⟨_,by simp [ee,em,hG,hT];with_reducible rfl,by simp⟩
   · exact ⟨_,by simp [ee,em,hG,hT];with_reducible rfl,by simp⟩
   · exact ⟨_,by simp [ee,em,hG,hT];with_reducible rfl,by simp⟩
   · exact ⟨_,by simp [ee,em,hG,hT];with_reducible rfl,by simp⟩
   · exact ⟨_,by simp [ee,em,hG,hT];with_reducible rfl,by simp⟩
 repeat (first|apply wA|apply wS|refine wr (by simp [ev];with_reducible rfl) ?_|refine wq (by simp [ev];with_reducible rfl) ?_|refine wt (by simpa [ev]) ?_|refine wf (by simpa [ev]) ?_|refine xt (by simpa [ev]) ?_|refine xf (by simpa [ev]) ?_|apply wB|apply Qab|refine wX ?_|refine wY ?_|refine wR ?_|refine wK ?_|refine wE ?_)
 refine Qe7 (by simp [ev];with_reducible rfl) (by simp;with_reducible rfl) ?_ ?_
 · intro p hp
   simp only [List.mem_cons,List.not_mem_nil,or_false] at hp
   subst hp
   exact ⟨_,by simp [ev];with_reducible rfl,by simp⟩
 repeat (first|apply wA|apply wS|refine wr (by simp;with_reducible rfl) ?_|refine wq (by simp;with_reducible rfl) ?_|refine wt (by simpa) ?_|refine wf (by simpa) ?_|refine xt (by simpa) ?_|refine xf (by simpa) ?_|apply wB|apply Qab|refine wX ?_|refine wY ?_|refine wR ?_|refine wK ?_|refine wE ?_)
 simp [Qmg]
end Go.Idl
namespace Go.Idl
def insP (x:Nat×Nat):List (Nat×Nat)→List (Nat×Nat)
 | []=>[x]
 | y::r=>if Nat.ble y.1 x.1 then x::y::r else y::insP x r
def hh:Nat→List (Nat×Nat)→List (Nat×Nat)
 | 0,_=>[]
 | _+1,[]=>[]
 | m+1,x::r=>(r.take x.1).map (fun y:Nat×Nat=>(x.2,y.2))++hh m ((((r.take x.1).map (fun y:Nat×Nat=>(y.1 - 1,y.2))++r.drop x.1:List (Nat×Nat))).foldr insP [])
theorem Qk0 (v:Nat) (e:Int×Int):0≤inc v e:=by simp only [inc];split <;> split <;> decide
theorem Jfo {α:Type} {p q:Prop} [Decidable p] [Decidable q] (h:p ↔ q) (a b:α):(if p then a else b)=if q then a else b:=by
 by_cases hp:p
 · rw [if_pos hp,if_pos (h.1 hp)]
 · rw [if_neg hp,if_neg fun hq=>hp (h.2 hq)]
def mk (u v:Nat):Int×Int:=(min (u:Int) v,max (u:Int) v)
end Go.Idl
namespace Go.Idl
open Go
def VE (es:List (Int×Int)) (x:IV):Prop:=(∃ c,x=L2 es c) ∨ (es=[]∧x=Z)
theorem Qkf (xs ys:List (Int×Int)) (c d:Bool) (hl:xs.length≤1000000) (hm:ys.length≤1000000):Ev tb Qt7 [] [L2 xs c,L2 ys d] [] ⟨Bo (decide (xs=ys)),[],[],[]⟩:=by
 by_cases he:xs.length=ys.length
 · have loop:∀ (m i:Nat),i+m=xs.length→wp tb (.loop Jdf) { T:=[(0,L2 xs c),(1,L2 ys d),(5,I i)],loc:=[],M:=[] }
    (fun ex st=>(ex=.exit 0∧xs.drop i=ys.drop i∧st={ T:=[(0,L2 xs c),(1,L2 ys d),(5,I xs.length),(14,Bo false)],loc:=[],M:=[] }) ∨
      ex=.ret∧xs.drop i ≠ ys.drop i∧st={ T:=[(4,Bo false)],loc:=[],M:=[] }):=by
    intro m
    induction m with
    | zero =>
      intro i hi
      have h2:xs.drop i=[]:=List.drop_of_length_le (by omega)
      have h3:i=xs.length:=hi
      subst h3
      have hf:¬ xs.length < ys.length:=by omega
      refine wW ?_
      repeat (first|apply wA|apply wS|refine wr (by simp [he];with_reducible rfl) ?_|refine wq (by simp [he];with_reducible rfl) ?_|refine wt (by simpa [he]) ?_|refine wf (by simpa [he]) ?_|refine xt (by simpa [he]) ?_|refine xf (by simpa [he]) ?_|apply wB|apply Qab|refine wX ?_|refine wY ?_|refine wR ?_|refine wK ?_|refine wE ?_)
      refine .inl ⟨rfl,?_,by simp [he]⟩
      rw [h2,he,List.drop_length]
    | succ m ih =>
      intro i hi
      have hix:i < xs.length:=by omega
      have hiy:i < ys.length:=by omega
      have w2:IntKind.i64.wrap ((i:Int)+1)=((i+1:Nat):Int):=Qbg (by omega)
      rw [List.drop_eq_getElem_cons hix,List.drop_eq_getElem_cons hiy]
      generalize hx:xs[i]=a
      generalize hy:ys[i]=b
      obtain ⟨a1,a2⟩:=a
      obtain ⟨b1,b2⟩:=b
      have gx:(eds xs)[i]'(by simpa using hix)=[I a1,I a2]:=by simp [eds,hx]
      have gy:(eds ys)[i]'(by simpa using hiy)=[I b1,I b2]:=by simp [eds,hy]
      by_cases h1:a1=b1
      · by_cases h2:a2=b2
        · refine wW ?_
          repeat (first|apply wA|apply wS|refine wr (by simp [hix,hiy,gx,gy,h1,h2,w2];with_reducible rfl) ?_|refine wq (by simp [hix,hiy,gx,gy,h1,h2,w2];with_reducible rfl) ?_|refine wt (by simpa [hix,hiy,gx,gy,h1,h2,w2]) ?_|refine wf (by simpa [hix,hiy,gx,gy,h1,h2,w2]) ?_|refine xt (by simpa [hix,hiy,gx,gy,h1,h2,w2]) ?_|refine xf (by simpa [hix,hiy,gx,gy,h1,h2,w2]) ?_|apply wB|apply Qab|refine wX ?_|refine wY ?_|refine wR ?_|refine wK ?_|refine wE ?_)
          refine Qah (ih (i+1) (by omega)) ?_
          rintro ex st (⟨rfl,h5,rfl⟩ | ⟨rfl,h5,rfl⟩)
          · exact .inl ⟨rfl,by rw [h1,h2,h5],rfl⟩
          · exact .inr ⟨rfl,by simp [h1,h2,h5],rfl⟩
        · refine wW ?_
          repeat (first|apply wA|apply wS|refine wr (by simp [hix,hiy,gx,gy,h1,h2,w2];with_reducible rfl) ?_|refine wq (by simp [hix,hiy,gx,gy,h1,h2,w2];with_reducible rfl) ?_|refine wt (by simpa [hix,hiy,gx,gy,h1,h2,w2]) ?_|refine wf (by simpa [hix,hiy,gx,gy,h1,h2,w2]) ?_|refine xt (by simpa [hix,hiy,gx,gy,h1,h2,w2]) ?_|refine xf (by simpa [hix,hiy,gx,gy,h1,h2,w2]) ?_|apply wB|apply Qab|refine wX ?_|refine wY ?_|refine wR ?_|refine wK ?_|refine wE ?_)
          exact .inr ⟨rfl,by simp [h1,h2],rfl⟩
      · refine wW ?_
        repeat (first|apply wA|apply wS|refine wr (by simp [hix,hiy,gx,gy,h1,w2];with_reducible rfl) ?_|refine wq (by simp [hix,hiy,gx,gy,h1,w2];with_reducible rfl) ?_|refine wt (by simpa [hix,hiy,gx,gy,h1,w2]) ?_|refine wf (by simpa [hix,hiy,gx,gy,h1,w2]) ?_|refine xt (by simpa [hix,hiy,gx,gy,h1,w2]) ?_|refine xf (by simpa [hix,hiy,gx,gy,h1,w2]) ?_|apply wB|apply Qab|refine wX ?_|refine wY ?_|refine wR ?_|refine wK ?_|refine wE ?_)
        exact .inr ⟨rfl,by simp [h1],rfl⟩
   refine cW Qp6 rfl ?_
   repeat (first|apply wA|apply wS|refine wr (by simp [he];with_reducible rfl) ?_|refine wq (by simp [he];with_reducible rfl) ?_|refine wt (by simpa [he]) ?_|refine wf (by simpa [he]) ?_|refine xt (by simpa [he]) ?_|refine xf (by simpa [he]) ?_|apply wB|apply Qab|refine wX ?_|refine wY ?_|refine wR ?_|refine wK ?_|refine wE ?_)
   refine Qah (loop xs.length 0 (by simp)) ?_
   rintro ex st (⟨rfl,h5,rfl⟩ | ⟨rfl,h5,rfl⟩)
   · simp only [if_true]
     repeat (first|apply wA|apply wS|refine wr (by simp;with_reducible rfl) ?_|refine wq (by simp;with_reducible rfl) ?_|refine wt (by simpa) ?_|refine wf (by simpa) ?_|refine xt (by simpa) ?_|refine xf (by simpa) ?_|apply wB|apply Qab|refine wX ?_|refine wY ?_|refine wR ?_|refine wK ?_|refine wE ?_)
     simp only [List.drop_zero] at h5
     simp [Qjw,h5]
   · simp only [List.drop_zero] at h5
     simp [Qjw,h5]
 · have h5:xs ≠ ys:=fun h=>he (by rw [h])
   have he':((xs.length:Int) != ys.length)=true:=by simp;omega
   refine cW Qp6 rfl ?_
   repeat (first|apply wA|apply wS|refine wr (by simp [he,he'];with_reducible rfl) ?_|refine wq (by simp [he,he'];with_reducible rfl) ?_|refine wt (by simpa [he,he']) ?_|refine wf (by simpa [he,he']) ?_|refine xt (by simpa [he,he']) ?_|refine xf (by simpa [he,he']) ?_|apply wB|apply Qab|refine wX ?_|refine wY ?_|refine wR ?_|refine wK ?_|refine wE ?_)
   simp [Qjw,h5]
theorem Ql9 (xs ys:List (Int×Int)) (x y:IV) (hx:VE xs x) (hy:VE ys y) (hl:xs.length≤1000000) (hm:ys.length≤1000000):Ev tb Qt7 [] [x,y] [] ⟨Bo (decide (xs=ys)),[],[],[]⟩:=by
 rcases hx with ⟨c,rfl⟩ | ⟨rfl,rfl⟩
 · rcases hy with ⟨d,rfl⟩ | ⟨rfl,rfl⟩
   · exact Qkf xs ys c d hl hm
   · cases xs with
     | nil =>
       refine cW Qp6 rfl ?_
       repeat (first|apply wA|apply wS|refine wr (by simp;with_reducible rfl) ?_|refine wq (by simp;with_reducible rfl) ?_|refine wt (by simpa) ?_|refine wf (by simpa) ?_|refine xt (by simpa) ?_|refine xf (by simpa) ?_|apply wB|apply Qab|refine wX ?_|refine wY ?_|refine wR ?_|refine wK ?_|refine wE ?_)
       refine wW ?_
       repeat (first|apply wA|apply wS|refine wr (by simp;with_reducible rfl) ?_|refine wq (by simp;with_reducible rfl) ?_|refine wt (by simpa) ?_|refine wf (by simpa) ?_|refine xt (by simpa) ?_|refine xf (by simpa) ?_|apply wB|apply Qab|refine wX ?_|refine wY ?_|refine wR ?_|refine wK ?_|refine wE ?_)
       simp [Qjw]
     | cons a xs =>
       have h0:¬ (xs.length:Int)+1=0:=by omega
       refine cW Qp6 rfl ?_
       repeat (first|apply wA|apply wS|refine wr (by simp [h0];with_reducible rfl) ?_|refine wq (by simp [h0];with_reducible rfl) ?_|refine wt (by simpa [h0]) ?_|refine wf (by simpa [h0]) ?_|refine xt (by simpa [h0]) ?_|refine xf (by simpa [h0]) ?_|apply wB|apply Qab|refine wX ?_|refine wY ?_|refine wR ?_|refine wK ?_|refine wE ?_)
       simp [Qjw]
 · rcases hy with ⟨d,rfl⟩ | ⟨rfl,rfl⟩
   · cases ys with
     | nil =>
       refine cW Qp6 rfl ?_
       repeat (first|apply wA|apply wS|refine wr (by simp;with_reducible rfl) ?_|refine wq (by simp;with_reducible rfl) ?_|refine wt (by simpa) ?_|refine wf (by simpa) ?_|refine xt (by simpa) ?_|refine xf (by simpa) ?_|apply wB|apply Qab|refine wX ?_|refine wY ?_|refine wR ?_|refine wK ?_|refine wE ?_)
       refine wW ?_
       repeat (first|apply wA|apply wS|refine wr (by simp;with_reducible rfl) ?_|refine wq (by simp;with_reducible rfl) ?_|refine wt (by simpa) ?_|refine wf (by simpa) ?_|refine xt (by simpa) ?_|refine xf (by simpa) ?_|apply wB|apply Qab|refine wX ?_|refine wY ?_|refine wR ?_|refine wK ?_|refine wE ?_)
       simp [Qjw]
     | cons a ys =>
       have h0:¬ (0:Int)=(ys.length:Int)+1:=by omega
       refine cW Qp6 rfl ?_
       repeat (first|apply wA|apply wS|refine wr (by simp [h0];with_reducible rfl) ?_|refine wq (by simp [h0];with_reducible rfl) ?_|refine wt (by simpa [h0]) ?_|refine wf (by simpa [h0]) ?_|refine xt (by simpa [h0]) ?_|refine xf (by simpa [h0]) ?_|apply wB|apply Qab|refine wX ?_|refine wY ?_|refine wR ?_|refine wK ?_|refine wE ?_)
       simp [Qjw]
   · refine cW Qp6 rfl ?_
     repeat (first|apply wA|apply wS|refine wr (by simp;with_reducible rfl) ?_|refine wq (by simp;with_reducible rfl) ?_|refine wt (by simpa) ?_|refine wf (by simpa) ?_|refine xt (by simpa) ?_|refine xf (by simpa) ?_|apply wB|apply Qab|refine wX ?_|refine wY ?_|refine wR ?_|refine wK ?_|refine wE ?_)
     refine wW ?_
     repeat (first|apply wA|apply wS|refine wr (by simp;with_reducible rfl) ?_|refine wq (by simp;with_reducible rfl) ?_|refine wt (by simpa) ?_|refine wf (by simpa) ?_|refine xt (by simpa) ?_|refine xf (by simpa) ?_|apply wB|apply Qab|refine wX ?_|refine wY ?_|refine wR ?_|refine wK ?_|refine wE ?_)
     simp [Qjw]
theorem Qeh (n m:Int) (xs ys:List (Int×Int)) (x y:IV) (hx:VE xs x) (hy:VE ys y) (hl:xs.length≤1000000) (hm:ys.length≤1000000):Ev tb Qp2 [] [.agg [I n,x],.agg [I m,y]] [] ⟨Bo (decide (n=m) && decide (xs=ys)),[],[],[]⟩:=by
 have e1:=Qaa (Ql9 xs ys x y hx hy hl hm)
 by_cases hnm:n=m
 · subst hnm
   rcases hx with ⟨c,rfl⟩ | ⟨rfl,rfl⟩
   · rcases hy with ⟨d,rfl⟩ | ⟨rfl,rfl⟩
     · refine cW Qny rfl ?_
       repeat (first|apply wA|apply wS|refine wr (by simp [e1];with_reducible rfl) ?_|refine wq (by simp [e1];with_reducible rfl) ?_|refine wt (by simpa [e1]) ?_|refine wf (by simpa [e1]) ?_|refine xt (by simpa [e1]) ?_|refine xf (by simpa [e1]) ?_|apply wB|apply Qab|refine wX ?_|refine wY ?_|refine wR ?_|refine wK ?_|refine wE ?_)
       simp [Qkl]
     · refine cW Qny rfl ?_
       repeat (first|apply wA|apply wS|refine wr (by simp [e1];with_reducible rfl) ?_|refine wq (by simp [e1];with_reducible rfl) ?_|refine wt (by simpa [e1]) ?_|refine wf (by simpa [e1]) ?_|refine xt (by simpa [e1]) ?_|refine xf (by simpa [e1]) ?_|apply wB|apply Qab|refine wX ?_|refine wY ?_|refine wR ?_|refine wK ?_|refine wE ?_)
       simp [Qkl]
   · rcases hy with ⟨d,rfl⟩ | ⟨rfl,rfl⟩
     · refine cW Qny rfl ?_
       repeat (first|apply wA|apply wS|refine wr (by simp [e1];with_reducible rfl) ?_|refine wq (by simp [e1];with_reducible rfl) ?_|refine wt (by simpa [e1]) ?_|refine wf (by simpa [e1]) ?_|refine xt (by simpa [e1]) ?_|refine xf (by simpa [e1]) ?_|apply wB|apply Qab|refine wX ?_|refine wY ?_|refine wR ?_|refine wK ?_|refine wE ?_)
       simp [Qkl]
     · refine cW Qny rfl ?_
       repeat (first|apply wA|apply wS|refine wr (by simp [e1];with_reducible rfl) ?_|refine wq (by simp [e1];with_reducible rfl) ?_|refine wt (by simpa [e1]) ?_|refine wf (by simpa [e1]) ?_|refine xt (by simpa [e1]) ?_|refine xf (by simpa [e1]) ?_|apply wB|apply Qab|refine wX ?_|refine wY ?_|refine wR ?_|refine wK ?_|refine wE ?_)
       simp [Qkl]
 · rcases hx with ⟨c,rfl⟩ | ⟨rfl,rfl⟩
   · rcases hy with ⟨d,rfl⟩ | ⟨rfl,rfl⟩
     · refine cW Qny rfl ?_
       repeat (first|apply wA|apply wS|refine wr (by simp [hnm];with_reducible rfl) ?_|refine wq (by simp [hnm];with_reducible rfl) ?_|refine wt (by simpa [hnm]) ?_|refine wf (by simpa [hnm]) ?_|refine xt (by simpa [hnm]) ?_|refine xf (by simpa [hnm]) ?_|apply wB|apply Qab|refine wX ?_|refine wY ?_|refine wR ?_|refine wK ?_|refine wE ?_)
       simp [Qkl,hnm]
     · refine cW Qny rfl ?_
       repeat (first|apply wA|apply wS|refine wr (by simp [hnm];with_reducible rfl) ?_|refine wq (by simp [hnm];with_reducible rfl) ?_|refine wt (by simpa [hnm]) ?_|refine wf (by simpa [hnm]) ?_|refine xt (by simpa [hnm]) ?_|refine xf (by simpa [hnm]) ?_|apply wB|apply Qab|refine wX ?_|refine wY ?_|refine wR ?_|refine wK ?_|refine wE ?_)
       simp [Qkl,hnm]
   · rcases hy with ⟨d,rfl⟩ | ⟨rfl,rfl⟩
     · refine cW Qny rfl ?_
       repeat (first|apply wA|apply wS|refine wr (by simp [hnm];with_reducible rfl) ?_|refine wq (by simp [hnm];with_reducible rfl) ?_|refine wt (by simpa [hnm]) ?_|refine wf (by simpa [hnm]) ?_|refine xt (by simpa [hnm]) ?_|refine xf (by simpa [hnm]) ?_|apply wB|apply Qab|refine wX ?_|refine wY ?_|refine wR ?_|refine wK ?_|refine wE ?_)
       simp [Qkl,hnm]
     · refine cW Qny rfl ?_
       repeat (first|apply wA|apply wS|refine wr (by simp [hnm];with_reducible rfl) ?_|refine wq (by simp [hnm];with_reducible rfl) ?_|refine wt (by simpa [hnm]) ?_|refine wf (by simpa [hnm]) ?_|refine xt (by simpa [hnm]) ?_|refine xf (by simpa [hnm]) ?_|apply wB|apply Qab|refine wX ?_|refine wY ?_|refine wR ?_|refine wK ?_|refine wE ?_)
       simp [Qkl,hnm]
end Go.Idl
namespace Go.Idl
theorem Qpl {e:Int×Int}:∀ {es:List (Int×Int)},PW es→e ∉ es→PW (Qkm e es)
 | [],_,_=>by simp [Qkm,PW]
 | x::r,h,hn=>by
   have h':=List.pairwise_cons.1 h
   rw [Qkm]
   split
   · rename_i hx
     refine List.pairwise_cons.2 ⟨fun y hy=>?_,Qpl h'.2 fun hm=>hn (by simp [hm])⟩
     rcases (Qgg _ _ _).1 hy with rfl | hy
     · exact hx
     · exact h'.1 y hy
   · rename_i hx
     have hxe:Qan e x=true:=by
      rcases Qca (a:=e) (b:=x) (fun h=>hn (by simp [h])) with q | q
      · exact q
      · exact absurd q hx
     refine List.pairwise_cons.2 ⟨fun y hy=>?_,h⟩
     rcases List.mem_cons.1 hy with rfl | hy
     · exact hxe
     · exact Qc6 hxe (h'.1 y hy)
end Go.Idl
namespace Go.Idl
theorem Jih (n:Nat):(Qd1 n (-1)).Pairwise (fun a b:Int=>a < b):=by
 rw [Qc1,List.pairwise_map]
 exact (List.pairwise_lt_range).imp fun h=>by omega
end Go.Idl
namespace Go.Idl
def hv:Nat→List Int→Bool
 | 0,_=>true
 | _+1,[]=>true
 | m+1,x::r=>decide (x≤r.length) && (r.take x.toNat).all (fun y=>!decide (y=0)) && hv m (fall ((r.take x.toNat).map (fun y=>y - 1)++r.drop x.toNat))
end Go.Idl
namespace Go.Idl
theorem Qze {α:Type} [DecidableEq α]:∀ {l k:List α},l.Nodup→(∀ x ∈ l,x ∈ k)→l.length≤k.length
 | [],_,_,_=>by simp
 | a::l,k,hn,hs=>by
   have hn':=List.nodup_cons.1 hn
   have h1:=Qze (l:=l) (k:=k.erase a) hn'.2 (fun x hx=>(List.mem_erase_of_ne (fun h=>hn'.1 (by rw [← h];exact hx))).2 (hs x (by simp [hx])))
   have h2:=List.length_erase_of_mem (hs a (by simp))
   have h3:0 < k.length:=List.length_pos_of_mem (hs a (by simp))
   simp only [List.length_cons];omega
end Go.Idl
namespace Go.Idl
theorem Qhz {α:Type}:∀ {l:List α} {f:α→Int},(∀ a ∈ l,0≤f a)→(S l f=0 ↔ ∀ a ∈ l,f a=0)
 | [],f,_=>by simp [S]
 | a::l,f,h=>by
   have h1:=h a (by simp)
   have h2:0≤S l f:=Qg2 fun b hb=>h b (by simp [hb])
   have h3:=Qhz (l:=l) (f:=f) fun b hb=>h b (by simp [hb])
   rw [Qcc,List.forall_mem_cons,← h3]
   omega
end Go.Idl
namespace Go.Idl
def Cl (es:List (Int×Int)) (p:Nat→Bool):Prop:=∀ e ∈ es,p e.1.toNat=p e.2.toNat
def Con (n:Nat) (es:List (Int×Int)):Prop:=∀ p,Cl es p→∀ u v,u < n→v < n→p u=p v
theorem Qc9 {α:Type} {p q:α→Bool}:∀ {l:List α},(∀ a ∈ l,p a=true→q a=true)→(∃ a ∈ l,p a=false∧q a=true)→l.countP p < l.countP q
 | [],_,⟨a,h,_⟩=>by cases h
 | b::l,hi,⟨a,ha,h1,h2⟩=>by
   rw [List.countP_cons,List.countP_cons]
   have hle:l.countP p≤l.countP q:=List.countP_mono_left fun x hx=>hi x (by simp [hx])
   by_cases hab:a=b
   · subst hab
     rw [h1,h2];simp;omega
   · have ha2:a ∈ l:=by
      rcases List.mem_cons.1 ha with h | h
      · exact absurd h hab
      · exact h
     have:=Qc9 (l:=l) (fun x hx=>hi x (by simp [hx])) ⟨a,ha2,h1,h2⟩
     have hb:=hi b (by simp)
     cases hp:p b with
     | false=>cases q b <;> simp <;> omega
     | true=>rw [hb hp];simp;omega
theorem Qir {α:Type} (p q:α→Bool):∀ l:List α,(l.countP fun a=>p a || q a)≤l.countP p+l.countP q
 | []=>by simp
 | a::l=>by
   have:=Qir p q l
   rw [List.countP_cons,List.countP_cons,List.countP_cons]
   cases p a <;> cases q a <;> simp <;> omega
theorem Qnu {α:Type} (p:α→Bool):∀ l:List α,S l (fun a=>if p a=true then 1 else 0)=(l.countP p:Int)
 | []=>rfl
 | a::l=>by rw [Qcc,Qnu p l,List.countP_cons];split <;> simp_all <;> omega
theorem Qih (n w:Nat):(List.range n).countP (fun v=>decide (v=w))≤1:=by
 have h1:=Qnu (fun v=>decide (v=w)) (List.range n)
 have h2:=Jba (List.nodup_range (n:=n)) w
 have h3:S (List.range n) (fun a=>if decide (a=w)=true then (1:Int) else 0)=S (List.range n) (fun a=>if w=a then 1 else 0):=Qea fun a _=>Jfo (by simp [eq_comm]) _ _
 rw [h3,h2] at h1
 split at h1 <;> omega
theorem grow {n:Nat} {es:List (Int×Int)} (hC:Con n es) (hes:∀ e ∈ es,e.1.toNat < n∧e.2.toNat < n) (Z:Nat→Nat→Bool) (h0:∃ v,v < n∧Z 0 v=true) (hm:∀ k v,Z k v=true→Z (k+1) v=true)
 (he:∀ k,∀ e ∈ es,(Z k e.1.toNat=true ∨ Z k e.2.toNat=true)→Z (k+1) e.1.toNat=true∧Z (k+1) e.2.toNat=true):∀ k,min (k+1) n≤(List.range n).countP (Z k)∧∃ v,v < n∧Z k v=true
 | 0=>by
   obtain ⟨v,hv,hz⟩:=h0
   have:0 < (List.range n).countP (Z 0):=List.countP_pos_iff.2 ⟨v,List.mem_range.2 hv,hz⟩
   exact ⟨by omega,v,hv,hz⟩
 | k+1=>by
   obtain ⟨ih,v,hv,hz⟩:=grow hC hes Z h0 hm he k
   refine ⟨?_,v,hv,hm k v hz⟩
   have hle:(List.range n).countP (Z k)≤(List.range n).countP (Z (k+1)):=List.countP_mono_left fun x _=>hm k x
   by_cases hall:∀ u,u < n→Z k u=true
   · have:(List.range n).countP (Z k)=(List.range n).length:=List.countP_eq_length.2 fun a ha=>hall a (List.mem_range.1 ha)
     simp at this
     omega
   · simp only [Classical.not_forall] at hall
     obtain ⟨u,hu,hzu⟩:=hall
     have hncl:¬ Cl es (Z k):=fun hc=>hzu (by rw [hC _ hc u v hu hv];exact hz)
     simp only [Cl,Classical.not_forall] at hncl
     obtain ⟨e,hee,hne⟩:=hncl
     have hlt:(List.range n).countP (Z k) < (List.range n).countP (Z (k+1)):=by
      have hb:=hes e hee
      refine Qc9 (fun x _=>hm k x) ?_
      cases h1:Z k e.1.toNat with
      | true =>
        have h2:Z k e.2.toNat=false:=by
         cases h2:Z k e.2.toNat with
         | false=>rfl
         | true=>rw [h1,h2] at hne;exact absurd rfl hne
        exact ⟨_,List.mem_range.2 hb.2,h2,(he k e hee (.inl h1)).2⟩
      | false =>
        have h2:Z k e.2.toNat=true:=by
         cases h2:Z k e.2.toNat with
         | true=>rfl
         | false=>rw [h1,h2] at hne;exact absurd rfl hne
        exact ⟨_,List.mem_range.2 hb.1,h1,(he k e hee (.inr h2)).1⟩
     omega
theorem Qsh {n:Nat} {es:List (Int×Int)} (hC:Con n es) (hes:∀ e ∈ es,e.1.toNat < n∧e.2.toNat < n) (Z:Nat→Nat→Bool) (h0:∃ v,v < n∧Z 0 v=true) (hm:∀ k v,Z k v=true→Z (k+1) v=true)
 (he:∀ k,∀ e ∈ es,(Z k e.1.toNat=true ∨ Z k e.2.toNat=true)→Z (k+1) e.1.toNat=true∧Z (k+1) e.2.toNat=true):∀ v,v < n→Z n v=true:=fun v hv=>by
 have h1:=(grow hC hes Z h0 hm he n).1
 have h2:(List.range n).countP (Z n)≤(List.range n).length:=List.countP_le_length
 simp at h2
 have h3:(List.range n).countP (Z n)=(List.range n).length:=by simp;omega
 exact List.countP_eq_length.1 h3 v (List.mem_range.2 hv)
theorem Qez (es:List (Int×Int)):∀ (k:Nat) (o:List Int),Qhl es (k+1) o=es.foldl Qdh (Qhl es k o)
 | 0,_=>rfl
 | k+1,o=>by rw [Qhl,Qez es k,Qhl]
theorem Qeq {o:List Int} {e:Int×Int} (h1:e.1.toNat < o.length) (h2:e.2.toNat < o.length) (v:Nat) :
 (Qdh o e).getD v 0=if v=e.1.toNat ∨ v=e.2.toNat then min (o.getD e.1.toNat 0) (o.getD e.2.toNat 0) else o.getD v 0:=by
 rw [Qdh,List.getD_eq_getElem?_getD,List.getElem?_set,List.getElem?_set]
 by_cases k2:v=e.2.toNat
 · subst k2
   simp [h2]
 · by_cases k1:v=e.1.toNat
   · subst k1
     simp [h1,Ne.symm k2]
   · simp [k1,k2,Ne.symm k1,Ne.symm k2]
def Qzd (n:Nat) (p:Nat→Bool) (o:List Int):Prop:=o.length=n∧∀ v,v < n→0≤o.getD v 0∧o.getD v 0≤v∧p (o.getD v 0).toNat=p v
theorem Qjn {n:Nat} {p:Nat→Bool} {o:List Int} {e:Int×Int} (h1:e.1.toNat < n) (h2:e.2.toNat < n) (hp:p e.1.toNat=p e.2.toNat) (h:Qzd n p o):Qzd n p (Qdh o e):=by
 refine ⟨by rw [Qet];exact h.1,fun v hv=>?_⟩
 rw [Qeq (by rw [h.1];exact h1) (by rw [h.1];exact h2)]
 have a:=h.2 _ h1
 have b:=h.2 _ h2
 split
 · rename_i hq
   have hpm:p (min (o.getD e.1.toNat 0) (o.getD e.2.toNat 0)).toNat=p v:=by
    have hpv:p v=p e.1.toNat:=by
     rcases hq with rfl | rfl
     · rfl
     · exact hp.symm
    rcases Int.le_total (o.getD e.1.toNat 0) (o.getD e.2.toNat 0) with hl | hl
    · rw [Int.min_eq_left hl,a.2.2,hpv]
    · rw [Int.min_eq_right hl,b.2.2,hpv,hp]
   refine ⟨by omega,?_,hpm⟩
   rcases hq with rfl | rfl <;> omega
 · exact h.2 v hv
theorem Qr9 {n:Nat} {p:Nat→Bool}:∀ (es:List (Int×Int)) {o:List Int},(∀ e ∈ es,e.1.toNat < n∧e.2.toNat < n)→Cl es p→Qzd n p o→Qzd n p (es.foldl Qdh o)
 | [],_,_,_,h=>h
 | e::es,_,he,hc,h=>Qr9 es (fun x hx=>he x (by simp [hx])) (fun x hx=>hc x (by simp [hx])) (Qjn (he e (by simp)).1 (he e (by simp)).2 (hc e (by simp)) h)
theorem Qgx {n:Nat} {p:Nat→Bool} {es:List (Int×Int)} (he:∀ e ∈ es,e.1.toNat < n∧e.2.toNat < n) (hc:Cl es p):∀ (k:Nat) {o:List Int},Qzd n p o→Qzd n p (Qhl es k o)
 | 0,_,h=>h
 | k+1,_,h=>Qgx he hc k (Qr9 es he hc h)
theorem Qhk (n:Nat) (p:Nat→Bool):Qzd n p (Qd1 n (-1)):=by
 have hg:∀ v,v < n→(Qd1 n (-1)).getD v 0=(v:Int):=fun v hv=>by
  rw [Qc1,List.getD_eq_getElem?_getD,List.getElem?_map,List.getElem?_range hv];rfl
 refine ⟨by rw [Qc1];simp,fun v hv=>?_⟩
 rw [hg v hv]
 exact ⟨by omega,by omega,by rw [Int.toNat_natCast]⟩
theorem Qhg {n:Nat}:∀ (es:List (Int×Int)) {o:List Int} {v:Nat},(∀ e ∈ es,e.1.toNat < n∧e.2.toNat < n)→Qzd n (fun _=>true) o→v < n→o.getD v 0=0→(es.foldl Qdh o).getD v 0=0
 | [],_,_,_,_,_,h=>h
 | e::es,o,v,he,hi,hv,h=>by
   have hb:=he e (by simp)
   have hi2:=Qjn hb.1 hb.2 rfl hi
   refine Qhg es (fun x hx=>he x (by simp [hx])) hi2 hv ?_
   rw [Qeq (by rw [hi.1];exact hb.1) (by rw [hi.1];exact hb.2)]
   have a:=hi.2 _ hb.1
   have b:=hi.2 _ hb.2
   split
   · rename_i hq
     rcases hq with rfl | rfl <;> omega
   · exact h
theorem Qom {n:Nat}:∀ (es:List (Int×Int)) {o:List Int},(∀ e ∈ es,e.1.toNat < n∧e.2.toNat < n)→Qzd n (fun _=>true) o→∀ e ∈ es,(o.getD e.1.toNat 0=0 ∨ o.getD e.2.toNat 0=0) →
 (es.foldl Qdh o).getD e.1.toNat 0=0∧(es.foldl Qdh o).getD e.2.toNat 0=0
 | [],_,_,_,_,h,_=>by cases h
 | f::es,o,he,hi,e,hm,h=>by
   have hb:=he f (by simp)
   have hbe:=he e hm
   have he':∀ e ∈ es,e.1.toNat < n∧e.2.toNat < n:=fun x hx=>he x (by simp [hx])
   have hi2:=Qjn hb.1 hb.2 rfl hi
   have a:=hi.2 _ hb.1
   have b:=hi.2 _ hb.2
   have rg:=fun v=>Qeq (o:=o) (e:=f) (by rw [hi.1];exact hb.1) (by rw [hi.1];exact hb.2) v
   rcases List.mem_cons.1 hm with rfl | hm2
   · refine ⟨Qhg es he' hi2 hb.1 ?_,Qhg es he' hi2 hb.2 ?_⟩
     · rw [rg,if_pos (.inl rfl)];omega
     · rw [rg,if_pos (.inr rfl)];omega
   · refine Qom es he' hi2 e hm2 ?_
     rcases h with h | h
     · left
       rw [rg]
       split
       · rename_i hq
         rcases hq with hq | hq <;> rw [hq] at h <;> omega
       · exact h
     · right
       rw [rg]
       split
       · rename_i hq
         rcases hq with hq | hq <;> rw [hq] at h <;> omega
       · exact h
theorem Jb2 {n:Nat} (hn1:1≤n) {es:List (Int×Int)} (hes:∀ e ∈ es,e.1.toNat < n∧e.2.toNat < n) (hC:Con n es):∀ v,v < n→(Qhl es n (Qd1 n (-1))).getD v 0=0:=by
 have hi:∀ k,Qzd n (fun _=>true) (Qhl es k (Qd1 n (-1))):=fun k=>Qgx hes (fun _ _=>rfl) k (Qhk n _)
 have hb:=Qhk n (fun _=>true)
 have hA:∀ v,v < n→(fun (k v:Nat)=>decide (v < n) && decide ((Qhl es k (Qd1 n (-1))).getD v 0=0)) n v=true:=by
  refine Qsh hC hes (fun k v=>decide (v < n) && decide ((Qhl es k (Qd1 n (-1))).getD v 0=0)) ⟨0,by omega,?_⟩ (fun k v h=>?_) (fun k e he h=>?_)
  · have hz:=hb.2 0 (by omega)
    have hz2:(Qd1 n (-1)).getD 0 0=0:=by
     have h1:=hz.1
     have h2:=hz.2.1
     omega
    show (decide (0 < n) && decide ((Qd1 n (-1)).getD 0 0=0))=true
    rw [decide_eq_true (show 0 < n by omega),decide_eq_true hz2];rfl
  · simp only [Qba,decide_eq_true_eq] at h ⊢
    rw [Qez]
    exact ⟨h.1,Qhg es hes (hi k) h.1 h.2⟩
  · have hbe:=hes e he
    simp only [Qba,decide_eq_true_eq] at h ⊢
    rw [Qez]
    have:=Qom es hes (hi k) e he (h.elim (fun h=>.inl h.2) (fun h=>.inr h.2))
    exact ⟨⟨hbe.1,this.1⟩,⟨hbe.2,this.2⟩⟩
 intro v hv
 have:=hA v hv
 simp only [Qba,decide_eq_true_eq] at this
 exact this.2
theorem Qnr (n:Nat) (es:List (Int×Int)):(Qbj n es).length=((rgF n 0).filter (isR (Qhl es n (Qd1 n (-1))))).length:=by rw [Qbj,Qii,List.length_map]
theorem Qow (n:Nat) (es:List (Int×Int)):(Qhw n es 0).length=((rgF n 0).filter (hdV n es)).length:=by rw [Qhw,List.length_map]
theorem Qri {n:Nat} (hn1:1≤n) (p:Int→Bool) (h0:p 0=true) (h:∀ v:Nat,v < n→1≤v→p v=false):((rgF n 0).filter p).length=1:=by
 rw [Qfe (show 0 < n by omega),show ((0:Nat):Int)=0 from rfl,List.filter_cons_of_pos h0,List.filter_eq_nil_iff.2 fun x hx=>?_]
 · rfl
 · have hb:=Qdt.1 hx
   obtain ⟨k,rfl⟩:=Int.eq_ofNat_of_zero_le (show 0≤x by omega)
   rw [h k (by omega) (by omega)];simp
theorem Qrj {n:Nat} (p:Int→Bool) {a b:Nat} (ha:a < n) (hb:b < n) (hab:a ≠ b) (pa:p a=true) (pb:p b=true):2≤((rgF n 0).filter p).length:=by
 have:[(a:Int),(b:Int)].length≤((rgF n 0).filter p).length:=Qze (by simp;omega) fun x hx=>by
  simp only [List.mem_cons,List.not_mem_nil,or_false] at hx
  rcases hx with rfl | rfl
  · exact List.mem_filter.2 ⟨Qdt.2 (by omega),pa⟩
  · exact List.mem_filter.2 ⟨Qdt.2 (by omega),pb⟩
 simpa using this
theorem Qmv {n:Nat} {p:Nat→Bool} {b:Bool} {v:Nat} (hv:v < n) (h:p v=b):∃ r,r < n∧p r=b∧∀ u,u < r→p u ≠ b:=by
 induction v using Nat.strongRecOn with
 | _ v ih =>
   by_cases hq:∃ u,u < v∧p u=b
   · obtain ⟨u,hu,hpu⟩:=hq
     exact ih u hu (by omega) hpu
   · exact ⟨v,hv,h,fun u hu hpu=>hq ⟨u,hu,hpu⟩⟩
theorem Qzh {n:Nat} {es:List (Int×Int)} (h:¬ Con n es):∃ p a b,Cl es p∧a < n∧b < n∧p a=true∧p b=false∧(∀ u,u < a→p u ≠ true)∧∀ u,u < b→p u ≠ false:=by
 simp only [Con,Classical.not_forall] at h
 obtain ⟨p,hc,u,v,hu,hv,hne⟩:=h
 have ht:∃ x,x < n∧p x=true:=by
  cases h1:p u with
  | true=>exact ⟨u,hu,h1⟩
  | false =>
    cases h2:p v with
    | true=>exact ⟨v,hv,h2⟩
    | false=>rw [h1,h2] at hne;exact absurd rfl hne
 have hf:∃ x,x < n∧p x=false:=by
  cases h1:p u with
  | false=>exact ⟨u,hu,h1⟩
  | true =>
    cases h2:p v with
    | false=>exact ⟨v,hv,h2⟩
    | true=>rw [h1,h2] at hne;exact absurd rfl hne
 obtain ⟨x,hx,hpx⟩:=ht
 obtain ⟨y,hy,hpy⟩:=hf
 obtain ⟨a,a1,a2,a3⟩:=Qmv hx hpx
 obtain ⟨b,b1,b2,b3⟩:=Qmv hy hpy
 exact ⟨p,a,b,hc,a1,b1,a2,b2,a3,b3⟩
theorem Qgt {n:Nat} (hn1:1≤n) {es:List (Int×Int)} (hes:∀ e ∈ es,e.1.toNat < n∧e.2.toNat < n):(Qbj n es).length=1 ↔ Con n es:=by
 rw [Qnr]
 constructor
 · intro h1
   refine Classical.byContradiction fun hC=>?_
   obtain ⟨p,a,b,hc,ha,hb,pa,pb,la,lb⟩:=Qzh hC
   have hi:=Qgx hes hc n (Qhk n p)
   have key:∀ (r:Nat) (x:Bool),r < n→p r=x→(∀ u,u < r→p u ≠ x)→isR (Qhl es n (Qd1 n (-1))) r=true:=fun r x hr hpr hl=>by
    rw [isR,inP,Int.toNat_natCast,decide_eq_true_eq]
    have:=hi.2 r hr
    by_cases hq:(Qhl es n (Qd1 n (-1))).getD r 0=r
    · exact hq
    · exact absurd (this.2.2.trans hpr) (hl _ (by omega))
   have:=Qrj (isR (Qhl es n (Qd1 n (-1)))) ha hb (fun h=>by rw [h,pb] at pa;cases pa) (key a true ha pa la) (key b false hb pb lb)
   omega
 · intro hC
   have hz:=Jb2 hn1 hes hC
   refine Qri hn1 _ ?_ fun v hv h1=>?_
   · rw [isR,inP,decide_eq_true_eq];exact hz 0 (by omega)
   · rw [isR,inP,Int.toNat_natCast,hz v hv,decide_eq_false_iff_not];omega
theorem Qe1 (es:List (Int×Int)):∀ (k:Nat) (o:List Bool),Qi8 es (k+1) o=es.foldl Qnc (Qi8 es k o)
 | 0,_=>rfl
 | k+1,o=>by rw [Qi8,Qe1 es k,Qi8]
theorem Ql0 {l:List Bool} {e:Int×Int} (h1:e.1.toNat < l.length) (h2:e.2.toNat < l.length) (v:Nat) :
 (Qnc l e).getD v false=if (l.getD e.1.toNat false || l.getD e.2.toNat false)=true∧(v=e.1.toNat ∨ v=e.2.toNat) then true else l.getD v false:=by
 rw [Qnc]
 by_cases hq:(l.getD e.1.toNat false || l.getD e.2.toNat false)=true
 · by_cases k2:v=e.2.toNat
   · have hR:(if (l.getD e.1.toNat false || l.getD e.2.toNat false)=true∧(v=e.1.toNat ∨ v=e.2.toNat) then true else l.getD v false)=true:=if_pos ⟨hq,.inr k2⟩
     rw [hR,if_pos hq,List.getD_eq_getElem?_getD,k2,List.getElem?_set_self (by simpa using h2)];rfl
   · by_cases k1:v=e.1.toNat
     · have hR:(if (l.getD e.1.toNat false || l.getD e.2.toNat false)=true∧(v=e.1.toNat ∨ v=e.2.toNat) then true else l.getD v false)=true:=if_pos ⟨hq,.inl k1⟩
       rw [hR,if_pos hq,List.getD_eq_getElem?_getD,List.getElem?_set_ne (Ne.symm k2),k1,List.getElem?_set_self h1];rfl
     · have hR:(if (l.getD e.1.toNat false || l.getD e.2.toNat false)=true∧(v=e.1.toNat ∨ v=e.2.toNat) then true else l.getD v false)=l.getD v false:=if_neg fun h=>h.2.elim k1 k2
       rw [hR,if_pos hq,List.getD_eq_getElem?_getD,List.getElem?_set_ne (Ne.symm k2),List.getElem?_set_ne (Ne.symm k1),List.getD_eq_getElem?_getD]
 · rw [if_neg hq,if_neg fun h=>hq h.1]
theorem Qh3 {n:Nat}:∀ (es:List (Int×Int)) {l:List Bool},l.length=n→(∀ e ∈ es,e.1.toNat < n∧e.2.toNat < n)→∀ e ∈ es,(l.getD e.1.toNat false=true ∨ l.getD e.2.toNat false=true) →
 (es.foldl Qnc l).getD e.1.toNat false=true∧(es.foldl Qnc l).getD e.2.toNat false=true
 | [],_,_,_,_,h,_=>by cases h
 | f::es,l,hl,he,e,hm,h=>by
   have he':∀ e ∈ es,e.1.toNat < n∧e.2.toNat < n:=fun x hx=>he x (by simp [hx])
   have hb:=he f (by simp)
   rcases List.mem_cons.1 hm with rfl | hm2
   · have hq:(l.getD e.1.toNat false || l.getD e.2.toNat false)=true:=by
      rcases h with h | h <;> rw [h] <;> simp
     refine ⟨Qdy es ?_,Qdy es ?_⟩
     · rw [Ql0 (by omega) (by omega),if_pos ⟨hq,.inl rfl⟩]
     · rw [Ql0 (by omega) (by omega),if_pos ⟨hq,.inr rfl⟩]
   · exact Qh3 es (by rw [Qjg,hl]) he' e hm2 (h.elim (fun h=>.inl (Qjx h)) (fun h=>.inr (Qjx h)))
theorem Qni {p:Nat→Bool} {v n:Nat}:∀ (es:List (Int×Int)) {l:List Bool},l.length=n→(∀ e ∈ es,e.1.toNat < n∧e.2.toNat < n)→Cl es p→(∀ u,l.getD u false=true→p u=p v)→∀ u,(es.foldl Qnc l).getD u false=true→p u=p v
 | [],_,_,_,_,h=>h
 | e::es,l,hl,he,hc,h=>by
   have hb:=he e (by simp)
   refine Qni es (by rw [Qjg,hl]) (fun x hx=>he x (by simp [hx])) (fun x hx=>hc x (by simp [hx])) fun u hu=>?_
   rw [Ql0 (by omega) (by omega)] at hu
   split at hu
   · rename_i hq
     have hce:=hc e (by simp)
     have h1:p e.1.toNat=p v:=by
      have hq1:=hq.1
      rw [Bool.or_eq_true] at hq1
      rcases hq1 with hq1 | hq1
      · exact h _ hq1
      · rw [hce];exact h _ hq1
     rcases hq.2 with rfl | rfl
     · exact h1
     · rw [← hce];exact h1
   · exact h u hu
theorem Qmw {p:Nat→Bool} {v n:Nat} {es:List (Int×Int)} (he:∀ e ∈ es,e.1.toNat < n∧e.2.toNat < n) (hc:Cl es p):∀ (k:Nat) {l:List Bool},l.length=n→(∀ u,l.getD u false=true→p u=p v)→∀ u,(Qi8 es k l).getD u false=true→p u=p v
 | 0,_,_,h=>h
 | k+1,l,hl,h=>Qmw he hc k (by rw [Qj3,hl]) (Qni es hl he hc h)
theorem Qgz {n v:Nat} (hv:v < n) (u:Nat):((List.replicate n false).set v true).getD u false=decide (u=v):=by
 rw [List.getD_eq_getElem?_getD,List.getElem?_set]
 by_cases h:v=u
 · subst h;simp [hv]
 · have:¬ u=v:=fun hh=>h hh.symm
   rw [if_neg h,decide_eq_false this,List.getElem?_replicate];split <;> rfl
theorem Qwh (n:Nat) (es:List (Int×Int)) (v:Nat):(Qgf n es v).Pairwise (fun a b:Int=>a < b):=by
 refine List.Pairwise.filter _ ?_
 rw [Jf5]
 exact Jih n
theorem Qn2 {n:Nat} (hn1:1≤n) {es:List (Int×Int)} (hes:∀ e ∈ es,e.1.toNat < n∧e.2.toNat < n):(Qhw n es 0).length=1 ↔ Con n es:=by
 rw [Qow]
 constructor
 · intro h1
   refine Classical.byContradiction fun hC=>?_
   obtain ⟨p,a,b,hc,ha,hb,pa,pb,la,lb⟩:=Qzh hC
   have key:∀ (r:Nat) (x:Bool),r < n→p r=x→(∀ u,u < r→p u ≠ x)→hdV n es r=true:=fun r x hr hpr hl=>by
    rw [hdV,Int.toNat_natCast,decide_eq_true_eq]
    have hm:=Qma (es:=es) hr
    have hpw:=Qwh n es r
    have hall:∀ u ∈ Qgf n es r,(r:Int)≤u:=fun u hu=>by
     have h2:=List.mem_filter.1 hu
     have hb:=Qdt.1 h2.1
     have h3:=Qmw (v:=r) hes hc n (l:=(List.replicate n false).set r true) (by simp) (fun w hw=>by rw [Qgz hr,decide_eq_true_eq] at hw;rw [hw]) u.toNat h2.2
     by_cases hq:(r:Int)≤u
     · exact hq
     · exact absurd (h3.trans hpr) (hl _ (by omega))
    cases hC:Qgf n es r with
    | nil=>rw [hC] at hm;cases hm
    | cons y ys =>
      rw [hC] at hm hpw hall
      have hy:=hall y (by simp)
      rcases List.mem_cons.1 hm with h | h
      · exact h.symm
      · have:=(List.pairwise_cons.1 hpw).1 _ h
        show y=r
        omega
   have:=Qrj (hdV n es) ha hb (fun h=>by rw [h,pb] at pa;cases pa) (key a true ha pa la) (key b false hb pb lb)
   omega
 · intro hC
   have hall:∀ v,v < n→∀ u,u < n→(Qi8 es n ((List.replicate n false).set v true)).getD u false=true:=fun v hv=>by
    have hlen:∀ k,(Qi8 es k ((List.replicate n false).set v true)).length=n:=fun k=>by rw [Qjd];simp
    refine Qsh hC hes (fun k u=>(Qi8 es k ((List.replicate n false).set v true)).getD u false) ⟨v,hv,?_⟩ (fun k u h=>?_) (fun k e he h=>?_)
    · show ((List.replicate n false).set v true).getD v false=true
      rw [Qgz hv];simp
    · rw [Qe1];exact Qdy es h
    · rw [Qe1];exact Qh3 es (hlen k) hes e he h
   have hcm:∀ v,v < n→Qgf n es v=rgF n 0:=fun v hv=>List.filter_eq_self.2 fun u hu=>by
    have hb:=Qdt.1 hu
    exact hall v hv _ (by omega)
   have hhd:∀ v:Nat,v < n→hdV n es v=decide ((0:Int)=v):=fun v hv=>by
    rw [hdV,Int.toNat_natCast,hcm v hv,Qfe (show 0 < n by omega)];rfl
   refine Qri hn1 _ ?_ fun v hv h1=>?_
   · have:=hhd 0 (by omega)
     rw [show ((0:Nat):Int)=0 from rfl] at this
     rw [this];rfl
   · rw [hhd v hv,decide_eq_false_iff_not];omega
theorem Qpa {n:Nat} {es:List (Int×Int)} (hes:∀ e ∈ es,e.1.toNat < n∧e.2.toNat < n) (hC:Con n es):∀ k,k+1≤n→∃ Z:Nat→Bool,(∃ v,v < n∧Z v=true)∧(List.range n).countP Z≤k+1∧k≤es.countP fun e=>Z e.1.toNat && Z e.2.toNat
 | 0,h=>⟨fun v=>decide (v=0),⟨0,by omega,rfl⟩,Qih n 0,by omega⟩
 | k+1,h=>by
   obtain ⟨Z,⟨v,hv,hz⟩,hc,hk⟩:=Qpa hes hC k (by omega)
   have hex:∃ u,u < n∧Z u=false:=by
    refine Classical.byContradiction fun hno=>?_
    have:(List.range n).countP Z=(List.range n).length:=List.countP_eq_length.2 fun a ha=>by
     cases hq:Z a with
     | true=>rfl
     | false=>exact absurd ⟨a,List.mem_range.1 ha,hq⟩ hno
    simp at this
    omega
   obtain ⟨u,hu,hzu⟩:=hex
   have hncl:¬ Cl es Z:=fun hcl=>by have:=hC _ hcl u v hu hv;rw [hz,hzu] at this;cases this
   simp only [Cl,Classical.not_forall] at hncl
   obtain ⟨e,hee,hne⟩:=hncl
   have hb:=hes e hee
   have step:∀ w,w < n→Z w=false→(∀ x,(x=e.1.toNat ∨ x=e.2.toNat)→(Z x || decide (x=w))=true)→(Z e.1.toNat && Z e.2.toNat)=false→∃ Z:Nat→Bool,(∃ v,v < n∧Z v=true)∧(List.range n).countP Z≤k+1+1∧k+1≤es.countP fun e=>Z e.1.toNat && Z e.2.toNat:=fun w hw hzw hx hin=>by
    refine ⟨fun x=>Z x || decide (x=w),⟨v,hv,by simp [hz]⟩,?_,?_⟩
    · have h1:=Qir Z (fun x=>decide (x=w)) (List.range n)
      have h2:=Qih n w
      omega
    · have:=Qc9 (p:=fun e:Int×Int=>Z e.1.toNat && Z e.2.toNat) (q:=fun e:Int×Int=>(Z e.1.toNat || decide (e.1.toNat=w)) && (Z e.2.toNat || decide (e.2.toNat=w))) (l:=es) (fun x _ hx=>by
       simp only [Qba] at hx ⊢
       simp [hx.1,hx.2]) ⟨e,hee,hin,by rw [hx _ (.inl rfl),hx _ (.inr rfl)];rfl⟩
      show k+1≤es.countP fun e:Int×Int=>(Z e.1.toNat || decide (e.1.toNat=w)) && (Z e.2.toNat || decide (e.2.toNat=w))
      omega
   cases h1:Z e.1.toNat with
   | true =>
     have h2:Z e.2.toNat=false:=by
      cases h2:Z e.2.toNat with
      | false=>rfl
      | true=>rw [h1,h2] at hne;exact absurd rfl hne
     exact step e.2.toNat hb.2 h2 (fun x hx=>by rcases hx with rfl | rfl <;> simp [h1]) (by simp [h2])
   | false =>
     have h2:Z e.2.toNat=true:=by
      cases h2:Z e.2.toNat with
      | true=>rfl
      | false=>rw [h1,h2] at hne;exact absurd rfl hne
     exact step e.1.toNat hb.1 h1 (fun x hx=>by rcases hx with rfl | rfl <;> simp [h2]) (by simp [h1])
theorem Jb5 {n:Nat} (hn1:1≤n) {es:List (Int×Int)} (h:Qao n es=true) (hC:Con n es):Qtp (Qdu n es)=true:=by
 have hin:=(Qar.1 h).2.1
 have hes:∀ e ∈ es,e.1.toNat < n∧e.2.toNat < n:=fun e he=>by have:=Qak.1 (hin e he);omega
 have hdl:(Qdu n es).length=n:=by rw [Qdu,Qdx];simp
 have hE:Qds n es:=fun e he=>by have:=Qak.1 (hin e he);omega
 obtain ⟨Z,-,-,hk⟩:=Qpa hes hC (n - 1) (by omega)
 have hle:(es.countP fun e=>Z e.1.toNat && Z e.2.toNat)≤es.length:=List.countP_le_length
 rw [Qtp,Qo8 h,Qlm hin,hdl]
 simp only [Bool.true_and,Qba,decide_eq_true_eq,Bool.or_eq_true]
 refine ⟨by omega,?_,by omega⟩
 by_cases h1:n=1
 · exact .inl h1
 · refine .inr ?_
   rw [Qlf,Qga hE,List.all_eq_true]
   intro x hx
   obtain ⟨v,hv,rfl⟩:=List.mem_map.1 hx
   have hv:=List.mem_range.1 hv
   have hnn:∀ e ∈ es,0≤inc v e:=fun e _=>Qk0 v e
   have h0:0≤deg es v:=Qg2 hnn
   by_cases hz:deg es v=0
   · exfalso
     have hz2:=(Qhz hnn).1 hz
     have hcl:Cl es (fun u=>decide (u=v)):=fun e he=>by
      have h1:=hz2 e he
      have hb:=Qak.1 (hin e he)
      simp only [inc] at h1
      by_cases k1:e.1=v
      · rw [if_pos k1] at h1;split at h1 <;> omega
      · by_cases k2:e.2=v
        · rw [if_pos k2,if_neg k1] at h1;omega
        · show decide (e.1.toNat=v)=decide (e.2.toNat=v)
          rw [decide_eq_false (by omega),decide_eq_false (by omega)]
     obtain ⟨w,hw,hwv⟩:∃ w,w < n∧w ≠ v:=by
      by_cases hv0:v=0
      · exact ⟨1,by omega,by omega⟩
      · exact ⟨0,by omega,by omega⟩
     have:=hC _ hcl v w hv hw
     simp only [decide_true] at this
     exact hwv (of_decide_eq_true this.symm)
   · simp only [decide_eq_true_eq];omega
end Go.Idl
namespace Go.Idl
open Go
def Qp0 (p q:Int) (x:Int×Int):Bool:=!(decide (x.1=p) && decide (x.2=q))
def Qbm (a b:Int) (es:List (Int×Int)):List (Int×Int):=es.filter (Qp0 (min a b) (max a b))
theorem Qf6 (n:Int) (es:List (Int×Int)) (c:Bool) (a b:Int) (hl:es.length≤100000) :
 Ev tb Qq5 [] [Gr n es c,I a,I b] [] ⟨OG n (Qbm a b es),[],[],[]⟩:=by
 obtain ⟨p,hp⟩:∃ p,p=min a b:=⟨_,rfl⟩
 obtain ⟨q,hq⟩:∃ q,q=max a b:=⟨_,rfl⟩
 have he1:(if b < a then b else a)=p:=by rw [hp];split <;> omega
 have he2:(if a < b then b else a)=q:=by rw [hq];split <;> omega
 rw [Qbm,← hp,← hq]
 have loop:∀ (m i:Nat) (acc:List (Int×Int)) (B:Qac),i+m=es.length→acc.length≤i→wp tb (.loop Jdc) { T:=[(1,I a),(2,I b),(3,.bptr 0 0 0),(6,.bptr 0 1 0),(7,.bptr 0 2 0),(8,I i)],loc:=[I n,L2 es c]::[I 0,Z]::[I n,O2 acc]::B,M:=[] }
  (fun ex st=>ex=.exit 0∧∃ B',st={ T:=[(1,I a),(2,I b),(3,.bptr 0 0 0),(6,.bptr 0 1 0),(7,.bptr 0 2 0),(8,I es.length),(18,Bo false)],loc:=[I n,L2 es c]::[I 0,Z]::[I n,O2 (acc++(es.drop i).filter (Qp0 p q))]::B',M:=[] }):=by
  intro m
  induction m with
  | zero =>
    intro i acc B hi ha
    have h3:i=es.length:=hi
    subst h3
    refine wW ?_
    repeat (first|apply wA|apply wS|refine wr (by simp;with_reducible rfl) ?_|refine wq (by simp;with_reducible rfl) ?_|refine wt (by simpa) ?_|refine wf (by simpa) ?_|refine xt (by simpa) ?_|refine xf (by simpa) ?_|apply wB|apply Qab|refine wX ?_|refine wY ?_|refine wR ?_|refine wK ?_|refine wE ?_)
    refine ⟨rfl,_,by simp;rfl⟩
  | succ m ih =>
    intro i acc B hi ha
    have hi2:i < es.length:=by omega
    have w1:IntKind.i64.wrap ((i:Int)+1)=((i+1:Nat):Int):=Qbg (by omega)
    have hd:es.drop i=es[i]::es.drop (i+1):=List.drop_eq_getElem_cons hi2
    have hl1:acc.length+1≤274877906944:=by omega
    have hl2:acc.length≤274877906943:=by omega
    have hT:∀ x,List.take (acc.length+1) (acc++[x])=acc++[x]:=fun x=>List.take_of_length_le (by simp)
    have hT2:List.take acc.length acc=acc:=List.take_of_length_le (Nat.le_refl _)
    rw [hd]
    obtain ⟨⟨x1,x2⟩,hx⟩:∃ x,x=es[i]:=⟨_,rfl⟩
    rw [← hx]
    have hx2:=hx.symm
    by_cases h1:x1=p
    · subst h1
      by_cases h2:x2=q
      · subst h2
        refine wW ?_
        repeat (first|apply wA|apply wS|refine wr (by simp [hi2,w1,hx2,he1,he2];with_reducible rfl) ?_|refine wq (by simp [hi2,w1,hx2,he1,he2];with_reducible rfl) ?_|refine wt (by simpa [hi2,w1,hx2,he1,he2]) ?_|refine wf (by simpa [hi2,w1,hx2,he1,he2]) ?_|refine xt (by simpa [hi2,w1,hx2,he1,he2]) ?_|refine xf (by simpa [hi2,w1,hx2,he1,he2]) ?_|apply wB|apply Qab|refine wX ?_|refine wY ?_|refine wR ?_|refine wK ?_|refine wE ?_)
        have hn:=ih (i+1) acc (B++[[I x1,I x2]]) (by omega) (by omega)
        rw [List.filter_cons_of_neg (by simp [Qp0])]
        exact hn
      · refine wW ?_
        repeat (first|apply wA|apply wS|refine wr (by simp [hi2,w1,hx2,he1,he2,h2,hl1,hl2,hT,hT2];with_reducible rfl) ?_|refine wq (by simp [hi2,w1,hx2,he1,he2,h2,hl1,hl2,hT,hT2];with_reducible rfl) ?_|refine wt (by simpa [hi2,w1,hx2,he1,he2,h2,hl1,hl2,hT,hT2]) ?_|refine wf (by simpa [hi2,w1,hx2,he1,he2,h2,hl1,hl2,hT,hT2]) ?_|refine xt (by simpa [hi2,w1,hx2,he1,he2,h2,hl1,hl2,hT,hT2]) ?_|refine xf (by simpa [hi2,w1,hx2,he1,he2,h2,hl1,hl2,hT,hT2]) ?_|apply wB|apply Qab|refine wX ?_|refine wY ?_|refine wR ?_|refine wK ?_|refine wE ?_)
        have hn:=ih (i+1) (acc++[(x1,x2)]) (B++[[I x1,I x2]]) (by omega) (by simp;omega)
        rw [List.filter_cons_of_pos (by simp [Qp0,h2])]
        simp only [List.append_assoc,List.cons_append,List.nil_append] at hn
        exact hn
    · refine wW ?_
      repeat (first|apply wA|apply wS|refine wr (by simp [hi2,w1,hx2,he1,he2,h1,hl1,hl2,hT,hT2];with_reducible rfl) ?_|refine wq (by simp [hi2,w1,hx2,he1,he2,h1,hl1,hl2,hT,hT2];with_reducible rfl) ?_|refine wt (by simpa [hi2,w1,hx2,he1,he2,h1,hl1,hl2,hT,hT2]) ?_|refine wf (by simpa [hi2,w1,hx2,he1,he2,h1,hl1,hl2,hT,hT2]) ?_|refine xt (by simpa [hi2,w1,hx2,he1,he2,h1,hl1,hl2,hT,hT2]) ?_|refine xf (by simpa [hi2,w1,hx2,he1,he2,h1,hl1,hl2,hT,hT2]) ?_|apply wB|apply Qab|refine wX ?_|refine wY ?_|refine wR ?_|refine wK ?_|refine wE ?_)
      have hn:=ih (i+1) (acc++[(x1,x2)]) (B++[[I x1,I x2]]) (by omega) (by simp;omega)
      rw [List.filter_cons_of_pos (by simp [Qp0,h1])]
      simp only [List.append_assoc,List.cons_append,List.nil_append] at hn
      exact hn
 refine cW zt348 rfl ?_
 repeat (first|apply wA|apply wS|refine wr (by simp;with_reducible rfl) ?_|refine wq (by simp;with_reducible rfl) ?_|refine wt (by simpa) ?_|refine wf (by simpa) ?_|refine xt (by simpa) ?_|refine xf (by simpa) ?_|apply wB|apply Qab|refine wX ?_|refine wY ?_|refine wR ?_|refine wK ?_|refine wE ?_)
 refine Qah (loop es.length 0 [] [] (by simp) (by simp)) ?_
 rintro ex st ⟨rfl,B',rfl⟩
 simp only [if_true]
 repeat (first|apply wA|apply wS|refine wr (by simp;with_reducible rfl) ?_|refine wq (by simp;with_reducible rfl) ?_|refine wt (by simpa) ?_|refine wf (by simpa) ?_|refine xt (by simpa) ?_|refine xf (by simpa) ?_|apply wB|apply Qab|refine wX ?_|refine wY ?_|refine wR ?_|refine wK ?_|refine wE ?_)
 simp [Jax]
theorem Qka (a b:Int) (es:List (Int×Int)):(Qbm a b es).length≤es.length:=List.length_filter_le _ _
def swS (es:List (Int×Int)) (a b c d:Int):List (Int×Int):=Qkm (min b d,max b d) (Qkm (min a c,max a c) (Qbm c d (Qbm a b es)))
theorem Qpj (n:Int) (es:List (Int×Int)) (cc:Bool) (a b c d:Int) (hl:es.length≤100000) :
 Ev tb Qxd [] [Gr n es cc,Sw a b c d] [] ⟨OG n (swS es a b c d),[],[],[]⟩:=by
 have g1:=Qka a b es
 have g2:=Qka c d (Qbm a b es)
 have g3:=Qse (min a c,max a c) (Qbm c d (Qbm a b es))
 have e1:=fun cc=>Qaa (Qf6 n es cc a b hl)
 have e2:=fun cc=>Qaa (Qf6 n (Qbm a b es) cc c d (by omega))
 have e3:=fun cc=>Qaa (Qia n (Qbm c d (Qbm a b es)) cc a c (by omega))
 have e4:=fun cc=>Qaa (Qia n (Qkm (min a c,max a c) (Qbm c d (Qbm a b es))) cc b d (by omega))
 rw [swS]
 generalize Qkm (min b d,max b d) (Qkm (min a c,max a c) (Qbm c d (Qbm a b es)))=x4 at *
 generalize Qkm (min a c,max a c) (Qbm c d (Qbm a b es))=x3 at *
 generalize Qbm c d (Qbm a b es)=x2 at *
 generalize Qbm a b es=x1 at *
 refine cW zt383 rfl ?_
 repeat (first|apply wA|apply wS|refine wr (by simp;with_reducible rfl) ?_|refine wq (by simp;with_reducible rfl) ?_|refine wt (by simpa) ?_|refine wf (by simpa) ?_|refine xt (by simpa) ?_|refine xf (by simpa) ?_|apply wB|apply Qab|refine wX ?_|refine wY ?_|refine wR ?_|refine wK ?_|refine wE ?_)
 refine Qmr rfl (by simp [e1,e2,e3,e4];with_reducible rfl) (by simp;with_reducible rfl) ?_
 repeat (first|apply wA|apply wS|refine wr (by simp;with_reducible rfl) ?_|refine wq (by simp;with_reducible rfl) ?_|refine wt (by simpa) ?_|refine wf (by simpa) ?_|refine xt (by simpa) ?_|refine xf (by simpa) ?_|apply wB|apply Qab|refine wX ?_|refine wY ?_|refine wR ?_|refine wK ?_|refine wE ?_)
 simp [Jcp]
end Go.Idl
namespace Go.Idl
open Go
abbrev Q4:=Int×Int×Int×Int
def sws (xs:List Q4):List (List IV):=xs.map fun s=>[I s.1,I s.2.1,I s.2.2.1,I s.2.2.2]
@[simp] theorem sws_len (xs:List Q4):(sws xs).length=xs.length:=by simp [sws]
@[simp] theorem sws_nil:sws []=[]:=rfl
@[simp] theorem Jxb (xs:List Q4) (n:Nat):(sws xs).take n=sws (xs.take n):=by simp [sws,List.map_take]
@[simp] theorem Jx8 (xs:List Q4) (n:Nat):(sws xs).drop n=sws (xs.drop n):=by simp [sws,List.map_drop]
@[simp] theorem sws_one (xs:List Q4) (a b c d:Int):sws xs++[[IV.sc (.int .i64 a),IV.sc (.int .i64 b),IV.sc (.int .i64 c),IV.sc (.int .i64 d)]]=sws (xs++[(a,b,c,d)]):=by simp [sws]
@[simp] theorem sws_get (xs:List Q4) (i:Nat) (h:i < (sws xs).length):(sws xs)[i]=[IV.sc (.int .i64 (xs[i]'(by simpa [sws] using h)).1),IV.sc (.int .i64 (xs[i]'(by simpa [sws] using h)).2.1),IV.sc (.int .i64 (xs[i]'(by simpa [sws] using h)).2.2.1),IV.sc (.int .i64 (xs[i]'(by simpa [sws] using h)).2.2.2)]:=by simp [sws]
@[simp] theorem sws_get? (xs:List Q4) (i:Nat):(sws xs)[i]? = xs[i]?.map fun s=>[IV.sc (.int .i64 s.1),IV.sc (.int .i64 s.2.1),IV.sc (.int .i64 s.2.2.1),IV.sc (.int .i64 s.2.2.2)]:=by simp [sws]
@[simp] theorem Jxu (xs:List Q4):((sws xs).all fun x=>x.all IV.plain1)=true:=by
  induction xs with
  | nil=>rfl
  | cons x xs ih=>simp only [sws,List.map_cons,List.all_cons] at *;rw [ih];rfl
@[simp] theorem Jxn (xs:List Q4):((sws xs).all fun x=>x.all IV.isData)=true:=by
  induction xs with
  | nil=>rfl
  | cons x xs ih=>simp only [sws,List.map_cons,List.all_cons] at *;rw [ih];rfl
@[simp] theorem Jvk (xs:List Q4):Qbw (sws xs)=true:=by
  induction xs with
  | nil=>rfl
  | cons x xs ih=>simp only [sws,List.map_cons,Qbw,Qbc,Qb5] at *;rw [ih];rfl
@[simp] theorem Jzm (xs:List Q4):Qcw (sws xs)=sws xs:=by
  induction xs with
  | nil=>rfl
  | cons x xs ih=>simp only [sws,List.map_cons,Qcw,Qdf,Qhr] at *;rw [ih]
end Go.Idl
namespace Go.Idl
theorem Qrt {es:List (Int×Int)} {a b c d:Int} {e:Int×Int}:e ∈ sw es a b c d ↔ (e ∈ es∧e ≠ (min a b,max a b)∧e ≠ (min c d,max c d)) ∨ e=(min a c,max a c) ∨ e=(min b d,max b d):=by
 rw [sw,(Qe3 _).mem_iff,swX,List.mem_append,List.mem_filter]
 simp only [Quk,Bool.not_eq_true',Bool.or_eq_false_iff,decide_eq_false_iff_not,List.mem_cons,List.not_mem_nil,or_false,ne_eq]
theorem Qxj {a b c d:Int} (h:a ≠ b∧a ≠ c∧a ≠ d∧b ≠ c∧b ≠ d∧c ≠ d) :
 ((min a b,max a b):Int×Int) ≠ (min c d,max c d)∧((min a b,max a b):Int×Int) ≠ (min a c,max a c)∧((min a b,max a b):Int×Int) ≠ (min b d,max b d) ∧
 ((min c d,max c d):Int×Int) ≠ (min a c,max a c)∧((min c d,max c d):Int×Int) ≠ (min b d,max b d)∧((min a c,max a c):Int×Int) ≠ (min b d,max b d):=by
 simp only [ne_eq,Qpi]
 omega
theorem sw_eq {n:Nat} {es:List (Int×Int)} {a b c d:Int} (h:Qao n es=true) (hm:Qkn es a b c d=true):swS es a b c d=sw es a b c d:=by
 obtain ⟨h1,h2,h3⟩:=Qar.1 h
 obtain ⟨hd,m1,m2,m3,m4⟩:=Qi9.1 hm
 have f4:=Qxj hd
 have hs1:PW (Qbm c d (Qbm a b es)):=(h1.filter _).filter _
 have hs2:∀ e,e ∈ Qbm c d (Qbm a b es) ↔ e ∈ es∧e ≠ (min a b,max a b)∧e ≠ (min c d,max c d):=fun e=>by
  simp only [Qbm,List.mem_filter,Qp0,Bool.not_eq_true',Bool.and_eq_false_imp,decide_eq_true_eq,decide_eq_false_iff_not,and_assoc,ne_eq,Prod.ext_iff,not_and]
 have n1:((min a c,max a c):Int×Int) ∉ Qbm c d (Qbm a b es):=fun hh=>m3 ((hs2 _).1 hh).1
 have n2:((min b d,max b d):Int×Int) ∉ Qkm (min a c,max a c) (Qbm c d (Qbm a b es)):=fun hh=>by
  rcases (Qgg _ _ _).1 hh with hh | hh
  · exact f4.2.2.2.2.2 hh.symm
  · exact m4 ((hs2 _).1 hh).1
 refine Qw9 (Qpl (Qpl hs1 n1) n2) (Qpy (Qn0 h hm).1) fun e=>?_
 show e ∈ Qkm _ _ ↔ e ∈ sw es a b c d
 rw [Qgg,Qgg,hs2,Qrt]
 constructor
 · rintro (h | h | h)
   · exact .inr (.inr h)
   · exact .inr (.inl h)
   · exact .inl h
 · rintro (h | h | h)
   · exact .inr (.inr h)
   · exact .inr (.inl h)
   · exact .inl h
theorem Ju3 (v:Nat) (a c:Int):inc v (min a c,max a c)=(if a=v then 1 else 0)+(if c=v then 1 else 0):=by
 rcases Int.le_total a c with h | h
 · rw [inc,Int.min_eq_left h,Int.max_eq_right h]
 · rw [inc,Int.min_eq_right h,Int.max_eq_left h,Int.add_comm]
theorem Jtc {n:Nat} {es:List (Int×Int)} {a b c d:Int} (h:Qao n es=true) (hm:Qkn es a b c d=true) (v:Nat):deg (sw es a b c d) v=deg es v:=by
 obtain ⟨h1,h2,h3⟩:=Qar.1 h
 obtain ⟨hd,m1,m2,m3,m4⟩:=Qi9.1 hm
 have f4:=Qxj hd
 have hp:(es.filter (Quk a b c d)).Perm [(min a b,max a b),(min c d,max c d)]:=by
  refine (List.perm_ext_iff_of_nodup ((Qhf h1).filter _) (by simpa using f4.1)).2 fun e=>?_
  simp only [List.mem_filter,Quk,Bool.or_eq_true,decide_eq_true_eq,List.mem_cons,List.not_mem_nil,or_false]
  constructor
  · exact fun h=>h.2
  · rintro (rfl | rfl)
    · exact ⟨m1,.inl rfl⟩
    · exact ⟨m2,.inr rfl⟩
 have e1:=Jcz es (Quk a b c d) (inc v)
 have e2:=Qyi hp (inc v)
 have e3:=Qyi (Qe3 (swX es a b c d)) (inc v)
 rw [deg,deg,sw,e3,swX,Jzd,← e1,e2]
 simp only [S,List.map_cons,List.map_nil,List.sum_cons,List.sum_nil,Ju3]
 omega
theorem Jis {n:Nat} {es:List (Int×Int)} {a b c d:Int} (h:Qao n es=true) (hm:Qkn es a b c d=true):Qdu n (sw es a b c d)=Qdu n es:=by
 have i1:Qds n es:=fun e he=>by have:=Qak.1 ((Qar.1 h).2.1 e he);omega
 have i2:Qds n (sw es a b c d):=fun e he=>by have:=Qak.1 ((Qar.1 (Qn0 h hm).2.2.1).2.1 e he);omega
 rw [Qga i1,Qga i2]
 exact List.map_congr_left fun v _=>Jtc h hm v
end Go.Idl
namespace Go.Idl
def Qc0 (es:List (Int×Int)) (u v:Nat):Prop:=∀ p,Cl es p→p u=p v
theorem Qc0.symm {es:List (Int×Int)} {u v:Nat} (h:Qc0 es u v):Qc0 es v u:=fun p hp=>(h p hp).symm
theorem Qc0.trans {es:List (Int×Int)} {u v w:Nat} (h:Qc0 es u v) (k:Qc0 es v w):Qc0 es u w:=fun p hp=>(h p hp).trans (k p hp)
theorem Qc0.mono {es fs:List (Int×Int)} (h:∀ e ∈ es,e ∈ fs) {u v:Nat} (k:Qc0 es u v):Qc0 fs u v:=fun p hp=>k p fun e he=>hp e (h e he)
theorem Qcg {es:List (Int×Int)} {e:Int×Int} (h:e ∈ es):Qc0 es e.1.toNat e.2.toNat:=fun _ hp=>hp e h
theorem Jd9 {n:Nat} {es:List (Int×Int)} (S:Nat→Bool) (hSn:∀ u,S u=true→u < n) (hCl:Cl es S) (hC:∀ p,Cl es p→∀ u v,S u=true→S v=true→p u=p v) (Z:Nat→Nat→Bool) (h0:∃ v,S v=true∧Z 0 v=true) (hm:∀ k v,Z k v=true→Z (k+1) v=true)
 (he:∀ k,∀ e ∈ es,(Z k e.1.toNat=true ∨ Z k e.2.toNat=true)→Z (k+1) e.1.toNat=true∧Z (k+1) e.2.toNat=true):∀ k,min (k+1) ((List.range n).countP S)≤(List.range n).countP (fun v=>S v && Z k v)∧∃ v,S v=true∧Z k v=true
 | 0=>by
   obtain ⟨v,hv,hz⟩:=h0
   have:0 < (List.range n).countP (fun v=>S v && Z 0 v):=List.countP_pos_iff.2 ⟨v,List.mem_range.2 (hSn v hv),by rw [hv,hz];rfl⟩
   exact ⟨by omega,v,hv,hz⟩
 | k+1=>by
   obtain ⟨ih,v,hv,hz⟩:=Jd9 S hSn hCl hC Z h0 hm he k
   refine ⟨?_,v,hv,hm k v hz⟩
   have hmono:∀ x ∈ List.range n,(S x && Z k x)=true→(S x && Z (k+1) x)=true:=fun x _ h=>by
    rw [Qba] at h ⊢
    exact ⟨h.1,hm k x h.2⟩
   have hle:=List.countP_mono_left hmono
   by_cases hall:∀ u,S u=true→Z k u=true
   · have:(List.range n).countP (fun v=>S v && Z k v)=(List.range n).countP S:=List.countP_congr fun x _=>by
      rw [Qba]
      exact ⟨fun h=>h.1,fun h=>⟨h,hall x h⟩⟩
     omega
   · simp only [Classical.not_forall] at hall
     obtain ⟨u,hu,hzu⟩:=hall
     have hncl:¬ Cl es (fun x=>S x && Z k x):=fun hc=>by
      have:=hC _ hc u v hu hv
      simp only [hu,hv,hz,Bool.true_and] at this
      exact hzu this
     simp only [Cl,Classical.not_forall] at hncl
     obtain ⟨e,hee,hne⟩:=hncl
     have hS:=hCl e hee
     have hlt:(List.range n).countP (fun v=>S v && Z k v) < (List.range n).countP (fun v=>S v && Z (k+1) v):=by
      refine Qc9 hmono ?_
      cases h1:S e.1.toNat with
      | false=>rw [← hS,h1] at hne;exact absurd rfl hne
      | true =>
        rw [← hS,h1,Bool.true_and,Bool.true_and] at hne
        have h1':=hS.symm.trans h1
        cases h3:Z k e.1.toNat with
        | true =>
          have h2:Z k e.2.toNat=false:=by
           cases h2:Z k e.2.toNat with
           | false=>rfl
           | true=>rw [h3,h2] at hne;exact absurd rfl hne
          exact ⟨_,List.mem_range.2 (hSn _ h1'),by rw [h2,Bool.and_false],by rw [h1',(he k e hee (.inl h3)).2];rfl⟩
        | false =>
          have h2:Z k e.2.toNat=true:=by
           cases h2:Z k e.2.toNat with
           | true=>rfl
           | false=>rw [h3,h2] at hne;exact absurd rfl hne
          exact ⟨_,List.mem_range.2 (hSn _ h1),by rw [h3,Bool.and_false],by rw [h1,(he k e hee (.inr h2)).1];rfl⟩
     omega
theorem Qmc {n:Nat}:∀ (es:List (Int×Int)) {o:List Int},o.length=n→(∀ e ∈ es,e.1.toNat < n∧e.2.toNat < n)→∀ v,(es.foldl Qdh o).getD v 0≤o.getD v 0
 | [],_,_,_,_=>Int.le_refl _
 | e::es,o,hl,he,v=>by
   have hb:=he e (by simp)
   refine Int.le_trans (Qmc es (by rw [Qet];exact hl) (fun x hx=>he x (by simp [hx])) v) ?_
   rw [Qeq (by omega) (by omega)]
   split
   · rename_i hq
     rcases hq with rfl | rfl <;> omega
   · exact Int.le_refl _
theorem Qil {n:Nat}:∀ (es:List (Int×Int)) {o:List Int},o.length=n→(∀ e ∈ es,e.1.toNat < n∧e.2.toNat < n)→∀ e ∈ es,
 (es.foldl Qdh o).getD e.1.toNat 0≤min (o.getD e.1.toNat 0) (o.getD e.2.toNat 0)∧(es.foldl Qdh o).getD e.2.toNat 0≤min (o.getD e.1.toNat 0) (o.getD e.2.toNat 0)
 | [],_,_,_,_,h=>by cases h
 | f::es,o,hl,he,e,hm=>by
   have hb:=he f (by simp)
   have he':∀ e ∈ es,e.1.toNat < n∧e.2.toNat < n:=fun x hx=>he x (by simp [hx])
   have hl2:(Qdh o f).length=n:=by rw [Qet];exact hl
   have rg:=fun v=>Qeq (o:=o) (e:=f) (by omega) (by omega) v
   rw [List.foldl_cons]
   rcases List.mem_cons.1 hm with rfl | hm2
   · have a:=Qmc es hl2 he' e.1.toNat
     have b:=Qmc es hl2 he' e.2.toNat
     rw [rg,if_pos (.inl rfl)] at a
     rw [rg,if_pos (.inr rfl)] at b
     exact ⟨a,b⟩
   · have ih:=Qil es hl2 he' e hm2
     have le1:∀ v,(Qdh o f).getD v 0≤o.getD v 0:=fun v=>by
      rw [rg]
      split
      · rename_i hq
        rcases hq with rfl | rfl <;> omega
      · exact Int.le_refl _
     have a:=le1 e.1.toNat
     have b:=le1 e.2.toNat
     omega
abbrev rtF (n:Nat) (es:List (Int×Int)):List Int:=Qhl es n (Qd1 n (-1))
open Classical in
theorem Qjf {n:Nat} {es:List (Int×Int)} (hes:∀ e ∈ es,e.1.toNat < n∧e.2.toNat < n) {v:Nat} (hv:v < n) :
 ∃ m:Nat,m < n∧Qc0 es v m∧(∀ u,u < n→Qc0 es v u→m≤u)∧∀ u,u < n→Qc0 es v u→(rtF n es).getD u 0=m:=by
 obtain ⟨S,hS⟩:∃ S:Nat→Bool,S=fun u=>decide (u < n∧Qc0 es v u):=⟨_,rfl⟩
 have hSi:∀ u,S u=true ↔ u < n∧Qc0 es v u:=fun u=>by rw [hS];exact decide_eq_true_iff
 have hSv:S v=true:=(hSi v).2 ⟨hv,fun _ _=>rfl⟩
 obtain ⟨m,hm1,hm2,hm3⟩:=Qmv hv hSv
 have hSm:=(hSi m).1 hm2
 have hmin:∀ u,S u=true→m≤u:=fun u hu=>Nat.le_of_not_lt fun h=>hm3 u h hu
 have hCl:Cl es S:=fun e he=>by
  have hb:=hes e he
  have hse:=Qcg he
  rw [Bool.eq_iff_iff,hSi,hSi]
  exact ⟨fun h=>⟨hb.2,h.2.trans hse⟩,fun h=>⟨hb.1,h.2.trans hse.symm⟩⟩
 have hC:∀ p,Cl es p→∀ u w,S u=true→S w=true→p u=p w:=fun p hp u w hu hw =>
  (((hSi u).1 hu).2 p hp).symm.trans (((hSi w).1 hw).2 p hp)
 have hinv:∀ k,Qzd n S (Qhl es k (Qd1 n (-1))):=fun k=>Qgx hes hCl k (Qhk n S)
 have hlow:∀ k u,S u=true→(m:Int)≤(Qhl es k (Qd1 n (-1))).getD u 0:=fun k u hu=>by
  have h1:=(hinv k).2 u ((hSi u).1 hu).1
  have:=hmin _ (h1.2.2.trans hu)
  omega
 have g:=Jd9 S (fun u hu=>((hSi u).1 hu).1) hCl hC (fun k u=>S u && decide ((Qhl es k (Qd1 n (-1))).getD u 0=m)) ⟨m,hm2,by
  show (S m && decide ((Qd1 n (-1)).getD m 0=m))=true
  rw [hm2,Bool.true_and]
  refine decide_eq_true ?_
  rw [Qc1,List.getD_eq_getElem?_getD,List.getElem?_map,List.getElem?_range hm1];rfl⟩ (fun k u h=>by
  simp only [Qba,decide_eq_true_eq] at h ⊢
  have h1:=Qmc es (hinv k).1 hes u
  have h2:=hlow (k+1) u h.1
  rw [Qez] at h2 ⊢
  exact ⟨h.1,by omega⟩) (fun k e he h=>by
  simp only [Qba,decide_eq_true_eq] at h ⊢
  have hse:=hCl e he
  have hs1:S e.1.toNat=true:=h.elim (fun h=>h.1) (fun h=>hse.trans h.1)
  have hs2:=hse.symm.trans hs1
  have h1:=Qil es (hinv k).1 hes e he
  have h2:=hlow (k+1) _ hs1
  have h3:=hlow (k+1) _ hs2
  have h4:=hlow k _ hs1
  have h5:=hlow k _ hs2
  rw [Qez] at h2 h3 ⊢
  refine ⟨⟨hs1,?_⟩,hs2,?_⟩ <;> rcases h with h | h <;> omega) n
 have hcS:(List.range n).countP S≤n:=by have:=List.countP_le_length (p:=S) (l:=List.range n);simpa using this
 have hall:∀ u,S u=true→(rtF n es).getD u 0=m:=fun u hu=>by
  refine Classical.byContradiction fun hno=>?_
  have hlt:(List.range n).countP (fun v=>S v && (S v && decide ((Qhl es n (Qd1 n (-1))).getD v 0=m))) < (List.range n).countP S :=
   Qc9 (fun x _ h=>by rw [Qba] at h;exact h.1) ⟨u,List.mem_range.2 ((hSi u).1 hu).1,by
    rw [decide_eq_false hno];simp,hu⟩
  have:=g.1
  omega
 exact ⟨m,hm1,hSm.2,fun u hu hs=>hmin u ((hSi u).2 ⟨hu,hs⟩),fun u hu hs=>hall u ((hSi u).2 ⟨hu,hs⟩)⟩
theorem Qkg {n:Nat} {es:List (Int×Int)} (hes:∀ e ∈ es,e.1.toNat < n∧e.2.toNat < n) {u v:Nat} (hu:u < n) (hv:v < n):(rtF n es).getD u 0=(rtF n es).getD v 0 ↔ Qc0 es u v:=by
 constructor
 · intro h p hp
   have hi:=Qgx hes hp n (Qhk n p)
   rw [← (hi.2 u hu).2.2,← (hi.2 v hv).2.2,h]
 · intro h
   obtain ⟨m,-,-,-,h2⟩:=Qjf hes hu
   rw [h2 u hu (fun _ _=>rfl),h2 v hv h]
def Lb (n:Nat) (es:List (Int×Int)) (r:Nat):Bool:=decide ((rtF n es).getD r 0=r)
theorem Qgk (n:Nat) (es:List (Int×Int)):(Qbj n es).length=(List.range n).countP (Lb n es):=by
 rw [Qnr,rgF,List.drop_zero,← List.countP_eq_length_filter,List.countP_map]
 rfl
theorem Qnf {n:Nat} {es:List (Int×Int)} (hes:∀ e ∈ es,e.1.toNat < n∧e.2.toNat < n) {r:Nat} (hr:r < n):Lb n es r=true ↔ ∀ u,u < n→Qc0 es r u→r≤u:=by
 obtain ⟨m,h1,h2,h3,h4⟩:=Qjf hes hr
 have h5:=h4 r hr (fun _ _=>rfl)
 rw [Lb,h5,decide_eq_true_eq]
 constructor
 · intro h u hu hs
   have:=h3 u hu hs
   omega
 · intro h
   have a:=h m h1 h2
   have b:=h3 r hr (fun _ _=>rfl)
   omega
theorem Jwx {n:Nat} {es fs:List (Int×Int)} (hes:∀ e ∈ es,e.1.toNat < n∧e.2.toNat < n) (hfs:∀ e ∈ fs,e.1.toNat < n∧e.2.toNat < n) (h:∀ u v,Qc0 es u v→Qc0 fs u v) {x y:Nat} (hx:x < n) (hy:y < n) (h1:Qc0 fs x y) (h2:¬ Qc0 es x y) :
 (Qbj n fs).length < (Qbj n es).length:=by
 rw [Qgk,Qgk]
 refine Qc9 (fun r hr hl=>(Qnf hes (List.mem_range.1 hr)).2 fun u hu hs=>(Qnf hfs (List.mem_range.1 hr)).1 hl u hu (h _ _ hs)) ?_
 obtain ⟨a,a1,a2,a3,a4⟩:=Qjf hes hx
 obtain ⟨b,b1,b2,b3,b4⟩:=Qjf hes hy
 have hab:a ≠ b:=fun hh=>h2 (a2.trans (hh ▸ b2.symm))
 have hs:Qc0 fs a b:=(h _ _ a2.symm).trans (h1.trans (h _ _ b2))
 have key:∀ c d,c < n→d < n→c < d→Qc0 fs d c→(∀ u,u < n→Qc0 es d u→d≤u)→∃ r ∈ List.range n,Lb n fs r=false∧Lb n es r=true:=fun c d hc hd hcd hsd hl =>
  ⟨d,List.mem_range.2 hd,by
    cases hq:Lb n fs d with
    | false=>rfl
    | true=>have:=(Qnf hfs hd).1 hq c hc hsd;omega,(Qnf hes hd).2 hl⟩
 rcases Nat.lt_or_gt_of_ne hab with hlt | hlt
 · exact key a b a1 b1 hlt hs.symm fun u hu hs2=>b3 u hu (b2.trans hs2)
 · exact key b a b1 a1 hlt hs fun u hu hs2=>a3 u hu (a2.trans hs2)
theorem Jdn {n:Nat} {es:List (Int×Int)} (hn:es.Nodup) (hes:∀ e ∈ es,e.1.toNat < n∧e.2.toNat < n) (hb:∀ e ∈ es,¬ Qc0 (es.filter fun x=>!decide (x=e)) e.1.toNat e.2.toNat):∀ k,k≤es.length→k+(Qbj n (es.take k)).length≤n
 | 0,_=>by
   rw [Qgk]
   have:=List.countP_le_length (p:=Lb n (es.take 0)) (l:=List.range n)
   simp at this ⊢
   exact this
 | k+1,hk=>by
   have ih:=Jdn hn hes hb k (by omega)
   have hk2:k < es.length:=by omega
   have hmem:=List.getElem_mem hk2
   have ht:es.take (k+1)=es.take k++[es[k]]:=List.take_succ_eq_append_getElem hk2
   have hno:es[k] ∉ es.take k:=fun h=>by
    obtain ⟨j,hj,hjk⟩:=List.mem_iff_getElem.1 h
    simp only [List.length_take] at hj
    rw [List.getElem_take] at hjk
    have a1:=hn.idxOf_getElem j (by omega)
    have a2:=hn.idxOf_getElem k hk2
    rw [hjk] at a1
    omega
   have hr:∀ e ∈ es.take k,e.1.toNat < n∧e.2.toNat < n:=fun e he=>hes e (List.mem_of_mem_take he)
   have hr2:∀ e ∈ es.take (k+1),e.1.toNat < n∧e.2.toNat < n:=fun e he=>hes e (List.mem_of_mem_take he)
   have hlt:=Jwx hr hr2 (fun u v h=>h.mono fun e he=>by rw [ht];exact List.mem_append_left _ he) (hes _ hmem).1 (hes _ hmem).2 (Qcg (by rw [ht];exact List.mem_append_right _ (List.mem_singleton.2 rfl))) (fun h=>hb _ hmem (h.mono fun e he=>List.mem_filter.2 ⟨List.mem_of_mem_take he,by
    have:e ≠ es[k]:=fun hh=>hno (hh ▸ he)
    simpa using this⟩))
   omega
theorem Jiy {n:Nat} {es:List (Int×Int)} {a:Nat} (h:∀ w,w < n→Qc0 es w a):Con n es:=fun p hp u v hu hv=>(h u hu p hp).trans (h v hv p hp).symm
theorem Qfi {n:Nat} (hn1:1≤n) {es:List (Int×Int)} (hes:∀ e ∈ es,e.1.toNat < n∧e.2.toNat < n):1≤(Qbj n es).length:=by
 rw [Qgk]
 exact List.countP_pos_iff.2 ⟨0,List.mem_range.2 (by omega),(Qnf hes (by omega)).2 fun u _ _=>by omega⟩
theorem Qsr {n:Nat} (hn1:1≤n) {es:List (Int×Int)} (h:Qao n es=true) (hC:(Qbj n es).length ≠ 1) (hc:Qtp (Qdu n es)=true):∃ e ∈ es,Qc0 (es.filter fun x=>!decide (x=e)) e.1.toNat e.2.toNat:=by
 have hin:=(Qar.1 h).2.1
 have hes:∀ e ∈ es,e.1.toNat < n∧e.2.toNat < n:=fun e he=>by have:=Qak.1 (hin e he);omega
 refine Classical.byContradiction fun hno=>?_
 have hf:=Jdn (Qhf (Qar.1 h).1) hes (fun e he hs=>hno ⟨e,he,hs⟩) es.length (Nat.le_refl _)
 rw [List.take_length] at hf
 have hp:=Qfi hn1 hes
 have hdl:(Qdu n es).length=n:=by rw [Qdu,Qdx];simp
 simp only [Qtp,Qba,decide_eq_true_eq,Qlm hin,hdl] at hc
 omega
theorem Quc {n:Nat} {es:List (Int×Int)} (h:Qao n es=true) (hC:¬ Con n es) (hc:Qtp (Qdu n es)=true) {a:Nat} (ha:a < n):∃ f ∈ es,¬ Qc0 es f.1.toNat a:=by
 have hin:=(Qar.1 h).2.1
 have hdl:(Qdu n es).length=n:=by rw [Qdu,Qdx];simp
 have hE:Qds n es:=fun e he=>by have:=Qak.1 (hin e he);omega
 have hw:∃ w,w < n∧¬ Qc0 es w a:=by
  refine Classical.byContradiction fun hno=>hC (Jiy (a:=a) fun w hw=>?_)
  exact Classical.byContradiction fun hs=>hno ⟨w,hw,hs⟩
 obtain ⟨w,hw,hs⟩:=hw
 simp only [Qtp,Qba,decide_eq_true_eq,Bool.or_eq_true,hdl] at hc
 have hn1:n ≠ 1:=fun h1=>hs (by
  have e1:w=0:=by omega
  have e2:a=0:=by omega
  rw [e1,e2];exact fun _ _=>rfl)
 have hpos:=hc.2.2.1.resolve_left hn1
 rw [Qlf,Qga hE,List.all_eq_true] at hpos
 have hd:=hpos _ (List.mem_map.2 ⟨w,List.mem_range.2 hw,rfl⟩)
 simp only [decide_eq_true_eq] at hd
 have hnn:∀ e ∈ es,0≤inc w e:=fun e _=>Qk0 w e
 have hex:∃ f ∈ es,inc w f ≠ 0:=by
  refine Classical.byContradiction fun hno=>?_
  have:deg es w=0:=(Qhz hnn).2 fun e he=>Classical.byContradiction fun hx=>hno ⟨e,he,hx⟩
  omega
 obtain ⟨f,hf,hfi⟩:=hex
 refine ⟨f,hf,fun hsf=>hs ?_⟩
 have hb:=Qak.1 (hin f hf)
 simp only [inc] at hfi
 by_cases k1:f.1=w
 · rw [show w=f.1.toNat by omega];exact hsf
 · by_cases k2:f.2=w
   · rw [show w=f.2.toNat by omega];exact (Qcg hf).symm.trans hsf
   · rw [if_neg k1,if_neg k2] at hfi;exact absurd rfl hfi
open Classical in
theorem Qpb {n:Nat} {es:List (Int×Int)} (h:Qao n es=true) {e f:Int×Int} (he:e ∈ es) (hf:f ∈ es) (hcy:Qc0 (es.filter fun x=>!decide (x=e)) e.1.toNat e.2.toNat) (hoth:¬ Qc0 es f.1.toNat e.1.toNat) :
 Qkn es e.1 e.2 f.1 f.2=true∧(Qbj n (sw es e.1 e.2 f.1 f.2)).length < (Qbj n es).length:=by
 have hin:=(Qar.1 h).2.1
 have hes:∀ e ∈ es,e.1.toNat < n∧e.2.toNat < n:=fun e he=>by have:=Qak.1 (hin e he);omega
 have be:=Qak.1 (hin e he)
 have bf:=Qak.1 (hin f hf)
 have se:=Qcg he
 have sf:=Qcg hf
 have n1:¬ Qc0 es e.1.toNat f.1.toNat:=fun hh=>hoth hh.symm
 have n2:¬ Qc0 es e.1.toNat f.2.toNat:=fun hh=>n1 (hh.trans sf.symm)
 have n3:¬ Qc0 es e.2.toNat f.1.toNat:=fun hh=>n1 (se.trans hh)
 have n4:¬ Qc0 es e.2.toNat f.2.toNat:=fun hh=>n2 (se.trans hh)
 have ne:∀ {x y:Int},¬ Qc0 es x.toNat y.toNat→x ≠ y:=fun hh hxy=>hh (hxy ▸ fun _ _=>rfl)
 have noE:∀ {x y:Int},0≤x→0≤y→¬ Qc0 es x.toNat y.toNat→((min x y,max x y):Int×Int) ∉ es:=fun {x y} hx hy hh hm=>by
  have:=Qcg hm
  rcases Int.le_total x y with hl | hl
  · rw [Int.min_eq_left hl,Int.max_eq_right hl] at this;exact hh this
  · rw [Int.min_eq_right hl,Int.max_eq_left hl] at this;exact hh this.symm
 have me:((min e.1 e.2,max e.1 e.2):Int×Int)=e:=Prod.ext (by simp only;omega) (by simp only;omega)
 have mf:((min f.1 f.2,max f.1 f.2):Int×Int)=f:=Prod.ext (by simp only;omega) (by simp only;omega)
 have hm:Qkn es e.1 e.2 f.1 f.2=true:=Qi9.2 ⟨⟨by omega,ne n1,ne n2,ne n3,ne n4,by omega⟩,by rw [me];exact he,by rw [mf];exact hf,noE (by omega) (by omega) n1,noE (by omega) (by omega) n4⟩
 refine ⟨hm,?_⟩
 have hv2:=(Qn0 h hm).2.2.1
 have hes2:∀ x ∈ sw es e.1 e.2 f.1 f.2,x.1.toNat < n∧x.2.toNat < n:=fun x hx=>by have:=Qak.1 ((Qar.1 hv2).2.1 x hx);omega
 have edS:∀ {x y:Int},0≤x→0≤y→∀ {gs:List (Int×Int)},((min x y,max x y):Int×Int) ∈ gs→Qc0 gs x.toNat y.toNat:=fun {x y} hx hy {gs} hm=>by
  have:=Qcg hm
  rcases Int.le_total x y with hl | hl
  · rw [Int.min_eq_left hl,Int.max_eq_right hl] at this;exact this
  · rw [Int.min_eq_right hl,Int.max_eq_left hl] at this;exact this.symm
 have s13:Qc0 (sw es e.1 e.2 f.1 f.2) e.1.toNat f.1.toNat:=edS (by omega) (by omega) (Qrt.2 (.inr (.inl rfl)))
 have s24:Qc0 (sw es e.1 e.2 f.1 f.2) e.2.toNat f.2.toNat:=edS (by omega) (by omega) (Qrt.2 (.inr (.inr rfl)))
 refine Jwx hes hes2 (fun u v hs p hp=>?_) (hes e he).1 (hes f hf).1 s13 n1
 have keep:∀ x ∈ es,x ≠ e→x ≠ f→p x.1.toNat=p x.2.toNat:=fun x hx h1 h2=>hp x (Qrt.2 (.inl ⟨hx,by rw [me];exact h1,by rw [mf];exact h2⟩))
 have pe:p e.1.toNat=p e.2.toNat:=by
  have hq:Cl (es.filter fun x=>!decide (x=e)) (fun v=>if Qc0 es e.1.toNat v then p v else true):=fun x hx=>by
   have hx2:=List.mem_filter.1 hx
   have hxe:x ≠ e:=by simpa using hx2.2
   have sx:=Qcg hx2.1
   by_cases k:Qc0 es e.1.toNat x.1.toNat
   · have k2:=k.trans sx
     simp only [if_pos k,if_pos k2]
     exact keep x hx2.1 hxe fun hh=>n1 (hh ▸ k)
   · have k2:¬ Qc0 es e.1.toNat x.2.toNat:=fun hh=>k (hh.trans sx.symm)
     simp only [if_neg k,if_neg k2]
  have:=hcy _ hq
  simp only [if_pos (show Qc0 es e.1.toNat e.1.toNat from fun _ _=>rfl),if_pos se] at this
  exact this
 refine hs p fun x hx=>?_
 by_cases h1:x=e
 · rw [h1];exact pe
 · by_cases h2:x=f
   · rw [h2]
     exact (s13 p hp).symm.trans (pe.trans (s24 p hp))
   · exact keep x hx h1 h2
end Go.Idl
namespace Go.Idl
open Go
theorem Qmt (x:Int×Int) (a b:Int) (B:Qac) (hB:B[1]? = some [I a,I b]) (Ms:List Qac):Ev tb Qtq [] [.agg [I x.1,I x.2],.bptr 0 1 0] (B::Ms) ⟨Bo (decide (x=(a,b))),[],B::Ms,[]⟩:=by
 obtain ⟨x1,x2⟩:=x
 have hd:decide (((x1,x2):Int×Int)=(a,b))=(decide (x1=a) && decide (x2=b)):=by simp
 rw [hd]
 by_cases h1:x1=a
 · by_cases h2:x2=b
   · refine cW Ji4 rfl ?_
     repeat (first|apply wA|apply wS|refine wr (by simp [hB,h1,h2];with_reducible rfl) ?_|refine wq (by simp [hB,h1,h2];with_reducible rfl) ?_|refine wt (by simpa [hB,h1,h2]) ?_|refine wf (by simpa [hB,h1,h2]) ?_|refine xt (by simpa [hB,h1,h2]) ?_|refine xf (by simpa [hB,h1,h2]) ?_|apply wB|apply Qab|refine wX ?_|refine wY ?_|refine wR ?_|refine wK ?_|refine wE ?_)
     simp [Qsn,h1,h2]
   · refine cW Ji4 rfl ?_
     repeat (first|apply wA|apply wS|refine wr (by simp [hB,h1,h2];with_reducible rfl) ?_|refine wq (by simp [hB,h1,h2];with_reducible rfl) ?_|refine wt (by simpa [hB,h1,h2]) ?_|refine wf (by simpa [hB,h1,h2]) ?_|refine xt (by simpa [hB,h1,h2]) ?_|refine xf (by simpa [hB,h1,h2]) ?_|apply wB|apply Qab|refine wX ?_|refine wY ?_|refine wR ?_|refine wK ?_|refine wE ?_)
     simp [Qsn,h1,h2]
 · refine cW Ji4 rfl ?_
   repeat (first|apply wA|apply wS|refine wr (by simp [hB,h1];with_reducible rfl) ?_|refine wq (by simp [hB,h1];with_reducible rfl) ?_|refine wt (by simpa [hB,h1]) ?_|refine wf (by simpa [hB,h1]) ?_|refine xt (by simpa [hB,h1]) ?_|refine xf (by simpa [hB,h1]) ?_|apply wB|apply Qab|refine wX ?_|refine wY ?_|refine wR ?_|refine wK ?_|refine wE ?_)
   simp [Qsn,h1]
theorem Qsp (n:Int) (es:List (Int×Int)) (c:Bool) (hl:es.length≤1000) (e:Int×Int):Ev tb Qyk [] [Gr n es c,.agg [I e.1,I e.2]] [] ⟨OG n (es.filter fun x=>!decide (x=e)),[],[],[]⟩:=by
 have e1:=fun c'=>Qaa (Qj6 2 es c' (.inl rfl) (by omega))
 have e2:=Qaa (Qfx es Qtq [.bptr 0 1 0] [[[I n,L2 es c],[I e.1,I e.2],[I 0,Z]]] (fun x=>decide (x=e)) (by omega) (fun bs M' x _=>Qmt x e.1 e.2 _ rfl _))
 generalize (es.filter fun x=>!decide (x=e))=Q at *
 refine cW Jyy rfl ?_
 repeat (first|apply wA|apply wS|refine wr (by simp;with_reducible rfl) ?_|refine wq (by simp;with_reducible rfl) ?_|refine wt (by simpa) ?_|refine wf (by simpa) ?_|refine xt (by simpa) ?_|refine xf (by simpa) ?_|apply wB|apply Qab|refine wX ?_|refine wY ?_|refine wR ?_|refine wK ?_|refine wE ?_)
 refine Qe7 (by simp [e1,e2];with_reducible rfl) (by simp;with_reducible rfl) ?_ ?_
 · intro p hp
   simp only [List.mem_cons,List.not_mem_nil,or_false] at hp
   rcases hp with rfl | rfl
   · exact ⟨_,by simp [e1,e2];with_reducible rfl,by simp⟩
   · exact ⟨_,by simp [e1,e2];with_reducible rfl,by simp⟩
 repeat (first|apply wA|apply wS|refine wr (by simp;with_reducible rfl) ?_|refine wq (by simp;with_reducible rfl) ?_|refine wt (by simpa) ?_|refine wf (by simpa) ?_|refine xt (by simpa) ?_|refine xf (by simpa) ?_|apply wB|apply Qab|refine wX ?_|refine wY ?_|refine wR ?_|refine wK ?_|refine wE ?_)
 simp [Qz0]
def cyP (n:Nat) (es:List (Int×Int)) (e:Int×Int):Bool:=decide ((rtF n (es.filter fun x=>!decide (x=e))).getD e.1.toNat 0=(rtF n (es.filter fun x=>!decide (x=e))).getD e.2.toNat 0)
theorem Jbs (n:Nat) (hn1:1≤n) (es:List (Int×Int)) (hv:Qao n es=true) (hl:es.length≤1000) (B:Qac) (hB:B[2]? = some [I n,L2 es false]) (Ms:List Qac) (e:Int×Int) (he:e ∈ es) :
 Ev tb Qqa [] [.agg [I e.1,I e.2],.bptr 0 2 0] (B::Ms) ⟨Bo (cyP n es e),[],B::Ms,[]⟩:=by
 have hin:=(Qar.1 hv).2.1
 have hn7:=(Qar.1 hv).2.2
 have hes:∀ x ∈ es.filter (fun x=>!decide (x=e)),0≤x.1∧x.1 < n∧0≤x.2∧x.2 < n:=fun x hx=>by have:=Qak.1 (hin x (List.mem_filter.1 hx).1);omega
 have hfl:(es.filter fun x=>!decide (x=e)).length≤1000:=Nat.le_trans (List.length_filter_le _ _) hl
 have e1:=fun c=>Qaa (Qsp n es c hl e)
 have e2:=fun c=>Qaa (Qmh n hn1 hn7 2 (es.filter fun x=>!decide (x=e)) c (.inl rfl) hes hfl)
 have hrl:(rtF n (es.filter fun x=>!decide (x=e))).length=n:=by rw [rtF,Qjc,Qc1];simp
 have hb:=Qak.1 (hin e he)
 obtain ⟨a,ha⟩:=Int.eq_ofNat_of_zero_le (show 0≤e.1 by omega)
 obtain ⟨b,hb2⟩:=Int.eq_ofNat_of_zero_le (show 0≤e.2 by omega)
 rw [cyP]
 rw [show Qhl (es.filter fun x=>!decide (x=e)) n (Qd1 n (-1))=rtF n (es.filter fun x=>!decide (x=e)) from rfl] at e2
 generalize rtF n (es.filter fun x=>!decide (x=e))=rt at *
 generalize (es.filter fun x=>!decide (x=e))=Q at *
 have hal:a < rt.length:=by omega
 have hbl:b < rt.length:=by omega
 have han:a < n:=by omega
 have hbn:b < n:=by omega
 have ga:rt.getD a 0=rt[a]:=by rw [List.getD_eq_getElem?_getD,List.getElem?_eq_getElem hal];rfl
 have gb:rt.getD b 0=rt[b]:=by rw [List.getD_eq_getElem?_getD,List.getElem?_eq_getElem hbl];rfl
 rw [ha,hb2] at e1 ⊢
 rw [Int.toNat_natCast,Int.toNat_natCast,ga,gb]
 by_cases hq:rt[a]=rt[b]
 · refine cW Jvx rfl ?_
   repeat (first|apply wA|apply wS|refine wr (by simp [hB,e1,e2,hal,hbl,hrl,han,hbn,hq];with_reducible rfl) ?_|refine wq (by simp [hB,e1,e2,hal,hbl,hrl,han,hbn,hq];with_reducible rfl) ?_|refine wt (by simpa [hB,e1,e2,hal,hbl,hrl,han,hbn,hq]) ?_|refine wf (by simpa [hB,e1,e2,hal,hbl,hrl,han,hbn,hq]) ?_|refine xt (by simpa [hB,e1,e2,hal,hbl,hrl,han,hbn,hq]) ?_|refine xf (by simpa [hB,e1,e2,hal,hbl,hrl,han,hbn,hq]) ?_|apply wB|apply Qab|refine wX ?_|refine wY ?_|refine wR ?_|refine wK ?_|refine wE ?_)
   simp [Qyu,hq]
 · refine cW Jvx rfl ?_
   repeat (first|apply wA|apply wS|refine wr (by simp [hB,e1,e2,hal,hbl,hrl,han,hbn,hq];with_reducible rfl) ?_|refine wq (by simp [hB,e1,e2,hal,hbl,hrl,han,hbn,hq];with_reducible rfl) ?_|refine wt (by simpa [hB,e1,e2,hal,hbl,hrl,han,hbn,hq]) ?_|refine wf (by simpa [hB,e1,e2,hal,hbl,hrl,han,hbn,hq]) ?_|refine xt (by simpa [hB,e1,e2,hal,hbl,hrl,han,hbn,hq]) ?_|refine xf (by simpa [hB,e1,e2,hal,hbl,hrl,han,hbn,hq]) ?_|apply wB|apply Qab|refine wX ?_|refine wY ?_|refine wR ?_|refine wK ?_|refine wE ?_)
   simp [Qyu,hq]
def otP (rt:List Int) (a:Int) (f:Int×Int):Bool:=decide (rt.getD f.1.toNat 0 ≠ rt.getD a.toNat 0)
theorem Jbm (n:Nat) (rt:List Int) (hrl:rt.length=n) (a b:Int) (ha:0≤a∧a < n) (B:Qac) (k5 k7:Nat) (c5:Bool) (hB5:B[k5]? = some [L rt c5]) (hB7:B[k7]? = some [I a,I b]) (Ms:List Qac) (f:Int×Int) (hf:0≤f.1∧f.1 < n) :
 Ev tb Qsq [] [.agg [I f.1,I f.2],.bptr 0 k5 0,.bptr 0 k7 0] (B::Ms) ⟨Bo (otP rt a f),[],B::Ms,[]⟩:=by
 obtain ⟨x,y⟩:=f
 obtain ⟨i,rfl⟩:=Int.eq_ofNat_of_zero_le ha.1
 simp only at hf
 obtain ⟨j,rfl⟩:=Int.eq_ofNat_of_zero_le hf.1
 have hil:i < rt.length:=by omega
 have hjl:j < rt.length:=by omega
 have hin:i < n:=by omega
 have hjn:j < n:=by omega
 have gi:rt.getD i 0=rt[i]:=by rw [List.getD_eq_getElem?_getD,List.getElem?_eq_getElem hil];rfl
 have gj:rt.getD j 0=rt[j]:=by rw [List.getD_eq_getElem?_getD,List.getElem?_eq_getElem hjl];rfl
 rw [otP]
 simp only [Int.toNat_natCast,gi,gj]
 by_cases hq:rt[j]=rt[i]
 · refine cW Jtr rfl ?_
   repeat (first|apply wA|apply wS|refine wr (by simp [hB5,hB7,hil,hjl,hin,hjn,hrl,hq];with_reducible rfl) ?_|refine wq (by simp [hB5,hB7,hil,hjl,hin,hjn,hrl,hq];with_reducible rfl) ?_|refine wt (by simpa [hB5,hB7,hil,hjl,hin,hjn,hrl,hq]) ?_|refine wf (by simpa [hB5,hB7,hil,hjl,hin,hjn,hrl,hq]) ?_|refine xt (by simpa [hB5,hB7,hil,hjl,hin,hjn,hrl,hq]) ?_|refine xf (by simpa [hB5,hB7,hil,hjl,hin,hjn,hrl,hq]) ?_|apply wB|apply Qab|refine wX ?_|refine wY ?_|refine wR ?_|refine wK ?_|refine wE ?_)
   simp [Qwz,hq]
 · refine cW Jtr rfl ?_
   repeat (first|apply wA|apply wS|refine wr (by simp [hB5,hB7,hil,hjl,hin,hjn,hrl,hq];with_reducible rfl) ?_|refine wq (by simp [hB5,hB7,hil,hjl,hin,hjn,hrl,hq];with_reducible rfl) ?_|refine wt (by simpa [hB5,hB7,hil,hjl,hin,hjn,hrl,hq]) ?_|refine wf (by simpa [hB5,hB7,hil,hjl,hin,hjn,hrl,hq]) ?_|refine xt (by simpa [hB5,hB7,hil,hjl,hin,hjn,hrl,hq]) ?_|refine xf (by simpa [hB5,hB7,hil,hjl,hin,hjn,hrl,hq]) ?_|apply wB|apply Qab|refine wX ?_|refine wY ?_|refine wR ?_|refine wK ?_|refine wE ?_)
   simp [Qwz,hq]
end Go.Idl
namespace Go.Idl
open Go
theorem Qki (es:List (Int×Int)) (c:Bool):Ev tb Qo0 [] [Gr 0 es c] [] ⟨Z,[],[],[]⟩:=by
 have e1:Qco tb Qo4 [] [I 0,I (-1)] []=some ⟨Z,[],[],[]⟩:=Qaa (Qfd 0 (-1) (by omega))
 have e2:Qco tb Qkx [] [Gr 0 es c] []=some ⟨Z,[],[],[]⟩:=by
  refine Qaa ?_
  refine cW Jaj rfl ?_
  repeat (first|apply wA|apply wS|refine wr (by simp [e1];with_reducible rfl) ?_|refine wq (by simp [e1];with_reducible rfl) ?_|refine wt (by simpa [e1]) ?_|refine wf (by simpa [e1]) ?_|refine xt (by simpa [e1]) ?_|refine xf (by simpa [e1]) ?_|apply wB|apply Qab|refine wX ?_|refine wY ?_|refine wR ?_|refine wK ?_|refine wE ?_)
  refine wW ?_
  repeat (first|apply wA|apply wS|refine wr (by simp;with_reducible rfl) ?_|refine wq (by simp;with_reducible rfl) ?_|refine wt (by simpa) ?_|refine wf (by simpa) ?_|refine xt (by simpa) ?_|refine xf (by simpa) ?_|apply wB|apply Qab|refine wX ?_|refine wY ?_|refine wR ?_|refine wK ?_|refine wE ?_)
  simp [Qqv]
 have e3:=Qaa (Qm8 [])
 simp only [nlT] at e3
 refine cW Jg2 rfl ?_
 repeat (first|apply wA|apply wS|refine wr (by simp [e2];with_reducible rfl) ?_|refine wq (by simp [e2];with_reducible rfl) ?_|refine wt (by simpa [e2]) ?_|refine wf (by simpa [e2]) ?_|refine xt (by simpa [e2]) ?_|refine xf (by simpa [e2]) ?_|apply wB|apply Qab|refine wX ?_|refine wY ?_|refine wR ?_|refine wK ?_|refine wE ?_)
 refine wW ?_
 repeat (first|apply wA|apply wS|refine wr (by simp [e3];with_reducible rfl) ?_|refine wq (by simp [e3];with_reducible rfl) ?_|refine wt (by simpa [e3]) ?_|refine wf (by simpa [e3]) ?_|refine xt (by simpa [e3]) ?_|refine xf (by simpa [e3]) ?_|apply wB|apply Qab|refine wX ?_|refine wY ?_|refine wR ?_|refine wK ?_|refine wE ?_)
 simp [Qqo]
theorem Qs6 (es:List (Int×Int)) (c:Bool):Ev tb Qkx [] [Gr 0 es c] [] ⟨Z,[],[],[]⟩:=by
 have e1:Qco tb Qo4 [] [I 0,I (-1)] []=some ⟨Z,[],[],[]⟩:=Qaa (Qfd 0 (-1) (by omega))
 refine cW Jaj rfl ?_
 repeat (first|apply wA|apply wS|refine wr (by simp [e1];with_reducible rfl) ?_|refine wq (by simp [e1];with_reducible rfl) ?_|refine wt (by simpa [e1]) ?_|refine wf (by simpa [e1]) ?_|refine xt (by simpa [e1]) ?_|refine xf (by simpa [e1]) ?_|apply wB|apply Qab|refine wX ?_|refine wY ?_|refine wR ?_|refine wK ?_|refine wE ?_)
 refine wW ?_
 repeat (first|apply wA|apply wS|refine wr (by simp;with_reducible rfl) ?_|refine wq (by simp;with_reducible rfl) ?_|refine wt (by simpa) ?_|refine wf (by simpa) ?_|refine xt (by simpa) ?_|refine xf (by simpa) ?_|apply wB|apply Qab|refine wX ?_|refine wY ?_|refine wR ?_|refine wK ?_|refine wE ?_)
 simp [Qqv]
theorem Qh1 (e0:Nat) (c:Bool) (v1:Qco tb Qui [] [.agg [I 0,.lst e0 [] c]] []=some ⟨Bo true,[],[],[]⟩):Ev tb Qq0 [] [.agg [I 0,.lst e0 [] c]] [] ⟨.tup [.agg [I 0,Z],Bo false],[],[],[]⟩:=by
 have e1:=Qaa (Qj2 e0 [] c (.inr rfl) (by simp))
 have e2:=fun c=>Qaa (Qki [] c)
 have e3:=fun c=>Qaa (Qs6 [] c)
 have e4:=fun cc=>Qaa (Qd8 2 [] cc (.inl rfl) Qqa [.bptr 0 2 0] [[[I 0,.lst e0 [] c],[I 0,Z],[I 0,.lst 2 [] false],[Z]]] (fun _=>false) (by simp) (fun x hx=>by cases hx))
 rw [show Qnh (fun _=>false) 0 []=-1 from rfl] at e4
 simp only [O2,Gr,L2,Qmy] at e1 e2 e3 e4
 refine cW Jas rfl ?_
 repeat (first|apply wA|apply wS|refine wr (by simp [v1];with_reducible rfl) ?_|refine wq (by simp [v1];with_reducible rfl) ?_|refine wt (by simpa [v1]) ?_|refine wf (by simpa [v1]) ?_|refine xt (by simpa [v1]) ?_|refine xf (by simpa [v1]) ?_|apply wB|apply Qab|refine wX ?_|refine wY ?_|refine wR ?_|refine wK ?_|refine wE ?_)
 refine Qmr rfl (by simp [e1];with_reducible rfl) (by simp;with_reducible rfl) ?_
 repeat (first|apply wA|apply wS|refine wr (by simp;with_reducible rfl) ?_|refine wq (by simp;with_reducible rfl) ?_|refine wt (by simpa) ?_|refine wf (by simpa) ?_|refine xt (by simpa) ?_|refine xf (by simpa) ?_|apply wB|apply Qab|refine wX ?_|refine wY ?_|refine wR ?_|refine wK ?_|refine wE ?_)
 refine wW ?_
 repeat (first|apply wA|apply wS|refine wr (by simp [e2,e3,e4];with_reducible rfl) ?_|refine wq (by simp [e2,e3,e4];with_reducible rfl) ?_|refine wt (by simpa [e2,e3,e4]) ?_|refine wf (by simpa [e2,e3,e4]) ?_|refine xt (by simpa [e2,e3,e4]) ?_|refine xf (by simpa [e2,e3,e4]) ?_|apply wB|apply Qab|refine wX ?_|refine wY ?_|refine wR ?_|refine wK ?_|refine wE ?_)
 simp [Qqu]
end Go.Idl
namespace Go.Idl
open Classical in
theorem Qut {n:Nat} {es:List (Int×Int)} (hes:∀ e ∈ es,e.1.toNat < n∧e.2.toNat < n) {v u:Nat} (hv:v < n) (hu:u < n):(u:Int) ∈ Qgf n es v ↔ Qc0 es v u:=by
 have hlen:∀ k,(Qi8 es k ((List.replicate n false).set v true)).length=n:=fun k=>by rw [Qjd];simp
 rw [Qgf,List.mem_filter]
 constructor
 · rintro ⟨-,h2⟩ p hp
   have h3:=Qmw (v:=v) hes hp n (l:=(List.replicate n false).set v true) (by simp) (fun w hw=>by rw [Qgz hv,decide_eq_true_eq] at hw;rw [hw]) u (by simpa using h2)
   exact h3.symm
 · intro h
   refine ⟨Qdt.2 ⟨by omega,by omega⟩,?_⟩
   obtain ⟨S,hS⟩:∃ S:Nat→Bool,S=fun u=>decide (u < n∧Qc0 es v u):=⟨_,rfl⟩
   have hSi:∀ u,S u=true ↔ u < n∧Qc0 es v u:=fun u=>by rw [hS];exact decide_eq_true_iff
   have hSv:S v=true:=(hSi v).2 ⟨hv,fun _ _=>rfl⟩
   have hCl:Cl es S:=fun e he=>by
    have hb:=hes e he
    have hse:=Qcg he
    rw [Bool.eq_iff_iff,hSi,hSi]
    exact ⟨fun h=>⟨hb.2,h.2.trans hse⟩,fun h=>⟨hb.1,h.2.trans hse.symm⟩⟩
   have hC:∀ p,Cl es p→∀ u w,S u=true→S w=true→p u=p w:=fun p hp u w hu hw =>
    (((hSi u).1 hu).2 p hp).symm.trans (((hSi w).1 hw).2 p hp)
   have g:=Jd9 S (fun u hu=>((hSi u).1 hu).1) hCl hC (fun k u=>(Qi8 es k ((List.replicate n false).set v true)).getD u false) ⟨v,hSv,by
    show ((List.replicate n false).set v true).getD v false=true
    rw [Qgz hv];simp⟩ (fun k u h=>by
    show (Qi8 es (k+1) ((List.replicate n false).set v true)).getD u false=true
    rw [Qe1];exact Qdy es h) (fun k e he h=>by
    show (Qi8 es (k+1) ((List.replicate n false).set v true)).getD e.1.toNat false=true∧(Qi8 es (k+1) ((List.replicate n false).set v true)).getD e.2.toNat false=true
    rw [Qe1];exact Qh3 es (hlen k) hes e he h) n
   have hcS:(List.range n).countP S≤n:=by have:=List.countP_le_length (p:=S) (l:=List.range n);simpa using this
   refine Classical.byContradiction fun hno=>?_
   have hlt:(List.range n).countP (fun u=>S u && (Qi8 es n ((List.replicate n false).set v true)).getD u false) < (List.range n).countP S :=
    Qc9 (fun x _ h=>by rw [Qba] at h;exact h.1) ⟨u,List.mem_range.2 hu,by
     have:(Qi8 es n ((List.replicate n false).set v true)).getD u false=false:=by simpa using hno
     rw [this];simp,(hSi u).2 ⟨hu,h⟩⟩
   have:=g.1
   omega
theorem Qy0 {n:Nat} (hn1:1≤n) {es:List (Int×Int)} (hes:∀ e ∈ es,e.1.toNat < n∧e.2.toNat < n):1≤(Qhw n es 0).length:=by
 rw [Qow]
 refine List.length_pos_of_mem (a:=0) (List.mem_filter.2 ⟨Qdt.2 ⟨by omega,by omega⟩,?_⟩)
 have hm:=Qma (n:=n) (es:=es) (v:=0) (by omega)
 have hpw:=Qwh n es 0
 rw [hdV,show (0:Int).toNat=0 from rfl,decide_eq_true_eq]
 cases hC:Qgf n es 0 with
 | nil=>rw [hC] at hm;cases hm
 | cons y ys =>
   rw [hC] at hm hpw
   have hy:y ∈ Qgf n es 0:=by rw [hC];simp
   have hb:=Qdt.1 (List.mem_filter.1 (by rw [Qgf] at hy;exact hy)).1
   show y=0
   rcases List.mem_cons.1 hm with h | h
   · exact h.symm
   · have:=(List.pairwise_cons.1 hpw).1 _ h
     omega
end Go.Idl
namespace Go.Idl
open Go
def jnE (n:Nat) (es:List (Int×Int)):Option ((Int×Int)×(Int×Int)):=match es.find? (cyP n es) with
 | none=>none
 | some e=>(es.find? (otP (rtF n es) e.1)).map fun f=>(e,f)
def jnF (n:Nat):Nat→List (Int×Int)→Option (List (Int×Int))
 | 0,_=>none
 | m+1,es=>if (Qbj n es).length=1 then some es else match jnE n es with
   | none=>none
   | some (e,f)=>jnF n m (sw es e.1 e.2 f.1 f.2)
theorem Qp5 {α:Type} {p:α→Bool}:∀ {xs:List α} {k:Nat} (hk:k < xs.length),p xs[k]=true→(∀ x ∈ xs.take k,p x=false)→xs.find? p=some xs[k]
 | x::xs,0,_,h,_=>by rw [List.find?_cons];simp only [List.getElem_cons_zero] at h;rw [h];rfl
 | x::xs,k+1,hk,h,hn=>by
   rw [List.find?_cons,hn x (by simp)]
   exact Qp5 (by simpa using hk) (by simpa using h) (fun y hy=>hn y (by simp [hy]))
theorem Qhs {α:Type} {p:α→Bool} {xs:List α} (h:∀ x ∈ xs,p x=false):xs.find? p=none:=List.find?_eq_none.2 fun x hx=>by simp [h x hx]
theorem Qu1 {n:Nat} {es:List (Int×Int)} (hv:Qao n es=true) {e f:Int×Int} (h:jnE n es=some (e,f)) :
 e ∈ es∧f ∈ es∧Qkn es e.1 e.2 f.1 f.2=true∧Qao n (sw es e.1 e.2 f.1 f.2)=true∧Qdu n (sw es e.1 e.2 f.1 f.2)=Qdu n es∧(Qbj n (sw es e.1 e.2 f.1 f.2)).length < (Qbj n es).length:=by
 have hes:∀ e ∈ es,e.1.toNat < n∧e.2.toNat < n:=fun e he=>by have:=Qak.1 ((Qar.1 hv).2.1 e he);omega
 rw [jnE] at h
 cases h1:es.find? (cyP n es) with
 | none=>rw [h1] at h;cases h
 | some e' =>
   rw [h1] at h
   simp only [Option.map_eq_some_iff] at h
   obtain ⟨f',h2,h3⟩:=h
   cases h3
   have m1:=List.mem_of_find?_eq_some h1
   have m2:=List.mem_of_find?_eq_some h2
   have p1:=List.find?_some h1
   have p2:=List.find?_some h2
   have hsm:Qc0 (es.filter fun x=>!decide (x=e)) e.1.toNat e.2.toNat:=by
    rw [cyP,decide_eq_true_eq] at p1
    exact (Qkg (fun x hx=>hes x (List.mem_filter.1 hx).1) (hes _ m1).1 (hes _ m1).2).1 p1
   have hns:¬ Qc0 es f.1.toNat e.1.toNat:=fun h=>by
    rw [otP,decide_eq_true_eq] at p2
    exact p2 ((Qkg hes (hes _ m2).1 (hes _ m1).1).2 h)
   obtain ⟨hmay,hlt⟩:=Qpb hv m1 m2 hsm hns
   exact ⟨m1,m2,hmay,(Qn0 hv hmay).2.2.1,Jis hv hmay,hlt⟩
theorem Jbi {n:Nat} (hn1:1≤n) {es:List (Int×Int)} (hv:Qao n es=true) (hc:(Qbj n es).length ≠ 1) (h:jnE n es=none):Qtp (Qdu n es)=false:=by
 have hes:∀ e ∈ es,e.1.toNat < n∧e.2.toNat < n:=fun e he=>by have:=Qak.1 ((Qar.1 hv).2.1 e he);omega
 have hnc:¬ Con n es:=fun h=>hc ((Qgt hn1 hes).2 h)
 cases hcn:Qtp (Qdu n es) with
 | false=>rfl
 | true =>
   rw [jnE] at h
   cases h1:es.find? (cyP n es) with
   | none =>
     obtain ⟨e,he,hs⟩:=Qsr hn1 hv hc hcn
     have:=List.find?_eq_none.1 h1 e he
     rw [cyP,decide_eq_true_eq] at this
     have hb:=hes e he
     exact absurd ((Qkg (fun x hx=>hes x (List.mem_filter.1 hx).1) hb.1 hb.2).2 hs) this
   | some e =>
     rw [h1] at h
     simp only [Option.map_eq_none_iff] at h
     have m1:=List.mem_of_find?_eq_some h1
     obtain ⟨f,hf,hs⟩:=Quc hv hnc hcn (hes _ m1).1
     have:=List.find?_eq_none.1 h f hf
     rw [otP,decide_eq_true_eq,Classical.not_not] at this
     exact absurd ((Qkg hes (hes f hf).1 (hes _ m1).1).1 this) hs
theorem Qxs {n:Nat} (hn1:1≤n):∀ (m:Nat) (es:List (Int×Int)),(Qbj n es).length≤m→Qao n es=true →
 (∀ es',jnF n m es=some es'→Qao n es'=true∧(Qbj n es').length=1∧Qdu n es'=Qdu n es)∧(jnF n m es=none→Qtp (Qdu n es)=false)
 | 0,es,hm,hv=>by
   have hes:∀ e ∈ es,e.1.toNat < n∧e.2.toNat < n:=fun e he=>by have:=Qak.1 ((Qar.1 hv).2.1 e he);omega
   have:=Qfi hn1 hes
   omega
 | m+1,es,hm,hv=>by
   rw [jnF]
   by_cases hc:(Qbj n es).length=1
   · rw [if_pos hc]
     exact ⟨fun es' h=>(by cases h;exact ⟨hv,hc,rfl⟩),fun h=>(by cases h)⟩
   · rw [if_neg hc]
     cases hE:jnE n es with
     | none=>exact ⟨fun es' h=>(by cases h),fun _=>Jbi hn1 hv hc hE⟩
     | some q =>
       obtain ⟨e,f⟩:=q
       obtain ⟨-,-,-,k1,k2,k3⟩:=Qu1 hv hE
       have ih:=Qxs hn1 m _ (by omega) k1
       rw [k2] at ih
       exact ih
set_option maxHeartbeats 4000000 in
theorem Jce (n:Nat) (hn1:1≤n) (G0:List IV):∀ (m:Nat) (es:List (Int×Int)) (B:Qac),(Qbj n es).length≤m→Qao n es=true →
 wp tb (.loop Qys) { T:=[(2,.bptr 0 1 0),(4,.bptr 0 2 0)],loc:=G0::[I 0,Z]::[I n,L2 es false]::B,M:=[] }
  (fun ex st=>match jnF n m es with
    | some es'=>ex=.exit 0∧∃ B',st={ T:=[(2,.bptr 0 1 0),(4,.bptr 0 2 0),(23,Bo false)],loc:=G0::[I 0,Z]::[I n,L2 es' false]::B',M:=[] }
    | none=>ex=.ret∧∃ B',st={ T:=[(2,.bptr 0 1 0),(3,Bo false)],loc:=G0::[I 0,Z]::B',M:=[] }):=by
 intro m
 induction m with
 | zero =>
   intro es B hm hv
   have hes:∀ e ∈ es,e.1.toNat < n∧e.2.toNat < n:=fun e he=>by have:=Qak.1 ((Qar.1 hv).2.1 e he);omega
   have:=Qfi hn1 hes
   omega
 | succ m ih =>
   intro es B hm hv
   have hin:=(Qar.1 hv).2.1
   have hn7:=(Qar.1 hv).2.2
   have h21:=Quj hn7 hv
   have hes:∀ e ∈ es,e.1.toNat < n∧e.2.toNat < n:=fun e he=>by have:=Qak.1 (hin e he);omega
   have hes4:∀ e ∈ es,0≤e.1∧e.1 < n∧0≤e.2∧e.2 < n:=fun e he=>by have:=Qak.1 (hin e he);omega
   have hpos:=Qfi hn1 hes
   have e1:=fun c=>Qaa (Qg9 n hn1 hn7 2 es c (.inl rfl) hes4 (by omega))
   obtain ⟨p,P,hP⟩:∃ p P,Qbj n es=p::P:=by
    cases hq:Qbj n es with
    | nil=>rw [hq] at hpos;simp at hpos
    | cons p P=>exact ⟨p,P,rfl⟩
   rw [hP] at e1
   simp only [nlT] at e1
   by_cases hc:(Qbj n es).length=1
   · have hP0:P=[]:=by rw [hP] at hc;simpa using hc
     rw [jnF,if_pos hc]
     subst hP0
     refine wW ?_
     repeat (first|apply wA|apply wS|refine wr (by simp [e1];with_reducible rfl) ?_|refine wq (by simp [e1];with_reducible rfl) ?_|refine wt (by simpa [e1]) ?_|refine wf (by simpa [e1]) ?_|refine xt (by simpa [e1]) ?_|refine xf (by simpa [e1]) ?_|apply wB|apply Qab|refine wX ?_|refine wY ?_|refine wR ?_|refine wK ?_|refine wE ?_)
     exact ⟨rfl,B,rfl⟩
   · have hPl:¬ P.length=0:=fun h=>hc (by rw [hP];simp [h])
     have hPl2:¬ (P.length:Int)+1=1:=by omega
     have hPl3:¬ P=[]:=fun h=>hPl (by rw [h];rfl)
     have e2:=fun c=>Qaa (Qmh n hn1 hn7 2 es c (.inl rfl) hes4 (by omega))
     rw [show Qhl es n (Qd1 n (-1))=rtF n es from rfl] at e2
     have hrl:(rtF n es).length=n:=by rw [rtF,Qjc,Qc1];simp
     have e3:=fun c cc B1=>Qaa (Qd8 2 es c (.inl rfl) Qqa [.bptr 0 2 0] [G0::[I 0,Z]::[I n,L2 es false]::(B++[[L (rtF n es) cc]]++B1)] (cyP n es) (by omega) (fun x hx=>Jbs n hn1 es hv (by omega) _ rfl [[]] x hx))
     rw [jnF,if_neg hc]
     rcases Qgi (cyP n es) es 0 with ⟨k1,k2⟩ | ⟨k,hk,k1,k2,k3⟩
     · rw [show ((0:Nat):Int)=0 from rfl] at k1
       have e3:=fun c cc=>e3 c cc []
       simp only [k1,List.append_nil] at e3
       have hE:jnE n es=none:=by rw [jnE,Qhs k2]
       rw [hE]
       refine wW ?_
       repeat (first|apply wA|apply wS|refine wr (by simp [e1,hPl,hPl2,hPl3,e2,e3];with_reducible rfl) ?_|refine wq (by simp [e1,hPl,hPl2,hPl3,e2,e3];with_reducible rfl) ?_|refine wt (by simpa [e1,hPl,hPl2,hPl3,e2,e3]) ?_|refine wf (by simpa [e1,hPl,hPl2,hPl3,e2,e3]) ?_|refine xt (by simpa [e1,hPl,hPl2,hPl3,e2,e3]) ?_|refine xf (by simpa [e1,hPl,hPl2,hPl3,e2,e3]) ?_|apply wB|apply Qab|refine wX ?_|refine wY ?_|refine wR ?_|refine wK ?_|refine wE ?_)
       exact ⟨rfl,_,rfl⟩
     · rw [show ((0:Nat):Int)=0 from rfl,Nat.zero_add] at k1
       have e3:=fun c cc=>e3 c cc []
       simp only [k1,List.append_nil] at e3
       have hkn:¬ (k:Int) < 0:=by omega
       have hF:=Qp5 hk k2 k3
       obtain ⟨⟨a,b⟩,hab⟩:∃ e,e=es[k]:=⟨_,rfl⟩
       have hab2:=hab.symm
       have heM:((a,b):Int×Int) ∈ es:=by rw [hab];exact List.getElem_mem hk
       have hbe:=hes4 _ heM
       simp only at hbe
       rw [← hab] at hF
       have e4:=fun c cc=>Qaa (Qd8 2 es c (.inl rfl) Qsq [.bptr 0 (B.length+1+1+1) 0,.bptr 0 (B.length+1+1+1+1) 0] [G0::[I 0,Z]::[I n,L2 es false]::(B++[[L (rtF n es) cc],[I a,I b]])] (otP (rtF n es) a) (by omega) (fun x hx=>Jbm n (rtF n es) hrl a b ⟨hbe.1,hbe.2.1⟩ _ _ _ cc (by simp) (by simp) [[]] x (by have:=hes4 x hx;omega)))
       rcases Qgi (otP (rtF n es) a) es 0 with ⟨j1,j2⟩ | ⟨j,hj,j1,j2,j3⟩
       · rw [show ((0:Nat):Int)=0 from rfl] at j1
         simp only [j1] at e4
         have hE:jnE n es=none:=by rw [jnE,hF];simp only [Qhs j2];rfl
         rw [hE]
         refine wW ?_
         repeat (first|apply wA|apply wS|refine wr (by simp [e1,hPl,hPl2,hPl3,e2,e3,hkn,hk,hab2,e4];with_reducible rfl) ?_|refine wq (by simp [e1,hPl,hPl2,hPl3,e2,e3,hkn,hk,hab2,e4];with_reducible rfl) ?_|refine wt (by simpa [e1,hPl,hPl2,hPl3,e2,e3,hkn,hk,hab2,e4]) ?_|refine wf (by simpa [e1,hPl,hPl2,hPl3,e2,e3,hkn,hk,hab2,e4]) ?_|refine xt (by simpa [e1,hPl,hPl2,hPl3,e2,e3,hkn,hk,hab2,e4]) ?_|refine xf (by simpa [e1,hPl,hPl2,hPl3,e2,e3,hkn,hk,hab2,e4]) ?_|apply wB|apply Qab|refine wX ?_|refine wY ?_|refine wR ?_|refine wK ?_|refine wE ?_)
         exact ⟨rfl,_,rfl⟩
       · rw [show ((0:Nat):Int)=0 from rfl,Nat.zero_add] at j1
         simp only [j1] at e4
         have hjn:¬ (j:Int) < 0:=by omega
         have hG:=Qp5 hj j2 j3
         obtain ⟨⟨c,d⟩,hcd⟩:∃ e,e=es[j]:=⟨_,rfl⟩
         have hcd2:=hcd.symm
         rw [← hcd] at hG
         have hE:jnE n es=some ((a,b),(c,d)):=by rw [jnE,hF];simp only [hG];rfl
         obtain ⟨-,-,hmay,hv2,-,hlt⟩:=Qu1 hv hE
         rw [hE]
         simp only at hmay hlt hv2 ⊢
         have e5:=fun cc=>Qaa (Qyg n es cc a b c d hv)
         simp only [OS,hmay,if_true] at e5
         have hn:=fun B=>ih (sw es a b c d) B (by omega) hv2
         generalize sw es a b c d=R at *
         refine wW ?_
         repeat (first|apply wA|apply wS|refine wr (by simp [e1,hPl,hPl2,hPl3,e2,e3,hkn,hk,hab2,e4,hjn,hj,hcd2,e5];with_reducible rfl) ?_|refine wq (by simp [e1,hPl,hPl2,hPl3,e2,e3,hkn,hk,hab2,e4,hjn,hj,hcd2,e5];with_reducible rfl) ?_|refine wt (by simpa [e1,hPl,hPl2,hPl3,e2,e3,hkn,hk,hab2,e4,hjn,hj,hcd2,e5]) ?_|refine wf (by simpa [e1,hPl,hPl2,hPl3,e2,e3,hkn,hk,hab2,e4,hjn,hj,hcd2,e5]) ?_|refine xt (by simpa [e1,hPl,hPl2,hPl3,e2,e3,hkn,hk,hab2,e4,hjn,hj,hcd2,e5]) ?_|refine xf (by simpa [e1,hPl,hPl2,hPl3,e2,e3,hkn,hk,hab2,e4,hjn,hj,hcd2,e5]) ?_|apply wB|apply Qab|refine wX ?_|refine wY ?_|refine wR ?_|refine wK ?_|refine wE ?_)
         exact hn _
theorem Qi5 (n:Nat) (hn1:1≤n) (es:List (Int×Int)) (c:Bool) (hv:Qao n es=true) :
 Ev tb Qq0 [] [Gr n es c] [] ⟨match jnF n (Qbj n es).length es with | some es'=>.tup [Gr n es' false,Bo true] | none=>.tup [.agg [I 0,Z],Bo false],[],[],[]⟩:=by
 have hn7:=(Qar.1 hv).2.2
 have h21:=Quj hn7 hv
 have hf:Fit es:=fun e he=>by have:=Qak.1 ((Qar.1 hv).2.1 e he);omega
 have v1:=fun c=>Qaa (Qbz n es c hf (by omega))
 rw [hv] at v1
 have e1:=fun c=>Qaa (Qj2 2 es c (.inl rfl) (by omega))
 have loop:=Jce n hn1 [I n,L2 es c] (Qbj n es).length es [] (Nat.le_refl _) hv
 cases hF:jnF n (Qbj n es).length es with
 | none =>
   simp only [hF] at loop
   refine cW Jas rfl ?_
   repeat (first|apply wA|apply wS|refine wr (by simp [v1];with_reducible rfl) ?_|refine wq (by simp [v1];with_reducible rfl) ?_|refine wt (by simpa [v1]) ?_|refine wf (by simpa [v1]) ?_|refine xt (by simpa [v1]) ?_|refine xf (by simpa [v1]) ?_|apply wB|apply Qab|refine wX ?_|refine wY ?_|refine wR ?_|refine wK ?_|refine wE ?_)
   refine Qmr rfl (by simp [e1];with_reducible rfl) (by simp;with_reducible rfl) ?_
   repeat (first|apply wA|apply wS|refine wr (by simp;with_reducible rfl) ?_|refine wq (by simp;with_reducible rfl) ?_|refine wt (by simpa) ?_|refine wf (by simpa) ?_|refine xt (by simpa) ?_|refine xf (by simpa) ?_|apply wB|apply Qab|refine wX ?_|refine wY ?_|refine wR ?_|refine wK ?_|refine wE ?_)
   refine Qah loop ?_
   rintro ex st ⟨rfl,B',rfl⟩
   simp [Qqu]
 | some es' =>
   simp only [hF] at loop
   refine cW Jas rfl ?_
   repeat (first|apply wA|apply wS|refine wr (by simp [v1];with_reducible rfl) ?_|refine wq (by simp [v1];with_reducible rfl) ?_|refine wt (by simpa [v1]) ?_|refine wf (by simpa [v1]) ?_|refine xt (by simpa [v1]) ?_|refine xf (by simpa [v1]) ?_|apply wB|apply Qab|refine wX ?_|refine wY ?_|refine wR ?_|refine wK ?_|refine wE ?_)
   refine Qmr rfl (by simp [e1];with_reducible rfl) (by simp;with_reducible rfl) ?_
   repeat (first|apply wA|apply wS|refine wr (by simp;with_reducible rfl) ?_|refine wq (by simp;with_reducible rfl) ?_|refine wt (by simpa) ?_|refine wf (by simpa) ?_|refine xt (by simpa) ?_|refine xf (by simpa) ?_|apply wB|apply Qab|refine wX ?_|refine wY ?_|refine wR ?_|refine wK ?_|refine wE ?_)
   refine Qah loop ?_
   rintro ex st ⟨rfl,B',rfl⟩
   simp only [if_true]
   repeat (first|apply wA|apply wS|refine wr (by simp;with_reducible rfl) ?_|refine wq (by simp;with_reducible rfl) ?_|refine wt (by simpa) ?_|refine wf (by simpa) ?_|refine xt (by simpa) ?_|refine xf (by simpa) ?_|apply wB|apply Qab|refine wX ?_|refine wY ?_|refine wR ?_|refine wK ?_|refine wE ?_)
   simp [Qqu]
theorem Qoo {n:Nat} {es:List (Int×Int)} (hv:Qao n es=true) {a b:Int} (he:(a,b) ∈ es):Qbm a b es=es.filter fun x=>!decide (x=(a,b)):=by
 have hb:=Qak.1 ((Qar.1 hv).2.1 _ he)
 simp only at hb
 rw [Qbm,show min a b=a by omega,show max a b=b by omega]
 refine List.filter_congr fun x _=>?_
 rw [Qp0,← Bool.decide_and]
 congr 1
 rw [decide_eq_decide,Prod.ext_iff]
theorem Qxx {n:Nat} {es:List (Int×Int)} (hes:∀ e ∈ es,0≤e.1∧e.1 < n∧0≤e.2∧e.2 < n) {v u:Int} (hv:0≤v∧v < n) (hu:0≤u∧u < n):decide (u ∈ Qgf n es v.toNat)=decide ((rtF n es).getD u.toNat 0=(rtF n es).getD v.toNat 0):=by
 have hes':∀ e ∈ es,e.1.toNat < n∧e.2.toNat < n:=fun e he=>by have:=hes e he;omega
 have h1:=Qut hes' (v:=v.toNat) (u:=u.toNat) (by omega) (by omega)
 have h2:=Qkg hes' (u:=u.toNat) (v:=v.toNat) (by omega) (by omega)
 rw [show ((u.toNat:Nat):Int)=u by omega] at h1
 rw [decide_eq_decide,h1,h2]
 exact ⟨fun h=>h.symm,fun h=>h.symm⟩
theorem Qql (n:Nat) (es:List (Int×Int)) (c:Bool) (hv:Qao n es=true) (a b:Int) (he:(a,b) ∈ es) :
 Ev tb Qwo [] [Gr n es c,.agg [I a,I b]] [] ⟨Bo (!cyP n es (a,b)),[],[],[]⟩:=by
 have hn7:=(Qar.1 hv).2.2
 have h21:=Quj hn7 hv
 have hes4:∀ e ∈ es,0≤e.1∧e.1 < n∧0≤e.2∧e.2 < n:=fun e he=>by have:=Qak.1 ((Qar.1 hv).2.1 e he);omega
 have hb:=hes4 _ he
 simp only at hb
 have hd:=Qoo hv he
 have hdl:(Qbm a b es).length≤es.length:=Qka a b es
 have hde:∀ e ∈ Qbm a b es,0≤e.1∧e.1 < n∧0≤e.2∧e.2 < n:=fun e he=>hes4 e (by rw [hd] at he;exact (List.mem_filter.1 he).1)
 have hcy:cyP n es (a,b)=decide (b ∈ Qgf n (Qbm a b es) a.toNat):=by
  rw [Qxx hde ⟨hb.1,hb.2.1⟩ ⟨hb.2.2.1,hb.2.2.2⟩,cyP,hd,decide_eq_decide]
  exact ⟨fun h=>h.symm,fun h=>h.symm⟩
 rw [hcy]
 obtain ⟨p,rfl⟩:=Int.eq_ofNat_of_zero_le hb.1
 have e1:=fun c=>Qaa (Qf6 n es c (p:Int) b (by omega))
 have e2:=fun c=>Qaa (Qey n hn7 (Qbm p b es) c hde (by omega) p (by omega))
 have hcl:(Qgf n (Qbm p b es) p).length≤1000:=by
  have h1:(Qgf n (Qbm p b es) p).length≤(rgF n 0).length:=List.length_filter_le _ _
  have h2:(rgF n 0).length=n:=by simp [rgF]
  omega
 rw [Int.toNat_natCast]
 have e3:=fun c=>Qaa (Qnk (Qgf n (Qbm p b es) p) c b (by omega))
 generalize Qgf n (Qbm p b es) p=C at *
 generalize Qbm p b es=D at *
 refine cW zt354 rfl ?_
 repeat (first|apply wA|apply wS|refine wr (by simp;with_reducible rfl) ?_|refine wq (by simp;with_reducible rfl) ?_|refine wt (by simpa) ?_|refine wf (by simpa) ?_|refine xt (by simpa) ?_|refine xf (by simpa) ?_|apply wB|apply Qab|refine wX ?_|refine wY ?_|refine wR ?_|refine wK ?_|refine wE ?_)
 refine Qe7 (by simp [e1,e2,e3];with_reducible rfl) (by simp;with_reducible rfl) ?_ ?_
 · intro p hp
   simp only [List.mem_cons,List.not_mem_nil,or_false] at hp
   rcases hp with rfl | rfl | rfl | rfl | rfl
   · exact ⟨_,by simp [e1,e2,e3];with_reducible rfl,by simp⟩
   · exact ⟨_,by simp [e1,e2,e3];with_reducible rfl,by simp⟩
   · exact ⟨_,by simp [e1,e2,e3];with_reducible rfl,by simp⟩
   · exact ⟨_,by simp [e1,e2,e3];with_reducible rfl,by simp⟩
   · exact ⟨_,by simp [e1,e2,e3];with_reducible rfl,by simp⟩
 repeat (first|apply wA|apply wS|refine wr (by simp;with_reducible rfl) ?_|refine wq (by simp;with_reducible rfl) ?_|refine wt (by simpa) ?_|refine wf (by simpa) ?_|refine xt (by simpa) ?_|refine xf (by simpa) ?_|apply wB|apply Qab|refine wX ?_|refine wY ?_|refine wR ?_|refine wK ?_|refine wE ?_)
 simp [Jb8]
def jsF (n:Nat) (es:List (Int×Int)):List (Int×Int)→Option ((Int×Int)×(Int×Int))
 | []=>none
 | e::r=>if cyP n es e=true then (match es.find? (otP (rtF n es) e.1) with | some f=>some (e,f) | none=>jsF n es r) else jsF n es r
theorem Qq8 {n:Nat} {es:List (Int×Int)} {a:Int} (ha:∀ x ∈ es,otP (rtF n es) a x=false):∀ l:List (Int×Int),(∀ x ∈ l,x ∈ es)→jsF n es l=none
 | [],_=>rfl
 | e::r,h=>by
   have ih:=Qq8 ha r (fun x hx=>h x (by simp [hx]))
   have he:=ha e (h e (by simp))
   rw [otP,decide_eq_false_iff_not,Classical.not_not] at he
   have hf:es.find? (otP (rtF n es) e.1)=none:=Qhs fun x hx=>by
    have:=ha x hx
    rw [otP,decide_eq_false_iff_not,Classical.not_not] at this ⊢
    rw [this,he]
   rw [jsF,hf]
   simp only [ih]
   split <;> rfl
theorem Jdd {n:Nat} {es:List (Int×Int)}:∀ l:List (Int×Int),(∀ x ∈ l,x ∈ es)→jsF n es l=(match l.find? (cyP n es) with
 | none=>none
 | some e=>(es.find? (otP (rtF n es) e.1)).map fun f=>(e,f))
 | [],_=>rfl
 | e::r,h=>by
   rw [jsF,List.find?_cons]
   cases hq:cyP n es e with
   | false =>
     simp only [Bool.false_eq_true,if_false]
     exact Jdd r (fun x hx=>h x (by simp [hx]))
   | true =>
     simp only [if_true]
     cases hf:es.find? (otP (rtF n es) e.1) with
     | some f=>rfl
     | none =>
       simp only [Option.map_none]
       exact Qq8 (a:=e.1) (fun x hx=>by have:=List.find?_eq_none.1 hf x hx;simpa using this) r (fun x hx=>h x (by simp [hx]))
theorem Jzl (n:Nat) (es:List (Int×Int)) (c:Bool) (hv:Qao n es=true) (a b:Int) (he:(a,b) ∈ es) (i k:Nat):∀ (m j:Nat) (Bx:Qac),j+m=es.length→Bx[k]? = some [I a,I b] →
 wp tb (.loop Qy4) { T:=[(1,.bptr 0 0 0),(2,.bptr 0 1 0),(4,I i),(5,.bptr 0 (k+1+1) 0),(6,I j)],loc:=[I n,L2 es c]::[I 0,I 0,I 0,I 0]::Bx,M:=[] }
  (fun ex st=>match (es.drop j).find? (otP (rtF n es) a) with
    | some f=>ex=.ret∧∃ Bx',st={ T:=[(2,.bptr 0 1 0),(3,Bo true)],loc:=[I n,L2 es c]::[I a,I b,I f.1,I f.2]::Bx',M:=[] }
    | none=>ex=.exit 2∧∃ Bx',st={ T:=[(1,.bptr 0 0 0),(2,.bptr 0 1 0),(4,I i),(5,.bptr 0 (k+1+1) 0),(6,I es.length),(27,Bo false)],loc:=[I n,L2 es c]::[I 0,I 0,I 0,I 0]::Bx',M:=[] }):=by
 have hn7:=(Qar.1 hv).2.2
 have h21:=Quj hn7 hv
 have hes4:∀ e ∈ es,0≤e.1∧e.1 < n∧0≤e.2∧e.2 < n:=fun e he=>by have:=Qak.1 ((Qar.1 hv).2.1 e he);omega
 have hb:=hes4 _ he
 simp only at hb
 intro m
 induction m with
 | zero =>
   intro j Bx hj hB
   have h3:j=es.length:=hj
   subst h3
   rw [List.drop_length]
   refine wW ?_
   repeat (first|apply wA|apply wS|refine wr (by simp;with_reducible rfl) ?_|refine wq (by simp;with_reducible rfl) ?_|refine wt (by simpa) ?_|refine wf (by simpa) ?_|refine xt (by simpa) ?_|refine xf (by simpa) ?_|apply wB|apply Qab|refine wX ?_|refine wY ?_|refine wR ?_|refine wK ?_|refine wE ?_)
   exact ⟨rfl,_,rfl⟩
 | succ m ih =>
   intro j Bx hj hB
   have hj2:j < es.length:=by omega
   have hd:es.drop j=es[j]::es.drop (j+1):=List.drop_eq_getElem_cons hj2
   obtain ⟨⟨x,y⟩,hx⟩:∃ e,e=es[j]:=⟨_,rfl⟩
   have hx2:=hx.symm
   have hxb:=hes4 _ (List.getElem_mem hj2)
   rw [hx2] at hxb
   simp only at hxb
   have hkB:k < Bx.length:=by
    have:=(List.getElem?_eq_some_iff.1 hB).1;exact this
   have hB2:∀ q,(Bx++[q])[k]? = some [I a,I b]:=fun q=>by rw [List.getElem?_append_left hkB,hB]
   have hn:=fun q=>ih (j+1) (Bx++[q]) (by omega) (hB2 q)
   have w1:IntKind.i64.wrap ((j:Int)+1)=((j+1:Nat):Int):=Qbg (by omega)
   rw [hd,← hx,List.find?_cons]
   have hot:otP (rtF n es) a (x,y)=!decide (x ∈ Qgf n es a.toNat):=by
    rw [Qxx hes4 ⟨hb.1,hb.2.1⟩ ⟨hxb.1,hxb.2.1⟩,otP,decide_not]
   obtain ⟨p,rfl⟩:=Int.eq_ofNat_of_zero_le hb.1
   rw [Int.toNat_natCast] at hot
   have e2:=fun c=>Qaa (Qey n hn7 es c hes4 (by omega) p (by omega))
   have hcl:(Qgf n es p).length≤1000:=by
    have h1:(Qgf n es p).length≤(rgF n 0).length:=List.length_filter_le _ _
    have h2:(rgF n 0).length=n:=by simp [rgF]
    omega
   have e3:=fun c=>Qaa (Qnk (Qgf n es p) c x (by omega))
   generalize Qgf n es p=C at *
   rw [hot]
   cases hq:decide (x ∈ C) with
   | true =>
     rw [hq] at e3
     simp only [Bool.not_true,Bool.false_eq_true,if_false]
     refine wW ?_
     repeat (first|apply wA|apply wS|refine wr (by simp [hj2,hx2,w1];with_reducible rfl) ?_|refine wq (by simp [hj2,hx2,w1];with_reducible rfl) ?_|refine wt (by simpa [hj2,hx2,w1]) ?_|refine wf (by simpa [hj2,hx2,w1]) ?_|refine xt (by simpa [hj2,hx2,w1]) ?_|refine xf (by simpa [hj2,hx2,w1]) ?_|apply wB|apply Qab|refine wX ?_|refine wY ?_|refine wR ?_|refine wK ?_|refine wE ?_)
     refine Qe7 (by simp [e2,e3,hB2,hB];with_reducible rfl) (by simp;with_reducible rfl) ?_ ?_
     · intro p hp
       simp only [List.mem_cons,List.not_mem_nil,or_false] at hp
       subst hp
       exact ⟨_,by simp [e2,e3,hB2,hB];with_reducible rfl,by simp⟩
     repeat (first|apply wA|apply wS|refine wr (by simp [w1];with_reducible rfl) ?_|refine wq (by simp [w1];with_reducible rfl) ?_|refine wt (by simpa [w1]) ?_|refine wf (by simpa [w1]) ?_|refine xt (by simpa [w1]) ?_|refine xf (by simpa [w1]) ?_|apply wB|apply Qab|refine wX ?_|refine wY ?_|refine wR ?_|refine wK ?_|refine wE ?_)
     exact hn _
   | false =>
     rw [hq] at e3
     simp only [Bool.not_false,if_true]
     refine wW ?_
     repeat (first|apply wA|apply wS|refine wr (by simp [hj2,hx2,w1];with_reducible rfl) ?_|refine wq (by simp [hj2,hx2,w1];with_reducible rfl) ?_|refine wt (by simpa [hj2,hx2,w1]) ?_|refine wf (by simpa [hj2,hx2,w1]) ?_|refine xt (by simpa [hj2,hx2,w1]) ?_|refine xf (by simpa [hj2,hx2,w1]) ?_|apply wB|apply Qab|refine wX ?_|refine wY ?_|refine wR ?_|refine wK ?_|refine wE ?_)
     refine Qe7 (by simp [e2,e3,hB2,hB];with_reducible rfl) (by simp;with_reducible rfl) ?_ ?_
     · intro p hp
       simp only [List.mem_cons,List.not_mem_nil,or_false] at hp
       subst hp
       exact ⟨_,by simp [e2,e3,hB2,hB];with_reducible rfl,by simp⟩
     repeat (first|apply wA|apply wS|refine wr (by simp [hB2,hB];with_reducible rfl) ?_|refine wq (by simp [hB2,hB];with_reducible rfl) ?_|refine wt (by simpa [hB2,hB]) ?_|refine wf (by simpa [hB2,hB]) ?_|refine xt (by simpa [hB2,hB]) ?_|refine xf (by simpa [hB2,hB]) ?_|apply wB|apply Qab|refine wX ?_|refine wY ?_|refine wR ?_|refine wK ?_|refine wE ?_)
     exact ⟨rfl,_,rfl⟩
theorem Jou (n:Nat) (es:List (Int×Int)) (c:Bool) (hv:Qao n es=true):∀ (m i:Nat) (Bx:Qac),i+m=es.length →
 wp tb (.loop Qv6) { T:=[(1,.bptr 0 0 0),(2,.bptr 0 1 0),(4,I i)],loc:=[I n,L2 es c]::[I 0,I 0,I 0,I 0]::Bx,M:=[] }
  (fun ex st=>match jsF n es (es.drop i) with
    | some q=>ex=.ret∧∃ Bx',st={ T:=[(2,.bptr 0 1 0),(3,Bo true)],loc:=[I n,L2 es c]::[I q.1.1,I q.1.2,I q.2.1,I q.2.2]::Bx',M:=[] }
    | none=>ex=.exit 0∧∃ Bx',st={ T:=[(1,.bptr 0 0 0),(2,.bptr 0 1 0),(4,I es.length),(12,Bo false)],loc:=[I n,L2 es c]::[I 0,I 0,I 0,I 0]::Bx',M:=[] }):=by
 have hn7:=(Qar.1 hv).2.2
 have h21:=Quj hn7 hv
 intro m
 induction m with
 | zero =>
   intro i Bx hi
   have h3:i=es.length:=hi
   subst h3
   rw [List.drop_length]
   refine wW ?_
   repeat (first|apply wA|apply wS|refine wr (by simp;with_reducible rfl) ?_|refine wq (by simp;with_reducible rfl) ?_|refine wt (by simpa) ?_|refine wf (by simpa) ?_|refine xt (by simpa) ?_|refine xf (by simpa) ?_|apply wB|apply Qab|refine wX ?_|refine wY ?_|refine wR ?_|refine wK ?_|refine wE ?_)
   exact ⟨rfl,_,rfl⟩
 | succ m ih =>
   intro i Bx hi
   have hi2:i < es.length:=by omega
   have hd:es.drop i=es[i]::es.drop (i+1):=List.drop_eq_getElem_cons hi2
   obtain ⟨⟨a,b⟩,hx⟩:∃ e,e=es[i]:=⟨_,rfl⟩
   have hx2:=hx.symm
   have heM:((a,b):Int×Int) ∈ es:=by rw [hx];exact List.getElem_mem hi2
   have w1:IntKind.i64.wrap ((i:Int)+1)=((i+1:Nat):Int):=Qbg (by omega)
   have e1:=fun c=>Qaa (Qql n es c hv a b heM)
   have hn:=fun B=>ih (i+1) B (by omega)
   have inner:=Jzl n es c hv a b heM i Bx.length es.length 0 (Bx++[[I a,I b]]) (by omega) (by simp)
   rw [show ((0:Nat):Int)=0 from rfl,List.drop_zero] at inner
   rw [hd,← hx,jsF]
   cases hq:cyP n es (a,b) with
   | false =>
     rw [hq] at e1
     simp only [Bool.false_eq_true,if_false]
     refine wW ?_
     repeat (first|apply wA|apply wS|refine wr (by simp [hi2,hx2,e1,w1];with_reducible rfl) ?_|refine wq (by simp [hi2,hx2,e1,w1];with_reducible rfl) ?_|refine wt (by simpa [hi2,hx2,e1,w1]) ?_|refine wf (by simpa [hi2,hx2,e1,w1]) ?_|refine xt (by simpa [hi2,hx2,e1,w1]) ?_|refine xf (by simpa [hi2,hx2,e1,w1]) ?_|apply wB|apply Qab|refine wX ?_|refine wY ?_|refine wR ?_|refine wK ?_|refine wE ?_)
     exact hn _
   | true =>
     rw [hq] at e1
     simp only [if_true]
     cases hf:es.find? (otP (rtF n es) a) with
     | none =>
       simp only [hf] at inner
       refine wW ?_
       repeat (first|apply wA|apply wS|refine wr (by simp [hi2,hx2,e1,w1];with_reducible rfl) ?_|refine wq (by simp [hi2,hx2,e1,w1];with_reducible rfl) ?_|refine wt (by simpa [hi2,hx2,e1,w1]) ?_|refine wf (by simpa [hi2,hx2,e1,w1]) ?_|refine xt (by simpa [hi2,hx2,e1,w1]) ?_|refine xf (by simpa [hi2,hx2,e1,w1]) ?_|apply wB|apply Qab|refine wX ?_|refine wY ?_|refine wR ?_|refine wK ?_|refine wE ?_)
       refine Qah inner ?_
       rintro ex st ⟨rfl,B',rfl⟩
       simp only [if_true]
       repeat (first|apply wA|apply wS|refine wr (by simp [w1];with_reducible rfl) ?_|refine wq (by simp [w1];with_reducible rfl) ?_|refine wt (by simpa [w1]) ?_|refine wf (by simpa [w1]) ?_|refine xt (by simpa [w1]) ?_|refine xf (by simpa [w1]) ?_|apply wB|apply Qab|refine wX ?_|refine wY ?_|refine wR ?_|refine wK ?_|refine wE ?_)
       exact hn _
     | some f =>
       simp only [hf] at inner
       refine wW ?_
       repeat (first|apply wA|apply wS|refine wr (by simp [hi2,hx2,e1,w1];with_reducible rfl) ?_|refine wq (by simp [hi2,hx2,e1,w1];with_reducible rfl) ?_|refine wt (by simpa [hi2,hx2,e1,w1]) ?_|refine wf (by simpa [hi2,hx2,e1,w1]) ?_|refine xt (by simpa [hi2,hx2,e1,w1]) ?_|refine xf (by simpa [hi2,hx2,e1,w1]) ?_|apply wB|apply Qab|refine wX ?_|refine wY ?_|refine wR ?_|refine wK ?_|refine wE ?_)
       refine Qah inner ?_
       rintro ex st ⟨rfl,B',rfl⟩
       exact ⟨rfl,_,rfl⟩
theorem Qpk (n:Nat) (es:List (Int×Int)) (c:Bool) (hv:Qao n es=true) :
 Ev tb Qyj [] [Gr n es c] [] ⟨match jnE n es with | some q=>.tup [Sw q.1.1 q.1.2 q.2.1 q.2.2,Bo true] | none=>.tup [Sw 0 0 0 0,Bo false],[],[],[]⟩:=by
 have loop:=Jou n es c hv es.length 0 [] (by omega)
 rw [show ((0:Nat):Int)=0 from rfl,List.drop_zero,Jdd es (fun _ h=>h),show (match es.find? (cyP n es) with | none=>none | some e=>(es.find? (otP (rtF n es) e.1)).map fun f=>(e,f))=jnE n es from rfl] at loop
 cases hE:jnE n es with
 | none =>
   simp only [hE] at loop
   refine cW Jla rfl ?_
   repeat (first|apply wA|apply wS|refine wr (by simp;with_reducible rfl) ?_|refine wq (by simp;with_reducible rfl) ?_|refine wt (by simpa) ?_|refine wf (by simpa) ?_|refine xt (by simpa) ?_|refine xf (by simpa) ?_|apply wB|apply Qab|refine wX ?_|refine wY ?_|refine wR ?_|refine wK ?_|refine wE ?_)
   refine Qah loop ?_
   rintro ex st ⟨rfl,B',rfl⟩
   simp only [if_true]
   repeat (first|apply wA|apply wS|refine wr (by simp;with_reducible rfl) ?_|refine wq (by simp;with_reducible rfl) ?_|refine wt (by simpa) ?_|refine wf (by simpa) ?_|refine xt (by simpa) ?_|refine xf (by simpa) ?_|apply wB|apply Qab|refine wX ?_|refine wY ?_|refine wR ?_|refine wK ?_|refine wE ?_)
   simp [Qyn]
 | some q =>
   simp only [hE] at loop
   refine cW Jla rfl ?_
   repeat (first|apply wA|apply wS|refine wr (by simp;with_reducible rfl) ?_|refine wq (by simp;with_reducible rfl) ?_|refine wt (by simpa) ?_|refine wf (by simpa) ?_|refine xt (by simpa) ?_|refine xf (by simpa) ?_|apply wB|apply Qab|refine wX ?_|refine wY ?_|refine wR ?_|refine wK ?_|refine wE ?_)
   refine Qah loop ?_
   rintro ex st ⟨rfl,B',rfl⟩
   simp [Qyn]
set_option maxHeartbeats 4000000 in
theorem Jae (n:Nat) (hn1:1≤n) (G0:List IV):∀ (m:Nat) (es:List (Int×Int)) (B:Qac),(Qbj n es).length≤m→Qao n es=true →
 wp tb (.loop Jdi) { T:=[(2,.bptr 0 1 0),(4,.bptr 0 2 0)],loc:=G0::[I 0,Z]::[I n,O2 es]::B,M:=[] }
  (fun ex st=>match jnF n m es with
    | some es'=>ex=.exit 0∧∃ B',st={ T:=[(2,.bptr 0 1 0),(4,.bptr 0 2 0),(21,Bo false)],loc:=G0::[I 0,Z]::[I n,O2 es']::B',M:=[] }
    | none=>ex=.ret∧∃ B',st={ T:=[(2,.bptr 0 1 0),(3,Bo false)],loc:=G0::[I 0,Z]::B',M:=[] }):=by
 intro m
 induction m with
 | zero =>
   intro es B hm hv
   have hes:∀ e ∈ es,e.1.toNat < n∧e.2.toNat < n:=fun e he=>by have:=Qak.1 ((Qar.1 hv).2.1 e he);omega
   have:=Qfi hn1 hes
   omega
 | succ m ih =>
   intro es B hm hv
   have hin:=(Qar.1 hv).2.1
   have hn7:=(Qar.1 hv).2.2
   have h21:=Quj hn7 hv
   have hes:∀ e ∈ es,e.1.toNat < n∧e.2.toNat < n:=fun e he=>by have:=Qak.1 (hin e he);omega
   have hes4:∀ e ∈ es,0≤e.1∧e.1 < n∧0≤e.2∧e.2 < n:=fun e he=>by have:=Qak.1 (hin e he);omega
   have e1:=fun c=>Qaa (Qcf n hn7 es c hes4 (by omega))
   have hl1:=Qy0 hn1 hes
   have hl2:=(Qn2 hn1 hes).trans (Qgt hn1 hes).symm
   rw [jnF]
   generalize Qhw n es 0=P at *
   by_cases hc:(Qbj n es).length=1
   · have hP:=hl2.2 hc
     have hP2:¬ (1:Int) < (P.length:Int):=by omega
     rw [if_pos hc]
     refine wW ?_
     repeat (first|apply wA|apply wS|refine wr (by simp [e1,hP,hP2];with_reducible rfl) ?_|refine wq (by simp [e1,hP,hP2];with_reducible rfl) ?_|refine wt (by simpa [e1,hP,hP2]) ?_|refine wf (by simpa [e1,hP,hP2]) ?_|refine xt (by simpa [e1,hP,hP2]) ?_|refine xf (by simpa [e1,hP,hP2]) ?_|apply wB|apply Qab|refine wX ?_|refine wY ?_|refine wR ?_|refine wK ?_|refine wE ?_)
     exact ⟨rfl,B,rfl⟩
   · have hP0:P.length ≠ 1:=fun h=>hc (hl2.1 h)
     have hP2:(1:Int) < (P.length:Int):=by omega
     have hP3:1 < P.length:=by omega
     have e2:=fun c=>Qaa (Qpk n es c hv)
     rw [if_neg hc]
     cases hE:jnE n es with
     | none =>
       simp only [hE] at e2
       refine wW ?_
       repeat (first|apply wA|apply wS|refine wr (by simp [e1,e2,hP2,hP3];with_reducible rfl) ?_|refine wq (by simp [e1,e2,hP2,hP3];with_reducible rfl) ?_|refine wt (by simpa [e1,e2,hP2,hP3]) ?_|refine wf (by simpa [e1,e2,hP2,hP3]) ?_|refine xt (by simpa [e1,e2,hP2,hP3]) ?_|refine xf (by simpa [e1,e2,hP2,hP3]) ?_|apply wB|apply Qab|refine wX ?_|refine wY ?_|refine wR ?_|refine wK ?_|refine wE ?_)
       exact ⟨rfl,_,rfl⟩
     | some q =>
       obtain ⟨⟨a,b⟩,⟨c,d⟩⟩:=q
       simp only [hE] at e2
       obtain ⟨-,-,hmay,hv2,-,hlt⟩:=Qu1 hv hE
       simp only at hmay hlt hv2 ⊢
       have e3:=fun cc=>Qaa (Qpj n es cc a b c d (by omega))
       simp only [sw_eq hv hmay] at e3
       have hn:=fun B=>ih (sw es a b c d) B (by omega) hv2
       generalize sw es a b c d=R at *
       refine wW ?_
       repeat (first|apply wA|apply wS|refine wr (by simp [e1,e2,e3,hP2,hP3];with_reducible rfl) ?_|refine wq (by simp [e1,e2,e3,hP2,hP3];with_reducible rfl) ?_|refine wt (by simpa [e1,e2,e3,hP2,hP3]) ?_|refine wf (by simpa [e1,e2,e3,hP2,hP3]) ?_|refine xt (by simpa [e1,e2,e3,hP2,hP3]) ?_|refine xf (by simpa [e1,e2,e3,hP2,hP3]) ?_|apply wB|apply Qab|refine wX ?_|refine wY ?_|refine wR ?_|refine wK ?_|refine wE ?_)
       exact hn _
set_option maxHeartbeats 8000000 in
theorem Qft (n:Nat) (hn1:1≤n) (es:List (Int×Int)) (c:Bool) (hv:Qao n es=true) :
 Ev tb Qqy [] [Gr n es c] [] ⟨match jnF n (Qbj n es).length es with | some es'=>.tup [OG n es',Bo true] | none=>.tup [.agg [I 0,Z],Bo false],[],[],[]⟩:=by
 have hn7:=(Qar.1 hv).2.2
 have h21:=Quj hn7 hv
 have v1:=fun c=>Qaa (Qei n es c (by omega))
 rw [hv] at v1
 have loop:=Jae n hn1 [I n,L2 es c] (Qbj n es).length es [] (Nat.le_refl _) hv
 have hok:=Qxs hn1 (Qbj n es).length es (Nat.le_refl _) hv
 have ht:es.length≤274877906944:=by omega
 have ht2:List.take es.length es=es:=List.take_of_length_le (Nat.le_refl _)
 cases hF:jnF n (Qbj n es).length es with
 | none =>
   simp only [hF] at loop
   refine cW Jbt rfl ?_
   repeat (first|apply wA|apply wS|refine wr (by simp [v1];with_reducible rfl) ?_|refine wq (by simp [v1];with_reducible rfl) ?_|refine wt (by simpa [v1]) ?_|refine wf (by simpa [v1]) ?_|refine xt (by simpa [v1]) ?_|refine xf (by simpa [v1]) ?_|apply wB|apply Qab|refine wX ?_|refine wY ?_|refine wR ?_|refine wK ?_|refine wE ?_)
   refine Qoz rfl (by simp [ht,ht2];with_reducible rfl) (by simp;with_reducible rfl) ?_ ?_
   · intro p hp
     simp only [List.mem_cons,List.not_mem_nil,or_false] at hp
     rcases hp with rfl | rfl | rfl | rfl | rfl | rfl | rfl | rfl | rfl | rfl | rfl | rfl | rfl | rfl | rfl | rfl | rfl
     · exact ⟨_,by simp [ht,ht2];with_reducible rfl,by simp⟩
     · exact ⟨_,by simp [ht,ht2];with_reducible rfl,by simp⟩
     · exact ⟨_,by simp [ht,ht2];with_reducible rfl,by simp⟩
     · exact ⟨_,by simp [ht,ht2];with_reducible rfl,by simp⟩
     · exact ⟨_,by simp [ht,ht2];with_reducible rfl,by simp⟩
     · exact ⟨_,by simp [ht,ht2];with_reducible rfl,by simp⟩
     · exact ⟨_,by simp [ht,ht2];with_reducible rfl,by simp⟩
     · exact ⟨_,by simp [ht,ht2];with_reducible rfl,by simp⟩
     · exact ⟨_,by simp [ht,ht2];with_reducible rfl,by simp⟩
     · exact ⟨_,by simp [ht,ht2];with_reducible rfl,by simp⟩
     · exact ⟨_,by simp [ht,ht2];with_reducible rfl,by simp⟩
     · exact ⟨_,by simp [ht,ht2];with_reducible rfl,by simp⟩
     · exact ⟨_,by simp [ht,ht2];with_reducible rfl,by simp⟩
     · exact ⟨_,by simp [ht,ht2];with_reducible rfl,by simp⟩
     · exact ⟨_,by simp [ht,ht2];with_reducible rfl,by simp⟩
     · exact ⟨_,by simp [ht,ht2];with_reducible rfl,by simp⟩
     · exact ⟨_,by simp [ht,ht2];with_reducible rfl,by simp⟩
   repeat (first|apply wA|apply wS|refine wr (by simp;with_reducible rfl) ?_|refine wq (by simp;with_reducible rfl) ?_|refine wt (by simpa) ?_|refine wf (by simpa) ?_|refine xt (by simpa) ?_|refine xf (by simpa) ?_|apply wB|apply Qab|refine wX ?_|refine wY ?_|refine wR ?_|refine wK ?_|refine wE ?_)
   refine Qah loop ?_
   rintro ex st ⟨rfl,B',rfl⟩
   simp [Qq4]
 | some es' =>
   simp only [hF] at loop
   obtain ⟨q1,q2,q3⟩:=hok.1 es' hF
   have hes':∀ e ∈ es',e.1.toNat < n∧e.2.toNat < n:=fun e he=>by have:=Qak.1 ((Qar.1 q1).2.1 e he);omega
   have hes4:∀ e ∈ es',0≤e.1∧e.1 < n∧0≤e.2∧e.2 < n:=fun e he=>by have:=Qak.1 ((Qar.1 q1).2.1 e he);omega
   have h21':=Quj hn7 q1
   have e1:=fun c=>Qaa (Qcf n hn7 es' c hes4 (by omega))
   have hl2:=(Qn2 hn1 hes').2 ((Qgt hn1 hes').1 q2)
   generalize Qhw n es' 0=P at *
   refine cW Jbt rfl ?_
   repeat (first|apply wA|apply wS|refine wr (by simp [v1];with_reducible rfl) ?_|refine wq (by simp [v1];with_reducible rfl) ?_|refine wt (by simpa [v1]) ?_|refine wf (by simpa [v1]) ?_|refine xt (by simpa [v1]) ?_|refine xf (by simpa [v1]) ?_|apply wB|apply Qab|refine wX ?_|refine wY ?_|refine wR ?_|refine wK ?_|refine wE ?_)
   refine Qoz rfl (by simp [ht,ht2];with_reducible rfl) (by simp;with_reducible rfl) ?_ ?_
   · intro p hp
     simp only [List.mem_cons,List.not_mem_nil,or_false] at hp
     rcases hp with rfl | rfl | rfl | rfl | rfl | rfl | rfl | rfl | rfl | rfl | rfl | rfl | rfl | rfl | rfl | rfl | rfl
     · exact ⟨_,by simp [ht,ht2];with_reducible rfl,by simp⟩
     · exact ⟨_,by simp [ht,ht2];with_reducible rfl,by simp⟩
     · exact ⟨_,by simp [ht,ht2];with_reducible rfl,by simp⟩
     · exact ⟨_,by simp [ht,ht2];with_reducible rfl,by simp⟩
     · exact ⟨_,by simp [ht,ht2];with_reducible rfl,by simp⟩
     · exact ⟨_,by simp [ht,ht2];with_reducible rfl,by simp⟩
     · exact ⟨_,by simp [ht,ht2];with_reducible rfl,by simp⟩
     · exact ⟨_,by simp [ht,ht2];with_reducible rfl,by simp⟩
     · exact ⟨_,by simp [ht,ht2];with_reducible rfl,by simp⟩
     · exact ⟨_,by simp [ht,ht2];with_reducible rfl,by simp⟩
     · exact ⟨_,by simp [ht,ht2];with_reducible rfl,by simp⟩
     · exact ⟨_,by simp [ht,ht2];with_reducible rfl,by simp⟩
     · exact ⟨_,by simp [ht,ht2];with_reducible rfl,by simp⟩
     · exact ⟨_,by simp [ht,ht2];with_reducible rfl,by simp⟩
     · exact ⟨_,by simp [ht,ht2];with_reducible rfl,by simp⟩
     · exact ⟨_,by simp [ht,ht2];with_reducible rfl,by simp⟩
     · exact ⟨_,by simp [ht,ht2];with_reducible rfl,by simp⟩
   repeat (first|apply wA|apply wS|refine wr (by simp;with_reducible rfl) ?_|refine wq (by simp;with_reducible rfl) ?_|refine wt (by simpa) ?_|refine wf (by simpa) ?_|refine xt (by simpa) ?_|refine xf (by simpa) ?_|apply wB|apply Qab|refine wX ?_|refine wY ?_|refine wR ?_|refine wK ?_|refine wE ?_)
   refine Qah loop ?_
   rintro ex st ⟨rfl,B',rfl⟩
   simp only [if_true]
   repeat (first|apply wA|apply wS|refine wr (by simp;with_reducible rfl) ?_|refine wq (by simp;with_reducible rfl) ?_|refine wt (by simpa) ?_|refine wf (by simpa) ?_|refine xt (by simpa) ?_|refine xf (by simpa) ?_|apply wB|apply Qab|refine wX ?_|refine wY ?_|refine wR ?_|refine wK ?_|refine wE ?_)
   refine Qe7 (by simp [e1,hl2];with_reducible rfl) (by simp;with_reducible rfl) ?_ ?_
   · intro p hp
     simp only [List.mem_cons,List.not_mem_nil,or_false] at hp
     subst hp
     exact ⟨_,by simp [e1,hl2];with_reducible rfl,by simp⟩
   repeat (first|apply wA|apply wS|refine wr (by simp;with_reducible rfl) ?_|refine wq (by simp;with_reducible rfl) ?_|refine wt (by simpa) ?_|refine wf (by simpa) ?_|refine xt (by simpa) ?_|refine xf (by simpa) ?_|apply wB|apply Qab|refine wX ?_|refine wY ?_|refine wR ?_|refine wK ?_|refine wE ?_)
   simp [Qq4]
end Go.Idl
