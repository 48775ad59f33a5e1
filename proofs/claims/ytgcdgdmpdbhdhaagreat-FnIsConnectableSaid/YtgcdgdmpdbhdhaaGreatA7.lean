/- Part 7 of a proof by an ideal interpreter of the code: its definitions and lemmas. Conditions: none. -/
import Derived.KernelRfl
import Derived.Test.YtgcdgdmpdbhdhaaGreatA6
set_option linter.all false
set_option linter.unusedVariables false
set_option linter.unusedSimpArgs false
namespace Go.Idl
open Go
theorem Qoe (xs:List Int) (F:Lab) (caps:List IV) (M:List Qac) (p:Int→Bool) (hl:xs.length≤1000000)
 (hp:∀ x ∈ xs,Ev tb F [] (I x::caps) (M++[[]]) ⟨Bo (p x),[],M++[[]],[]⟩) :
 Ev tb Jay [0] [O xs,.fn F caps] M ⟨I (idx p 0 xs),[O xs],M,[]⟩:=by
 have loop:∀ (m i:Nat),i+m=xs.length→wp tb (.loop Jg0) { T:=[(0,O xs),(1,.fn F caps),(7,I xs.length),(8,I i)],loc:=[],M:=M }
  (fun ex st=>(ex=.exit 0∧idx p i (xs.drop i)=-1∧st={ T:=[(0,O xs),(1,.fn F caps),(7,I xs.length),(8,I xs.length),(9,Bo false)],loc:=[],M:=M }) ∨
    ex=.ret∧st={ T:=[(0,O xs),(4,I (idx p i (xs.drop i)))],loc:=[],M:=M }):=by
  intro m
  induction m with
  | zero =>
    intro i hi
    obtain ⟨h1,h2⟩:=Qcz hi
    have h3:i=xs.length:=hi
    subst h3
    refine wW ?_
    repeat (first|apply wA|apply wS|refine wr (by simp;with_reducible rfl) ?_|refine wq (by simp;with_reducible rfl) ?_|refine wt (by simpa) ?_|refine wf (by simpa) ?_|refine xt (by simpa) ?_|refine xf (by simpa) ?_|apply wB|apply Qab|refine wX ?_|refine wY ?_|refine wR ?_|refine wK ?_|refine wE ?_)
    refine .inl ⟨rfl,by rw [h2];rfl,rfl⟩
  | succ m ih =>
    intro i hi
    obtain ⟨hi2,h2,h3⟩:=Qcw hi
    have e1:=Qaa (hp _ h3)
    have w1:IntKind.i64.wrap ((i:Int)+1)=((i+1:Nat):Int):=Qa8 (by omega)
    rw [h2]
    cases hpx:p xs[i] with
    | true =>
      refine wW ?_
      repeat (first|apply wA|apply wS|refine wr (by simp [e1,hi2,w1,hpx];with_reducible rfl) ?_|refine wq (by simp [e1,hi2,w1,hpx];with_reducible rfl) ?_|refine wt (by simpa [e1,hi2,w1,hpx]) ?_|refine wf (by simpa [e1,hi2,w1,hpx]) ?_|refine xt (by simpa [e1,hi2,w1,hpx]) ?_|refine xf (by simpa [e1,hi2,w1,hpx]) ?_|apply wB|apply Qab|refine wX ?_|refine wY ?_|refine wR ?_|refine wK ?_|refine wE ?_)
      refine .inr ⟨rfl,by simp [idx,hpx]⟩
    | false =>
      refine wW ?_
      repeat (first|apply wA|apply wS|refine wr (by simp [e1,hi2,w1,hpx];with_reducible rfl) ?_|refine wq (by simp [e1,hi2,w1,hpx];with_reducible rfl) ?_|refine wt (by simpa [e1,hi2,w1,hpx]) ?_|refine wf (by simpa [e1,hi2,w1,hpx]) ?_|refine xt (by simpa [e1,hi2,w1,hpx]) ?_|refine xf (by simpa [e1,hi2,w1,hpx]) ?_|apply wB|apply Qab|refine wX ?_|refine wY ?_|refine wR ?_|refine wK ?_|refine wE ?_)
      have:=ih (i+1) (by omega)
      simp only [idx,hpx] at this ⊢
      exact this
 refine cW zt449 rfl ?_
 repeat (first|apply wA|apply wS|refine wr (by simp;with_reducible rfl) ?_|refine wq (by simp;with_reducible rfl) ?_|refine wt (by simpa) ?_|refine wf (by simpa) ?_|refine xt (by simpa) ?_|refine xf (by simpa) ?_|apply wB|apply Qab|refine wX ?_|refine wY ?_|refine wR ?_|refine wK ?_|refine wE ?_)
 refine Qaf (loop xs.length 0 (by simp)) ?_
 rintro ex st (⟨rfl,h,rfl⟩ | ⟨rfl,rfl⟩)
 · simp only [if_true]
   repeat (first|apply wA|apply wS|refine wr (by simp;with_reducible rfl) ?_|refine wq (by simp;with_reducible rfl) ?_|refine wt (by simpa) ?_|refine wf (by simpa) ?_|refine xt (by simpa) ?_|refine xf (by simpa) ?_|apply wB|apply Qab|refine wX ?_|refine wY ?_|refine wR ?_|refine wK ?_|refine wE ?_)
   simp at h
   simp [Qyv,h]
 · simp [Qyv]
theorem Qst (p:Int→Bool):∀ (xs:List Int) (i:Nat),(idx p i xs=-1∧∀ x ∈ xs,p x=false) ∨ ∃ k:Nat,∃ h:k < xs.length,idx p i xs=((i+k:Nat):Int)∧p xs[k]=true∧∀ x ∈ xs.take k,p x=false
 | [],i=>.inl ⟨rfl,by simp⟩
 | x::r,i=>by
   cases hp:p x with
   | true=>exact .inr ⟨0,by simp,by simp [idx,hp],hp,by simp⟩
   | false =>
     rcases Qst p r (i+1) with ⟨h1,h2⟩ | ⟨k,hk,h1,h2,h3⟩
     · refine .inl ⟨?_,fun y hy=>?_⟩
       · simp only [idx,hp,Bool.false_eq_true,if_false];exact h1
       · rcases List.mem_cons.1 hy with rfl | hy
         · exact hp
         · exact h2 y hy
     · refine .inr ⟨k+1,by simp;exact hk,?_,h2,fun y hy=>?_⟩
       · simp only [idx,hp,Bool.false_eq_true,if_false]
         rw [show ((i:Int)+1)=((i+1:Nat):Int) by omega,h1];omega
       · rw [List.take_succ_cons] at hy
         rcases List.mem_cons.1 hy with rfl | hy
         · exact hp
         · exact h3 y hy
theorem Jb8 (xs:List Int) (F:Lab) (caps:List IV) (M:List Qac) (p:Int→Bool) (hl:xs.length≤1000000)
 (hp:∀ x ∈ xs,Ev tb F [] (I x::caps) (M++[[]]) ⟨Bo (p x),[],M++[[]],[]⟩):∀ (m j i:Nat) (s:List Int),j+m=xs.length→i < j→s.length=xs.length→s.take i=(xs.take j).filter (fun x=>!p x)→s.drop j=xs.drop j →
 wp tb (.loop Jbe) { T:=[(0,O s),(1,.fn F caps),(5,I i),(6,I j)],loc:=[],M:=M }
  (fun ex st=>ex=.exit 0∧∃ (i:Nat) (s:List Int),(i < xs.length∧s.length=xs.length∧s.take i=xs.filter (fun x=>!p x))∧st={ T:=[(0,O s),(1,.fn F caps),(5,I i),(6,I xs.length),(19,Bo false)],loc:=[],M:=M }):=by
 intro m
 induction m with
 | zero =>
   intro j i s hj hij hs h1 h2
   have h3:j=xs.length:=hj
   subst h3
   rw [List.take_length] at h1
   refine wW ?_
   repeat (first|apply wA|apply wS|refine wr (by simp [hs];with_reducible rfl) ?_|refine wq (by simp [hs];with_reducible rfl) ?_|refine wt (by simpa [hs]) ?_|refine wf (by simpa [hs]) ?_|refine xt (by simpa [hs]) ?_|refine xf (by simpa [hs]) ?_|apply wB|apply Qab|refine wX ?_|refine wY ?_|refine wR ?_|refine wK ?_|refine wE ?_)
   exact ⟨rfl,i,s,⟨hij,hs,h1⟩,rfl⟩
 | succ m ih =>
   intro j i s hj hij hs h1 h2
   have hjl:j < xs.length:=by omega
   have hjs:j < s.length:=by omega
   have hil:i < s.length:=by omega
   have hil':i < xs.length:=by omega
   have hsj:s[j]=xs[j]:=by
    have h3:s.drop j=s[j]::s.drop (j+1):=List.drop_eq_getElem_cons hjs
    have h4:xs.drop j=xs[j]::xs.drop (j+1):=List.drop_eq_getElem_cons hjl
    rw [h3,h4] at h2
    exact (List.cons.inj h2).1
   have hd2:s.drop (j+1)=xs.drop (j+1):=by
    have h3:s.drop j=s[j]::s.drop (j+1):=List.drop_eq_getElem_cons hjs
    have h4:xs.drop j=xs[j]::xs.drop (j+1):=List.drop_eq_getElem_cons hjl
    rw [h3,h4] at h2
    exact (List.cons.inj h2).2
   have e1:=Qaa (hp _ (List.getElem_mem hjl))
   have w1:IntKind.i64.wrap ((j:Int)+1)=((j+1:Nat):Int):=Qa8 (by omega)
   have w2:IntKind.i64.wrap ((i:Int)+1)=((i+1:Nat):Int):=Qa8 (by omega)
   have ht:(xs.take (j+1)).filter (fun x=>!p x)=(xs.take j).filter (fun x=>!p x)++(if p xs[j] then [] else [xs[j]]):=by
    rw [List.take_succ_eq_append_getElem hjl,List.filter_append,List.filter_cons,List.filter_nil]
    cases p xs[j] <;> rfl
   cases hpx:p xs[j] with
   | true =>
     rw [hpx,if_pos rfl,List.append_nil] at ht
     have hn:=ih (j+1) i s (by omega) (by omega) hs (by rw [ht];exact h1) hd2
     refine wW ?_
     repeat (first|apply wA|apply wS|refine wr (by simp [hs,hjl,hjs,hsj,e1,hpx,w1];with_reducible rfl) ?_|refine wq (by simp [hs,hjl,hjs,hsj,e1,hpx,w1];with_reducible rfl) ?_|refine wt (by simpa [hs,hjl,hjs,hsj,e1,hpx,w1]) ?_|refine wf (by simpa [hs,hjl,hjs,hsj,e1,hpx,w1]) ?_|refine xt (by simpa [hs,hjl,hjs,hsj,e1,hpx,w1]) ?_|refine xf (by simpa [hs,hjl,hjs,hsj,e1,hpx,w1]) ?_|apply wB|apply Qab|refine wX ?_|refine wY ?_|refine wR ?_|refine wK ?_|refine wE ?_)
     exact hn
   | false =>
     rw [hpx,if_neg (by simp)] at ht
     have hn:=ih (j+1) (i+1) (s.set i xs[j]) (by omega) (by omega) (by simpa using hs) (by
      rw [ht,← h1,List.take_succ_eq_append_getElem (by simpa using hil),List.take_set_of_le (Nat.le_refl _),List.getElem_set_self]) (by
      rw [List.drop_set_of_lt (by omega)];exact hd2)
     refine wW ?_
     repeat (first|apply wA|apply wS|refine wr (by simp [hs,hjl,hjs,hsj,e1,hpx,w1,w2,hil,hil'];with_reducible rfl) ?_|refine wq (by simp [hs,hjl,hjs,hsj,e1,hpx,w1,w2,hil,hil'];with_reducible rfl) ?_|refine wt (by simpa [hs,hjl,hjs,hsj,e1,hpx,w1,w2,hil,hil']) ?_|refine wf (by simpa [hs,hjl,hjs,hsj,e1,hpx,w1,w2,hil,hil']) ?_|refine xt (by simpa [hs,hjl,hjs,hsj,e1,hpx,w1,w2,hil,hil']) ?_|refine xf (by simpa [hs,hjl,hjs,hsj,e1,hpx,w1,w2,hil,hil']) ?_|apply wB|apply Qab|refine wX ?_|refine wY ?_|refine wR ?_|refine wK ?_|refine wE ?_)
     exact hn
theorem Qem (xs:List Int):((Qb3 xs).all fun x=>x.all IV.isSc)=true:=by
 induction xs with
 | nil=>rfl
 | cons x xs ih=>simp only [Qb3,List.map_cons,List.all_cons] at *;rw [ih];rfl
theorem Qnu (xs:List Int) (F:Lab) (caps:List IV) (M:List Qac) (p:Int→Bool) (hl:xs.length≤1000000)
 (hp:∀ M' x,x ∈ xs→Ev tb F [] (I x::caps) (M++[[]]++M') ⟨Bo (p x),[],M++[[]]++M',[]⟩) :
 Ev tb Qwu [] [O xs,.fn F caps] M ⟨O (xs.filter fun x=>!p x),[],M,[]⟩:=by
 have e1:=Qaa (Qoe xs F caps (M++[[]]) p hl (fun x hx=>hp [[]] x hx))
 rcases Qst p xs 0 with ⟨h1,h2⟩ | ⟨k,hk,h1,h2,h3⟩
 · rw [show ((0:Nat):Int)=0 from rfl] at h1
   rw [h1] at e1
   have hf:(xs.filter fun x=>!p x)=xs:=List.filter_eq_self.2 fun x hx=>by rw [h2 x hx];rfl
   rw [hf]
   refine cW zt266 rfl ?_
   repeat (first|apply wA|apply wS|refine wr (by simp [e1];with_reducible rfl) ?_|refine wq (by simp [e1];with_reducible rfl) ?_|refine wt (by simpa [e1]) ?_|refine wf (by simpa [e1]) ?_|refine xt (by simpa [e1]) ?_|refine xf (by simpa [e1]) ?_|apply wB|apply Qab|refine wX ?_|refine wY ?_|refine wR ?_|refine wK ?_|refine wE ?_)
   simp [Qwk]
 · rw [show ((0:Nat):Int)=0 from rfl,Nat.zero_add] at h1
   rw [h1] at e1
   have hk0:¬ (k:Int)=-1:=by omega
   have w1:IntKind.i64.wrap ((k:Int)+1)=((k+1:Nat):Int):=Qa8 (by omega)
   have hlo:=Jb8 xs F caps M p hl (fun x hx=>by simpa using hp [] x hx) (xs.length - (k+1)) (k+1) k xs (by omega) (by omega) rfl (by
    rw [List.take_succ_eq_append_getElem hk,List.filter_append,List.filter_cons,h2]
    simp only [Bool.not_true,Bool.false_eq_true,if_false,List.filter_nil,List.append_nil]
    exact (List.filter_eq_self.2 fun x hx=>by rw [h3 x hx];rfl).symm) rfl
   refine cW zt266 rfl ?_
   repeat (first|apply wA|apply wS|refine wr (by simp [e1,hk0,w1];with_reducible rfl) ?_|refine wq (by simp [e1,hk0,w1];with_reducible rfl) ?_|refine wt (by simpa [e1,hk0,w1]) ?_|refine wf (by simpa [e1,hk0,w1]) ?_|refine xt (by simpa [e1,hk0,w1]) ?_|refine xf (by simpa [e1,hk0,w1]) ?_|apply wB|apply Qab|refine wX ?_|refine wY ?_|refine wR ?_|refine wK ?_|refine wE ?_)
   refine Qaf hlo ?_
   rintro ex st ⟨rfl,i,s,⟨k1,k2,k3⟩,rfl⟩
   simp only [if_true]
   have hil:i≤xs.length:=by omega
   have hz:s.drop xs.length=[]:=List.drop_of_length_le (by omega)
   have hti:(s.take i).length=i:=by simp;omega
   have hfl:(xs.filter fun x=>!p x).length=i:=by rw [← k3];exact hti
   generalize (xs.filter fun x=>!p x)=G at *
   have htk:∀ Z:List (List IV),(Qb3 G++Z).take i=Qb3 G:=fun Z=>by
    rw [List.take_append_of_le_length (by rw [Qr4];omega),List.take_of_length_le (by rw [Qr4];omega)]
   repeat (first|apply wA|apply wS|refine wr (by simp [k2,hil,↓Qem,hz,k3,hti,hfl,htk];with_reducible rfl) ?_|refine wq (by simp [k2,hil,↓Qem,hz,k3,hti,hfl,htk];with_reducible rfl) ?_|refine wt (by simpa [k2,hil,↓Qem,hz,k3,hti,hfl,htk]) ?_|refine wf (by simpa [k2,hil,↓Qem,hz,k3,hti,hfl,htk]) ?_|refine xt (by simpa [k2,hil,↓Qem,hz,k3,hti,hfl,htk]) ?_|refine xf (by simpa [k2,hil,↓Qem,hz,k3,hti,hfl,htk]) ?_|apply wB|apply Qab|refine wX ?_|refine wY ?_|refine wR ?_|refine wK ?_|refine wE ?_)
   simp [Qwk]
end Go.Idl
namespace Go.Idl
open Go
theorem Qrg:Ev tb Jny [] [Z] [] ⟨O [],[],[],[]⟩:=by
 refine cW zt71 rfl ?_
 refine Qbo (by simp;rfl) (by simp;rfl) ?_
 refine Qn6 (b:=([]:List Int).isEmpty) (by simp [Jj8];rfl) (by simp) ?_ ?_ ?_ (ex:=.ret) (st':={ T:=[(2,.own 1 (Qb3 []))],loc:=[],M:=[] })
 · refine Qfe (t:=false) (by simp) (by simp) fun _=>wS ?_
   refine Qbo (by simp;rfl) (by simp;rfl) ?_
   refine wR ?_
   simp
 · intro he
   refine Qfe (t:=true) (by simp) (fun _=>wA ?_) (by simp)
   refine Qbo (by simp;rfl) (by simp;rfl) ?_
   refine wX ?_
   simp
 · simp [zi71]
theorem Qvc:Ev tb Jda [] [Z] [] ⟨O [],[],[],[]⟩:=by
 have e1:=Qaa Qrg
 have e2:=Qaa (Qqt [])
 simp only [O,Qji] at e1 e2 ⊢
 refine cW zt31 rfl ?_
 repeat (first|apply wA|apply wS|refine wr (by simp [e1,e2];with_reducible rfl) ?_|refine wq (by simp [e1,e2];with_reducible rfl) ?_|refine wt (by simpa [e1,e2]) ?_|refine wf (by simpa [e1,e2]) ?_|refine xt (by simpa [e1,e2]) ?_|refine xf (by simpa [e1,e2]) ?_|apply wB|apply Qab|refine wX ?_|refine wY ?_|refine wR ?_|refine wK ?_|refine wE ?_)
 simp [Jqy]
def gtD (d:List Int) (a b:Int):Bool:=decide (d.getD b.toNat 0 < d.getD a.toNat 0)
def Qqj (d:List Int) (from_:List Int) (k:Nat):List Int:=(Qd0 (gtD d) [] from_).take k
theorem Qk9 (d:List Int) (c:Bool) (hd:∀ x ∈ d,-1000≤x∧x≤1000) (a b:Nat) (ha:a < d.length) (hb:b < d.length) (Es:List Qac) :
 Ev tb Qri [] [I a,I b,.bptr 0 0 0] ([[L d c]]::Es) ⟨I (d[b] - d[a]),[],[[L d c]]::Es,[]⟩:=by
 have h1:=hd _ (List.getElem_mem ha)
 have h2:=hd _ (List.getElem_mem hb)
 have w1:IntKind.i64.wrap (d[b] - d[a])=d[b] - d[a]:=Qad (by omega) (by omega)
 refine cW zt211 rfl ?_
 repeat (first|apply wA|apply wS|refine wr (by simp [ha,hb,w1];with_reducible rfl) ?_|refine wq (by simp [ha,hb,w1];with_reducible rfl) ?_|refine wt (by simpa [ha,hb,w1]) ?_|refine wf (by simpa [ha,hb,w1]) ?_|refine xt (by simpa [ha,hb,w1]) ?_|refine xf (by simpa [ha,hb,w1]) ?_|apply wB|apply Qab|refine wX ?_|refine wY ?_|refine wR ?_|refine wK ?_|refine wE ?_)
 simp [Jfo]
theorem Qpa (d:List Int) (c:Bool) (hd:∀ x ∈ d,-1000≤x∧x≤1000):Qlm vI Qri [.bptr 0 0 0] (gtD d) (fun x=>0≤x∧x < d.length) [[[L d c]],[],[]]:=by
 intro x y hx hy
 obtain ⟨a,rfl⟩:=Int.eq_ofNat_of_zero_le hx.1
 obtain ⟨b,rfl⟩:=Int.eq_ofNat_of_zero_le hy.1
 have ha:a < d.length:=by omega
 have hb:b < d.length:=by omega
 refine ⟨d[b] - d[a],?_,Qk9 d c hd a b ha hb [[],[],[]]⟩
 simp only [gtD,Int.toNat_natCast,List.getD_eq_getElem?_getD,List.getElem?_eq_getElem ha,List.getElem?_eq_getElem hb,Option.getD_some]
 rw [decide_eq_decide];omega
theorem Qmf (d from_:List Int) (k:Nat):(Qd0 (gtD d) [] from_).length=from_.length:=by
 simpa using (Qbf (gtD d) from_ []).length_eq
theorem Qj4 (d:List Int) (c:Bool) (hd:∀ x ∈ d,-1000≤x∧x≤1000) (x:IV) (from_:List Int) (hx:(∃ c',x=L from_ c') ∨ (from_=[]∧x=Z)) (hf:from_.length≤19) (hD:∀ v ∈ from_,0≤v∧v < d.length) (k:Nat) (hk:k≤from_.length) :
 Ev tb Qvy [] [L d c,x,I k] [] ⟨O (Qqj d from_ k),[],[],[]⟩:=by
 have e1:Qcg tb Jda [] [x] []=some ⟨O from_,[],[],[]⟩:=by
  rcases hx with ⟨c',rfl⟩ | ⟨rfl,rfl⟩
  · exact Qaa (Qm3 from_ c' (by omega))
  · exact Qaa Qvc
 have e2:=Qaa (Qmt Qri [.bptr 0 0 0] (gtD d) (fun x=>0≤x∧x < d.length) [[[L d c]]] (Qpa d c hd) from_ hf hD)
 have hl:=Qmf d from_ k
 unfold Qqj
 generalize Qd0 (gtD d) [] from_=s at *
 have hks:k≤s.length:=by omega
 rcases hx with ⟨c',rfl⟩ | ⟨rfl,rfl⟩
 · refine cW zt210 rfl ?_
   repeat (first|apply wA|apply wS|refine wr (by simp [e1,e2,hks];with_reducible rfl) ?_|refine wq (by simp [e1,e2,hks];with_reducible rfl) ?_|refine wt (by simpa [e1,e2,hks]) ?_|refine wf (by simpa [e1,e2,hks]) ?_|refine xt (by simpa [e1,e2,hks]) ?_|refine xf (by simpa [e1,e2,hks]) ?_|apply wB|apply Qab|refine wX ?_|refine wY ?_|refine wR ?_|refine wK ?_|refine wE ?_)
   simp [Qx7]
 · have hs:s=[]:=List.length_eq_zero_iff.1 (by simpa using hl)
   subst hs
   have hk0:k=0:=by simpa using hk
   subst hk0
   simp only [O,Qji] at e1 e2
   refine cW zt210 rfl ?_
   repeat (first|apply wA|apply wS|refine wr (by simp [e1,e2];with_reducible rfl) ?_|refine wq (by simp [e1,e2];with_reducible rfl) ?_|refine wt (by simpa [e1,e2]) ?_|refine wf (by simpa [e1,e2]) ?_|refine xt (by simpa [e1,e2]) ?_|refine xf (by simpa [e1,e2]) ?_|apply wB|apply Qab|refine wX ?_|refine wY ?_|refine wR ?_|refine wK ?_|refine wE ?_)
   simp [Qx7]
end Go.Idl
namespace Go.Idl
open Go
def Qks (v:Int):List Int→List Int→List (Int×Int)→Option (List Int×List (Int×Int))
 | [],left,es=>some (left,es)
 | i::r,left,es=>if left.getD i.toNat 0=0 then none else Qks v r (Qf6 left i.toNat) (es++[(min v i,max v i)])
def Qhi:Nat→List Int→List Int→List (Int×Int)→Option (List (Int×Int))
 | 0,_,_,es=>some es
 | m+1,left,todo,es=>match Qd0 (gtD left) [] todo with
   | []=>some es
   | v::_ =>
     if (((todo.filter fun x=>!decide (x=v)).length:Nat):Int) < left.getD v.toNat 0 then none else
     match Qks v (Qqj left (todo.filter fun x=>!decide (x=v)) (left.getD v.toNat 0).toNat) left es with
     | none=>none
     | some (left',es')=>Qhi m left' (todo.filter fun x=>!decide (x=v)) es'
theorem Qu3 (x v:Int) (B:Qac) (b:Nat) (hb:B[b]? = some [I v]) (Ms:List Qac):Ev tb Qu9 [] [I x,.bptr 0 b 0] (B::Ms) ⟨Bo (decide (x=v)),[],B::Ms,[]⟩:=by
 refine cW zt194 rfl ?_
 repeat (first|apply wA|apply wS|refine wr (by simp [hb];with_reducible rfl) ?_|refine wq (by simp [hb];with_reducible rfl) ?_|refine wt (by simpa [hb]) ?_|refine wf (by simpa [hb]) ?_|refine xt (by simpa [hb]) ?_|refine xf (by simpa [hb]) ?_|apply wB|apply Qab|refine wX ?_|refine wY ?_|refine wR ?_|refine wK ?_|refine wE ?_)
 simp [Jcs]
 rfl
theorem Qgj {α:Type} (p:α→Bool) (l:List α):(l.filter p).length+(l.filter fun a=>!p a).length=l.length:=by
 induction l with
 | nil=>rfl
 | cons a l ih=>simp only [List.filter_cons];cases p a <;> simp <;> omega
theorem Qjh {tb:Tbl} {ops:List IOp} {live:List Nat} {c rest:IC} {s1 s2 t t1 t2:St} {Q:Ex→St→Prop} (h1:Qai (Qcg tb) s1 ops=some t1) (c1:t1.cut live=t) (h2:Qai (Qcg tb) s2 ops=some t2) (c2:t2.cut live=t)
 (h:wp tb (.loop (.seq (.seq (.reg ops live []) c) rest)) s1 Q):wp tb (.loop (.seq (.seq (.reg ops live []) c) rest)) s2 Q:=by
 simp only [wp] at h ⊢
 obtain ⟨k,hk⟩:=h
 refine ⟨k,?_⟩
 cases k with
 | zero=>exact hk
 | succ k =>
   simp only [Qnp] at hk ⊢
   obtain ⟨st1,q1,q2,q3⟩:=hk
   rw [h1] at q1
   cases q1
   rw [c1,← c2] at q3
   exact ⟨t2,h2,by simp,q3⟩
def Jf8 (st:St):Prop:=∃ Bx:Qac,st={ T:=[(2,.bptr 0 0 0),(3,Bo false)],loc:=[I 0,Z]::Bx,M:=[] }
theorem rl_in (d:List Int) (c:Bool) (n:Nat) (hn:n≤7) (v:Nat) (todo:IV) (htd:∃ t,todo=O t) (Qcl:List Int) (htl:Qcl.length≤100) (ht:∀ x ∈ Qcl,0≤x∧x < n) (B:Qac) (b:Nat) (hb:B[b]? = some [I v]) :
 ∀ (m j:Nat) (left:List Int) (es:List (Int×Int)),j+m=Qcl.length→left.length=n→(∀ x ∈ left,0≤x∧x≤1000)→es.length+m≤100000 →
 wp tb (.loop Qzi) { T:=[(0,L d c),(2,.bptr 0 0 0),(4,O left),(5,todo),(6,nl2 es),(7,.bptr 0 (b+1) 0),(44,O Qcl),(45,I Qcl.length),(46,I j)],loc:=[I 0,Z]::B,M:=[] }
  (fun ex st=>match Qks v (Qcl.drop j) left es with
    | none=>ex=.ret∧Jf8 st
    | some (left',es')=>ex=.exit 2∧st={ T:=[(0,L d c),(2,.bptr 0 0 0),(4,O left'),(5,todo),(6,nl2 es'),(7,.bptr 0 (b+1) 0),(44,O Qcl),(45,I Qcl.length),(46,I Qcl.length),(47,Bo false)],loc:=[I 0,Z]::B,M:=[] }):=by
 obtain ⟨t,rfl⟩:=htd
 intro m
 induction m with
 | zero =>
   intro j left es hj hl hb2 hes
   obtain ⟨h1,h2⟩:=Qcz hj
   have h3:j=Qcl.length:=hj
   subst h3
   rw [h2]
   cases es with
   | nil =>
     rw [Qdo]
     refine wW ?_
     repeat (first|apply wA|apply wS|refine wr (by simp;with_reducible rfl) ?_|refine wq (by simp;with_reducible rfl) ?_|refine wt (by simpa) ?_|refine wf (by simpa) ?_|refine xt (by simpa) ?_|refine xf (by simpa) ?_|apply wB|apply Qab|refine wX ?_|refine wY ?_|refine wR ?_|refine wK ?_|refine wE ?_)
     exact ⟨rfl,rfl⟩
   | cons e es =>
     rw [Qc0]
     refine wW ?_
     repeat (first|apply wA|apply wS|refine wr (by simp;with_reducible rfl) ?_|refine wq (by simp;with_reducible rfl) ?_|refine wt (by simpa) ?_|refine wf (by simpa) ?_|refine xt (by simpa) ?_|refine xf (by simpa) ?_|apply wB|apply Qab|refine wX ?_|refine wY ?_|refine wR ?_|refine wK ?_|refine wE ?_)
     exact ⟨rfl,rfl⟩
 | succ m ih =>
   intro j left es hj hl hb2 hes
   obtain ⟨hjl,h2,h3⟩:=Qcw hj
   have hti:=ht _ h3
   obtain ⟨i,hi⟩:=Int.eq_ofNat_of_zero_le hti.1
   have hil:i < left.length:=by omega
   have hin:i < n:=by omega
   have gi:left.getD i 0=left[i]:=by simp [List.getD_eq_getElem?_getD,List.getElem?_eq_getElem hil]
   have hti2:Qcl[j].toNat=i:=by omega
   have bi:=hb2 _ (List.getElem_mem hil)
   rw [h2,Qks,hti2,gi]
   by_cases h0:left[i]=0
   · rw [if_pos h0]
     cases es with
     | nil =>
       rw [Qdo]
       refine wW ?_
       repeat (first|apply wA|apply wS|refine wr (by simp [hjl,hi,hil,hin,hl,h0];with_reducible rfl) ?_|refine wq (by simp [hjl,hi,hil,hin,hl,h0];with_reducible rfl) ?_|refine wt (by simpa [hjl,hi,hil,hin,hl,h0]) ?_|refine wf (by simpa [hjl,hi,hil,hin,hl,h0]) ?_|refine xt (by simpa [hjl,hi,hil,hin,hl,h0]) ?_|refine xf (by simpa [hjl,hi,hil,hin,hl,h0]) ?_|apply wB|apply Qab|refine wX ?_|refine wY ?_|refine wR ?_|refine wK ?_|refine wE ?_)
       exact ⟨rfl,_,rfl⟩
     | cons e es =>
       rw [Qc0]
       refine wW ?_
       repeat (first|apply wA|apply wS|refine wr (by simp [hjl,hi,hil,hin,hl,h0];with_reducible rfl) ?_|refine wq (by simp [hjl,hi,hil,hin,hl,h0];with_reducible rfl) ?_|refine wt (by simpa [hjl,hi,hil,hin,hl,h0]) ?_|refine wf (by simpa [hjl,hi,hil,hin,hl,h0]) ?_|refine xt (by simpa [hjl,hi,hil,hin,hl,h0]) ?_|refine xf (by simpa [hjl,hi,hil,hin,hl,h0]) ?_|apply wB|apply Qab|refine wX ?_|refine wY ?_|refine wR ?_|refine wK ?_|refine wE ?_)
       exact ⟨rfl,_,rfl⟩
   · rw [if_neg h0]
     have hd:Qf6 left i=left.set i (left[i] - 1):=by rw [Qf6,gi]
     have w1:IntKind.i64.wrap (left[i] - 1)=left[i] - 1:=Qad (by omega) (by omega)
     have w2:IntKind.i64.wrap ((j:Int)+1)=((j+1:Nat):Int):=Qa8 (by omega)
     have e1:=Qaa (Qjx (v:Int) (i:Int) [])
     have hn2:=ih (j+1) (Qf6 left i) (es++[(min (v:Int) Qcl[j],max (v:Int) Qcl[j])]) (by omega) (by simp [Qf6,hl]) (by
      rw [hd]
      intro x hx
      rcases List.mem_or_eq_of_mem_set hx with hx | rfl
      · exact hb2 x hx
      · omega) (by simp;omega)
     rw [hd] at hn2 ⊢
     rw [Jkp,hi] at hn2
     rw [hi]
     cases es with
     | nil =>
       rw [Qdo]
       rw [List.nil_append] at hn2
       refine wW ?_
       repeat (first|apply wA|apply wS|refine wr (by simp [hjl,hi,hil,hin,hl,h0,w1,w2,e1,hb];with_reducible rfl) ?_|refine wq (by simp [hjl,hi,hil,hin,hl,h0,w1,w2,e1,hb];with_reducible rfl) ?_|refine wt (by simpa [hjl,hi,hil,hin,hl,h0,w1,w2,e1,hb]) ?_|refine wf (by simpa [hjl,hi,hil,hin,hl,h0,w1,w2,e1,hb]) ?_|refine xt (by simpa [hjl,hi,hil,hin,hl,h0,w1,w2,e1,hb]) ?_|refine xf (by simpa [hjl,hi,hil,hin,hl,h0,w1,w2,e1,hb]) ?_|apply wB|apply Qab|refine wX ?_|refine wY ?_|refine wR ?_|refine wK ?_|refine wE ?_)
       exact hn2
     | cons e es =>
       rw [Qc0]
       have hel:es.length+1+1≤274877906944:=by simp at hes;omega
       have het:(e::es).take (es.length+1)=e::es:=List.take_of_length_le (by simp)
       refine wW ?_
       repeat (first|apply wA|apply wS|refine wr (by simp [hjl,hi,hil,hin,hl,h0,w1,w2,e1,hb,hel,het];with_reducible rfl) ?_|refine wq (by simp [hjl,hi,hil,hin,hl,h0,w1,w2,e1,hb,hel,het];with_reducible rfl) ?_|refine wt (by simpa [hjl,hi,hil,hin,hl,h0,w1,w2,e1,hb,hel,het]) ?_|refine wf (by simpa [hjl,hi,hil,hin,hl,h0,w1,w2,e1,hb,hel,het]) ?_|refine xt (by simpa [hjl,hi,hil,hin,hl,h0,w1,w2,e1,hb,hel,het]) ?_|refine xf (by simpa [hjl,hi,hil,hin,hl,h0,w1,w2,e1,hb,hel,het]) ?_|apply wB|apply Qab|refine wX ?_|refine wY ?_|refine wR ?_|refine wK ?_|refine wE ?_)
       exact hn2
theorem Qg0 (v:Int):∀ (Qcl left:List Int) (es:List (Int×Int)) (left':List Int) (es':List (Int×Int)),Qks v Qcl left es=some (left',es')→(∀ x ∈ left,0≤x∧x≤1000) →
 left'.length=left.length∧(∀ x ∈ left',0≤x∧x≤1000)∧es'=es++Qcl.map fun i=>(min v i,max v i)
 | [],left,es,left',es',h,hb=>by
   simp only [Qks,Qoi,Qpi] at h
   obtain ⟨rfl,rfl⟩:=h
   exact ⟨rfl,hb,by simp⟩
 | i::r,left,es,left',es',h,hb=>by
   rw [Qks] at h
   split at h
   · cases h
   · rename_i h0
     obtain ⟨k1,k2,k3⟩:=Qg0 v r _ _ _ _ h (by
      intro x hx
      rcases List.mem_or_eq_of_mem_set hx with hx | rfl
      · exact hb x hx
      · have hg:∀ y,left[i.toNat]? = some y→0≤y∧y≤1000:=fun y hy=>hb y (List.mem_of_getElem? hy)
        rw [List.getD_eq_getElem?_getD] at h0 ⊢
        cases hq:left[i.toNat]? with
        | none=>rw [hq] at h0;simp at h0
        | some y =>
          rw [hq] at h0
          have:=hg y hq
          simp only [Option.getD_some] at h0 ⊢
          omega)
     exact ⟨by rw [k1];simp [Qf6],k2,by rw [k3];simp⟩
theorem Jxb (d:List Int) (c:Bool) (n:Nat) (hn:n≤7):∀ (m:Nat) (left todo:List Int) (es:List (Int×Int)) (Bx:Qac),todo.length≤m→left.length=n→(∀ x ∈ left,0≤x∧x≤1000)→(∀ x ∈ todo,0≤x∧x < n)→todo.length≤7→es.length+10 * m≤1000 →
 wp tb (.loop Qrk) { T:=[(0,L d c),(2,.bptr 0 0 0),(4,O left),(5,O todo),(6,nl2 es)],loc:=[I 0,Z]::Bx,M:=[] }
  (fun ex st=>match Qhi m left todo es with
    | none=>ex=.ret∧Jf8 st
    | some es'=>ex=.exit 0∧∃ (left' todo':List Int) (Bx':Qac),st={ T:=[(0,L d c),(2,.bptr 0 0 0),(4,O left'),(5,O todo'),(6,nl2 es'),(21,Bo false)],loc:=[I 0,Z]::Bx',M:=[] }):=by
 have done:∀ (left todo:List Int) (es:List (Int×Int)) (Bx:Qac),todo.length=0→wp tb (.loop Qrk) { T:=[(0,L d c),(2,.bptr 0 0 0),(4,O left),(5,O todo),(6,nl2 es)],loc:=[I 0,Z]::Bx,M:=[] }
  (fun ex st=>ex=.exit 0∧∃ (left' todo':List Int) (Bx':Qac),st={ T:=[(0,L d c),(2,.bptr 0 0 0),(4,O left'),(5,O todo'),(6,nl2 es),(21,Bo false)],loc:=[I 0,Z]::Bx',M:=[] }):=by
  intro left todo es Bx h0
  have h0':todo=[]:=List.length_eq_zero_iff.1 h0
  cases es with
  | nil =>
    rw [Qdo]
    refine wW ?_
    repeat (first|apply wA|apply wS|refine wr (by simp [h0];with_reducible rfl) ?_|refine wq (by simp [h0];with_reducible rfl) ?_|refine wt (by simpa [h0]) ?_|refine wf (by simpa [h0]) ?_|refine xt (by simpa [h0]) ?_|refine xf (by simpa [h0]) ?_|apply wB|apply Qab|refine wX ?_|refine wY ?_|refine wR ?_|refine wK ?_|refine wE ?_)
    exact ⟨rfl,left,todo,Bx,rfl⟩
  | cons e es =>
    rw [Qc0]
    refine wW ?_
    repeat (first|apply wA|apply wS|refine wr (by simp [h0];with_reducible rfl) ?_|refine wq (by simp [h0];with_reducible rfl) ?_|refine wt (by simpa [h0]) ?_|refine wf (by simpa [h0]) ?_|refine xt (by simpa [h0]) ?_|refine xf (by simpa [h0]) ?_|apply wB|apply Qab|refine wX ?_|refine wY ?_|refine wR ?_|refine wK ?_|refine wE ?_)
    exact ⟨rfl,left,todo,Bx,rfl⟩
 intro m
 induction m with
 | zero =>
   intro left todo es Bx hm hl hb ht ht7 hes
   exact done left todo es Bx (by omega)
 | succ m ih =>
   intro left todo es Bx hm hl hb ht ht7 hes
   rw [Qhi]
   have hsl:=Qmf left todo 1
   cases hs:Qd0 (gtD left) [] todo with
   | nil =>
     rw [hs] at hsl
     exact done left todo es Bx (by simpa using hsl.symm)
   | cons v r =>
   simp only
   rw [hs] at hsl
   have htl:1≤todo.length:=by simp at hsl;omega
   have hv:v ∈ todo:=by
    have:=(Qbf (gtD left) todo []).mem_iff (a:=v)
    rw [hs] at this
    simpa using this.1 (by simp)
   have hvb:=ht v hv
   obtain ⟨p,rfl⟩:=Int.eq_ofNat_of_zero_le hvb.1
   have hpn:p < n:=by omega
   have hpl:p < left.length:=by omega
   have hb':∀ x ∈ left,-1000≤x∧x≤1000:=fun x hx=>by have:=hb x hx;omega
   have g1:=fun cc c1=>Qaa (Qj4 left cc hb' (L todo c1) todo (.inl ⟨c1,rfl⟩) (by omega) (fun x hx=>by rw [hl];exact ht x hx) 1 htl)
   have ht1:Qqj left todo 1=[(p:Int)]:=by rw [Qqj,hs];rfl
   rw [ht1] at g1
   rw [show ((1:Nat):Int)=1 from rfl] at g1
   obtain ⟨t2,ht2⟩:∃ t2,t2=todo.filter fun x=>!decide (x=(p:Int)):=⟨_,rfl⟩
   have hdel:=Qaa (Qnu todo Qu9 [.bptr 0 (Bx.length+1) 0] [[I 0,Z]::(Bx++[[I p]])] (fun x=>decide (x=(p:Int))) (by omega) (fun M' x _=>by
    rw [show [[I 0,Z]::(Bx++[[I (p:Int)]])]++[[]]++M'=([I 0,Z]::(Bx++[[I (p:Int)]]))::([[]]++M') from rfl]
    exact Qu3 x p ([I 0,Z]::(Bx++[[I p]])) (Bx.length+1) (by simp) ([[]]++M')))
   rw [← ht2] at hdel ⊢
   have ht2m:∀ x ∈ t2,0≤x∧x < n:=fun x hx=>ht x (by rw [ht2] at hx;exact (List.mem_filter.1 hx).1)
   have ht2l:t2.length < todo.length:=by
    rw [ht2]
    have h1:=Qgj (fun x=>!decide (x=(p:Int))) todo
    have h2:(p:Int) ∈ todo.filter (fun a=>!!decide (a=(p:Int))):=List.mem_filter.2 ⟨hv,by simp⟩
    have:=List.length_pos_of_mem h2
    omega
   have gp:left.getD p 0=left[p]:=by simp [List.getD_eq_getElem?_getD,List.getElem?_eq_getElem hpl]
   have htp:(p:Int).toNat=p:=by simp
   rw [htp,gp]
   have bp:=hb _ (List.getElem_mem hpl)
   have htot:todo.take todo.length=todo:=List.take_of_length_le (Nat.le_refl _)
   have hlt:left.take n=left:=List.take_of_length_le (by omega)
   have hgt0:(0:Int) < (todo.length:Int):=by omega
   have hgt0':0 < todo.length:=by omega
   by_cases hfew:(t2.length:Int) < left[p]
   · rw [if_pos hfew]
     rcases es with _ | ⟨e,es⟩
     · rw [Qdo]
       refine wW ?_
       repeat (first|apply wA|apply wS|refine wr (by simp [hgt0,hgt0',g1,hdel,hpl,hpn,hl,hfew,htot,hlt];with_reducible rfl) ?_|refine wq (by simp [hgt0,hgt0',g1,hdel,hpl,hpn,hl,hfew,htot,hlt];with_reducible rfl) ?_|refine wt (by simpa [hgt0,hgt0',g1,hdel,hpl,hpn,hl,hfew,htot,hlt]) ?_|refine wf (by simpa [hgt0,hgt0',g1,hdel,hpl,hpn,hl,hfew,htot,hlt]) ?_|refine xt (by simpa [hgt0,hgt0',g1,hdel,hpl,hpn,hl,hfew,htot,hlt]) ?_|refine xf (by simpa [hgt0,hgt0',g1,hdel,hpl,hpn,hl,hfew,htot,hlt]) ?_|apply wB|apply Qab|refine wX ?_|refine wY ?_|refine wR ?_|refine wK ?_|refine wE ?_)
       exact ⟨rfl,_,rfl⟩
     · rw [Qc0]
       refine wW ?_
       repeat (first|apply wA|apply wS|refine wr (by simp [hgt0,hgt0',g1,hdel,hpl,hpn,hl,hfew,htot,hlt];with_reducible rfl) ?_|refine wq (by simp [hgt0,hgt0',g1,hdel,hpl,hpn,hl,hfew,htot,hlt];with_reducible rfl) ?_|refine wt (by simpa [hgt0,hgt0',g1,hdel,hpl,hpn,hl,hfew,htot,hlt]) ?_|refine wf (by simpa [hgt0,hgt0',g1,hdel,hpl,hpn,hl,hfew,htot,hlt]) ?_|refine xt (by simpa [hgt0,hgt0',g1,hdel,hpl,hpn,hl,hfew,htot,hlt]) ?_|refine xf (by simpa [hgt0,hgt0',g1,hdel,hpl,hpn,hl,hfew,htot,hlt]) ?_|apply wB|apply Qab|refine wX ?_|refine wY ?_|refine wR ?_|refine wK ?_|refine wE ?_)
       exact ⟨rfl,_,rfl⟩
   rw [if_neg hfew]
   obtain ⟨k,hk⟩:=Int.eq_ofNat_of_zero_le bp.1
   have hkl:k≤t2.length:=by omega
   rw [hk] at hfew
   rw [hk,show ((k:Int)).toNat=k by simp]
   have g2:=fun cc c1=>Qaa (Qj4 left cc hb' (L t2 c1) t2 (.inl ⟨c1,rfl⟩) (by omega) (fun x hx=>by rw [hl];exact ht2m x hx) k hkl)
   have htopm:∀ x ∈ Qqj left t2 k,0≤x∧x < n:=fun x hx=>ht2m x (by
    have:=List.mem_of_mem_take hx
    simpa using (Qbf (gtD left) t2 []).mem_iff.1 this)
   have htopl:(Qqj left t2 k).length≤7:=by
    rw [Qqj,List.length_take,Qmf left t2 k];omega
   have hlo:=rl_in d c n hn p (O t2) ⟨t2,rfl⟩ (Qqj left t2 k) (by omega) htopm (Bx++[[I p]]) Bx.length (by simp) (Qqj left t2 k).length 0 left es (by simp) hl hb (by omega)
   rw [List.drop_zero,show ((0:Nat):Int)=0 from rfl] at hlo
   generalize Qqj left t2 k=Qcl at *
   have ht2t:t2.take t2.length=t2:=List.take_of_length_le (Nat.le_refl _)
   cases hlay:Qks p Qcl left es with
   | none =>
     simp only [hlay] at hlo
     simp only
     rcases es with _ | ⟨e,es⟩
     · rw [Qdo] at hlo ⊢
       refine wW ?_
       repeat (first|apply wA|apply wS|refine wr (by simp [hgt0,hgt0',g1,g2,hdel,hpl,hpn,hl,hk,hfew,htot,hlt,ht2t];with_reducible rfl) ?_|refine wq (by simp [hgt0,hgt0',g1,g2,hdel,hpl,hpn,hl,hk,hfew,htot,hlt,ht2t];with_reducible rfl) ?_|refine wt (by simpa [hgt0,hgt0',g1,g2,hdel,hpl,hpn,hl,hk,hfew,htot,hlt,ht2t]) ?_|refine wf (by simpa [hgt0,hgt0',g1,g2,hdel,hpl,hpn,hl,hk,hfew,htot,hlt,ht2t]) ?_|refine xt (by simpa [hgt0,hgt0',g1,g2,hdel,hpl,hpn,hl,hk,hfew,htot,hlt,ht2t]) ?_|refine xf (by simpa [hgt0,hgt0',g1,g2,hdel,hpl,hpn,hl,hk,hfew,htot,hlt,ht2t]) ?_|apply wB|apply Qab|refine wX ?_|refine wY ?_|refine wR ?_|refine wK ?_|refine wE ?_)
       refine Qaf hlo ?_
       rintro ex st ⟨rfl,hf⟩
       exact ⟨rfl,hf⟩
     · rw [Qc0] at hlo ⊢
       refine wW ?_
       repeat (first|apply wA|apply wS|refine wr (by simp [hgt0,hgt0',g1,g2,hdel,hpl,hpn,hl,hk,hfew,htot,hlt,ht2t];with_reducible rfl) ?_|refine wq (by simp [hgt0,hgt0',g1,g2,hdel,hpl,hpn,hl,hk,hfew,htot,hlt,ht2t];with_reducible rfl) ?_|refine wt (by simpa [hgt0,hgt0',g1,g2,hdel,hpl,hpn,hl,hk,hfew,htot,hlt,ht2t]) ?_|refine wf (by simpa [hgt0,hgt0',g1,g2,hdel,hpl,hpn,hl,hk,hfew,htot,hlt,ht2t]) ?_|refine xt (by simpa [hgt0,hgt0',g1,g2,hdel,hpl,hpn,hl,hk,hfew,htot,hlt,ht2t]) ?_|refine xf (by simpa [hgt0,hgt0',g1,g2,hdel,hpl,hpn,hl,hk,hfew,htot,hlt,ht2t]) ?_|apply wB|apply Qab|refine wX ?_|refine wY ?_|refine wR ?_|refine wK ?_|refine wE ?_)
       refine Qaf hlo ?_
       rintro ex st ⟨rfl,hf⟩
       exact ⟨rfl,hf⟩
   | some q =>
     obtain ⟨left',es'⟩:=q
     simp only [hlay] at hlo
     simp only
     obtain ⟨q1,q2,q3⟩:=Qg0 p Qcl left es left' es' hlay hb
     have hn2:=ih left' t2 es' (Bx++[[I p]]) (by omega) (by omega) q2 ht2m (by omega) (by rw [q3];simp;omega)
     rcases es with _ | ⟨e,es⟩
     · rw [Qdo] at hlo ⊢
       refine wW ?_
       repeat (first|apply wA|apply wS|refine wr (by simp [hgt0,hgt0',g1,g2,hdel,hpl,hpn,hl,hk,hfew,htot,hlt,ht2t];with_reducible rfl) ?_|refine wq (by simp [hgt0,hgt0',g1,g2,hdel,hpl,hpn,hl,hk,hfew,htot,hlt,ht2t];with_reducible rfl) ?_|refine wt (by simpa [hgt0,hgt0',g1,g2,hdel,hpl,hpn,hl,hk,hfew,htot,hlt,ht2t]) ?_|refine wf (by simpa [hgt0,hgt0',g1,g2,hdel,hpl,hpn,hl,hk,hfew,htot,hlt,ht2t]) ?_|refine xt (by simpa [hgt0,hgt0',g1,g2,hdel,hpl,hpn,hl,hk,hfew,htot,hlt,ht2t]) ?_|refine xf (by simpa [hgt0,hgt0',g1,g2,hdel,hpl,hpn,hl,hk,hfew,htot,hlt,ht2t]) ?_|apply wB|apply Qab|refine wX ?_|refine wY ?_|refine wR ?_|refine wK ?_|refine wE ?_)
       refine Qaf hlo ?_
       rintro ex st ⟨rfl,rfl⟩
       simp only [if_true]
       cases es' with
       | nil =>
         rw [Qdo] at hn2 ⊢
         exact Qjh (by simp;with_reducible rfl) rfl (by simp;with_reducible rfl) (by simp) hn2
       | cons e' es' =>
         rw [Qc0] at hn2 ⊢
         exact Qjh (by simp;with_reducible rfl) rfl (by simp;with_reducible rfl) (by simp) hn2
     · rw [Qc0] at hlo ⊢
       refine wW ?_
       repeat (first|apply wA|apply wS|refine wr (by simp [hgt0,hgt0',g1,g2,hdel,hpl,hpn,hl,hk,hfew,htot,hlt,ht2t];with_reducible rfl) ?_|refine wq (by simp [hgt0,hgt0',g1,g2,hdel,hpl,hpn,hl,hk,hfew,htot,hlt,ht2t];with_reducible rfl) ?_|refine wt (by simpa [hgt0,hgt0',g1,g2,hdel,hpl,hpn,hl,hk,hfew,htot,hlt,ht2t]) ?_|refine wf (by simpa [hgt0,hgt0',g1,g2,hdel,hpl,hpn,hl,hk,hfew,htot,hlt,ht2t]) ?_|refine xt (by simpa [hgt0,hgt0',g1,g2,hdel,hpl,hpn,hl,hk,hfew,htot,hlt,ht2t]) ?_|refine xf (by simpa [hgt0,hgt0',g1,g2,hdel,hpl,hpn,hl,hk,hfew,htot,hlt,ht2t]) ?_|apply wB|apply Qab|refine wX ?_|refine wY ?_|refine wR ?_|refine wK ?_|refine wE ?_)
       refine Qaf hlo ?_
       rintro ex st ⟨rfl,rfl⟩
       simp only [if_true]
       cases es' with
       | nil =>
         rw [Qdo] at hn2 ⊢
         exact Qjh (by simp;with_reducible rfl) rfl (by simp;with_reducible rfl) (by simp) hn2
       | cons e' es' =>
         rw [Qc0] at hn2 ⊢
         exact Qjh (by simp;with_reducible rfl) rfl (by simp;with_reducible rfl) (by simp) hn2
end Go.Idl
namespace Go.Idl
open Go
theorem Qgi (n:Nat):∀ (m:Nat) (left todo:List Int) (es es':List (Int×Int)),Qhi m left todo es=some es'→todo.Nodup→(∀ x ∈ todo,0≤x∧x < n) →
 ∃ new:List (Int×Int),es'=es++new∧new.Nodup∧∀ e ∈ new,e ∈ prs n∧e.1 ∈ todo∧e.2 ∈ todo
 | 0,left,todo,es,es',h,_,_=>by
   simp only [Qhi,Qoi] at h
   exact ⟨[],by simp [h],.nil,by simp⟩
 | m+1,left,todo,es,es',h,hn,hb=>by
   rw [Qhi] at h
   cases hs:Qd0 (gtD left) [] todo with
   | nil =>
     rw [hs] at h
     simp only [Qoi] at h
     exact ⟨[],by simp [h],.nil,by simp⟩
   | cons v r =>
     rw [hs] at h
     simp only at h
     split at h
     · cases h
     obtain ⟨t2,ht2⟩:∃ t2,t2=todo.filter fun x=>!decide (x=v):=⟨_,rfl⟩
     rw [← ht2] at h
     obtain ⟨Qcl,htops⟩:∃ Qcl,Qcl=Qqj left t2 (left.getD v.toNat 0).toNat:=⟨_,rfl⟩
     rw [← htops] at h
     cases hl:Qks v Qcl left es with
     | none=>rw [hl] at h;cases h
     | some q =>
       obtain ⟨left',es1⟩:=q
       rw [hl] at h
       simp only at h
       have hes1:es1=es++Qcl.map fun i=>(min v i,max v i):=by
        have:∀ (Qcl left:List Int) (es:List (Int×Int)) (left':List Int) (es1:List (Int×Int)),Qks v Qcl left es=some (left',es1)→es1=es++Qcl.map fun i=>(min v i,max v i):=by
         intro Qcl
         induction Qcl with
         | nil=>intro left es left' es1 h;simp only [Qks,Qoi,Qpi] at h;simp [h.2]
         | cons i r ih =>
           intro left es left' es1 h
           rw [Qks] at h
           split at h
           · cases h
           · rw [ih _ _ _ _ h];simp
        exact this _ _ _ _ _ hl
       have hv:v ∈ todo:=by
        have:=(Qbf (gtD left) todo []).mem_iff (a:=v)
        rw [hs] at this
        simpa using this.1 (by simp)
       have ht2n:t2.Nodup:=by rw [ht2];exact hn.filter _
       have ht2m:∀ x ∈ t2,x ∈ todo∧x ≠ v:=fun x hx=>by
        rw [ht2] at hx
        have:=List.mem_filter.1 hx
        exact ⟨this.1,by simpa using this.2⟩
       have htm:∀ x ∈ Qcl,x ∈ t2:=fun x hx=>by
        rw [htops] at hx
        simpa using (Qbf (gtD left) t2 []).mem_iff.1 (List.mem_of_mem_take hx)
       have htn:Qcl.Nodup:=by
        rw [htops]
        have:(Qd0 (gtD left) [] t2).Nodup:=(Qbf (gtD left) t2 []).nodup_iff.2 (by simpa using ht2n)
        exact this.sublist (List.take_sublist _ _)
       obtain ⟨new,k1,k2,k3⟩:=Qgi n m left' t2 es1 es' h ht2n (fun x hx=>hb x (ht2m x hx).1)
       have hvb:=hb v hv
       refine ⟨(Qcl.map fun i=>(min v i,max v i))++new,by rw [k1,hes1];simp,List.nodup_append.2 ⟨?_,k2,?_⟩,?_⟩
       · rw [List.Nodup,List.pairwise_map]
         refine List.Pairwise.imp_of_mem (fun {i j} hi hj hij he=>?_) htn
         have h1:=(ht2m i (htm i hi)).2
         have h2:=(ht2m j (htm j hj)).2
         simp only [Qpi] at he
         omega
       · intro e he e' he' hee
         subst hee
         obtain ⟨i,hi,rfl⟩:=List.mem_map.1 he
         obtain ⟨-,h1,h2⟩:=k3 _ he'
         have h3:=(ht2m _ h1).2
         have h4:=(ht2m _ h2).2
         simp only at h3 h4
         omega
       · intro e he
         rcases List.mem_append.1 he with he | he
         · obtain ⟨i,hi,rfl⟩:=List.mem_map.1 he
           have h1:=ht2m i (htm i hi)
           have h2:=hb i h1.1
           refine ⟨Qan.2 ?_,?_,?_⟩
           · simp only;omega
           · simp only
             rcases Int.le_total v i with h | h
             · rw [Int.min_eq_left h];exact hv
             · rw [Int.min_eq_right h];exact h1.1
           · simp only
             rcases Int.le_total v i with h | h
             · rw [Int.max_eq_right h];exact h1.1
             · rw [Int.max_eq_left h];exact hv
         · obtain ⟨h1,h2,h3⟩:=k3 e he
           exact ⟨h1,(ht2m _ h2).1,(ht2m _ h3).1⟩
theorem Qbl (n:Nat):Qc2 n (-1)=(List.range n).map fun v:Nat=>(v:Int):=by
 rw [Qc2]
 refine List.filter_eq_self.2 fun x hx=>?_
 obtain ⟨v,_,rfl⟩:=List.mem_map.1 hx
 simp
def Qh5 (d:List Int):Option (List (Int×Int)):=Qhi d.length d (Qc2 d.length (-1)) []
theorem Qn4 {d:List Int} (h7:d.length≤7) {es:List (Int×Int)} (h:Qh5 d=some es):es.Nodup∧(∀ e ∈ es,e ∈ prs d.length)∧es.length≤21∧Qax d.length (Qgm es)=true:=by
 have hn:(Qc2 d.length (-1)).Nodup:=by
  rw [Qbl,List.Nodup,List.pairwise_map]
  exact List.nodup_range.imp fun h e=>h (by omega)
 have hb:∀ x ∈ Qc2 d.length (-1),0≤x∧x < (d.length:Int):=fun x hx=>by
  rw [Qbl] at hx
  obtain ⟨v,hv,rfl⟩:=List.mem_map.1 hx
  have:=List.mem_range.1 hv
  omega
 obtain ⟨new,k1,k2,k3⟩:=Qgi d.length _ _ _ _ _ h hn hb
 rw [List.nil_append] at k1
 subst k1
 have hvg:Qax d.length (Qgm es)=true:=Qa9.2 ⟨Qki k2,fun e he=>(k3 e ((Qbv es).mem_iff.1 he)).1,h7⟩
 refine ⟨k2,fun e he=>(k3 e he).1,?_,hvg⟩
 have h1:=(Qsa hvg).length_le
 have h2:∀ n,n≤7→(prs n).length≤21:=by decide +kernel
 have h3:=(Qbv es).length_eq
 have:=h2 _ h7
 omega
abbrev RR (n:Nat) (o:Option (List (Int×Int))):IV:=match o with
 | none=>.tup [.agg [I 0,Z],Bo false]
 | some es=>.tup [OG n (Qgm es),Bo true]
theorem Qh8 (d:List Int) (c:Bool) (hv:Qcm d=true):Ev tb Qva [] [L d c] [] ⟨RR d.length (Qh5 d),[],[],[]⟩:=by
 have hf:=Qbw hv
 have h7:=hf.1
 have e1:=Qaa (Qcn d c (by omega))
 rw [hv] at e1
 have e2:=Qaa (Qm3 d c (by omega))
 have e3:=Qaa (Qf3 d.length (-1) (by omega))
 by_cases h0:d.length=0
 · have hd:d=[]:=List.length_eq_zero_iff.1 h0
   subst hd
   have e4:=Qaa (show Ev tb Qp0 [] [I 0,Z] [] ⟨OG 0 (Qgm []),[],[],[]⟩ from Qn2 0 0 [] true (.inr rfl) (by simp) .nil (by simp))
   rw [show Qc2 ([]:List Int).length (-1)=[] from rfl,show nlI []=Z from rfl,show ((([]:List Int).length:Nat):Int)=0 from rfl] at e3
   simp only [L,O,Qji] at e1 e2
   show Ev tb Qva [] [L [] c] [] ⟨.tup [OG 0 (Qgm []),Bo true],[],[],[]⟩
   simp only [L,Qji]
   refine cW Jcf rfl ?_
   repeat (first|apply wA|apply wS|refine wr (by simp [e1,e2,e3];with_reducible rfl) ?_|refine wq (by simp [e1,e2,e3];with_reducible rfl) ?_|refine wt (by simpa [e1,e2,e3]) ?_|refine wf (by simpa [e1,e2,e3]) ?_|refine xt (by simpa [e1,e2,e3]) ?_|refine xf (by simpa [e1,e2,e3]) ?_|apply wB|apply Qab|refine wX ?_|refine wY ?_|refine wR ?_|refine wK ?_|refine wE ?_)
   refine wW ?_
   repeat (first|apply wA|apply wS|refine wr (by simp [e4];with_reducible rfl) ?_|refine wq (by simp [e4];with_reducible rfl) ?_|refine wt (by simpa [e4]) ?_|refine wf (by simpa [e4]) ?_|refine xt (by simpa [e4]) ?_|refine xf (by simpa [e4]) ?_|apply wB|apply Qab|refine wX ?_|refine wY ?_|refine wR ?_|refine wK ?_|refine wE ?_)
   simp [Qro]
 · have hil:(Qc2 d.length (-1)).length=d.length:=by rw [Qbl];simp
   have hib:∀ x ∈ Qc2 d.length (-1),0≤x∧x < (d.length:Int):=fun x hx=>by
    rw [Qbl] at hx
    obtain ⟨v,hv,rfl⟩:=List.mem_map.1 hx
    have:=List.mem_range.1 hv
    omega
   have hnl:nlI (Qc2 d.length (-1))=O (Qc2 d.length (-1)):=by
    cases hq:Qc2 d.length (-1) with
    | nil=>rw [hq] at hil;simp at hil;omega
    | cons x r=>rfl
   rw [hnl] at e3
   have hlo:=Jxb d c d.length h7 d.length d (Qc2 d.length (-1)) [] [] (by omega) rfl (fun x hx=>by have:=hf.2 x hx;omega) hib (by omega) (by simp;omega)
   rw [Qdo] at hlo
   have hok:∀ es,Qh5 d=some es→_:=fun es h=>Qn4 h7 h
   unfold Qh5 at hok ⊢
   cases hr:Qhi d.length d (Qc2 d.length (-1)) [] with
   | none =>
     simp only [hr] at hlo
     refine cW Jcf rfl ?_
     repeat (first|apply wA|apply wS|refine wr (by simp [e1,e2,e3];with_reducible rfl) ?_|refine wq (by simp [e1,e2,e3];with_reducible rfl) ?_|refine wt (by simpa [e1,e2,e3]) ?_|refine wf (by simpa [e1,e2,e3]) ?_|refine xt (by simpa [e1,e2,e3]) ?_|refine xf (by simpa [e1,e2,e3]) ?_|apply wB|apply Qab|refine wX ?_|refine wY ?_|refine wR ?_|refine wK ?_|refine wE ?_)
     refine Qaf hlo ?_
     rintro ex st ⟨rfl,Bx,rfl⟩
     simp [Qro]
   | some es =>
     obtain ⟨k1,k2,k3,k4⟩:=hok es hr
     simp only [hr] at hlo
     have hDE:∀ x ∈ es,DE x:=fun x hx=>by have:=Qan.1 (k2 x hx);simp only [DE];omega
     cases es with
     | nil =>
       have e4:=Qaa (show Ev tb Qp0 [] [I d.length,Z] [] ⟨OG d.length (Qgm []),[],[],[]⟩ from Qn2 d.length 0 [] true (.inr rfl) (by simp) .nil (by simp))
       rw [Qdo] at hlo
       refine cW Jcf rfl ?_
       repeat (first|apply wA|apply wS|refine wr (by simp [e1,e2,e3];with_reducible rfl) ?_|refine wq (by simp [e1,e2,e3];with_reducible rfl) ?_|refine wt (by simpa [e1,e2,e3]) ?_|refine wf (by simpa [e1,e2,e3]) ?_|refine xt (by simpa [e1,e2,e3]) ?_|refine xf (by simpa [e1,e2,e3]) ?_|apply wB|apply Qab|refine wX ?_|refine wY ?_|refine wR ?_|refine wK ?_|refine wE ?_)
       refine Qaf hlo ?_
       rintro ex st ⟨rfl,left',todo',Bx',rfl⟩
       simp only [if_true]
       repeat (first|apply wA|apply wS|refine wr (by simp [e4];with_reducible rfl) ?_|refine wq (by simp [e4];with_reducible rfl) ?_|refine wt (by simpa [e4]) ?_|refine wf (by simpa [e4]) ?_|refine xt (by simpa [e4]) ?_|refine xf (by simpa [e4]) ?_|apply wB|apply Qab|refine wX ?_|refine wY ?_|refine wR ?_|refine wK ?_|refine wE ?_)
       simp [Qro]
     | cons e es =>
       have e4:=fun cc=>Qaa (Qn2 d.length 2 (e::es) cc (.inl rfl) hDE k1 k3)
       rw [Qc0] at hlo
       have het:(e::es).take (es.length+1)=e::es:=List.take_of_length_le (by simp)
       refine cW Jcf rfl ?_
       repeat (first|apply wA|apply wS|refine wr (by simp [e1,e2,e3];with_reducible rfl) ?_|refine wq (by simp [e1,e2,e3];with_reducible rfl) ?_|refine wt (by simpa [e1,e2,e3]) ?_|refine wf (by simpa [e1,e2,e3]) ?_|refine xt (by simpa [e1,e2,e3]) ?_|refine xf (by simpa [e1,e2,e3]) ?_|apply wB|apply Qab|refine wX ?_|refine wY ?_|refine wR ?_|refine wK ?_|refine wE ?_)
       refine Qaf hlo ?_
       rintro ex st ⟨rfl,left',todo',Bx',rfl⟩
       simp only [if_true]
       repeat (first|apply wA|apply wS|refine wr (by simp [e4,het];with_reducible rfl) ?_|refine wq (by simp [e4,het];with_reducible rfl) ?_|refine wt (by simpa [e4,het]) ?_|refine wf (by simpa [e4,het]) ?_|refine xt (by simpa [e4,het]) ?_|refine xf (by simpa [e4,het]) ?_|apply wB|apply Qab|refine wX ?_|refine wY ?_|refine wR ?_|refine wK ?_|refine wE ?_)
       simp [Qro]
end Go.Idl
namespace Go.Idl
open Go
def Qd2 (o:List Int) (e:Int×Int):List Int:=(o.set e.1.toNat (min (o.getD e.1.toNat 0) (o.getD e.2.toNat 0))).set e.2.toNat (min (o.getD e.1.toNat 0) (o.getD e.2.toNat 0))
def Qhv (es:List (Int×Int)):Nat→List Int→List Int
 | 0,o=>o
 | m+1,o=>Qhv es m (es.foldl Qd2 o)
theorem Qe7 (o:List Int) (e:Int×Int):(Qd2 o e).length=o.length:=by simp [Qd2]
theorem Qqb (es:List (Int×Int)):∀ o:List Int,(es.foldl Qd2 o).length=o.length:=by
 induction es with
 | nil=>intro o;rfl
 | cons e es ih=>intro o;rw [List.foldl_cons,ih,Qe7]
theorem Qjl (es:List (Int×Int)):∀ (m:Nat) (o:List Int),(Qhv es m o).length=o.length
 | 0,_=>rfl
 | m+1,o=>by rw [Qhv,Qjl es m,Qqb]
theorem ro_in (n:Nat) (e0:Nat) (es:List (Int×Int)) (c:Bool) (he0:e0=2 ∨ es=[]) (hes:∀ e ∈ es,0≤e.1∧e.1 < n∧0≤e.2∧e.2 < n) (hel:es.length≤1000) (k:Nat):∀ (m j:Nat) (out:List Int) (B:Qac),j+m=es.length→out.length=n →
 wp tb (.loop Qxx) { T:=[(1,.bptr 0 0 0),(3,O out),(11,I n),(12,I k),(15,.lst e0 (eds es) c),(16,I es.length),(17,I j)],loc:=[I n,.lst e0 (eds es) c]::B,M:=[] }
  (fun ex st=>ex=.exit 2∧∃ B',st={ T:=[(1,.bptr 0 0 0),(3,O ((es.drop j).foldl Qd2 out)),(11,I n),(12,I k),(15,.lst e0 (eds es) c),(16,I es.length),(17,I es.length),(18,Bo false)],loc:=[I n,.lst e0 (eds es) c]::B',M:=[] }):=by
 intro m
 induction m with
 | zero =>
   intro j out B hj hl
   have h3:j=es.length:=hj
   subst h3
   refine wW ?_
   repeat (first|apply wA|apply wS|refine wr (by simp;with_reducible rfl) ?_|refine wq (by simp;with_reducible rfl) ?_|refine wt (by simpa) ?_|refine wf (by simpa) ?_|refine xt (by simpa) ?_|refine xf (by simpa) ?_|apply wB|apply Qab|refine wX ?_|refine wY ?_|refine wR ?_|refine wK ?_|refine wE ?_)
   exact ⟨rfl,_,by simp;rfl⟩
 | succ m ih =>
   intro j out B hj hl
   have hj2:j < es.length:=by omega
   have he2:e0=2:=by
    rcases he0 with h | h
    · exact h
    · rw [h] at hj2;cases hj2
   subst he2
   have hd:es.drop j=es[j]::es.drop (j+1):=List.drop_eq_getElem_cons hj2
   have hb:=hes _ (List.getElem_mem hj2)
   obtain ⟨⟨x,y⟩,hx⟩:∃ e,e=es[j]:=⟨_,rfl⟩
   rw [← hx] at hb
   simp only at hb
   obtain ⟨a,rfl⟩:=Int.eq_ofNat_of_zero_le hb.1
   obtain ⟨b,rfl⟩:=Int.eq_ofNat_of_zero_le hb.2.2.1
   have hx2:=hx.symm
   have han:a < n:=by omega
   have hbn:b < n:=by omega
   have ha:a < out.length:=by omega
   have hbl:b < out.length:=by omega
   have w1:IntKind.i64.wrap ((j:Int)+1)=((j+1:Nat):Int):=Qa8 (by omega)
   have hmn:(if out[b] < out[a] then out[b] else out[a])=min out[a] out[b]:=by split <;> omega
   have hn:=ih (j+1) (Qd2 out ((a:Int),(b:Int))) (B++[[I a,I b]]) (by omega) (by rw [Qe7,hl])
   have ga:out.getD a 0=out[a]:=by rw [List.getD_eq_getElem?_getD,List.getElem?_eq_getElem ha];rfl
   have gb:out.getD b 0=out[b]:=by rw [List.getD_eq_getElem?_getD,List.getElem?_eq_getElem hbl];rfl
   have hr:Qd2 out ((a:Int),(b:Int))=(out.set a (min out[a] out[b])).set b (min out[a] out[b]):=by
    simp only [Qd2,Int.toNat_natCast,ga,gb]
   rw [hd,← hx,List.foldl_cons]
   rw [hr] at hn ⊢
   refine wW ?_
   repeat (first|apply wA|apply wS|refine wr (by simp [hj2,hx2,ha,hbl,hl,hmn,han,hbn];with_reducible rfl) ?_|refine wq (by simp [hj2,hx2,ha,hbl,hl,hmn,han,hbn];with_reducible rfl) ?_|refine wt (by simpa [hj2,hx2,ha,hbl,hl,hmn,han,hbn]) ?_|refine wf (by simpa [hj2,hx2,ha,hbl,hl,hmn,han,hbn]) ?_|refine xt (by simpa [hj2,hx2,ha,hbl,hl,hmn,han,hbn]) ?_|refine xf (by simpa [hj2,hx2,ha,hbl,hl,hmn,han,hbn]) ?_|apply wB|apply Qab|refine wX ?_|refine wY ?_|refine wR ?_|refine wK ?_|refine wE ?_)
   refine Qi6 (by simp [ha,hbl,hl,han,hbn];with_reducible rfl) (by simp;with_reducible rfl) ?_ ?_
   · intro p hp
     simp only [List.mem_cons,List.not_mem_nil,or_false] at hp
     subst hp
     exact ⟨_,by simp [ha,hbl,hl,han,hbn];with_reducible rfl,by simp⟩
   repeat (first|apply wA|apply wS|refine wr (by simp [w1];with_reducible rfl) ?_|refine wq (by simp [w1];with_reducible rfl) ?_|refine wt (by simpa [w1]) ?_|refine wf (by simpa [w1]) ?_|refine xt (by simpa [w1]) ?_|refine xf (by simpa [w1]) ?_|apply wB|apply Qab|refine wX ?_|refine wY ?_|refine wR ?_|refine wK ?_|refine wE ?_)
   exact hn
theorem ro_out (n:Nat) (e0:Nat) (es:List (Int×Int)) (c:Bool) (he0:e0=2 ∨ es=[]) (hes:∀ e ∈ es,0≤e.1∧e.1 < n∧0≤e.2∧e.2 < n) (hel:es.length≤1000) (hn7:n≤7):∀ (m k:Nat) (out:List Int) (B:Qac),k+m=n→out.length=n →
 wp tb (.loop Qwh) { T:=[(1,.bptr 0 0 0),(3,O out),(11,I n),(12,I k)],loc:=[I n,.lst e0 (eds es) c]::B,M:=[] }
  (fun ex st=>ex=.exit 0∧∃ B',st={ T:=[(1,.bptr 0 0 0),(3,O (Qhv es m out)),(11,I n),(12,I n),(13,Bo false)],loc:=[I n,.lst e0 (eds es) c]::B',M:=[] }):=by
 intro m
 induction m with
 | zero =>
   intro k out B hk hl
   have h3:k=n:=hk
   subst h3
   refine wW ?_
   repeat (first|apply wA|apply wS|refine wr (by simp;with_reducible rfl) ?_|refine wq (by simp;with_reducible rfl) ?_|refine wt (by simpa) ?_|refine wf (by simpa) ?_|refine xt (by simpa) ?_|refine xf (by simpa) ?_|apply wB|apply Qab|refine wX ?_|refine wY ?_|refine wR ?_|refine wK ?_|refine wE ?_)
   exact ⟨rfl,_,rfl⟩
 | succ m ih =>
   intro k out B hk hl
   have hk2:k < n:=by omega
   have w1:IntKind.i64.wrap ((k:Int)+1)=((k+1:Nat):Int):=Qa8 (by omega)
   refine wW ?_
   repeat (first|apply wA|apply wS|refine wr (by simp [hk2];with_reducible rfl) ?_|refine wq (by simp [hk2];with_reducible rfl) ?_|refine wt (by simpa [hk2]) ?_|refine wf (by simpa [hk2]) ?_|refine xt (by simpa [hk2]) ?_|refine xf (by simpa [hk2]) ?_|apply wB|apply Qab|refine wX ?_|refine wY ?_|refine wR ?_|refine wK ?_|refine wE ?_)
   refine Qaf (ro_in n e0 es c he0 hes hel k es.length 0 out B (by omega) hl) ?_
   rintro ex st ⟨rfl,B',rfl⟩
   simp only [if_true,List.drop_zero]
   repeat (first|apply wA|apply wS|refine wr (by simp [w1];with_reducible rfl) ?_|refine wq (by simp [w1];with_reducible rfl) ?_|refine wt (by simpa [w1]) ?_|refine wf (by simpa [w1]) ?_|refine xt (by simpa [w1]) ?_|refine xf (by simpa [w1]) ?_|apply wB|apply Qab|refine wX ?_|refine wY ?_|refine wR ?_|refine wK ?_|refine wE ?_)
   exact ih (k+1) (es.foldl Qd2 out) B' (by omega) (by rw [Qqb,hl])
theorem Qod (n:Nat) (hn1:1≤n) (hn7:n≤7) (e0:Nat) (es:List (Int×Int)) (c:Bool) (he0:e0=2 ∨ es=[]) (hes:∀ e ∈ es,0≤e.1∧e.1 < n∧0≤e.2∧e.2 < n) (hel:es.length≤1000) :
 Ev tb Qms [] [.agg [I n,.lst e0 (eds es) c]] [] ⟨O (Qhv es n (Qc2 n (-1))),[],[],[]⟩:=by
 have e1:=Qaa (Qf3 n (-1) (by omega))
 have hil:(Qc2 n (-1)).length=n:=by rw [Qbl];simp
 have loop:=ro_out n e0 es c he0 hes hel hn7 n 0 (Qc2 n (-1)) [] (by omega) hil
 rw [show ((0:Nat):Int)=0 from rfl] at loop
 generalize Qc2 n (-1)=L at *
 cases L with
 | nil=>simp at hil;omega
 | cons x L =>
   simp only [nlI] at e1
   refine cW Jh1 rfl ?_
   repeat (first|apply wA|apply wS|refine wr (by simp [e1];with_reducible rfl) ?_|refine wq (by simp [e1];with_reducible rfl) ?_|refine wt (by simpa [e1]) ?_|refine wf (by simpa [e1]) ?_|refine xt (by simpa [e1]) ?_|refine xf (by simpa [e1]) ?_|apply wB|apply Qab|refine wX ?_|refine wY ?_|refine wR ?_|refine wK ?_|refine wE ?_)
   refine Qaf loop ?_
   rintro ex st ⟨rfl,B',rfl⟩
   simp only [if_true]
   repeat (first|apply wA|apply wS|refine wr (by simp;with_reducible rfl) ?_|refine wq (by simp;with_reducible rfl) ?_|refine wt (by simpa) ?_|refine wf (by simpa) ?_|refine xt (by simpa) ?_|refine xf (by simpa) ?_|apply wB|apply Qab|refine wX ?_|refine wY ?_|refine wR ?_|refine wK ?_|refine wE ?_)
   simp [Quy]
end Go.Idl
namespace Go.Idl
open Go
def Qk5 (e:Int×Int):List (Int×Int)→List (Int×Int)
 | []=>[e]
 | x::r=>if Qam x e then x::Qk5 e r else e::x::r
theorem Jnm (e:Int×Int) (es:List (Int×Int)) (k:Nat) (hk:k≤es.length) (h:∀ x ∈ es.take k,Qam x e=true) (hs:∀ h:k < es.length,Qam es[k] e=false) :
 Qk5 e es=es.take k++[e]++es.drop k:=by
 induction es generalizing k with
 | nil=>simp at hk;subst hk;rfl
 | cons x r ih =>
   cases k with
   | zero =>
     have:=hs (by simp)
     simp only [List.getElem_cons_zero] at this
     simp [Qk5,this]
   | succ k =>
     have h1:=h x (by simp)
     rw [Qk5,if_pos h1,ih k (by simpa using hk) (fun y hy=>h y (by simp [hy])) (fun hh=>hs (by simpa using hh))]
     simp
theorem Qm0 (e:Int×Int) (es:List (Int×Int)):(Qk5 e es).length=es.length+1:=by
 induction es with
 | nil=>rfl
 | cons x r ih=>rw [Qk5];split <;> simp [ih]
theorem Qn1 (e x:Int×Int) (es:List (Int×Int)):x ∈ Qk5 e es ↔ x=e ∨ x ∈ es:=by
 induction es with
 | nil=>simp [Qk5]
 | cons y r ih =>
   rw [Qk5];split
   · rw [List.mem_cons,ih,List.mem_cons]
     constructor
     · rintro (h | h | h) <;> simp [h]
     · rintro (h | h | h) <;> simp [h]
   · simp
theorem Ql0 (n:Int) (es:List (Int×Int)) (c:Bool) (a b:Int) (hl:es.length≤1000000) :
 Ev tb Qun [] [Gr n es c,I a,I b] [] ⟨OG n (Qk5 (min a b,max a b) es),[],[],[]⟩:=by
 obtain ⟨e,he⟩:∃ e:Int×Int,e=(min a b,max a b):=⟨_,rfl⟩
 have he1:(if b < a then b else a)=e.1:=by rw [he];simp only;split <;> omega
 have he2:(if a < b then b else a)=e.2:=by rw [he];simp only;split <;> omega
 rw [← he]
 have loop:∀ (m k:Nat),k+m=es.length→(∀ x ∈ es.take k,Qam x e=true)→wp tb (.loop Jg1) { T:=[(3,.bptr 0 0 0),(6,.bptr 0 1 0),(7,.bptr 0 2 0),(8,I k)],loc:=[[I n,L2 es c],[I 0,Z],[I e.1,I e.2]],M:=[] }
  (fun ex st=>ex=.exit 0∧∃ k:Nat,(k≤es.length∧(∀ x ∈ es.take k,Qam x e=true)∧(∀ h:k < es.length,Qam es[k] e=false)) ∧
    st={ T:=[(3,.bptr 0 0 0),(6,.bptr 0 1 0),(7,.bptr 0 2 0),(8,I k),(30,Bo false)],loc:=[[I n,L2 es c],[I 0,Z],[I e.1,I e.2]],M:=[] }):=by
  intro m
  induction m with
  | zero =>
    intro k hk hb
    have h3:k=es.length:=hk
    subst h3
    refine wW ?_
    repeat (first|apply wA|apply wS|refine wr (by simp;with_reducible rfl) ?_|refine wq (by simp;with_reducible rfl) ?_|refine wt (by simpa) ?_|refine wf (by simpa) ?_|refine xt (by simpa) ?_|refine xf (by simpa) ?_|apply wB|apply Qab|refine wX ?_|refine wY ?_|refine wR ?_|refine wK ?_|refine wE ?_)
    exact ⟨rfl,es.length,⟨Nat.le_refl _,hb,fun h=>absurd h (by omega)⟩,rfl⟩
  | succ m ih =>
    intro k hk hb
    have hi2:k < es.length:=by omega
    have w2:IntKind.i64.wrap ((k:Int)+1)=((k+1:Nat):Int):=Qa8 (by omega)
    have e1:=Qaa (Qo8 es[k] e)
    cases hq:Qam es[k] e with
    | true =>
      refine wW ?_
      repeat (first|apply wA|apply wS|refine wr (by simp [hi2,e1,hq,w2];with_reducible rfl) ?_|refine wq (by simp [hi2,e1,hq,w2];with_reducible rfl) ?_|refine wt (by simpa [hi2,e1,hq,w2]) ?_|refine wf (by simpa [hi2,e1,hq,w2]) ?_|refine xt (by simpa [hi2,e1,hq,w2]) ?_|refine xf (by simpa [hi2,e1,hq,w2]) ?_|apply wB|apply Qab|refine wX ?_|refine wY ?_|refine wR ?_|refine wK ?_|refine wE ?_)
      refine ih (k+1) (by omega) fun x hx=>?_
      rw [List.take_succ_eq_append_getElem hi2] at hx
      rcases List.mem_append.1 hx with hx | hx
      · exact hb x hx
      · simp at hx;subst hx;exact hq
    | false =>
      refine wW ?_
      repeat (first|apply wA|apply wS|refine wr (by simp [hi2,e1,hq];with_reducible rfl) ?_|refine wq (by simp [hi2,e1,hq];with_reducible rfl) ?_|refine wt (by simpa [hi2,e1,hq]) ?_|refine wf (by simpa [hi2,e1,hq]) ?_|refine xt (by simpa [hi2,e1,hq]) ?_|refine xf (by simpa [hi2,e1,hq]) ?_|apply wB|apply Qab|refine wX ?_|refine wY ?_|refine wR ?_|refine wK ?_|refine wE ?_)
      exact ⟨rfl,k,⟨by omega,hb,fun _=>hq⟩,rfl⟩
 refine cW zt335 rfl ?_
 repeat (first|apply wA|apply wS|refine wr (by simp [he1,he2];with_reducible rfl) ?_|refine wq (by simp [he1,he2];with_reducible rfl) ?_|refine wt (by simpa [he1,he2]) ?_|refine wf (by simpa [he1,he2]) ?_|refine xt (by simpa [he1,he2]) ?_|refine xf (by simpa [he1,he2]) ?_|apply wB|apply Qab|refine wX ?_|refine wY ?_|refine wR ?_|refine wK ?_|refine wE ?_)
 refine Qaf (loop es.length 0 (by simp) (by simp)) ?_
 rintro ex st ⟨rfl,k,⟨hk,hb,hs⟩,rfl⟩
 rw [Jnm e es k hk hb hs]
 try simp only [if_true]
 have hT:es.take es.length=es:=List.take_of_length_le (Nat.le_refl _)
 have hT2:(es.drop k).take (es.length - k)=es.drop k:=List.take_of_length_le (by simp)
 have hT3:(es.take k).take k=es.take k:=by rw [List.take_take,Nat.min_self]
 have hl1:k≤274877906943:=by omega
 have hl2:k≤274877906944:=by omega
 have hl3:k+1≤274877906944:=by omega
 have hl4:k+1+(es.length - k)≤274877906944:=by omega
 have hT4:(es.take k++[(e.1,e.2)]).take (k+1)=es.take k++[(e.1,e.2)]:=List.take_of_length_le (by simp;omega)
 have hmin:min k es.length=k:=by omega
 repeat (first|apply wA|apply wS|refine wr (by simp [hk,hT,hT2,hT3,hl1,hl2,hl3,hl4,hT4,hmin];with_reducible rfl) ?_|refine wq (by simp [hk,hT,hT2,hT3,hl1,hl2,hl3,hl4,hT4,hmin];with_reducible rfl) ?_|refine wt (by simpa [hk,hT,hT2,hT3,hl1,hl2,hl3,hl4,hT4,hmin]) ?_|refine wf (by simpa [hk,hT,hT2,hT3,hl1,hl2,hl3,hl4,hT4,hmin]) ?_|refine xt (by simpa [hk,hT,hT2,hT3,hl1,hl2,hl3,hl4,hT4,hmin]) ?_|refine xf (by simpa [hk,hT,hT2,hT3,hl1,hl2,hl3,hl4,hT4,hmin]) ?_|apply wB|apply Qab|refine wX ?_|refine wY ?_|refine wR ?_|refine wK ?_|refine wE ?_)
 refine Qi6 (by simp [hk,hT,hT2,hT3,hl1,hl2,hl3,hl4,hT4,hmin];with_reducible rfl) (by simp;with_reducible rfl) ?_ ?_
 · intro p hp
   simp only [List.mem_cons,List.not_mem_nil,or_false] at hp
   rcases hp with rfl | rfl | rfl | rfl | rfl | rfl | rfl | rfl | rfl | rfl | rfl
   · exact ⟨_,by simp [hk,hT,hT2,hT3,hl1,hl2,hl3,hl4,hT4,hmin];with_reducible rfl,by simp⟩
   · exact ⟨_,by simp [hk,hT,hT2,hT3,hl1,hl2,hl3,hl4,hT4,hmin];with_reducible rfl,by simp⟩
   · exact ⟨_,by simp [hk,hT,hT2,hT3,hl1,hl2,hl3,hl4,hT4,hmin];with_reducible rfl,by simp⟩
   · exact ⟨_,by simp [hk,hT,hT2,hT3,hl1,hl2,hl3,hl4,hT4,hmin];with_reducible rfl,by simp⟩
   · exact ⟨_,by simp [hk,hT,hT2,hT3,hl1,hl2,hl3,hl4,hT4,hmin];with_reducible rfl,by simp⟩
   · exact ⟨_,by simp [hk,hT,hT2,hT3,hl1,hl2,hl3,hl4,hT4,hmin];with_reducible rfl,by simp⟩
   · exact ⟨_,by simp [hk,hT,hT2,hT3,hl1,hl2,hl3,hl4,hT4,hmin];with_reducible rfl,by simp⟩
   · exact ⟨_,by simp [hk,hT,hT2,hT3,hl1,hl2,hl3,hl4,hT4,hmin];with_reducible rfl,by simp⟩
   · exact ⟨_,by simp [hk,hT,hT2,hT3,hl1,hl2,hl3,hl4,hT4,hmin];with_reducible rfl,by simp⟩
   · exact ⟨_,by simp [hk,hT,hT2,hT3,hl1,hl2,hl3,hl4,hT4,hmin];with_reducible rfl,by simp⟩
   · exact ⟨_,by simp [hk,hT,hT2,hT3,hl1,hl2,hl3,hl4,hT4,hmin];with_reducible rfl,by simp⟩
 repeat (first|apply wA|apply wS|refine wr (by simp;with_reducible rfl) ?_|refine wq (by simp;with_reducible rfl) ?_|refine wt (by simpa) ?_|refine wf (by simpa) ?_|refine xt (by simpa) ?_|refine xf (by simpa) ?_|apply wB|apply Qab|refine wX ?_|refine wY ?_|refine wR ?_|refine wK ?_|refine wE ?_)
 simp [Jdv]
end Go.Idl
namespace Go.Idl
open Go
def Qcr:Int→List Int→Int
 | m,[]=>m
 | m,x::r=>Qcr (min m x) r
theorem Jtm (x:Int) (r:List Int) (c:Bool) (hl:r.length≤1000000) :
 Ev tb Jpb [] [L (x::r) c] [] ⟨I (Qcr x r),[],[],[]⟩:=by
 have loop:∀ (m i:Nat) (y:Int),i+m=r.length→wp tb (.loop Jus) { T:=[(0,L (x::r) c),(3,I y),(4,I (i+1))],loc:=[],M:=[] }
  (fun ex st=>ex=.exit 0∧st={ T:=[(0,L (x::r) c),(3,I (Qcr y (r.drop i))),(4,I (r.length+1)),(15,Bo false)],loc:=[],M:=[] }):=by
  intro m
  induction m with
  | zero =>
    intro i y hi
    obtain ⟨h1,h2⟩:=Qcz hi
    have h3:i=r.length:=hi
    subst h3
    refine wW ?_
    repeat (first|apply wA|apply wS|refine wr (by simp;with_reducible rfl) ?_|refine wq (by simp;with_reducible rfl) ?_|refine wt (by simpa) ?_|refine wf (by simpa) ?_|refine xt (by simpa) ?_|refine xf (by simpa) ?_|apply wB|apply Qab|refine wX ?_|refine wY ?_|refine wR ?_|refine wK ?_|refine wE ?_)
    exact ⟨rfl,by simp [Qcr]⟩
  | succ m ih =>
    intro i y hi
    obtain ⟨hi2,h2,h3⟩:=Qcw hi
    have w2:IntKind.i64.wrap ((i:Int)+1+1)=(i:Int)+1+1:=Qad (by omega) (by omega)
    have h4:(i:Int) < r.length:=by omega
    rw [h2]
    refine wW ?_
    repeat (first|apply wA|apply wS|refine wr (by simp [hi2,w2,h4];with_reducible rfl) ?_|refine wq (by simp [hi2,w2,h4];with_reducible rfl) ?_|refine wt (by simpa [hi2,w2,h4]) ?_|refine wf (by simpa [hi2,w2,h4]) ?_|refine xt (by simpa [hi2,w2,h4]) ?_|refine xf (by simpa [hi2,w2,h4]) ?_|apply wB|apply Qab|refine wX ?_|refine wY ?_|refine wR ?_|refine wK ?_|refine wE ?_)
    have:=ih (i+1) (min y r[i]) (by omega)
    simp only [Qcb,Jix,Qcr] at this ⊢
    exact this
 have h0:¬ ((r.length:Int)+1 < 1):=by omega
 refine cW zt75 rfl ?_
 repeat (first|apply wA|apply wS|refine wr (by simp [h0];with_reducible rfl) ?_|refine wq (by simp [h0];with_reducible rfl) ?_|refine wt (by simpa [h0]) ?_|refine wf (by simpa [h0]) ?_|refine xt (by simpa [h0]) ?_|refine xf (by simpa [h0]) ?_|apply wB|apply Qab|refine wX ?_|refine wY ?_|refine wR ?_|refine wK ?_|refine wE ?_)
 have:=loop r.length 0 x (by omega)
 simp at this
 refine Qaf this ?_
 rintro ex st ⟨rfl,rfl⟩
 simp only [if_true]
 repeat (first|apply wA|apply wS|refine wr (by simp;with_reducible rfl) ?_|refine wq (by simp;with_reducible rfl) ?_|refine wt (by simpa) ?_|refine wf (by simpa) ?_|refine xt (by simpa) ?_|refine xf (by simpa) ?_|apply wB|apply Qab|refine wX ?_|refine wY ?_|refine wR ?_|refine wK ?_|refine wE ?_)
 simp [zi75]
theorem Qom:∀ (r:List Int) (m b:Int),(b≤Qcr m r) ↔ b≤m∧∀ x ∈ r,b≤x
 | [],m,b=>by simp [Qcr]
 | x::r,m,b=>by
   rw [Qcr,Qom r]
   constructor
   · rintro ⟨h1,h2⟩
     exact ⟨by omega,by intro y hy;rcases List.mem_cons.1 hy with rfl | hy;omega;exact h2 y hy⟩
   · rintro ⟨h1,h2⟩
     have:=h2 x (by simp)
     exact ⟨by omega,fun y hy=>h2 y (by simp [hy])⟩
def asc0 (s:List Int):List Int:=(fall s).reverse
def overT (s:List Int) (i:Nat):Int:=((asc0 s).take (i+1)).sum - ((i:Int)+1) * i / 2
def over (s:List Int):List Int:=Qvv s.length (overT s)
end Go.Idl
namespace Go.Idl
open Go
theorem sum01 (r:List Int) (h:∀ x ∈ r,0≤x∧x≤1):0≤r.sum∧r.sum≤r.length:=by
 induction r with
 | nil=>simp
 | cons x xs ih =>
   have h1:=h x (by simp)
   have h2:=ih fun y hy=>h y (by simp [hy])
   simp only [List.sum_cons,List.length_cons];omega
end Go.Idl
namespace Go.Idl
open Go
theorem Qp1 (xs:List Int) (c:Bool) (y:Int) (hl:xs.length≤1000000) :
 Ev tb Quq [] [L xs c,I y] [] ⟨Bo (decide (y ∈ xs)),[],[],[]⟩:=by
 have loop:∀ (m i:Nat),i+m=xs.length→wp tb (.loop Jgr) { T:=[(0,L xs c),(1,I y),(5,I i)],loc:=[],M:=[] }
  (fun ex st=>(ex=.exit 0∧y ∉ xs.drop i∧st={ T:=[(0,L xs c),(1,I y),(5,I xs.length),(9,Bo false)],loc:=[],M:=[] }) ∨
    ex=.ret∧y ∈ xs.drop i∧st={ T:=[(4,Bo true)],loc:=[],M:=[] }):=by
  intro m
  induction m with
  | zero =>
    intro i hi
    obtain ⟨h1,h2⟩:=Qcz hi
    have h3:i=xs.length:=hi
    subst h3
    refine wW ?_
    repeat (first|apply wA|apply wS|refine wr (by simp;with_reducible rfl) ?_|refine wq (by simp;with_reducible rfl) ?_|refine wt (by simpa) ?_|refine wf (by simpa) ?_|refine xt (by simpa) ?_|refine xf (by simpa) ?_|apply wB|apply Qab|refine wX ?_|refine wY ?_|refine wR ?_|refine wK ?_|refine wE ?_)
    exact .inl ⟨rfl,by rw [h2];simp,rfl⟩
  | succ m ih =>
    intro i hi
    obtain ⟨hi2,h2,h3⟩:=Qcw hi
    have w2:IntKind.i64.wrap ((i:Int)+1)=((i+1:Nat):Int):=Qa8 (by omega)
    rw [h2]
    by_cases he:xs[i]=y
    · refine wW ?_
      repeat (first|apply wA|apply wS|refine wr (by simp [hi2,he];with_reducible rfl) ?_|refine wq (by simp [hi2,he];with_reducible rfl) ?_|refine wt (by simpa [hi2,he]) ?_|refine wf (by simpa [hi2,he]) ?_|refine xt (by simpa [hi2,he]) ?_|refine xf (by simpa [hi2,he]) ?_|apply wB|apply Qab|refine wX ?_|refine wY ?_|refine wR ?_|refine wK ?_|refine wE ?_)
      exact .inr ⟨rfl,by simp [he],rfl⟩
    · refine wW ?_
      repeat (first|apply wA|apply wS|refine wr (by simp [hi2,he,w2];with_reducible rfl) ?_|refine wq (by simp [hi2,he,w2];with_reducible rfl) ?_|refine wt (by simpa [hi2,he,w2]) ?_|refine wf (by simpa [hi2,he,w2]) ?_|refine xt (by simpa [hi2,he,w2]) ?_|refine xf (by simpa [hi2,he,w2]) ?_|apply wB|apply Qab|refine wX ?_|refine wY ?_|refine wR ?_|refine wK ?_|refine wE ?_)
      refine Qaf (ih (i+1) (by omega)) ?_
      rintro ex st (⟨rfl,h,rfl⟩ | ⟨rfl,h,rfl⟩)
      · exact .inl ⟨rfl,by rw [List.mem_cons];rintro (h' | h');exact he h'.symm;exact h h',rfl⟩
      · exact .inr ⟨rfl,List.mem_cons_of_mem _ h,rfl⟩
 refine cW zt131 rfl ?_
 repeat (first|apply wA|apply wS|refine wr (by simp;with_reducible rfl) ?_|refine wq (by simp;with_reducible rfl) ?_|refine wt (by simpa) ?_|refine wf (by simpa) ?_|refine xt (by simpa) ?_|refine xf (by simpa) ?_|apply wB|apply Qab|refine wX ?_|refine wY ?_|refine wR ?_|refine wK ?_|refine wE ?_)
 refine Qaf (loop xs.length 0 (by omega)) ?_
 rintro ex st (⟨rfl,h,rfl⟩ | ⟨rfl,h,rfl⟩)
 · simp only [if_true]
   simp only [List.drop_zero] at h
   repeat (first|apply wA|apply wS|refine wr (by simp;with_reducible rfl) ?_|refine wq (by simp;with_reducible rfl) ?_|refine wt (by simpa) ?_|refine wf (by simpa) ?_|refine xt (by simpa) ?_|refine xf (by simpa) ?_|apply wB|apply Qab|refine wX ?_|refine wY ?_|refine wR ?_|refine wK ?_|refine wE ?_)
   simp [Qyj,h]
 · simp only [List.drop_zero] at h
   simp [Qyj,h]
theorem Qqm:∀ (A l:List Int),A.Nodup→(∀ x ∈ A,x ∈ l)→A.length≤l.length
 | [],l,_,_=>by simp
 | x::r,l,hd,h=>by
   have hd':=List.nodup_cons.1 hd
   have h1:=Qqm r (l.erase x) hd'.2 (fun y hy=>(List.mem_erase_of_ne (fun e=>hd'.1 (by rw [← e];exact hy))).2 (h y (by simp [hy])))
   have hx:=h x (by simp)
   rw [List.length_erase_of_mem hx] at h1
   have:=List.length_pos_of_mem hx
   simp only [List.length_cons];omega
end Go.Idl
namespace Go.Idl
open Go
def rI (N:Nat):List Int:=(List.range N).map fun v:Nat=>(v:Int)
theorem Qso (N:Nat):(rI N).length=N:=by simp [rI]
theorem Jgn {N:Nat} {x:Int}:x ∈ rI N ↔ 0≤x∧x < N:=by
 simp only [rI,List.mem_map,List.mem_range]
 exact ⟨fun ⟨v,h1,h2⟩=>by omega,fun h=>⟨x.toNat,by omega,by omega⟩⟩
theorem Qum {α} (p:α→Bool) (l:List α):(l.filter p).length+(l.filter fun a=>!p a).length=l.length:=by
 induction l with
 | nil=>rfl
 | cons a l ih=>simp only [List.filter_cons];cases p a <;> simp <;> omega
def Qqx (rest Qa3:List Int) (v:Nat):Bool:=decide ((v:Int) ∈ rest) || decide ((v:Int) ∈ Qa3)
def Qf9 (rest Qa3:List Int):Nat→Nat→Nat
 | 0,v=>v
 | m+1,v=>if Qqx rest Qa3 v then Qf9 rest Qa3 m (v+1) else v
def Qen (N:Nat):List Int→List Int→List (Int×Int)→List (Int×Int)×List Int
 | [],Qa3,es=>(es,Qa3)
 | c::r,Qa3,es=>Qen N r (Qa3++[(Qf9 (c::r) Qa3 N 0:Int)]) (Qk5 (min (Qf9 (c::r) Qa3 N 0:Int) c,max (Qf9 (c::r) Qa3 N 0:Int) c) es)
def Qij (N:Nat) (Qa3:List Int):List Int:=(rI N).filter fun v=>!decide (v ∈ Qa3)
def Qjr (code:List Int):List (Int×Int) :=
 let q:=Qen (code.length+2) code [] []
 let l:=Qij (code.length+2) q.2
 Qk5 (min (l.getD 0 0) (l.getD 1 0),max (l.getD 0 0) (l.getD 1 0)) q.1
theorem Qnz (rest Qa3:List Int):∀ (m v w:Nat),v≤w→w < v+m→Qqx rest Qa3 w=false→Qf9 rest Qa3 m v < v+m∧Qqx rest Qa3 (Qf9 rest Qa3 m v)=false
 | 0,v,w,h1,h2,_=>by omega
 | m+1,v,w,h1,h2,h3=>by
   rw [Qf9]
   cases hb:Qqx rest Qa3 v with
   | false=>rw [if_neg (by simp)];exact ⟨by omega,hb⟩
   | true =>
     rw [if_pos rfl]
     have hne:w ≠ v:=by rintro rfl;rw [hb] at h3;cases h3
     have:=Qnz rest Qa3 m (v+1) w (by omega) (by omega) h3
     exact ⟨by omega,this.2⟩
theorem Qiv (N:Nat):(rI N).Nodup:=by
 rw [rI,List.Nodup,List.pairwise_map]
 exact List.nodup_range.imp fun h e=>h (by omega)
theorem Qzp {N:Nat} {rest Qa3:List Int} (h:rest.length+Qa3.length < N):∃ w,w < N∧Qqx rest Qa3 w=false:=by
 refine Classical.byContradiction fun hn=>?_
 have hall:∀ x ∈ rI N,x ∈ rest++Qa3:=fun x hx=>by
  have hx':=Jgn.1 hx
  obtain ⟨v,rfl⟩:=Int.eq_ofNat_of_zero_le hx'.1
  have hv:v < N:=by omega
  have hb:Qqx rest Qa3 v=true:=by
   cases hq:Qqx rest Qa3 v with
   | true=>rfl
   | false=>exact absurd ⟨v,hv,hq⟩ hn
  simp only [Qqx,Bool.or_eq_true,decide_eq_true_eq] at hb
  exact List.mem_append.2 hb
 have:=Qqm _ _ (Qiv N) hall
 rw [Qso,List.length_append] at this
 omega
theorem Qpp {N:Nat} {Qa3:List Int} (h:Qa3.length+2≤N):2≤(Qij N Qa3).length:=by
 have h1:=Qqm ((rI N).filter fun v=>decide (v ∈ Qa3)) Qa3 ((Qiv N).filter _) (fun x hx=>by simpa using (List.mem_filter.1 hx).2)
 have h2:=Qum (fun v=>decide (v ∈ Qa3)) (rI N)
 rw [Qso] at h2
 simp only [Qij]
 omega
theorem Jai {N:Nat} {Qa3:List Int} {x:Int} (h:x ∈ Qij N Qa3):0≤x∧x < N:=by
 exact Jgn.1 (List.mem_filter.1 h).1
structure Qxi (code:List Int):Prop where
 len:code.length≤5
 el:∀ x ∈ code,0≤x∧x < (code.length:Int)+2
theorem ct_in (code:List Int) (c:Bool) (N i:Nat) (left Qa3:List Int) (Bs:Qac) (hN:N≤7) (hl:left.length=N) (hg:Qa3.length≤7) (hq:∀ v,v < N→(0 < left.getD v 0 ↔ (v:Int) ∈ code.drop i)):∀ (m v:Nat),v+m=N→(∃ w,v≤w∧w < N∧Qqx (code.drop i) Qa3 w=false) →
 wp tb (.loop Ja5) { T:=[(0,L code c),(2,.bptr 0 0 0),(3,I N),(4,.bptr 0 1 0),(5,O left),(7,O Qa3),(8,I i),(9,I v)],loc:=Bs,M:=[] }
  (fun ex st=>ex=.exit 4∧st={ T:=[(0,L code c),(2,.bptr 0 0 0),(3,I N),(4,.bptr 0 1 0),(5,O left),(7,O Qa3),(8,I i),(9,I (Qf9 (code.drop i) Qa3 m v)),(56,Bo false)],loc:=Bs,M:=[] }):=by
 intro m
 induction m with
 | zero=>intro v hv ⟨w,h1,h2,_⟩;omega
 | succ m ih =>
   intro v hv ⟨w,h1,h2,h3⟩
   have hv2:v < left.length:=by omega
   have hv3:v < N:=by omega
   have hvq:=hq v hv3
   have hgt:left.getD v 0=left[v]:=by simp [List.getD_eq_getElem?_getD,List.getElem?_eq_getElem hv2]
   rw [hgt] at hvq
   have w2:IntKind.i64.wrap ((v:Int)+1)=((v+1:Nat):Int):=Qa8 (by omega)
   have e1:=fun cc=>Qaa (Qp1 Qa3 cc (v:Int) (by omega))
   have hgo:Qa3.take Qa3.length=Qa3:=List.take_of_length_le (Nat.le_refl _)
   rw [Qf9]
   by_cases hl0:0 < left[v]
   · have hb:Qqx (code.drop i) Qa3 v=true:=by simp only [Qqx,Bool.or_eq_true,decide_eq_true_eq];exact .inl (hvq.1 hl0)
     have hne:w ≠ v:=by rintro rfl;rw [hb] at h3;cases h3
     rw [hb,if_pos rfl]
     refine wW ?_
     repeat (first|apply wA|apply wS|refine wr (by simp [hv2,hl0,w2];with_reducible rfl) ?_|refine wq (by simp [hv2,hl0,w2];with_reducible rfl) ?_|refine wt (by simpa [hv2,hl0,w2]) ?_|refine wf (by simpa [hv2,hl0,w2]) ?_|refine xt (by simpa [hv2,hl0,w2]) ?_|refine xf (by simpa [hv2,hl0,w2]) ?_|apply wB|apply Qab|refine wX ?_|refine wY ?_|refine wR ?_|refine wK ?_|refine wE ?_)
     exact ih (v+1) (by omega) ⟨w,by omega,h2,h3⟩
   have hr:¬ (v:Int) ∈ code.drop i:=fun h=>hl0 (hvq.2 h)
   by_cases hgv:(v:Int) ∈ Qa3
   · have hb:Qqx (code.drop i) Qa3 v=true:=by simp only [Qqx,Bool.or_eq_true,decide_eq_true_eq];exact .inr hgv
     have hne:w ≠ v:=by rintro rfl;rw [hb] at h3;cases h3
     rw [hb,if_pos rfl]
     refine wW ?_
     repeat (first|apply wA|apply wS|refine wr (by simp [hv2,hl0,w2,e1,hgv,hgo];with_reducible rfl) ?_|refine wq (by simp [hv2,hl0,w2,e1,hgv,hgo];with_reducible rfl) ?_|refine wt (by simpa [hv2,hl0,w2,e1,hgv,hgo]) ?_|refine wf (by simpa [hv2,hl0,w2,e1,hgv,hgo]) ?_|refine xt (by simpa [hv2,hl0,w2,e1,hgv,hgo]) ?_|refine xf (by simpa [hv2,hl0,w2,e1,hgv,hgo]) ?_|apply wB|apply Qab|refine wX ?_|refine wY ?_|refine wR ?_|refine wK ?_|refine wE ?_)
     exact ih (v+1) (by omega) ⟨w,by omega,h2,h3⟩
   · have hb:Qqx (code.drop i) Qa3 v=false:=by simp only [Qqx,Bool.or_eq_false_iff,decide_eq_false_iff_not];exact ⟨hr,hgv⟩
     rw [hb,if_neg (by simp)]
     refine wW ?_
     repeat (first|apply wA|apply wS|refine wr (by simp [hv2,hl0,w2,e1,hgv,hgo];with_reducible rfl) ?_|refine wq (by simp [hv2,hl0,w2,e1,hgv,hgo];with_reducible rfl) ?_|refine wt (by simpa [hv2,hl0,w2,e1,hgv,hgo]) ?_|refine wf (by simpa [hv2,hl0,w2,e1,hgv,hgo]) ?_|refine xt (by simpa [hv2,hl0,w2,e1,hgv,hgo]) ?_|refine xf (by simpa [hv2,hl0,w2,e1,hgv,hgo]) ?_|apply wB|apply Qab|refine wX ?_|refine wY ?_|refine wR ?_|refine wK ?_|refine wE ?_)
     exact ⟨rfl,rfl⟩
theorem Qjz {xs:List Int} {i:Nat} (h:i < xs.length) (v:Int):(((xs.take (i+1)).count v:Nat):Int)=((xs.take i).count v:Nat)+(if xs[i]=v then 1 else 0):=by
 rw [List.take_succ_eq_append_getElem h,List.count_append,List.count_cons,List.count_nil]
 by_cases hq:xs[i]=v <;> simp [hq]
theorem Qkq {xs:List Int} {i:Nat} (h:i < xs.length) (v:Int):(((xs.drop i).count v:Nat):Int)=((xs.drop (i+1)).count v:Nat)+(if xs[i]=v then 1 else 0):=by
 rw [List.drop_eq_getElem_cons h,List.count_cons]
 by_cases hq:xs[i]=v <;> simp [hq]
theorem Qte {xs:List Int} {p v:Nat} {y:Int} (hv:v < xs.length):(xs.set p y).getD v 0=if p=v then y else xs.getD v 0:=by
 rw [List.getD_eq_getElem?_getD,List.getElem?_set]
 by_cases h:p=v
 · subst h;simp [hv]
 · simp [h,List.getD_eq_getElem?_getD]
theorem Jke (code:List Int) (c:Bool) (hc:Qxi code) (Bs:Qac):∀ (m i:Nat) (left:List Int),i+m=code.length→left.length=code.length+2→(∀ v,v < code.length+2→left.getD v 0=((code.take i).count (v:Int):Nat)) →
 wp tb (.loop Jhc) { T:=[(0,L code c),(2,.bptr 0 0 0),(3,I ((code.length:Int)+2)),(4,.bptr 0 1 0),(5,O left),(6,I i)],loc:=Bs,M:=[] }
  (fun ex st=>ex=.exit 0∧∃ left:List Int,(left.length=code.length+2∧∀ v,v < code.length+2→left.getD v 0=(code.count (v:Int):Nat))∧st={ T:=[(0,L code c),(2,.bptr 0 0 0),(3,I ((code.length:Int)+2)),(4,.bptr 0 1 0),(5,O left),(6,I code.length),(23,Bo false)],loc:=Bs,M:=[] }):=by
 intro m
 induction m with
 | zero =>
   intro i left hi hl hq
   have h3:i=code.length:=hi
   subst h3
   rw [List.take_length] at hq
   refine wW ?_
   repeat (first|apply wA|apply wS|refine wr (by simp;with_reducible rfl) ?_|refine wq (by simp;with_reducible rfl) ?_|refine wt (by simpa) ?_|refine wf (by simpa) ?_|refine xt (by simpa) ?_|refine xf (by simpa) ?_|apply wB|apply Qab|refine wX ?_|refine wY ?_|refine wR ?_|refine wK ?_|refine wE ?_)
   exact ⟨rfl,left,⟨hl,hq⟩,rfl⟩
 | succ m ih =>
   intro i left hi hl hq
   have hi2:i < code.length:=by omega
   have hel:=hc.el _ (List.getElem_mem hi2)
   obtain ⟨p,hp⟩:=Int.eq_ofNat_of_zero_le hel.1
   have hpl:p < left.length:=by omega
   have hgt:left.getD p 0=left[p]:=by simp [List.getD_eq_getElem?_getD,List.getElem?_eq_getElem hpl]
   have hqp:=hq p (by omega)
   rw [hgt] at hqp
   have hcl:=hc.len
   have hcb:(code.take i).count (p:Int)≤i:=Nat.le_trans List.count_le_length (by simp;omega)
   have w1:IntKind.i64.wrap (left[p]+1)=left[p]+1:=Qad (by omega) (by omega)
   have w2:IntKind.i64.wrap ((i:Int)+1)=((i+1:Nat):Int):=Qa8 (by omega)
   have hn:=ih (i+1) (left.set p (left[p]+1)) (by omega) (by simpa using hl) fun v hv=>by
    rw [Qte (by omega),Qjz hi2,← hq v hv,hp]
    by_cases hpv:p=v
    · subst hpv;simp only [if_true,hgt]
    · rw [if_neg hpv,if_neg (by omega)];omega
   refine wW ?_
   repeat (first|apply wA|apply wS|refine wr (by simp [hi2,hp,hpl,w1,w2];with_reducible rfl) ?_|refine wq (by simp [hi2,hp,hpl,w1,w2];with_reducible rfl) ?_|refine wt (by simpa [hi2,hp,hpl,w1,w2]) ?_|refine wf (by simpa [hi2,hp,hpl,w1,w2]) ?_|refine xt (by simpa [hi2,hp,hpl,w1,w2]) ?_|refine xf (by simpa [hi2,hp,hpl,w1,w2]) ?_|apply wB|apply Qab|refine wX ?_|refine wY ?_|refine wR ?_|refine wK ?_|refine wE ?_)
   exact hn
theorem Jpx (code:List Int) (c:Bool) (hc:Qxi code):∀ (m i:Nat) (left Qa3:List Int) (es:List (Int×Int)),i+m=code.length→left.length=code.length+2→Qa3.length=i→es.length=i →
 (∀ v,v < code.length+2→left.getD v 0=((code.drop i).count (v:Int):Nat)) →
 wp tb (.loop Qy4) { T:=[(0,L code c),(2,.bptr 0 0 0),(3,I ((code.length:Int)+2)),(4,.bptr 0 1 0),(5,O left),(7,O Qa3),(8,I i)],loc:=[[I 0,Z],[I ((code.length:Int)+2),O2 es]],M:=[] }
  (fun ex st=>ex=.exit 2∧∃ left:List Int,st={ T:=[(0,L code c),(2,.bptr 0 0 0),(3,I ((code.length:Int)+2)),(4,.bptr 0 1 0),(5,O left),(7,O (Qen (code.length+2) (code.drop i) Qa3 es).2),(8,I code.length),(44,Bo false)],loc:=[[I 0,Z],[I ((code.length:Int)+2),O2 (Qen (code.length+2) (code.drop i) Qa3 es).1]],M:=[] }):=by
 intro m
 induction m with
 | zero =>
   intro i left Qa3 es hi hl hg he hq
   have h3:i=code.length:=hi
   subst h3
   refine wW ?_
   repeat (first|apply wA|apply wS|refine wr (by simp;with_reducible rfl) ?_|refine wq (by simp;with_reducible rfl) ?_|refine wt (by simpa) ?_|refine wf (by simpa) ?_|refine xt (by simpa) ?_|refine xf (by simpa) ?_|apply wB|apply Qab|refine wX ?_|refine wY ?_|refine wR ?_|refine wK ?_|refine wE ?_)
   exact ⟨rfl,left,by simp [Qen]⟩
 | succ m ih =>
   intro i left Qa3 es hi hl hg he hq
   have hi2:i < code.length:=by omega
   have hel:=hc.el _ (List.getElem_mem hi2)
   have hcl:=hc.len
   obtain ⟨p,hp⟩:=Int.eq_ofNat_of_zero_le hel.1
   have hpl:p < left.length:=by omega
   have hgt:left.getD p 0=left[p]:=by simp [List.getD_eq_getElem?_getD,List.getElem?_eq_getElem hpl]
   have hqp:=hq p (by omega)
   rw [hgt] at hqp
   have hcb:(code.drop i).count (p:Int)≤5:=Nat.le_trans List.count_le_length (by simp;omega)
   have w1:IntKind.i64.wrap (left[p] - 1)=left[p] - 1:=Qad (by omega) (by omega)
   have w2:IntKind.i64.wrap ((i:Int)+1)=((i+1:Nat):Int):=Qa8 (by omega)
   obtain ⟨w,hw1,hw2⟩:=Qzp (N:=code.length+2) (rest:=code.drop i) (Qa3:=Qa3) (by simp;omega)
   have hfo:=Qnz (code.drop i) Qa3 (code.length+2) 0 w (by omega) (by omega) hw2
   have hin:=ct_in code c (code.length+2) i left Qa3 [[I 0,Z],[I ((code.length:Int)+2),O2 es]] (by omega) hl (by omega) (fun v hv=>by
    rw [hq v hv,← List.count_pos_iff];omega) (code.length+2) 0 (by omega) ⟨w,by omega,hw1,hw2⟩
   have hct:Qen (code.length+2) (code.drop i) Qa3 es=Qen (code.length+2) (code.drop (i+1)) (Qa3++[(Qf9 (code.drop i) Qa3 (code.length+2) 0:Int)]) (Qk5 (min (Qf9 (code.drop i) Qa3 (code.length+2) 0:Int) code[i],max (Qf9 (code.drop i) Qa3 (code.length+2) 0:Int) code[i]) es):=by
    conv=>lhs;rw [List.drop_eq_getElem_cons hi2]
    rw [Qen,← List.drop_eq_getElem_cons hi2]
   rw [hct]
   generalize Qf9 (code.drop i) Qa3 (code.length+2) 0=u at *
   have e1:=fun cc=>Qaa (Ql0 ((code.length:Int)+2) es cc (u:Int) code[i] (by omega))
   have hn:=ih (i+1) (left.set p (left[p] - 1)) (Qa3++[(u:Int)]) (Qk5 (min (u:Int) code[i],max (u:Int) code[i]) es) (by omega) (by simpa using hl) (by simp [hg]) (by rw [Qm0];omega) fun v hv=>by
    have:=Qkq hi2 (v:Int)
    rw [Qte (by omega)]
    have hqv:=hq v hv
    rw [hp] at this
    by_cases hpv:p=v
    · subst hpv;simp only [if_true] at this ⊢;omega
    · rw [if_neg hpv];rw [if_neg (by omega)] at this;omega
   rw [hp] at e1 hn ⊢
   have hgo:Qa3.take Qa3.length=Qa3:=List.take_of_length_le (Nat.le_refl _)
   have hgl:Qa3.length+1≤274877906944:=by omega
   have heo:es.take es.length=es:=List.take_of_length_le (Nat.le_refl _)
   refine wW ?_
   repeat (first|apply wA|apply wS|refine wr (by simp [hi2];with_reducible rfl) ?_|refine wq (by simp [hi2];with_reducible rfl) ?_|refine wt (by simpa [hi2]) ?_|refine wf (by simpa [hi2]) ?_|refine xt (by simpa [hi2]) ?_|refine xf (by simpa [hi2]) ?_|apply wB|apply Qab|refine wX ?_|refine wY ?_|refine wR ?_|refine wK ?_|refine wE ?_)
   refine Qaf hin ?_
   rintro ex st ⟨rfl,rfl⟩
   try simp only [if_true]
   repeat (first|apply wA|apply wS|refine wr (by simp [hi2,hp,hpl,w1,w2,e1,hgo,hgl,heo];with_reducible rfl) ?_|refine wq (by simp [hi2,hp,hpl,w1,w2,e1,hgo,hgl,heo];with_reducible rfl) ?_|refine wt (by simpa [hi2,hp,hpl,w1,w2,e1,hgo,hgl,heo]) ?_|refine wf (by simpa [hi2,hp,hpl,w1,w2,e1,hgo,hgl,heo]) ?_|refine xt (by simpa [hi2,hp,hpl,w1,w2,e1,hgo,hgl,heo]) ?_|refine xf (by simpa [hi2,hp,hpl,w1,w2,e1,hgo,hgl,heo]) ?_|apply wB|apply Qab|refine wX ?_|refine wY ?_|refine wR ?_|refine wK ?_|refine wE ?_)
   exact hn
theorem Jm7 (N:Nat) (Qa3:List Int) (es:List (Int×Int)) (hN:N≤7) (hg:Qa3.length≤7):∀ (m j:Nat),j+m=N →
 wp tb (.loop Jak) { T:=[(2,.bptr 0 0 0),(3,I N),(4,.bptr 0 1 0),(7,O Qa3),(10,O (((rI N).take j).filter fun v=>!decide (v ∈ Qa3))),(11,I j)],loc:=[[I 0,Z],[I N,O2 es]],M:=[] }
  (fun ex st=>ex=.exit 6∧st={ T:=[(2,.bptr 0 0 0),(3,I N),(4,.bptr 0 1 0),(7,O Qa3),(10,O (Qij N Qa3)),(11,I N),(87,Bo false)],loc:=[[I 0,Z],[I N,O2 es]],M:=[] }):=by
 intro m
 induction m with
 | zero =>
   intro j hj
   have h3:j=N:=hj
   subst h3
   refine wW ?_
   repeat (first|apply wA|apply wS|refine wr (by simp;with_reducible rfl) ?_|refine wq (by simp;with_reducible rfl) ?_|refine wt (by simpa) ?_|refine wf (by simpa) ?_|refine xt (by simpa) ?_|refine xf (by simpa) ?_|apply wB|apply Qab|refine wX ?_|refine wY ?_|refine wR ?_|refine wK ?_|refine wE ?_)
   have:(rI j).take j=rI j:=List.take_of_length_le (by rw [Qso];exact Nat.le_refl _)
   rw [this]
   exact ⟨rfl,rfl⟩
 | succ m ih =>
   intro j hj
   have hj2:j < N:=by omega
   have hj3:j < (rI N).length:=by rw [Qso];exact hj2
   have hgo:Qa3.take Qa3.length=Qa3:=List.take_of_length_le (Nat.le_refl _)
   have w2:IntKind.i64.wrap ((j:Int)+1)=((j+1:Nat):Int):=Qa8 (by omega)
   have e1:=fun cc=>Qaa (Qp1 Qa3 cc (j:Int) (by omega))
   have hn:=ih (j+1) (by omega)
   rw [Qe4 hj3,show (rI N)[j]=(j:Int) by simp [rI]] at hn
   have hal:(((rI N).take j).filter fun v=>!decide (v ∈ Qa3)).length≤j:=Nat.le_trans (List.length_filter_le _ _) (by simp;omega)
   generalize (((rI N).take j).filter fun v=>!decide (v ∈ Qa3))=A at *
   have hAl:A.length+1≤274877906944:=by omega
   have hAT:A.take A.length=A:=List.take_of_length_le (Nat.le_refl _)
   by_cases hgv:(j:Int) ∈ Qa3
   · simp only [hgv,decide_true,Bool.not_true,Bool.false_eq_true,if_false,List.append_nil] at hn
     refine wW ?_
     repeat (first|apply wA|apply wS|refine wr (by simp [hj2,e1,hgv,hgo,w2];with_reducible rfl) ?_|refine wq (by simp [hj2,e1,hgv,hgo,w2];with_reducible rfl) ?_|refine wt (by simpa [hj2,e1,hgv,hgo,w2]) ?_|refine wf (by simpa [hj2,e1,hgv,hgo,w2]) ?_|refine xt (by simpa [hj2,e1,hgv,hgo,w2]) ?_|refine xf (by simpa [hj2,e1,hgv,hgo,w2]) ?_|apply wB|apply Qab|refine wX ?_|refine wY ?_|refine wR ?_|refine wK ?_|refine wE ?_)
     exact hn
   · simp only [hgv,decide_false,Bool.not_false,if_true] at hn
     refine wW ?_
     repeat (first|apply wA|apply wS|refine wr (by simp [hj2,e1,hgv,hgo,w2,hAl,hAT];with_reducible rfl) ?_|refine wq (by simp [hj2,e1,hgv,hgo,w2,hAl,hAT];with_reducible rfl) ?_|refine wt (by simpa [hj2,e1,hgv,hgo,w2,hAl,hAT]) ?_|refine wf (by simpa [hj2,e1,hgv,hgo,w2,hAl,hAT]) ?_|refine xt (by simpa [hj2,e1,hgv,hgo,w2,hAl,hAT]) ?_|refine xf (by simpa [hj2,e1,hgv,hgo,w2,hAl,hAT]) ?_|apply wB|apply Qab|refine wX ?_|refine wY ?_|refine wR ?_|refine wK ?_|refine wE ?_)
     exact hn
theorem Qg1 (N:Nat):∀ (rest Qa3:List Int) (es:List (Int×Int)),(Qen N rest Qa3 es).1.length=rest.length+es.length∧(Qen N rest Qa3 es).2.length=rest.length+Qa3.length
 | [],Qa3,es=>by simp [Qen]
 | c::r,Qa3,es=>by
   rw [Qen]
   obtain ⟨h1,h2⟩:=Qg1 N r (Qa3++[(Qf9 (c::r) Qa3 N 0:Int)]) (Qk5 (min (Qf9 (c::r) Qa3 N 0:Int) c,max (Qf9 (c::r) Qa3 N 0:Int) c) es)
   rw [h1,h2,Qm0]
   simp;omega
theorem Qrx (code:List Int) (c:Bool) (hc:Qxi code):Ev tb Qwl [] [L code c] [] ⟨OG ((code.length:Int)+2) (Qjr code),[],[],[]⟩:=by
 have hcl:=hc.len
 have w0:IntKind.i64.wrap ((code.length:Int)+2)=(code.length:Int)+2:=Qad (by omega) (by omega)
 have h0:(0:Int)≤(code.length:Int)+2:=by omega
 have hm:code.length+2≤274877906944:=by omega
 have hA:=Jke code c hc [[I 0,Z],[I ((code.length:Int)+2),O2 []]] code.length 0 (List.replicate (code.length+2) 0) (by omega) (by simp) (fun v hv=>by simp [List.getD_eq_getElem?_getD,List.getElem?_replicate,hv])
 have hlen:=Qg1 (code.length+2) code [] []
 have hla:=Qpp (N:=code.length+2) (Qa3:=(Qen (code.length+2) code [] []).2) (by rw [hlen.2];simp)
 have hno:Qb6 (I ((code.length:Int)+2))=some (code.length+2):=Qei (n:=code.length+2)
 refine cW zt341 rfl ?_
 repeat (first|apply wA|apply wS|refine wr (by simp [w0,h0,hm,hno];with_reducible rfl) ?_|refine wq (by simp [w0,h0,hm,hno];with_reducible rfl) ?_|refine wt (by simpa [w0,h0,hm,hno]) ?_|refine wf (by simpa [w0,h0,hm,hno]) ?_|refine xt (by simpa [w0,h0,hm,hno]) ?_|refine xf (by simpa [w0,h0,hm,hno]) ?_|apply wB|apply Qab|refine wX ?_|refine wY ?_|refine wR ?_|refine wK ?_|refine wE ?_)
 refine Qaf hA ?_
 rintro ex st ⟨rfl,left,⟨hll,hq⟩,rfl⟩
 try simp only [if_true]
 repeat (first|apply wA|apply wS|refine wr (by simp;with_reducible rfl) ?_|refine wq (by simp;with_reducible rfl) ?_|refine wt (by simpa) ?_|refine wf (by simpa) ?_|refine xt (by simpa) ?_|refine xf (by simpa) ?_|apply wB|apply Qab|refine wX ?_|refine wY ?_|refine wR ?_|refine wK ?_|refine wE ?_)
 refine Qaf (Jpx code c hc code.length 0 left [] [] (by omega) hll rfl rfl (by simpa using hq)) ?_
 rintro ex st ⟨rfl,left',rfl⟩
 try simp only [if_true,List.drop_zero]
 obtain ⟨q,hqe⟩:∃ q,q=Qen (code.length+2) code [] []:=⟨_,rfl⟩
 rw [← hqe] at hla hlen ⊢
 have hC:=Jm7 (code.length+2) q.2 q.1 (by omega) (by rw [hlen.2];simp;omega) (code.length+2) 0 (by omega)
 rw [show ((code.length+2:Nat):Int)=(code.length:Int)+2 by omega] at hC
 repeat (first|apply wA|apply wS|refine wr (by simp;with_reducible rfl) ?_|refine wq (by simp;with_reducible rfl) ?_|refine wt (by simpa) ?_|refine wf (by simpa) ?_|refine xt (by simpa) ?_|refine xf (by simpa) ?_|apply wB|apply Qab|refine wX ?_|refine wY ?_|refine wR ?_|refine wK ?_|refine wE ?_)
 refine Qaf hC ?_
 rintro ex st ⟨rfl,rfl⟩
 try simp only [if_true]
 have hct:Qjr code=Qk5 (min ((Qij (code.length+2) q.2).getD 0 0) ((Qij (code.length+2) q.2).getD 1 0),max ((Qij (code.length+2) q.2).getD 0 0) ((Qij (code.length+2) q.2).getD 1 0)) q.1:=by rw [Qjr,hqe]
 generalize Qij (code.length+2) q.2=l at *
 obtain ⟨x,y,r,rfl⟩:∃ x y r,l=x::y::r:=by
  match l,hla with
  | x::y::r,_=>exact ⟨x,y,r,rfl⟩
 simp only [List.getD_cons_zero,List.getD_cons_succ] at hct
 have e1:=fun cc=>Qaa (Ql0 ((code.length:Int)+2) q.1 cc x y (by rw [hlen.1];simp;omega))
 rw [← hct] at e1
 have hgo:q.1.take q.1.length=q.1:=List.take_of_length_le (Nat.le_refl _)
 repeat (first|apply wA|apply wS|refine wr (by simp [e1,hgo];with_reducible rfl) ?_|refine wq (by simp [e1,hgo];with_reducible rfl) ?_|refine wt (by simpa [e1,hgo]) ?_|refine wf (by simpa [e1,hgo]) ?_|refine xt (by simpa [e1,hgo]) ?_|refine xf (by simpa [e1,hgo]) ?_|apply wB|apply Qab|refine wX ?_|refine wY ?_|refine wR ?_|refine wK ?_|refine wE ?_)
 simp [Jce]
end Go.Idl
namespace Go.Idl
open Go
theorem Qka {N:Nat} {es:List (Int×Int)} (h:Qca N es) {a b:Int} (ha:0≤a∧a < N) (hb:0≤b∧b < N):Qca N (Qk5 (min a b,max a b) es):=fun e he=>by
 rcases (Qn1 _ _ _).1 he with rfl | he
 · simp only;omega
 · exact h e he
theorem Qsv (N:Nat):∀ (rest Qa3:List Int) (es:List (Int×Int)),Qca N es→(∀ x ∈ rest,0≤x∧x < N)→(∀ x ∈ Qa3,0≤x∧x < N)→rest.length+Qa3.length < N→Qca N (Qen N rest Qa3 es).1
 | [],Qa3,es,h,_,_,_=>h
 | c::r,Qa3,es,h,hr,hg,hl=>by
   obtain ⟨w,h1,h2⟩:=Qzp hl
   have hf:=Qnz (c::r) Qa3 N 0 w (by omega) (by omega) h2
   rw [Qen]
   refine Qsv N r _ _ (Qka h (by omega) (hr c (by simp))) (fun x hx=>hr x (by simp [hx])) (fun x hx=>?_) (by simp at hl ⊢;omega)
   rcases List.mem_append.1 hx with hx | hx
   · exact hg x hx
   · simp at hx;omega
theorem Jde {code:List Int} (hc:Qxi code):Qca (code.length+2) (Qjr code):=by
 have hlen:=Qg1 (code.length+2) code [] []
 have hla:=Qpp (N:=code.length+2) (Qa3:=(Qen (code.length+2) code [] []).2) (by rw [hlen.2];simp)
 have h1:=Qsv (code.length+2) code [] [] (fun e he=>by simp at he) (fun x hx=>by have:=hc.el x hx;omega) (fun x hx=>by simp at hx) (by simp)
 have hm:∀ i,i < (Qij (code.length+2) (Qen (code.length+2) code [] []).2).length→0≤(Qij (code.length+2) (Qen (code.length+2) code [] []).2).getD i 0∧(Qij (code.length+2) (Qen (code.length+2) code [] []).2).getD i 0 < (code.length+2:Nat):=fun i hi=>by
  rw [List.getD_eq_getElem?_getD,List.getElem?_eq_getElem hi]
  exact Jai (List.getElem_mem hi)
 exact Qka h1 (hm 0 (by omega)) (hm 1 (by omega))
theorem Qy3 (code:List Int):(Qjr code).length=code.length+1:=by
 rw [Qjr,Qm0,(Qg1 _ _ _ _).1];simp
theorem atr_in (code:List Int) (c:Bool) (hc:Qcs code) (n:Nat) (hn:n≤5) (bs:Qac) (Ms:List Qac):∀ (m i cnt:Nat) (acc:List Int),i+m=n→acc.length=i→(∀ x ∈ acc,0≤x∧x < (n:Int)+2)→cnt+m≤900000 →
 wp tb (.loop Jgg) { T:=[(0,.bptr 0 0 0),(3,O acc),(4,I n),(5,I i)],loc:=[],M:=(R code c cnt::bs)::Ms }
  (fun ex st=>ex=.exit 0∧∃ (acc:List Int) (k:Nat),(acc.length=n∧(∀ x ∈ acc,0≤x∧x < (n:Int)+2)∧k≤cnt+m)∧st={ T:=[(0,.bptr 0 0 0),(3,O acc),(4,I n),(5,I n),(11,Bo false)],loc:=[],M:=(R code c k::bs)::Ms }):=by
 intro m
 induction m with
 | zero =>
   intro i cnt acc hi hl hb hk
   have h3:i=n:=hi
   subst h3
   refine wW ?_
   repeat (first|apply wA|apply wS|refine wr (by simp;with_reducible rfl) ?_|refine wq (by simp;with_reducible rfl) ?_|refine wt (by simpa) ?_|refine wf (by simpa) ?_|refine xt (by simpa) ?_|refine xf (by simpa) ?_|apply wB|apply Qab|refine wX ?_|refine wY ?_|refine wR ?_|refine wK ?_|refine wE ?_)
   exact ⟨rfl,acc,cnt,⟨hl,hb,by omega⟩,rfl⟩
 | succ m ih =>
   intro i cnt acc hi hl hb hk
   have hi2:i < n:=by omega
   have w1:IntKind.i64.wrap ((n:Int)+2)=(n:Int)+2:=Qad (by omega) (by omega)
   have w2:IntKind.i64.wrap ((i:Int)+1)=((i+1:Nat):Int):=Qa8 (by omega)
   obtain ⟨v,k,hv,hk2,e1⟩:=Qlb code c hc cnt (by omega) ((n:Int)+2) (by omega) bs (Ms++[[]])
   have hv:=hv (by omega)
   have hal:acc.length+1≤274877906944:=by omega
   have hat:acc.take acc.length=acc:=List.take_of_length_le (Nat.le_refl _)
   refine wW ?_
   repeat (first|apply wA|apply wS|refine wr (by simp [hi2,w1,w2,e1,hal,hat];with_reducible rfl) ?_|refine wq (by simp [hi2,w1,w2,e1,hal,hat];with_reducible rfl) ?_|refine wt (by simpa [hi2,w1,w2,e1,hal,hat]) ?_|refine wf (by simpa [hi2,w1,w2,e1,hal,hat]) ?_|refine xt (by simpa [hi2,w1,w2,e1,hal,hat]) ?_|refine xf (by simpa [hi2,w1,w2,e1,hal,hat]) ?_|apply wB|apply Qab|refine wX ?_|refine wY ?_|refine wR ?_|refine wK ?_|refine wE ?_)
   refine Qaf (ih (i+1) k (acc++[(v:Int)]) (by omega) (by simp [hl]) (fun x hx=>?_) (by omega)) ?_
   · rcases List.mem_append.1 hx with hx | hx
     · exact hb x hx
     · simp at hx;omega
   · rintro ex st ⟨rfl,acc',k',⟨h1,h2,h3⟩,rfl⟩
     exact ⟨rfl,acc',k',⟨h1,h2,by omega⟩,rfl⟩
theorem Jen (code:List Int) (c:Bool) (hc:Qcs code) (cnt:Nat) (hn:cnt≤80000) (bs:Qac) (Ms:List Qac) :
 ∃ (d:List Int) (k:Nat),d.length≤7∧Low 1000 d∧k≤cnt+10 ∧
   Qcg tb Qu7 [] [.bptr 0 0 0] ((R code c cnt::bs)::Ms)=some ⟨O d,[],(R code c k::bs)::Ms,[]⟩:=by
 obtain ⟨v,k1,hv,hk1,e1⟩:=Qlb code c hc cnt (by omega) 6 (by omega) bs (Ms++[[]])
 have hv:=hv (by omega)
 suffices hh:∃ r,(∃ (d:List Int) (k:Nat),d.length≤7∧Low 1000 d∧k≤cnt+10∧r=⟨O d,[],(R code c k::bs)::Ms,[]⟩)∧Ev tb Qu7 [] [.bptr 0 0 0] ((R code c cnt::bs)::Ms) r by
  obtain ⟨r,⟨d,k,q1,q2,q3,rfl⟩,q4⟩:=hh
  exact ⟨d,k,q1,q2,q3,Qaa q4⟩
 refine Qe8 zt334 rfl ?_
 repeat (first|apply wA|apply wS|refine wr (by simp [e1];with_reducible rfl) ?_|refine wq (by simp [e1];with_reducible rfl) ?_|refine wt (by simpa [e1]) ?_|refine wf (by simpa [e1]) ?_|refine xt (by simpa [e1]) ?_|refine xf (by simpa [e1]) ?_|apply wB|apply Qab|refine wX ?_|refine wY ?_|refine wR ?_|refine wK ?_|refine wE ?_)
 refine Qaf (atr_in code c hc v (by omega) bs Ms v 0 k1 [] (by omega) rfl (by simp) (by omega)) ?_
 rintro ex st ⟨rfl,acc,k,⟨h1,h2,h3⟩,rfl⟩
 try simp only [if_true]
 have hc7:Qxi acc:=⟨by omega,fun x hx=>by have:=h2 x hx;omega⟩
 have e2:=fun cc=>Qaa (Qrx acc cc hc7)
 have hin:=Jde hc7
 have hel:=Qy3 acc
 have e3:=fun cc=>Qaa (Qh3 (acc.length+2) (Qjr acc) cc (by omega) (by omega) hin)
 have hdl:(Qda (acc.length+2) (Qjr acc)).length=acc.length+2:=by rw [Qda,Qc9];simp
 have hlo:Low 1000 (Qda (acc.length+2) (Qjr acc)):=by
  intro x hx
  have:=Qex (Qjr acc) (List.replicate (acc.length+2) 0) 0 (by intro x hx;have:=List.eq_of_mem_replicate hx;omega) (by omega) x hx
  omega
 have hto:acc.take acc.length=acc:=List.take_of_length_le (Nat.le_refl _)
 have hn2:((acc.length+2:Nat):Int)=(acc.length:Int)+2:=by omega
 rw [hn2] at e3
 generalize Qda (acc.length+2) (Qjr acc)=d at *
 repeat (first|apply wA|apply wS|refine wr (by simp [e2,e3,hto];with_reducible rfl) ?_|refine wq (by simp [e2,e3,hto];with_reducible rfl) ?_|refine wt (by simpa [e2,e3,hto]) ?_|refine wf (by simpa [e2,e3,hto]) ?_|refine xt (by simpa [e2,e3,hto]) ?_|refine xf (by simpa [e2,e3,hto]) ?_|apply wB|apply Qab|refine wX ?_|refine wY ?_|refine wR ?_|refine wK ?_|refine wE ?_)
 refine ⟨.inr rfl,_,⟨d,k,by omega,hlo,by omega,rfl⟩,?_⟩
 simp [Jfj]
end Go.Idl
namespace Go.Idl
open Go
abbrev Str (s:ByteArray):IV:=.sc (.string s)
def Jg2 (l:List ByteArray):List (List IV):=l.map fun s=>[Str s]
@[simp] theorem strs_len (l:List ByteArray):(Jg2 l).length=l.length:=by simp [Jg2]
@[simp] theorem strs_get (l:List ByteArray) (i:Nat) (h:i < (Jg2 l).length):(Jg2 l)[i]=[IV.sc (.string (l[i]'(by simpa [Jg2] using h)))]:=by simp [Jg2]
@[simp] theorem strs_get? (l:List ByteArray) (i:Nat):(Jg2 l)[i]? = l[i]?.map fun s=>[IV.sc (.string s)]:=by simp [Jg2]
end Go.Idl
namespace Go.Idl
open Go
def gls (n:Int) (gl:List (List (Int×Int))):List (List IV):=gl.map fun es=>[I n,O2 es]
@[simp] theorem gls_len (n:Int) (gl):(gls n gl).length=gl.length:=by simp [gls]
@[simp] theorem gls_one (n:Int) (gl) (es:List (Int×Int)):gls n gl++[[IV.sc (.int .i64 n),.own 2 (eds es)]]=gls n (gl++[es]):=by simp [gls]
@[simp] theorem gls_emp (n:Int) (gl):(gls n gl).isEmpty=gl.isEmpty:=by cases gl <;> rfl
@[simp] theorem gls_take (n:Int) (gl) (k:Nat):(gls n gl).take k=gls n (gl.take k):=by simp [gls,List.map_take]
@[simp] theorem gls_all (n:Int) (gl):((gls n gl).all fun x=>x.all IV.isData)=true:=by
  induction gl with
  | nil=>rfl
  | cons x xs ih=>simp only [gls,List.map_cons,List.all_cons] at *;rw [ih];rfl
@[simp] theorem gls_noLst (n:Int) (gl):Qb2 (gls n gl)=true:=by
  induction gl with
  | nil=>rfl
  | cons x xs ih=>simp only [gls,List.map_cons,Qb2,Qbi,Qcc,Jbs] at *;rw [ih];rfl
end Go.Idl
namespace Go.Idl
open Go
theorem Qmn (code:List Int) (c:Bool) (hc:Qcs code) (cnt:Nat) (hn:cnt≤90000) (bs:Qac) (Ms:List Qac) :
 ∃ (n:Nat) (es:List (Int×Int)) (k:Nat),n≤5∧es.Sublist (prs n)∧k≤cnt+101 ∧
   Qcg tb Qwf [] [.bptr 0 0 0] ((R code c cnt::bs)::Ms)=some ⟨OG n es,[],(R code c k::bs)::Ms,[]⟩:=by
 obtain ⟨x,k1,hx,hk1,e1⟩:=Jwl code c hc cnt (by omega) [5,4,5,3,2,1] (by simp) bs (Ms++[[[I 0,.lst 0 [] true]]])
 obtain ⟨n,rfl,hn7⟩:∃ n:Nat,x=(n:Int)∧n≤5:=by
  simp at hx
  exact ⟨x.toNat,by omega,by omega⟩
 obtain ⟨es,k,hs,hk,ea⟩:=Qp3 code c hc k1 (by omega) n (by omega) bs (Ms++[[[I 0,.lst 0 [] true]]])
 have e2:=Qaa ea
 refine ⟨n,es,k,hn7,hs,by omega,Qaa ?_⟩
 refine cW zt375 rfl ?_
 repeat (first|apply wA|apply wS|refine wr (by simp [e1,e2];with_reducible rfl) ?_|refine wq (by simp [e1,e2];with_reducible rfl) ?_|refine wt (by simpa [e1,e2]) ?_|refine wf (by simpa [e1,e2]) ?_|refine xt (by simpa [e1,e2]) ?_|refine xf (by simpa [e1,e2]) ?_|apply wB|apply Qab|refine wX ?_|refine wY ?_|refine wR ?_|refine wK ?_|refine wE ?_)
 simp [Jfk]
theorem Qkw (code:List Int) (c:Bool) (hc:Qcs code) (cnt:Nat) (hn:cnt≤80000) (bs:Qac) (Ms:List Qac) :
 ∃ (d:List Int) (k:Nat),d.length≤5∧Low 1000 d∧k≤cnt+200 ∧
   Qcg tb Qzr [] [.bptr 0 0 0] ((R code c cnt::bs)::Ms)=some ⟨O d,[],(R code c k::bs)::Ms,[]⟩:=by
 obtain ⟨n,es,k,hn7,hs,hk,e1⟩:=Qmn code c hc cnt (by omega) bs (Ms++[[]])
 have hel:=Qzm (by omega) hs
 have e2:=Qaa (Qh3 n es false (by omega) (by omega) (Jf6 hs))
 have hdl:(Qda n es).length=n:=by rw [Qda,Qc9];simp
 have hlo:Low 1000 (Qda n es):=by
  intro x hx
  have:=Qex es (List.replicate n 0) 0 (by intro x hx;have:=List.eq_of_mem_replicate hx;omega) (by omega) x hx
  omega
 obtain ⟨v,k2,hv,hk2,e3⟩:=Qlb code c hc k (by omega) 3 (by omega) bs (Ms++[[]])
 generalize Qda n es=d at *
 by_cases hv0:v=0
 · subst hv0
   obtain ⟨d',k3,hd',hlo',hk3,e4⟩:=Qj6 code c hc k2 (by omega) d (by omega) hlo bs (Ms++[[]])
   refine ⟨d',k3,by omega,hlo',by omega,Qaa ?_⟩
   refine cW zt374 rfl ?_
   repeat (first|apply wA|apply wS|refine wr (by simp [e1,e2,e3,e4];with_reducible rfl) ?_|refine wq (by simp [e1,e2,e3,e4];with_reducible rfl) ?_|refine wt (by simpa [e1,e2,e3,e4]) ?_|refine wf (by simpa [e1,e2,e3,e4]) ?_|refine xt (by simpa [e1,e2,e3,e4]) ?_|refine xf (by simpa [e1,e2,e3,e4]) ?_|apply wB|apply Qab|refine wX ?_|refine wY ?_|refine wR ?_|refine wK ?_|refine wE ?_)
   simp [Qwm]
 · have hv1:¬ (v:Int)=0:=by omega
   refine ⟨d,k2,by omega,hlo,by omega,Qaa ?_⟩
   refine cW zt374 rfl ?_
   repeat (first|apply wA|apply wS|refine wr (by simp [e1,e2,e3,hv0,hv1];with_reducible rfl) ?_|refine wq (by simp [e1,e2,e3,hv0,hv1];with_reducible rfl) ?_|refine wt (by simpa [e1,e2,e3,hv0,hv1]) ?_|refine wf (by simpa [e1,e2,e3,hv0,hv1]) ?_|refine xt (by simpa [e1,e2,e3,hv0,hv1]) ?_|refine xf (by simpa [e1,e2,e3,hv0,hv1]) ?_|apply wB|apply Qab|refine wX ?_|refine wY ?_|refine wR ?_|refine wK ?_|refine wE ?_)
   simp [Qwm]
theorem Qny (code:List Int) (c:Bool) (hc:Qcs code) (cnt:Nat) (hn:cnt≤60000) (bs:Qac) (Ms:List Qac) :
 ∃ (d:List Int) (k:Nat),d.length≤8∧Low 1000 d∧k≤cnt+400 ∧
   Qcg tb Qz7 [] [.bptr 0 0 0] ((R code c cnt::bs)::Ms)=some ⟨O d,[],(R code c k::bs)::Ms,[]⟩:=by
 obtain ⟨v,k1,hv,hk1,e1⟩:=Qlb code c hc cnt (by omega) 24 (by omega) bs (Ms++[[]])
 by_cases hv0:v=0
 · subst hv0
   obtain ⟨d,k2,h1,h2,h3,e2⟩:=Qla code c hc k1 (by omega) bs (Ms++[[]])
   refine ⟨d,k2,h1,h2,by omega,Qaa ?_⟩
   refine cW Jww rfl ?_
   repeat (first|apply wA|apply wS|refine wr (by simp [e1,e2];with_reducible rfl) ?_|refine wq (by simp [e1,e2];with_reducible rfl) ?_|refine wt (by simpa [e1,e2]) ?_|refine wf (by simpa [e1,e2]) ?_|refine xt (by simpa [e1,e2]) ?_|refine xf (by simpa [e1,e2]) ?_|apply wB|apply Qab|refine wX ?_|refine wY ?_|refine wR ?_|refine wK ?_|refine wE ?_)
   simp [Ja8]
 · have hv1:¬ (v:Int)=0:=by omega
   obtain ⟨d,k2,h1,h2,h3,e2⟩:=Qkw code c hc k1 (by omega) bs (Ms++[[]])
   obtain ⟨d',k3,j1,j2,j3,e3⟩:=Qzk code c hc k2 (by omega) d (by omega) h2 bs (Ms++[[]])
   refine ⟨d',k3,by omega,j2,by omega,Qaa ?_⟩
   refine cW Jww rfl ?_
   repeat (first|apply wA|apply wS|refine wr (by simp [e1,e2,e3,hv0,hv1];with_reducible rfl) ?_|refine wq (by simp [e1,e2,e3,hv0,hv1];with_reducible rfl) ?_|refine wt (by simpa [e1,e2,e3,hv0,hv1]) ?_|refine wf (by simpa [e1,e2,e3,hv0,hv1]) ?_|refine xt (by simpa [e1,e2,e3,hv0,hv1]) ?_|refine xf (by simpa [e1,e2,e3,hv0,hv1]) ?_|apply wB|apply Qab|refine wX ?_|refine wY ?_|refine wR ?_|refine wK ?_|refine wE ?_)
   simp [Ja8]
end Go.Idl
namespace Go.Idl
open Go
abbrev GF:=List (List (Int×Int)×Bool)
def glf (n:Int) (R:GF):List (List IV):=R.map fun x=>[I n,L2 x.1 x.2]
@[simp] theorem glf_len (n:Int) (R:GF):(glf n R).length=R.length:=by simp [glf]
@[simp] theorem glf_nil (n:Int):glf n []=[]:=rfl
@[simp] theorem glf_app (n:Int) (R S:GF):glf n R++glf n S=glf n (R++S):=by simp [glf]
@[simp] theorem glf_take (n:Int) (R:GF) (k:Nat):(glf n R).take k=glf n (R.take k):=by simp [glf,List.map_take]
@[simp] theorem glf_all (n:Int) (R:GF):((glf n R).all fun x=>x.all IV.isData)=true:=by
  induction R with
  | nil=>rfl
  | cons x xs ih=>simp only [glf,List.map_cons,List.all_cons] at *;rw [ih];rfl
end Go.Idl
namespace Go.Idl
open Go
@[simp] theorem un_neg (n:Int):Op.unary .neg (.int .i64 n)=.pure (.int .i64 (IntKind.i64.wrap (-n))):=by
  rw [← Int.zero_sub];rfl
def gs (r c:List Int) (i:Nat):Int:=-((fall r).take (i+1)).sum+(c.map fun x:Int=>min x ((i:Int)+1)).sum
end Go.Idl
namespace Go.Idl
open Go
def TT (n:Nat) (t:List (List Int)):Prop:=t.length=n∧∀ r ∈ t,r.length=n∧∀ x ∈ r,0≤x∧x≤1
theorem TT.set {n:Nat} {t:List (List Int)} (h:TT n t) {a b:Nat} {v:Int} (ha:a < t.length) (hv:0≤v∧v≤1):TT n (t.set a (t[a].set b v)):=by
 refine ⟨by simpa using h.1,fun r hr=>?_⟩
 have h1:=h.2 _ (List.getElem_mem ha)
 rcases List.mem_or_eq_of_mem_set hr with hr | rfl
 · exact h.2 r hr
 · refine ⟨by simpa using h1.1,fun x hx=>?_⟩
   rcases List.mem_or_eq_of_mem_set hx with hx | rfl
   · exact h1.2 x hx
   · exact hv
end Go.Idl
namespace Go.Idl
open Go
def MM (h w:Nat) (t:List (List Int)):Prop:=t.length=h∧∀ r ∈ t,r.length=w∧∀ x ∈ r,0≤x∧x≤1
end Go.Idl
namespace Go.Idl
open Go
theorem MM.sums {h w:Nat} {t:List (List Int)} (ht:MM h w t) (hw:w≤5):∀ x ∈ t.map List.sum,0≤x∧x≤5:=by
 intro x hx
 obtain ⟨r,hr,rfl⟩:=List.mem_map.1 hx
 have h1:=ht.2 r hr
 have:=sum01 r h1.2
 omega
end Go.Idl
namespace Go.Idl
open Go
def Qpr (p:Int×Int→Bool) (i:Int):List (Int×Int)→Int
 | []=>-1
 | x::xs=>if p x then i else Qpr p (i+1) xs
theorem Qk6 (xs:List (Int×Int)) (F:Lab) (caps:List IV) (M:List Qac) (p:Int×Int→Bool) (hl:xs.length≤1000000)
 (hp:∀ x ∈ xs,Ev tb F [] (.agg [I x.1,I x.2]::caps) (M++[[]]) ⟨Bo (p x),[],M++[[]],[]⟩) :
 Ev tb Qxh [0] [O2 xs,.fn F caps] M ⟨I (Qpr p 0 xs),[O2 xs],M,[]⟩:=by
 have loop:∀ (m i:Nat),i+m=xs.length→wp tb (.loop Jgz) { T:=[(0,O2 xs),(1,.fn F caps),(7,I xs.length),(8,I i)],loc:=[],M:=M }
  (fun ex st=>(ex=.exit 0∧Qpr p i (xs.drop i)=-1∧st={ T:=[(0,O2 xs),(1,.fn F caps),(7,I xs.length),(8,I xs.length),(9,Bo false)],loc:=[],M:=M }) ∨
    ex=.ret∧st={ T:=[(0,O2 xs),(4,I (Qpr p i (xs.drop i)))],loc:=[],M:=M }):=by
  intro m
  induction m with
  | zero =>
    intro i hi
    have h2:xs.drop i=[]:=List.drop_of_length_le (by omega)
    have h3:i=xs.length:=hi
    subst h3
    refine wW ?_
    repeat (first|apply wA|apply wS|refine wr (by simp;with_reducible rfl) ?_|refine wq (by simp;with_reducible rfl) ?_|refine wt (by simpa) ?_|refine wf (by simpa) ?_|refine xt (by simpa) ?_|refine xf (by simpa) ?_|apply wB|apply Qab|refine wX ?_|refine wY ?_|refine wR ?_|refine wK ?_|refine wE ?_)
    refine .inl ⟨rfl,by rw [h2];rfl,rfl⟩
  | succ m ih =>
    intro i hi
    have hi2:i < xs.length:=by omega
    have h2:xs.drop i=xs[i]::xs.drop (i+1):=List.drop_eq_getElem_cons hi2
    have e1:=Qaa (hp _ (List.getElem_mem hi2))
    have w1:IntKind.i64.wrap ((i:Int)+1)=((i+1:Nat):Int):=Qa8 (by omega)
    have gx:(eds xs)[i]'(by simpa using hi2)=[I xs[i].1,I xs[i].2]:=by simp [eds]
    rw [h2]
    cases hpx:p xs[i] with
    | true =>
      refine wW ?_
      repeat (first|apply wA|apply wS|refine wr (by simp [e1,hi2,w1,hpx,gx];with_reducible rfl) ?_|refine wq (by simp [e1,hi2,w1,hpx,gx];with_reducible rfl) ?_|refine wt (by simpa [e1,hi2,w1,hpx,gx]) ?_|refine wf (by simpa [e1,hi2,w1,hpx,gx]) ?_|refine xt (by simpa [e1,hi2,w1,hpx,gx]) ?_|refine xf (by simpa [e1,hi2,w1,hpx,gx]) ?_|apply wB|apply Qab|refine wX ?_|refine wY ?_|refine wR ?_|refine wK ?_|refine wE ?_)
      refine .inr ⟨rfl,by simp [Qpr,hpx]⟩
    | false =>
      refine wW ?_
      repeat (first|apply wA|apply wS|refine wr (by simp [e1,hi2,w1,hpx,gx];with_reducible rfl) ?_|refine wq (by simp [e1,hi2,w1,hpx,gx];with_reducible rfl) ?_|refine wt (by simpa [e1,hi2,w1,hpx,gx]) ?_|refine wf (by simpa [e1,hi2,w1,hpx,gx]) ?_|refine xt (by simpa [e1,hi2,w1,hpx,gx]) ?_|refine xf (by simpa [e1,hi2,w1,hpx,gx]) ?_|apply wB|apply Qab|refine wX ?_|refine wY ?_|refine wR ?_|refine wK ?_|refine wE ?_)
      have:=ih (i+1) (by omega)
      simp only [Qpr,hpx] at this ⊢
      exact this
 refine cW zt448 rfl ?_
 repeat (first|apply wA|apply wS|refine wr (by simp;with_reducible rfl) ?_|refine wq (by simp;with_reducible rfl) ?_|refine wt (by simpa) ?_|refine wf (by simpa) ?_|refine xt (by simpa) ?_|refine xf (by simpa) ?_|apply wB|apply Qab|refine wX ?_|refine wY ?_|refine wR ?_|refine wK ?_|refine wE ?_)
 refine Qaf (loop xs.length 0 (by simp)) ?_
 rintro ex st (⟨rfl,h,rfl⟩ | ⟨rfl,rfl⟩)
 · simp only [if_true]
   repeat (first|apply wA|apply wS|refine wr (by simp;with_reducible rfl) ?_|refine wq (by simp;with_reducible rfl) ?_|refine wt (by simpa) ?_|refine wf (by simpa) ?_|refine xt (by simpa) ?_|refine xf (by simpa) ?_|apply wB|apply Qab|refine wX ?_|refine wY ?_|refine wR ?_|refine wK ?_|refine wE ?_)
   simp at h
   simp [Jaa,h]
 · simp [Jaa]
theorem Qgv (p:Int×Int→Bool):∀ (xs:List (Int×Int)) (i:Nat),(Qpr p i xs=-1∧∀ x ∈ xs,p x=false) ∨ ∃ k:Nat,∃ h:k < xs.length,Qpr p i xs=((i+k:Nat):Int)∧p xs[k]=true∧∀ x ∈ xs.take k,p x=false
 | [],i=>.inl ⟨rfl,by simp⟩
 | x::r,i=>by
   cases hp:p x with
   | true=>exact .inr ⟨0,by simp,by simp [Qpr,hp],hp,by simp⟩
   | false =>
     rcases Qgv p r (i+1) with ⟨h1,h2⟩ | ⟨k,hk,h1,h2,h3⟩
     · refine .inl ⟨?_,fun y hy=>?_⟩
       · simp only [Qpr,hp,Bool.false_eq_true,if_false];exact h1
       · rcases List.mem_cons.1 hy with rfl | hy
         · exact hp
         · exact h2 y hy
     · refine .inr ⟨k+1,by simp;exact hk,?_,h2,fun y hy=>?_⟩
       · simp only [Qpr,hp,Bool.false_eq_true,if_false]
         rw [show ((i:Int)+1)=((i+1:Nat):Int) by omega,h1];omega
       · rw [List.take_succ_cons] at hy
         rcases List.mem_cons.1 hy with rfl | hy
         · exact hp
         · exact h3 y hy
theorem Qy9 (xs:List (Int×Int)) (F:Lab) (caps:List IV) (M:List Qac) (p:Int×Int→Bool) (hl:xs.length≤1000000)
 (hp:∀ bs,∀ x ∈ xs,Ev tb F [] (.agg [I x.1,I x.2]::caps) (M++[bs]) ⟨Bo (p x),[],M++[bs],[]⟩):∀ (m j i:Nat) (s:List (Int×Int)) (bs:Qac),j+m=xs.length→i < j→s.length=xs.length→s.take i=(xs.take j).filter (fun x=>!p x)→s.drop j=xs.drop j →
 wp tb (.loop Ja6) { T:=[(0,O2 s),(1,.fn F caps),(5,I i),(6,I j)],loc:=bs,M:=M }
  (fun ex st=>ex=.exit 0∧∃ (i:Nat) (s:List (Int×Int)) (bs:Qac),(i < xs.length∧s.length=xs.length∧s.take i=xs.filter (fun x=>!p x))∧st={ T:=[(0,O2 s),(1,.fn F caps),(5,I i),(6,I xs.length),(19,Bo false)],loc:=bs,M:=M }):=by
 intro m
 induction m with
 | zero =>
   intro j i s bs hj hij hs h1 h2
   have h3:j=xs.length:=hj
   subst h3
   rw [List.take_length] at h1
   refine wW ?_
   repeat (first|apply wA|apply wS|refine wr (by simp [hs];with_reducible rfl) ?_|refine wq (by simp [hs];with_reducible rfl) ?_|refine wt (by simpa [hs]) ?_|refine wf (by simpa [hs]) ?_|refine xt (by simpa [hs]) ?_|refine xf (by simpa [hs]) ?_|apply wB|apply Qab|refine wX ?_|refine wY ?_|refine wR ?_|refine wK ?_|refine wE ?_)
   exact ⟨rfl,i,s,bs,⟨hij,hs,h1⟩,rfl⟩
 | succ m ih =>
   intro j i s bs hj hij hs h1 h2
   have hjl:j < xs.length:=by omega
   have hjs:j < s.length:=by omega
   have hil:i < s.length:=by omega
   have hil':i < xs.length:=by omega
   have hsj:s[j]=xs[j]:=by
    have h3:s.drop j=s[j]::s.drop (j+1):=List.drop_eq_getElem_cons hjs
    have h4:xs.drop j=xs[j]::xs.drop (j+1):=List.drop_eq_getElem_cons hjl
    rw [h3,h4] at h2
    exact (List.cons.inj h2).1
   have hd2:s.drop (j+1)=xs.drop (j+1):=by
    have h3:s.drop j=s[j]::s.drop (j+1):=List.drop_eq_getElem_cons hjs
    have h4:xs.drop j=xs[j]::xs.drop (j+1):=List.drop_eq_getElem_cons hjl
    rw [h3,h4] at h2
    exact (List.cons.inj h2).2
   have gx:(eds s)[j]'(by simpa using hjs)=[I xs[j].1,I xs[j].2]:=by simp [eds,hsj]
   have e1:=fun bs=>Qaa (hp bs _ (List.getElem_mem hjl))
   have w1:IntKind.i64.wrap ((j:Int)+1)=((j+1:Nat):Int):=Qa8 (by omega)
   have w2:IntKind.i64.wrap ((i:Int)+1)=((i+1:Nat):Int):=Qa8 (by omega)
   have ht:(xs.take (j+1)).filter (fun x=>!p x)=(xs.take j).filter (fun x=>!p x)++(if p xs[j] then [] else [xs[j]]):=by
    rw [List.take_succ_eq_append_getElem hjl,List.filter_append,List.filter_cons,List.filter_nil]
    cases p xs[j] <;> rfl
   cases hpx:p xs[j] with
   | true =>
     rw [hpx,if_pos rfl,List.append_nil] at ht
     have hn:=fun bs=>ih (j+1) i s bs (by omega) (by omega) hs (by rw [ht];exact h1) hd2
     refine wW ?_
     repeat (first|apply wA|apply wS|refine wr (by simp [hs,hjl,hjs,gx,e1,hpx,w1];with_reducible rfl) ?_|refine wq (by simp [hs,hjl,hjs,gx,e1,hpx,w1];with_reducible rfl) ?_|refine wt (by simpa [hs,hjl,hjs,gx,e1,hpx,w1]) ?_|refine wf (by simpa [hs,hjl,hjs,gx,e1,hpx,w1]) ?_|refine xt (by simpa [hs,hjl,hjs,gx,e1,hpx,w1]) ?_|refine xf (by simpa [hs,hjl,hjs,gx,e1,hpx,w1]) ?_|apply wB|apply Qab|refine wX ?_|refine wY ?_|refine wR ?_|refine wK ?_|refine wE ?_)
     exact hn _
   | false =>
     rw [hpx,if_neg (by simp)] at ht
     have hn:=fun bs=>ih (j+1) (i+1) (s.set i xs[j]) bs (by omega) (by omega) (by simpa using hs) (by
      rw [ht,← h1,List.take_succ_eq_append_getElem (by simpa using hil),List.take_set_of_le (Nat.le_refl _),List.getElem_set_self]) (by
      rw [List.drop_set_of_lt (by omega)];exact hd2)
     refine wW ?_
     repeat (first|apply wA|apply wS|refine wr (by simp [hs,hjl,hjs,gx,e1,hpx,w1,w2,hil,hil',Qik];with_reducible rfl) ?_|refine wq (by simp [hs,hjl,hjs,gx,e1,hpx,w1,w2,hil,hil',Qik];with_reducible rfl) ?_|refine wt (by simpa [hs,hjl,hjs,gx,e1,hpx,w1,w2,hil,hil',Qik]) ?_|refine wf (by simpa [hs,hjl,hjs,gx,e1,hpx,w1,w2,hil,hil',Qik]) ?_|refine xt (by simpa [hs,hjl,hjs,gx,e1,hpx,w1,w2,hil,hil',Qik]) ?_|refine xf (by simpa [hs,hjl,hjs,gx,e1,hpx,w1,w2,hil,hil',Qik]) ?_|apply wB|apply Qab|refine wX ?_|refine wY ?_|refine wR ?_|refine wK ?_|refine wE ?_)
     exact hn _
theorem Qfq (xs:List (Int×Int)):((eds xs).all fun x=>x.all IV.isSc)=true:=by
 induction xs with
 | nil=>rfl
 | cons x xs ih=>simp only [eds,List.map_cons,List.all_cons] at *;rw [ih];rfl
theorem Qgc (xs:List (Int×Int)) (F:Lab) (caps:List IV) (M:List Qac) (p:Int×Int→Bool) (hl:xs.length≤1000000)
 (hp:∀ bs M' x,x ∈ xs→Ev tb F [] (.agg [I x.1,I x.2]::caps) (M++[bs]++M') ⟨Bo (p x),[],M++[bs]++M',[]⟩) :
 Ev tb Qvm [] [O2 xs,.fn F caps] M ⟨O2 (xs.filter fun x=>!p x),[],M,[]⟩:=by
 have e1:=Qaa (Qk6 xs F caps (M++[[]]) p hl (fun x hx=>hp [] [[]] x hx))
 rcases Qgv p xs 0 with ⟨h1,h2⟩ | ⟨k,hk,h1,h2,h3⟩
 · rw [show ((0:Nat):Int)=0 from rfl] at h1
   rw [h1] at e1
   have hf:(xs.filter fun x=>!p x)=xs:=List.filter_eq_self.2 fun x hx=>by rw [h2 x hx];rfl
   rw [hf]
   refine cW Jz6 rfl ?_
   repeat (first|apply wA|apply wS|refine wr (by simp [e1];with_reducible rfl) ?_|refine wq (by simp [e1];with_reducible rfl) ?_|refine wt (by simpa [e1]) ?_|refine wf (by simpa [e1]) ?_|refine xt (by simpa [e1]) ?_|refine xf (by simpa [e1]) ?_|apply wB|apply Qab|refine wX ?_|refine wY ?_|refine wR ?_|refine wK ?_|refine wE ?_)
   simp [Qzn]
 · rw [show ((0:Nat):Int)=0 from rfl,Nat.zero_add] at h1
   rw [h1] at e1
   have hk0:¬ (k:Int)=-1:=by omega
   have w1:IntKind.i64.wrap ((k:Int)+1)=((k+1:Nat):Int):=Qa8 (by omega)
   have hlo:=Qy9 xs F caps M p hl (fun bs x hx=>by simpa using hp bs [] x hx) (xs.length - (k+1)) (k+1) k xs [] (by omega) (by omega) rfl (by
    rw [List.take_succ_eq_append_getElem hk,List.filter_append,List.filter_cons,h2]
    simp only [Bool.not_true,Bool.false_eq_true,if_false,List.filter_nil,List.append_nil]
    exact (List.filter_eq_self.2 fun x hx=>by rw [h3 x hx];rfl).symm) rfl
   refine cW Jz6 rfl ?_
   repeat (first|apply wA|apply wS|refine wr (by simp [e1,hk0,w1];with_reducible rfl) ?_|refine wq (by simp [e1,hk0,w1];with_reducible rfl) ?_|refine wt (by simpa [e1,hk0,w1]) ?_|refine wf (by simpa [e1,hk0,w1]) ?_|refine xt (by simpa [e1,hk0,w1]) ?_|refine xf (by simpa [e1,hk0,w1]) ?_|apply wB|apply Qab|refine wX ?_|refine wY ?_|refine wR ?_|refine wK ?_|refine wE ?_)
   refine Qaf hlo ?_
   rintro ex st ⟨rfl,i,s,bs,⟨k1,k2,k3⟩,rfl⟩
   simp only [if_true]
   have hil:i≤xs.length:=by omega
   have hz:s.drop xs.length=[]:=List.drop_of_length_le (by omega)
   have hti:(s.take i).length=i:=by simp;omega
   have hfl:(xs.filter fun x=>!p x).length=i:=by rw [← k3];exact hti
   generalize (xs.filter fun x=>!p x)=G at *
   have htk:∀ Z:List (List IV),(eds G++Z).take i=eds G:=fun Z=>by
    rw [List.take_append_of_le_length (by rw [Qwo];omega),List.take_of_length_le (by rw [Qwo];omega)]
   repeat (first|apply wA|apply wS|refine wr (by simp [k2,hil,↓Qfq,hz,k3,hti,hfl,htk];with_reducible rfl) ?_|refine wq (by simp [k2,hil,↓Qfq,hz,k3,hti,hfl,htk];with_reducible rfl) ?_|refine wt (by simpa [k2,hil,↓Qfq,hz,k3,hti,hfl,htk]) ?_|refine wf (by simpa [k2,hil,↓Qfq,hz,k3,hti,hfl,htk]) ?_|refine xt (by simpa [k2,hil,↓Qfq,hz,k3,hti,hfl,htk]) ?_|refine xf (by simpa [k2,hil,↓Qfq,hz,k3,hti,hfl,htk]) ?_|apply wB|apply Qab|refine wX ?_|refine wY ?_|refine wR ?_|refine wK ?_|refine wE ?_)
   simp [Qzn]
end Go.Idl
namespace Go.Idl
open Go
structure Jgy (n:Int) (es:List (Int×Int)):Prop where
 n1:-1≤n
 n2:n≤8
 len:es.length≤60
 el:∀ e ∈ es,-1≤e.1∧e.1≤8∧-1≤e.2∧e.2≤8
theorem Jgy.fit {n es} (h:Jgy n es):Fit es:=fun e he=>by have:=h.el e he;omega
end Go.Idl
namespace Go.Idl
open Go
theorem Qet (e0:Nat) (xs:List (Int×Int)) (c:Bool) (he0:e0=2 ∨ xs=[]) (F:Lab) (caps:List IV) (M:List Qac) (p:Int×Int→Bool) (hl:xs.length≤1000000)
 (hp:∀ x ∈ xs,Ev tb F [] (.agg [I x.1,I x.2]::caps) (M++[[]]) ⟨Bo (p x),[],M++[[]],[]⟩) :
 Ev tb Qt4 [] [.lst e0 (eds xs) c,.fn F caps] M ⟨I (Qpr p 0 xs),[],M,[]⟩:=by
 have loop:∀ (m i:Nat),i+m=xs.length→wp tb (.loop Jf9) { T:=[(0,.lst e0 (eds xs) c),(1,.fn F caps),(7,I xs.length),(8,I i)],loc:=[],M:=M }
  (fun ex st=>(ex=.exit 0∧Qpr p i (xs.drop i)=-1∧st={ T:=[(0,.lst e0 (eds xs) c),(1,.fn F caps),(7,I xs.length),(8,I xs.length),(9,Bo false)],loc:=[],M:=M }) ∨
    ex=.ret∧st={ T:=[(4,I (Qpr p i (xs.drop i)))],loc:=[],M:=M }):=by
  intro m
  induction m with
  | zero =>
    intro i hi
    have h2:xs.drop i=[]:=List.drop_of_length_le (by omega)
    have h3:i=xs.length:=hi
    subst h3
    refine wW ?_
    repeat (first|apply wA|apply wS|refine wr (by simp;with_reducible rfl) ?_|refine wq (by simp;with_reducible rfl) ?_|refine wt (by simpa) ?_|refine wf (by simpa) ?_|refine xt (by simpa) ?_|refine xf (by simpa) ?_|apply wB|apply Qab|refine wX ?_|refine wY ?_|refine wR ?_|refine wK ?_|refine wE ?_)
    refine .inl ⟨rfl,by rw [h2];rfl,rfl⟩
  | succ m ih =>
    intro i hi
    have hi2:i < xs.length:=by omega
    have he2:e0=2:=by
     rcases he0 with h | h
     · exact h
     · rw [h] at hi2;cases hi2
    subst he2
    have h2:xs.drop i=xs[i]::xs.drop (i+1):=List.drop_eq_getElem_cons hi2
    have e1:=Qaa (hp _ (List.getElem_mem hi2))
    have w1:IntKind.i64.wrap ((i:Int)+1)=((i+1:Nat):Int):=Qa8 (by omega)
    have gx:(eds xs)[i]'(by simpa using hi2)=[I xs[i].1,I xs[i].2]:=by simp [eds]
    rw [h2]
    cases hpx:p xs[i] with
    | true =>
      refine wW ?_
      repeat (first|apply wA|apply wS|refine wr (by simp [e1,hi2,w1,hpx,gx];with_reducible rfl) ?_|refine wq (by simp [e1,hi2,w1,hpx,gx];with_reducible rfl) ?_|refine wt (by simpa [e1,hi2,w1,hpx,gx]) ?_|refine wf (by simpa [e1,hi2,w1,hpx,gx]) ?_|refine xt (by simpa [e1,hi2,w1,hpx,gx]) ?_|refine xf (by simpa [e1,hi2,w1,hpx,gx]) ?_|apply wB|apply Qab|refine wX ?_|refine wY ?_|refine wR ?_|refine wK ?_|refine wE ?_)
      refine .inr ⟨rfl,by simp [Qpr,hpx]⟩
    | false =>
      refine wW ?_
      repeat (first|apply wA|apply wS|refine wr (by simp [e1,hi2,w1,hpx,gx];with_reducible rfl) ?_|refine wq (by simp [e1,hi2,w1,hpx,gx];with_reducible rfl) ?_|refine wt (by simpa [e1,hi2,w1,hpx,gx]) ?_|refine wf (by simpa [e1,hi2,w1,hpx,gx]) ?_|refine xt (by simpa [e1,hi2,w1,hpx,gx]) ?_|refine xf (by simpa [e1,hi2,w1,hpx,gx]) ?_|apply wB|apply Qab|refine wX ?_|refine wY ?_|refine wR ?_|refine wK ?_|refine wE ?_)
      have:=ih (i+1) (by omega)
      simp only [Qpr,hpx] at this ⊢
      exact this
 refine cW zt268 rfl ?_
 repeat (first|apply wA|apply wS|refine wr (by simp;with_reducible rfl) ?_|refine wq (by simp;with_reducible rfl) ?_|refine wt (by simpa) ?_|refine wf (by simpa) ?_|refine xt (by simpa) ?_|refine xf (by simpa) ?_|apply wB|apply Qab|refine wX ?_|refine wY ?_|refine wR ?_|refine wK ?_|refine wE ?_)
 refine Qaf (loop xs.length 0 (by simp)) ?_
 rintro ex st (⟨rfl,h,rfl⟩ | ⟨rfl,rfl⟩)
 · simp only [if_true]
   repeat (first|apply wA|apply wS|refine wr (by simp;with_reducible rfl) ?_|refine wq (by simp;with_reducible rfl) ?_|refine wt (by simpa) ?_|refine wf (by simpa) ?_|refine xt (by simpa) ?_|refine xf (by simpa) ?_|apply wB|apply Qab|refine wX ?_|refine wY ?_|refine wR ?_|refine wK ?_|refine wE ?_)
   simp at h
   simp [Qy5,h]
 · simp [Qy5]
end Go.Idl
namespace Go.Idl
open Go
def rgF (n i:Nat):List Int:=((List.range n).drop i).map fun v:Nat=>(v:Int)
theorem Qmo {n i:Nat} (h:i < n):rgF n i=(i:Int)::rgF n (i+1):=by
 rw [rgF,rgF,List.drop_eq_getElem_cons (by simpa using h)];simp
theorem Qzg (n:Nat):rgF n n=[]:=by simp [rgF]
end Go.Idl
namespace Go.Idl
open Go
def nlT:List (List Int)→IV
 | []=>Z
 | x::r=>OT (x::r)
theorem Qsm (t:List (List Int)):Ev tb Qxm [] [nlT t] [] ⟨nlT t,[],[],[]⟩:=by
 cases t with
 | nil =>
   simp only [nlT]
   refine cW Joe rfl ?_
   repeat (first|apply wA|apply wS|refine wr (by simp;with_reducible rfl) ?_|refine wq (by simp;with_reducible rfl) ?_|refine wt (by simpa) ?_|refine wf (by simpa) ?_|refine xt (by simpa) ?_|refine xf (by simpa) ?_|apply wB|apply Qab|refine wX ?_|refine wY ?_|refine wR ?_|refine wK ?_|refine wE ?_)
   simp [Jbk]
 | cons x t =>
   simp only [nlT]
   have h2:(oab (x::t)).take (t.length+1)=oab (x::t):=List.take_of_length_le (by simp)
   refine cW Joe rfl ?_
   repeat (first|apply wA|apply wS|refine wr (by simp [h2];with_reducible rfl) ?_|refine wq (by simp [h2];with_reducible rfl) ?_|refine wt (by simpa [h2]) ?_|refine wf (by simpa [h2]) ?_|refine xt (by simpa [h2]) ?_|refine xf (by simpa [h2]) ?_|apply wB|apply Qab|refine wX ?_|refine wY ?_|refine wR ?_|refine wK ?_|refine wE ?_)
   simp [Jbk,h2]
def inP (rt:List Int) (r:Int) (v:Int):Bool:=decide (rt.getD v.toNat 0=r)
def isR (rt:List Int) (v:Int):Bool:=inP rt v v
def Qi1 (n:Nat) (rt:List Int) (i:Nat):List (List Int):=((rgF n i).filter (isR rt)).map fun r=>(rgF n 0).filter (inP rt r)
theorem co_in (n:Nat) (hn:n≤7) (rt:List Int) (hl:rt.length=n) (acc:List (List Int)) (r:Nat) (B:Qac):∀ (m i:Nat) (part:List Int),i+m=n→part.length≤i →
 wp tb (.loop Qnr) { T:=[(3,nlT acc),(4,O rt),(5,I r),(6,nlI part),(12,I n),(13,I r),(22,.arr (.S 4) 0 [] 1 0 n false),(23,I n),(24,I i)],loc:=B,M:=[] }
  (fun ex st=>ex=.exit 2∧st={ T:=[(3,nlT acc),(4,O rt),(5,I r),(6,nlI (part++(rgF n i).filter (inP rt r))),(12,I n),(13,I r),(22,.arr (.S 4) 0 [] 1 0 n false),(23,I n),(24,I n),(25,Bo false)],loc:=B,M:=[] }):=by
 intro m
 induction m with
 | zero =>
   intro i part hi hp
   have h3:i=n:=hi
   subst h3
   rw [Qzg,List.filter_nil,List.append_nil]
   cases acc <;> cases part <;> simp only [nlT,nlI]
   · refine wW ?_
     repeat (first|apply wA|apply wS|refine wr (by simp;with_reducible rfl) ?_|refine wq (by simp;with_reducible rfl) ?_|refine wt (by simpa) ?_|refine wf (by simpa) ?_|refine xt (by simpa) ?_|refine xf (by simpa) ?_|apply wB|apply Qab|refine wX ?_|refine wY ?_|refine wR ?_|refine wK ?_|refine wE ?_)
     exact ⟨rfl,rfl⟩
   · refine wW ?_
     repeat (first|apply wA|apply wS|refine wr (by simp;with_reducible rfl) ?_|refine wq (by simp;with_reducible rfl) ?_|refine wt (by simpa) ?_|refine wf (by simpa) ?_|refine xt (by simpa) ?_|refine xf (by simpa) ?_|apply wB|apply Qab|refine wX ?_|refine wY ?_|refine wR ?_|refine wK ?_|refine wE ?_)
     exact ⟨rfl,rfl⟩
   · refine wW ?_
     repeat (first|apply wA|apply wS|refine wr (by simp;with_reducible rfl) ?_|refine wq (by simp;with_reducible rfl) ?_|refine wt (by simpa) ?_|refine wf (by simpa) ?_|refine xt (by simpa) ?_|refine xf (by simpa) ?_|apply wB|apply Qab|refine wX ?_|refine wY ?_|refine wR ?_|refine wK ?_|refine wE ?_)
     exact ⟨rfl,rfl⟩
   · refine wW ?_
     repeat (first|apply wA|apply wS|refine wr (by simp;with_reducible rfl) ?_|refine wq (by simp;with_reducible rfl) ?_|refine wt (by simpa) ?_|refine wf (by simpa) ?_|refine xt (by simpa) ?_|refine xf (by simpa) ?_|apply wB|apply Qab|refine wX ?_|refine wY ?_|refine wR ?_|refine wK ?_|refine wE ?_)
     exact ⟨rfl,rfl⟩
 | succ m ih =>
   intro i part hi hp
   have hi2:i < n:=by omega
   have hil:i < rt.length:=by omega
   have w1:IntKind.i64.wrap ((i:Int)+1)=((i+1:Nat):Int):=Qa8 (by omega)
   have gi:rt.getD i 0=rt[i]:=by rw [List.getD_eq_getElem?_getD,List.getElem?_eq_getElem hil];rfl
   rw [Qmo hi2]
   by_cases hq:rt[i]=(r:Int)
   · have hpr:inP rt r (i:Int)=true:=by rw [inP,Int.toNat_natCast,gi];exact decide_eq_true hq
     rw [List.filter_cons_of_pos hpr]
     have hn2:=ih (i+1) (part++[(i:Int)]) (by omega) (by simp;omega)
     rw [List.append_assoc,List.cons_append,List.nil_append] at hn2
     have hl1:part.length+1≤274877906944:=by omega
     have hT:∀ x:Int,List.take (part.length+1) (part++[x])=part++[x]:=fun x=>List.take_of_length_le (by simp)
     have hT2:List.take part.length part=part:=List.take_of_length_le (Nat.le_refl _)
     cases part with
     | nil =>
       rw [List.nil_append] at hn2 ⊢
       have hn2:wp tb (.loop Qnr) { T:=[(3,nlT acc),(4,O rt),(5,I r),(6,O [(i:Int)]),(12,I n),(13,I r),(22,.arr (.S 4) 0 [] 1 0 n false),(23,I n),(24,I ((i+1:Nat):Int))],loc:=B,M:=[] } _:=hn2
       cases acc <;> simp only [nlT,nlI] at hn2 ⊢
       · refine wW ?_
         repeat (first|apply wA|apply wS|refine wr (by simp [hi2,hil,hl,hq,w1];with_reducible rfl) ?_|refine wq (by simp [hi2,hil,hl,hq,w1];with_reducible rfl) ?_|refine wt (by simpa [hi2,hil,hl,hq,w1]) ?_|refine wf (by simpa [hi2,hil,hl,hq,w1]) ?_|refine xt (by simpa [hi2,hil,hl,hq,w1]) ?_|refine xf (by simpa [hi2,hil,hl,hq,w1]) ?_|apply wB|apply Qab|refine wX ?_|refine wY ?_|refine wR ?_|refine wK ?_|refine wE ?_)
         exact hn2
       · refine wW ?_
         repeat (first|apply wA|apply wS|refine wr (by simp [hi2,hil,hl,hq,w1];with_reducible rfl) ?_|refine wq (by simp [hi2,hil,hl,hq,w1];with_reducible rfl) ?_|refine wt (by simpa [hi2,hil,hl,hq,w1]) ?_|refine wf (by simpa [hi2,hil,hl,hq,w1]) ?_|refine xt (by simpa [hi2,hil,hl,hq,w1]) ?_|refine xf (by simpa [hi2,hil,hl,hq,w1]) ?_|apply wB|apply Qab|refine wX ?_|refine wY ?_|refine wR ?_|refine wK ?_|refine wE ?_)
         exact hn2
     | cons y ys =>
       rw [List.cons_append] at hn2
       simp only [List.length_cons,List.cons_append] at hl1 hT hT2
       have hn2:wp tb (.loop Qnr) { T:=[(3,nlT acc),(4,O rt),(5,I r),(6,O (y::(ys++[(i:Int)]))),(12,I n),(13,I r),(22,.arr (.S 4) 0 [] 1 0 n false),(23,I n),(24,I ((i+1:Nat):Int))],loc:=B,M:=[] } _:=hn2
       cases acc <;> simp only [nlT,nlI] at hn2 ⊢
       · refine wW ?_
         repeat (first|apply wA|apply wS|refine wr (by simp [hi2,hil,hl,hq,w1,hl1,hT,hT2];with_reducible rfl) ?_|refine wq (by simp [hi2,hil,hl,hq,w1,hl1,hT,hT2];with_reducible rfl) ?_|refine wt (by simpa [hi2,hil,hl,hq,w1,hl1,hT,hT2]) ?_|refine wf (by simpa [hi2,hil,hl,hq,w1,hl1,hT,hT2]) ?_|refine xt (by simpa [hi2,hil,hl,hq,w1,hl1,hT,hT2]) ?_|refine xf (by simpa [hi2,hil,hl,hq,w1,hl1,hT,hT2]) ?_|apply wB|apply Qab|refine wX ?_|refine wY ?_|refine wR ?_|refine wK ?_|refine wE ?_)
         exact hn2
       · refine wW ?_
         repeat (first|apply wA|apply wS|refine wr (by simp [hi2,hil,hl,hq,w1,hl1,hT,hT2];with_reducible rfl) ?_|refine wq (by simp [hi2,hil,hl,hq,w1,hl1,hT,hT2];with_reducible rfl) ?_|refine wt (by simpa [hi2,hil,hl,hq,w1,hl1,hT,hT2]) ?_|refine wf (by simpa [hi2,hil,hl,hq,w1,hl1,hT,hT2]) ?_|refine xt (by simpa [hi2,hil,hl,hq,w1,hl1,hT,hT2]) ?_|refine xf (by simpa [hi2,hil,hl,hq,w1,hl1,hT,hT2]) ?_|apply wB|apply Qab|refine wX ?_|refine wY ?_|refine wR ?_|refine wK ?_|refine wE ?_)
         exact hn2
   · have hpr:¬ inP rt r (i:Int)=true:=by rw [inP,Int.toNat_natCast,gi,decide_eq_true_eq];exact hq
     rw [List.filter_cons_of_neg hpr]
     have hn2:=ih (i+1) part (by omega) (by omega)
     cases acc <;> cases part <;> simp only [nlT,nlI] at hn2 ⊢
     · refine wW ?_
       repeat (first|apply wA|apply wS|refine wr (by simp [hi2,hil,hl,hq,w1];with_reducible rfl) ?_|refine wq (by simp [hi2,hil,hl,hq,w1];with_reducible rfl) ?_|refine wt (by simpa [hi2,hil,hl,hq,w1]) ?_|refine wf (by simpa [hi2,hil,hl,hq,w1]) ?_|refine xt (by simpa [hi2,hil,hl,hq,w1]) ?_|refine xf (by simpa [hi2,hil,hl,hq,w1]) ?_|apply wB|apply Qab|refine wX ?_|refine wY ?_|refine wR ?_|refine wK ?_|refine wE ?_)
       exact hn2
     · refine wW ?_
       repeat (first|apply wA|apply wS|refine wr (by simp [hi2,hil,hl,hq,w1];with_reducible rfl) ?_|refine wq (by simp [hi2,hil,hl,hq,w1];with_reducible rfl) ?_|refine wt (by simpa [hi2,hil,hl,hq,w1]) ?_|refine wf (by simpa [hi2,hil,hl,hq,w1]) ?_|refine xt (by simpa [hi2,hil,hl,hq,w1]) ?_|refine xf (by simpa [hi2,hil,hl,hq,w1]) ?_|apply wB|apply Qab|refine wX ?_|refine wY ?_|refine wR ?_|refine wK ?_|refine wE ?_)
       exact hn2
     · refine wW ?_
       repeat (first|apply wA|apply wS|refine wr (by simp [hi2,hil,hl,hq,w1];with_reducible rfl) ?_|refine wq (by simp [hi2,hil,hl,hq,w1];with_reducible rfl) ?_|refine wt (by simpa [hi2,hil,hl,hq,w1]) ?_|refine wf (by simpa [hi2,hil,hl,hq,w1]) ?_|refine xt (by simpa [hi2,hil,hl,hq,w1]) ?_|refine xf (by simpa [hi2,hil,hl,hq,w1]) ?_|apply wB|apply Qab|refine wX ?_|refine wY ?_|refine wR ?_|refine wK ?_|refine wE ?_)
       exact hn2
     · refine wW ?_
       repeat (first|apply wA|apply wS|refine wr (by simp [hi2,hil,hl,hq,w1];with_reducible rfl) ?_|refine wq (by simp [hi2,hil,hl,hq,w1];with_reducible rfl) ?_|refine wt (by simpa [hi2,hil,hl,hq,w1]) ?_|refine wf (by simpa [hi2,hil,hl,hq,w1]) ?_|refine xt (by simpa [hi2,hil,hl,hq,w1]) ?_|refine xf (by simpa [hi2,hil,hl,hq,w1]) ?_|apply wB|apply Qab|refine wX ?_|refine wY ?_|refine wR ?_|refine wK ?_|refine wE ?_)
       exact hn2
theorem Qur {xs:List Int} {p:Int→Bool} {r:Int} (h:r ∈ xs) (hp:p r=true):∃ y ys,xs.filter p=y::ys:=by
 cases hq:xs.filter p with
 | nil=>have:r ∈ xs.filter p:=List.mem_filter.2 ⟨h,hp⟩;rw [hq] at this;cases this
 | cons y ys=>exact ⟨y,ys,rfl⟩
theorem Qmh {n i:Nat} {x:Int}:x ∈ rgF n i ↔ (i:Int)≤x∧x < n:=by
 rw [rgF,List.mem_map]
 constructor
 · rintro ⟨a,ha,rfl⟩
   obtain ⟨j,hj,rfl⟩:=List.mem_iff_getElem.1 ha
   simp only [List.length_drop,List.length_range] at hj
   simp only [List.getElem_drop,List.getElem_range];omega
 · rintro ⟨h1,h2⟩
   obtain ⟨k,rfl⟩:=Int.eq_ofNat_of_zero_le (show 0≤x by omega)
   refine ⟨k,List.mem_iff_getElem.2 ⟨k - i,by simp;omega,?_⟩,rfl⟩
   simp only [List.getElem_drop,List.getElem_range];omega
theorem Jte (n:Nat) (hn:n≤7) (rt:List Int) (hl:rt.length=n) (B:Qac):∀ (m r:Nat) (acc:List (List Int)),r+m=n→acc.length≤r →
 wp tb (.loop Qzz) { T:=[(3,nlT acc),(4,O rt),(12,I n),(13,I r)],loc:=B,M:=[] }
  (fun ex st=>ex=.exit 0∧st={ T:=[(3,nlT (acc++Qi1 n rt r)),(4,O rt),(12,I n),(13,I n),(14,Bo false)],loc:=B,M:=[] }):=by
 intro m
 induction m with
 | zero =>
   intro r acc hr ha
   have h3:r=n:=hr
   subst h3
   rw [Qi1,Qzg,List.filter_nil,List.map_nil,List.append_nil]
   cases acc <;> simp only [nlT]
   · refine wW ?_
     repeat (first|apply wA|apply wS|refine wr (by simp;with_reducible rfl) ?_|refine wq (by simp;with_reducible rfl) ?_|refine wt (by simpa) ?_|refine wf (by simpa) ?_|refine xt (by simpa) ?_|refine xf (by simpa) ?_|apply wB|apply Qab|refine wX ?_|refine wY ?_|refine wR ?_|refine wK ?_|refine wE ?_)
     exact ⟨rfl,rfl⟩
   · refine wW ?_
     repeat (first|apply wA|apply wS|refine wr (by simp;with_reducible rfl) ?_|refine wq (by simp;with_reducible rfl) ?_|refine wt (by simpa) ?_|refine wf (by simpa) ?_|refine xt (by simpa) ?_|refine xf (by simpa) ?_|apply wB|apply Qab|refine wX ?_|refine wY ?_|refine wR ?_|refine wK ?_|refine wE ?_)
     exact ⟨rfl,rfl⟩
 | succ m ih =>
   intro r acc hr ha
   have hr2:r < n:=by omega
   have hrl:r < rt.length:=by omega
   have w1:IntKind.i64.wrap ((r:Int)+1)=((r+1:Nat):Int):=Qa8 (by omega)
   have gi:rt.getD r 0=rt[r]:=by rw [List.getD_eq_getElem?_getD,List.getElem?_eq_getElem hrl];rfl
   rw [Qi1,Qmo hr2]
   by_cases hq:rt[r]=(r:Int)
   · have hpr:isR rt (r:Int)=true:=by rw [isR,inP,Int.toNat_natCast,gi];exact decide_eq_true hq
     rw [List.filter_cons_of_pos hpr,List.map_cons]
     obtain ⟨y,ys,hy⟩:=Qur (xs:=rgF n 0) (p:=inP rt r) (Qmh.2 ⟨by omega,by omega⟩) hpr
     have hn2:=ih (r+1) (acc++[(rgF n 0).filter (inP rt r)]) (by omega) (by simp;omega)
     rw [List.append_assoc,List.cons_append,List.nil_append,Qi1] at hn2
     have inner:=co_in n hn rt hl acc r B n 0 [] (by omega) (by simp)
     rw [List.nil_append,hy] at inner
     rw [hy] at hn2 ⊢
     have e1:=Qaa (Qqt (y::ys))
     have hl1:acc.length+1≤274877906944:=by omega
     have hT:∀ x:List Int,List.take (acc.length+1) (acc++[x])=acc++[x]:=fun x=>List.take_of_length_le (by simp)
     have hT2:List.take acc.length acc=acc:=List.take_of_length_le (Nat.le_refl _)
     cases acc with
     | nil =>
       simp only [List.nil_append,nlT,nlI] at hn2 inner ⊢
       rw [show ((0:Nat):Int)=0 from rfl] at inner
       refine wW ?_
       repeat (first|apply wA|apply wS|refine wr (by simp [hr2,hrl,hl,hq];with_reducible rfl) ?_|refine wq (by simp [hr2,hrl,hl,hq];with_reducible rfl) ?_|refine wt (by simpa [hr2,hrl,hl,hq]) ?_|refine wf (by simpa [hr2,hrl,hl,hq]) ?_|refine xt (by simpa [hr2,hrl,hl,hq]) ?_|refine xf (by simpa [hr2,hrl,hl,hq]) ?_|apply wB|apply Qab|refine wX ?_|refine wY ?_|refine wR ?_|refine wK ?_|refine wE ?_)
       refine Qaf inner ?_
       rintro ex st ⟨rfl,rfl⟩
       simp only [if_true]
       repeat (first|apply wA|apply wS|refine wr (by simp [e1,w1];with_reducible rfl) ?_|refine wq (by simp [e1,w1];with_reducible rfl) ?_|refine wt (by simpa [e1,w1]) ?_|refine wf (by simpa [e1,w1]) ?_|refine xt (by simpa [e1,w1]) ?_|refine xf (by simpa [e1,w1]) ?_|apply wB|apply Qab|refine wX ?_|refine wY ?_|refine wR ?_|refine wK ?_|refine wE ?_)
       exact hn2
     | cons a as =>
       simp only [List.cons_append,nlT,nlI] at hn2 inner ⊢
       simp only [List.length_cons,List.cons_append] at hl1 hT hT2
       rw [show ((0:Nat):Int)=0 from rfl] at inner
       refine wW ?_
       repeat (first|apply wA|apply wS|refine wr (by simp [hr2,hrl,hl,hq];with_reducible rfl) ?_|refine wq (by simp [hr2,hrl,hl,hq];with_reducible rfl) ?_|refine wt (by simpa [hr2,hrl,hl,hq]) ?_|refine wf (by simpa [hr2,hrl,hl,hq]) ?_|refine xt (by simpa [hr2,hrl,hl,hq]) ?_|refine xf (by simpa [hr2,hrl,hl,hq]) ?_|apply wB|apply Qab|refine wX ?_|refine wY ?_|refine wR ?_|refine wK ?_|refine wE ?_)
       refine Qaf inner ?_
       rintro ex st ⟨rfl,rfl⟩
       simp only [if_true]
       repeat (first|apply wA|apply wS|refine wr (by simp [e1,w1,hl1,hT,hT2];with_reducible rfl) ?_|refine wq (by simp [e1,w1,hl1,hT,hT2];with_reducible rfl) ?_|refine wt (by simpa [e1,w1,hl1,hT,hT2]) ?_|refine wf (by simpa [e1,w1,hl1,hT,hT2]) ?_|refine xt (by simpa [e1,w1,hl1,hT,hT2]) ?_|refine xf (by simpa [e1,w1,hl1,hT,hT2]) ?_|apply wB|apply Qab|refine wX ?_|refine wY ?_|refine wR ?_|refine wK ?_|refine wE ?_)
       exact hn2
   · have hpr:¬ isR rt (r:Int)=true:=by rw [isR,inP,Int.toNat_natCast,gi,decide_eq_true_eq];exact hq
     rw [List.filter_cons_of_neg hpr]
     have hn2:=ih (r+1) acc (by omega) (by omega)
     cases acc <;> simp only [nlT] at hn2 ⊢
     · refine wW ?_
       repeat (first|apply wA|apply wS|refine wr (by simp [hr2,hrl,hl,hq,w1];with_reducible rfl) ?_|refine wq (by simp [hr2,hrl,hl,hq,w1];with_reducible rfl) ?_|refine wt (by simpa [hr2,hrl,hl,hq,w1]) ?_|refine wf (by simpa [hr2,hrl,hl,hq,w1]) ?_|refine xt (by simpa [hr2,hrl,hl,hq,w1]) ?_|refine xf (by simpa [hr2,hrl,hl,hq,w1]) ?_|apply wB|apply Qab|refine wX ?_|refine wY ?_|refine wR ?_|refine wK ?_|refine wE ?_)
       exact hn2
     · refine wW ?_
       repeat (first|apply wA|apply wS|refine wr (by simp [hr2,hrl,hl,hq,w1];with_reducible rfl) ?_|refine wq (by simp [hr2,hrl,hl,hq,w1];with_reducible rfl) ?_|refine wt (by simpa [hr2,hrl,hl,hq,w1]) ?_|refine wf (by simpa [hr2,hrl,hl,hq,w1]) ?_|refine xt (by simpa [hr2,hrl,hl,hq,w1]) ?_|refine xf (by simpa [hr2,hrl,hl,hq,w1]) ?_|apply wB|apply Qab|refine wX ?_|refine wY ?_|refine wR ?_|refine wK ?_|refine wE ?_)
       exact hn2
def Qdq (n:Nat) (es:List (Int×Int)):List (List Int):=Qi1 n (Qhv es n (Qc2 n (-1))) 0
theorem Qgz (n:Nat) (hn1:1≤n) (hn7:n≤7) (e0:Nat) (es:List (Int×Int)) (c:Bool) (he0:e0=2 ∨ es=[]) (hes:∀ e ∈ es,0≤e.1∧e.1 < n∧0≤e.2∧e.2 < n) (hel:es.length≤1000) :
 Ev tb Qrt [] [.agg [I n,.lst e0 (eds es) c]] [] ⟨nlT (Qdq n es),[],[],[]⟩:=by
 have e1:=Qaa (Qod n hn1 hn7 e0 es c he0 hes hel)
 have hrl:(Qhv es n (Qc2 n (-1))).length=n:=by rw [Qjl,Qbl];simp
 rw [Qdq]
 generalize Qhv es n (Qc2 n (-1))=rt at *
 have loop:=Jte n hn7 rt hrl [[I n,.lst e0 (eds es) c]] n 0 [] (by omega) (by simp)
 rw [List.nil_append,show ((0:Nat):Int)=0 from rfl] at loop
 simp only [nlT] at loop
 have e2:=Qaa (Qsm (Qi1 n rt 0))
 generalize Qi1 n rt 0=P at *
 refine cW Jz7 rfl ?_
 repeat (first|apply wA|apply wS|refine wr (by simp [e1];with_reducible rfl) ?_|refine wq (by simp [e1];with_reducible rfl) ?_|refine wt (by simpa [e1]) ?_|refine wf (by simpa [e1]) ?_|refine xt (by simpa [e1]) ?_|refine xf (by simpa [e1]) ?_|apply wB|apply Qab|refine wX ?_|refine wY ?_|refine wR ?_|refine wK ?_|refine wE ?_)
 refine Qaf loop ?_
 rintro ex st ⟨rfl,rfl⟩
 simp only [if_true]
 cases P with
 | nil =>
   simp only [nlT] at e2 ⊢
   repeat (first|apply wA|apply wS|refine wr (by simp [e2];with_reducible rfl) ?_|refine wq (by simp [e2];with_reducible rfl) ?_|refine wt (by simpa [e2]) ?_|refine wf (by simpa [e2]) ?_|refine xt (by simpa [e2]) ?_|refine xf (by simpa [e2]) ?_|apply wB|apply Qab|refine wX ?_|refine wY ?_|refine wR ?_|refine wK ?_|refine wE ?_)
   simp [Qup]
 | cons p P =>
   simp only [nlT] at e2 ⊢
   repeat (first|apply wA|apply wS|refine wr (by simp [e2];with_reducible rfl) ?_|refine wq (by simp [e2];with_reducible rfl) ?_|refine wt (by simpa [e2]) ?_|refine wf (by simpa [e2]) ?_|refine xt (by simpa [e2]) ?_|refine xf (by simpa [e2]) ?_|apply wB|apply Qab|refine wX ?_|refine wY ?_|refine wR ?_|refine wK ?_|refine wE ?_)
   simp [Qup]
theorem Qlj (n:Nat) (hn1:1≤n) (e0:Nat) (es:List (Int×Int)) (c:Bool) (he0:e0=2 ∨ es=[]) (hel:es.length≤1000) (hv:Qax n es=true) (v1:Qcg tb Qzx [] [.agg [I n,.lst e0 (eds es) c]] []=some ⟨Bo true,[],[],[]⟩) :
 Ev tb Qx5 [] [.agg [I n,.lst e0 (eds es) c]] [] ⟨Bo (decide ((Qdq n es).length=1)),[],[],[]⟩:=by
 have hes:∀ e ∈ es,0≤e.1∧e.1 < n∧0≤e.2∧e.2 < n:=fun e he=>by have:=Qan.1 ((Qa9.1 hv).2.1 e he);omega
 have e1:=Qaa (Qgz n hn1 (Qa9.1 hv).2.2 e0 es c he0 hes hel)
 generalize Qdq n es=P at *
 cases P with
 | nil =>
   simp only [nlT] at e1
   refine cW Jkx rfl ?_
   repeat (first|apply wA|apply wS|refine wr (by simp [v1,e1];with_reducible rfl) ?_|refine wq (by simp [v1,e1];with_reducible rfl) ?_|refine wt (by simpa [v1,e1]) ?_|refine wf (by simpa [v1,e1]) ?_|refine xt (by simpa [v1,e1]) ?_|refine xf (by simpa [v1,e1]) ?_|apply wB|apply Qab|refine wX ?_|refine wY ?_|refine wR ?_|refine wK ?_|refine wE ?_)
   simp [Qvg]
 | cons p P =>
   simp only [nlT] at e1
   by_cases h1:P.length=0
   · have h1':P=[]:=List.length_eq_zero_iff.1 h1
     subst h1'
     refine cW Jkx rfl ?_
     repeat (first|apply wA|apply wS|refine wr (by simp [v1,e1];with_reducible rfl) ?_|refine wq (by simp [v1,e1];with_reducible rfl) ?_|refine wt (by simpa [v1,e1]) ?_|refine wf (by simpa [v1,e1]) ?_|refine xt (by simpa [v1,e1]) ?_|refine xf (by simpa [v1,e1]) ?_|apply wB|apply Qab|refine wX ?_|refine wY ?_|refine wR ?_|refine wK ?_|refine wE ?_)
     simp [Qvg]
   · have h2:¬ (P.length:Int)+1=1:=by omega
     have h3:¬ P=[]:=fun h=>h1 (by rw [h];rfl)
     refine cW Jkx rfl ?_
     repeat (first|apply wA|apply wS|refine wr (by simp [v1,e1,h1,h2];with_reducible rfl) ?_|refine wq (by simp [v1,e1,h1,h2];with_reducible rfl) ?_|refine wt (by simpa [v1,e1,h1,h2]) ?_|refine wf (by simpa [v1,e1,h1,h2]) ?_|refine xt (by simpa [v1,e1,h1,h2]) ?_|refine xf (by simpa [v1,e1,h1,h2]) ?_|apply wB|apply Qab|refine wX ?_|refine wY ?_|refine wR ?_|refine wK ?_|refine wE ?_)
     simp [Qvg,h3]
     exact h2
end Go.Idl
namespace Go.Idl
open Go
def bls (l:List Bool):List (List IV):=l.map fun b=>[Bo b]
@[simp] theorem bls_len (l:List Bool):(bls l).length=l.length:=by simp [bls]
@[simp] theorem bls_rep (n:Nat):List.replicate n [IV.sc (Value.bool false)]=bls (List.replicate n false):=by simp [bls]
@[simp] theorem bls_get (l:List Bool) (i:Nat) (h:i < (bls l).length):(bls l)[i]=[IV.sc (.bool (l[i]'(by simpa [bls] using h)))]:=by simp [bls]
@[simp] theorem bls_get? (l:List Bool) (i:Nat):(bls l)[i]? = l[i]?.map fun b=>[IV.sc (.bool b)]:=by simp [bls]
@[simp] theorem bls_set (l:List Bool) (i:Nat) (b:Bool):(bls l).set i [IV.sc (.bool b)]=bls (l.set i b):=by simp [bls,List.map_set]
end Go.Idl
namespace Go.Idl
open Go
def Qhf (d:List Int):Bool:=d.all fun x=>decide (0 < x)
def Qk3 (d:List Int):Bool:=Qbn d && (decide (0 < d.length) && ((decide (d.length=1) || Qhf d) && decide (2 * (d.length:Int) - 2≤d.sum)))
theorem Qnm {d:List Int} (h:Qbn d=true):Qcm d=true:=by simp only [Qbn,Qba] at h;exact h.1.1
theorem Qyu {x:Int} {r:List Int}:(decide (0 < Qcr x r))=Qhf (x::r):=by
 rw [Bool.eq_iff_iff,decide_eq_true_eq]
 have:=Qom r x 1
 simp only [Qhf,List.all_eq_true,decide_eq_true_eq,List.mem_cons]
 constructor
 · intro h y hy
   have h2:=this.1 (by omega)
   rcases hy with rfl | hy
   · omega
   · have:=h2.2 y hy;omega
 · intro h
   have:=this.2 ⟨by have:=h x (.inl rfl);omega,fun y hy=>by have:=h y (.inr hy);omega⟩
   omega
theorem Qja (d:List Int) (c:Bool) (hl:d.length≤1000000):Ev tb Qzb [] [L d c] [] ⟨Bo (Qk3 d),[],[],[]⟩:=by
 have e1:=Qaa (Qo5 d c hl)
 unfold Qk3
 cases hg:Qbn d with
 | false =>
   refine cW Qyh rfl ?_
   repeat (first|apply wA|apply wS|refine wr (by simp [e1,hg];with_reducible rfl) ?_|refine wq (by simp [e1,hg];with_reducible rfl) ?_|refine wt (by simpa [e1,hg]) ?_|refine wf (by simpa [e1,hg]) ?_|refine xt (by simpa [e1,hg]) ?_|refine xf (by simpa [e1,hg]) ?_|apply wB|apply Qab|refine wX ?_|refine wY ?_|refine wR ?_|refine wK ?_|refine wE ?_)
   simp [Qpe]
 | true =>
 have hf:=Qbw (Qnm hg)
 have hsm:=hf.sum
 have e2:=Qaa (Jbb d c hf.small)
 have h7:=hf.1
 cases d with
 | nil =>
   refine cW Qyh rfl ?_
   repeat (first|apply wA|apply wS|refine wr (by simp [e1,hg];with_reducible rfl) ?_|refine wq (by simp [e1,hg];with_reducible rfl) ?_|refine wt (by simpa [e1,hg]) ?_|refine wf (by simpa [e1,hg]) ?_|refine xt (by simpa [e1,hg]) ?_|refine xf (by simpa [e1,hg]) ?_|apply wB|apply Qab|refine wX ?_|refine wY ?_|refine wR ?_|refine wK ?_|refine wE ?_)
   simp [Qpe]
 | cons x r =>
 have e3:=Qaa (Jtm x r c (by simp at h7;omega))
 have hmp:=Qyu (x:=x) (r:=r)
 have w1:IntKind.i64.wrap (2 * ((r.length:Int)+1))=2 * ((r.length:Int)+1):=Qad (by omega) (by simp at h7;omega)
 have w2:IntKind.i64.wrap (2 * ((r.length:Int)+1) - 2)=2 * ((r.length:Int)+1) - 2:=Qad (by omega) (by simp at h7;omega)
 by_cases h1:r=[]
 · subst h1
   refine cW Qyh rfl ?_
   repeat (first|apply wA|apply wS|refine wr (by simp [e1,e2,hg,show IntKind.i64.wrap 2=2 from rfl,show IntKind.i64.wrap 0=0 from rfl];with_reducible rfl) ?_|refine wq (by simp [e1,e2,hg,show IntKind.i64.wrap 2=2 from rfl,show IntKind.i64.wrap 0=0 from rfl];with_reducible rfl) ?_|refine wt (by simpa [e1,e2,hg,show IntKind.i64.wrap 2=2 from rfl,show IntKind.i64.wrap 0=0 from rfl]) ?_|refine wf (by simpa [e1,e2,hg,show IntKind.i64.wrap 2=2 from rfl,show IntKind.i64.wrap 0=0 from rfl]) ?_|refine xt (by simpa [e1,e2,hg,show IntKind.i64.wrap 2=2 from rfl,show IntKind.i64.wrap 0=0 from rfl]) ?_|refine xf (by simpa [e1,e2,hg,show IntKind.i64.wrap 2=2 from rfl,show IntKind.i64.wrap 0=0 from rfl]) ?_|apply wB|apply Qab|refine wX ?_|refine wY ?_|refine wR ?_|refine wK ?_|refine wE ?_)
   simp [Qpe]
 · have h2:¬ r.length=0:=fun h=>h1 (List.length_eq_zero_iff.1 h)
   have h3:¬ (r.length:Int)=0:=by omega
   have h4:¬ (r.length:Int)+1=1:=by omega
   have h5:(0:Int) < (r.length:Int)+1:=by omega
   rw [show Qhf (x::r)=decide (0 < Qcr x r) from hmp.symm]
   by_cases hp:0 < Qcr x r
   · refine cW Qyh rfl ?_
     repeat (first|apply wA|apply wS|refine wr (by simp [e1,e2,e3,hg,h1,h2,h3,h4,h5,hp,w1,w2];with_reducible rfl) ?_|refine wq (by simp [e1,e2,e3,hg,h1,h2,h3,h4,h5,hp,w1,w2];with_reducible rfl) ?_|refine wt (by simpa [e1,e2,e3,hg,h1,h2,h3,h4,h5,hp,w1,w2]) ?_|refine wf (by simpa [e1,e2,e3,hg,h1,h2,h3,h4,h5,hp,w1,w2]) ?_|refine xt (by simpa [e1,e2,e3,hg,h1,h2,h3,h4,h5,hp,w1,w2]) ?_|refine xf (by simpa [e1,e2,e3,hg,h1,h2,h3,h4,h5,hp,w1,w2]) ?_|apply wB|apply Qab|refine wX ?_|refine wY ?_|refine wR ?_|refine wK ?_|refine wE ?_)
     simp [Qpe,h1,hp]
     rfl
   · refine cW Qyh rfl ?_
     repeat (first|apply wA|apply wS|refine wr (by simp [e1,e2,e3,hg,h1,h2,h3,h4,h5,hp,w1,w2];with_reducible rfl) ?_|refine wq (by simp [e1,e2,e3,hg,h1,h2,h3,h4,h5,hp,w1,w2];with_reducible rfl) ?_|refine wt (by simpa [e1,e2,e3,hg,h1,h2,h3,h4,h5,hp,w1,w2]) ?_|refine wf (by simpa [e1,e2,e3,hg,h1,h2,h3,h4,h5,hp,w1,w2]) ?_|refine xt (by simpa [e1,e2,e3,hg,h1,h2,h3,h4,h5,hp,w1,w2]) ?_|refine xf (by simpa [e1,e2,e3,hg,h1,h2,h3,h4,h5,hp,w1,w2]) ?_|apply wB|apply Qab|refine wX ?_|refine wY ?_|refine wR ?_|refine wK ?_|refine wE ?_)
     simp [Qpe,h1,hp]
end Go.Idl
namespace Go.Idl
open Go
def apart (a b c d:Int):Bool:=decide (a ≠ b) && decide (a ≠ c) && decide (a ≠ d) && decide (b ≠ c) && decide (b ≠ d) && decide (c ≠ d)
abbrev Sw (a b c d:Int):IV:=.agg [I a,I b,I c,I d]
set_option maxHeartbeats 4000000 in
theorem Jej (a b c d:Int) (M:List Qac):Ev tb Jbn [] [Sw a b c d] M ⟨Bo (apart a b c d),[],M,[]⟩:=by
 by_cases h1:a=b
 · subst h1
   refine cW Qqy rfl ?_
   repeat (first|apply wA|apply wS|refine wr (by simp;with_reducible rfl) ?_|refine wq (by simp;with_reducible rfl) ?_|refine wt (by simpa) ?_|refine wf (by simpa) ?_|refine xt (by simpa) ?_|refine xf (by simpa) ?_|apply wB|apply Qab|refine wX ?_|refine wY ?_|refine wR ?_|refine wK ?_|refine wE ?_)
   simp [Qk8,apart]
 by_cases h2:a=c
 · subst h2
   refine cW Qqy rfl ?_
   repeat (first|apply wA|apply wS|refine wr (by simp [h1];with_reducible rfl) ?_|refine wq (by simp [h1];with_reducible rfl) ?_|refine wt (by simpa [h1]) ?_|refine wf (by simpa [h1]) ?_|refine xt (by simpa [h1]) ?_|refine xf (by simpa [h1]) ?_|apply wB|apply Qab|refine wX ?_|refine wY ?_|refine wR ?_|refine wK ?_|refine wE ?_)
   simp [Qk8,apart,h1]
 by_cases h3:a=d
 · subst h3
   refine cW Qqy rfl ?_
   repeat (first|apply wA|apply wS|refine wr (by simp [h1,h2];with_reducible rfl) ?_|refine wq (by simp [h1,h2];with_reducible rfl) ?_|refine wt (by simpa [h1,h2]) ?_|refine wf (by simpa [h1,h2]) ?_|refine xt (by simpa [h1,h2]) ?_|refine xf (by simpa [h1,h2]) ?_|apply wB|apply Qab|refine wX ?_|refine wY ?_|refine wR ?_|refine wK ?_|refine wE ?_)
   simp [Qk8,apart,h1,h2]
 by_cases h4:b=c
 · subst h4
   refine cW Qqy rfl ?_
   repeat (first|apply wA|apply wS|refine wr (by simp [h1,h2,h3];with_reducible rfl) ?_|refine wq (by simp [h1,h2,h3];with_reducible rfl) ?_|refine wt (by simpa [h1,h2,h3]) ?_|refine wf (by simpa [h1,h2,h3]) ?_|refine xt (by simpa [h1,h2,h3]) ?_|refine xf (by simpa [h1,h2,h3]) ?_|apply wB|apply Qab|refine wX ?_|refine wY ?_|refine wR ?_|refine wK ?_|refine wE ?_)
   simp [Qk8,apart,h1,h2,h3]
 by_cases h5:b=d
 · subst h5
   refine cW Qqy rfl ?_
   repeat (first|apply wA|apply wS|refine wr (by simp [h1,h2,h3,h4];with_reducible rfl) ?_|refine wq (by simp [h1,h2,h3,h4];with_reducible rfl) ?_|refine wt (by simpa [h1,h2,h3,h4]) ?_|refine wf (by simpa [h1,h2,h3,h4]) ?_|refine xt (by simpa [h1,h2,h3,h4]) ?_|refine xf (by simpa [h1,h2,h3,h4]) ?_|apply wB|apply Qab|refine wX ?_|refine wY ?_|refine wR ?_|refine wK ?_|refine wE ?_)
   simp [Qk8,apart,h1,h2,h3,h4]
 by_cases h6:c=d
 · subst h6
   refine cW Qqy rfl ?_
   repeat (first|apply wA|apply wS|refine wr (by simp [h1,h2,h3,h4,h5];with_reducible rfl) ?_|refine wq (by simp [h1,h2,h3,h4,h5];with_reducible rfl) ?_|refine wt (by simpa [h1,h2,h3,h4,h5]) ?_|refine wf (by simpa [h1,h2,h3,h4,h5]) ?_|refine xt (by simpa [h1,h2,h3,h4,h5]) ?_|refine xf (by simpa [h1,h2,h3,h4,h5]) ?_|apply wB|apply Qab|refine wX ?_|refine wY ?_|refine wR ?_|refine wK ?_|refine wE ?_)
   simp [Qk8,apart,h1,h2,h3,h4,h5]
 refine cW Qqy rfl ?_
 repeat (first|apply wA|apply wS|refine wr (by simp [h1,h2,h3,h4,h5,h6];with_reducible rfl) ?_|refine wq (by simp [h1,h2,h3,h4,h5,h6];with_reducible rfl) ?_|refine wt (by simpa [h1,h2,h3,h4,h5,h6]) ?_|refine wf (by simpa [h1,h2,h3,h4,h5,h6]) ?_|refine xt (by simpa [h1,h2,h3,h4,h5,h6]) ?_|refine xf (by simpa [h1,h2,h3,h4,h5,h6]) ?_|apply wB|apply Qab|refine wX ?_|refine wY ?_|refine wR ?_|refine wK ?_|refine wE ?_)
 simp [Qk8,apart,h1,h2,h3,h4,h5,h6]
def Qa3 (a b c d:Int) (x:Int×Int):Bool:=decide (x=(min a b,max a b)) || decide (x=(min c d,max c d))
set_option maxHeartbeats 4000000 in
theorem Qpb (x:Int×Int) (a b c d:Int) (B:Qac) (k:Nat) (hB:B[k]? = some [I a,I b,I c,I d]) (Ms:List Qac):Ev tb Qtp [] [.agg [I x.1,I x.2],.bptr 0 k 0] (B::Ms) ⟨Bo (Qa3 a b c d x),[],B::Ms,[]⟩:=by
 have e1:=fun M=>Qaa (Qjx a b M)
 have e2:=fun M=>Qaa (Qjx c d M)
 obtain ⟨x1,x2⟩:=x
 have hg:Qa3 a b c d (x1,x2)=(decide (x1=min a b) && decide (x2=max a b) || decide (x1=min c d) && decide (x2=max c d)):=by
  simp [Qa3]
 rw [hg]
 generalize min a b=p at *
 generalize max a b=q at *
 generalize min c d=r at *
 generalize max c d=s at *
 by_cases h1:x1=p
 · subst h1
   by_cases h2:x2=q
   · subst h2
     refine cW Qry rfl ?_
     repeat (first|apply wA|apply wS|refine wr (by simp [e1,e2,hB];with_reducible rfl) ?_|refine wq (by simp [e1,e2,hB];with_reducible rfl) ?_|refine wt (by simpa [e1,e2,hB]) ?_|refine wf (by simpa [e1,e2,hB]) ?_|refine xt (by simpa [e1,e2,hB]) ?_|refine xf (by simpa [e1,e2,hB]) ?_|apply wB|apply Qab|refine wX ?_|refine wY ?_|refine wR ?_|refine wK ?_|refine wE ?_)
     refine Qi6 (by simp [e1,e2,hB];with_reducible rfl) (by simp;with_reducible rfl) ?_ ?_
     · intro p hp
       simp only [List.mem_cons,List.not_mem_nil,or_false] at hp
       rcases hp with rfl | rfl | rfl
       · exact ⟨_,by simp [e1,e2,hB];with_reducible rfl,by simp⟩
       · exact ⟨_,by simp [e1,e2,hB];with_reducible rfl,by simp⟩
       · exact ⟨_,by simp [e1,e2,hB];with_reducible rfl,by simp⟩
     repeat (first|apply wA|apply wS|refine wr (by simp;with_reducible rfl) ?_|refine wq (by simp;with_reducible rfl) ?_|refine wt (by simpa) ?_|refine wf (by simpa) ?_|refine xt (by simpa) ?_|refine xf (by simpa) ?_|apply wB|apply Qab|refine wX ?_|refine wY ?_|refine wR ?_|refine wK ?_|refine wE ?_)
     simp [Qln]
   · by_cases h3:x1=r
     · subst h3
       by_cases h4:x2=s
       · subst h4
         refine cW Qry rfl ?_
         repeat (first|apply wA|apply wS|refine wr (by simp [e1,e2,hB,h2];with_reducible rfl) ?_|refine wq (by simp [e1,e2,hB,h2];with_reducible rfl) ?_|refine wt (by simpa [e1,e2,hB,h2]) ?_|refine wf (by simpa [e1,e2,hB,h2]) ?_|refine xt (by simpa [e1,e2,hB,h2]) ?_|refine xf (by simpa [e1,e2,hB,h2]) ?_|apply wB|apply Qab|refine wX ?_|refine wY ?_|refine wR ?_|refine wK ?_|refine wE ?_)
         refine Qi6 (by simp [e1,e2,hB,h2];with_reducible rfl) (by simp;with_reducible rfl) ?_ ?_
         · intro p hp
           simp only [List.mem_cons,List.not_mem_nil,or_false] at hp
           rcases hp with rfl | rfl | rfl
           · exact ⟨_,by simp [e1,e2,hB,h2];with_reducible rfl,by simp⟩
           · exact ⟨_,by simp [e1,e2,hB,h2];with_reducible rfl,by simp⟩
           · exact ⟨_,by simp [e1,e2,hB,h2];with_reducible rfl,by simp⟩
         repeat (first|apply wA|apply wS|refine wr (by simp;with_reducible rfl) ?_|refine wq (by simp;with_reducible rfl) ?_|refine wt (by simpa) ?_|refine wf (by simpa) ?_|refine xt (by simpa) ?_|refine xf (by simpa) ?_|apply wB|apply Qab|refine wX ?_|refine wY ?_|refine wR ?_|refine wK ?_|refine wE ?_)
         simp [Qln,h2]
       · refine cW Qry rfl ?_
         repeat (first|apply wA|apply wS|refine wr (by simp [e1,e2,hB,h2,h4];with_reducible rfl) ?_|refine wq (by simp [e1,e2,hB,h2,h4];with_reducible rfl) ?_|refine wt (by simpa [e1,e2,hB,h2,h4]) ?_|refine wf (by simpa [e1,e2,hB,h2,h4]) ?_|refine xt (by simpa [e1,e2,hB,h2,h4]) ?_|refine xf (by simpa [e1,e2,hB,h2,h4]) ?_|apply wB|apply Qab|refine wX ?_|refine wY ?_|refine wR ?_|refine wK ?_|refine wE ?_)
         refine Qi6 (by simp [e1,e2,hB,h2,h4];with_reducible rfl) (by simp;with_reducible rfl) ?_ ?_
         · intro p hp
           simp only [List.mem_cons,List.not_mem_nil,or_false] at hp
           rcases hp with rfl | rfl | rfl
           · exact ⟨_,by simp [e1,e2,hB,h2,h4];with_reducible rfl,by simp⟩
           · exact ⟨_,by simp [e1,e2,hB,h2,h4];with_reducible rfl,by simp⟩
           · exact ⟨_,by simp [e1,e2,hB,h2,h4];with_reducible rfl,by simp⟩
         repeat (first|apply wA|apply wS|refine wr (by simp;with_reducible rfl) ?_|refine wq (by simp;with_reducible rfl) ?_|refine wt (by simpa) ?_|refine wf (by simpa) ?_|refine xt (by simpa) ?_|refine xf (by simpa) ?_|apply wB|apply Qab|refine wX ?_|refine wY ?_|refine wR ?_|refine wK ?_|refine wE ?_)
         simp [Qln,h2,h4]
     · refine cW Qry rfl ?_
       repeat (first|apply wA|apply wS|refine wr (by simp [e1,e2,hB,h2,h3];with_reducible rfl) ?_|refine wq (by simp [e1,e2,hB,h2,h3];with_reducible rfl) ?_|refine wt (by simpa [e1,e2,hB,h2,h3]) ?_|refine wf (by simpa [e1,e2,hB,h2,h3]) ?_|refine xt (by simpa [e1,e2,hB,h2,h3]) ?_|refine xf (by simpa [e1,e2,hB,h2,h3]) ?_|apply wB|apply Qab|refine wX ?_|refine wY ?_|refine wR ?_|refine wK ?_|refine wE ?_)
       refine Qi6 (by simp [e1,e2,hB,h2,h3];with_reducible rfl) (by simp;with_reducible rfl) ?_ ?_
       · intro p hp
         simp only [List.mem_cons,List.not_mem_nil,or_false] at hp
         rcases hp with rfl | rfl | rfl
         · exact ⟨_,by simp [e1,e2,hB,h2,h3];with_reducible rfl,by simp⟩
         · exact ⟨_,by simp [e1,e2,hB,h2,h3];with_reducible rfl,by simp⟩
         · exact ⟨_,by simp [e1,e2,hB,h2,h3];with_reducible rfl,by simp⟩
       repeat (first|apply wA|apply wS|refine wr (by simp;with_reducible rfl) ?_|refine wq (by simp;with_reducible rfl) ?_|refine wt (by simpa) ?_|refine wf (by simpa) ?_|refine xt (by simpa) ?_|refine xf (by simpa) ?_|apply wB|apply Qab|refine wX ?_|refine wY ?_|refine wR ?_|refine wK ?_|refine wE ?_)
       simp [Qln,h2,h3]
 · by_cases h3:x1=r
   · subst h3
     by_cases h4:x2=s
     · subst h4
       refine cW Qry rfl ?_
       repeat (first|apply wA|apply wS|refine wr (by simp [e1,e2,hB,h1];with_reducible rfl) ?_|refine wq (by simp [e1,e2,hB,h1];with_reducible rfl) ?_|refine wt (by simpa [e1,e2,hB,h1]) ?_|refine wf (by simpa [e1,e2,hB,h1]) ?_|refine xt (by simpa [e1,e2,hB,h1]) ?_|refine xf (by simpa [e1,e2,hB,h1]) ?_|apply wB|apply Qab|refine wX ?_|refine wY ?_|refine wR ?_|refine wK ?_|refine wE ?_)
       refine Qi6 (by simp [e1,e2,hB,h1];with_reducible rfl) (by simp;with_reducible rfl) ?_ ?_
       · intro p hp
         simp only [List.mem_cons,List.not_mem_nil,or_false] at hp
         rcases hp with rfl | rfl | rfl
         · exact ⟨_,by simp [e1,e2,hB,h1];with_reducible rfl,by simp⟩
         · exact ⟨_,by simp [e1,e2,hB,h1];with_reducible rfl,by simp⟩
         · exact ⟨_,by simp [e1,e2,hB,h1];with_reducible rfl,by simp⟩
       repeat (first|apply wA|apply wS|refine wr (by simp;with_reducible rfl) ?_|refine wq (by simp;with_reducible rfl) ?_|refine wt (by simpa) ?_|refine wf (by simpa) ?_|refine xt (by simpa) ?_|refine xf (by simpa) ?_|apply wB|apply Qab|refine wX ?_|refine wY ?_|refine wR ?_|refine wK ?_|refine wE ?_)
       simp [Qln,h1]
     · refine cW Qry rfl ?_
       repeat (first|apply wA|apply wS|refine wr (by simp [e1,e2,hB,h1,h4];with_reducible rfl) ?_|refine wq (by simp [e1,e2,hB,h1,h4];with_reducible rfl) ?_|refine wt (by simpa [e1,e2,hB,h1,h4]) ?_|refine wf (by simpa [e1,e2,hB,h1,h4]) ?_|refine xt (by simpa [e1,e2,hB,h1,h4]) ?_|refine xf (by simpa [e1,e2,hB,h1,h4]) ?_|apply wB|apply Qab|refine wX ?_|refine wY ?_|refine wR ?_|refine wK ?_|refine wE ?_)
       refine Qi6 (by simp [e1,e2,hB,h1,h4];with_reducible rfl) (by simp;with_reducible rfl) ?_ ?_
       · intro p hp
         simp only [List.mem_cons,List.not_mem_nil,or_false] at hp
         rcases hp with rfl | rfl | rfl
         · exact ⟨_,by simp [e1,e2,hB,h1,h4];with_reducible rfl,by simp⟩
         · exact ⟨_,by simp [e1,e2,hB,h1,h4];with_reducible rfl,by simp⟩
         · exact ⟨_,by simp [e1,e2,hB,h1,h4];with_reducible rfl,by simp⟩
       repeat (first|apply wA|apply wS|refine wr (by simp;with_reducible rfl) ?_|refine wq (by simp;with_reducible rfl) ?_|refine wt (by simpa) ?_|refine wf (by simpa) ?_|refine xt (by simpa) ?_|refine xf (by simpa) ?_|apply wB|apply Qab|refine wX ?_|refine wY ?_|refine wR ?_|refine wK ?_|refine wE ?_)
       simp [Qln,h1,h4]
   · refine cW Qry rfl ?_
     repeat (first|apply wA|apply wS|refine wr (by simp [e1,e2,hB,h1,h3];with_reducible rfl) ?_|refine wq (by simp [e1,e2,hB,h1,h3];with_reducible rfl) ?_|refine wt (by simpa [e1,e2,hB,h1,h3]) ?_|refine wf (by simpa [e1,e2,hB,h1,h3]) ?_|refine xt (by simpa [e1,e2,hB,h1,h3]) ?_|refine xf (by simpa [e1,e2,hB,h1,h3]) ?_|apply wB|apply Qab|refine wX ?_|refine wY ?_|refine wR ?_|refine wK ?_|refine wE ?_)
     refine Qi6 (by simp [e1,e2,hB,h1,h3];with_reducible rfl) (by simp;with_reducible rfl) ?_ ?_
     · intro p hp
       simp only [List.mem_cons,List.not_mem_nil,or_false] at hp
       rcases hp with rfl | rfl | rfl
       · exact ⟨_,by simp [e1,e2,hB,h1,h3];with_reducible rfl,by simp⟩
       · exact ⟨_,by simp [e1,e2,hB,h1,h3];with_reducible rfl,by simp⟩
       · exact ⟨_,by simp [e1,e2,hB,h1,h3];with_reducible rfl,by simp⟩
     repeat (first|apply wA|apply wS|refine wr (by simp;with_reducible rfl) ?_|refine wq (by simp;with_reducible rfl) ?_|refine wt (by simpa) ?_|refine wf (by simpa) ?_|refine xt (by simpa) ?_|refine xf (by simpa) ?_|apply wB|apply Qab|refine wX ?_|refine wY ?_|refine wR ?_|refine wK ?_|refine wE ?_)
     simp [Qln,h1,h3]
end Go.Idl
namespace Go.Idl
open Go
def swX (es:List (Int×Int)) (a b c d:Int):List (Int×Int):=es.filter (fun x=>!Qa3 a b c d x)++[(min a c,max a c),(min b d,max b d)]
def sw (es:List (Int×Int)) (a b c d:Int):List (Int×Int):=Qgm (swX es a b c d)
def Ql5 (es:List (Int×Int)) (a b c d:Int):Bool:=apart a b c d && Qv0 es a b && Qv0 es c d && !Qv0 es a c && !Qv0 es b d
theorem Qtb {es:List (Int×Int)} {a b:Int}:Qv0 es a b=true ↔ (min a b,max a b) ∈ es:=by
 simp [Qv0]
theorem Jm2 {es:List (Int×Int)} {a b:Int}:Qv0 es a b=false ↔ (min a b,max a b) ∉ es:=by
 rw [← Qtb];simp
theorem Qne {es:List (Int×Int)} {a b c d:Int}:Ql5 es a b c d=true ↔ (a ≠ b∧a ≠ c∧a ≠ d∧b ≠ c∧b ≠ d∧c ≠ d)∧(min a b,max a b) ∈ es∧(min c d,max c d) ∈ es∧(min a c,max a c) ∉ es∧(min b d,max b d) ∉ es:=by
 rw [Ql5]
 simp only [Qba,Bool.not_eq_true',apart,decide_eq_true_eq,Qtb,Jm2,and_assoc]
theorem Jmk {n:Nat} (hn:n≤7) {es:List (Int×Int)} (h:Qax n es=true):es.length≤21:=by
 have h1:=(Qsa h).length_le
 have h2:∀ n,n≤7→(prs n).length≤21:=by decide +kernel
 have:=h2 _ hn
 omega
theorem Qs7 {n:Nat} {es:List (Int×Int)} {a b c d:Int} (h:Qax n es=true) (hm:Ql5 es a b c d=true) :
 (swX es a b c d).Nodup∧(∀ e ∈ swX es a b c d,e ∈ prs n)∧Qax n (sw es a b c d)=true∧(swX es a b c d).length≤21:=by
 obtain ⟨h1,h2,h3⟩:=Qa9.1 h
 obtain ⟨⟨k1,k2,k3,k4,k5,k6⟩,m1,m2,m3,m4⟩:=Qne.1 hm
 have p1:=Qan.1 (h2 _ m1)
 have p2:=Qan.1 (h2 _ m2)
 have hn:(swX es a b c d).Nodup:=by
  refine List.nodup_append.2 ⟨(Qht h1).filter _,?_,?_⟩
  · simp only [List.nodup_cons,List.mem_singleton,List.not_mem_nil,not_false_eq_true,List.nodup_nil,and_true,Qpi]
    omega
  · intro x hx y hy hxy
    subst hxy
    have hx:=(List.mem_filter.1 hx).1
    simp only [List.mem_cons,List.not_mem_nil,or_false] at hy
    rcases hy with rfl | rfl
    · exact m3 hx
    · exact m4 hx
 have hp:∀ e ∈ swX es a b c d,e ∈ prs n:=fun e he=>by
  rcases List.mem_append.1 he with he | he
  · exact h2 _ (List.mem_filter.1 he).1
  · simp only [List.mem_cons,List.not_mem_nil,or_false] at he
    simp only at p1 p2
    rcases he with rfl | rfl
    · exact Qan.2 (by simp only;omega)
    · exact Qan.2 (by simp only;omega)
 have hv:Qax n (sw es a b c d)=true:=Qa9.2 ⟨Qki hn,fun e he=>hp e ((Qbv _).mem_iff.1 he),h3⟩
 refine ⟨hn,hp,hv,?_⟩
 have:=Jmk h3 hv
 rw [sw,(Qbv _).length_eq] at this
 exact this
abbrev OS (n:Nat) (es:List (Int×Int)) (a b c d:Int):IV:=if Ql5 es a b c d then .tup [OG n (sw es a b c d),Bo true] else .tup [.agg [I 0,Z],Bo false]
set_option maxHeartbeats 4000000 in
theorem Qy0 (n:Nat) (es:List (Int×Int)) (cc:Bool) (a b c d:Int) (hv:Qax n es=true):Ev tb Qzf [] [Gr n es cc,Sw a b c d] [] ⟨OS n es a b c d,[],[],[]⟩:=by
 have hn7:=(Qa9.1 hv).2.2
 have h21:=Jmk hn7 hv
 have ea:=fun M=>Qaa (Jej a b c d M)
 have eh:=fun c' a b M=>Qaa (ev_has n 2 es c' a b (.inl rfl) (by omega) M)
 cases h1:apart a b c d with
 | false =>
   have hm:Ql5 es a b c d=false:=by simp [Ql5,h1]
   rw [OS,hm]
   refine cW Qvp rfl ?_
   repeat (first|apply wA|apply wS|refine wr (by simp [ea,eh,h1];with_reducible rfl) ?_|refine wq (by simp [ea,eh,h1];with_reducible rfl) ?_|refine wt (by simpa [ea,eh,h1]) ?_|refine wf (by simpa [ea,eh,h1]) ?_|refine xt (by simpa [ea,eh,h1]) ?_|refine xf (by simpa [ea,eh,h1]) ?_|apply wB|apply Qab|refine wX ?_|refine wY ?_|refine wR ?_|refine wK ?_|refine wE ?_)
   simp [Qna]
 | true =>
 cases h2:Qv0 es a b with
 | false =>
   have hm:Ql5 es a b c d=false:=by simp [Ql5,h2]
   rw [OS,hm]
   refine cW Qvp rfl ?_
   repeat (first|apply wA|apply wS|refine wr (by simp [ea,eh,h1,h2];with_reducible rfl) ?_|refine wq (by simp [ea,eh,h1,h2];with_reducible rfl) ?_|refine wt (by simpa [ea,eh,h1,h2]) ?_|refine wf (by simpa [ea,eh,h1,h2]) ?_|refine xt (by simpa [ea,eh,h1,h2]) ?_|refine xf (by simpa [ea,eh,h1,h2]) ?_|apply wB|apply Qab|refine wX ?_|refine wY ?_|refine wR ?_|refine wK ?_|refine wE ?_)
   simp [Qna]
 | true =>
 cases h3:Qv0 es c d with
 | false =>
   have hm:Ql5 es a b c d=false:=by simp [Ql5,h3]
   rw [OS,hm]
   refine cW Qvp rfl ?_
   repeat (first|apply wA|apply wS|refine wr (by simp [ea,eh,h1,h2,h3];with_reducible rfl) ?_|refine wq (by simp [ea,eh,h1,h2,h3];with_reducible rfl) ?_|refine wt (by simpa [ea,eh,h1,h2,h3]) ?_|refine wf (by simpa [ea,eh,h1,h2,h3]) ?_|refine xt (by simpa [ea,eh,h1,h2,h3]) ?_|refine xf (by simpa [ea,eh,h1,h2,h3]) ?_|apply wB|apply Qab|refine wX ?_|refine wY ?_|refine wR ?_|refine wK ?_|refine wE ?_)
   simp [Qna]
 | true =>
 cases h4:Qv0 es a c with
 | true =>
   have hm:Ql5 es a b c d=false:=by simp [Ql5,h4]
   rw [OS,hm]
   refine cW Qvp rfl ?_
   repeat (first|apply wA|apply wS|refine wr (by simp [ea,eh,h1,h2,h3,h4];with_reducible rfl) ?_|refine wq (by simp [ea,eh,h1,h2,h3,h4];with_reducible rfl) ?_|refine wt (by simpa [ea,eh,h1,h2,h3,h4]) ?_|refine wf (by simpa [ea,eh,h1,h2,h3,h4]) ?_|refine xt (by simpa [ea,eh,h1,h2,h3,h4]) ?_|refine xf (by simpa [ea,eh,h1,h2,h3,h4]) ?_|apply wB|apply Qab|refine wX ?_|refine wY ?_|refine wR ?_|refine wK ?_|refine wE ?_)
   simp [Qna]
 | false =>
 cases h5:Qv0 es b d with
 | true =>
   have hm:Ql5 es a b c d=false:=by simp [Ql5,h5]
   rw [OS,hm]
   refine cW Qvp rfl ?_
   repeat (first|apply wA|apply wS|refine wr (by simp [ea,eh,h1,h2,h3,h4,h5];with_reducible rfl) ?_|refine wq (by simp [ea,eh,h1,h2,h3,h4,h5];with_reducible rfl) ?_|refine wt (by simpa [ea,eh,h1,h2,h3,h4,h5]) ?_|refine wf (by simpa [ea,eh,h1,h2,h3,h4,h5]) ?_|refine xt (by simpa [ea,eh,h1,h2,h3,h4,h5]) ?_|refine xf (by simpa [ea,eh,h1,h2,h3,h4,h5]) ?_|apply wB|apply Qab|refine wX ?_|refine wY ?_|refine wR ?_|refine wK ?_|refine wE ?_)
   simp [Qna]
 | false =>
 have hm:Ql5 es a b c d=true:=by simp [Ql5,h1,h2,h3,h4,h5]
 obtain ⟨q1,q2,q3,q4⟩:=Qs7 hv hm
 rw [OS,hm]
 have ec:=fun c'=>Qaa (Qjp 2 es c' (.inl rfl) (by omega))
 have ed:=Qaa (Qgc es Qtp [.bptr 0 1 0] [[[I n,L2 es cc],[I a,I b,I c,I d],[I 0,Z]]] (Qa3 a b c d) (by omega) (fun bs M' x _=>Qpb x a b c d _ 1 rfl _))
 have ee:=fun a b M=>Qaa (Qjx a b M)
 have em:=fun c'=>Qaa (Qn2 n 2 (swX es a b c d) c' (.inl rfl) (fun x hx=>by have:=Qan.1 (q2 x hx);simp only [DE];omega) q1 q4)
 have hf:Fit (sw es a b c d):=fun e he=>by have:=Qan.1 ((Qa9.1 q3).2.1 e he);omega
 have hl:(sw es a b c d).length≤21:=Jmk hn7 q3
 have ev:=fun c'=>Qaa (Qco n (sw es a b c d) c' hf (by omega))
 rw [q3] at ev
 rw [show Qgm (swX es a b c d)=sw es a b c d from rfl] at em
 simp only [swX] at em
 have hG:(es.filter (fun x=>!Qa3 a b c d x)).length≤274877906942:=by have:=List.length_filter_le (fun x=>!Qa3 a b c d x) es;omega
 generalize sw es a b c d=R at *
 generalize es.filter (fun x=>!Qa3 a b c d x)=G at *
 have hT:Qdb (List.take (G.length+2) (eds G++[[I (min a c),I (max a c)],[I (min b d),I (max b d)]]))=eds (G++[(min a c,max a c),(min b d,max b d)]):=by
  rw [List.take_of_length_le (by simp),← Jmt (G++[(min a c,max a c),(min b d,max b d)]),← Ji9]
  rfl
 refine cW Qvp rfl ?_
 repeat (first|apply wA|apply wS|refine wr (by simp [ea,eh,h1,h2,h3,h4,h5,ec,ed];with_reducible rfl) ?_|refine wq (by simp [ea,eh,h1,h2,h3,h4,h5,ec,ed];with_reducible rfl) ?_|refine wt (by simpa [ea,eh,h1,h2,h3,h4,h5,ec,ed]) ?_|refine wf (by simpa [ea,eh,h1,h2,h3,h4,h5,ec,ed]) ?_|refine xt (by simpa [ea,eh,h1,h2,h3,h4,h5,ec,ed]) ?_|refine xf (by simpa [ea,eh,h1,h2,h3,h4,h5,ec,ed]) ?_|apply wB|apply Qab|refine wX ?_|refine wY ?_|refine wR ?_|refine wK ?_|refine wE ?_)
 refine Jge rfl (by simp [ee,em,hG,hT];with_reducible rfl) (by simp;with_reducible rfl) ?_ ?_
 · intro p hp
   simp only [List.mem_cons,List.not_mem_nil,or_false] at hp
   rcases hp with rfl | rfl | rfl | rfl | rfl | rfl | rfl | rfl | rfl | rfl | rfl
   · exact ⟨_,by simp [ee,em,hG,hT];with_reducible rfl,by simp⟩
   · exact ⟨_,by simp [ee,em,hG,hT];with_reducible rfl,by simp⟩
   · exact ⟨_,by simp [ee,em,hG,hT];with_reducible rfl,by simp⟩
   · exact ⟨_,by simp [ee,em,hG,hT];with_reducible rfl,by simp⟩
   · exact ⟨_,by simp [ee,em,hG,hT];with_reducible rfl,by simp⟩
   · exact ⟨_,by simp [ee,em,hG,hT];with_reducible rfl,by simp⟩
   · exact ⟨_,by simp [ee,em,hG,hT];with_reducible rfl,by simp⟩
   · exact ⟨_,by simp [ee,em,hG,hT];with_reducible rfl,by simp⟩
   · exact ⟨_,by simp [ee,em,hG,hT];with_reducible rfl,by simp⟩
   · exact ⟨_,by simp [ee,em,hG,hT];with_reducible rfl,by simp⟩
   · exact ⟨_,by simp [ee,em,hG,hT];with_reducible rfl,by simp⟩
 repeat (first|apply wA|apply wS|refine wr (by simp [ev];with_reducible rfl) ?_|refine wq (by simp [ev];with_reducible rfl) ?_|refine wt (by simpa [ev]) ?_|refine wf (by simpa [ev]) ?_|refine xt (by simpa [ev]) ?_|refine xf (by simpa [ev]) ?_|apply wB|apply Qab|refine wX ?_|refine wY ?_|refine wR ?_|refine wK ?_|refine wE ?_)
 refine Qi6 (by simp [ev];with_reducible rfl) (by simp;with_reducible rfl) ?_ ?_
 · intro p hp
   simp only [List.mem_cons,List.not_mem_nil,or_false] at hp
   subst hp
   exact ⟨_,by simp [ev];with_reducible rfl,by simp⟩
 repeat (first|apply wA|apply wS|refine wr (by simp;with_reducible rfl) ?_|refine wq (by simp;with_reducible rfl) ?_|refine wt (by simpa) ?_|refine wf (by simpa) ?_|refine xt (by simpa) ?_|refine xf (by simpa) ?_|apply wB|apply Qab|refine wX ?_|refine wY ?_|refine wR ?_|refine wK ?_|refine wE ?_)
 simp [Qna]
end Go.Idl
namespace Go.Idl
def insP (x:Nat×Nat):List (Nat×Nat)→List (Nat×Nat)
 | []=>[x]
 | y::r=>if Nat.ble y.1 x.1 then x::y::r else y::insP x r
def hh:Nat→List (Nat×Nat)→List (Nat×Nat)
 | 0,_=>[]
 | _+1,[]=>[]
 | m+1,x::r=>(r.take x.1).map (fun y:Nat×Nat=>(x.2,y.2))++hh m ((((r.take x.1).map (fun y:Nat×Nat=>(y.1 - 1,y.2))++r.drop x.1:List (Nat×Nat))).foldr insP [])
theorem Jbt {o:List Int} {i v:Nat} (hv:v < o.length):(Qf6 o i).getD v 0=o.getD v 0 - (if i=v then 1 else 0):=by
 rw [Qf6,List.getD_eq_getElem?_getD,List.getElem?_set]
 by_cases h:i=v
 · subst h;simp [hv,List.getD_eq_getElem?_getD]
 · simp [h,List.getD_eq_getElem?_getD]
theorem Qlz (v:Nat) (e:Int×Int):0≤inc v e:=by simp only [inc];split <;> split <;> decide
theorem Jif {α:Type} {p q:Prop} [Decidable p] [Decidable q] (h:p ↔ q) (a b:α):(if p then a else b)=if q then a else b:=by
 by_cases hp:p
 · rw [if_pos hp,if_pos (h.1 hp)]
 · rw [if_neg hp,if_neg fun hq=>hp (h.2 hq)]
def mk (u v:Nat):Int×Int:=(min (u:Int) v,max (u:Int) v)
end Go.Idl
namespace Go.Idl
open Go
def fmx (P:Nat→Bool) (left:List Int):Nat→Int
 | 0=>-1
 | k+1=>if P k && (decide (fmx P left k < 0) || decide (left.getD (fmx P left k).toNat 0 < left.getD k 0)) then (k:Int) else fmx P left k
theorem Qee (P:Nat→Bool) (left:List Int):∀ k,fmx P left k=-1 ∨ ∃ q:Nat,q < k∧fmx P left k=q∧P q=true
 | 0=>.inl rfl
 | k+1=>by
   rw [fmx]
   split
   · rename_i h
     simp only [Qba] at h
     exact .inr ⟨k,by omega,rfl,h.1⟩
   · rcases Qee P left k with h | ⟨q,h1,h2,h3⟩
     · exact .inl h
     · exact .inr ⟨q,by omega,h2,h3⟩
def Jnq (v:Int) (n:Nat) (done:List Int):Nat→List Int→List (Int×Int)→Option (List Int×List (Int×Int))
 | 0,left,es=>some (left,es)
 | k+1,left,es =>
   let b:=fmx (fun i=>!decide ((i:Int) ∈ done) && !has es v i) left n
   if b < 0 ∨ left.getD b.toNat 0 < 1 then none else Jnq v n done k (Qf6 left b.toNat) (Qk5 (min v b,max v b) es)
def Jc3 (n:Nat):Nat→List Int→List Int→List (Int×Int)→Option (List (Int×Int))
 | 0,_,_,es=>some es
 | m+1,left,done,es =>
   let v:=fmx (fun i=>!decide ((i:Int) ∈ done)) left n
   match Jnq v n (done++[v]) (left.getD v.toNat 0).toNat left es with
   | none=>none
   | some (left',es')=>Jc3 n m left' (done++[v]) es'
end Go.Idl
namespace Go.Idl
open Go
theorem Qmg (P:Nat→Bool) (left:List Int):∀ k,fmx P left k=-1→∀ w,w < k→P w=false
 | 0,_,w,hw=>by omega
 | k+1,h,w,hw=>by
   rw [fmx] at h
   split at h
   · omega
   · rename_i h2
     have h1:=Qmg P left k h
     by_cases hwk:w=k
     · subst hwk
       cases hp:P w with
       | false=>rfl
       | true =>
         exfalso
         apply h2
         rw [hp,h]
         rfl
     · exact h1 w (by omega)
def Jqs (d:List Int):Option (List (Int×Int)):=Jc3 d.length d.length d [] []
end Go.Idl
namespace Go.Idl
open Go
abbrev Ji5 (d:List Int):Prop:=Jqs d=(Qh5 d).map Qgm∧∀ es,Qh5 d=some es→Qax d.length (Qgm es)=true∧Qda d.length (Qgm es)=d
end Go.Idl
