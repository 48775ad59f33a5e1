/- Part 5 of a proof by an ideal interpreter of the code: its definitions and lemmas. Conditions: none. -/
import Derived.KernelRfl
import Derived.Test.YtgcdgdmpdbhdhaaGreatA4
set_option linter.all false
set_option linter.unusedVariables false
set_option linter.unusedSimpArgs false
namespace Go.Idl
open Go
theorem Jho (n lo hi:Int):Ev tb Jnv [] [I n,I lo,I hi] [] ⟨Bo (decide (lo≤n) && decide (n≤hi)),[],[],[]⟩:=by
 refine cW zt38 rfl ?_
 refine Qbo (by simp;rfl) (by simp;rfl) ?_
 by_cases h:lo≤n
 · refine Qbo (by simp [h];rfl) (by simp;rfl) ?_
   refine wR ?_
   simp [h,Jy5]
 · refine Qbo (by simp [h];rfl) (by simp;rfl) ?_
   refine wR ?_
   simp [h,Jy5]
theorem Qty (n lo hi:Int):Ev tb Qzd [] [I n,I lo,I hi] [] ⟨Bo (decide (lo≤n) && decide (n≤hi)),[],[],[]⟩:=by
 refine cW zt132 rfl ?_
 refine Qbo (by simp;rfl) (by simp;rfl) ?_
 by_cases h:lo≤n
 · refine Qbo (by simp [h];rfl) (by simp;rfl) ?_
   refine wR ?_
   simp [h,Qxb]
 · refine Qbo (by simp [h];rfl) (by simp;rfl) ?_
   refine wR ?_
   simp [h,Qxb]
def Qm4 (xs:List Int):Prop:=xs.length≤1000000∧∀ k,-4611686018427387904≤(xs.take k).sum∧(xs.take k).sum≤4611686018427387904
theorem Qdi {xs:List Int} {i:Nat} (h:i < xs.length):(xs.take i).sum+xs[i]=(xs.take (i+1)).sum:=by
 rw [List.take_succ_eq_append_getElem h,List.sum_append];simp
theorem Jbb (xs:List Int) (c:Bool) (hs:Qm4 xs):Ev tb Jkg [] [.lst 1 (Qb3 xs) c] [] ⟨I xs.sum,[],[],[]⟩:=by
 obtain ⟨hl,hs⟩:=hs
 have loop:∀ (m i:Nat),i+m=xs.length→wp tb (.loop Jy4) { T:=[(0,.lst 1 (Qb3 xs) c),(3,I (xs.take i).sum),(6,.lst 1 (Qb3 xs) c),(7,I xs.length),(8,I i)],loc:=[],M:=[] }
  (fun ex st=>ex=.exit 0∧st={ T:=[(0,.lst 1 (Qb3 xs) c),(3,I xs.sum),(6,.lst 1 (Qb3 xs) c),(7,I xs.length),(8,I xs.length),(9,Bo false)],loc:=[],M:=[] }):=by
  intro m
  induction m with
  | zero =>
    intro i hi
    have hi':i=xs.length:=by omega
    subst hi'
    apply wW
    refine Qbo (by simp;rfl) (by simp;rfl) ?_
    refine Qfe rfl (by simp) fun _=>wY ?_
    simp
  | succ m ih =>
    intro i hi
    have hi':i < xs.length:=by omega
    have h1:=hs (i+1)
    rw [← Qdi hi'] at h1
    apply wW
    refine Qbo (by simp;rfl) (by simp;rfl) ?_
    refine Qfe rfl (fun _=>wS ?_) (by simp [hi'])
    refine wB ?_
    refine Qbo (by simp [hi'];rfl) (by simp;rfl) ?_
    refine Qly (by simp;rfl) (by simp;rfl) ?_
    refine Qly (by simp;rfl) (by simp;rfl) ?_
    have:=ih (i+1) (by omega)
    rw [Qa8 (by omega),Qad (by omega) (by omega),Qdi hi']
    exact this
 refine cW zt40 rfl ?_
 refine Qbo (by simp;rfl) (by simp;rfl) ?_
 refine Qbo (by simp;rfl) (by simp;rfl) ?_
 refine wA (Qbo (by simp;rfl) (by simp;rfl) ?_)
 refine wB (Qaf (loop xs.length 0 (by simp)) ?_)
 rintro ex st ⟨rfl,rfl⟩
 simp only [if_true]
 refine Qbo (by simp;rfl) (by simp;rfl) ?_
 refine wR ?_
 simp [zi40]
theorem Qqt (xs:List Int):Ev tb Jnz [] [.own 1 (Qb3 xs)] [] ⟨.own 1 (Qb3 xs),[],[],[]⟩:=by
 refine cW zt70 rfl ?_
 refine Qbo (by simp;rfl) (by simp;rfl) ?_
 refine Qbo (by simp;rfl) (by simp;rfl) ?_
 refine wR ?_
 simp [zi70]
theorem Jd9 (xs:List Int) (c:Bool) (hl:xs.length≤1000000):Ev tb Jny [] [.lst 1 (Qb3 xs) c] [] ⟨.own 1 (Qb3 xs),[],[],[]⟩:=by
 refine cW zt71 rfl ?_
 refine Qbo (by simp;rfl) (by simp;rfl) ?_
 refine Qn6 (b:=xs.isEmpty) (by simp [Jj8];rfl) (by simp) ?_ ?_ ?_ (ex:=.ret) (st':={ T:=[(2,.own 1 (Qb3 xs))],loc:=[],M:=[] })
 · refine Qfe (t:=false) (by simp) (by simp) fun _=>wS ?_
   refine Qbo (by simp [show xs.length≤274877906944 by omega];rfl) (by simp;rfl) ?_
   refine wR ?_
   simp
 · intro he
   have:xs=[]:=by simpa using he
   subst this
   refine Qfe (t:=true) (by simp) (fun _=>wA ?_) (by simp)
   refine Qbo (by simp;rfl) (by simp;rfl) ?_
   refine wX ?_
   simp
 · simp [zi71]
theorem Qm3 (xs:List Int) (c:Bool) (hl:xs.length≤1000000) :
 Ev tb Jda [] [.lst 1 (Qb3 xs) c] [] ⟨.own 1 (Qb3 xs),[],[],[]⟩:=by
 have e1:=Qaa (Jd9 xs c hl)
 have e2:=Qaa (Qqt xs)
 refine cW zt31 rfl ?_
 refine Qbo (by simp;rfl) (by simp;rfl) ?_
 refine Qbo (by simp [e1,e2];rfl) (by simp;rfl) ?_
 refine wR ?_
 simp [Jqy]
theorem Qkr (xs:List Int) (c:Bool) (hs:Qm4 xs):Ev tb Qvo [] [.lst 1 (Qb3 xs) c] [] ⟨I xs.sum,[],[],[]⟩:=by
 obtain ⟨hl,hs⟩:=hs
 have loop:∀ (m i:Nat),i+m=xs.length→wp tb (.loop Jfu) { T:=[(0,.lst 1 (Qb3 xs) c),(3,I (xs.take i).sum),(4,I i)],loc:=[],M:=[] }
  (fun ex st=>ex=.exit 0∧st={ T:=[(0,.lst 1 (Qb3 xs) c),(3,I xs.sum),(4,I xs.length),(8,Bo false)],loc:=[],M:=[] }):=by
  intro m
  induction m with
  | zero =>
    intro i hi
    have hi':i=xs.length:=by omega
    subst hi'
    refine wW (wA (Qbo (by simp;rfl) (by simp;rfl) ?_))
    exact Qfe rfl (by simp) fun _=>wY (by simp)
  | succ m ih =>
    intro i hi
    have hi':i < xs.length:=by omega
    have h1:=hs (i+1)
    rw [← Qdi hi'] at h1
    refine wW (wA (Qbo (by simp;rfl) (by simp;rfl) ?_))
    refine Qfe rfl (fun _=>wS ?_) (by simp [hi'])
    refine wB (Qly (by simp [hi'];rfl) (by simp;rfl) ?_)
    refine Qly (by simp;rfl) (by simp;rfl) ?_
    have:=ih (i+1) (by omega)
    rw [Qa8 (by omega),Qad (by omega) (by omega),Qdi hi']
    exact this
 refine cW zt382 rfl ?_
 refine Qbo (by simp;rfl) (by simp;rfl) ?_
 refine Qbo (by simp;rfl) (by simp;rfl) ?_
 refine wA (Qbo (by simp;rfl) (by simp;rfl) ?_)
 refine wB (Qaf (loop xs.length 0 (by simp)) ?_)
 rintro ex st ⟨rfl,rfl⟩
 simp only [if_true]
 refine Qbo (by simp;rfl) (by simp;rfl) ?_
 exact wR (by simp [Je7])
end Go.Idl
namespace Go.Idl
def Qgs (x:Int):List Int→List Int
 | []=>[x]
 | y::ys=>if x≤y then y::Qgs x ys else x::y::ys
def fall (xs:List Int):List Int:=xs.foldl (fun out x=>Qgs x out) []
abbrev Qvs (xs:List Int):Prop:=xs.Pairwise (fun a b=>b≤a)
abbrev Asc (xs:List Int):Prop:=xs.Pairwise (fun a b=>a≤b)
theorem Qo0 (x:Int) (ys:List Int):(Qgs x ys).Perm (x::ys):=by
 induction ys with
 | nil=>exact .refl _
 | cons y ys ih =>
   unfold Qgs
   split
   · exact (ih.cons y).trans (.swap x y ys)
   · exact .refl _
theorem Qw3 (x:Int) (ys:List Int) (h:Qvs ys):Qvs (Qgs x ys):=by
 induction ys with
 | nil=>simp [Qgs]
 | cons y ys ih =>
   unfold Qgs
   have h:=List.pairwise_cons.1 h
   split
   · refine List.pairwise_cons.2 ⟨fun a ha=>?_,ih h.2⟩
     rcases List.mem_cons.1 ((Qo0 x ys).mem_iff.1 ha) with rfl | ha
     · assumption
     · exact h.1 a ha
   · rename_i hx
     refine List.pairwise_cons.2 ⟨fun a ha=>?_,List.pairwise_cons.2 h⟩
     rcases List.mem_cons.1 ha with rfl | ha
     · omega
     · have:=h.1 a ha;omega
theorem Qr6 (xs:List Int):∀ ys,Qvs ys→Qvs (xs.foldl (fun out x=>Qgs x out) ys)∧(xs.foldl (fun out x=>Qgs x out) ys).Perm (xs++ys):=by
 induction xs with
 | nil=>intro ys h;exact ⟨h,.refl _⟩
 | cons x xs ih =>
   intro ys h
   obtain ⟨h1,h2⟩:=ih (Qgs x ys) (Qw3 x ys h)
   refine ⟨h1,h2.trans ?_⟩
   exact ((Qo0 x ys).append_left xs).trans List.perm_middle
theorem Qg7 (xs:List Int):Qvs (fall xs):=(Qr6 xs [] .nil).1
theorem Qeg (xs:List Int):(fall xs).Perm xs:=by simpa [fall] using (Qr6 xs [] .nil).2
theorem Qd8 (xs:List Int):(fall xs).length=xs.length:=(Qeg xs).length_eq
theorem Qqs {xs ys:List Int} (hx:Qvs xs) (hy:Qvs ys) (h:xs.Perm ys):xs=ys:=by
 refine List.Perm.eq_of_pairwise (le:=fun a b=>b≤a) (fun a b _ _ h1 h2=>by omega) hx hy h
theorem Qgq {xs ys:List Int} (hy:Qvs ys) (h:ys.Perm xs):ys=fall xs:=Qqs hy (Qg7 xs) (h.trans (Qeg xs).symm)
theorem Qu5 {xs ys:List Int} (h:xs.Perm ys):fall xs=fall ys:=Qgq (Qg7 xs) ((Qeg xs).trans h)
theorem Qth {xs ys:List Int} (h:xs.Perm ys):xs.sum=ys.sum:=by
 induction h with
 | nil=>rfl
 | cons x _ ih=>simp [ih]
 | swap x y l=>simp;omega
 | trans _ _ h1 h2=>exact h1.trans h2
theorem Qti (xs:List Int):(fall xs).sum=xs.sum:=Qth (Qeg xs)
theorem Qs5 {xs:List Int} {x:Int}:x ∈ fall xs ↔ x ∈ xs:=(Qeg xs).mem_iff
def Qsp (x:Int):List Int→List Int→List Int
 | [],B=>x::B
 | a::r,B=>if x < a then Qsp x r (a::B) else r.reverse++a::x::B
theorem Qkd (x:Int):∀ (r B:List Int),(Qsp x r B).Perm (r.reverse++x::B)
 | [],B=>.refl _
 | a::r,B=>by
   unfold Qsp
   split
   · refine (Qkd x r (a::B)).trans ?_
     rw [List.reverse_cons,List.append_assoc]
     exact List.Perm.append_left _ (.swap _ _ _)
   · rw [List.reverse_cons,List.append_assoc]
     exact .refl _
theorem Qsi (x:Int):∀ (r B:List Int),Asc (r.reverse++B)→(∀ b ∈ B,x≤b)→Asc (Qsp x r B)
 | [],B,h,hb=>List.pairwise_cons.2 ⟨hb,by simpa using h⟩
 | a::r,B,h,hb=>by
   rw [List.reverse_cons,List.append_assoc] at h
   unfold Qsp
   split
   · rename_i hx
     refine Qsi x r (a::B) h fun b hb'=>?_
     rcases List.mem_cons.1 hb' with rfl | hb'
     · omega
     · exact hb b hb'
   · rename_i hx
     obtain ⟨h1,h2,h3⟩:=List.pairwise_append.1 (show Asc (r.reverse++a::B) from h)
     have h2:=List.pairwise_cons.1 h2
     refine List.pairwise_append.2 ⟨h1,?_,fun p hp q hq=>?_⟩
     · refine List.pairwise_cons.2 ⟨fun q hq=>?_,List.pairwise_cons.2 ⟨hb,h2.2⟩⟩
       rcases List.mem_cons.1 hq with rfl | hq
       · omega
       · exact h2.1 q hq
     · have ha:=h3 p hp a (by simp)
       rcases List.mem_cons.1 hq with rfl | hq
       · exact ha
       · rcases List.mem_cons.1 hq with rfl | hq
         · omega
         · exact h3 p hp q (by simp [hq])
def asc:Nat→List Int→List Int→List Int
 | _,S,[]=>S
 | n,S,x::r=>asc n (Qsp x S.reverse []) r
theorem Qwz:∀ (r S:List Int),Asc S→Asc (asc 0 S r)∧(asc 0 S r).Perm (S++r)
 | [],S,h=>⟨h,by simp [asc]⟩
 | x::r,S,h=>by
   obtain ⟨h1,h2⟩:=Qwz r (Qsp x S.reverse []) (Qsi x _ _ (by simpa using h) (by simp))
   refine ⟨h1,h2.trans ?_⟩
   have:=Qkd x S.reverse []
   rw [List.reverse_reverse] at this
   refine (this.append_right r).trans ?_
   rw [List.append_assoc];exact .refl _
theorem Qhz (xs:List Int):(asc 0 [] xs).reverse=fall xs:=by
 obtain ⟨h1,h2⟩:=Qwz xs [] .nil
 refine Qgq ?_ ((List.reverse_perm _).trans (by simpa using h2))
 rw [Qvs,List.pairwise_reverse];exact h1
theorem Jld (xs:List Int):(asc 0 [] xs).length=xs.length:=by simpa using (Qwz xs [] .nil).2.length_eq
end Go.Idl
namespace Go.Idl
open Go
abbrev L (xs:List Int) (c:Bool:=false):IV:=.lst 1 (Qb3 xs) c
abbrev O (xs:List Int):IV:=.own 1 (Qb3 xs)
theorem Jc7 (n:Int):Ev tb zl4 [] [I n] [] ⟨Bo false,[],[],[]⟩:=by
 refine cW zt4 rfl ?_
 repeat (first|apply wA|apply wS|refine wr (by simp;with_reducible rfl) ?_|refine wq (by simp;with_reducible rfl) ?_|refine wt (by simp) ?_|refine wf (by simp) ?_|refine xt (by simp) ?_|refine xf (by simp) ?_|apply wB|apply Qab|refine wX ?_|refine wY ?_|refine wR ?_|refine wK ?_|refine wE ?_)
 simp [zi4]
theorem Ji2 (a b:Int):Ev tb zl2 [] [I a,I b] [] ⟨Bo (decide (a < b)),[],[],[]⟩:=by
 have e1:=fun n=>Qaa (Jc7 n)
 refine cW zt2 rfl ?_
 repeat (first|apply wA|apply wS|refine wr (by simp [e1];with_reducible rfl) ?_|refine wq (by simp [e1];with_reducible rfl) ?_|refine wt (by simp [e1]) ?_|refine wf (by simp [e1]) ?_|refine xt (by simp [e1]) ?_|refine xf (by simp [e1]) ?_|apply wB|apply Qab|refine wX ?_|refine wY ?_|refine wR ?_|refine wK ?_|refine wE ?_)
 simp [zi2]
theorem Qha (n:Int) (M:List Qac):Ev tb zl8 [] [I n] M ⟨Bo (decide (n < 0)),[],M,[]⟩:=by
 refine cW zt8 rfl ?_
 repeat (first|apply wA|apply wS|refine wr (by simp;with_reducible rfl) ?_|refine wq (by simp;with_reducible rfl) ?_|refine wt (by simp) ?_|refine wf (by simp) ?_|refine xt (by simp) ?_|refine xf (by simp) ?_|apply wB|apply Qab|refine wX ?_|refine wY ?_|refine wR ?_|refine wK ?_|refine wE ?_)
 simp [zi8]
theorem Qcd {A Z:List Int} {a x:Int}:(A++a::x::Z)[A.length+1]? = some x:=by
 rw [List.getElem?_append_right (by omega)];simp
theorem Qbh {A Z:List Int} {a:Int}:(A++a::Z)[A.length]? = some a:=by
 rw [List.getElem?_append_right (by omega)];simp
theorem Qdd {A Z:List Int} {a x:Int}:((A++a::x::Z).set (A.length+1) a).set A.length x=A++x::a::Z:=by
 rw [List.set_append_right _ _ (by omega),List.set_append_right _ _ (by omega)]
 simp
theorem insl (n i:Int) (x:Int) (rest:List Int) (M:List Qac):∀ (k:Nat) (A B:List Int),A.length=k→k+B.length+rest.length≤1000000 →
 wp tb (.loop Job) { T:=[(0,O (A++x::(B++rest))),(1,I 0),(2,I n),(6,I i),(7,I k)],loc:=[],M:=M }
  (fun ex st=>ex=.exit 2∧∃ k':Int,st={ T:=[(0,O (Qsp x A.reverse B++rest)),(1,I 0),(2,I n),(6,I i),(7,I k'),(30,Bo false)],loc:=[],M:=M }):=by
 have e1:=fun a b=>Qaa (Ji2 a b)
 intro k
 induction k with
 | zero =>
   intro A B hA hl
   have:A=[]:=List.length_eq_zero_iff.1 hA
   subst this
   refine wW ?_
   repeat (first|apply wA|apply wS|refine wr (by simp;with_reducible rfl) ?_|refine wq (by simp;with_reducible rfl) ?_|refine wt (by simp) ?_|refine wf (by simp) ?_|refine xt (by simp) ?_|refine xf (by simp) ?_|apply wB|apply Qab|refine wX ?_|refine wY ?_|refine wR ?_|refine wK ?_|refine wE ?_)
   exact ⟨rfl,_,by simp [Qsp];rfl⟩
 | succ k ih =>
   intro A B hA hl
   obtain ⟨A',a,rfl⟩:∃ A' a,A=A'++[a]:=⟨A.dropLast,A.getLast (by intro h;subst h;simp at hA),(List.dropLast_concat_getLast _).symm⟩
   have hA':A'.length=k:=by simpa using hA
   subst hA'
   have w1:IntKind.i64.wrap (A'.length:Int)=(A'.length:Int):=Qrr (by omega)
   have w2:(0:Int) < (A'.length:Int)+1:=by omega
   simp only [List.append_assoc,List.singleton_append]
   by_cases hx:x < a
   · refine wW ?_
     repeat (first|apply wA|apply wS|refine wr (by simp [e1,hx,w1,w2,Qbh,Qcd,Qdd];with_reducible rfl) ?_|refine wq (by simp [e1,hx,w1,w2,Qbh,Qcd,Qdd];with_reducible rfl) ?_|refine wt (by simp [e1,hx,w1,w2,Qbh,Qcd,Qdd]) ?_|refine wf (by simp [e1,hx,w1,w2,Qbh,Qcd,Qdd]) ?_|refine xt (by simp [e1,hx,w1,w2,Qbh,Qcd,Qdd]) ?_|refine xf (by simp [e1,hx,w1,w2,Qbh,Qcd,Qdd]) ?_|apply wB|apply Qab|refine wX ?_|refine wY ?_|refine wR ?_|refine wK ?_|refine wE ?_)
     have:=ih A' (a::B) rfl (by simp;omega)
     simp only [List.cons_append,List.reverse_append,List.reverse_cons,List.reverse_nil,List.nil_append] at this ⊢
     simp only [Qsp,hx,if_true]
     exact this
   · refine wW ?_
     repeat (first|apply wA|apply wS|refine wr (by simp [e1,hx,w1,w2,Qbh,Qcd,Qdd];with_reducible rfl) ?_|refine wq (by simp [e1,hx,w1,w2,Qbh,Qcd,Qdd];with_reducible rfl) ?_|refine wt (by simp [e1,hx,w1,w2,Qbh,Qcd,Qdd]) ?_|refine wf (by simp [e1,hx,w1,w2,Qbh,Qcd,Qdd]) ?_|refine xt (by simp [e1,hx,w1,w2,Qbh,Qcd,Qdd]) ?_|refine xf (by simp [e1,hx,w1,w2,Qbh,Qcd,Qdd]) ?_|apply wB|apply Qab|refine wX ?_|refine wY ?_|refine wR ?_|refine wK ?_|refine wE ?_)
     refine ⟨rfl,((A'.length+1:Nat):Int),?_⟩
     simp only [List.reverse_append,List.reverse_cons,List.reverse_nil,List.nil_append,List.cons_append]
     simp only [Qsp,hx,if_false,List.reverse_reverse,List.append_assoc,List.cons_append]
     rfl
theorem Qmd (x:Int) (S:List Int):(Qsp x S.reverse []).length=S.length+1:=by
 have:=(Qkd x S.reverse []).length_eq
 simpa using this
theorem sortl (M:List Qac) (n:Int):∀ (r S:List Int),n=(S.length+r.length:Nat)→S.length+r.length≤1000000 →
 wp tb (.loop Ju8) { T:=[(0,O (S++r)),(1,I 0),(2,I n),(6,I S.length)],loc:=[],M:=M }
  (fun ex st=>ex=.exit 0∧∃ k':Int,st={ T:=[(0,O (asc 0 S r)),(1,I 0),(2,I n),(6,I k'),(12,Bo false)],loc:=[],M:=M }):=by
 intro r
 induction r with
 | nil =>
   intro S hn hl
   refine wW ?_
   have h1:¬ (S.length:Int) < n:=by simp at hn;omega
   repeat (first|apply wA|apply wS|refine wr (by simp [h1];with_reducible rfl) ?_|refine wq (by simp [h1];with_reducible rfl) ?_|refine wt (by simp [h1]) ?_|refine wf (by simp [h1]) ?_|refine xt (by simp [h1]) ?_|refine xf (by simp [h1]) ?_|apply wB|apply Qab|refine wX ?_|refine wY ?_|refine wR ?_|refine wK ?_|refine wE ?_)
   exact ⟨rfl,_,by simp [asc];rfl⟩
 | cons x r ih =>
   intro S hn hl
   refine wW ?_
   simp only [List.length_cons] at hn hl
   have h1:(S.length:Int) < n:=by omega
   have w1:IntKind.i64.wrap ((S.length:Int)+1)=(S.length:Int)+1:=by rw [Qad (by omega) (by omega)]
   repeat (first|apply wA|apply wS|refine wr (by simp [h1,w1];with_reducible rfl) ?_|refine wq (by simp [h1,w1];with_reducible rfl) ?_|refine wt (by simp [h1,w1]) ?_|refine wf (by simp [h1,w1]) ?_|refine xt (by simp [h1,w1]) ?_|refine xf (by simp [h1,w1]) ?_|apply wB|apply Qab|refine wX ?_|refine wY ?_|refine wR ?_|refine wK ?_|refine wE ?_)
   refine Qaf (insl n S.length x r M S.length S [] rfl (by simp;omega)) ?_
   rintro ex st ⟨rfl,k',rfl⟩
   simp only [if_true]
   repeat (first|apply wA|apply wS|refine wr (by simp [h1,w1];with_reducible rfl) ?_|refine wq (by simp [h1,w1];with_reducible rfl) ?_|refine wt (by simp [h1,w1]) ?_|refine wf (by simp [h1,w1]) ?_|refine xt (by simp [h1,w1]) ?_|refine xf (by simp [h1,w1]) ?_|apply wB|apply Qab|refine wX ?_|refine wY ?_|refine wR ?_|refine wK ?_|refine wE ?_)
   have:=ih (Qsp x S.reverse []) (by rw [Qmd];omega) (by rw [Qmd];omega)
   rw [Qmd] at this
   exact this
theorem Qjd (xs:List Int) (hl:xs.length≤1000) (M:List Qac) :
 Ev tb Jx6 [0] [O xs,I 0,I xs.length] M ⟨.tup [],[O (asc 0 [] xs)],M,[]⟩:=by
 refine cW zt86 rfl ?_
 repeat (first|apply wA|apply wS|refine wr (by simp;with_reducible rfl) ?_|refine wq (by simp;with_reducible rfl) ?_|refine wt (by simp) ?_|refine wf (by simp) ?_|refine xt (by simp) ?_|refine xf (by simp) ?_|apply wB|apply Qab|refine wX ?_|refine wY ?_|refine wR ?_|refine wK ?_|refine wE ?_)
 cases xs with
 | nil =>
   refine wW ?_
   repeat (first|apply wA|apply wS|refine wr (by simp;with_reducible rfl) ?_|refine wq (by simp;with_reducible rfl) ?_|refine wt (by simp) ?_|refine wf (by simp) ?_|refine xt (by simp) ?_|refine xf (by simp) ?_|apply wB|apply Qab|refine wX ?_|refine wY ?_|refine wR ?_|refine wK ?_|refine wE ?_)
   simp [zi86,asc]
 | cons x r =>
   simp only [List.length_cons] at hl
   refine Qaf (sortl M _ r [x] (by simp;omega) (by simp;omega)) ?_
   rintro ex st ⟨rfl,k',rfl⟩
   simp [zi86,asc,Qsp]
theorem Qtz (xs:List Int) (hl:xs.length≤12) (k:Int) (M:List Qac) :
 Ev tb Qrs [0] [O xs,I 0,I xs.length,I k] M ⟨.tup [],[O (asc 0 [] xs)],M,[]⟩:=by
 have e1:=Qaa (Qjd xs (by omega) (M++[[]]))
 have w1:IntKind.i64.wrap (xs.length:Int)=(xs.length:Int):=Qrr (by omega)
 refine cW zt101 rfl ?_
 repeat (first|apply wA|apply wS|refine wr (by simp;with_reducible rfl) ?_|refine wq (by simp;with_reducible rfl) ?_|refine wt (by simp) ?_|refine wf (by simp) ?_|refine xt (by simp) ?_|refine xf (by simp) ?_|apply wB|apply Qab|refine wX ?_|refine wY ?_|refine wR ?_|refine wK ?_|refine wE ?_)
 refine wW ?_
 have h:(xs.length:Int)≤12:=by omega
 repeat (first|apply wA|apply wS|refine wr (by simp [e1,w1,hl,h];with_reducible rfl) ?_|refine wq (by simp [e1,w1,hl,h];with_reducible rfl) ?_|refine wt (by simp [e1,w1,hl,h]) ?_|refine wf (by simp [e1,w1,hl,h]) ?_|refine xt (by simp [e1,w1,hl,h]) ?_|refine xf (by simp [e1,w1,hl,h]) ?_|apply wB|apply Qab|refine wX ?_|refine wY ?_|refine wR ?_|refine wK ?_|refine wE ?_)
 simp [Jc2]
theorem len_r (cf:CF) (n:Int) (m:Nat) (g:ByteArray) (hw:IntKind.u8.wrap n=(m:Int)) (hb:(g[m]?).isSome=true) :
 ∃ k st,Qai cf { T:=[(0,.sc (.int .u64 n)),(2,I 0),(14,Bo false)],loc:=[],M:=[] } [⟨some 19,none,.mv (.t 2)⟩,⟨some 20,none,.mv (.t 0)⟩,⟨some 21,none,.conv .u8 (.t 20)⟩,⟨some 22,none,.idxs (.c (.string g)) (.t 21)⟩,⟨some 23,none,.conv .i64 (.t 22)⟩,⟨some 24,none,.bin .add (.t 19) (.t 23)⟩,⟨some 2,none,.asg (.t 24)⟩]=some st∧st.cut [2]={ T:=[(2,I k)],loc:=[],M:=[] }:=by
 obtain ⟨b,hb⟩:=Option.isSome_iff_exists.1 hb
 refine ⟨_,_,by simp [hw,hb];rfl,by simp;rfl⟩
set_option maxRecDepth 100000 in
theorem Jek (n:Nat) (hn:n≤12):∃ k:Int,Ev tb Jnr [] [.sc (.int .u64 n)] [] ⟨I k,[],[],[]⟩:=by
 have w8:IntKind.u8.wrap (n:Int)=(n:Int):=by
  have:n=0 ∨ n=1 ∨ n=2 ∨ n=3 ∨ n=4 ∨ n=5 ∨ n=6 ∨ n=7 ∨ n=8 ∨ n=9 ∨ n=10 ∨ n=11 ∨ n=12:=by omega
  rcases this with rfl | rfl | rfl | rfl | rfl | rfl | rfl | rfl | rfl | rfl | rfl | rfl | rfl <;> rfl
 have key:∃ k:Int,∃ st,Qai (Qcg tb) { T:=[(0,.sc (.int .u64 n)),(2,I 0),(14,Bo false)],loc:=[],M:=[] } (match Qxy with | .reg ops _ _=>ops | _=>[])=some st∧st.cut [2]={ T:=[(2,I k)],loc:=[],M:=[] }:=by
  have:n=0 ∨ n=1 ∨ n=2 ∨ n=3 ∨ n=4 ∨ n=5 ∨ n=6 ∨ n=7 ∨ n=8 ∨ n=9 ∨ n=10 ∨ n=11 ∨ n=12:=by omega
  rcases this with rfl | rfl | rfl | rfl | rfl | rfl | rfl | rfl | rfl | rfl | rfl | rfl | rfl
  all_goals
   refine len_r (Qcg tb) _ _ _ w8 ?_
   rfl
 obtain ⟨k,st,h1,h2⟩:=key
 have g1:¬ (4294967296:Int)≤n:=by omega
 have g2:¬ (65536:Int)≤n:=by omega
 have g3:¬ (256:Int)≤n:=by omega
 refine ⟨k,?_⟩
 refine cW zt68 rfl ?_
 iterate 4 ((first|apply wA|skip);refine Qbo (by simp [g1,g2,g3];rfl) (by simp;rfl) ?_;(first|refine Qfe (t:=false) (by simp) (by simp) (fun _=>?_)|skip);(first|apply wS|skip))
 refine Qbo h1 h2 ?_
 refine wR ?_
 simp [Jtc]
theorem Jo6 (n:Nat) (hn:n≤12):∃ k:Int,Ev tb Jgi [] [.sc (.int .u64 n)] [] ⟨I k,[],[],[]⟩:=by
 obtain ⟨k,hk⟩:=Jek n hn
 have e1:=Qaa hk
 refine ⟨k,?_⟩
 refine cW zt66 rfl ?_
 repeat (first|apply wA|apply wS|refine wr (by simp [e1];with_reducible rfl) ?_|refine wq (by simp [e1];with_reducible rfl) ?_|refine wt (by simp [e1]) ?_|refine wf (by simp [e1]) ?_|refine xt (by simp [e1]) ?_|refine xf (by simp [e1]) ?_|apply wB|apply Qab|refine wX ?_|refine wY ?_|refine wR ?_|refine wK ?_|refine wE ?_)
 simp [zi66]
theorem Jdi {n:Nat} (h:n < 1000000):IntKind.u64.wrap (n:Int)=(n:Int):=by
 have e1:(2:Int) ^ IntKind.u64.bits=18446744073709551616:=by decide
 have e3:IntKind.u64.signed=false:=rfl
 unfold IntKind.wrap
 rw [e1,e3]
 simp
 omega
theorem Jmw (xs:List Int) (hl:xs.length≤12) (M:List Qac) :
 Ev tb Jwy [0] [O xs] M ⟨.tup [],[O (asc 0 [] xs)],M,[]⟩:=by
 obtain ⟨k,hk⟩:=Jo6 xs.length hl
 have e1:=Qaa hk
 have e2:=Qaa (Qtz xs hl k (M++[[]]))
 have w1:=@Jdi xs.length (by omega)
 refine cW zt78 rfl ?_
 repeat (first|apply wA|apply wS|refine wr (by simp [e1,e2,w1];with_reducible rfl) ?_|refine wq (by simp [e1,e2,w1];with_reducible rfl) ?_|refine wt (by simp [e1,e2,w1]) ?_|refine wf (by simp [e1,e2,w1]) ?_|refine xt (by simp [e1,e2,w1]) ?_|refine xf (by simp [e1,e2,w1]) ?_|apply wB|apply Qab|refine wX ?_|refine wY ?_|refine wR ?_|refine wK ?_|refine wE ?_)
 simp [zi78]
end Go.Idl
namespace Go.Idl
open Go
theorem Qdl {k:IntKind} {a b:Nat}:Qb6 (.sc (.int k ((a:Int)+(b:Int)+1)))=some (a+b+1):=Qei (n:=a+b+1)
theorem Qjs {A m B:List Int} {x y:Int}:(A++x::(m++y::B))[A.length+m.length+1]? = some y:=by
 rw [List.getElem?_append_right (by omega),show A.length+m.length+1 - A.length=m.length+1 by omega,List.getElem?_cons_succ,List.getElem?_append_right (by omega)];simp
theorem Qig {A m B:List Int} {x y:Int} {h}:(A++x::(m++y::B))[A.length+m.length+1]'h=y:=by
 have:=@Qjs A m B x y
 rw [List.getElem?_eq_getElem h] at this
 exact Option.some.inj this
theorem Qlv {A m B:List Int} {v x y:Int}:(A++v::(m++y::B)).set (A.length+m.length+1) x=A++v::(m++x::B):=by
 rw [List.set_append_right _ _ (by omega)]
 simp [show A.length+m.length+1 - A.length=m.length+1 by omega]
theorem revl (M:List Qac):∀ (k:Nat) (A m B:List Int),m.length≤k→A.length+m.length+B.length≤1000000 →
 wp tb (.loop Jpw) { T:=[(0,O (A++(m++B))),(2,I A.length),(3,I ((A.length:Int)+m.length - 1))],loc:=[],M:=M }
  (fun ex st=>ex=.exit 0∧∃ a b:Int,st={ T:=[(0,O (A++(m.reverse++B))),(2,I a),(3,I b),(9,Bo false)],loc:=[],M:=M }):=by
 intro k
 induction k with
 | zero =>
   intro A m B hk hl
   have:m=[]:=List.length_eq_zero_iff.1 (by omega)
   subst this
   refine wW ?_
   have h:¬ ((A.length:Int) < A.length - 1):=by omega
   repeat (first|apply wA|apply wS|refine wr (by simp [h];with_reducible rfl) ?_|refine wq (by simp [h];with_reducible rfl) ?_|refine wt (by simp [h]) ?_|refine wf (by simp [h]) ?_|refine xt (by simp [h]) ?_|refine xf (by simp [h]) ?_|apply wB|apply Qab|refine wX ?_|refine wY ?_|refine wR ?_|refine wK ?_|refine wE ?_)
   exact ⟨rfl,_,_,rfl⟩
 | succ k ih =>
   intro A m B hk hl
   match m,hk,hl with
   | [],hk,hl =>
     refine wW ?_
     have h:¬ ((A.length:Int) < A.length - 1):=by omega
     repeat (first|apply wA|apply wS|refine wr (by simp [h];with_reducible rfl) ?_|refine wq (by simp [h];with_reducible rfl) ?_|refine wt (by simp [h]) ?_|refine wf (by simp [h]) ?_|refine xt (by simp [h]) ?_|refine xf (by simp [h]) ?_|apply wB|apply Qab|refine wX ?_|refine wY ?_|refine wR ?_|refine wK ?_|refine wE ?_)
     exact ⟨rfl,_,_,rfl⟩
   | [x],hk,hl =>
     refine wW ?_
     repeat (first|apply wA|apply wS|refine wr (by simp;with_reducible rfl) ?_|refine wq (by simp;with_reducible rfl) ?_|refine wt (by simp) ?_|refine wf (by simp) ?_|refine xt (by simp) ?_|refine xf (by simp) ?_|apply wB|apply Qab|refine wX ?_|refine wY ?_|refine wR ?_|refine wK ?_|refine wE ?_)
     exact ⟨rfl,_,_,rfl⟩
   | x::z::m',hk,hl =>
     obtain ⟨m,y,hm⟩:∃ m y,z::m'=m++[y]:=⟨(z::m').dropLast,(z::m').getLast (by simp),(List.dropLast_concat_getLast _).symm⟩
     rw [hm] at hk hl ⊢
     simp only [List.length_cons,List.length_append,List.length_nil] at hk hl
     have hj:(A.length:Int)+(x::(m++[y])).length - 1=(A.length:Int)+m.length+1:=by simp;omega
     rw [hj]
     simp only [List.cons_append,List.append_assoc,List.nil_append]
     refine wW ?_
     have h:(A.length:Int) < A.length+m.length+1:=by omega
     have h2:A.length < A.length+(m.length+(B.length+1)+1):=by omega
     have h3:A.length+m.length+1 < A.length+(m.length+(B.length+1)+1):=by omega
     have w1:IntKind.i64.wrap ((A.length:Int)+1)=((A++[y]).length:Int):=by rw [Qad (by omega) (by omega)];simp
     have w2:IntKind.i64.wrap ((A.length:Int)+m.length)=((A++[y]).length:Int)+m.length - 1:=by rw [Qad (by omega) (by omega)];simp;omega
     repeat (first|apply wA|apply wS|refine wr (by simp [h,h2,h3,w1,w2,Qjs,Qig,Qlv,Qdl,Qbh];with_reducible rfl) ?_|refine wq (by simp [h,h2,h3,w1,w2,Qjs,Qig,Qlv,Qdl,Qbh];with_reducible rfl) ?_|refine wt (by simp [h,h2,h3,w1,w2,Qjs,Qig,Qlv,Qdl,Qbh]) ?_|refine wf (by simp [h,h2,h3,w1,w2,Qjs,Qig,Qlv,Qdl,Qbh]) ?_|refine xt (by simp [h,h2,h3,w1,w2,Qjs,Qig,Qlv,Qdl,Qbh]) ?_|refine xf (by simp [h,h2,h3,w1,w2,Qjs,Qig,Qlv,Qdl,Qbh]) ?_|apply wB|apply Qab|refine wX ?_|refine wY ?_|refine wR ?_|refine wK ?_|refine wE ?_)
     have:=ih (A++[y]) m (x::B) (by omega) (by simp;omega)
     simp at this ⊢
     exact this
theorem Qu8 (xs:List Int) (hl:xs.length≤1000000) (M:List Qac) :
 Ev tb Jow [0] [O xs] M ⟨.tup [],[O xs.reverse],M,[]⟩:=by
 have w1:IntKind.i64.wrap ((xs.length:Int) - 1)=(xs.length:Int) - 1:=Qad (by omega) (by omega)
 refine cW zt76 rfl ?_
 repeat (first|apply wA|apply wS|refine wr (by simp [w1];with_reducible rfl) ?_|refine wq (by simp [w1];with_reducible rfl) ?_|refine wt (by simp [w1]) ?_|refine wf (by simp [w1]) ?_|refine xt (by simp [w1]) ?_|refine xf (by simp [w1]) ?_|apply wB|apply Qab|refine wX ?_|refine wY ?_|refine wR ?_|refine wK ?_|refine wE ?_)
 have:=revl M xs.length [] xs [] (by omega) (by simp;omega)
 simp at this
 refine Qaf this ?_
 rintro ex st ⟨rfl,a,b,rfl⟩
 simp [zi76]
theorem Qt0 (xs:List Int) (c:Bool) (hl:xs.length≤12) :
 Ev tb zl37 [] [L xs c] [] ⟨O (fall xs),[],[],[]⟩:=by
 have e1:=Qaa (Qm3 xs c (by omega))
 have e2:=Qaa (Jmw xs hl [[]])
 have e3:=Qaa (Qu8 (asc 0 [] xs) (by rw [Jld];omega) [[]])
 refine cW zt37 rfl ?_
 repeat (first|apply wA|apply wS|refine wr (by simp [e1,e2,e3,Qhz];with_reducible rfl) ?_|refine wq (by simp [e1,e2,e3,Qhz];with_reducible rfl) ?_|refine wt (by simp [e1,e2,e3,Qhz]) ?_|refine wf (by simp [e1,e2,e3,Qhz]) ?_|refine xt (by simp [e1,e2,e3,Qhz]) ?_|refine xf (by simp [e1,e2,e3,Qhz]) ?_|apply wB|apply Qab|refine wX ?_|refine wY ?_|refine wR ?_|refine wK ?_|refine wE ?_)
 simp [zi37]
theorem Qcw {xs:List Int} {i m:Nat} (h:i+(m+1)=xs.length):∃ h:i < xs.length,xs.drop i=xs[i]::xs.drop (i+1)∧xs[i] ∈ xs:=by
 have hi:i < xs.length:=by omega
 exact ⟨hi,List.drop_eq_getElem_cons hi,List.getElem_mem hi⟩
theorem Qcz {xs:List Int} {i:Nat} (h:i+0=xs.length):xs[i]? = none∧xs.drop i=[]:=by
 have:i=xs.length:=by omega
 subst this
 simp
def idx (p:Int→Bool):Int→List Int→Int
 | _,[]=>-1
 | i,x::r=>if p x then i else idx p (i+1) r
theorem Qis (xs:List Int) (c:Bool) (F:Lab) (caps:List IV) (M:List Qac) (p:Int→Bool) (hl:xs.length≤1000000)
 (hp:∀ x ∈ xs,Ev tb F [] (I x::caps) (M++[[]]) ⟨Bo (p x),[],M++[[]],[]⟩) :
 Ev tb Jnt [] [L xs c,.fn F caps] M ⟨I (idx p 0 xs),[],M,[]⟩:=by
 have loop:∀ (m i:Nat),i+m=xs.length→wp tb (.loop Jr4) { T:=[(0,L xs c),(1,.fn F caps),(7,I xs.length),(8,I i)],loc:=[],M:=M }
  (fun ex st=>(ex=.exit 0∧idx p i (xs.drop i)=-1∧st={ T:=[(0,L xs c),(1,.fn F caps),(7,I xs.length),(8,I xs.length),(9,Bo false)],loc:=[],M:=M }) ∨
    ex=.ret∧st={ T:=[(4,I (idx p i (xs.drop i)))],loc:=[],M:=M }):=by
  intro m
  induction m with
  | zero =>
    intro i hi
    obtain ⟨h1,h2⟩:=Qcz hi
    have h3:i=xs.length:=hi
    subst h3
    refine wW ?_
    repeat (first|apply wA|apply wS|refine wr (by simp;with_reducible rfl) ?_|refine wq (by simp;with_reducible rfl) ?_|refine wt (by simp) ?_|refine wf (by simp) ?_|refine xt (by simp) ?_|refine xf (by simp) ?_|apply wB|apply Qab|refine wX ?_|refine wY ?_|refine wR ?_|refine wK ?_|refine wE ?_)
    refine .inl ⟨rfl,by rw [h2];rfl,rfl⟩
  | succ m ih =>
    intro i hi
    obtain ⟨hi2,h2,h3⟩:=Qcw hi
    have e1:=Qaa (hp _ h3)
    have w1:IntKind.i64.wrap ((i:Int)+1)=((i+1:Nat):Int):=Qa8 (by omega)
    rw [h2]
    cases hpx:p xs[i] with
    | true =>
      refine wW ?_
      repeat (first|apply wA|apply wS|refine wr (by simp [e1,hi2,w1,hpx];with_reducible rfl) ?_|refine wq (by simp [e1,hi2,w1,hpx];with_reducible rfl) ?_|refine wt (by simp [e1,hi2,w1,hpx]) ?_|refine wf (by simp [e1,hi2,w1,hpx]) ?_|refine xt (by simp [e1,hi2,w1,hpx]) ?_|refine xf (by simp [e1,hi2,w1,hpx]) ?_|apply wB|apply Qab|refine wX ?_|refine wY ?_|refine wR ?_|refine wK ?_|refine wE ?_)
      refine .inr ⟨rfl,by simp [idx,hpx]⟩
    | false =>
      refine wW ?_
      repeat (first|apply wA|apply wS|refine wr (by simp [e1,hi2,w1,hpx];with_reducible rfl) ?_|refine wq (by simp [e1,hi2,w1,hpx];with_reducible rfl) ?_|refine wt (by simp [e1,hi2,w1,hpx]) ?_|refine wf (by simp [e1,hi2,w1,hpx]) ?_|refine xt (by simp [e1,hi2,w1,hpx]) ?_|refine xf (by simp [e1,hi2,w1,hpx]) ?_|apply wB|apply Qab|refine wX ?_|refine wY ?_|refine wR ?_|refine wK ?_|refine wE ?_)
      have:=ih (i+1) (by omega)
      simp only [idx,hpx] at this ⊢
      exact this
 refine cW zt73 rfl ?_
 repeat (first|apply wA|apply wS|refine wr (by simp;with_reducible rfl) ?_|refine wq (by simp;with_reducible rfl) ?_|refine wt (by simp) ?_|refine wf (by simp) ?_|refine xt (by simp) ?_|refine xf (by simp) ?_|apply wB|apply Qab|refine wX ?_|refine wY ?_|refine wR ?_|refine wK ?_|refine wE ?_)
 refine Qaf (loop xs.length 0 (by simp)) ?_
 rintro ex st (⟨rfl,h,rfl⟩ | ⟨rfl,rfl⟩)
 · simp only [if_true]
   repeat (first|apply wA|apply wS|refine wr (by simp;with_reducible rfl) ?_|refine wq (by simp;with_reducible rfl) ?_|refine wt (by simp) ?_|refine wf (by simp) ?_|refine xt (by simp) ?_|refine xf (by simp) ?_|apply wB|apply Qab|refine wX ?_|refine wY ?_|refine wR ?_|refine wK ?_|refine wE ?_)
   simp at h
   simp [Jso,h]
 · simp [Jso]
end Go.Idl
namespace Go.Idl
open Go
theorem Qrc (x lo hi:Int):Ev tb Jn3 [] [I x,.bptr 0 0 0,.bptr 0 1 0] [[[I lo],[I hi]],[],[]] ⟨Bo (!(decide (lo≤x) && decide (x≤hi))),[],[[[I lo],[I hi]],[],[]],[]⟩:=by
 have e1:=Qaa (Jho x lo hi)
 refine cW zt30 rfl ?_
 repeat (first|apply wA|apply wS|refine wr (by simp [e1];with_reducible rfl) ?_|refine wq (by simp [e1];with_reducible rfl) ?_|refine wt (by simp [e1]) ?_|refine wf (by simp [e1]) ?_|refine xt (by simp [e1]) ?_|refine xf (by simp [e1]) ?_|apply wB|apply Qab|refine wX ?_|refine wY ?_|refine wR ?_|refine wK ?_|refine wE ?_)
 simp [zi30]
theorem Qjo (xs:List Int) (c:Bool) (F:Lab) (caps:List IV) (M:List Qac) (p:Int→Bool) (hl:xs.length≤1000000)
 (hp:∀ x ∈ xs,Ev tb F [] (I x::caps) (M++[[],[]]) ⟨Bo (p x),[],M++[[],[]],[]⟩) :
 Ev tb Jzj [] [L xs c,.fn F caps] M ⟨Bo (decide (0≤idx p 0 xs)),[],M,[]⟩:=by
 have e1:=Qaa (Qis xs c F caps (M++[[]]) p hl (by simpa using hp))
 refine cW zt72 rfl ?_
 repeat (first|apply wA|apply wS|refine wr (by simp [e1];with_reducible rfl) ?_|refine wq (by simp [e1];with_reducible rfl) ?_|refine wt (by simp [e1]) ?_|refine wf (by simp [e1]) ?_|refine xt (by simp [e1]) ?_|refine xf (by simp [e1]) ?_|apply wB|apply Qab|refine wX ?_|refine wY ?_|refine wR ?_|refine wK ?_|refine wE ?_)
 simp [zi72]
theorem Qiz (p:Int→Bool):∀ (xs:List Int) (i:Int),0≤i→(decide (0≤idx p i xs)=xs.any p)
 | [],i,h=>by simp [idx]
 | x::r,i,h=>by
   unfold idx
   cases hp:p x with
   | true=>simp [hp,h]
   | false=>simp [hp];simpa using Qiz p r (i+1) (by omega)
theorem Jcg (xs:List Int) (c:Bool) (lo hi:Int) (hl:xs.length≤1000000) :
 Ev tb zl29 [] [L xs c,I lo,I hi] [] ⟨Bo (xs.all fun x=>decide (lo≤x) && decide (x≤hi)),[],[],[]⟩:=by
 have e1:=Qaa (Qjo xs c Jn3 [.bptr 0 0 0,.bptr 0 1 0] [[[I lo],[I hi]]] _ hl (fun x _=>Qrc x lo hi))
 refine cW zt29 rfl ?_
 repeat (first|apply wA|apply wS|refine wr (by simp [e1,Qiz];with_reducible rfl) ?_|refine wq (by simp [e1,Qiz];with_reducible rfl) ?_|refine wt (by simp [e1,Qiz]) ?_|refine wf (by simp [e1,Qiz]) ?_|refine xt (by simp [e1,Qiz]) ?_|refine xf (by simp [e1,Qiz]) ?_|apply wB|apply Qab|refine wX ?_|refine wY ?_|refine wR ?_|refine wK ?_|refine wE ?_)
 simp [zi29,List.all_eq_not_any_not]
def Qcm (d:List Int):Bool:=decide (d.length≤7) && d.all fun x=>decide (0≤x) && decide (x < d.length)
theorem Qcn (xs:List Int) (c:Bool) (hl:xs.length≤1000000):Ev tb Jf7 [] [L xs c] [] ⟨Bo (Qcm xs),[],[],[]⟩:=by
 have e1:=Qaa (Jcg xs c 0 ((xs.length:Int) - 1) hl)
 have w1:IntKind.i64.wrap ((xs.length:Int) - 1)=(xs.length:Int) - 1:=Qad (by omega) (by omega)
 have hx:∀ x:Int,(x≤(xs.length:Int) - 1) ↔ x < (xs.length:Int):=fun x=>by omega
 simp only [hx] at e1
 have h2:((xs.length:Int)≤7) ↔ xs.length≤7:=by omega
 by_cases h:xs.length≤7
 · refine cW zt25 rfl ?_
   repeat (first|apply wA|apply wS|refine wr (by simp [e1,w1,h2,h];with_reducible rfl) ?_|refine wq (by simp [e1,w1,h2,h];with_reducible rfl) ?_|refine wt (by simp [e1,w1,h2,h]) ?_|refine wf (by simp [e1,w1,h2,h]) ?_|refine xt (by simp [e1,w1,h2,h]) ?_|refine xf (by simp [e1,w1,h2,h]) ?_|apply wB|apply Qab|refine wX ?_|refine wY ?_|refine wR ?_|refine wK ?_|refine wE ?_)
   simp [Joj,Qcm,h]
 · refine cW zt25 rfl ?_
   repeat (first|apply wA|apply wS|refine wr (by simp [e1,w1,h2,h];with_reducible rfl) ?_|refine wq (by simp [e1,w1,h2,h];with_reducible rfl) ?_|refine wt (by simp [e1,w1,h2,h]) ?_|refine wf (by simp [e1,w1,h2,h]) ?_|refine xt (by simp [e1,w1,h2,h]) ?_|refine xf (by simp [e1,w1,h2,h]) ?_|apply wB|apply Qab|refine wX ?_|refine wY ?_|refine wR ?_|refine wK ?_|refine wE ?_)
   simp [Joj,Qcm,h]
theorem Qkj (xs:List Int) (c:Bool) (hl:xs.length≤1000000):Ev tb Qx2 [] [L xs c] [] ⟨Bo (Qcm xs),[],[],[]⟩:=by
 have e1:=fun n=>Qaa (Qty n 0 ((xs.length:Int) - 1))
 have w1:IntKind.i64.wrap ((xs.length:Int) - 1)=(xs.length:Int) - 1:=Qad (by omega) (by omega)
 have hx:∀ x:Int,(x≤(xs.length:Int) - 1) ↔ x < (xs.length:Int):=fun x=>by omega
 simp only [hx] at e1
 have loop:∀ (m i:Nat),i+m=xs.length→wp tb (.loop Jgb) { T:=[(0,L xs c),(3,I i)],loc:=[],M:=[] }
  (fun ex st=>(ex=.exit 0∧((xs.drop i).all fun x=>decide (0≤x) && decide (x < xs.length))=true∧st={ T:=[(0,L xs c),(3,I xs.length),(7,Bo false)],loc:=[],M:=[] }) ∨
    ex=.ret∧((xs.drop i).all fun x=>decide (0≤x) && decide (x < xs.length))=false∧st={ T:=[(2,Bo false)],loc:=[],M:=[] }):=by
  intro m
  induction m with
  | zero =>
    intro i hi
    obtain ⟨h1,h2⟩:=Qcz hi
    have h3:i=xs.length:=hi
    subst h3
    refine wW ?_
    repeat (first|apply wA|apply wS|refine wr (by simp;with_reducible rfl) ?_|refine wq (by simp;with_reducible rfl) ?_|refine wt (by simp) ?_|refine wf (by simp) ?_|refine xt (by simp) ?_|refine xf (by simp) ?_|apply wB|apply Qab|refine wX ?_|refine wY ?_|refine wR ?_|refine wK ?_|refine wE ?_)
    refine .inl ⟨rfl,by rw [h2];rfl,rfl⟩
  | succ m ih =>
    intro i hi
    obtain ⟨hi2,h2,h3⟩:=Qcw hi
    have w2:IntKind.i64.wrap ((i:Int)+1)=((i+1:Nat):Int):=Qa8 (by omega)
    rw [h2]
    cases hpx:(decide (0≤xs[i]) && decide (xs[i] < (xs.length:Int))) with
    | true =>
      refine wW ?_
      repeat (first|apply wA|apply wS|refine wr (by simp [e1,hi2,w1,w2,hpx];with_reducible rfl) ?_|refine wq (by simp [e1,hi2,w1,w2,hpx];with_reducible rfl) ?_|refine wt (by simp [e1,hi2,w1,w2,hpx]) ?_|refine wf (by simp [e1,hi2,w1,w2,hpx]) ?_|refine xt (by simp [e1,hi2,w1,w2,hpx]) ?_|refine xf (by simp [e1,hi2,w1,w2,hpx]) ?_|apply wB|apply Qab|refine wX ?_|refine wY ?_|refine wR ?_|refine wK ?_|refine wE ?_)
      have:=ih (i+1) (by omega)
      simp only [List.all_cons,hpx,Bool.true_and] at this ⊢
      exact this
    | false =>
      refine wW ?_
      repeat (first|apply wA|apply wS|refine wr (by simp [e1,hi2,w1,w2,hpx];with_reducible rfl) ?_|refine wq (by simp [e1,hi2,w1,w2,hpx];with_reducible rfl) ?_|refine wt (by simp [e1,hi2,w1,w2,hpx]) ?_|refine wf (by simp [e1,hi2,w1,w2,hpx]) ?_|refine xt (by simp [e1,hi2,w1,w2,hpx]) ?_|refine xf (by simp [e1,hi2,w1,w2,hpx]) ?_|apply wB|apply Qab|refine wX ?_|refine wY ?_|refine wR ?_|refine wK ?_|refine wE ?_)
      refine .inr ⟨rfl,by simp only [List.all_cons,hpx,Bool.false_and],rfl⟩
 refine cW zt144 rfl ?_
 repeat (first|apply wA|apply wS|refine wr (by simp;with_reducible rfl) ?_|refine wq (by simp;with_reducible rfl) ?_|refine wt (by simp) ?_|refine wf (by simp) ?_|refine xt (by simp) ?_|refine xf (by simp) ?_|apply wB|apply Qab|refine wX ?_|refine wY ?_|refine wR ?_|refine wK ?_|refine wE ?_)
 refine Qaf (loop xs.length 0 (by simp)) ?_
 rintro ex st (⟨rfl,h,rfl⟩ | ⟨rfl,h,rfl⟩)
 · simp only [if_true]
   have h2:((xs.length:Int)≤7) ↔ xs.length≤7:=by omega
   repeat (first|apply wA|apply wS|refine wr (by simp [h2];with_reducible rfl) ?_|refine wq (by simp [h2];with_reducible rfl) ?_|refine wt (by simp [h2]) ?_|refine wf (by simp [h2]) ?_|refine xt (by simp [h2]) ?_|refine xf (by simp [h2]) ?_|apply wB|apply Qab|refine wX ?_|refine wY ?_|refine wR ?_|refine wK ?_|refine wE ?_)
   simp only [List.drop_zero] at h
   simp only [Qcm,h]
   simp [Qx1]
 · simp only [List.drop_zero] at h
   simp only [Qcm,h]
   simp [Qx1]
theorem Qrw (xs:List Int) (c:Bool) (hl:xs.length≤1000000):Ev tb Qvz [] [L xs c] [] ⟨O xs,[],[],[]⟩:=by
 refine cW zt123 rfl ?_
 repeat (first|apply wA|apply wS|refine wr (by simp [show xs.length≤274877906944 by omega];with_reducible rfl) ?_|refine wq (by simp [show xs.length≤274877906944 by omega];with_reducible rfl) ?_|refine wt (by simp [show xs.length≤274877906944 by omega]) ?_|refine wf (by simp [show xs.length≤274877906944 by omega]) ?_|refine xt (by simp [show xs.length≤274877906944 by omega]) ?_|refine xf (by simp [show xs.length≤274877906944 by omega]) ?_|apply wB|apply Qab|refine wX ?_|refine wY ?_|refine wR ?_|refine wK ?_|refine wE ?_)
 simp [Jdq]
theorem Qqa (xs ys:List Int) (c d:Bool) (hl:xs.length≤1000000) (hm:ys.length≤1000000):Ev tb Jxy [] [L xs c,L ys d] [] ⟨Bo (decide (xs=ys)),[],[],[]⟩:=by
 by_cases he:xs.length=ys.length
 · have loop:∀ (m i:Nat),i+m=xs.length→wp tb (.loop Jo2) { T:=[(0,L xs c),(1,L ys d),(5,I i)],loc:=[],M:=[] }
    (fun ex st=>(ex=.exit 0∧xs.drop i=ys.drop i∧st={ T:=[(0,L xs c),(1,L ys d),(5,I xs.length),(14,Bo false)],loc:=[],M:=[] }) ∨
      ex=.ret∧xs.drop i ≠ ys.drop i∧st={ T:=[(4,Bo false)],loc:=[],M:=[] }):=by
    intro m
    induction m with
    | zero =>
      intro i hi
      obtain ⟨h1,h2⟩:=Qcz hi
      obtain ⟨h1',h2'⟩:=Qcz (he ▸ hi)
      have h3:i=xs.length:=hi
      subst h3
      refine wW ?_
      repeat (first|apply wA|apply wS|refine wr (by simp;with_reducible rfl) ?_|refine wq (by simp;with_reducible rfl) ?_|refine wt (by simp) ?_|refine wf (by simp) ?_|refine xt (by simp) ?_|refine xf (by simp) ?_|apply wB|apply Qab|refine wX ?_|refine wY ?_|refine wR ?_|refine wK ?_|refine wE ?_)
      refine .inl ⟨rfl,by rw [h2,h2'],rfl⟩
    | succ m ih =>
      intro i hi
      obtain ⟨hi2,h2,h3⟩:=Qcw hi
      obtain ⟨hi2',h2',h3'⟩:=Qcw (he ▸ hi)
      have w2:IntKind.i64.wrap ((i:Int)+1)=((i+1:Nat):Int):=Qa8 (by omega)
      rw [h2,h2']
      by_cases hx:xs[i]=ys[i]
      · refine wW ?_
        repeat (first|apply wA|apply wS|refine wr (by simp [hi2,hi2',w2,hx];with_reducible rfl) ?_|refine wq (by simp [hi2,hi2',w2,hx];with_reducible rfl) ?_|refine wt (by simp [hi2,hi2',w2,hx]) ?_|refine wf (by simp [hi2,hi2',w2,hx]) ?_|refine xt (by simp [hi2,hi2',w2,hx]) ?_|refine xf (by simp [hi2,hi2',w2,hx]) ?_|apply wB|apply Qab|refine wX ?_|refine wY ?_|refine wR ?_|refine wK ?_|refine wE ?_)
        have:=ih (i+1) (by omega)
        simp only [List.cons.injEq,true_and,ne_eq,hx] at this ⊢
        exact this
      · refine wW ?_
        repeat (first|apply wA|apply wS|refine wr (by simp [hi2,hi2',w2,hx];with_reducible rfl) ?_|refine wq (by simp [hi2,hi2',w2,hx];with_reducible rfl) ?_|refine wt (by simp [hi2,hi2',w2,hx]) ?_|refine wf (by simp [hi2,hi2',w2,hx]) ?_|refine xt (by simp [hi2,hi2',w2,hx]) ?_|refine xf (by simp [hi2,hi2',w2,hx]) ?_|apply wB|apply Qab|refine wX ?_|refine wY ?_|refine wR ?_|refine wK ?_|refine wE ?_)
        refine .inr ⟨rfl,by simp only [ne_eq,List.cons.injEq,hx,false_and,not_false_eq_true],rfl⟩
   refine cW zt53 rfl ?_
   repeat (first|apply wA|apply wS|refine wr (by simp [he];with_reducible rfl) ?_|refine wq (by simp [he];with_reducible rfl) ?_|refine wt (by simp [he]) ?_|refine wf (by simp [he]) ?_|refine xt (by simp [he]) ?_|refine xf (by simp [he]) ?_|apply wB|apply Qab|refine wX ?_|refine wY ?_|refine wR ?_|refine wK ?_|refine wE ?_)
   refine Qaf (loop xs.length 0 (by simp)) ?_
   rintro ex st (⟨rfl,h,rfl⟩ | ⟨rfl,h,rfl⟩)
   · simp only [if_true]
     repeat (first|apply wA|apply wS|refine wr (by simp;with_reducible rfl) ?_|refine wq (by simp;with_reducible rfl) ?_|refine wt (by simp) ?_|refine wf (by simp) ?_|refine xt (by simp) ?_|refine xf (by simp) ?_|apply wB|apply Qab|refine wX ?_|refine wY ?_|refine wR ?_|refine wK ?_|refine wE ?_)
     simp only [List.drop_zero] at h
     simp [Jns,h]
   · simp only [List.drop_zero] at h
     simp [Jns,h]
 · have hne:xs ≠ ys:=fun h=>he (by rw [h])
   have h2:((xs.length:Int)=ys.length) ↔ xs.length=ys.length:=by omega
   refine cW zt53 rfl ?_
   repeat (first|apply wA|apply wS|refine wr (by simp [he,h2];with_reducible rfl) ?_|refine wq (by simp [he,h2];with_reducible rfl) ?_|refine wt (by simp [he,h2]) ?_|refine wf (by simp [he,h2]) ?_|refine xt (by simp [he,h2]) ?_|refine xf (by simp [he,h2]) ?_|apply wB|apply Qab|refine wX ?_|refine wY ?_|refine wR ?_|refine wK ?_|refine wE ?_)
   simp [Jns,hne]
end Go.Idl
namespace Go.Idl
open Go
def bytes (xs:List Int):List (List IV):=xs.map fun n=>[.sc (.int .u8 n)]
@[simp] theorem bytes_len (xs:List Int):(bytes xs).length=xs.length:=by simp [bytes]
@[simp] theorem Jn1 (xs:List Int) (n:Nat):(bytes xs).take n=bytes (xs.take n):=by simp [bytes,List.map_take]
@[simp] theorem bytes_get? (xs:List Int) (i:Nat):(bytes xs)[i]? = xs[i]?.map fun n=>[IV.sc (.int .u8 n)]:=by simp [bytes]
@[simp] theorem Ju4 (xs:List Int) (i:Nat) (h:i < (bytes xs).length):(bytes xs)[i]=[IV.sc (.int .u8 (xs[i]'(by simpa [bytes] using h)))]:=by simp [bytes]
@[simp] theorem Jtg (xs:List Int):(bytes xs).isEmpty=xs.isEmpty:=by cases xs <;> rfl
@[simp] theorem Jn7 (xs:List Int):((bytes xs).all fun x=>x.all IV.plain1)=true:=by
  induction xs with
  | nil=>rfl
  | cons x xs ih=>simp only [bytes,List.map_cons,List.all_cons] at *;rw [ih];rfl
@[simp] theorem Jn5 (xs:List Int):((bytes xs).all fun x=>x.all IV.isData)=true:=by
  induction xs with
  | nil=>rfl
  | cons x xs ih=>simp only [bytes,List.map_cons,List.all_cons] at *;rw [ih];rfl
@[simp] theorem Jhh (xs:List Int):Qb2 (bytes xs)=true:=by
  induction xs with
  | nil=>rfl
  | cons x xs ih=>simp only [bytes,List.map_cons,Qb2,Qbi,Qcc] at *;rw [ih];rfl
abbrev R (code:List Int) (c:Bool) (n:Int):List IV:=[.lst 1 (bytes code) c,I n]
def Qcs (code:List Int):Prop:=code.length≤2000∧∀ x ∈ code,0≤x∧x≤255
theorem Jxa (a b:Nat) (ha:a < 2 ^ 40) (hb:b < 2 ^ 40):∃ n:Nat,n < 2 ^ 40∧binOp .xor 0 (Value.int .i64 a) (Value.int .i64 b)=Sem.pure (Value.int .i64 n):=by
 refine ⟨a ^^^ b,Nat.xor_lt_two_pow ha hb,?_⟩
 have h:=Nat.xor_lt_two_pow ha hb
 have e:IntKind.i64.wrap (((BitVec.ofInt 64 (a:Int)) ^^^ (BitVec.ofInt 64 (b:Int))).toNat:Int)=((a ^^^ b:Nat):Int):=by
  have h1:((BitVec.ofInt 64 (a:Int)) ^^^ (BitVec.ofInt 64 (b:Int))).toNat=a ^^^ b:=by
   rw [BitVec.toNat_xor,BitVec.ofInt_natCast,BitVec.ofInt_natCast,BitVec.toNat_ofNat,BitVec.toNat_ofNat,Nat.mod_eq_of_lt (by omega),Nat.mod_eq_of_lt (by omega)]
  rw [h1,Qrr (by omega)]
 show Sem.pure (Value.int .i64 (IntKind.i64.wrap (((BitVec.ofInt 64 (a:Int)) ^^^ (BitVec.ofInt 64 (b:Int))).toNat:Int)))=_
 rw [e]
theorem Qlt {x n:Int} (hx:0≤x) (hn:1≤n):0≤x.tmod n∧x.tmod n < n:=by
 rw [Int.tmod_eq_emod_of_nonneg hx]
 exact ⟨Int.emod_nonneg _ (by omega),Int.emod_lt_of_pos _ (by omega)⟩
theorem Qj7 (code:List Int) (c:Bool) (hc:Qcs code) (cnt:Nat) (hn:cnt≤1000000) (n:Int) (hn2:n≤1000000) (bs:Qac) (Ms:List Qac) :
 ∃ v:Nat,(1≤n→(v:Int) < n)∧Ev tb Qey [] [.bptr 0 0 0,I n] ((R code c cnt::bs)::Ms) ⟨I v,[],(R code c ((cnt+1:Nat):Int)::bs)::Ms,[]⟩:=by
 have w1:IntKind.i64.wrap ((cnt:Int)+1)=((cnt+1:Nat):Int):=Qa8 (by omega)
 by_cases h1:n < 1
 · refine ⟨0,by omega,?_⟩
   refine cW Jeq rfl ?_
   repeat (first|apply wA|apply wS|refine wr (by simp [w1,h1];with_reducible rfl) ?_|refine wq (by simp [w1,h1];with_reducible rfl) ?_|refine wt (by simpa [w1,h1]) ?_|refine wf (by simpa [w1,h1]) ?_|refine xt (by simpa [w1,h1]) ?_|refine xf (by simpa [w1,h1]) ?_|apply wB|apply Qab|refine wX ?_|refine wY ?_|refine wR ?_|refine wK ?_|refine wE ?_)
   simp [Qqq]
 by_cases h2:code=[]
 · subst h2
   refine ⟨0,by omega,?_⟩
   refine cW Jeq rfl ?_
   repeat (first|apply wA|apply wS|refine wr (by simp [w1,h1];with_reducible rfl) ?_|refine wq (by simp [w1,h1];with_reducible rfl) ?_|refine wt (by simpa [w1,h1]) ?_|refine wf (by simpa [w1,h1]) ?_|refine xt (by simpa [w1,h1]) ?_|refine xf (by simpa [w1,h1]) ?_|apply wB|apply Qab|refine wX ?_|refine wY ?_|refine wR ?_|refine wK ?_|refine wE ?_)
   simp [Qqq]
 have h2':¬ (code.length:Int)=0:=by
  have:code.length ≠ 0:=fun h=>h2 (List.length_eq_zero_iff.1 h)
  omega
 have w2:IntKind.i64.wrap (cnt:Int)=(cnt:Int):=Qrr (by omega)
 have hn0:¬ n=0:=by omega
 by_cases h3:cnt < code.length
 · have hb:=hc.2 code[cnt] (List.getElem_mem h3)
   have w3:IntKind.i64.wrap code[cnt]=code[cnt]:=Qad (by omega) (by omega)
   have hr:=Qlt hb.1 (n:=n) (by omega)
   obtain ⟨v,hv⟩:=Int.eq_ofNat_of_zero_le hr.1
   rw [hv] at hr
   refine ⟨v,fun _=>hr.2,?_⟩
   refine cW Jeq rfl ?_
   repeat (first|apply wA|apply wS|refine wr (by simp [w1,w2,h1,h2,h2',h3,w3,hn0,hv];with_reducible rfl) ?_|refine wq (by simp [w1,w2,h1,h2,h2',h3,w3,hn0,hv];with_reducible rfl) ?_|refine wt (by simpa [w1,w2,h1,h2,h2',h3,w3,hn0,hv]) ?_|refine wf (by simpa [w1,w2,h1,h2,h2',h3,w3,hn0,hv]) ?_|refine xt (by simpa [w1,w2,h1,h2,h2',h3,w3,hn0,hv]) ?_|refine xf (by simpa [w1,w2,h1,h2,h2',h3,w3,hn0,hv]) ?_|apply wB|apply Qab|refine wX ?_|refine wY ?_|refine wR ?_|refine wK ?_|refine wE ?_)
   simp [Qqq]
 have hl0:0 < code.length:=by omega
 have hlen:=hc.1
 obtain ⟨i1,hi1,m1⟩:∃ i1:Nat,i1 < code.length∧(cnt:Int).tmod (code.length:Int)=(i1:Int) :=
  ⟨cnt % code.length,Nat.mod_lt _ hl0,rfl⟩
 obtain ⟨i2,hi2,m2⟩:∃ i2:Nat,i2 < code.length∧((cnt:Int) * 7+3).tmod (code.length:Int)=(i2:Int) :=
  ⟨(cnt * 7+3) % code.length,Nat.mod_lt _ hl0,rfl⟩
 obtain ⟨q,hq,m3⟩:∃ q:Nat,q≤cnt∧(cnt:Int).tdiv (code.length:Int)=(q:Int) :=
  ⟨cnt / code.length,Nat.div_le_self _ _,rfl⟩
 have hb1:=hc.2 code[i1] (List.getElem_mem hi1)
 have hb2:=hc.2 code[i2] (List.getElem_mem hi2)
 generalize hx1:code[i1]=b1 at hb1
 generalize hx2:code[i2]=b2 at hb2
 have v1:IntKind.i64.wrap b1=b1:=Qad (by omega) (by omega)
 have v2:IntKind.i64.wrap b2=b2:=Qad (by omega) (by omega)
 have v3:IntKind.i64.wrap (b1 * 131)=b1 * 131:=Qad (by omega) (by omega)
 have v4:IntKind.i64.wrap (b2 * 1117)=b2 * 1117:=Qad (by omega) (by omega)
 have v5:IntKind.i64.wrap (b1 * 131+b2 * 1117)=b1 * 131+b2 * 1117:=Qad (by omega) (by omega)
 have v6:IntKind.i64.wrap ((cnt:Int) * 7)=(cnt:Int) * 7:=Qad (by omega) (by omega)
 have v7:IntKind.i64.wrap ((cnt:Int) * 7+3)=(cnt:Int) * 7+3:=Qad (by omega) (by omega)
 have v8:IntKind.i64.wrap ((cnt:Int) * 29)=(cnt:Int) * 29:=Qad (by omega) (by omega)
 have v9:IntKind.i64.wrap (q:Int)=(q:Int):=Qad (by omega) (by omega)
 have v10:IntKind.i64.wrap ((q:Int) * 53)=(q:Int) * 53:=Qad (by omega) (by omega)
 have v11:IntKind.i64.wrap (b1 * 131+b2 * 1117+(cnt:Int) * 29)=b1 * 131+b2 * 1117+(cnt:Int) * 29:=Qad (by omega) (by omega)
 obtain ⟨x,hx,ex⟩:∃ x:Nat,x < 2 ^ 40∧b1 * 131+b2 * 1117+(cnt:Int) * 29+(q:Int) * 53=(x:Int) :=
  ⟨(b1 * 131+b2 * 1117+(cnt:Int) * 29+(q:Int) * 53).toNat,by omega,by omega⟩
 have v12:IntKind.i64.wrap (x:Int)=(x:Int):=Qad (by omega) (by omega)
 obtain ⟨y,hy,ey⟩:∃ y:Nat,y < 2 ^ 40∧(x:Int).tdiv 64=(y:Int):=⟨x / 64,by omega,rfl⟩
 have ey2:(x:Int) / 64=(y:Int):=ey
 have v13:IntKind.i64.wrap (y:Int)=(y:Int):=Qad (by omega) (by omega)
 obtain ⟨z,hz,ez⟩:=Jxa x y hx hy
 have hr:=Qlt (x:=(z:Int)) (by omega) (n:=n) (by omega)
 obtain ⟨v,hv⟩:=Int.eq_ofNat_of_zero_le hr.1
 rw [hv] at hr
 refine ⟨v,fun _=>hr.2,?_⟩
 refine cW Jeq rfl ?_
 repeat (first|apply wA|apply wS|refine wr (by simp [w1,w2,h1,h2,h2',h3,hn0,m1,m2,m3,hi1,hi2,hx1,hx2,v1,v2,v3,v4,v5,v6,v7,v8,v9,v10,v11,ex,v12,ey,ey2,v13,ez,hv];with_reducible rfl) ?_|refine wq (by simp [w1,w2,h1,h2,h2',h3,hn0,m1,m2,m3,hi1,hi2,hx1,hx2,v1,v2,v3,v4,v5,v6,v7,v8,v9,v10,v11,ex,v12,ey,ey2,v13,ez,hv];with_reducible rfl) ?_|refine wt (by simpa [w1,w2,h1,h2,h2',h3,hn0,m1,m2,m3,hi1,hi2,hx1,hx2,v1,v2,v3,v4,v5,v6,v7,v8,v9,v10,v11,ex,v12,ey,ey2,v13,ez,hv]) ?_|refine wf (by simpa [w1,w2,h1,h2,h2',h3,hn0,m1,m2,m3,hi1,hi2,hx1,hx2,v1,v2,v3,v4,v5,v6,v7,v8,v9,v10,v11,ex,v12,ey,ey2,v13,ez,hv]) ?_|refine xt (by simpa [w1,w2,h1,h2,h2',h3,hn0,m1,m2,m3,hi1,hi2,hx1,hx2,v1,v2,v3,v4,v5,v6,v7,v8,v9,v10,v11,ex,v12,ey,ey2,v13,ez,hv]) ?_|refine xf (by simpa [w1,w2,h1,h2,h2',h3,hn0,m1,m2,m3,hi1,hi2,hx1,hx2,v1,v2,v3,v4,v5,v6,v7,v8,v9,v10,v11,ex,v12,ey,ey2,v13,ez,hv]) ?_|apply wB|apply Qab|refine wX ?_|refine wY ?_|refine wR ?_|refine wK ?_|refine wE ?_)
 simp [Qqq]
theorem Qon (code:List Int) (c:Bool) (M:List Qac) (hl:code.length≤274877906944) :
 ∃ c',Ev tb Qxl [] [.lst 1 (bytes code) c] M ⟨.bptr M.length 0 0,[],M,[R (code.take 2000) c' 0]⟩:=by
 have hi:((code.length:Int)≤2000) ↔ code.length≤2000:=by omega
 by_cases h:2000 < code.length
 · refine ⟨false,?_⟩
   have h2:¬ code.length≤2000:=by omega
   have h3:(2000:Int) < code.length:=by omega
   refine cW zt137 rfl ?_
   repeat (first|apply wA|apply wS|refine wr (by simp [h,h2,h3,show 2000≤code.length by omega,Qb6];with_reducible rfl) ?_|refine wq (by simp [h,h2,h3,show 2000≤code.length by omega,Qb6];with_reducible rfl) ?_|refine wt (by simpa [h,h2,h3,show 2000≤code.length by omega,Qb6]) ?_|refine wf (by simpa [h,h2,h3,show 2000≤code.length by omega,Qb6]) ?_|refine xt (by simpa [h,h2,h3,show 2000≤code.length by omega,Qb6]) ?_|refine xf (by simpa [h,h2,h3,show 2000≤code.length by omega,Qb6]) ?_|apply wB|apply Qab|refine wX ?_|refine wY ?_|refine wR ?_|refine wK ?_|refine wE ?_)
   simp [Qzt,h2,h3]
   intro _;omega
 · refine ⟨c,?_⟩
   have h2:code.length≤2000:=by omega
   have h3:¬ (2000:Int) < code.length:=by omega
   refine cW zt137 rfl ?_
   repeat (first|apply wA|apply wS|refine wr (by simp [h,h2,h3];with_reducible rfl) ?_|refine wq (by simp [h,h2,h3];with_reducible rfl) ?_|refine wt (by simpa [h,h2,h3]) ?_|refine wf (by simpa [h,h2,h3]) ?_|refine xt (by simpa [h,h2,h3]) ?_|refine xf (by simpa [h,h2,h3]) ?_|apply wB|apply Qab|refine wX ?_|refine wY ?_|refine wR ?_|refine wK ?_|refine wE ?_)
   simp [Qzt,List.take_of_length_le h2]
theorem Jf2 (code:List Int) (c:Bool) (hc:Qcs code) (cnt:Nat) (hn:cnt≤1000000) (xs:List Int) (d:Bool) (hl:0 < xs.length∧xs.length≤1000) (bs:Qac) (Ms:List Qac) :
 ∃ x:Int,x ∈ xs∧Ev tb Qi5 [] [.bptr 0 0 0,L xs d] ((R code c cnt::bs)::Ms) ⟨I x,[],(R code c ((cnt+1:Nat):Int)::bs)::Ms,[]⟩:=by
 obtain ⟨v,hv,e⟩:=Qj7 code c hc cnt hn (xs.length:Int) (by omega) bs (Ms++[[]])
 have hv:=hv (by omega)
 have hv2:v < xs.length:=by omega
 have e1:=Qaa e
 refine ⟨xs[v],List.getElem_mem hv2,?_⟩
 refine cW zt139 rfl ?_
 repeat (first|apply wA|apply wS|refine wr (by simp [e1,hv2];with_reducible rfl) ?_|refine wq (by simp [e1,hv2];with_reducible rfl) ?_|refine wt (by simpa [e1,hv2]) ?_|refine wf (by simpa [e1,hv2]) ?_|refine xt (by simpa [e1,hv2]) ?_|refine xf (by simpa [e1,hv2]) ?_|apply wB|apply Qab|refine wX ?_|refine wY ?_|refine wR ?_|refine wK ?_|refine wE ?_)
 simp [Jed]
end Go.Idl
namespace Go.Idl
open Go
def eds (xs:List (Int×Int)):List (List IV):=xs.map fun e=>[I e.1,I e.2]
abbrev L2 (xs:List (Int×Int)) (c:Bool:=false):IV:=.lst 2 (eds xs) c
abbrev O2 (xs:List (Int×Int)):IV:=.own 2 (eds xs)
@[simp] theorem Qwo (xs:List (Int×Int)):(eds xs).length=xs.length:=by simp [eds]
@[simp] theorem Qql:eds []=[]:=rfl
@[simp] theorem eds_take (xs:List (Int×Int)) (n:Nat):(eds xs).take n=eds (xs.take n):=by simp [eds,List.map_take]
@[simp] theorem eds_drop (xs:List (Int×Int)) (n:Nat):(eds xs).drop n=eds (xs.drop n):=by simp [eds,List.map_drop]
@[simp] theorem Ji9 (xs ys:List (Int×Int)):eds xs++eds ys=eds (xs++ys):=by simp [eds]
@[simp] theorem eds_one (xs:List (Int×Int)) (a b:Int):eds xs++[[IV.sc (.int .i64 a),IV.sc (.int .i64 b)]]=eds (xs++[(a,b)]):=by simp [eds]
@[simp] theorem eds_get? (xs:List (Int×Int)) (i:Nat):(eds xs)[i]? = xs[i]?.map fun e=>[IV.sc (.int .i64 e.1),IV.sc (.int .i64 e.2)]:=by simp [eds]
@[simp] theorem eds_get (xs:List (Int×Int)) (i:Nat) (h:i < (eds xs).length):(eds xs)[i]=[IV.sc (.int .i64 (xs[i]'(by simpa [eds] using h)).1),IV.sc (.int .i64 (xs[i]'(by simpa [eds] using h)).2)]:=by simp [eds]
@[simp] theorem eds_emp (xs:List (Int×Int)):(eds xs).isEmpty=xs.isEmpty:=by cases xs <;> rfl
@[simp] theorem Qik (xs:List (Int×Int)) (i:Nat) (a b:Int):(eds xs).set i [IV.sc (.int .i64 a),IV.sc (.int .i64 b)]=eds (xs.set i (a,b)):=by
  simp [eds,List.map_set]
@[simp] theorem eds_all1 (xs:List (Int×Int)):((eds xs).all fun x=>x.all IV.plain1)=true:=by
  induction xs with
  | nil=>rfl
  | cons x xs ih=>simp only [eds,List.map_cons,List.all_cons] at *;rw [ih];rfl
@[simp] theorem eds_all2 (xs:List (Int×Int)):((eds xs).all fun x=>x.all IV.isData)=true:=by
  induction xs with
  | nil=>rfl
  | cons x xs ih=>simp only [eds,List.map_cons,List.all_cons] at *;rw [ih];rfl
@[simp] theorem Jbs (xs:List (Int×Int)):Qb2 (eds xs)=true:=by
  induction xs with
  | nil=>rfl
  | cons x xs ih=>simp only [eds,List.map_cons,Qb2,Qbi,Qcc] at *;rw [ih];rfl
@[simp] theorem Jmt (xs:List (Int×Int)):Qdb (eds xs)=eds xs:=by
  induction xs with
  | nil=>rfl
  | cons x xs ih=>simp only [eds,List.map_cons,Qdb,Qdz,Qia] at *;rw [ih]
def row (a b:Nat):Nat→List (Int×Int)
 | 0=>[]
 | m+1=>((a:Int),(b:Int))::row a (b+1) m
def Qtk (a:Nat):Nat→List (Int×Int)
 | 0=>[]
 | m+1=>row a (a+1) m++Qtk (a+1) m
def prs (n:Nat):List (Int×Int):=Qtk 0 n
theorem Qq0 (a:Nat):∀ (m b:Nat),(row a b m).length=m
 | 0,b=>rfl
 | m+1,b=>by simp [row,Qq0 a m]
theorem Qxq (a:Nat):∀ (m b:Nat) (e:Int×Int),e ∈ row a b m→e.1=a∧(b:Int)≤e.2∧e.2 < b+m
 | 0,b,e,h=>by simp [row] at h
 | m+1,b,e,h=>by
   rcases List.mem_cons.1 h with rfl | h
   · simp;omega
   · have:=Qxq a m (b+1) e h;omega
theorem Qjg:∀ (m a:Nat),(Qtk a m).length≤m * m
 | 0,a=>by simp [Qtk]
 | m+1,a=>by
   have:=Qjg m (a+1)
   have e:(m+1) * (m+1)=m * m+2 * m+1:=by rw [Nat.add_mul,Nat.mul_add];omega
   simp only [Qtk,List.length_append,Qq0]
   omega
theorem Qs3:∀ (m a:Nat) (e:Int×Int),e ∈ Qtk a m→0≤e.1∧e.1 < e.2∧e.2 < a+m
 | 0,a,e,h=>by simp [Qtk] at h
 | m+1,a,e,h=>by
   rcases List.mem_append.1 h with h | h
   · have:=Qxq a m (a+1) e h;omega
   · have:=Qs3 m (a+1) e h;omega
theorem Jdc (n a:Nat) (hn:n≤1000):∀ (m b:Nat) (acc:List (Int×Int)),b+m=n→acc.length+m≤2000000 →
 wp tb (.loop Jgt) { T:=[(0,I n),(3,O2 acc),(4,I a),(5,I b)],loc:=[],M:=[] }
  (fun ex st=>ex=.exit 2∧st={ T:=[(0,I n),(3,O2 (acc++row a b m)),(4,I a),(5,I n),(16,Bo false)],loc:=[],M:=[] }):=by
 intro m
 induction m with
 | zero =>
   intro b acc hb hl
   have h3:b=n:=hb
   subst h3
   refine wW ?_
   repeat (first|apply wA|apply wS|refine wr (by simp;with_reducible rfl) ?_|refine wq (by simp;with_reducible rfl) ?_|refine wt (by simpa) ?_|refine wf (by simpa) ?_|refine xt (by simpa) ?_|refine xf (by simpa) ?_|apply wB|apply Qab|refine wX ?_|refine wY ?_|refine wR ?_|refine wK ?_|refine wE ?_)
   simp [row]
 | succ m ih =>
   intro b acc hb hl
   have h1:(b:Int) < n:=by omega
   have w1:IntKind.i64.wrap ((b:Int)+1)=((b+1:Nat):Int):=Qa8 (by omega)
   refine wW ?_
   repeat (first|apply wA|apply wS|refine wr (by simp [h1,w1,show acc.length≤274877906943 by omega];with_reducible rfl) ?_|refine wq (by simp [h1,w1,show acc.length≤274877906943 by omega];with_reducible rfl) ?_|refine wt (by simpa [h1,w1,show acc.length≤274877906943 by omega]) ?_|refine wf (by simpa [h1,w1,show acc.length≤274877906943 by omega]) ?_|refine xt (by simpa [h1,w1,show acc.length≤274877906943 by omega]) ?_|refine xf (by simpa [h1,w1,show acc.length≤274877906943 by omega]) ?_|apply wB|apply Qab|refine wX ?_|refine wY ?_|refine wR ?_|refine wK ?_|refine wE ?_)
   have:=ih (b+1) (acc++[((a:Int),(b:Int))]) (by omega) (by simp;omega)
   simp only [List.append_assoc,List.cons_append,List.nil_append] at this
   simp [row]
   exact this
theorem Qtn (n:Nat) (hn:n≤1000):Ev tb Qvi [] [I n] [] ⟨O2 (prs n),[],[],[]⟩:=by
 have loop:∀ (m a:Nat) (acc:List (Int×Int)),a+m=n→acc.length+m * m≤1000000 →
  wp tb (.loop Qzq) { T:=[(0,I n),(3,O2 acc),(4,I a)],loc:=[],M:=[] }
  (fun ex st=>ex=.exit 0∧st={ T:=[(0,I n),(3,O2 (acc++Qtk a m)),(4,I n),(9,Bo false)],loc:=[],M:=[] }):=by
  intro m
  induction m with
  | zero =>
    intro a acc ha hl
    have h3:a=n:=ha
    subst h3
    refine wW ?_
    repeat (first|apply wA|apply wS|refine wr (by simp;with_reducible rfl) ?_|refine wq (by simp;with_reducible rfl) ?_|refine wt (by simpa) ?_|refine wf (by simpa) ?_|refine xt (by simpa) ?_|refine xf (by simpa) ?_|apply wB|apply Qab|refine wX ?_|refine wY ?_|refine wR ?_|refine wK ?_|refine wE ?_)
    simp [Qtk]
  | succ m ih =>
    intro a acc ha hl
    have h1:(a:Int) < n:=by omega
    have w1:IntKind.i64.wrap ((a:Int)+1)=((a+1:Nat):Int):=Qa8 (by omega)
    have e:(m+1) * (m+1)=m * m+2 * m+1:=by rw [Nat.add_mul,Nat.mul_add];omega
    refine wW ?_
    repeat (first|apply wA|apply wS|refine wr (by simp [h1,w1];with_reducible rfl) ?_|refine wq (by simp [h1,w1];with_reducible rfl) ?_|refine wt (by simpa [h1,w1]) ?_|refine wf (by simpa [h1,w1]) ?_|refine xt (by simpa [h1,w1]) ?_|refine xf (by simpa [h1,w1]) ?_|apply wB|apply Qab|refine wX ?_|refine wY ?_|refine wR ?_|refine wK ?_|refine wE ?_)
    refine Qaf (Jdc n a hn m (a+1) acc (by omega) (by omega)) ?_
    rintro ex st ⟨rfl,rfl⟩
    simp only [if_true]
    repeat (first|apply wA|apply wS|refine wr (by simp [h1,w1];with_reducible rfl) ?_|refine wq (by simp [h1,w1];with_reducible rfl) ?_|refine wt (by simpa [h1,w1]) ?_|refine wf (by simpa [h1,w1]) ?_|refine xt (by simpa [h1,w1]) ?_|refine xf (by simpa [h1,w1]) ?_|apply wB|apply Qab|refine wX ?_|refine wY ?_|refine wR ?_|refine wK ?_|refine wE ?_)
    have:=ih (a+1) (acc++row a (a+1) m) (by omega) (by simp [Qq0];omega)
    simp only [List.append_assoc] at this
    exact this
 have hnn:n * n≤1000 * 1000:=Nat.mul_le_mul hn hn
 refine cW zt138 rfl ?_
 repeat (first|apply wA|apply wS|refine wr (by simp;with_reducible rfl) ?_|refine wq (by simp;with_reducible rfl) ?_|refine wt (by simpa) ?_|refine wf (by simpa) ?_|refine xt (by simpa) ?_|refine xf (by simpa) ?_|apply wB|apply Qab|refine wX ?_|refine wY ?_|refine wR ?_|refine wK ?_|refine wE ?_)
 refine Qaf (loop n 0 [] (by omega) (by simp;omega)) ?_
 rintro ex st ⟨rfl,rfl⟩
 simp only [if_true]
 repeat (first|apply wA|apply wS|refine wr (by simp;with_reducible rfl) ?_|refine wq (by simp;with_reducible rfl) ?_|refine wt (by simpa) ?_|refine wf (by simpa) ?_|refine xt (by simpa) ?_|refine xf (by simpa) ?_|apply wB|apply Qab|refine wX ?_|refine wY ?_|refine wR ?_|refine wK ?_|refine wE ?_)
 simp [Jdu,prs]
abbrev Gr (n:Int) (es:List (Int×Int)) (c:Bool:=false):IV:=.agg [I n,L2 es c]
abbrev OG (n:Int) (es:List (Int×Int)):IV:=.agg [I n,O2 es]
def isE (a b:Int) (e:Int×Int):Bool:=decide (e.1=a) && decide (e.2=b) || decide (e.1=b) && decide (e.2=a)
def has (es:List (Int×Int)) (a b:Int):Bool:=es.any (isE a b)
theorem Qvr (n:Int) (es:List (Int×Int)) (c:Bool) (a b:Int) (hl:es.length≤100000) :
 Ev tb Qw2 [] [Gr n es c,I a,I b] [] ⟨Bo (has es a b),[],[],[]⟩:=by
 have loop:∀ (m i:Nat) (B:Qac),i+m=es.length→wp tb (.loop Jf4) { T:=[(1,I a),(2,I b),(3,.bptr 0 0 0),(7,I i)],loc:=[I n,L2 es c]::B,M:=[] }
  (fun ex st=>(ex=.exit 0∧has (es.drop i) a b=false∧∃ B',st={ T:=[(1,I a),(2,I b),(3,.bptr 0 0 0),(7,I es.length),(13,Bo false)],loc:=[I n,L2 es c]::B',M:=[] }) ∨
    ex=.ret∧has (es.drop i) a b=true∧∃ B',st={ T:=[(6,Bo true)],loc:=[I n,L2 es c]::B',M:=[] }):=by
  intro m
  induction m with
  | zero =>
    intro i B hi
    have h3:i=es.length:=hi
    subst h3
    refine wW ?_
    repeat (first|apply wA|apply wS|refine wr (by simp;with_reducible rfl) ?_|refine wq (by simp;with_reducible rfl) ?_|refine wt (by simpa) ?_|refine wf (by simpa) ?_|refine xt (by simpa) ?_|refine xf (by simpa) ?_|apply wB|apply Qab|refine wX ?_|refine wY ?_|refine wR ?_|refine wK ?_|refine wE ?_)
    refine .inl ⟨rfl,by simp [has],_,rfl⟩
  | succ m ih =>
    intro i B hi
    have hi2:i < es.length:=by omega
    have w1:IntKind.i64.wrap ((i:Int)+1)=((i+1:Nat):Int):=Qa8 (by omega)
    have hd:es.drop i=es[i]::es.drop (i+1):=List.drop_eq_getElem_cons hi2
    refine wW ?_
    repeat (first|apply wA|apply wS|refine wr (by simp [hi2,w1];with_reducible rfl) ?_|refine wq (by simp [hi2,w1];with_reducible rfl) ?_|refine wt (by simpa [hi2,w1]) ?_|refine wf (by simpa [hi2,w1]) ?_|refine xt (by simpa [hi2,w1]) ?_|refine xf (by simpa [hi2,w1]) ?_|apply wB|apply Qab|refine wX ?_|refine wY ?_|refine wR ?_|refine wK ?_|refine wE ?_)
    have hh:∀ (x:Int×Int) r,has (x::r) a b=(isE a b x || has r a b):=fun _ _=>rfl
    rw [hd,hh]
    generalize es[i]=e
    obtain ⟨p,q⟩:=e
    have hn:=ih (i+1) (B++[[I p,I q]]) (by omega)
    have key:∃ st1,Qai (Qcg tb) { T:=[(1,I a),(2,I b),(3,.bptr 0 0 0),(7,I i),(8,.bptr 0 (B.length+1) 0)],loc:=[I n,L2 es c]::(B++[[I p,I q]]),M:=[] }
     (match Qiw with | .reg ops _ _=>ops | _=>[])=some st1 ∧
     st1.cut [1,2,3,7,42]={ T:=[(1,I a),(2,I b),(3,.bptr 0 0 0),(7,I i),(42,Bo (isE a b (p,q)))],loc:=[I n,L2 es c]::(B++[[I p,I q]]),M:=[] }:=by
     by_cases h1:p=a
     · subst h1
       by_cases h2:q=b
       · subst h2
         exact ⟨_,by simp [Qiw];with_reducible rfl,by simp [isE]⟩
       · by_cases h3:p=b
         · subst h3
           exact ⟨_,by simp [Qiw,h2];with_reducible rfl,by simp [isE,h2]⟩
         · exact ⟨_,by simp [Qiw,h2,h3];with_reducible rfl,by simp [isE,h2,h3]⟩
     · by_cases h3:p=b
       · subst h3
         by_cases h4:q=a
         · subst h4
           exact ⟨_,by simp [Qiw,h1];with_reducible rfl,by simp [isE,h1]⟩
         · exact ⟨_,by simp [Qiw,h1,h4];with_reducible rfl,by simp [isE,h1,h4]⟩
       · exact ⟨_,by simp [Qiw,h1,h3];with_reducible rfl,by simp [isE,h1,h3]⟩
    obtain ⟨st1,k1,k2⟩:=key
    refine Qbo k1 k2 ?_
    cases hx:isE a b (p,q) with
    | true =>
      repeat (first|apply wA|apply wS|refine wr (by simp;with_reducible rfl) ?_|refine wq (by simp;with_reducible rfl) ?_|refine wt (by simpa) ?_|refine wf (by simpa) ?_|refine xt (by simpa) ?_|refine xf (by simpa) ?_|apply wB|apply Qab|refine wX ?_|refine wY ?_|refine wR ?_|refine wK ?_|refine wE ?_)
      exact .inr ⟨rfl,by simp,_,rfl⟩
    | false =>
      repeat (first|apply wA|apply wS|refine wr (by simp [w1];with_reducible rfl) ?_|refine wq (by simp [w1];with_reducible rfl) ?_|refine wt (by simpa [w1]) ?_|refine wf (by simpa [w1]) ?_|refine xt (by simpa [w1]) ?_|refine xf (by simpa [w1]) ?_|apply wB|apply Qab|refine wX ?_|refine wY ?_|refine wR ?_|refine wK ?_|refine wE ?_)
      rw [Bool.false_or]
      exact hn
 refine cW zt130 rfl ?_
 repeat (first|apply wA|apply wS|refine wr (by simp;with_reducible rfl) ?_|refine wq (by simp;with_reducible rfl) ?_|refine wt (by simpa) ?_|refine wf (by simpa) ?_|refine xt (by simpa) ?_|refine xf (by simpa) ?_|apply wB|apply Qab|refine wX ?_|refine wY ?_|refine wR ?_|refine wK ?_|refine wE ?_)
 refine Qaf (loop es.length 0 [] (by simp)) ?_
 rintro ex st (⟨rfl,h,B',rfl⟩ | ⟨rfl,h,B',rfl⟩)
 · simp only [if_true]
   repeat (first|apply wA|apply wS|refine wr (by simp;with_reducible rfl) ?_|refine wq (by simp;with_reducible rfl) ?_|refine wt (by simpa) ?_|refine wf (by simpa) ?_|refine xt (by simpa) ?_|refine xf (by simpa) ?_|apply wB|apply Qab|refine wX ?_|refine wY ?_|refine wR ?_|refine wK ?_|refine wE ?_)
   simp only [List.drop_zero] at h
   simp [Jbf,h]
 · simp only [List.drop_zero] at h
   simp [Jbf,h]
def Jdj (n:Nat) (es:List (Int×Int)):List (Int×Int):=(prs n).filter fun e=>!has es e.1 e.2
theorem Qe4 {α} {p:α→Bool} {xs:List α} {i:Nat} (h:i < xs.length):(xs.take (i+1)).filter p=(xs.take i).filter p++(if p xs[i] then [xs[i]] else []):=by
 rw [List.take_succ_eq_append_getElem h,List.filter_append]
 congr 1
 simp [List.filter_cons]
theorem Qg4 (n:Nat) (hn:n≤100) (es:List (Int×Int)) (c:Bool) (hl:es.length≤100000) :
 Ev tb Qya [] [Gr n es c] [] ⟨OG n (Jdj n es),[],[],[]⟩:=by
 have e1:=Qaa (Qtn n (by omega))
 have e2:=fun a b=>Qaa (Qvr n es c a b hl)
 have hpl:(prs n).length≤100000:=by
  have:=Qjg n 0
  have h2:n * n≤100 * 100:=Nat.mul_le_mul hn hn
  simp only [prs];omega
 have loop:∀ (m i:Nat),i+m=(prs n).length→wp tb (.loop Jha) { T:=[(1,.bptr 0 0 0),(2,.bptr 0 1 0),(3,.bptr 0 2 0),(4,O2 (prs n)),(5,I i)],loc:=[[I n,L2 es c],[I 0,.lst 0 [] true],[I n,O2 (((prs n).take i).filter fun e=>!has es e.1 e.2)]],M:=[] }
  (fun ex st=>ex=.exit 0∧st={ T:=[(1,.bptr 0 0 0),(2,.bptr 0 1 0),(3,.bptr 0 2 0),(4,O2 (prs n)),(5,I (prs n).length),(16,Bo false)],loc:=[[I n,L2 es c],[I 0,.lst 0 [] true],[I n,O2 (Jdj n es)]],M:=[] }):=by
  intro m
  induction m with
  | zero =>
    intro i hi
    have h3:i=(prs n).length:=hi
    subst h3
    refine wW ?_
    repeat (first|apply wA|apply wS|refine wr (by simp;with_reducible rfl) ?_|refine wq (by simp;with_reducible rfl) ?_|refine wt (by simpa) ?_|refine wf (by simpa) ?_|refine xt (by simpa) ?_|refine xf (by simpa) ?_|apply wB|apply Qab|refine wX ?_|refine wY ?_|refine wR ?_|refine wK ?_|refine wE ?_)
    simp [Jdj]
  | succ m ih =>
    intro i hi
    have hi2:i < (prs n).length:=by omega
    have w1:IntKind.i64.wrap ((i:Int)+1)=((i+1:Nat):Int):=Qa8 (by omega)
    have hn:=ih (i+1) (by omega)
    rw [Qe4 hi2] at hn
    have hfl:(((prs n).take i).filter fun e=>!has es e.1 e.2).length≤100000:=by
     have h1:=List.length_filter_le (fun e:Int×Int=>!has es e.1 e.2) ((prs n).take i)
     simp at h1;omega
    generalize (((prs n).take i).filter fun e=>!has es e.1 e.2)=acc at hn hfl
    cases hx:has es (prs n)[i].1 (prs n)[i].2 with
    | true =>
      rw [hx] at hn
      simp at hn
      refine wW ?_
      repeat (first|apply wA|apply wS|refine wr (by simp [e2,hi2,hx,w1];with_reducible rfl) ?_|refine wq (by simp [e2,hi2,hx,w1];with_reducible rfl) ?_|refine wt (by simpa [e2,hi2,hx,w1]) ?_|refine wf (by simpa [e2,hi2,hx,w1]) ?_|refine xt (by simpa [e2,hi2,hx,w1]) ?_|refine xf (by simpa [e2,hi2,hx,w1]) ?_|apply wB|apply Qab|refine wX ?_|refine wY ?_|refine wR ?_|refine wK ?_|refine wE ?_)
      exact hn
    | false =>
      rw [hx] at hn
      simp at hn
      refine wW ?_
      repeat (first|apply wA|apply wS|refine wr (by simp [e2,hi2,hx,w1,show acc.length≤274877906943 by omega];with_reducible rfl) ?_|refine wq (by simp [e2,hi2,hx,w1,show acc.length≤274877906943 by omega];with_reducible rfl) ?_|refine wt (by simpa [e2,hi2,hx,w1,show acc.length≤274877906943 by omega]) ?_|refine wf (by simpa [e2,hi2,hx,w1,show acc.length≤274877906943 by omega]) ?_|refine xt (by simpa [e2,hi2,hx,w1,show acc.length≤274877906943 by omega]) ?_|refine xf (by simpa [e2,hi2,hx,w1,show acc.length≤274877906943 by omega]) ?_|apply wB|apply Qab|refine wX ?_|refine wY ?_|refine wR ?_|refine wK ?_|refine wE ?_)
      have hb:acc.length≤274877906943:=by omega
      refine Qof (by simp [hi2,hb];with_reducible rfl) (by simp;with_reducible rfl) ?_ ?_
      · intro p hp
        simp only [List.mem_cons,List.not_mem_nil,or_false] at hp
        subst hp
        exact ⟨_,by simp [hi2,hb];with_reducible rfl,by simp⟩
      repeat (first|apply wA|apply wS|refine wr (by simp [w1];with_reducible rfl) ?_|refine wq (by simp [w1];with_reducible rfl) ?_|refine wt (by simpa [w1]) ?_|refine wf (by simpa [w1]) ?_|refine xt (by simpa [w1]) ?_|refine xf (by simpa [w1]) ?_|apply wB|apply Qab|refine wX ?_|refine wY ?_|refine wR ?_|refine wK ?_|refine wE ?_)
      exact hn
 refine cW zt122 rfl ?_
 repeat (first|apply wA|apply wS|refine wr (by simp [e1];with_reducible rfl) ?_|refine wq (by simp [e1];with_reducible rfl) ?_|refine wt (by simpa [e1]) ?_|refine wf (by simpa [e1]) ?_|refine xt (by simpa [e1]) ?_|refine xf (by simpa [e1]) ?_|apply wB|apply Qab|refine wX ?_|refine wY ?_|refine wR ?_|refine wK ?_|refine wE ?_)
 have:=loop (prs n).length 0 (by simp)
 simp at this
 refine Qaf this ?_
 rintro ex st ⟨rfl,rfl⟩
 simp only [if_true]
 repeat (first|apply wA|apply wS|refine wr (by simp;with_reducible rfl) ?_|refine wq (by simp;with_reducible rfl) ?_|refine wt (by simpa) ?_|refine wf (by simpa) ?_|refine xt (by simpa) ?_|refine xf (by simpa) ?_|apply wB|apply Qab|refine wX ?_|refine wY ?_|refine wR ?_|refine wK ?_|refine wE ?_)
 simp [Jev]
end Go.Idl
namespace Go.Idl
open Go
theorem Qe8 {f:Lab} {fn:Qa1} (hf:tb f=some fn) {lent:List Nat} {args:List IV} {M:List Qac} (hl:lent.all fn.keep.contains=true) {P:Ret→Prop}
 (h:wp tb fn.body { T:=args.zipIdx.map fun (v,i)=>(i,v),loc:=[],M:=M } fun ex st=>(ex=.normal ∨ ex=.ret)∧∃ r,P r∧Qlq fn lent st=some r):∃ r,P r∧Ev tb f lent args M r:=by
 obtain ⟨ex,st',⟨h1,r,hP,h2⟩,-,back⟩:=Qbm h
 exact ⟨r,hP,cW hf hl (back _ ⟨h1,h2⟩)⟩
theorem Qnj {α} {acc xs:List α} {i:Nat} (h:i < xs.length) (hs:acc.Sublist (xs.take i)):(acc++[xs[i]]).Sublist (xs.take (i+1)):=by
 rw [List.take_succ_eq_append_getElem h]
 exact hs.append (List.Sublist.refl _)
theorem Qno {α} {acc xs:List α} {i:Nat} (hs:acc.Sublist (xs.take i)):acc.Sublist (xs.take (i+1)) :=
 hs.trans (List.take_sublist_take_left (by omega))
theorem Qp3 (code:List Int) (c:Bool) (hc:Qcs code) (cnt:Nat) (hn:cnt≤100000) (n:Nat) (hn7:n≤7) (bs:Qac) (Ms:List Qac) :
 ∃ (es:List (Int×Int)) (k:Nat),es.Sublist (prs n)∧k≤cnt+100 ∧
   Ev tb Qq6 [] [.bptr 0 0 0,I n] ((R code c cnt::bs)::Ms) ⟨OG n es,[],(R code c k::bs)::Ms,[]⟩:=by
 have e1:=Qaa (Qtn n (by omega))
 have hpl:(prs n).length≤49:=by
  have:=Qjg n 0
  have h2:n * n≤7 * 7:=Nat.mul_le_mul hn7 hn7
  simp only [prs];omega
 have loop:∀ (m i k:Nat) (acc:List (Int×Int)) (most:Nat),most≤10→i+m=(prs n).length→k≤cnt+1+i→acc.Sublist ((prs n).take i) →
  wp tb (.loop Jfw) { T:=[(0,.bptr 0 0 0),(4,.bptr (Ms.length+1) 0 0),(5,.bptr (Ms.length+1) 1 0),(6,O2 (prs n)),(7,I most),(8,I i)],loc:=[[I 0,.lst 0 [] true],[I n,O2 acc]],M:=(R code c k::bs)::Ms }
  (fun ex st=>ex=.exit 0∧∃ (es:List (Int×Int)) (k':Nat),es.Sublist (prs n)∧k'≤cnt+60∧st={ T:=[(0,.bptr 0 0 0),(4,.bptr (Ms.length+1) 0 0),(5,.bptr (Ms.length+1) 1 0),(6,O2 (prs n)),(7,I most),(8,I (prs n).length),(20,Bo false)],loc:=[[I 0,.lst 0 [] true],[I n,O2 es]],M:=(R code c k'::bs)::Ms }):=by
  intro m
  induction m with
  | zero =>
    intro i k acc most hm hi hk hs
    have h3:i=(prs n).length:=hi
    subst h3
    refine wW ?_
    repeat (first|apply wA|apply wS|refine wr (by simp;with_reducible rfl) ?_|refine wq (by simp;with_reducible rfl) ?_|refine wt (by simpa) ?_|refine wf (by simpa) ?_|refine xt (by simpa) ?_|refine xf (by simpa) ?_|apply wB|apply Qab|refine wX ?_|refine wY ?_|refine wR ?_|refine wK ?_|refine wE ?_)
    exact ⟨rfl,acc,k,by simpa using hs,by omega,rfl⟩
  | succ m ih =>
    intro i k acc most hm hi hk hs
    have hi2:i < (prs n).length:=by omega
    have w1:IntKind.i64.wrap ((i:Int)+1)=((i+1:Nat):Int):=Qa8 (by omega)
    obtain ⟨v,-,ep⟩:=Qj7 code c hc k (by omega) (most:Int) (by omega) bs (Ms++[[[I 0,.lst 0 [] true],[I n,O2 acc]]])
    have e2:=Qaa ep
    have hal:acc.length≤49:=by have:=hs.length_le;simp at this;omega
    have hb:acc.length≤274877906943:=by omega
    by_cases hv:v=0
    · subst hv
      have hn:=ih (i+1) (k+1) (acc++[(prs n)[i]]) most hm (by omega) (by omega) (Qnj hi2 hs)
      refine wW ?_
      repeat (first|apply wA|apply wS|refine wr (by simp [e2,hi2];with_reducible rfl) ?_|refine wq (by simp [e2,hi2];with_reducible rfl) ?_|refine wt (by simpa [e2,hi2]) ?_|refine wf (by simpa [e2,hi2]) ?_|refine xt (by simpa [e2,hi2]) ?_|refine xf (by simpa [e2,hi2]) ?_|apply wB|apply Qab|refine wX ?_|refine wY ?_|refine wR ?_|refine wK ?_|refine wE ?_)
      refine Qof (by simp [hi2,hb];with_reducible rfl) (by simp;with_reducible rfl) ?_ ?_
      · intro p hp
        simp only [List.mem_cons,List.not_mem_nil,or_false] at hp
        subst hp
        exact ⟨_,by simp [hi2,hb];with_reducible rfl,by simp⟩
      repeat (first|apply wA|apply wS|refine wr (by simp [w1];with_reducible rfl) ?_|refine wq (by simp [w1];with_reducible rfl) ?_|refine wt (by simpa [w1]) ?_|refine wf (by simpa [w1]) ?_|refine xt (by simpa [w1]) ?_|refine xf (by simpa [w1]) ?_|apply wB|apply Qab|refine wX ?_|refine wY ?_|refine wR ?_|refine wK ?_|refine wE ?_)
      exact hn
    · have hn:=ih (i+1) (k+1) acc most hm (by omega) (by omega) (Qno hs)
      have hv2:¬ (v:Int)=0:=by omega
      refine wW ?_
      repeat (first|apply wA|apply wS|refine wr (by simp [e2,hi2,hv,hv2,w1];with_reducible rfl) ?_|refine wq (by simp [e2,hi2,hv,hv2,w1];with_reducible rfl) ?_|refine wt (by simpa [e2,hi2,hv,hv2,w1]) ?_|refine wf (by simpa [e2,hi2,hv,hv2,w1]) ?_|refine xt (by simpa [e2,hi2,hv,hv2,w1]) ?_|refine xf (by simpa [e2,hi2,hv,hv2,w1]) ?_|apply wB|apply Qab|refine wX ?_|refine wY ?_|refine wR ?_|refine wK ?_|refine wE ?_)
      exact hn
 obtain ⟨v,hv,ep⟩:=Qj7 code c hc cnt (by omega) 3 (by omega) bs (Ms++[[[I 0,.lst 0 [] true],[I n,.own 2 []]]])
 have hv:=hv (by omega)
 have e2:=Qaa ep
 have w0:IntKind.i64.wrap (2+(v:Int))=((2+v:Nat):Int):=by rw [Qad (by omega) (by omega)];omega
 suffices h:∃ r,(∃ (es:List (Int×Int)) (k:Nat),es.Sublist (prs n)∧k≤cnt+100∧r=⟨OG n es,[],(R code c k::bs)::Ms,[]⟩)∧Ev tb Qq6 [] [.bptr 0 0 0,I n] ((R code c cnt::bs)::Ms) r by
  obtain ⟨r,⟨es,k,h1,h2,rfl⟩,h3⟩:=h
  exact ⟨es,k,h1,h2,h3⟩
 refine Qe8 zt118 rfl ?_
 repeat (first|apply wA|apply wS|refine wr (by simp [e1,e2,w0];with_reducible rfl) ?_|refine wq (by simp [e1,e2,w0];with_reducible rfl) ?_|refine wt (by simpa [e1,e2,w0]) ?_|refine wf (by simpa [e1,e2,w0]) ?_|refine xt (by simpa [e1,e2,w0]) ?_|refine xf (by simpa [e1,e2,w0]) ?_|apply wB|apply Qab|refine wX ?_|refine wY ?_|refine wR ?_|refine wK ?_|refine wE ?_)
 have hlp:=loop (prs n).length 0 (cnt+1) [] (2+v) (by omega) (by simp) (by omega) (by simp)
 simp at hlp
 refine Qaf hlp ?_
 rintro ex st ⟨rfl,es,hs,k,hk,rfl⟩
 simp only [if_true]
 obtain ⟨v2,-,ep2⟩:=Qj7 code c hc k (by omega) 4 (by omega) bs (Ms++[[[I 0,.lst 0 [] true],[I n,O2 es]]])
 have e3:=Qaa ep2
 have hel:es.length≤100000:=by have:=hs.length_le;omega
 have e4:=Qaa (Qg4 n (by omega) es false hel)
 by_cases hv2:v2=0
 · subst hv2
   repeat (first|apply wA|apply wS|refine wr (by simp [e3,e4];with_reducible rfl) ?_|refine wq (by simp [e3,e4];with_reducible rfl) ?_|refine wt (by simpa [e3,e4]) ?_|refine wf (by simpa [e3,e4]) ?_|refine xt (by simpa [e3,e4]) ?_|refine xf (by simpa [e3,e4]) ?_|apply wB|apply Qab|refine wX ?_|refine wY ?_|refine wR ?_|refine wK ?_|refine wE ?_)
   refine ⟨.inr rfl,_,⟨Jdj n es,k+1,List.filter_sublist,by omega,rfl⟩,?_⟩
   simp [Qz6]
 · have hv3:¬ (v2:Int)=0:=by omega
   repeat (first|apply wA|apply wS|refine wr (by simp [e3,e4,hv2,hv3];with_reducible rfl) ?_|refine wq (by simp [e3,e4,hv2,hv3];with_reducible rfl) ?_|refine wt (by simpa [e3,e4,hv2,hv3]) ?_|refine wf (by simpa [e3,e4,hv2,hv3]) ?_|refine xt (by simpa [e3,e4,hv2,hv3]) ?_|refine xf (by simpa [e3,e4,hv2,hv3]) ?_|apply wB|apply Qab|refine wX ?_|refine wY ?_|refine wR ?_|refine wK ?_|refine wE ?_)
   refine ⟨.inr rfl,_,⟨es,k+1,hs,by omega,rfl⟩,?_⟩
   simp [Qz6]
theorem Qlb (code:List Int) (c:Bool) (hc:Qcs code) (cnt:Nat) (hn:cnt≤1000000) (n:Int) (hn2:n≤1000000) (bs:Qac) (Ms:List Qac) :
 ∃ v k:Nat,(1≤n→(v:Int) < n)∧k≤cnt+1∧Qcg tb Qey [] [.bptr 0 0 0,I n] ((R code c cnt::bs)::Ms)=some ⟨I v,[],(R code c k::bs)::Ms,[]⟩:=by
 obtain ⟨v,h,e⟩:=Qj7 code c hc cnt hn n hn2 bs Ms
 exact ⟨v,cnt+1,h,by omega,Qaa e⟩
theorem one' (code:List Int) (c:Bool) (hc:Qcs code) (cnt:Nat) (hn:cnt≤1000000) (xs:List Int) (hl:0 < xs.length∧xs.length≤1000) (bs:Qac) (Ms:List Qac) :
 ∃ (x:Int) (k:Nat),x ∈ xs∧k≤cnt+1∧Qcg tb Qi5 [] [.bptr 0 0 0,.lst 1 (xs.map fun n=>[I n]) false] ((R code c cnt::bs)::Ms)=some ⟨I x,[],(R code c k::bs)::Ms,[]⟩:=by
 obtain ⟨v,h,e⟩:=Jf2 code c hc cnt hn xs false hl bs Ms
 exact ⟨v,cnt+1,h,by omega,Qaa e⟩
theorem Qpu (code:List Int) (c:Bool) (hc:Qcs code) (cnt:Nat) (hn:cnt≤90000) (bs:Qac) (Ms:List Qac) :
 ∃ (n:Nat) (es:List (Int×Int)) (k:Nat),n≤7∧es.Sublist (prs n)∧k≤cnt+101 ∧
   Ev tb Qz5 [] [.bptr 0 0 0] ((R code c cnt::bs)::Ms) ⟨OG n es,[],(R code c k::bs)::Ms,[]⟩:=by
 obtain ⟨x,k1,hx,hk1,e1⟩:=one' code c hc cnt (by omega) [5,4,6,3,5,2,7,1,0] (by simp) bs (Ms++[[[I 0,.lst 0 [] true]]])
 simp only [List.map] at e1
 obtain ⟨n,rfl,hn7⟩:∃ n:Nat,x=(n:Int)∧n≤7:=by
  simp at hx
  exact ⟨x.toNat,by omega,by omega⟩
 obtain ⟨es,k,hs,hk,ea⟩:=Qp3 code c hc k1 (by omega) n hn7 bs (Ms++[[[I 0,.lst 0 [] true]]])
 have e2:=Qaa ea
 refine ⟨n,es,k,hn7,hs,by omega,?_⟩
 refine cW zt129 rfl ?_
 refine wr (by simp;with_reducible rfl) ?_
 refine wr (by simp [e1,e2];with_reducible rfl) ?_
 repeat (first|apply wA|apply wS|refine wr (by simp;with_reducible rfl) ?_|refine wq (by simp;with_reducible rfl) ?_|refine wt (by simpa) ?_|refine wf (by simpa) ?_|refine xt (by simpa) ?_|refine xf (by simpa) ?_|apply wB|apply Qab|refine wX ?_|refine wY ?_|refine wR ?_|refine wK ?_|refine wE ?_)
 simp [Jez]
end Go.Idl
namespace Go.Idl
theorem Js7 {B:Int} (hB:0≤B):∀ {xs:List Int},(∀ x ∈ xs,0≤x∧x≤B)→0≤xs.sum∧xs.sum≤B * xs.length
 | [],_=>by simp
 | x::r,h=>by
   have h1:=h x (by simp)
   have h2:=Js7 hB (xs:=r) (fun y hy=>h y (by simp [hy]))
   have e:B * ((x::r).length:Int)=B * r.length+B:=by
    rw [List.length_cons,Int.natCast_add,Int.mul_add];simp
   rw [List.sum_cons,e]
   omega
def slk (s:List Int) (k:Nat):Int:=(k:Int) * ((k:Int) - 1) - (s.take k).sum+((s.drop k).map fun x:Int=>min x (k:Int)).sum
def Qc3 (d:List Int):List Int:=(List.range d.length).map fun i=>slk (fall d) (i+1)
theorem Qii (d:List Int):(Qc3 d).length=d.length:=by simp [Qc3]
theorem Jdm (l:List Int) (x:Int) (k:Nat):slk (l++[x]) k=slk l k+(if l.length < k then -x else min x k):=by
 unfold slk
 by_cases h:l.length < k
 · rw [if_pos h,List.take_of_length_le (by simp;omega),List.drop_of_length_le (by simp;omega),List.take_of_length_le (l:=l) (by omega),List.drop_of_length_le (l:=l) (by omega)]
   simp;omega
 · rw [if_neg h,List.take_append_of_le_length (by omega),List.drop_append_of_le_length (by omega)]
   simp;omega
theorem Qmj {s:List Int} {i:Nat} (h:i < s.length) (k:Nat):slk (s.take (i+1)) k=slk (s.take i) k+(if i < k then -s[i] else min s[i] k):=by
 rw [List.take_succ_eq_append_getElem h,Jdm]
 have:(s.take i).length=i:=by simp;omega
 rw [this]
theorem Qop {s:List Int} {k:Nat} (hk:k≤7) (hl:s.length≤7) (h:∀ x ∈ s,0≤x∧x≤6):-100≤slk s k∧slk s k≤200:=by
 unfold slk
 have h1:=Js7 (B:=6) (by omega) (xs:=s.take k) (fun x hx=>h x (List.mem_of_mem_take hx))
 have h2:=Js7 (B:=6) (by omega) (xs:=(s.drop k).map fun x:Int=>min x k) (by
  intro x hx
  obtain ⟨y,hy,rfl⟩:=List.mem_map.1 hx
  have:=h y (List.mem_of_mem_drop hy)
  omega)
 have l1:(s.take k).length≤7:=by simp;omega
 have l2:((s.drop k).map fun x:Int=>min x k).length≤7:=by simp;omega
 have h3:(k:Int) * ((k:Int) - 1)≤7 * 6∧0≤(k:Int) * ((k:Int) - 1):=by
  cases k with
  | zero=>simp
  | succ n =>
    have e:((n+1:Nat):Int) - 1=(n:Int):=by omega
    rw [e]
    exact ⟨Int.mul_le_mul (by omega) (by omega) (by omega) (by omega),Int.mul_nonneg (by omega) (by omega)⟩
 generalize (k:Int) * ((k:Int) - 1)=q at *
 omega
def Qqe (xs:List Int):Int:=xs.foldl (fun n x=>min n x) 0
theorem Qpf:∀ (xs:List Int) (n:Int),xs.foldl (fun n x=>min n x) n≤n∧((xs.foldl (fun n x=>min n x) n=n) ↔ ∀ x ∈ xs,n≤x)
 | [],n=>by simp
 | x::r,n=>by
   obtain ⟨h1,h2⟩:=Qpf r (min n x)
   simp only [List.foldl_cons,List.mem_cons,forall_eq_or_imp]
   by_cases hx:n≤x
   · rw [Int.min_eq_left hx] at h1 h2 ⊢
     exact ⟨h1,h2.trans ⟨fun h=>⟨hx,h⟩,fun h=>h.2⟩⟩
   · rw [Int.min_eq_right (by omega)] at h1 h2 ⊢
     exact ⟨by omega,⟨fun h=>by omega,fun h=>absurd h.1 hx⟩⟩
theorem Qvt (xs:List Int):Qqe xs=0 ↔ ∀ x ∈ xs,0≤x:=(Qpf xs 0).2
end Go.Idl
namespace Go.Idl
open Go
abbrev Z:IV:=.lst 0 [] true
def Few (xs:List Int):Prop:=xs.length≤7∧∀ x ∈ xs,0≤x∧x≤6
theorem Qbw {xs:List Int} (h:Qcm xs=true):Few xs:=by
 simp only [Qcm,Qba,decide_eq_true_eq,List.all_eq_true] at h
 refine ⟨h.1,fun x hx=>?_⟩
 have:=h.2 x hx
 omega
theorem Qoo {xs:List Int} (h:Qcm xs=true):∀ x ∈ xs,0≤x∧x < xs.length:=by
 simp only [Qcm,Qba,decide_eq_true_eq,List.all_eq_true] at h
 exact h.2
theorem Few.small {xs:List Int} (h:Few xs):Qm4 xs:=by
 refine ⟨by have:=h.1;omega,fun k=>?_⟩
 have h1:=Js7 (B:=6) (by omega) (xs:=xs.take k) (fun x hx=>h.2 x (List.mem_of_mem_take hx))
 have h2:(xs.take k).length≤7:=by have:=h.1;simp;omega
 omega
theorem Few.take {xs:List Int} (h:Few xs) (k:Nat):Few (xs.take k):=⟨by have:=h.1;simp;omega,fun x hx=>h.2 x (List.mem_of_mem_take hx)⟩
theorem Few.drop {xs:List Int} (h:Few xs) (k:Nat):Few (xs.drop k):=⟨by have:=h.1;simp;omega,fun x hx=>h.2 x (List.mem_of_mem_drop hx)⟩
theorem Few.fall {xs:List Int} (h:Few xs):Few (fall xs):=⟨by rw [Qd8];exact h.1,fun x hx=>h.2 x (Qs5.1 hx)⟩
theorem Few.sum {xs:List Int} (h:Few xs):0≤xs.sum∧xs.sum≤42:=by
 have h1:=Js7 (B:=6) (by omega) h.2
 have:=h.1
 omega
def Qvv (n:Nat) (g:Nat→Int):List Int:=(List.range n).map g
theorem Ql7 {n i:Nat} (g:Nat→Int) (h:i < n):(Qvv i g++List.replicate (n - i) 0).set i (g i)=Qvv (i+1) g++List.replicate (n - (i+1)) 0:=by
 have e:n - i=(n - (i+1))+1:=by omega
 rw [e,List.replicate_succ,List.set_append_right _ _ (by simp [Qvv])]
 simp [Qvv,List.range_succ]
@[simp] theorem ints_rep (n:Nat):List.replicate n [IV.sc (.int .i64 0)]=Qb3 (List.replicate n 0):=by simp [Qb3]
theorem Jl1 (xs:List Int) (c:Bool) (F:Lab) (caps:List IV) (M:List Qac) (g:Nat→Int) (hv:Qcm xs=true)
 (hF:∀ k,k < xs.length→Ev tb F [] (I k::caps) (M++[[]]) ⟨I (g k),[],M++[[]],[]⟩) :
 Ev tb Jpr [] [L xs c,.fn F caps] M ⟨O (Qvv xs.length g),[],M,[]⟩:=by
 have hl:xs.length≤7:=(Qbw hv).1
 have e1:=Qaa (Qcn xs c (by omega))
 have loop:∀ (m i:Nat),i+m=xs.length→wp tb (.loop Jwj) { T:=[(1,.fn F caps),(5,O (Qvv i g++List.replicate (xs.length - i) 0)),(14,I xs.length),(15,I i)],loc:=[],M:=M }
  (fun ex st=>ex=.exit 0∧st={ T:=[(1,.fn F caps),(5,O (Qvv xs.length g)),(14,I xs.length),(15,I xs.length),(16,Bo false)],loc:=[],M:=M }):=by
  intro m
  induction m with
  | zero =>
    intro i hi
    have h3:i=xs.length:=hi
    subst h3
    refine wW ?_
    repeat (first|apply wA|apply wS|refine wr (by simp;with_reducible rfl) ?_|refine wq (by simp;with_reducible rfl) ?_|refine wt (by simp) ?_|refine wf (by simp) ?_|refine xt (by simp) ?_|refine xf (by simp) ?_|apply wB|apply Qab|refine wX ?_|refine wY ?_|refine wR ?_|refine wK ?_|refine wE ?_)
    exact ⟨rfl,rfl⟩
  | succ m ih =>
    intro i hi
    have hi2:i < xs.length:=by omega
    have e2:=Qaa (hF i hi2)
    have w2:IntKind.i64.wrap ((i:Int)+1)=((i+1:Nat):Int):=Qa8 (by omega)
    have hln:(Qvv i g).length=i:=by simp [Qvv]
    have hlt:i < i+(xs.length - i):=by omega
    have hs:=Ql7 g hi2
    refine wW ?_
    repeat (first|apply wA|apply wS|refine wr (by simp [e2,hi2,w2,hln,hlt,hs];with_reducible rfl) ?_|refine wq (by simp [e2,hi2,w2,hln,hlt,hs];with_reducible rfl) ?_|refine wt (by simp [e2,hi2,w2,hln,hlt,hs]) ?_|refine wf (by simp [e2,hi2,w2,hln,hlt,hs]) ?_|refine xt (by simp [e2,hi2,w2,hln,hlt,hs]) ?_|refine xf (by simp [e2,hi2,w2,hln,hlt,hs]) ?_|apply wB|apply Qab|refine wX ?_|refine wY ?_|refine wR ?_|refine wK ?_|refine wE ?_)
    exact ih (i+1) (by omega)
 refine cW zt35 rfl ?_
 repeat (first|apply wA|apply wS|refine wr (by simp [e1,hv,show xs.length≤274877906944 by omega];with_reducible rfl) ?_|refine wq (by simp [e1,hv,show xs.length≤274877906944 by omega];with_reducible rfl) ?_|refine wt (by simp [e1,hv,show xs.length≤274877906944 by omega]) ?_|refine wf (by simp [e1,hv,show xs.length≤274877906944 by omega]) ?_|refine xt (by simp [e1,hv,show xs.length≤274877906944 by omega]) ?_|refine xf (by simp [e1,hv,show xs.length≤274877906944 by omega]) ?_|apply wB|apply Qab|refine wX ?_|refine wY ?_|refine wR ?_|refine wK ?_|refine wE ?_)
 have:=loop xs.length 0 (by simp)
 simp [Qvv] at this
 refine Qaf this ?_
 rintro ex st ⟨rfl,rfl⟩
 simp only [if_true]
 repeat (first|apply wA|apply wS|refine wr (by simp;with_reducible rfl) ?_|refine wq (by simp;with_reducible rfl) ?_|refine wt (by simp) ?_|refine wf (by simp) ?_|refine xt (by simp) ?_|refine xf (by simp) ?_|apply wB|apply Qab|refine wX ?_|refine wY ?_|refine wR ?_|refine wK ?_|refine wE ?_)
 simp [zi35,Qvv]
 rw [List.take_of_length_le (by simp)]
theorem Qcb (a b:Int):(if b < a then b else a)=min a b:=by split <;> omega
theorem Jix (a b:Int):(if a < b then a else b)=min a b:=by split <;> omega
theorem Qle (s:List Int) (i:Nat) (hi:i < s.length) (hs:Few s) :
 Ev tb Jn6 [] [I i,.bptr 0 0 0] [[[O s]],[]] ⟨I (slk s (i+1)),[],[[[O s]],[]],[]⟩:=by
 have hl:=hs.1
 have e1:=Qaa (Jbb (s.take (i+1)) false (hs.take _).small)
 have hb1:=(hs.take (i+1)).sum
 have hd:=hs.drop (i+1)
 generalize hr:s.drop (i+1)=r at hd
 have hrl:r.length=s.length - (i+1):=by rw [← hr];simp
 have loop:∀ (m j:Nat) (n:Int),j+m=r.length→0≤n+100→n≤1000+6 * j→wp tb (.loop Jwt) { T:=[(1,.bptr 0 0 0),(4,I ((i+1:Nat):Int)),(5,I n),(21,.arr (.B 0 0) 0 [] 1 (i+1) (s.length - (i+1)) false),(22,I ((s.length - (i+1):Nat):Int)),(23,I j)],loc:=[],M:=[[[O s]],[]] }
  (fun ex st=>ex=.exit 0∧st={ T:=[(1,.bptr 0 0 0),(4,I ((i+1:Nat):Int)),(5,I (n+((r.drop j).map fun x:Int=>min x ((i+1:Nat):Int)).sum)),(21,.arr (.B 0 0) 0 [] 1 (i+1) (s.length - (i+1)) false),(22,I ((s.length - (i+1):Nat):Int)),(23,I ((s.length - (i+1):Nat):Int)),(24,Bo false)],loc:=[],M:=[[[O s]],[]] }):=by
  intro m
  induction m with
  | zero =>
    intro j n hj h0 h1
    obtain ⟨h1,h2⟩:=Qcz hj
    have h3:j=s.length - (i+1):=by omega
    subst h3
    refine wW ?_
    repeat (first|apply wA|apply wS|refine wr (by simp;with_reducible rfl) ?_|refine wq (by simp;with_reducible rfl) ?_|refine wt (by simp) ?_|refine wf (by simp) ?_|refine xt (by simp) ?_|refine xf (by simp) ?_|apply wB|apply Qab|refine wX ?_|refine wY ?_|refine wR ?_|refine wK ?_|refine wE ?_)
    rw [h2];simp
  | succ m ih =>
    intro j n hj h0 h1
    obtain ⟨hi2,h2,h3⟩:=Qcw hj
    have hx:=hd.2 _ h3
    have hlr:=hd.1
    have w2:IntKind.i64.wrap ((j:Int)+1)=((j+1:Nat):Int):=Qa8 (by omega)
    have w3:IntKind.i64.wrap (n+min r[j] ((i:Int)+1))=n+min r[j] ((i:Int)+1):=Qad (by omega) (by omega)
    rw [h2]
    refine wW ?_
    have hj3:i+1+j < s.length:=by omega
    have hj4:j < s.length - (i+1):=by omega
    have hg:s[i+1+j]=r[j]:=by subst hr;simp
    repeat (first|apply wA|apply wS|refine wr (by simp [hi2,w2,w3,Qcb,hj3,hj4,hg];with_reducible rfl) ?_|refine wq (by simp [hi2,w2,w3,Qcb,hj3,hj4,hg];with_reducible rfl) ?_|refine wt (by simp [hi2,w2,w3,Qcb,hj3,hj4,hg]) ?_|refine wf (by simp [hi2,w2,w3,Qcb,hj3,hj4,hg]) ?_|refine xt (by simp [hi2,w2,w3,Qcb,hj3,hj4,hg]) ?_|refine xf (by simp [hi2,w2,w3,Qcb,hj3,hj4,hg]) ?_|apply wB|apply Qab|refine wX ?_|refine wY ?_|refine wR ?_|refine wK ?_|refine wE ?_)
    have:=ih (j+1) (n+min r[j] ((i:Int)+1)) (by omega) (by omega) (by omega)
    simp only [List.map_cons,List.sum_cons,Int.natCast_add,Int.natCast_one,Int.add_assoc] at this ⊢
    exact this
 have hq:(((i:Int)+1) * (i:Int))≤1000∧0≤((i:Int)+1) * (i:Int):=by
  have h1:((i:Int)+1) * (i:Int)≤7 * 7:=Int.mul_le_mul (by omega) (by omega) (by omega) (by omega)
  exact ⟨by omega,Int.mul_nonneg (by omega) (by omega)⟩
 generalize hm:((i:Int)+1) * (i:Int)=q at hq
 have w1:IntKind.i64.wrap ((i:Int)+1)=(i:Int)+1:=Qad (by omega) (by omega)
 have w2:IntKind.i64.wrap (i:Int)=(i:Int):=Qad (by omega) (by omega)
 have w3:IntKind.i64.wrap q=q:=Qad (by omega) (by omega)
 have w4:IntKind.i64.wrap (q - (s.take (i+1)).sum)=q - (s.take (i+1)).sum:=Qad (by omega) (by omega)
 refine cW zt19 rfl ?_
 repeat (first|apply wA|apply wS|refine wr (by simp [e1,w1,w2,w3,w4,hm,hi,show i+1≤s.length by omega];with_reducible rfl) ?_|refine wq (by simp [e1,w1,w2,w3,w4,hm,hi,show i+1≤s.length by omega];with_reducible rfl) ?_|refine wt (by simp [e1,w1,w2,w3,w4,hm,hi,show i+1≤s.length by omega]) ?_|refine wf (by simp [e1,w1,w2,w3,w4,hm,hi,show i+1≤s.length by omega]) ?_|refine xt (by simp [e1,w1,w2,w3,w4,hm,hi,show i+1≤s.length by omega]) ?_|refine xf (by simp [e1,w1,w2,w3,w4,hm,hi,show i+1≤s.length by omega]) ?_|apply wB|apply Qab|refine wX ?_|refine wY ?_|refine wR ?_|refine wK ?_|refine wE ?_)
 have:=loop r.length 0 (q - (s.take (i+1)).sum) (by simp) (by omega) (by omega)
 refine Qaf this ?_
 rintro ex st ⟨rfl,rfl⟩
 simp only [if_true]
 repeat (first|apply wA|apply wS|refine wr (by simp;with_reducible rfl) ?_|refine wq (by simp;with_reducible rfl) ?_|refine wt (by simp) ?_|refine wf (by simp) ?_|refine xt (by simp) ?_|refine xf (by simp) ?_|apply wB|apply Qab|refine wX ?_|refine wY ?_|refine wR ?_|refine wK ?_|refine wE ?_)
 have h1:(((i+1:Nat):Int) - 1)=(i:Int):=by omega
 simp only [slk,hr,h1]
 rw [show ((i+1:Nat):Int) * (i:Int)=q from hm]
 simp [zi19]
theorem Qq1 (d:List Int) (c:Bool) (hv:Qcm d=true):Ev tb Ju7 [] [L d c] [] ⟨O (Qc3 d),[],[],[]⟩:=by
 have hf:=(Qbw hv).fall
 have hl:=(Qbw hv).1
 have e1:=Qaa (Qt0 d c (by omega))
 have e2:=Qaa (Jl1 d c Jn6 [.bptr 0 0 0] [[[O (fall d)]]] (fun k=>slk (fall d) (k+1)) hv (fun k hk=>Qle (fall d) k (by rw [Qd8];exact hk) hf))
 refine cW zt18 rfl ?_
 repeat (first|apply wA|apply wS|refine wr (by simp [e1,e2];with_reducible rfl) ?_|refine wq (by simp [e1,e2];with_reducible rfl) ?_|refine wt (by simp [e1,e2]) ?_|refine wf (by simp [e1,e2]) ?_|refine xt (by simp [e1,e2]) ?_|refine xf (by simp [e1,e2]) ?_|apply wB|apply Qab|refine wX ?_|refine wY ?_|refine wR ?_|refine wK ?_|refine wE ?_)
 simp [zi18,Qc3,Qvv]
def Qd3 (d:List Int):Int:=idx (fun x=>decide (x < 0)) 0 (Qc3 d)+1
theorem Qkn (p:Int→Bool):∀ (xs:List Int) (i:Int),0≤i→-1≤idx p i xs∧idx p i xs≤i+xs.length
 | [],i,h=>by simp [idx];omega
 | x::r,i,h=>by
   have:=Qkn p r (i+1) (by omega)
   unfold idx
   split
   · simp;omega
   · simp;omega
theorem Qkt (d:List Int) (c:Bool) (hv:Qcm d=true):Ev tb zl7 [] [L d c] [] ⟨I (Qd3 d),[],[],[]⟩:=by
 have hl:=(Qbw hv).1
 have e1:=Qaa (Qq1 d c hv)
 have e2:=Qaa (Qis (Qc3 d) false zl8 [] [[]] _ (by rw [Qii];omega) (fun x _=>Qha x [[],[]]))
 have hb:=Qkn (fun x=>decide (x < 0)) (Qc3 d) 0 (by omega)
 rw [Qii] at hb
 have w1:IntKind.i64.wrap (idx (fun x=>decide (x < 0)) 0 (Qc3 d)+1)=Qd3 d:=Qad (by omega) (by omega)
 refine cW zt7 rfl ?_
 repeat (first|apply wA|apply wS|refine wr (by simp [e1,e2,w1];with_reducible rfl) ?_|refine wq (by simp [e1,e2,w1];with_reducible rfl) ?_|refine wt (by simp [e1,e2,w1]) ?_|refine wf (by simp [e1,e2,w1]) ?_|refine xt (by simp [e1,e2,w1]) ?_|refine xf (by simp [e1,e2,w1]) ?_|apply wB|apply Qab|refine wX ?_|refine wY ?_|refine wR ?_|refine wK ?_|refine wE ?_)
 simp [zi7]
def Qbn (d:List Int):Bool:=Qcm d && decide (d.sum % 2=0) && (Qc3 d).all fun x=>decide (0≤x)
theorem Jfh (p:Int→Bool) (xs:List Int) (i:Int) (h:0≤i):(idx p i xs+1=0) ↔ xs.any p=false:=by
 have h1:=Qiz p xs i h
 have h2:=(Qkn p xs i h).1
 cases hx:xs.any p with
 | true=>rw [hx] at h1;simp at h1;simp;omega
 | false=>rw [hx] at h1;simp at h1;simp;omega
theorem Qih (d:List Int):Qd3 d=0 ↔ ((Qc3 d).all fun x=>decide (0≤x))=true:=by
 rw [Qd3,Jfh _ _ _ (by omega)]
 rw [← Bool.not_eq_true,List.all_eq_true,List.any_eq_true]
 constructor
 · intro h x hx
   have:=fun hp=>h ⟨x,hx,hp⟩
   simp at this ⊢
   exact this
 · rintro h ⟨x,hx,hp⟩
   have:=h x hx
   simp at this hp
   omega
theorem Qo5 (d:List Int) (c:Bool) (hl:d.length≤1000000):Ev tb Jsa [] [L d c] [] ⟨Bo (Qbn d),[],[],[]⟩:=by
 have e1:=Qaa (Qcn d c hl)
 cases hv:Qcm d with
 | false =>
   refine cW zt10 rfl ?_
   repeat (first|apply wA|apply wS|refine wr (by simp [e1,hv];with_reducible rfl) ?_|refine wq (by simp [e1,hv];with_reducible rfl) ?_|refine wt (by simp [e1,hv]) ?_|refine wf (by simp [e1,hv]) ?_|refine xt (by simp [e1,hv]) ?_|refine xf (by simp [e1,hv]) ?_|apply wB|apply Qab|refine wX ?_|refine wY ?_|refine wR ?_|refine wK ?_|refine wE ?_)
   simp [Jnw,Qbn,hv]
 | true =>
   have hs:=(Qbw hv)
   have e2:=Qaa (Jbb d c hs.small)
   have e3:=Qaa (Qkt d c hv)
   have h2:d.sum.tmod 2=d.sum % 2:=Int.tmod_eq_emod_of_nonneg hs.sum.1
   have hr:=Qih d
   have w1:IntKind.i64.wrap (d.sum.tmod 2)=d.sum % 2:=by rw [h2];exact Qad (by omega) (by omega)
   by_cases hp:d.sum % 2=0
   · refine cW zt10 rfl ?_
     repeat (first|apply wA|apply wS|refine wr (by simp [e1,hv,e2,e3,w1,h2,hp];with_reducible rfl) ?_|refine wq (by simp [e1,hv,e2,e3,w1,h2,hp];with_reducible rfl) ?_|refine wt (by simp [e1,hv,e2,e3,w1,h2,hp]) ?_|refine wf (by simp [e1,hv,e2,e3,w1,h2,hp]) ?_|refine xt (by simp [e1,hv,e2,e3,w1,h2,hp]) ?_|refine xf (by simp [e1,hv,e2,e3,w1,h2,hp]) ?_|apply wB|apply Qab|refine wX ?_|refine wY ?_|refine wR ?_|refine wK ?_|refine wE ?_)
     simp [Jnw,Qbn,hv,hp]
     rw [Bool.eq_iff_iff,beq_iff_eq];exact hr
   · refine cW zt10 rfl ?_
     repeat (first|apply wA|apply wS|refine wr (by simp [e1,hv,e2,e3,w1,h2,hp];with_reducible rfl) ?_|refine wq (by simp [e1,hv,e2,e3,w1,h2,hp];with_reducible rfl) ?_|refine wt (by simp [e1,hv,e2,e3,w1,h2,hp]) ?_|refine wf (by simp [e1,hv,e2,e3,w1,h2,hp]) ?_|refine xt (by simp [e1,hv,e2,e3,w1,h2,hp]) ?_|refine xf (by simp [e1,hv,e2,e3,w1,h2,hp]) ?_|apply wB|apply Qab|refine wX ?_|refine wY ?_|refine wR ?_|refine wK ?_|refine wE ?_)
     simp [Jnw,Qbn,hv,hp,hr]
end Go.Idl
namespace Go.Idl
open Go
def Qlf (o:List Int) (i:Nat):List Int:=o.set i (o.getD i 0+1)
def Qfh (o:List Int) (es:List (Int×Int)):List Int:=es.foldl (fun o e=>Qlf (Qlf o e.1.toNat) e.2.toNat) o
def Qda (n:Nat) (es:List (Int×Int)):List Int:=Qfh (List.replicate n 0) es
def Qca (n:Nat) (es:List (Int×Int)):Prop:=∀ e ∈ es,0≤e.1∧e.1 < n∧0≤e.2∧e.2 < n
theorem Qez (o:List Int) (i:Nat):(Qlf o i).length=o.length:=by simp [Qlf]
theorem Qmm {o:List Int} {i:Nat} (h:i < o.length):Qlf o i=o.set i (o[i]+1):=by
 simp [Qlf,List.getD_eq_getElem?_getD,List.getElem?_eq_getElem h]
theorem Qdk {o:List Int} {i:Nat} {B:Int} (h:∀ x ∈ o,0≤x∧x≤B) (hB:0≤B):∀ x ∈ Qlf o i,0≤x∧x≤B+1:=by
 intro x hx
 rcases List.mem_or_eq_of_mem_set hx with hx | rfl
 · have:=h x hx;omega
 · rw [List.getD_eq_getElem?_getD]
   cases he:o[i]? with
   | none=>simp;omega
   | some y=>have:=h y (List.mem_of_getElem? he);simp;omega
theorem Qc9:∀ (es:List (Int×Int)) (o:List Int),(Qfh o es).length=o.length
 | [],o=>rfl
 | e::es,o=>by simp only [Qfh,List.foldl_cons];rw [← Qfh,Qc9 es];simp [Qez]
theorem Qex:∀ (es:List (Int×Int)) (o:List Int) (B:Int),(∀ x ∈ o,0≤x∧x≤B)→0≤B→∀ x ∈ Qfh o es,0≤x∧x≤B+2 * es.length
 | [],o,B,h,hB,x,hx=>by have:=h x hx;simp;omega
 | e::es,o,B,h,hB,x,hx=>by
   have:=Qex es _ (B+2) (fun x hx=>by have:=Qdk (i:=e.2.toNat) (Qdk (i:=e.1.toNat) h hB) (by omega) x hx;omega) (by omega) x hx
   simp only [List.length_cons]
   omega
theorem Jf6 {n:Nat} {es:List (Int×Int)} (h:es.Sublist (prs n)):Qca n es:=by
 intro e he
 have:=Qs3 n 0 e (h.mem he)
 omega
theorem Qzm {n:Nat} (hn:n≤7) {es:List (Int×Int)} (h:es.Sublist (prs n)):es.length≤49:=by
 have h1:=h.length_le
 have:=Qjg n 0
 have h2:n * n≤7 * 7:=Nat.mul_le_mul hn hn
 simp only [prs] at h1;omega
theorem Qh3 (n:Nat) (es:List (Int×Int)) (c:Bool) (hn:n≤1000) (hl:es.length≤1000) (he:Qca n es) :
 Ev tb Qq9 [] [Gr n es c] [] ⟨O (Qda n es),[],[],[]⟩:=by
 have loop:∀ (m i:Nat) (out:List Int),i+m=es.length→out.length=n→(∀ x ∈ out,0≤x∧x≤2 * i) →
  wp tb (.loop Jgh) { T:=[(1,.bptr 0 0 0),(3,O out),(4,I i)],loc:=[[I n,L2 es c]],M:=[] }
  (fun ex st=>ex=.exit 0∧st={ T:=[(1,.bptr 0 0 0),(3,O (Qfh out (es.drop i))),(4,I es.length),(12,Bo false)],loc:=[[I n,L2 es c]],M:=[] }):=by
  intro m
  induction m with
  | zero =>
    intro i out hi ho hb
    have h3:i=es.length:=hi
    subst h3
    refine wW ?_
    repeat (first|apply wA|apply wS|refine wr (by simp;with_reducible rfl) ?_|refine wq (by simp;with_reducible rfl) ?_|refine wt (by simpa) ?_|refine wf (by simpa) ?_|refine xt (by simpa) ?_|refine xf (by simpa) ?_|apply wB|apply Qab|refine wX ?_|refine wY ?_|refine wR ?_|refine wK ?_|refine wE ?_)
    simp [Qfh]
  | succ m ih =>
    intro i out hi ho hb
    have hi2:i < es.length:=by omega
    have w1:IntKind.i64.wrap ((i:Int)+1)=((i+1:Nat):Int):=Qa8 (by omega)
    have hd:es.drop i=es[i]::es.drop (i+1):=List.drop_eq_getElem_cons hi2
    have hei:=he es[i] (List.getElem_mem hi2)
    obtain ⟨p,q,hpq,hp,hq⟩:∃ p q:Nat,es[i]=((p:Int),(q:Int))∧p < n∧q < n:=⟨es[i].1.toNat,es[i].2.toNat,by ext <;> simp <;> omega,by omega,by omega⟩
    rw [hd,hpq]
    have hpo:p < out.length:=by omega
    have hx:=hb out[p] (List.getElem_mem hpo)
    have w2:IntKind.i64.wrap (out[p]+1)=out[p]+1:=Qad (by omega) (by omega)
    have e1:=Qmm hpo
    have b1:=Qdk (i:=p) hb (by omega)
    have l1:=Qez out p
    have hstep:Qfh out (((p:Int),(q:Int))::es.drop (i+1))=Qfh (Qlf (Qlf out p) q) (es.drop (i+1)):=rfl
    rw [hstep]
    refine wW ?_
    refine wA (Qbo (by simp;with_reducible rfl) (by simp;with_reducible rfl) ?_)
    refine Qfe (t:=true) (by simp [hi2]) (fun _=>wS ?_) (by simp)
    refine wB ?_
    refine wr (by simp [hi2,hpq,hpo,w2,← e1];with_reducible rfl) ?_
    generalize Qlf out p=out1 at *
    have hqo:q < out1.length:=by omega
    have hx2:=b1 out1[q] (List.getElem_mem hqo)
    have w3:IntKind.i64.wrap (out1[q]+1)=out1[q]+1:=Qad (by omega) (by omega)
    have e2:=Qmm hqo
    have b2:=Qdk (i:=q) b1 (by omega)
    have l2:=Qez out1 q
    refine wq (by simp [hi2,hpq,hqo,w3,← e2];with_reducible rfl) ?_
    repeat (first|apply wA|apply wS|refine wr (by simp [w1];with_reducible rfl) ?_|refine wq (by simp [w1];with_reducible rfl) ?_|refine wt (by simpa [w1]) ?_|refine wf (by simpa [w1]) ?_|refine xt (by simpa [w1]) ?_|refine xf (by simpa [w1]) ?_|apply wB|apply Qab|refine wX ?_|refine wY ?_|refine wR ?_|refine wK ?_|refine wE ?_)
    exact ih (i+1) (Qlf out1 q) (by omega) (by omega) (fun x hx=>by have:=b2 x hx;omega)
 refine cW zt125 rfl ?_
 repeat (first|apply wA|apply wS|refine wr (by simp [show n≤274877906944 by omega];with_reducible rfl) ?_|refine wq (by simp [show n≤274877906944 by omega];with_reducible rfl) ?_|refine wt (by simpa [show n≤274877906944 by omega]) ?_|refine wf (by simpa [show n≤274877906944 by omega]) ?_|refine xt (by simpa [show n≤274877906944 by omega]) ?_|refine xf (by simpa [show n≤274877906944 by omega]) ?_|apply wB|apply Qab|refine wX ?_|refine wY ?_|refine wR ?_|refine wK ?_|refine wE ?_)
 have:=loop es.length 0 (List.replicate n 0) (by simp) (by simp) (by intro x hx;have:=List.eq_of_mem_replicate hx;subst this;simp)
 simp at this
 refine Qaf this ?_
 rintro ex st ⟨rfl,rfl⟩
 simp only [if_true]
 repeat (first|apply wA|apply wS|refine wr (by simp;with_reducible rfl) ?_|refine wq (by simp;with_reducible rfl) ?_|refine wt (by simpa) ?_|refine wf (by simpa) ?_|refine xt (by simpa) ?_|refine xf (by simpa) ?_|apply wB|apply Qab|refine wX ?_|refine wY ?_|refine wR ?_|refine wK ?_|refine wE ?_)
 simp [Jfi,Qda]
def Low (B:Int) (d:List Int):Prop:=∀ x ∈ d,-B≤x∧x≤B
theorem Low.set {B:Int} {d:List Int} (h:Low B d) {i:Nat} {x:Int} (hx:-B≤x∧x≤B):Low B (d.set i x):=by
 intro y hy
 rcases List.mem_or_eq_of_mem_set hy with hy | rfl
 · exact h y hy
 · exact hx
theorem Low.app {B:Int} {d:List Int} (h:Low B d) {x:Int} (hx:-B≤x∧x≤B):Low B (d++[x]):=by
 intro y hy
 rcases List.mem_append.1 hy with hy | hy
 · exact h y hy
 · simp at hy;subst hy;exact hx
theorem Low.mono {B C:Int} {d:List Int} (h:Low B d) (hc:B≤C):Low C d:=fun x hx=>by have:=h x hx;omega
theorem Jwl (code:List Int) (c:Bool) (hc:Qcs code) (cnt:Nat) (hn:cnt≤1000000) (xs:List Int) (hl:0 < xs.length∧xs.length≤1000) (bs:Qac) (Ms:List Qac) :
 ∃ (x:Int) (k:Nat),x ∈ xs∧k≤cnt+1∧Qcg tb Qi5 [] [.bptr 0 0 0,.lst 1 (Qb3 xs) false] ((R code c cnt::bs)::Ms)=some ⟨I x,[],(R code c k::bs)::Ms,[]⟩:=by
 obtain ⟨v,h,e⟩:=Jf2 code c hc cnt hn xs false hl bs Ms
 exact ⟨v,cnt+1,h,by omega,Qaa e⟩
theorem Jgm (a b:Int):(if a < b then b else a)=max a b:=by split <;> omega
theorem liftl (code:List Int) (c:Bool) (hc:Qcs code) (len:Nat) (h2:2≤len) (hl:len≤100) (bs:Qac) (Ms:List Qac):∀ (n cnt:Nat) (d:List Int),cnt+2 * n≤99000→d.length=len→Low 1000 d→n≤3 →
 wp tb (.loop Jg5) { T:=[(0,.bptr 0 0 0),(1,O d),(5,I n)],loc:=[],M:=(R code c cnt::bs)::Ms }
  (fun ex st=>ex=.exit 0∧∃ (d':List Int) (k:Nat),d'.length=len∧Low 1000 d'∧k≤cnt+2 * n∧st={ T:=[(0,.bptr 0 0 0),(1,O d'),(5,I 0),(15,Bo false)],loc:=[],M:=(R code c k::bs)::Ms }):=by
 intro n
 induction n with
 | zero =>
   intro cnt d hcn hd hlo hn3
   refine wW ?_
   repeat (first|apply wA|apply wS|refine wr (by simp;with_reducible rfl) ?_|refine wq (by simp;with_reducible rfl) ?_|refine wt (by simpa) ?_|refine wf (by simpa) ?_|refine xt (by simpa) ?_|refine xf (by simpa) ?_|apply wB|apply Qab|refine wX ?_|refine wY ?_|refine wR ?_|refine wK ?_|refine wE ?_)
   exact ⟨rfl,d,cnt,hd,hlo,by omega,rfl⟩
 | succ n ih =>
   intro cnt d hcn hd hlo hn3
   obtain ⟨v,k1,hv,hk1,e1⟩:=Qlb code c hc cnt (by omega) (len:Int) (by omega) bs (Ms++[[]])
   have hv:=hv (by omega)
   have hvd:v < d.length:=by omega
   obtain ⟨x,k2,hx,hk2,e2⟩:=Jwl code c hc k1 (by omega) [1,-1,1,2] (by simp) bs (Ms++[[]])
   have hx:-1≤x∧x≤2:=by simp at hx;omega
   have hdv:=hlo d[v] (List.getElem_mem hvd)
   have w1:IntKind.i64.wrap (d[v]+x)=d[v]+x:=Qad (by omega) (by omega)
   have w2:IntKind.i64.wrap ((len:Int) - 1)=(len:Int) - 1:=Qad (by omega) (by omega)
   have w3:IntKind.i64.wrap (n:Int)=(n:Int):=Qrr (by omega)
   have h1:(0:Int) < (n:Int)+1:=by omega
   refine wW ?_
   repeat (first|apply wA|apply wS|refine wr (by simp [e1,hd,h1];with_reducible rfl) ?_|refine wq (by simp [e1,hd,h1];with_reducible rfl) ?_|refine wt (by simpa [e1,hd,h1]) ?_|refine wf (by simpa [e1,hd,h1]) ?_|refine xt (by simpa [e1,hd,h1]) ?_|refine xf (by simpa [e1,hd,h1]) ?_|apply wB|apply Qab|refine wX ?_|refine wY ?_|refine wR ?_|refine wK ?_|refine wE ?_)
   have hvl:v < len:=by omega
   refine Qof (by simp [hd,hvl,hvd,e2,w1,w2];with_reducible rfl) (by simp;with_reducible rfl) ?_ ?_
   · intro p hp
     simp only [List.mem_cons,List.not_mem_nil,or_false] at hp
     rcases hp with rfl | rfl
     · exact ⟨_,by simp [hd,hvl,hvd,e2,w1,w2];with_reducible rfl,by simp⟩
     · exact ⟨_,by simp [hd,hvl,hvd,e2,w1,w2];with_reducible rfl,by simp⟩
   repeat (first|apply wA|apply wS|refine wr (by simp [w3];with_reducible rfl) ?_|refine wq (by simp [w3];with_reducible rfl) ?_|refine wt (by simpa [w3]) ?_|refine wf (by simpa [w3]) ?_|refine xt (by simpa [w3]) ?_|refine xf (by simpa [w3]) ?_|apply wB|apply Qab|refine wX ?_|refine wY ?_|refine wR ?_|refine wK ?_|refine wE ?_)
   refine Qaf (ih k2 _ (by omega) (by simp [hd]) (hlo.set ?_) (by omega)) ?_
   · simp only [Qcb,Jgm]
     first | (split <;> split <;> omega) | (split <;> omega) | omega
   · rintro ex st ⟨rfl,d',k,h1,h2,h3,rfl⟩
     exact ⟨rfl,d',k,h1,h2,by omega,rfl⟩
theorem Qj6 (code:List Int) (c:Bool) (hc:Qcs code) (cnt:Nat) (hn:cnt≤90000) (d:List Int) (hl:d.length≤100) (hlo:Low 1000 d) (bs:Qac) (Ms:List Qac) :
 ∃ (d':List Int) (k:Nat),d'.length=d.length∧Low 1000 d'∧k≤cnt+10 ∧
   Qcg tb Qpq [] [.bptr 0 0 0,O d] ((R code c cnt::bs)::Ms)=some ⟨O d',[],(R code c k::bs)::Ms,[]⟩:=by
 suffices h:∃ r,(∃ (d':List Int) (k:Nat),d'.length=d.length∧Low 1000 d'∧k≤cnt+10∧r=⟨O d',[],(R code c k::bs)::Ms,[]⟩)∧Ev tb Qpq [] [.bptr 0 0 0,O d] ((R code c cnt::bs)::Ms) r by
  obtain ⟨r,⟨d',k,h1,h2,h3,rfl⟩,h4⟩:=h
  exact ⟨d',k,h1,h2,h3,Qaa h4⟩
 refine Qe8 zt135 rfl ?_
 by_cases h2:d.length < 2
 · have h3:(d.length:Int) < 2:=by omega
   repeat (first|apply wA|apply wS|refine wr (by simp [h2,h3];with_reducible rfl) ?_|refine wq (by simp [h2,h3];with_reducible rfl) ?_|refine wt (by simpa [h2,h3]) ?_|refine wf (by simpa [h2,h3]) ?_|refine xt (by simpa [h2,h3]) ?_|refine xf (by simpa [h2,h3]) ?_|apply wB|apply Qab|refine wX ?_|refine wY ?_|refine wR ?_|refine wK ?_|refine wE ?_)
   refine ⟨.inr rfl,_,⟨d,cnt,rfl,hlo,by omega,rfl⟩,by simp [Jbx]⟩
 · have h3:¬ (d.length:Int) < 2:=by omega
   obtain ⟨x,k2,hx,hk2,e2⟩:=Jwl code c hc cnt (by omega) [0,1,2,2,3] (by simp) bs (Ms++[[]])
   obtain ⟨n,rfl,hn3⟩:∃ n:Nat,x=(n:Int)∧n≤3:=by
    simp at hx
    exact ⟨x.toNat,by omega,by omega⟩
   repeat (first|apply wA|apply wS|refine wr (by simp [h2,h3,e2];with_reducible rfl) ?_|refine wq (by simp [h2,h3,e2];with_reducible rfl) ?_|refine wt (by simpa [h2,h3,e2]) ?_|refine wf (by simpa [h2,h3,e2]) ?_|refine xt (by simpa [h2,h3,e2]) ?_|refine xf (by simpa [h2,h3,e2]) ?_|apply wB|apply Qab|refine wX ?_|refine wY ?_|refine wR ?_|refine wK ?_|refine wE ?_)
   refine Qaf (liftl code c hc d.length (by omega) hl bs Ms n k2 d (by omega) rfl hlo hn3) ?_
   rintro ex st ⟨rfl,d',k,h1,h2,h3,rfl⟩
   simp only [if_true]
   repeat (first|apply wA|apply wS|refine wr (by simp;with_reducible rfl) ?_|refine wq (by simp;with_reducible rfl) ?_|refine wt (by simpa) ?_|refine wf (by simpa) ?_|refine xt (by simpa) ?_|refine xf (by simpa) ?_|apply wB|apply Qab|refine wX ?_|refine wY ?_|refine wR ?_|refine wK ?_|refine wE ?_)
   refine ⟨.inr rfl,_,⟨d',k,h1,h2,by omega,rfl⟩,by simp [Jbx]⟩
theorem Qli (code:List Int) (c:Bool) (hc:Qcs code) (cnt:Nat) (hn:cnt≤80000) (bs:Qac) (Ms:List Qac) :
 ∃ (d:List Int) (k:Nat),d.length≤7∧Low 1000 d∧k≤cnt+200 ∧
   Qcg tb Qza [] [.bptr 0 0 0] ((R code c cnt::bs)::Ms)=some ⟨O d,[],(R code c k::bs)::Ms,[]⟩:=by
 obtain ⟨n,es,k,hn7,hs,hk,e⟩:=Qpu code c hc cnt (by omega) bs (Ms++[[]])
 have e1:=Qaa e
 have hel:=Qzm hn7 hs
 have e2:=Qaa (Qh3 n es false (by omega) (by omega) (Jf6 hs))
 have hdl:(Qda n es).length=n:=by rw [Qda,Qc9];simp
 have hlo:Low 1000 (Qda n es):=by
  intro x hx
  have:=Qex es (List.replicate n 0) 0 (by intro x hx;have:=List.eq_of_mem_replicate hx;omega) (by omega) x hx
  omega
 obtain ⟨v,k2,hv,hk2,e3⟩:=Qlb code c hc k (by omega) 2 (by omega) bs (Ms++[[]])
 generalize Qda n es=d at *
 by_cases hv0:v=0
 · subst hv0
   obtain ⟨d',k3,hd',hlo',hk3,e4⟩:=Qj6 code c hc k2 (by omega) d (by omega) hlo bs (Ms++[[]])
   refine ⟨d',k3,by omega,hlo',by omega,Qaa ?_⟩
   refine cW Jyz rfl ?_
   repeat (first|apply wA|apply wS|refine wr (by simp [e1,e2,e3,e4];with_reducible rfl) ?_|refine wq (by simp [e1,e2,e3,e4];with_reducible rfl) ?_|refine wt (by simpa [e1,e2,e3,e4]) ?_|refine wf (by simpa [e1,e2,e3,e4]) ?_|refine xt (by simpa [e1,e2,e3,e4]) ?_|refine xf (by simpa [e1,e2,e3,e4]) ?_|apply wB|apply Qab|refine wX ?_|refine wY ?_|refine wR ?_|refine wK ?_|refine wE ?_)
   simp [Qye]
 · have hv1:¬ (v:Int)=0:=by omega
   refine ⟨d,k2,by omega,hlo,by omega,Qaa ?_⟩
   refine cW Jyz rfl ?_
   repeat (first|apply wA|apply wS|refine wr (by simp [e1,e2,e3,hv0,hv1];with_reducible rfl) ?_|refine wq (by simp [e1,e2,e3,hv0,hv1];with_reducible rfl) ?_|refine wt (by simpa [e1,e2,e3,hv0,hv1]) ?_|refine wf (by simpa [e1,e2,e3,hv0,hv1]) ?_|refine xt (by simpa [e1,e2,e3,hv0,hv1]) ?_|refine xf (by simpa [e1,e2,e3,hv0,hv1]) ?_|apply wB|apply Qab|refine wX ?_|refine wY ?_|refine wR ?_|refine wK ?_|refine wE ?_)
   simp [Qye]
theorem Qzk (code:List Int) (c:Bool) (hc:Qcs code) (cnt:Nat) (hn:cnt≤90000) (d:List Int) (hl:d.length≤100) (hlo:Low 1000 d) (bs:Qac) (Ms:List Qac) :
 ∃ (d':List Int) (k:Nat),d'.length≤d.length+1∧Low 1000 d'∧k≤cnt+10 ∧
   Qcg tb Qua [] [.bptr 0 0 0,O d] ((R code c cnt::bs)::Ms)=some ⟨O d',[],(R code c k::bs)::Ms,[]⟩:=by
 obtain ⟨v,k1,hv,hk1,e1⟩:=Qlb code c hc cnt (by omega) 24 (by omega) bs (Ms++[[]])
 by_cases hv0:v=0
 · subst hv0
   obtain ⟨x,k2,hx,hk2,e2⟩:=Jwl code c hc k1 (by omega) [-1,7,8,0] (by simp) bs (Ms++[[]])
   have hx:-1000≤x∧x≤1000:=by simp at hx;omega
   refine ⟨d++[x],k2,by simp,hlo.app hx,by omega,Qaa ?_⟩
   refine cW Jep rfl ?_
   repeat (first|apply wA|apply wS|refine wr (by simp [e1,e2,show d.length≤274877906943 by omega];with_reducible rfl) ?_|refine wq (by simp [e1,e2,show d.length≤274877906943 by omega];with_reducible rfl) ?_|refine wt (by simpa [e1,e2,show d.length≤274877906943 by omega]) ?_|refine wf (by simpa [e1,e2,show d.length≤274877906943 by omega]) ?_|refine xt (by simpa [e1,e2,show d.length≤274877906943 by omega]) ?_|refine xf (by simpa [e1,e2,show d.length≤274877906943 by omega]) ?_|apply wB|apply Qab|refine wX ?_|refine wY ?_|refine wR ?_|refine wK ?_|refine wE ?_)
   simp [Qq8]
 have hv1:¬ (v:Int)=0:=by omega
 by_cases hd:d=[]
 · subst hd
   refine ⟨[],k1,by simp,hlo,by omega,Qaa ?_⟩
   refine cW Jep rfl ?_
   repeat (first|apply wA|apply wS|refine wr (by simp [e1,hv0,hv1];with_reducible rfl) ?_|refine wq (by simp [e1,hv0,hv1];with_reducible rfl) ?_|refine wt (by simpa [e1,hv0,hv1]) ?_|refine wf (by simpa [e1,hv0,hv1]) ?_|refine xt (by simpa [e1,hv0,hv1]) ?_|refine xf (by simpa [e1,hv0,hv1]) ?_|apply wB|apply Qab|refine wX ?_|refine wY ?_|refine wR ?_|refine wK ?_|refine wE ?_)
   simp [Qq8]
 have hdl:0 < d.length:=List.length_pos_iff.2 hd
 have hdl2:(0:Int) < d.length:=by omega
 obtain ⟨u,k2,hu,hk2,e2⟩:=Qlb code c hc k1 (by omega) 30 (by omega) bs (Ms++[[]])
 by_cases hu0:u=0
 rotate_left
 · have hu1:¬ (u:Int)=0:=by omega
   refine ⟨d,k2,by omega,hlo,by omega,Qaa ?_⟩
   refine cW Jep rfl ?_
   repeat (first|apply wA|apply wS|refine wr (by simp [e1,e2,hv0,hv1,hdl,hdl2,hu0,hu1,hd];with_reducible rfl) ?_|refine wq (by simp [e1,e2,hv0,hv1,hdl,hdl2,hu0,hu1,hd];with_reducible rfl) ?_|refine wt (by simpa [e1,e2,hv0,hv1,hdl,hdl2,hu0,hu1,hd]) ?_|refine wf (by simpa [e1,e2,hv0,hv1,hdl,hdl2,hu0,hu1,hd]) ?_|refine xt (by simpa [e1,e2,hv0,hv1,hdl,hdl2,hu0,hu1,hd]) ?_|refine xf (by simpa [e1,e2,hv0,hv1,hdl,hdl2,hu0,hu1,hd]) ?_|apply wB|apply Qab|refine wX ?_|refine wY ?_|refine wR ?_|refine wK ?_|refine wE ?_)
   simp [Qq8]
 subst hu0
 obtain ⟨p,k3,hp,hk3,e3⟩:=Qlb code c hc k2 (by omega) (d.length:Int) (by omega) bs (Ms++[[]])
 have hp:=hp (by omega)
 have hpl:p < d.length:=by omega
 obtain ⟨x,k4,hx,hk4,e4⟩:=Jwl code c hc k3 (by omega) [-1,7,6] (by simp) bs (Ms++[[]])
 have hx:-1000≤x∧x≤1000:=by simp at hx;omega
 refine ⟨d.set p x,k4,by simp,hlo.set hx,by omega,Qaa ?_⟩
 refine cW Jep rfl ?_
 repeat (first|apply wA|apply wS|refine wr (by simp [e1,e2,hv0,hv1,hdl,hdl2,e3,e4,hpl,hd];with_reducible rfl) ?_|refine wq (by simp [e1,e2,hv0,hv1,hdl,hdl2,e3,e4,hpl,hd];with_reducible rfl) ?_|refine wt (by simpa [e1,e2,hv0,hv1,hdl,hdl2,e3,e4,hpl,hd]) ?_|refine wf (by simpa [e1,e2,hv0,hv1,hdl,hdl2,e3,e4,hpl,hd]) ?_|refine xt (by simpa [e1,e2,hv0,hv1,hdl,hdl2,e3,e4,hpl,hd]) ?_|refine xf (by simpa [e1,e2,hv0,hv1,hdl,hdl2,e3,e4,hpl,hd]) ?_|apply wB|apply Qab|refine wX ?_|refine wY ?_|refine wR ?_|refine wK ?_|refine wE ?_)
 simp [Qq8]
 rw [List.take_of_length_le (by simp)]
theorem Qla (code:List Int) (c:Bool) (hc:Qcs code) (cnt:Nat) (hn:cnt≤70000) (bs:Qac) (Ms:List Qac) :
 ∃ (d:List Int) (k:Nat),d.length≤8∧Low 1000 d∧k≤cnt+300 ∧
   Qcg tb Qw6 [] [.bptr 0 0 0] ((R code c cnt::bs)::Ms)=some ⟨O d,[],(R code c k::bs)::Ms,[]⟩:=by
 obtain ⟨d,k1,h1,h2,h3,e1⟩:=Qli code c hc cnt (by omega) bs (Ms++[[]])
 obtain ⟨d',k2,h4,h5,h6,e2⟩:=Qzk code c hc k1 (by omega) d (by omega) h2 bs (Ms++[[]])
 refine ⟨d',k2,by omega,h5,by omega,Qaa ?_⟩
 refine cW zt142 rfl ?_
 repeat (first|apply wA|apply wS|refine wr (by simp [e1,e2];with_reducible rfl) ?_|refine wq (by simp [e1,e2];with_reducible rfl) ?_|refine wt (by simpa [e1,e2]) ?_|refine wf (by simpa [e1,e2]) ?_|refine xt (by simpa [e1,e2]) ?_|refine xf (by simpa [e1,e2]) ?_|apply wB|apply Qab|refine wX ?_|refine wY ?_|refine wR ?_|refine wK ?_|refine wE ?_)
 simp [Jd1]
end Go.Idl
namespace Go.Idl
open Go
def tab (t:List (List Int)):List (List IV):=t.map fun r=>[.lst 1 (Qb3 r) false]
def oab (t:List (List Int)):List (List IV):=t.map fun r=>[.own 1 (Qb3 r)]
abbrev OT (t:List (List Int)):IV:=.own 1 (oab t)
@[simp] theorem tab_len (t:List (List Int)):(tab t).length=t.length:=by simp [tab]
@[simp] theorem oab_len (t:List (List Int)):(oab t).length=t.length:=by simp [oab]
@[simp] theorem oab_nil:oab []=[]:=rfl
@[simp] theorem tab_get? (t:List (List Int)) (i:Nat):(tab t)[i]? = t[i]?.map fun r=>[IV.lst 1 (Qb3 r) false]:=by simp [tab]
@[simp] theorem tab_get (t:List (List Int)) (i:Nat) (h:i < (tab t).length):(tab t)[i]=[IV.lst 1 (Qb3 (t[i]'(by simpa [tab] using h))) false]:=by simp [tab]
@[simp] theorem oab_get? (t:List (List Int)) (i:Nat):(oab t)[i]? = t[i]?.map fun r=>[IV.own 1 (Qb3 r)]:=by simp [oab]
@[simp] theorem oab_get (t:List (List Int)) (i:Nat) (h:i < (oab t).length):(oab t)[i]=[IV.own 1 (Qb3 (t[i]'(by simpa [oab] using h)))]:=by simp [oab]
@[simp] theorem oab_one (t:List (List Int)) (r:List Int):oab t++[[IV.own 1 (Qb3 r)]]=oab (t++[r]):=by simp [oab]
@[simp] theorem oab_set (t:List (List Int)) (i:Nat) (r:List Int):(oab t).set i [IV.own 1 (Qb3 r)]=oab (t.set i r):=by simp [oab,List.map_set]
@[simp] theorem oab_take (t:List (List Int)) (n:Nat):(oab t).take n=oab (t.take n):=by simp [oab,List.map_take]
@[simp] theorem frz_oab (t:List (List Int)):Qdb (oab t)=tab t:=by
  induction t with
  | nil=>rfl
  | cons x xs ih =>
    simp only [oab,tab,List.map_cons,Qdb,Qdz,Qia] at *
    rw [ih]
    have:Qdb (Qb3 x)=Qb3 x:=by
     clear ih
     induction x with
     | nil=>rfl
     | cons y ys ih=>simp only [Qb3,List.map_cons,Qdb,Qdz,Qia] at *;rw [ih]
    rw [this]
@[simp] theorem tab_all1 (t:List (List Int)):((tab t).all fun x=>x.all IV.plain1)=true:=by
  induction t with
  | nil=>rfl
  | cons x xs ih=>simp only [tab,List.map_cons,List.all_cons] at *;rw [ih];rfl
@[simp] theorem Jzy (t:List (List Int)):Qb2 (oab t)=true:=by
  induction t with
  | nil=>rfl
  | cons x xs ih =>
    simp only [oab,List.map_cons,Qb2,Qbi,Qcc] at *
    rw [ih,Quu];rfl
def g2 (t:List (List Int)) (a b:Nat):Int:=(t.getD a []).getD b 0
end Go.Idl
namespace Go.Idl
def Qk4 {α:Type} (lt:α→α→Bool) (x:α):List α→List α→List α
 | [],B=>x::B
 | a::r,B=>if lt x a then Qk4 lt x r (a::B) else r.reverse++a::x::B
def Qd0 {α:Type} (lt:α→α→Bool):List α→List α→List α
 | S,[]=>S
 | S,x::r=>Qd0 lt (Qk4 lt x S.reverse []) r
theorem Qdy {α:Type} (lt:α→α→Bool) (x:α):∀ (r B:List α),(Qk4 lt x r B).Perm (r.reverse++x::B)
 | [],B=>.refl _
 | a::r,B=>by
   unfold Qk4
   split
   · refine (Qdy lt x r (a::B)).trans ?_
     rw [List.reverse_cons,List.append_assoc]
     exact List.Perm.append_left _ (.swap _ _ _)
   · rw [List.reverse_cons,List.append_assoc]
     exact .refl _
theorem Qfr {α:Type} (lt:α→α→Bool) (x:α) (S:List α):(Qk4 lt x S.reverse []).length=S.length+1:=by
 have:=(Qdy lt x S.reverse []).length_eq
 simpa using this
abbrev Srt {α:Type} (lt:α→α→Bool) (l:List α):Prop:=l.Pairwise fun a b=>lt b a=false
theorem Qsy {α:Type} {lt:α→α→Bool} (ht:∀ a b c,lt b a=false→lt c b=false→lt c a=false) (ha:∀ a b,lt a b=true→lt b a=false) (x:α):∀ (r B:List α),Srt lt (r.reverse++B)→(∀ b ∈ B,lt x b=true)→Srt lt (Qk4 lt x r B)
 | [],B,h,hb=>List.pairwise_cons.2 ⟨fun b hb'=>ha _ _ (hb b hb'),by simpa using h⟩
 | a::r,B,h,hb=>by
   rw [List.reverse_cons,List.append_assoc] at h
   unfold Qk4
   split
   · rename_i hx
     refine Qsy ht ha x r (a::B) h fun b hb'=>?_
     rcases List.mem_cons.1 hb' with rfl | hb'
     · exact hx
     · exact hb b hb'
   · rename_i hx
     have hx:lt x a=false:=by simpa using hx
     obtain ⟨h1,h2,h3⟩:=List.pairwise_append.1 (show Srt lt (r.reverse++a::B) from h)
     have h2:=List.pairwise_cons.1 h2
     refine List.pairwise_append.2 ⟨h1,?_,fun p hp q hq=>?_⟩
     · refine List.pairwise_cons.2 ⟨fun q hq=>?_,List.pairwise_cons.2 ⟨fun b hb'=>ha _ _ (hb b hb'),h2.2⟩⟩
       rcases List.mem_cons.1 hq with rfl | hq
       · exact hx
       · exact h2.1 q hq
     · have h4:=h3 p hp a (by simp)
       rcases List.mem_cons.1 hq with rfl | hq
       · exact h4
       · rcases List.mem_cons.1 hq with rfl | hq
         · exact ht _ _ _ h4 hx
         · exact h3 p hp q (by simp [hq])
theorem Qqn {α:Type} {lt:α→α→Bool} (ht:∀ a b c,lt b a=false→lt c b=false→lt c a=false) (ha:∀ a b,lt a b=true→lt b a=false):∀ (r S:List α),Srt lt S→Srt lt (Qd0 lt S r)∧(Qd0 lt S r).Perm (S++r)
 | [],S,h=>⟨h,by simp [Qd0]⟩
 | x::r,S,h=>by
   obtain ⟨h1,h2⟩:=Qqn ht ha r (Qk4 lt x S.reverse []) (Qsy ht ha x _ _ (by simpa using h) (by simp))
   refine ⟨h1,h2.trans ?_⟩
   have:=Qdy lt x S.reverse []
   rw [List.reverse_reverse] at this
   refine (this.append_right r).trans ?_
   rw [List.append_assoc];exact .refl _
theorem Qbf {α:Type} (lt:α→α→Bool):∀ (r S:List α),(Qd0 lt S r).Perm (S++r)
 | [],S=>by simp [Qd0]
 | x::r,S=>by
   refine (Qbf lt r _).trans ?_
   have:=Qdy lt x S.reverse []
   rw [List.reverse_reverse] at this
   refine (this.append_right r).trans ?_
   rw [List.append_assoc];exact .refl _
end Go.Idl
namespace Go.Idl
open Go
abbrev vI (x:Int):IV:=I x
abbrev vE (x:Int×Int):IV:=.agg [I x.1,I x.2]
theorem Qar {α:Type} {A Z:List α} {a x:α}:(A++a::x::Z)[A.length+1]? = some x:=by
 rw [List.getElem?_append_right (by omega)];simp
theorem Qaq {α:Type} {A Z:List α} {a:α}:(A++a::Z)[A.length]? = some a:=by
 rw [List.getElem?_append_right (by omega)];simp
theorem Qa0 {α:Type} {A Z:List α} {a x:α}:((A++a::x::Z).set (A.length+1) a).set A.length x=A++x::a::Z:=by
 rw [List.set_append_right _ _ (by omega),List.set_append_right _ _ (by omega)]
 simp
def Qlm {α:Type} (v:α→IV) (F:Lab) (caps:List IV) (lt:α→α→Bool) (D:α→Prop) (M:List Qac):Prop :=
 ∀ x y,D x→D y→∃ k:Int,decide (k < 0)=lt x y∧Ev tb F [] (v x::v y::caps) (M++[[]]) ⟨I k,[],M++[[]],[]⟩
theorem icli (F:Lab) (caps:List IV) (lt:Int→Int→Bool) (D:Int→Prop) (M:List Qac) (hc:Qlm vI F caps lt D M) (P:List Int) (n i:Int) (x:Int) (rest:List Int):∀ (k:Nat) (A B:List Int),A.length=k→P.length+k+B.length+rest.length≤1000000→D x→(∀ a ∈ A,D a) →
 wp tb (.loop Jg8) { T:=[(0,O ((P++A)++x::(B++rest))),(1,I P.length),(2,I n),(3,.fn F caps),(8,I i),(9,I (P.length+k:Nat))],loc:=[],M:=M }
  (fun ex st=>ex=.exit 2∧∃ k':Int,st={ T:=[(0,O (P++(Qk4 lt x A.reverse B++rest))),(1,I P.length),(2,I n),(3,.fn F caps),(8,I i),(9,I k'),(34,Bo false)],loc:=[],M:=M }):=by
 intro k
 induction k with
 | zero =>
   intro A B hA hl hx hD
   have:A=[]:=List.length_eq_zero_iff.1 hA
   subst this
   refine wW ?_
   repeat (first|apply wA|apply wS|refine wr (by simp;with_reducible rfl) ?_|refine wq (by simp;with_reducible rfl) ?_|refine wt (by simpa) ?_|refine wf (by simpa) ?_|refine xt (by simpa) ?_|refine xf (by simpa) ?_|apply wB|apply Qab|refine wX ?_|refine wY ?_|refine wR ?_|refine wK ?_|refine wE ?_)
   exact ⟨rfl,_,by simp [Qk4];rfl⟩
 | succ k ih =>
   intro A B hA hl hx hD
   obtain ⟨A',a,rfl⟩:∃ A' a,A=A'++[a]:=⟨A.dropLast,A.getLast (by intro h;subst h;simp at hA),(List.dropLast_concat_getLast _).symm⟩
   have hA':A'.length=k:=by simpa using hA
   subst hA'
   obtain ⟨c,hc1,hc2⟩:=hc x a hx (hD a (by simp))
   have e1:=Qaa hc2
   have hPl:(P++A').length=P.length+A'.length:=by simp
   obtain ⟨Q,hQ⟩:∃ Q,Q=P++A':=⟨_,rfl⟩
   have hQl:P.length+A'.length=Q.length:=by rw [hQ];simp
   have hre:P++(A'++[a])++x::(B++rest)=Q++a::x::(B++rest):=by rw [hQ];simp
   rw [hre]
   have hk:((P.length+(A'.length+1):Nat):Int)=(Q.length:Int)+1:=by omega
   rw [hk]
   have w1:IntKind.i64.wrap (Q.length:Int)=(Q.length:Int):=Qad (by omega) (by omega)
   have w2:(P.length:Int) < (Q.length:Int)+1:=by omega
   by_cases hx0:c < 0
   · have hlt:lt x a=true:=by rw [← hc1];exact decide_eq_true hx0
     have:=ih A' (a::B) rfl (by simp;omega) hx (fun b hb=>hD b (by simp [hb]))
     rw [show P++A'++x::(a::B++rest)=Q++x::(a::(B++rest)) by rw [hQ];simp,hQl] at this
     refine wW ?_
     repeat (first|apply wA|apply wS|refine wr (by simp [e1,hx0,w1,w2,Qaq,Qar,Qa0];with_reducible rfl) ?_|refine wq (by simp [e1,hx0,w1,w2,Qaq,Qar,Qa0];with_reducible rfl) ?_|refine wt (by simpa [e1,hx0,w1,w2,Qaq,Qar,Qa0]) ?_|refine wf (by simpa [e1,hx0,w1,w2,Qaq,Qar,Qa0]) ?_|refine xt (by simpa [e1,hx0,w1,w2,Qaq,Qar,Qa0]) ?_|refine xf (by simpa [e1,hx0,w1,w2,Qaq,Qar,Qa0]) ?_|apply wB|apply Qab|refine wX ?_|refine wY ?_|refine wR ?_|refine wK ?_|refine wE ?_)
     simp only [List.reverse_append,List.reverse_cons,List.reverse_nil,List.nil_append,List.cons_append]
     simp only [Qk4,hlt,if_true]
     exact this
   · have hlt:lt x a=false:=by rw [← hc1];exact decide_eq_false hx0
     refine wW ?_
     repeat (first|apply wA|apply wS|refine wr (by simp [e1,hx0,w1,w2,Qaq,Qar,Qa0];with_reducible rfl) ?_|refine wq (by simp [e1,hx0,w1,w2,Qaq,Qar,Qa0];with_reducible rfl) ?_|refine wt (by simpa [e1,hx0,w1,w2,Qaq,Qar,Qa0]) ?_|refine wf (by simpa [e1,hx0,w1,w2,Qaq,Qar,Qa0]) ?_|refine xt (by simpa [e1,hx0,w1,w2,Qaq,Qar,Qa0]) ?_|refine xf (by simpa [e1,hx0,w1,w2,Qaq,Qar,Qa0]) ?_|apply wB|apply Qab|refine wX ?_|refine wY ?_|refine wR ?_|refine wK ?_|refine wE ?_)
     refine ⟨rfl,(Q.length:Int)+1,?_⟩
     simp only [List.reverse_append,List.reverse_cons,List.reverse_nil,List.nil_append,List.cons_append]
     simp only [Qk4,hlt,Bool.false_eq_true,if_false,List.reverse_reverse]
     rw [hQ]
     simp
theorem isoi (F:Lab) (caps:List IV) (lt:Int→Int→Bool) (D:Int→Prop) (M:List Qac) (hc:Qlm vI F caps lt D M) (P Q:List Int) (n:Int):∀ (r S:List Int),n=(P.length+S.length+r.length:Nat)→P.length+S.length+r.length+Q.length≤900000→(∀ x ∈ S,D x)→(∀ x ∈ r,D x) →
 wp tb (.loop Jhd) { T:=[(0,O (P++(S++(r++Q)))),(1,I P.length),(2,I n),(3,.fn F caps),(8,I (P.length+S.length:Nat))],loc:=[],M:=M }
  (fun ex st=>ex=.exit 0∧∃ k':Int,st={ T:=[(0,O (P++(Qd0 lt S r++Q))),(1,I P.length),(2,I n),(3,.fn F caps),(8,I k'),(14,Bo false)],loc:=[],M:=M }):=by
 intro r
 induction r with
 | nil =>
   intro S hn hl hS hr
   have h1:¬ ((P.length:Int)+(S.length:Int)) < n:=by simp at hn;omega
   refine wW ?_
   repeat (first|apply wA|apply wS|refine wr (by simp [h1];with_reducible rfl) ?_|refine wq (by simp [h1];with_reducible rfl) ?_|refine wt (by simpa [h1]) ?_|refine wf (by simpa [h1]) ?_|refine xt (by simpa [h1]) ?_|refine xf (by simpa [h1]) ?_|apply wB|apply Qab|refine wX ?_|refine wY ?_|refine wR ?_|refine wK ?_|refine wE ?_)
   exact ⟨rfl,_,by simp [Qd0];rfl⟩
 | cons x r ih =>
   intro S hn hl hS hr
   simp only [List.length_cons] at hn hl
   have h1:(P.length:Int)+(S.length:Int) < n:=by omega
   have w1:IntKind.i64.wrap ((P.length:Int)+(S.length:Int)+1)=(P.length:Int)+(S.length:Int)+1:=by rw [Qad (by omega) (by omega)]
   have hin:=icli F caps lt D M hc P n ((P.length:Int)+S.length) x (r++Q) S.length S [] rfl (by simp;omega) (hr x (by simp)) hS
   rw [show P++S++x::([]++(r++Q))=P++(S++(x::r++Q)) by simp,show ((P.length+S.length:Nat):Int)=(P.length:Int)+S.length by omega] at hin
   have hn2:=ih (Qk4 lt x S.reverse []) (by rw [Qfr];omega) (by rw [Qfr];omega) (fun y hy=>by
    have:=(Qdy lt x S.reverse []).mem_iff.1 hy
    simp only [List.reverse_reverse,List.mem_append,List.mem_cons,List.not_mem_nil,or_false] at this
    rcases this with h | rfl
    · exact hS y h
    · exact hr y (by simp)) (fun y hy=>hr y (by simp [hy]))
   rw [Qfr,show ((P.length+(S.length+1):Nat):Int)=(P.length:Int)+S.length+1 by omega] at hn2
   rw [show ((P.length+S.length:Nat):Int)=(P.length:Int)+S.length by omega]
   refine wW ?_
   repeat (first|apply wA|apply wS|refine wr (by simp [h1,w1];with_reducible rfl) ?_|refine wq (by simp [h1,w1];with_reducible rfl) ?_|refine wt (by simpa [h1,w1]) ?_|refine wf (by simpa [h1,w1]) ?_|refine xt (by simpa [h1,w1]) ?_|refine xf (by simpa [h1,w1]) ?_|apply wB|apply Qab|refine wX ?_|refine wY ?_|refine wR ?_|refine wK ?_|refine wE ?_)
   refine Qaf hin ?_
   rintro ex st ⟨rfl,k',rfl⟩
   simp only [if_true]
   repeat (first|apply wA|apply wS|refine wr (by simp [h1,w1];with_reducible rfl) ?_|refine wq (by simp [h1,w1];with_reducible rfl) ?_|refine wt (by simpa [h1,w1]) ?_|refine wf (by simpa [h1,w1]) ?_|refine xt (by simpa [h1,w1]) ?_|refine xf (by simpa [h1,w1]) ?_|apply wB|apply Qab|refine wX ?_|refine wY ?_|refine wR ?_|refine wK ?_|refine wE ?_)
   exact hn2
theorem Jc0 (F:Lab) (caps:List IV) (lt:Int→Int→Bool) (D:Int→Prop) (M:List Qac) (hc:Qlm vI F caps lt D M) (P Q seg:List Int) (hl:P.length+seg.length+Q.length≤800000) (hD:∀ x ∈ seg,D x) :
 Ev tb Qu4 [0] [O (P++(seg++Q)),I P.length,I (P.length+seg.length:Nat),.fn F caps] M ⟨.tup [],[O (P++(Qd0 lt [] seg++Q))],M,[]⟩:=by
 have w1:IntKind.i64.wrap ((P.length:Int)+1)=(P.length:Int)+1:=by rw [Qad (by omega) (by omega)]
 cases seg with
 | nil =>
   have h1:¬ (P.length:Int)+1 < ((P.length+([]:List Int).length:Nat):Int):=by simp;omega
   simp only [List.length_nil,Nat.add_zero] at h1 ⊢
   refine cW Jpg rfl ?_
   repeat (first|apply wA|apply wS|refine wr (by simp [w1];with_reducible rfl) ?_|refine wq (by simp [w1];with_reducible rfl) ?_|refine wt (by simpa [w1]) ?_|refine wf (by simpa [w1]) ?_|refine xt (by simpa [w1]) ?_|refine xf (by simpa [w1]) ?_|apply wB|apply Qab|refine wX ?_|refine wY ?_|refine wR ?_|refine wK ?_|refine wE ?_)
   refine wW ?_
   repeat (first|apply wA|apply wS|refine wr (by simp [h1];with_reducible rfl) ?_|refine wq (by simp [h1];with_reducible rfl) ?_|refine wt (by simpa [h1]) ?_|refine wf (by simpa [h1]) ?_|refine xt (by simpa [h1]) ?_|refine xf (by simpa [h1]) ?_|apply wB|apply Qab|refine wX ?_|refine wY ?_|refine wR ?_|refine wK ?_|refine wE ?_)
   simp [Qv6,Qd0]
 | cons x r =>
   have:=isoi F caps lt D M hc P Q (P.length+(x::r).length:Nat) r [x] (by simp;omega) (by simp at hl ⊢;omega) (fun y hy=>by simp at hy;subst hy;exact hD _ (by simp)) (fun y hy=>hD y (by simp [hy]))
   rw [show P++([x]++(r++Q))=P++(x::r++Q) by simp,show ((P.length+[x].length:Nat):Int)=(P.length:Int)+1 by simp] at this
   have hs:Qd0 lt [x] r=Qd0 lt [] (x::r):=by simp [Qd0,Qk4]
   rw [hs] at this
   generalize ((P.length+(x::r).length:Nat):Int)=n at *
   refine cW Jpg rfl ?_
   repeat (first|apply wA|apply wS|refine wr (by simp [w1];with_reducible rfl) ?_|refine wq (by simp [w1];with_reducible rfl) ?_|refine wt (by simpa [w1]) ?_|refine wf (by simpa [w1]) ?_|refine xt (by simpa [w1]) ?_|refine xf (by simpa [w1]) ?_|apply wB|apply Qab|refine wX ?_|refine wY ?_|refine wR ?_|refine wK ?_|refine wE ?_)
   refine Qaf this ?_
   rintro ex st ⟨rfl,k',rfl⟩
   simp [Qv6]
theorem icle (F:Lab) (caps:List IV) (lt:(Int×Int)→(Int×Int)→Bool) (D:(Int×Int)→Prop) (M:List Qac) (hc:Qlm vE F caps lt D M) (P:List (Int×Int)) (n i:Int) (x:(Int×Int)) (rest:List (Int×Int)):∀ (k:Nat) (A B:List (Int×Int)),A.length=k→P.length+k+B.length+rest.length≤1000000→D x→(∀ a ∈ A,D a) →
 wp tb (.loop Jf0) { T:=[(0,O2 ((P++A)++x::(B++rest))),(1,I P.length),(2,I n),(3,.fn F caps),(8,I i),(9,I (P.length+k:Nat))],loc:=[],M:=M }
  (fun ex st=>ex=.exit 2∧∃ k':Int,st={ T:=[(0,O2 (P++(Qk4 lt x A.reverse B++rest))),(1,I P.length),(2,I n),(3,.fn F caps),(8,I i),(9,I k'),(34,Bo false)],loc:=[],M:=M }):=by
 intro k
 induction k with
 | zero =>
   intro A B hA hl hx hD
   have:A=[]:=List.length_eq_zero_iff.1 hA
   subst this
   refine wW ?_
   repeat (first|apply wA|apply wS|refine wr (by simp;with_reducible rfl) ?_|refine wq (by simp;with_reducible rfl) ?_|refine wt (by simpa) ?_|refine wf (by simpa) ?_|refine xt (by simpa) ?_|refine xf (by simpa) ?_|apply wB|apply Qab|refine wX ?_|refine wY ?_|refine wR ?_|refine wK ?_|refine wE ?_)
   exact ⟨rfl,_,by simp [Qk4];rfl⟩
 | succ k ih =>
   intro A B hA hl hx hD
   obtain ⟨A',a,rfl⟩:∃ A' a,A=A'++[a]:=⟨A.dropLast,A.getLast (by intro h;subst h;simp at hA),(List.dropLast_concat_getLast _).symm⟩
   have hA':A'.length=k:=by simpa using hA
   subst hA'
   obtain ⟨c,hc1,hc2⟩:=hc x a hx (hD a (by simp))
   have e1:=Qaa hc2
   have hPl:(P++A').length=P.length+A'.length:=by simp
   obtain ⟨Q,hQ⟩:∃ Q,Q=P++A':=⟨_,rfl⟩
   have hQl:P.length+A'.length=Q.length:=by rw [hQ];simp
   have hre:P++(A'++[a])++x::(B++rest)=Q++a::x::(B++rest):=by rw [hQ];simp
   rw [hre]
   have hk:((P.length+(A'.length+1):Nat):Int)=(Q.length:Int)+1:=by omega
   rw [hk]
   have w1:IntKind.i64.wrap (Q.length:Int)=(Q.length:Int):=Qad (by omega) (by omega)
   have w2:(P.length:Int) < (Q.length:Int)+1:=by omega
   by_cases hx0:c < 0
   · have hlt:lt x a=true:=by rw [← hc1];exact decide_eq_true hx0
     have:=ih A' (a::B) rfl (by simp;omega) hx (fun b hb=>hD b (by simp [hb]))
     rw [show P++A'++x::(a::B++rest)=Q++x::(a::(B++rest)) by rw [hQ];simp,hQl] at this
     refine wW ?_
     repeat (first|apply wA|apply wS|refine wr (by simp [e1,hx0,w1,w2,Qaq,Qar,Qa0];with_reducible rfl) ?_|refine wq (by simp [e1,hx0,w1,w2,Qaq,Qar,Qa0];with_reducible rfl) ?_|refine wt (by simpa [e1,hx0,w1,w2,Qaq,Qar,Qa0]) ?_|refine wf (by simpa [e1,hx0,w1,w2,Qaq,Qar,Qa0]) ?_|refine xt (by simpa [e1,hx0,w1,w2,Qaq,Qar,Qa0]) ?_|refine xf (by simpa [e1,hx0,w1,w2,Qaq,Qar,Qa0]) ?_|apply wB|apply Qab|refine wX ?_|refine wY ?_|refine wR ?_|refine wK ?_|refine wE ?_)
     simp only [List.reverse_append,List.reverse_cons,List.reverse_nil,List.nil_append,List.cons_append]
     simp only [Qk4,hlt,if_true]
     exact this
   · have hlt:lt x a=false:=by rw [← hc1];exact decide_eq_false hx0
     refine wW ?_
     repeat (first|apply wA|apply wS|refine wr (by simp [e1,hx0,w1,w2,Qaq,Qar,Qa0];with_reducible rfl) ?_|refine wq (by simp [e1,hx0,w1,w2,Qaq,Qar,Qa0];with_reducible rfl) ?_|refine wt (by simpa [e1,hx0,w1,w2,Qaq,Qar,Qa0]) ?_|refine wf (by simpa [e1,hx0,w1,w2,Qaq,Qar,Qa0]) ?_|refine xt (by simpa [e1,hx0,w1,w2,Qaq,Qar,Qa0]) ?_|refine xf (by simpa [e1,hx0,w1,w2,Qaq,Qar,Qa0]) ?_|apply wB|apply Qab|refine wX ?_|refine wY ?_|refine wR ?_|refine wK ?_|refine wE ?_)
     refine ⟨rfl,(Q.length:Int)+1,?_⟩
     simp only [List.reverse_append,List.reverse_cons,List.reverse_nil,List.nil_append,List.cons_append]
     simp only [Qk4,hlt,Bool.false_eq_true,if_false,List.reverse_reverse]
     rw [hQ]
     simp
theorem isoe (F:Lab) (caps:List IV) (lt:(Int×Int)→(Int×Int)→Bool) (D:(Int×Int)→Prop) (M:List Qac) (hc:Qlm vE F caps lt D M) (P Q:List (Int×Int)) (n:Int):∀ (r S:List (Int×Int)),n=(P.length+S.length+r.length:Nat)→P.length+S.length+r.length+Q.length≤900000→(∀ x ∈ S,D x)→(∀ x ∈ r,D x) →
 wp tb (.loop Jgo) { T:=[(0,O2 (P++(S++(r++Q)))),(1,I P.length),(2,I n),(3,.fn F caps),(8,I (P.length+S.length:Nat))],loc:=[],M:=M }
  (fun ex st=>ex=.exit 0∧∃ k':Int,st={ T:=[(0,O2 (P++(Qd0 lt S r++Q))),(1,I P.length),(2,I n),(3,.fn F caps),(8,I k'),(14,Bo false)],loc:=[],M:=M }):=by
 intro r
 induction r with
 | nil =>
   intro S hn hl hS hr
   have h1:¬ ((P.length:Int)+(S.length:Int)) < n:=by simp at hn;omega
   refine wW ?_
   repeat (first|apply wA|apply wS|refine wr (by simp [h1];with_reducible rfl) ?_|refine wq (by simp [h1];with_reducible rfl) ?_|refine wt (by simpa [h1]) ?_|refine wf (by simpa [h1]) ?_|refine xt (by simpa [h1]) ?_|refine xf (by simpa [h1]) ?_|apply wB|apply Qab|refine wX ?_|refine wY ?_|refine wR ?_|refine wK ?_|refine wE ?_)
   exact ⟨rfl,_,by simp [Qd0];rfl⟩
 | cons x r ih =>
   intro S hn hl hS hr
   simp only [List.length_cons] at hn hl
   have h1:(P.length:Int)+(S.length:Int) < n:=by omega
   have w1:IntKind.i64.wrap ((P.length:Int)+(S.length:Int)+1)=(P.length:Int)+(S.length:Int)+1:=by rw [Qad (by omega) (by omega)]
   have hin:=icle F caps lt D M hc P n ((P.length:Int)+S.length) x (r++Q) S.length S [] rfl (by simp;omega) (hr x (by simp)) hS
   rw [show P++S++x::([]++(r++Q))=P++(S++(x::r++Q)) by simp,show ((P.length+S.length:Nat):Int)=(P.length:Int)+S.length by omega] at hin
   have hn2:=ih (Qk4 lt x S.reverse []) (by rw [Qfr];omega) (by rw [Qfr];omega) (fun y hy=>by
    have:=(Qdy lt x S.reverse []).mem_iff.1 hy
    simp only [List.reverse_reverse,List.mem_append,List.mem_cons,List.not_mem_nil,or_false] at this
    rcases this with h | rfl
    · exact hS y h
    · exact hr y (by simp)) (fun y hy=>hr y (by simp [hy]))
   rw [Qfr,show ((P.length+(S.length+1):Nat):Int)=(P.length:Int)+S.length+1 by omega] at hn2
   rw [show ((P.length+S.length:Nat):Int)=(P.length:Int)+S.length by omega]
   refine wW ?_
   repeat (first|apply wA|apply wS|refine wr (by simp [h1,w1];with_reducible rfl) ?_|refine wq (by simp [h1,w1];with_reducible rfl) ?_|refine wt (by simpa [h1,w1]) ?_|refine wf (by simpa [h1,w1]) ?_|refine xt (by simpa [h1,w1]) ?_|refine xf (by simpa [h1,w1]) ?_|apply wB|apply Qab|refine wX ?_|refine wY ?_|refine wR ?_|refine wK ?_|refine wE ?_)
   refine Qaf hin ?_
   rintro ex st ⟨rfl,k',rfl⟩
   simp only [if_true]
   repeat (first|apply wA|apply wS|refine wr (by simp [h1,w1];with_reducible rfl) ?_|refine wq (by simp [h1,w1];with_reducible rfl) ?_|refine wt (by simpa [h1,w1]) ?_|refine wf (by simpa [h1,w1]) ?_|refine xt (by simpa [h1,w1]) ?_|refine xf (by simpa [h1,w1]) ?_|apply wB|apply Qab|refine wX ?_|refine wY ?_|refine wR ?_|refine wK ?_|refine wE ?_)
   exact hn2
theorem Jff (F:Lab) (caps:List IV) (lt:(Int×Int)→(Int×Int)→Bool) (D:(Int×Int)→Prop) (M:List Qac) (hc:Qlm vE F caps lt D M) (P Q seg:List (Int×Int)) (hl:P.length+seg.length+Q.length≤800000) (hD:∀ x ∈ seg,D x) :
 Ev tb Qtw [0] [O2 (P++(seg++Q)),I P.length,I (P.length+seg.length:Nat),.fn F caps] M ⟨.tup [],[O2 (P++(Qd0 lt [] seg++Q))],M,[]⟩:=by
 have w1:IntKind.i64.wrap ((P.length:Int)+1)=(P.length:Int)+1:=by rw [Qad (by omega) (by omega)]
 cases seg with
 | nil =>
   have h1:¬ (P.length:Int)+1 < ((P.length+([]:List (Int×Int)).length:Nat):Int):=by simp;omega
   simp only [List.length_nil,Nat.add_zero] at h1 ⊢
   refine cW Jrh rfl ?_
   repeat (first|apply wA|apply wS|refine wr (by simp [w1];with_reducible rfl) ?_|refine wq (by simp [w1];with_reducible rfl) ?_|refine wt (by simpa [w1]) ?_|refine wf (by simpa [w1]) ?_|refine xt (by simpa [w1]) ?_|refine xf (by simpa [w1]) ?_|apply wB|apply Qab|refine wX ?_|refine wY ?_|refine wR ?_|refine wK ?_|refine wE ?_)
   refine wW ?_
   repeat (first|apply wA|apply wS|refine wr (by simp [h1];with_reducible rfl) ?_|refine wq (by simp [h1];with_reducible rfl) ?_|refine wt (by simpa [h1]) ?_|refine wf (by simpa [h1]) ?_|refine xt (by simpa [h1]) ?_|refine xf (by simpa [h1]) ?_|apply wB|apply Qab|refine wX ?_|refine wY ?_|refine wR ?_|refine wK ?_|refine wE ?_)
   simp [Qv7,Qd0]
 | cons x r =>
   have:=isoe F caps lt D M hc P Q (P.length+(x::r).length:Nat) r [x] (by simp;omega) (by simp at hl ⊢;omega) (fun y hy=>by simp at hy;subst hy;exact hD _ (by simp)) (fun y hy=>hD y (by simp [hy]))
   rw [show P++([x]++(r++Q))=P++(x::r++Q) by simp,show ((P.length+[x].length:Nat):Int)=(P.length:Int)+1 by simp] at this
   have hs:Qd0 lt [x] r=Qd0 lt [] (x::r):=by simp [Qd0,Qk4]
   rw [hs] at this
   generalize ((P.length+(x::r).length:Nat):Int)=n at *
   refine cW Jrh rfl ?_
   repeat (first|apply wA|apply wS|refine wr (by simp [w1];with_reducible rfl) ?_|refine wq (by simp [w1];with_reducible rfl) ?_|refine wt (by simpa [w1]) ?_|refine wf (by simpa [w1]) ?_|refine xt (by simpa [w1]) ?_|refine xf (by simpa [w1]) ?_|apply wB|apply Qab|refine wX ?_|refine wY ?_|refine wR ?_|refine wK ?_|refine wE ?_)
   refine Qaf this ?_
   rintro ex st ⟨rfl,k',rfl⟩
   simp [Qv7]
end Go.Idl
namespace Go.Idl
open Go
theorem Qyi (F:Lab) (caps:List IV) (lt:Int→Int→Bool) (D:Int→Prop) (M:List Qac) (hc:Qlm vI F caps lt D (M++[[]])) (xs:List Int) (hl:xs.length≤19) (hD:∀ x ∈ xs,D x) :
 Ev tb Qw5 [0] [O xs,I xs.length,.fn F caps] M ⟨.tup [],[O (Qd0 lt [] xs)],M,[]⟩:=by
 have e1:=Qaa (Jc0 F caps lt D (M++[[]]) hc [] [] xs (by simp;omega) hD)
 simp only [List.nil_append,List.append_nil,List.length_nil,Nat.zero_add] at e1
 rw [show ((0:Nat):Int)=0 from rfl] at e1
 have h1:¬ (20:Int)≤xs.length:=by omega
 have h2:¬ (20:Int) < xs.length:=by omega
 have h3:¬ 20≤xs.length:=by omega
 have h4:¬ 20 < xs.length:=by omega
 refine cW zt289 rfl ?_
 repeat (first|apply wA|apply wS|refine wr (by simp;with_reducible rfl) ?_|refine wq (by simp;with_reducible rfl) ?_|refine wt (by simpa) ?_|refine wf (by simpa) ?_|refine xt (by simpa) ?_|refine xf (by simpa) ?_|apply wB|apply Qab|refine wX ?_|refine wY ?_|refine wR ?_|refine wK ?_|refine wE ?_)
 refine wW ?_
 repeat (first|apply wA|apply wS|refine wr (by simp [h1,h2,h3,h4,e1];with_reducible rfl) ?_|refine wq (by simp [h1,h2,h3,h4,e1];with_reducible rfl) ?_|refine wt (by simpa [h1,h2,h3,h4,e1]) ?_|refine wf (by simpa [h1,h2,h3,h4,e1]) ?_|refine xt (by simpa [h1,h2,h3,h4,e1]) ?_|refine xf (by simpa [h1,h2,h3,h4,e1]) ?_|apply wB|apply Qab|refine wX ?_|refine wY ?_|refine wR ?_|refine wK ?_|refine wE ?_)
 refine wW ?_
 repeat (first|apply wA|apply wS|refine wr (by simp [h1,h2,h3,h4,e1];with_reducible rfl) ?_|refine wq (by simp [h1,h2,h3,h4,e1];with_reducible rfl) ?_|refine wt (by simpa [h1,h2,h3,h4,e1]) ?_|refine wf (by simpa [h1,h2,h3,h4,e1]) ?_|refine xt (by simpa [h1,h2,h3,h4,e1]) ?_|refine xf (by simpa [h1,h2,h3,h4,e1]) ?_|apply wB|apply Qab|refine wX ?_|refine wY ?_|refine wR ?_|refine wK ?_|refine wE ?_)
 simp [Jb6]
theorem Qmt (F:Lab) (caps:List IV) (lt:Int→Int→Bool) (D:Int→Prop) (M:List Qac) (hc:Qlm vI F caps lt D (M++[[],[]])) (xs:List Int) (hl:xs.length≤19) (hD:∀ x ∈ xs,D x) :
 Ev tb Qwd [0] [O xs,.fn F caps] M ⟨.tup [],[O (Qd0 lt [] xs)],M,[]⟩:=by
 have e1:=Qaa (Qyi F caps lt D (M++[[]]) (by rw [List.append_assoc];exact hc) xs hl hD)
 refine cW zt273 rfl ?_
 repeat (first|apply wA|apply wS|refine wr (by simp [e1];with_reducible rfl) ?_|refine wq (by simp [e1];with_reducible rfl) ?_|refine wt (by simpa [e1]) ?_|refine wf (by simpa [e1]) ?_|refine xt (by simpa [e1]) ?_|refine xf (by simpa [e1]) ?_|apply wB|apply Qab|refine wX ?_|refine wY ?_|refine wR ?_|refine wK ?_|refine wE ?_)
 simp [Jea]
def Qc2 (n:Nat) (but:Int):List Int:=((List.range n).map fun v:Nat=>(v:Int)).filter fun v=>decide (v ≠ but)
def nlI:List Int→IV
 | []=>Z
 | x::r=>O (x::r)
theorem Qf3 (n:Nat) (but:Int) (hn:n≤1000):Ev tb Qp2 [] [I n,I but] [] ⟨nlI (Qc2 n but),[],[],[]⟩:=by
 have loop:∀ (m i:Nat),i+m=n→wp tb (.loop Jfz) { T:=[(1,I but),(5,nlI (Qc2 i but)),(7,I n),(8,I i)],loc:=[],M:=[] }
  (fun ex st=>ex=.exit 0∧st={ T:=[(1,I but),(5,nlI (Qc2 n but)),(7,I n),(8,I n),(9,Bo false)],loc:=[],M:=[] }):=by
  intro m
  induction m with
  | zero =>
    intro i hi
    have h3:i=n:=hi
    subst h3
    cases Qc2 i but with
    | nil =>
      simp only [nlI]
      refine wW ?_
      repeat (first|apply wA|apply wS|refine wr (by simp;with_reducible rfl) ?_|refine wq (by simp;with_reducible rfl) ?_|refine wt (by simpa) ?_|refine wf (by simpa) ?_|refine xt (by simpa) ?_|refine xf (by simpa) ?_|apply wB|apply Qab|refine wX ?_|refine wY ?_|refine wR ?_|refine wK ?_|refine wE ?_)
      exact ⟨rfl,rfl⟩
    | cons x r =>
      simp only [nlI]
      refine wW ?_
      repeat (first|apply wA|apply wS|refine wr (by simp;with_reducible rfl) ?_|refine wq (by simp;with_reducible rfl) ?_|refine wt (by simpa) ?_|refine wf (by simpa) ?_|refine xt (by simpa) ?_|refine xf (by simpa) ?_|apply wB|apply Qab|refine wX ?_|refine wY ?_|refine wR ?_|refine wK ?_|refine wE ?_)
      exact ⟨rfl,rfl⟩
  | succ m ih =>
    intro i hi
    have hi2:i < n:=by omega
    have w2:IntKind.i64.wrap ((i:Int)+1)=((i+1:Nat):Int):=Qa8 (by omega)
    have hn2:=ih (i+1) (by omega)
    have hs:Qc2 (i+1) but=Qc2 i but++if (i:Int)=but then [] else [(i:Int)]:=by
     simp only [Qc2,List.range_succ,List.map_append,List.map_cons,List.map_nil,List.filter_append,List.filter_cons,List.filter_nil]
     congr 1
     by_cases h:(i:Int)=but <;> simp [h]
    rw [hs] at hn2
    have hal:(Qc2 i but).length≤i:=Nat.le_trans (List.length_filter_le _ _) (by simp)
    generalize Qc2 i but=A at *
    by_cases hb:but=(i:Int)
    · subst hb
      rw [if_pos rfl,List.append_nil] at hn2
      cases A with
      | nil =>
        rw [show nlI []=Z from rfl] at hn2 ⊢
        refine wW ?_
        repeat (first|apply wA|apply wS|refine wr (by simp [hi2,w2];with_reducible rfl) ?_|refine wq (by simp [hi2,w2];with_reducible rfl) ?_|refine wt (by simpa [hi2,w2]) ?_|refine wf (by simpa [hi2,w2]) ?_|refine xt (by simpa [hi2,w2]) ?_|refine xf (by simpa [hi2,w2]) ?_|apply wB|apply Qab|refine wX ?_|refine wY ?_|refine wR ?_|refine wK ?_|refine wE ?_)
        exact hn2
      | cons x r =>
        rw [show nlI (x::r)=O (x::r) from rfl] at hn2 ⊢
        refine wW ?_
        repeat (first|apply wA|apply wS|refine wr (by simp [hi2,w2];with_reducible rfl) ?_|refine wq (by simp [hi2,w2];with_reducible rfl) ?_|refine wt (by simpa [hi2,w2]) ?_|refine wf (by simpa [hi2,w2]) ?_|refine xt (by simpa [hi2,w2]) ?_|refine xf (by simpa [hi2,w2]) ?_|apply wB|apply Qab|refine wX ?_|refine wY ?_|refine wR ?_|refine wK ?_|refine wE ?_)
        exact hn2
    · have hb':¬ (i:Int)=but:=fun h=>hb h.symm
      rw [if_neg hb'] at hn2
      cases A with
      | nil =>
        rw [List.nil_append,show nlI [(i:Int)]=O [(i:Int)] from rfl] at hn2
        rw [show nlI []=Z from rfl]
        refine wW ?_
        repeat (first|apply wA|apply wS|refine wr (by simp [hi2,w2,hb'];with_reducible rfl) ?_|refine wq (by simp [hi2,w2,hb'];with_reducible rfl) ?_|refine wt (by simpa [hi2,w2,hb']) ?_|refine wf (by simpa [hi2,w2,hb']) ?_|refine xt (by simpa [hi2,w2,hb']) ?_|refine xf (by simpa [hi2,w2,hb']) ?_|apply wB|apply Qab|refine wX ?_|refine wY ?_|refine wR ?_|refine wK ?_|refine wE ?_)
        exact hn2
      | cons x r =>
        rw [show nlI (x::r++[(i:Int)])=O (x::r++[(i:Int)]) from rfl] at hn2
        rw [show nlI (x::r)=O (x::r) from rfl]
        have hal1:r.length+1+1≤274877906944:=by simp at hal;omega
        have hat:(x::r).take (r.length+1)=x::r:=List.take_of_length_le (by simp)
        refine wW ?_
        repeat (first|apply wA|apply wS|refine wr (by simp [hi2,w2,hb',hal1,hat];with_reducible rfl) ?_|refine wq (by simp [hi2,w2,hb',hal1,hat];with_reducible rfl) ?_|refine wt (by simpa [hi2,w2,hb',hal1,hat]) ?_|refine wf (by simpa [hi2,w2,hb',hal1,hat]) ?_|refine xt (by simpa [hi2,w2,hb',hal1,hat]) ?_|refine xf (by simpa [hi2,w2,hb',hal1,hat]) ?_|apply wB|apply Qab|refine wX ?_|refine wY ?_|refine wR ?_|refine wK ?_|refine wE ?_)
        exact hn2
 refine cW zt212 rfl ?_
 repeat (first|apply wA|apply wS|refine wr (by simp;with_reducible rfl) ?_|refine wq (by simp;with_reducible rfl) ?_|refine wt (by simpa) ?_|refine wf (by simpa) ?_|refine xt (by simpa) ?_|refine xf (by simpa) ?_|apply wB|apply Qab|refine wX ?_|refine wY ?_|refine wR ?_|refine wK ?_|refine wE ?_)
 refine Qaf (loop n 0 (by simp)) ?_
 rintro ex st ⟨rfl,rfl⟩
 try simp only [if_true]
 cases Qc2 n but with
 | nil =>
   simp only [nlI]
   repeat (first|apply wA|apply wS|refine wr (by simp;with_reducible rfl) ?_|refine wq (by simp;with_reducible rfl) ?_|refine wt (by simpa) ?_|refine wf (by simpa) ?_|refine xt (by simpa) ?_|refine xf (by simpa) ?_|apply wB|apply Qab|refine wX ?_|refine wY ?_|refine wR ?_|refine wK ?_|refine wE ?_)
   simp [Ja7]
 | cons x r =>
   simp only [nlI]
   repeat (first|apply wA|apply wS|refine wr (by simp;with_reducible rfl) ?_|refine wq (by simp;with_reducible rfl) ?_|refine wt (by simpa) ?_|refine wf (by simpa) ?_|refine xt (by simpa) ?_|refine xf (by simpa) ?_|apply wB|apply Qab|refine wX ?_|refine wY ?_|refine wR ?_|refine wK ?_|refine wE ?_)
   simp [Ja7]
end Go.Idl
namespace Go.Idl
open Go
@[simp] theorem get_mid {α:Type} (A bs:List α) (x:α):(A++x::bs)[A.length]? = some x:=by simp
@[simp] theorem Jjk {α:Type} (A bs:List α) (x y:α):(A++x::bs).set A.length y=A++y::bs:=by
  rw [List.set_append_right _ _ (Nat.le_refl _)];simp
@[simp] theorem set_last {α:Type} (A:List α) (x y:α):(A++[x]).set A.length y=A++[y]:=Jjk A [] x y
end Go.Idl
