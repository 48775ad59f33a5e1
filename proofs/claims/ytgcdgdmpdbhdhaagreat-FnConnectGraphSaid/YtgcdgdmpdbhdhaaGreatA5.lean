/- Part 5 of a proof by an ideal interpreter of the code: its definitions and lemmas. Conditions: none. -/
import Derived.KernelRfl
import Derived.Test.YtgcdgdmpdbhdhaaGreatA4
set_option linter.all false
set_option linter.unusedVariables false
set_option linter.unusedSimpArgs false
namespace Go.Idl
open Go
theorem Jnn (n lo hi:Int):Ev tb Jjy [] [I n,I lo,I hi] [] ⟨Bo (decide (lo≤n) && decide (n≤hi)),[],[],[]⟩:=by
 refine cW zt38 rfl ?_
 refine Qb4 (by simp;rfl) (by simp;rfl) ?_
 by_cases h:lo≤n
 · refine Qb4 (by simp [h];rfl) (by simp;rfl) ?_
   refine wR ?_
   simp [h,Jvc]
 · refine Qb4 (by simp [h];rfl) (by simp;rfl) ?_
   refine wR ?_
   simp [h,Jvc]
theorem Qtm (n lo hi:Int):Ev tb Quy [] [I n,I lo,I hi] [] ⟨Bo (decide (lo≤n) && decide (n≤hi)),[],[],[]⟩:=by
 refine cW zt132 rfl ?_
 refine Qb4 (by simp;rfl) (by simp;rfl) ?_
 by_cases h:lo≤n
 · refine Qb4 (by simp [h];rfl) (by simp;rfl) ?_
   refine wR ?_
   simp [h,Qy5]
 · refine Qb4 (by simp [h];rfl) (by simp;rfl) ?_
   refine wR ?_
   simp [h,Qy5]
def Qrd (xs:List Int):Prop:=xs.length≤1000000∧∀ k,-4611686018427387904≤(xs.take k).sum∧(xs.take k).sum≤4611686018427387904
theorem Qg5 {xs:List Int} {i:Nat} (h:i < xs.length):(xs.take i).sum+xs[i]=(xs.take (i+1)).sum:=by
 rw [List.take_succ_eq_append_getElem h,List.sum_append];simp
theorem Qvt (xs:List Int) (c:Bool) (hs:Qrd xs):Ev tb Jg9 [] [.lst 1 (Qb8 xs) c] [] ⟨I xs.sum,[],[],[]⟩:=by
 obtain ⟨hl,hs⟩:=hs
 have loop:∀ (m i:Nat),i+m=xs.length→wp tb (.loop Jkk) { T:=[(0,.lst 1 (Qb8 xs) c),(3,I (xs.take i).sum),(6,.lst 1 (Qb8 xs) c),(7,I xs.length),(8,I i)],loc:=[],M:=[] }
  (fun ex st=>ex=.exit 0∧st={ T:=[(0,.lst 1 (Qb8 xs) c),(3,I xs.sum),(6,.lst 1 (Qb8 xs) c),(7,I xs.length),(8,I xs.length),(9,Bo false)],loc:=[],M:=[] }):=by
  intro m
  induction m with
  | zero =>
    intro i hi
    have hi':i=xs.length:=by omega
    subst hi'
    apply wW
    refine Qb4 (by simp;rfl) (by simp;rfl) ?_
    refine Qiv rfl (by simp) fun _=>wY ?_
    simp
  | succ m ih =>
    intro i hi
    have hi':i < xs.length:=by omega
    have h1:=hs (i+1)
    rw [← Qg5 hi'] at h1
    apply wW
    refine Qb4 (by simp;rfl) (by simp;rfl) ?_
    refine Qiv rfl (fun _=>wS ?_) (by simp [hi'])
    refine wB ?_
    refine Qb4 (by simp [hi'];rfl) (by simp;rfl) ?_
    refine Qrn (by simp;rfl) (by simp;rfl) ?_
    refine Qrn (by simp;rfl) (by simp;rfl) ?_
    have:=ih (i+1) (by omega)
    rw [Qbg (by omega),Qae (by omega) (by omega),Qg5 hi']
    exact this
 refine cW zt40 rfl ?_
 refine Qb4 (by simp;rfl) (by simp;rfl) ?_
 refine Qb4 (by simp;rfl) (by simp;rfl) ?_
 refine wA (Qb4 (by simp;rfl) (by simp;rfl) ?_)
 refine wB (Qah (loop xs.length 0 (by simp)) ?_)
 rintro ex st ⟨rfl,rfl⟩
 simp only [if_true]
 refine Qb4 (by simp;rfl) (by simp;rfl) ?_
 refine wR ?_
 simp [Jxg]
theorem Qw1 (xs:List Int):Ev tb Jjw [] [.own 1 (Qb8 xs)] [] ⟨.own 1 (Qb8 xs),[],[],[]⟩:=by
 refine cW zt70 rfl ?_
 refine Qb4 (by simp;rfl) (by simp;rfl) ?_
 refine Qb4 (by simp;rfl) (by simp;rfl) ?_
 refine wR ?_
 simp [Jxz]
theorem Jbx (xs:List Int) (c:Bool) (hl:xs.length≤1000000):Ev tb Jtp [] [.lst 1 (Qb8 xs) c] [] ⟨.own 1 (Qb8 xs),[],[],[]⟩:=by
 refine cW zt71 rfl ?_
 refine Qb4 (by simp;rfl) (by simp;rfl) ?_
 refine Qqn (b:=xs.isEmpty) (by simp [Jj7];rfl) (by simp) ?_ ?_ ?_ (ex:=.ret) (st':={ T:=[(2,.own 1 (Qb8 xs))],loc:=[],M:=[] })
 · refine Qiv (t:=false) (by simp) (by simp) fun _=>wS ?_
   refine Qb4 (by simp [show xs.length≤274877906944 by omega];rfl) (by simp;rfl) ?_
   refine wR ?_
   simp
 · intro he
   have:xs=[]:=by simpa using he
   subst this
   refine Qiv (t:=true) (by simp) (fun _=>wA ?_) (by simp)
   refine Qb4 (by simp;rfl) (by simp;rfl) ?_
   refine wX ?_
   simp
 · simp [Jxj]
theorem Jbj (xs:List Int) (c:Bool) (hl:xs.length≤1000000) :
 Ev tb Jkl [] [.lst 1 (Qb8 xs) c] [] ⟨.own 1 (Qb8 xs),[],[],[]⟩:=by
 have e1:=Qaa (Jbx xs c hl)
 have e2:=Qaa (Qw1 xs)
 refine cW zt31 rfl ?_
 refine Qb4 (by simp;rfl) (by simp;rfl) ?_
 refine Qb4 (by simp [e1,e2];rfl) (by simp;rfl) ?_
 refine wR ?_
 simp [Jxc]
end Go.Idl
namespace Go.Idl
def Qzm (x:Int):List Int→List Int
 | []=>[x]
 | y::ys=>if x≤y then y::Qzm x ys else x::y::ys
def fall (xs:List Int):List Int:=xs.foldl (fun out x=>Qzm x out) []
abbrev Qzf (xs:List Int):Prop:=xs.Pairwise (fun a b=>b≤a)
abbrev Asc (xs:List Int):Prop:=xs.Pairwise (fun a b=>a≤b)
theorem Qot (x:Int) (ys:List Int):(Qzm x ys).Perm (x::ys):=by
 induction ys with
 | nil=>exact .refl _
 | cons y ys ih =>
   unfold Qzm
   split
   · exact (ih.cons y).trans (.swap x y ys)
   · exact .refl _
theorem Qvl (x:Int) (ys:List Int) (h:Qzf ys):Qzf (Qzm x ys):=by
 induction ys with
 | nil=>simp [Qzm]
 | cons y ys ih =>
   unfold Qzm
   have h:=List.pairwise_cons.1 h
   split
   · refine List.pairwise_cons.2 ⟨fun a ha=>?_,ih h.2⟩
     rcases List.mem_cons.1 ((Qot x ys).mem_iff.1 ha) with rfl | ha
     · assumption
     · exact h.1 a ha
   · rename_i hx
     refine List.pairwise_cons.2 ⟨fun a ha=>?_,List.pairwise_cons.2 h⟩
     rcases List.mem_cons.1 ha with rfl | ha
     · omega
     · have:=h.1 a ha;omega
theorem Qsd (xs:List Int):∀ ys,Qzf ys→Qzf (xs.foldl (fun out x=>Qzm x out) ys)∧(xs.foldl (fun out x=>Qzm x out) ys).Perm (xs++ys):=by
 induction xs with
 | nil=>intro ys h;exact ⟨h,.refl _⟩
 | cons x xs ih =>
   intro ys h
   obtain ⟨h1,h2⟩:=ih (Qzm x ys) (Qvl x ys h)
   refine ⟨h1,h2.trans ?_⟩
   exact ((Qot x ys).append_left xs).trans List.perm_middle
theorem Qol (xs:List Int):Qzf (fall xs):=(Qsd xs [] .nil).1
theorem Qe9 (xs:List Int):(fall xs).Perm xs:=by simpa [fall] using (Qsd xs [] .nil).2
theorem Qm6 (xs:List Int):(fall xs).length=xs.length:=(Qe9 xs).length_eq
theorem Qqb {xs ys:List Int} (hx:Qzf xs) (hy:Qzf ys) (h:xs.Perm ys):xs=ys:=by
 refine List.Perm.eq_of_pairwise (le:=fun a b=>b≤a) (fun a b _ _ h1 h2=>by omega) hx hy h
theorem Qqq {xs ys:List Int} (hy:Qzf ys) (h:ys.Perm xs):ys=fall xs:=Qqb hy (Qol xs) (h.trans (Qe9 xs).symm)
theorem Qrh {xs ys:List Int} (h:xs.Perm ys):xs.sum=ys.sum:=by
 induction h with
 | nil=>rfl
 | cons x _ ih=>simp [ih]
 | swap x y l=>simp;omega
 | trans _ _ h1 h2=>exact h1.trans h2
theorem Qz9 (xs:List Int):(fall xs).sum=xs.sum:=Qrh (Qe9 xs)
theorem Jc0 {xs:List Int} {x:Int}:x ∈ fall xs ↔ x ∈ xs:=(Qe9 xs).mem_iff
def Qr4 (x:Int):List Int→List Int→List Int
 | [],B=>x::B
 | a::r,B=>if x < a then Qr4 x r (a::B) else r.reverse++a::x::B
theorem Qjp (x:Int):∀ (r B:List Int),(Qr4 x r B).Perm (r.reverse++x::B)
 | [],B=>.refl _
 | a::r,B=>by
   unfold Qr4
   split
   · refine (Qjp x r (a::B)).trans ?_
     rw [List.reverse_cons,List.append_assoc]
     exact List.Perm.append_left _ (.swap _ _ _)
   · rw [List.reverse_cons,List.append_assoc]
     exact .refl _
theorem Qsf (x:Int):∀ (r B:List Int),Asc (r.reverse++B)→(∀ b ∈ B,x≤b)→Asc (Qr4 x r B)
 | [],B,h,hb=>List.pairwise_cons.2 ⟨hb,by simpa using h⟩
 | a::r,B,h,hb=>by
   rw [List.reverse_cons,List.append_assoc] at h
   unfold Qr4
   split
   · rename_i hx
     refine Qsf x r (a::B) h fun b hb'=>?_
     rcases List.mem_cons.1 hb' with rfl | hb'
     · omega
     · exact hb b hb'
   · rename_i hx
     obtain ⟨h1,h2,h3⟩:=List.pairwise_append.1 (show Asc (r.reverse++a::B) from h)
     have h2:=List.pairwise_cons.1 h2
     refine List.pairwise_append.2 ⟨h1,?_,fun p hp q hq=>?_⟩
     · refine List.pairwise_cons.2 ⟨fun q hq=>?_,List.pairwise_cons.2 ⟨hb,h2.2⟩⟩
       rcases List.mem_cons.1 hq with rfl | hq
       · omega
       · exact h2.1 q hq
     · have ha:=h3 p hp a (by simp)
       rcases List.mem_cons.1 hq with rfl | hq
       · exact ha
       · rcases List.mem_cons.1 hq with rfl | hq
         · omega
         · exact h3 p hp q (by simp [hq])
def asc:Nat→List Int→List Int→List Int
 | _,S,[]=>S
 | n,S,x::r=>asc n (Qr4 x S.reverse []) r
theorem Qvb:∀ (r S:List Int),Asc S→Asc (asc 0 S r)∧(asc 0 S r).Perm (S++r)
 | [],S,h=>⟨h,by simp [asc]⟩
 | x::r,S,h=>by
   obtain ⟨h1,h2⟩:=Qvb r (Qr4 x S.reverse []) (Qsf x _ _ (by simpa using h) (by simp))
   refine ⟨h1,h2.trans ?_⟩
   have:=Qjp x S.reverse []
   rw [List.reverse_reverse] at this
   refine (this.append_right r).trans ?_
   rw [List.append_assoc];exact .refl _
theorem Qh9 (xs:List Int):(asc 0 [] xs).reverse=fall xs:=by
 obtain ⟨h1,h2⟩:=Qvb xs [] .nil
 refine Qqq ?_ ((List.reverse_perm _).trans (by simpa using h2))
 rw [Qzf,List.pairwise_reverse];exact h1
theorem Jfy (xs:List Int):(asc 0 [] xs).length=xs.length:=by simpa using (Qvb xs [] .nil).2.length_eq
end Go.Idl
namespace Go.Idl
open Go
abbrev L (xs:List Int) (c:Bool:=false):IV:=.lst 1 (Qb8 xs) c
abbrev O (xs:List Int):IV:=.own 1 (Qb8 xs)
theorem Jap (n:Int):Ev tb zl4 [] [I n] [] ⟨Bo false,[],[],[]⟩:=by
 refine cW zt4 rfl ?_
 repeat (first|apply wA|apply wS|refine wr (by simp;with_reducible rfl) ?_|refine wq (by simp;with_reducible rfl) ?_|refine wt (by simp) ?_|refine wf (by simp) ?_|refine xt (by simp) ?_|refine xf (by simp) ?_|apply wB|apply Qab|refine wX ?_|refine wY ?_|refine wR ?_|refine wK ?_|refine wE ?_)
 simp [zi4]
theorem Jgz (a b:Int):Ev tb zl2 [] [I a,I b] [] ⟨Bo (decide (a < b)),[],[],[]⟩:=by
 have e1:=fun n=>Qaa (Jap n)
 refine cW zt2 rfl ?_
 repeat (first|apply wA|apply wS|refine wr (by simp [e1];with_reducible rfl) ?_|refine wq (by simp [e1];with_reducible rfl) ?_|refine wt (by simp [e1]) ?_|refine wf (by simp [e1]) ?_|refine xt (by simp [e1]) ?_|refine xf (by simp [e1]) ?_|apply wB|apply Qab|refine wX ?_|refine wY ?_|refine wR ?_|refine wK ?_|refine wE ?_)
 simp [zi2]
theorem Qgu (n:Int) (M:List Qac):Ev tb zl8 [] [I n] M ⟨Bo (decide (n < 0)),[],M,[]⟩:=by
 refine cW zt8 rfl ?_
 repeat (first|apply wA|apply wS|refine wr (by simp;with_reducible rfl) ?_|refine wq (by simp;with_reducible rfl) ?_|refine wt (by simp) ?_|refine wf (by simp) ?_|refine xt (by simp) ?_|refine xf (by simp) ?_|apply wB|apply Qab|refine wX ?_|refine wY ?_|refine wR ?_|refine wK ?_|refine wE ?_)
 simp [zi8]
theorem Qb7 {A Z:List Int} {a x:Int}:(A++a::x::Z)[A.length+1]? = some x:=by
 rw [List.getElem?_append_right (by omega)];simp
theorem Qbb {A Z:List Int} {a:Int}:(A++a::Z)[A.length]? = some a:=by
 rw [List.getElem?_append_right (by omega)];simp
theorem Qcu {A Z:List Int} {a x:Int}:((A++a::x::Z).set (A.length+1) a).set A.length x=A++x::a::Z:=by
 rw [List.set_append_right _ _ (by omega),List.set_append_right _ _ (by omega)]
 simp
theorem insl (n i:Int) (x:Int) (rest:List Int) (M:List Qac):∀ (k:Nat) (A B:List Int),A.length=k→k+B.length+rest.length≤1000000 →
 wp tb (.loop Jt2) { T:=[(0,O (A++x::(B++rest))),(1,I 0),(2,I n),(6,I i),(7,I k)],loc:=[],M:=M }
  (fun ex st=>ex=.exit 2∧∃ k':Int,st={ T:=[(0,O (Qr4 x A.reverse B++rest)),(1,I 0),(2,I n),(6,I i),(7,I k'),(30,Bo false)],loc:=[],M:=M }):=by
 have e1:=fun a b=>Qaa (Jgz a b)
 intro k
 induction k with
 | zero =>
   intro A B hA hl
   have:A=[]:=List.length_eq_zero_iff.1 hA
   subst this
   refine wW ?_
   repeat (first|apply wA|apply wS|refine wr (by simp;with_reducible rfl) ?_|refine wq (by simp;with_reducible rfl) ?_|refine wt (by simp) ?_|refine wf (by simp) ?_|refine xt (by simp) ?_|refine xf (by simp) ?_|apply wB|apply Qab|refine wX ?_|refine wY ?_|refine wR ?_|refine wK ?_|refine wE ?_)
   exact ⟨rfl,_,by simp [Qr4];rfl⟩
 | succ k ih =>
   intro A B hA hl
   obtain ⟨A',a,rfl⟩:∃ A' a,A=A'++[a]:=⟨A.dropLast,A.getLast (by intro h;subst h;simp at hA),(List.dropLast_concat_getLast _).symm⟩
   have hA':A'.length=k:=by simpa using hA
   subst hA'
   have w1:IntKind.i64.wrap (A'.length:Int)=(A'.length:Int):=Qt1 (by omega)
   have w2:(0:Int) < (A'.length:Int)+1:=by omega
   simp only [List.append_assoc,List.singleton_append]
   by_cases hx:x < a
   · refine wW ?_
     repeat (first|apply wA|apply wS|refine wr (by simp [e1,hx,w1,w2,Qbb,Qb7,Qcu];with_reducible rfl) ?_|refine wq (by simp [e1,hx,w1,w2,Qbb,Qb7,Qcu];with_reducible rfl) ?_|refine wt (by simp [e1,hx,w1,w2,Qbb,Qb7,Qcu]) ?_|refine wf (by simp [e1,hx,w1,w2,Qbb,Qb7,Qcu]) ?_|refine xt (by simp [e1,hx,w1,w2,Qbb,Qb7,Qcu]) ?_|refine xf (by simp [e1,hx,w1,w2,Qbb,Qb7,Qcu]) ?_|apply wB|apply Qab|refine wX ?_|refine wY ?_|refine wR ?_|refine wK ?_|refine wE ?_)
     have:=ih A' (a::B) rfl (by simp;omega)
     simp only [List.cons_append,List.reverse_append,List.reverse_cons,List.reverse_nil,List.nil_append] at this ⊢
     simp only [Qr4,hx,if_true]
     exact this
   · refine wW ?_
     repeat (first|apply wA|apply wS|refine wr (by simp [e1,hx,w1,w2,Qbb,Qb7,Qcu];with_reducible rfl) ?_|refine wq (by simp [e1,hx,w1,w2,Qbb,Qb7,Qcu];with_reducible rfl) ?_|refine wt (by simp [e1,hx,w1,w2,Qbb,Qb7,Qcu]) ?_|refine wf (by simp [e1,hx,w1,w2,Qbb,Qb7,Qcu]) ?_|refine xt (by simp [e1,hx,w1,w2,Qbb,Qb7,Qcu]) ?_|refine xf (by simp [e1,hx,w1,w2,Qbb,Qb7,Qcu]) ?_|apply wB|apply Qab|refine wX ?_|refine wY ?_|refine wR ?_|refine wK ?_|refine wE ?_)
     refine ⟨rfl,((A'.length+1:Nat):Int),?_⟩
     simp only [List.reverse_append,List.reverse_cons,List.reverse_nil,List.nil_append,List.cons_append]
     simp only [Qr4,hx,if_false,List.reverse_reverse,List.append_assoc,List.cons_append]
     rfl
theorem Qlk (x:Int) (S:List Int):(Qr4 x S.reverse []).length=S.length+1:=by
 have:=(Qjp x S.reverse []).length_eq
 simpa using this
theorem sortl (M:List Qac) (n:Int):∀ (r S:List Int),n=(S.length+r.length:Nat)→S.length+r.length≤1000000 →
 wp tb (.loop Jmh) { T:=[(0,O (S++r)),(1,I 0),(2,I n),(6,I S.length)],loc:=[],M:=M }
  (fun ex st=>ex=.exit 0∧∃ k':Int,st={ T:=[(0,O (asc 0 S r)),(1,I 0),(2,I n),(6,I k'),(12,Bo false)],loc:=[],M:=M }):=by
 intro r
 induction r with
 | nil =>
   intro S hn hl
   refine wW ?_
   have h1:¬ (S.length:Int) < n:=by simp at hn;omega
   repeat (first|apply wA|apply wS|refine wr (by simp [h1];with_reducible rfl) ?_|refine wq (by simp [h1];with_reducible rfl) ?_|refine wt (by simp [h1]) ?_|refine wf (by simp [h1]) ?_|refine xt (by simp [h1]) ?_|refine xf (by simp [h1]) ?_|apply wB|apply Qab|refine wX ?_|refine wY ?_|refine wR ?_|refine wK ?_|refine wE ?_)
   exact ⟨rfl,_,by simp [asc];rfl⟩
 | cons x r ih =>
   intro S hn hl
   refine wW ?_
   simp only [List.length_cons] at hn hl
   have h1:(S.length:Int) < n:=by omega
   have w1:IntKind.i64.wrap ((S.length:Int)+1)=(S.length:Int)+1:=by rw [Qae (by omega) (by omega)]
   repeat (first|apply wA|apply wS|refine wr (by simp [h1,w1];with_reducible rfl) ?_|refine wq (by simp [h1,w1];with_reducible rfl) ?_|refine wt (by simp [h1,w1]) ?_|refine wf (by simp [h1,w1]) ?_|refine xt (by simp [h1,w1]) ?_|refine xf (by simp [h1,w1]) ?_|apply wB|apply Qab|refine wX ?_|refine wY ?_|refine wR ?_|refine wK ?_|refine wE ?_)
   refine Qah (insl n S.length x r M S.length S [] rfl (by simp;omega)) ?_
   rintro ex st ⟨rfl,k',rfl⟩
   simp only [if_true]
   repeat (first|apply wA|apply wS|refine wr (by simp [h1,w1];with_reducible rfl) ?_|refine wq (by simp [h1,w1];with_reducible rfl) ?_|refine wt (by simp [h1,w1]) ?_|refine wf (by simp [h1,w1]) ?_|refine xt (by simp [h1,w1]) ?_|refine xf (by simp [h1,w1]) ?_|apply wB|apply Qab|refine wX ?_|refine wY ?_|refine wR ?_|refine wK ?_|refine wE ?_)
   have:=ih (Qr4 x S.reverse []) (by rw [Qlk];omega) (by rw [Qlk];omega)
   rw [Qlk] at this
   exact this
theorem Qi6 (xs:List Int) (hl:xs.length≤1000) (M:List Qac) :
 Ev tb Jwe [0] [O xs,I 0,I xs.length] M ⟨.tup [],[O (asc 0 [] xs)],M,[]⟩:=by
 refine cW zt86 rfl ?_
 repeat (first|apply wA|apply wS|refine wr (by simp;with_reducible rfl) ?_|refine wq (by simp;with_reducible rfl) ?_|refine wt (by simp) ?_|refine wf (by simp) ?_|refine xt (by simp) ?_|refine xf (by simp) ?_|apply wB|apply Qab|refine wX ?_|refine wY ?_|refine wR ?_|refine wK ?_|refine wE ?_)
 cases xs with
 | nil =>
   refine wW ?_
   repeat (first|apply wA|apply wS|refine wr (by simp;with_reducible rfl) ?_|refine wq (by simp;with_reducible rfl) ?_|refine wt (by simp) ?_|refine wf (by simp) ?_|refine xt (by simp) ?_|refine xf (by simp) ?_|apply wB|apply Qab|refine wX ?_|refine wY ?_|refine wR ?_|refine wK ?_|refine wE ?_)
   simp [Jtn,asc]
 | cons x r =>
   simp only [List.length_cons] at hl
   refine Qah (sortl M _ r [x] (by simp;omega) (by simp;omega)) ?_
   rintro ex st ⟨rfl,k',rfl⟩
   simp [Jtn,asc,Qr4]
theorem Qtd (xs:List Int) (hl:xs.length≤12) (k:Int) (M:List Qac) :
 Ev tb Qpu [0] [O xs,I 0,I xs.length,I k] M ⟨.tup [],[O (asc 0 [] xs)],M,[]⟩:=by
 have e1:=Qaa (Qi6 xs (by omega) (M++[[]]))
 have w1:IntKind.i64.wrap (xs.length:Int)=(xs.length:Int):=Qt1 (by omega)
 refine cW zt101 rfl ?_
 repeat (first|apply wA|apply wS|refine wr (by simp;with_reducible rfl) ?_|refine wq (by simp;with_reducible rfl) ?_|refine wt (by simp) ?_|refine wf (by simp) ?_|refine xt (by simp) ?_|refine xf (by simp) ?_|apply wB|apply Qab|refine wX ?_|refine wY ?_|refine wR ?_|refine wK ?_|refine wE ?_)
 refine wW ?_
 have h:(xs.length:Int)≤12:=by omega
 repeat (first|apply wA|apply wS|refine wr (by simp [e1,w1,hl,h];with_reducible rfl) ?_|refine wq (by simp [e1,w1,hl,h];with_reducible rfl) ?_|refine wt (by simp [e1,w1,hl,h]) ?_|refine wf (by simp [e1,w1,hl,h]) ?_|refine xt (by simp [e1,w1,hl,h]) ?_|refine xf (by simp [e1,w1,hl,h]) ?_|apply wB|apply Qab|refine wX ?_|refine wY ?_|refine wR ?_|refine wK ?_|refine wE ?_)
 simp [Ja2]
theorem len_r (cf:CF) (n:Int) (m:Nat) (g:ByteArray) (hw:IntKind.u8.wrap n=(m:Int)) (hb:(g[m]?).isSome=true) :
 ∃ k st,Qai cf { T:=[(0,.sc (.int .u64 n)),(2,I 0),(14,Bo false)],loc:=[],M:=[] } [⟨some 19,none,.mv (.t 2)⟩,⟨some 20,none,.mv (.t 0)⟩,⟨some 21,none,.conv .u8 (.t 20)⟩,⟨some 22,none,.idxs (.c (.string g)) (.t 21)⟩,⟨some 23,none,.conv .i64 (.t 22)⟩,⟨some 24,none,.bin .add (.t 19) (.t 23)⟩,⟨some 2,none,.asg (.t 24)⟩]=some st∧st.cut [2]={ T:=[(2,I k)],loc:=[],M:=[] }:=by
 obtain ⟨b,hb⟩:=Option.isSome_iff_exists.1 hb
 refine ⟨_,_,by simp [hw,hb];rfl,by simp;rfl⟩
set_option maxRecDepth 100000 in
theorem Ja7 (n:Nat) (hn:n≤12):∃ k:Int,Ev tb Jjn [] [.sc (.int .u64 n)] [] ⟨I k,[],[],[]⟩:=by
 have w8:IntKind.u8.wrap (n:Int)=(n:Int):=by
  have:n=0 ∨ n=1 ∨ n=2 ∨ n=3 ∨ n=4 ∨ n=5 ∨ n=6 ∨ n=7 ∨ n=8 ∨ n=9 ∨ n=10 ∨ n=11 ∨ n=12:=by omega
  rcases this with rfl | rfl | rfl | rfl | rfl | rfl | rfl | rfl | rfl | rfl | rfl | rfl | rfl <;> rfl
 have key:∃ k:Int,∃ st,Qai (Qco tb) { T:=[(0,.sc (.int .u64 n)),(2,I 0),(14,Bo false)],loc:=[],M:=[] } (match Qwp with | .reg ops _ _=>ops | _=>[])=some st∧st.cut [2]={ T:=[(2,I k)],loc:=[],M:=[] }:=by
  have:n=0 ∨ n=1 ∨ n=2 ∨ n=3 ∨ n=4 ∨ n=5 ∨ n=6 ∨ n=7 ∨ n=8 ∨ n=9 ∨ n=10 ∨ n=11 ∨ n=12:=by omega
  rcases this with rfl | rfl | rfl | rfl | rfl | rfl | rfl | rfl | rfl | rfl | rfl | rfl | rfl
  all_goals
   refine len_r (Qco tb) _ _ _ w8 ?_
   rfl
 obtain ⟨k,st,h1,h2⟩:=key
 have g1:¬ (4294967296:Int)≤n:=by omega
 have g2:¬ (65536:Int)≤n:=by omega
 have g3:¬ (256:Int)≤n:=by omega
 refine ⟨k,?_⟩
 refine cW zt68 rfl ?_
 iterate 4 ((first|apply wA|skip);refine Qb4 (by simp [g1,g2,g3];rfl) (by simp;rfl) ?_;(first|refine Qiv (t:=false) (by simp) (by simp) (fun _=>?_)|skip);(first|apply wS|skip))
 refine Qb4 h1 h2 ?_
 refine wR ?_
 simp [Jqz]
theorem Jk6 (n:Nat) (hn:n≤12):∃ k:Int,Ev tb Jd3 [] [.sc (.int .u64 n)] [] ⟨I k,[],[],[]⟩:=by
 obtain ⟨k,hk⟩:=Ja7 n hn
 have e1:=Qaa hk
 refine ⟨k,?_⟩
 refine cW zt66 rfl ?_
 repeat (first|apply wA|apply wS|refine wr (by simp [e1];with_reducible rfl) ?_|refine wq (by simp [e1];with_reducible rfl) ?_|refine wt (by simp [e1]) ?_|refine wf (by simp [e1]) ?_|refine xt (by simp [e1]) ?_|refine xf (by simp [e1]) ?_|apply wB|apply Qab|refine wX ?_|refine wY ?_|refine wR ?_|refine wK ?_|refine wE ?_)
 simp [Jn5]
theorem Jcq {n:Nat} (h:n < 1000000):IntKind.u64.wrap (n:Int)=(n:Int):=by
 have e1:(2:Int) ^ IntKind.u64.bits=18446744073709551616:=by decide
 have e3:IntKind.u64.signed=false:=rfl
 unfold IntKind.wrap
 rw [e1,e3]
 simp
 omega
theorem Jfa (xs:List Int) (hl:xs.length≤12) (M:List Qac) :
 Ev tb Jqe [0] [O xs] M ⟨.tup [],[O (asc 0 [] xs)],M,[]⟩:=by
 obtain ⟨k,hk⟩:=Jk6 xs.length hl
 have e1:=Qaa hk
 have e2:=Qaa (Qtd xs hl k (M++[[]]))
 have w1:=@Jcq xs.length (by omega)
 refine cW zt78 rfl ?_
 repeat (first|apply wA|apply wS|refine wr (by simp [e1,e2,w1];with_reducible rfl) ?_|refine wq (by simp [e1,e2,w1];with_reducible rfl) ?_|refine wt (by simp [e1,e2,w1]) ?_|refine wf (by simp [e1,e2,w1]) ?_|refine xt (by simp [e1,e2,w1]) ?_|refine xf (by simp [e1,e2,w1]) ?_|apply wB|apply Qab|refine wX ?_|refine wY ?_|refine wR ?_|refine wK ?_|refine wE ?_)
 simp [Jxm]
end Go.Idl
namespace Go.Idl
open Go
theorem Qc5 {k:IntKind} {a b:Nat}:Qb3 (.sc (.int k ((a:Int)+(b:Int)+1)))=some (a+b+1):=Qev (n:=a+b+1)
theorem Qjq {A m B:List Int} {x y:Int}:(A++x::(m++y::B))[A.length+m.length+1]? = some y:=by
 rw [List.getElem?_append_right (by omega),show A.length+m.length+1 - A.length=m.length+1 by omega,List.getElem?_cons_succ,List.getElem?_append_right (by omega)];simp
theorem Qib {A m B:List Int} {x y:Int} {h}:(A++x::(m++y::B))[A.length+m.length+1]'h=y:=by
 have:=@Qjq A m B x y
 rw [List.getElem?_eq_getElem h] at this
 exact Option.some.inj this
theorem Qlb {A m B:List Int} {v x y:Int}:(A++v::(m++y::B)).set (A.length+m.length+1) x=A++v::(m++x::B):=by
 rw [List.set_append_right _ _ (by omega)]
 simp [show A.length+m.length+1 - A.length=m.length+1 by omega]
theorem revl (M:List Qac):∀ (k:Nat) (A m B:List Int),m.length≤k→A.length+m.length+B.length≤1000000 →
 wp tb (.loop Ju6) { T:=[(0,O (A++(m++B))),(2,I A.length),(3,I ((A.length:Int)+m.length - 1))],loc:=[],M:=M }
  (fun ex st=>ex=.exit 0∧∃ a b:Int,st={ T:=[(0,O (A++(m.reverse++B))),(2,I a),(3,I b),(9,Bo false)],loc:=[],M:=M }):=by
 intro k
 induction k with
 | zero =>
   intro A m B hk hl
   have:m=[]:=List.length_eq_zero_iff.1 (by omega)
   subst this
   refine wW ?_
   have h:¬ ((A.length:Int) < A.length - 1):=by omega
   repeat (first|apply wA|apply wS|refine wr (by simp [h];with_reducible rfl) ?_|refine wq (by simp [h];with_reducible rfl) ?_|refine wt (by simp [h]) ?_|refine wf (by simp [h]) ?_|refine xt (by simp [h]) ?_|refine xf (by simp [h]) ?_|apply wB|apply Qab|refine wX ?_|refine wY ?_|refine wR ?_|refine wK ?_|refine wE ?_)
   exact ⟨rfl,_,_,rfl⟩
 | succ k ih =>
   intro A m B hk hl
   match m,hk,hl with
   | [],hk,hl =>
     refine wW ?_
     have h:¬ ((A.length:Int) < A.length - 1):=by omega
     repeat (first|apply wA|apply wS|refine wr (by simp [h];with_reducible rfl) ?_|refine wq (by simp [h];with_reducible rfl) ?_|refine wt (by simp [h]) ?_|refine wf (by simp [h]) ?_|refine xt (by simp [h]) ?_|refine xf (by simp [h]) ?_|apply wB|apply Qab|refine wX ?_|refine wY ?_|refine wR ?_|refine wK ?_|refine wE ?_)
     exact ⟨rfl,_,_,rfl⟩
   | [x],hk,hl =>
     refine wW ?_
     repeat (first|apply wA|apply wS|refine wr (by simp;with_reducible rfl) ?_|refine wq (by simp;with_reducible rfl) ?_|refine wt (by simp) ?_|refine wf (by simp) ?_|refine xt (by simp) ?_|refine xf (by simp) ?_|apply wB|apply Qab|refine wX ?_|refine wY ?_|refine wR ?_|refine wK ?_|refine wE ?_)
     exact ⟨rfl,_,_,rfl⟩
   | x::z::m',hk,hl =>
     obtain ⟨m,y,hm⟩:∃ m y,z::m'=m++[y]:=⟨(z::m').dropLast,(z::m').getLast (by simp),(List.dropLast_concat_getLast _).symm⟩
     rw [hm] at hk hl ⊢
     simp only [List.length_cons,List.length_append,List.length_nil] at hk hl
     have hj:(A.length:Int)+(x::(m++[y])).length - 1=(A.length:Int)+m.length+1:=by simp;omega
     rw [hj]
     simp only [List.cons_append,List.append_assoc,List.nil_append]
     refine wW ?_
     have h:(A.length:Int) < A.length+m.length+1:=by omega
     have h2:A.length < A.length+(m.length+(B.length+1)+1):=by omega
     have h3:A.length+m.length+1 < A.length+(m.length+(B.length+1)+1):=by omega
     have w1:IntKind.i64.wrap ((A.length:Int)+1)=((A++[y]).length:Int):=by rw [Qae (by omega) (by omega)];simp
     have w2:IntKind.i64.wrap ((A.length:Int)+m.length)=((A++[y]).length:Int)+m.length - 1:=by rw [Qae (by omega) (by omega)];simp;omega
     repeat (first|apply wA|apply wS|refine wr (by simp [h,h2,h3,w1,w2,Qjq,Qib,Qlb,Qc5,Qbb];with_reducible rfl) ?_|refine wq (by simp [h,h2,h3,w1,w2,Qjq,Qib,Qlb,Qc5,Qbb];with_reducible rfl) ?_|refine wt (by simp [h,h2,h3,w1,w2,Qjq,Qib,Qlb,Qc5,Qbb]) ?_|refine wf (by simp [h,h2,h3,w1,w2,Qjq,Qib,Qlb,Qc5,Qbb]) ?_|refine xt (by simp [h,h2,h3,w1,w2,Qjq,Qib,Qlb,Qc5,Qbb]) ?_|refine xf (by simp [h,h2,h3,w1,w2,Qjq,Qib,Qlb,Qc5,Qbb]) ?_|apply wB|apply Qab|refine wX ?_|refine wY ?_|refine wR ?_|refine wK ?_|refine wE ?_)
     have:=ih (A++[y]) m (x::B) (by omega) (by simp;omega)
     simp at this ⊢
     exact this
theorem Qsl (xs:List Int) (hl:xs.length≤1000000) (M:List Qac) :
 Ev tb Jpt [0] [O xs] M ⟨.tup [],[O xs.reverse],M,[]⟩:=by
 have w1:IntKind.i64.wrap ((xs.length:Int) - 1)=(xs.length:Int) - 1:=Qae (by omega) (by omega)
 refine cW zt76 rfl ?_
 repeat (first|apply wA|apply wS|refine wr (by simp [w1];with_reducible rfl) ?_|refine wq (by simp [w1];with_reducible rfl) ?_|refine wt (by simp [w1]) ?_|refine wf (by simp [w1]) ?_|refine xt (by simp [w1]) ?_|refine xf (by simp [w1]) ?_|apply wB|apply Qab|refine wX ?_|refine wY ?_|refine wR ?_|refine wK ?_|refine wE ?_)
 have:=revl M xs.length [] xs [] (by omega) (by simp;omega)
 simp at this
 refine Qah this ?_
 rintro ex st ⟨rfl,a,b,rfl⟩
 simp [Jxh]
theorem Qts (xs:List Int) (c:Bool) (hl:xs.length≤12) :
 Ev tb Jsp [] [L xs c] [] ⟨O (fall xs),[],[],[]⟩:=by
 have e1:=Qaa (Jbj xs c (by omega))
 have e2:=Qaa (Jfa xs hl [[]])
 have e3:=Qaa (Qsl (asc 0 [] xs) (by rw [Jfy];omega) [[]])
 refine cW zt37 rfl ?_
 repeat (first|apply wA|apply wS|refine wr (by simp [e1,e2,e3,Qh9];with_reducible rfl) ?_|refine wq (by simp [e1,e2,e3,Qh9];with_reducible rfl) ?_|refine wt (by simp [e1,e2,e3,Qh9]) ?_|refine wf (by simp [e1,e2,e3,Qh9]) ?_|refine xt (by simp [e1,e2,e3,Qh9]) ?_|refine xf (by simp [e1,e2,e3,Qh9]) ?_|apply wB|apply Qab|refine wX ?_|refine wY ?_|refine wR ?_|refine wK ?_|refine wE ?_)
 simp [Jw8]
theorem Qfk {xs:List Int} {i m:Nat} (h:i+(m+1)=xs.length):∃ h:i < xs.length,xs.drop i=xs[i]::xs.drop (i+1)∧xs[i] ∈ xs:=by
 have hi:i < xs.length:=by omega
 exact ⟨hi,List.drop_eq_getElem_cons hi,List.getElem_mem hi⟩
theorem Qfs {xs:List Int} {i:Nat} (h:i+0=xs.length):xs[i]? = none∧xs.drop i=[]:=by
 have:i=xs.length:=by omega
 subst this
 simp
def idx (p:Int→Bool):Int→List Int→Int
 | _,[]=>-1
 | i,x::r=>if p x then i else idx p (i+1) r
theorem Qis (xs:List Int) (c:Bool) (F:Lab) (caps:List IV) (M:List Qac) (p:Int→Bool) (hl:xs.length≤1000000)
 (hp:∀ x ∈ xs,Ev tb F [] (I x::caps) (M++[[]]) ⟨Bo (p x),[],M++[[]],[]⟩) :
 Ev tb Jjm [] [L xs c,.fn F caps] M ⟨I (idx p 0 xs),[],M,[]⟩:=by
 have loop:∀ (m i:Nat),i+m=xs.length→wp tb (.loop Jp2) { T:=[(0,L xs c),(1,.fn F caps),(7,I xs.length),(8,I i)],loc:=[],M:=M }
  (fun ex st=>(ex=.exit 0∧idx p i (xs.drop i)=-1∧st={ T:=[(0,L xs c),(1,.fn F caps),(7,I xs.length),(8,I xs.length),(9,Bo false)],loc:=[],M:=M }) ∨
    ex=.ret∧st={ T:=[(4,I (idx p i (xs.drop i)))],loc:=[],M:=M }):=by
  intro m
  induction m with
  | zero =>
    intro i hi
    obtain ⟨h1,h2⟩:=Qfs hi
    have h3:i=xs.length:=hi
    subst h3
    refine wW ?_
    repeat (first|apply wA|apply wS|refine wr (by simp;with_reducible rfl) ?_|refine wq (by simp;with_reducible rfl) ?_|refine wt (by simp) ?_|refine wf (by simp) ?_|refine xt (by simp) ?_|refine xf (by simp) ?_|apply wB|apply Qab|refine wX ?_|refine wY ?_|refine wR ?_|refine wK ?_|refine wE ?_)
    refine .inl ⟨rfl,by rw [h2];rfl,rfl⟩
  | succ m ih =>
    intro i hi
    obtain ⟨hi2,h2,h3⟩:=Qfk hi
    have e1:=Qaa (hp _ h3)
    have w1:IntKind.i64.wrap ((i:Int)+1)=((i+1:Nat):Int):=Qbg (by omega)
    rw [h2]
    cases hpx:p xs[i] with
    | true =>
      refine wW ?_
      repeat (first|apply wA|apply wS|refine wr (by simp [e1,hi2,w1,hpx];with_reducible rfl) ?_|refine wq (by simp [e1,hi2,w1,hpx];with_reducible rfl) ?_|refine wt (by simp [e1,hi2,w1,hpx]) ?_|refine wf (by simp [e1,hi2,w1,hpx]) ?_|refine xt (by simp [e1,hi2,w1,hpx]) ?_|refine xf (by simp [e1,hi2,w1,hpx]) ?_|apply wB|apply Qab|refine wX ?_|refine wY ?_|refine wR ?_|refine wK ?_|refine wE ?_)
      refine .inr ⟨rfl,by simp [idx,hpx]⟩
    | false =>
      refine wW ?_
      repeat (first|apply wA|apply wS|refine wr (by simp [e1,hi2,w1,hpx];with_reducible rfl) ?_|refine wq (by simp [e1,hi2,w1,hpx];with_reducible rfl) ?_|refine wt (by simp [e1,hi2,w1,hpx]) ?_|refine wf (by simp [e1,hi2,w1,hpx]) ?_|refine xt (by simp [e1,hi2,w1,hpx]) ?_|refine xf (by simp [e1,hi2,w1,hpx]) ?_|apply wB|apply Qab|refine wX ?_|refine wY ?_|refine wR ?_|refine wK ?_|refine wE ?_)
      have:=ih (i+1) (by omega)
      simp only [idx,hpx] at this ⊢
      exact this
 refine cW zt73 rfl ?_
 repeat (first|apply wA|apply wS|refine wr (by simp;with_reducible rfl) ?_|refine wq (by simp;with_reducible rfl) ?_|refine wt (by simp) ?_|refine wf (by simp) ?_|refine xt (by simp) ?_|refine xf (by simp) ?_|apply wB|apply Qab|refine wX ?_|refine wY ?_|refine wR ?_|refine wK ?_|refine wE ?_)
 refine Qah (loop xs.length 0 (by simp)) ?_
 rintro ex st (⟨rfl,h,rfl⟩ | ⟨rfl,rfl⟩)
 · simp only [if_true]
   repeat (first|apply wA|apply wS|refine wr (by simp;with_reducible rfl) ?_|refine wq (by simp;with_reducible rfl) ?_|refine wt (by simp) ?_|refine wf (by simp) ?_|refine xt (by simp) ?_|refine xf (by simp) ?_|apply wB|apply Qab|refine wX ?_|refine wY ?_|refine wR ?_|refine wK ?_|refine wE ?_)
   simp at h
   simp [Jr8,h]
 · simp [Jr8]
end Go.Idl
namespace Go.Idl
open Go
theorem Qpr (x lo hi:Int):Ev tb Jjr [] [I x,.bptr 0 0 0,.bptr 0 1 0] [[[I lo],[I hi]],[],[]] ⟨Bo (!(decide (lo≤x) && decide (x≤hi))),[],[[[I lo],[I hi]],[],[]],[]⟩:=by
 have e1:=Qaa (Jnn x lo hi)
 refine cW zt30 rfl ?_
 repeat (first|apply wA|apply wS|refine wr (by simp [e1];with_reducible rfl) ?_|refine wq (by simp [e1];with_reducible rfl) ?_|refine wt (by simp [e1]) ?_|refine wf (by simp [e1]) ?_|refine xt (by simp [e1]) ?_|refine xf (by simp [e1]) ?_|apply wB|apply Qab|refine wX ?_|refine wY ?_|refine wR ?_|refine wK ?_|refine wE ?_)
 simp [Jx1]
theorem Qjt (xs:List Int) (c:Bool) (F:Lab) (caps:List IV) (M:List Qac) (p:Int→Bool) (hl:xs.length≤1000000)
 (hp:∀ x ∈ xs,Ev tb F [] (I x::caps) (M++[[],[]]) ⟨Bo (p x),[],M++[[],[]],[]⟩) :
 Ev tb Js2 [] [L xs c,.fn F caps] M ⟨Bo (decide (0≤idx p 0 xs)),[],M,[]⟩:=by
 have e1:=Qaa (Qis xs c F caps (M++[[]]) p hl (by simpa using hp))
 refine cW zt72 rfl ?_
 repeat (first|apply wA|apply wS|refine wr (by simp [e1];with_reducible rfl) ?_|refine wq (by simp [e1];with_reducible rfl) ?_|refine wt (by simp [e1]) ?_|refine wf (by simp [e1]) ?_|refine xt (by simp [e1]) ?_|refine xf (by simp [e1]) ?_|apply wB|apply Qab|refine wX ?_|refine wY ?_|refine wR ?_|refine wK ?_|refine wE ?_)
 simp [Jxt]
theorem Qig (p:Int→Bool):∀ (xs:List Int) (i:Int),0≤i→(decide (0≤idx p i xs)=xs.any p)
 | [],i,h=>by simp [idx]
 | x::r,i,h=>by
   unfold idx
   cases hp:p x with
   | true=>simp [hp,h]
   | false=>simp [hp];simpa using Qig p r (i+1) (by omega)
theorem Jb9 (xs:List Int) (c:Bool) (lo hi:Int) (hl:xs.length≤1000000) :
 Ev tb Jnd [] [L xs c,I lo,I hi] [] ⟨Bo (xs.all fun x=>decide (lo≤x) && decide (x≤hi)),[],[],[]⟩:=by
 have e1:=Qaa (Qjt xs c Jjr [.bptr 0 0 0,.bptr 0 1 0] [[[I lo],[I hi]]] _ hl (fun x _=>Qpr x lo hi))
 refine cW zt29 rfl ?_
 repeat (first|apply wA|apply wS|refine wr (by simp [e1,Qig];with_reducible rfl) ?_|refine wq (by simp [e1,Qig];with_reducible rfl) ?_|refine wt (by simp [e1,Qig]) ?_|refine wf (by simp [e1,Qig]) ?_|refine xt (by simp [e1,Qig]) ?_|refine xf (by simp [e1,Qig]) ?_|apply wB|apply Qab|refine wX ?_|refine wY ?_|refine wR ?_|refine wK ?_|refine wE ?_)
 simp [Jxq,List.all_eq_not_any_not]
def Qgw (d:List Int):Bool:=decide (d.length≤7) && d.all fun x=>decide (0≤x) && decide (x < d.length)
theorem Qe4 (xs:List Int) (c:Bool) (hl:xs.length≤1000000):Ev tb Jjk [] [L xs c] [] ⟨Bo (Qgw xs),[],[],[]⟩:=by
 have e1:=Qaa (Jb9 xs c 0 ((xs.length:Int) - 1) hl)
 have w1:IntKind.i64.wrap ((xs.length:Int) - 1)=(xs.length:Int) - 1:=Qae (by omega) (by omega)
 have hx:∀ x:Int,(x≤(xs.length:Int) - 1) ↔ x < (xs.length:Int):=fun x=>by omega
 simp only [hx] at e1
 have h2:((xs.length:Int)≤7) ↔ xs.length≤7:=by omega
 by_cases h:xs.length≤7
 · refine cW zt25 rfl ?_
   repeat (first|apply wA|apply wS|refine wr (by simp [e1,w1,h2,h];with_reducible rfl) ?_|refine wq (by simp [e1,w1,h2,h];with_reducible rfl) ?_|refine wt (by simp [e1,w1,h2,h]) ?_|refine wf (by simp [e1,w1,h2,h]) ?_|refine xt (by simp [e1,w1,h2,h]) ?_|refine xf (by simp [e1,w1,h2,h]) ?_|apply wB|apply Qab|refine wX ?_|refine wY ?_|refine wR ?_|refine wK ?_|refine wE ?_)
   simp [Jtk,Qgw,h]
 · refine cW zt25 rfl ?_
   repeat (first|apply wA|apply wS|refine wr (by simp [e1,w1,h2,h];with_reducible rfl) ?_|refine wq (by simp [e1,w1,h2,h];with_reducible rfl) ?_|refine wt (by simp [e1,w1,h2,h]) ?_|refine wf (by simp [e1,w1,h2,h]) ?_|refine xt (by simp [e1,w1,h2,h]) ?_|refine xf (by simp [e1,w1,h2,h]) ?_|apply wB|apply Qab|refine wX ?_|refine wY ?_|refine wR ?_|refine wK ?_|refine wE ?_)
   simp [Jtk,Qgw,h]
theorem Qoq (xs ys:List Int) (c d:Bool) (hl:xs.length≤1000000) (hm:ys.length≤1000000):Ev tb Jsm [] [L xs c,L ys d] [] ⟨Bo (decide (xs=ys)),[],[],[]⟩:=by
 by_cases he:xs.length=ys.length
 · have loop:∀ (m i:Nat),i+m=xs.length→wp tb (.loop Jqc) { T:=[(0,L xs c),(1,L ys d),(5,I i)],loc:=[],M:=[] }
    (fun ex st=>(ex=.exit 0∧xs.drop i=ys.drop i∧st={ T:=[(0,L xs c),(1,L ys d),(5,I xs.length),(14,Bo false)],loc:=[],M:=[] }) ∨
      ex=.ret∧xs.drop i ≠ ys.drop i∧st={ T:=[(4,Bo false)],loc:=[],M:=[] }):=by
    intro m
    induction m with
    | zero =>
      intro i hi
      obtain ⟨h1,h2⟩:=Qfs hi
      obtain ⟨h1',h2'⟩:=Qfs (he ▸ hi)
      have h3:i=xs.length:=hi
      subst h3
      refine wW ?_
      repeat (first|apply wA|apply wS|refine wr (by simp;with_reducible rfl) ?_|refine wq (by simp;with_reducible rfl) ?_|refine wt (by simp) ?_|refine wf (by simp) ?_|refine xt (by simp) ?_|refine xf (by simp) ?_|apply wB|apply Qab|refine wX ?_|refine wY ?_|refine wR ?_|refine wK ?_|refine wE ?_)
      refine .inl ⟨rfl,by rw [h2,h2'],rfl⟩
    | succ m ih =>
      intro i hi
      obtain ⟨hi2,h2,h3⟩:=Qfk hi
      obtain ⟨hi2',h2',h3'⟩:=Qfk (he ▸ hi)
      have w2:IntKind.i64.wrap ((i:Int)+1)=((i+1:Nat):Int):=Qbg (by omega)
      rw [h2,h2']
      by_cases hx:xs[i]=ys[i]
      · refine wW ?_
        repeat (first|apply wA|apply wS|refine wr (by simp [hi2,hi2',w2,hx];with_reducible rfl) ?_|refine wq (by simp [hi2,hi2',w2,hx];with_reducible rfl) ?_|refine wt (by simp [hi2,hi2',w2,hx]) ?_|refine wf (by simp [hi2,hi2',w2,hx]) ?_|refine xt (by simp [hi2,hi2',w2,hx]) ?_|refine xf (by simp [hi2,hi2',w2,hx]) ?_|apply wB|apply Qab|refine wX ?_|refine wY ?_|refine wR ?_|refine wK ?_|refine wE ?_)
        have:=ih (i+1) (by omega)
        simp only [List.cons.injEq,true_and,ne_eq,hx] at this ⊢
        exact this
      · refine wW ?_
        repeat (first|apply wA|apply wS|refine wr (by simp [hi2,hi2',w2,hx];with_reducible rfl) ?_|refine wq (by simp [hi2,hi2',w2,hx];with_reducible rfl) ?_|refine wt (by simp [hi2,hi2',w2,hx]) ?_|refine wf (by simp [hi2,hi2',w2,hx]) ?_|refine xt (by simp [hi2,hi2',w2,hx]) ?_|refine xf (by simp [hi2,hi2',w2,hx]) ?_|apply wB|apply Qab|refine wX ?_|refine wY ?_|refine wR ?_|refine wK ?_|refine wE ?_)
        refine .inr ⟨rfl,by simp only [ne_eq,List.cons.injEq,hx,false_and,not_false_eq_true],rfl⟩
   refine cW zt53 rfl ?_
   repeat (first|apply wA|apply wS|refine wr (by simp [he];with_reducible rfl) ?_|refine wq (by simp [he];with_reducible rfl) ?_|refine wt (by simp [he]) ?_|refine wf (by simp [he]) ?_|refine xt (by simp [he]) ?_|refine xf (by simp [he]) ?_|apply wB|apply Qab|refine wX ?_|refine wY ?_|refine wR ?_|refine wK ?_|refine wE ?_)
   refine Qah (loop xs.length 0 (by simp)) ?_
   rintro ex st (⟨rfl,h,rfl⟩ | ⟨rfl,h,rfl⟩)
   · simp only [if_true]
     repeat (first|apply wA|apply wS|refine wr (by simp;with_reducible rfl) ?_|refine wq (by simp;with_reducible rfl) ?_|refine wt (by simp) ?_|refine wf (by simp) ?_|refine xt (by simp) ?_|refine xf (by simp) ?_|apply wB|apply Qab|refine wX ?_|refine wY ?_|refine wR ?_|refine wK ?_|refine wE ?_)
     simp only [List.drop_zero] at h
     simp [Jj0,h]
   · simp only [List.drop_zero] at h
     simp [Jj0,h]
 · have hne:xs ≠ ys:=fun h=>he (by rw [h])
   have h2:((xs.length:Int)=ys.length) ↔ xs.length=ys.length:=by omega
   refine cW zt53 rfl ?_
   repeat (first|apply wA|apply wS|refine wr (by simp [he,h2];with_reducible rfl) ?_|refine wq (by simp [he,h2];with_reducible rfl) ?_|refine wt (by simp [he,h2]) ?_|refine wf (by simp [he,h2]) ?_|refine xt (by simp [he,h2]) ?_|refine xf (by simp [he,h2]) ?_|apply wB|apply Qab|refine wX ?_|refine wY ?_|refine wR ?_|refine wK ?_|refine wE ?_)
   simp [Jj0,hne]
end Go.Idl
namespace Go.Idl
open Go
def bytes (xs:List Int):List (List IV):=xs.map fun n=>[.sc (.int .u8 n)]
@[simp] theorem Jmq (xs:List Int):(bytes xs).length=xs.length:=by simp [bytes]
@[simp] theorem Jjz (xs:List Int) (n:Nat):(bytes xs).take n=bytes (xs.take n):=by simp [bytes,List.map_take]
@[simp] theorem bytes_get? (xs:List Int) (i:Nat):(bytes xs)[i]? = xs[i]?.map fun n=>[IV.sc (.int .u8 n)]:=by simp [bytes]
@[simp] theorem Jt3 (xs:List Int) (i:Nat) (h:i < (bytes xs).length):(bytes xs)[i]=[IV.sc (.int .u8 (xs[i]'(by simpa [bytes] using h)))]:=by simp [bytes]
@[simp] theorem Jpl (xs:List Int):(bytes xs).isEmpty=xs.isEmpty:=by cases xs <;> rfl
@[simp] theorem Jjq (xs:List Int):((bytes xs).all fun x=>x.all IV.plain1)=true:=by
  induction xs with
  | nil=>rfl
  | cons x xs ih=>simp only [bytes,List.map_cons,List.all_cons] at *;rw [ih];rfl
@[simp] theorem Jjt (xs:List Int):((bytes xs).all fun x=>x.all IV.isData)=true:=by
  induction xs with
  | nil=>rfl
  | cons x xs ih=>simp only [bytes,List.map_cons,List.all_cons] at *;rw [ih];rfl
@[simp] theorem Jew (xs:List Int):Qbw (bytes xs)=true:=by
  induction xs with
  | nil=>rfl
  | cons x xs ih=>simp only [bytes,List.map_cons,Qbw,Qbc,Qb5] at *;rw [ih];rfl
abbrev R (code:List Int) (c:Bool) (n:Int):List IV:=[.lst 1 (bytes code) c,I n]
def Qgs (code:List Int):Prop:=code.length≤2000∧∀ x ∈ code,0≤x∧x≤255
theorem Jll (a b:Nat) (ha:a < 2 ^ 40) (hb:b < 2 ^ 40):∃ n:Nat,n < 2 ^ 40∧binOp .xor 0 (Value.int .i64 a) (Value.int .i64 b)=Sem.pure (Value.int .i64 n):=by
 refine ⟨a ^^^ b,Nat.xor_lt_two_pow ha hb,?_⟩
 have h:=Nat.xor_lt_two_pow ha hb
 have e:IntKind.i64.wrap (((BitVec.ofInt 64 (a:Int)) ^^^ (BitVec.ofInt 64 (b:Int))).toNat:Int)=((a ^^^ b:Nat):Int):=by
  have h1:((BitVec.ofInt 64 (a:Int)) ^^^ (BitVec.ofInt 64 (b:Int))).toNat=a ^^^ b:=by
   rw [BitVec.toNat_xor,BitVec.ofInt_natCast,BitVec.ofInt_natCast,BitVec.toNat_ofNat,BitVec.toNat_ofNat,Nat.mod_eq_of_lt (by omega),Nat.mod_eq_of_lt (by omega)]
  rw [h1,Qt1 (by omega)]
 show Sem.pure (Value.int .i64 (IntKind.i64.wrap (((BitVec.ofInt 64 (a:Int)) ^^^ (BitVec.ofInt 64 (b:Int))).toNat:Int)))=_
 rw [e]
theorem Qli {x n:Int} (hx:0≤x) (hn:1≤n):0≤x.tmod n∧x.tmod n < n:=by
 rw [Int.tmod_eq_emod_of_nonneg hx]
 exact ⟨Int.emod_nonneg _ (by omega),Int.emod_lt_of_pos _ (by omega)⟩
theorem Qov (code:List Int) (c:Bool) (M:List Qac) (hl:code.length≤274877906944) :
 ∃ c',Ev tb Qvd [] [.lst 1 (bytes code) c] M ⟨.bptr M.length 0 0,[],M,[R (code.take 2000) c' 0]⟩:=by
 have hi:((code.length:Int)≤2000) ↔ code.length≤2000:=by omega
 by_cases h:2000 < code.length
 · refine ⟨false,?_⟩
   have h2:¬ code.length≤2000:=by omega
   have h3:(2000:Int) < code.length:=by omega
   refine cW Jwl rfl ?_
   repeat (first|apply wA|apply wS|refine wr (by simp [h,h2,h3,show 2000≤code.length by omega,Qb3];with_reducible rfl) ?_|refine wq (by simp [h,h2,h3,show 2000≤code.length by omega,Qb3];with_reducible rfl) ?_|refine wt (by simpa [h,h2,h3,show 2000≤code.length by omega,Qb3]) ?_|refine wf (by simpa [h,h2,h3,show 2000≤code.length by omega,Qb3]) ?_|refine xt (by simpa [h,h2,h3,show 2000≤code.length by omega,Qb3]) ?_|refine xf (by simpa [h,h2,h3,show 2000≤code.length by omega,Qb3]) ?_|apply wB|apply Qab|refine wX ?_|refine wY ?_|refine wR ?_|refine wK ?_|refine wE ?_)
   simp [Qw0,h2,h3]
   intro _;omega
 · refine ⟨c,?_⟩
   have h2:code.length≤2000:=by omega
   have h3:¬ (2000:Int) < code.length:=by omega
   refine cW Jwl rfl ?_
   repeat (first|apply wA|apply wS|refine wr (by simp [h,h2,h3];with_reducible rfl) ?_|refine wq (by simp [h,h2,h3];with_reducible rfl) ?_|refine wt (by simpa [h,h2,h3]) ?_|refine wf (by simpa [h,h2,h3]) ?_|refine xt (by simpa [h,h2,h3]) ?_|refine xf (by simpa [h,h2,h3]) ?_|apply wB|apply Qab|refine wX ?_|refine wY ?_|refine wR ?_|refine wK ?_|refine wE ?_)
   simp [Qw0,List.take_of_length_le h2]
end Go.Idl
namespace Go.Idl
open Go
def eds (xs:List (Int×Int)):List (List IV):=xs.map fun e=>[I e.1,I e.2]
abbrev L2 (xs:List (Int×Int)) (c:Bool:=false):IV:=.lst 2 (eds xs) c
abbrev O2 (xs:List (Int×Int)):IV:=.own 2 (eds xs)
@[simp] theorem Qu7 (xs:List (Int×Int)):(eds xs).length=xs.length:=by simp [eds]
@[simp] theorem Qmy:eds []=[]:=rfl
@[simp] theorem Jw4 (xs:List (Int×Int)) (n:Nat):(eds xs).take n=eds (xs.take n):=by simp [eds,List.map_take]
@[simp] theorem Jw1 (xs:List (Int×Int)) (n:Nat):(eds xs).drop n=eds (xs.drop n):=by simp [eds,List.map_drop]
@[simp] theorem Jfk (xs ys:List (Int×Int)):eds xs++eds ys=eds (xs++ys):=by simp [eds]
@[simp] theorem eds_one (xs:List (Int×Int)) (a b:Int):eds xs++[[IV.sc (.int .i64 a),IV.sc (.int .i64 b)]]=eds (xs++[(a,b)]):=by simp [eds]
@[simp] theorem eds_get? (xs:List (Int×Int)) (i:Nat):(eds xs)[i]? = xs[i]?.map fun e=>[IV.sc (.int .i64 e.1),IV.sc (.int .i64 e.2)]:=by simp [eds]
@[simp] theorem Jyo (xs:List (Int×Int)) (i:Nat) (h:i < (eds xs).length):(eds xs)[i]=[IV.sc (.int .i64 (xs[i]'(by simpa [eds] using h)).1),IV.sc (.int .i64 (xs[i]'(by simpa [eds] using h)).2)]:=by simp [eds]
@[simp] theorem Jys (xs:List (Int×Int)):(eds xs).isEmpty=xs.isEmpty:=by cases xs <;> rfl
@[simp] theorem Qhu (xs:List (Int×Int)) (i:Nat) (a b:Int):(eds xs).set i [IV.sc (.int .i64 a),IV.sc (.int .i64 b)]=eds (xs.set i (a,b)):=by
  simp [eds,List.map_set]
@[simp] theorem Jw2 (xs:List (Int×Int)):((eds xs).all fun x=>x.all IV.plain1)=true:=by
  induction xs with
  | nil=>rfl
  | cons x xs ih=>simp only [eds,List.map_cons,List.all_cons] at *;rw [ih];rfl
@[simp] theorem Jxs (xs:List (Int×Int)):((eds xs).all fun x=>x.all IV.isData)=true:=by
  induction xs with
  | nil=>rfl
  | cons x xs ih=>simp only [eds,List.map_cons,List.all_cons] at *;rw [ih];rfl
@[simp] theorem Qxb (xs:List (Int×Int)):Qbw (eds xs)=true:=by
  induction xs with
  | nil=>rfl
  | cons x xs ih=>simp only [eds,List.map_cons,Qbw,Qbc,Qb5] at *;rw [ih];rfl
@[simp] theorem Je3 (xs:List (Int×Int)):Qcw (eds xs)=eds xs:=by
  induction xs with
  | nil=>rfl
  | cons x xs ih=>simp only [eds,List.map_cons,Qcw,Qdf,Qhr] at *;rw [ih]
def row (a b:Nat):Nat→List (Int×Int)
 | 0=>[]
 | m+1=>((a:Int),(b:Int))::row a (b+1) m
def Qsc (a:Nat):Nat→List (Int×Int)
 | 0=>[]
 | m+1=>row a (a+1) m++Qsc (a+1) m
def prs (n:Nat):List (Int×Int):=Qsc 0 n
theorem Qp3 (a:Nat):∀ (m b:Nat),(row a b m).length=m
 | 0,b=>rfl
 | m+1,b=>by simp [row,Qp3 a m]
theorem Qvi (a:Nat):∀ (m b:Nat) (e:Int×Int),e ∈ row a b m→e.1=a∧(b:Int)≤e.2∧e.2 < b+m
 | 0,b,e,h=>by simp [row] at h
 | m+1,b,e,h=>by
   rcases List.mem_cons.1 h with rfl | h
   · simp;omega
   · have:=Qvi a m (b+1) e h;omega
theorem Qje:∀ (m a:Nat),(Qsc a m).length≤m * m
 | 0,a=>by simp [Qsc]
 | m+1,a=>by
   have:=Qje m (a+1)
   have e:(m+1) * (m+1)=m * m+2 * m+1:=by rw [Nat.add_mul,Nat.mul_add];omega
   simp only [Qsc,List.length_append,Qp3]
   omega
theorem Qrs:∀ (m a:Nat) (e:Int×Int),e ∈ Qsc a m→0≤e.1∧e.1 < e.2∧e.2 < a+m
 | 0,a,e,h=>by simp [Qsc] at h
 | m+1,a,e,h=>by
   rcases List.mem_append.1 h with h | h
   · have:=Qvi a m (a+1) e h;omega
   · have:=Qrs m (a+1) e h;omega
theorem Qz3 (n a:Nat) (hn:n≤1000):∀ (m b:Nat) (acc:List (Int×Int)),b+m=n→acc.length+m≤2000000 →
 wp tb (.loop Jdy) { T:=[(0,I n),(3,O2 acc),(4,I a),(5,I b)],loc:=[],M:=[] }
  (fun ex st=>ex=.exit 2∧st={ T:=[(0,I n),(3,O2 (acc++row a b m)),(4,I a),(5,I n),(16,Bo false)],loc:=[],M:=[] }):=by
 intro m
 induction m with
 | zero =>
   intro b acc hb hl
   have h3:b=n:=hb
   subst h3
   refine wW ?_
   repeat (first|apply wA|apply wS|refine wr (by simp;with_reducible rfl) ?_|refine wq (by simp;with_reducible rfl) ?_|refine wt (by simpa) ?_|refine wf (by simpa) ?_|refine xt (by simpa) ?_|refine xf (by simpa) ?_|apply wB|apply Qab|refine wX ?_|refine wY ?_|refine wR ?_|refine wK ?_|refine wE ?_)
   simp [row]
 | succ m ih =>
   intro b acc hb hl
   have h1:(b:Int) < n:=by omega
   have w1:IntKind.i64.wrap ((b:Int)+1)=((b+1:Nat):Int):=Qbg (by omega)
   refine wW ?_
   repeat (first|apply wA|apply wS|refine wr (by simp [h1,w1,show acc.length≤274877906943 by omega];with_reducible rfl) ?_|refine wq (by simp [h1,w1,show acc.length≤274877906943 by omega];with_reducible rfl) ?_|refine wt (by simpa [h1,w1,show acc.length≤274877906943 by omega]) ?_|refine wf (by simpa [h1,w1,show acc.length≤274877906943 by omega]) ?_|refine xt (by simpa [h1,w1,show acc.length≤274877906943 by omega]) ?_|refine xf (by simpa [h1,w1,show acc.length≤274877906943 by omega]) ?_|apply wB|apply Qab|refine wX ?_|refine wY ?_|refine wR ?_|refine wK ?_|refine wE ?_)
   have:=ih (b+1) (acc++[((a:Int),(b:Int))]) (by omega) (by simp;omega)
   simp only [List.append_assoc,List.cons_append,List.nil_append] at this
   simp [row]
   exact this
theorem Qrc (n:Nat) (hn:n≤1000):Ev tb Qsz [] [I n] [] ⟨O2 (prs n),[],[],[]⟩:=by
 have loop:∀ (m a:Nat) (acc:List (Int×Int)),a+m=n→acc.length+m * m≤1000000 →
  wp tb (.loop Qw5) { T:=[(0,I n),(3,O2 acc),(4,I a)],loc:=[],M:=[] }
  (fun ex st=>ex=.exit 0∧st={ T:=[(0,I n),(3,O2 (acc++Qsc a m)),(4,I n),(9,Bo false)],loc:=[],M:=[] }):=by
  intro m
  induction m with
  | zero =>
    intro a acc ha hl
    have h3:a=n:=ha
    subst h3
    refine wW ?_
    repeat (first|apply wA|apply wS|refine wr (by simp;with_reducible rfl) ?_|refine wq (by simp;with_reducible rfl) ?_|refine wt (by simpa) ?_|refine wf (by simpa) ?_|refine xt (by simpa) ?_|refine xf (by simpa) ?_|apply wB|apply Qab|refine wX ?_|refine wY ?_|refine wR ?_|refine wK ?_|refine wE ?_)
    simp [Qsc]
  | succ m ih =>
    intro a acc ha hl
    have h1:(a:Int) < n:=by omega
    have w1:IntKind.i64.wrap ((a:Int)+1)=((a+1:Nat):Int):=Qbg (by omega)
    have e:(m+1) * (m+1)=m * m+2 * m+1:=by rw [Nat.add_mul,Nat.mul_add];omega
    refine wW ?_
    repeat (first|apply wA|apply wS|refine wr (by simp [h1,w1];with_reducible rfl) ?_|refine wq (by simp [h1,w1];with_reducible rfl) ?_|refine wt (by simpa [h1,w1]) ?_|refine wf (by simpa [h1,w1]) ?_|refine xt (by simpa [h1,w1]) ?_|refine xf (by simpa [h1,w1]) ?_|apply wB|apply Qab|refine wX ?_|refine wY ?_|refine wR ?_|refine wK ?_|refine wE ?_)
    refine Qah (Qz3 n a hn m (a+1) acc (by omega) (by omega)) ?_
    rintro ex st ⟨rfl,rfl⟩
    simp only [if_true]
    repeat (first|apply wA|apply wS|refine wr (by simp [h1,w1];with_reducible rfl) ?_|refine wq (by simp [h1,w1];with_reducible rfl) ?_|refine wt (by simpa [h1,w1]) ?_|refine wf (by simpa [h1,w1]) ?_|refine xt (by simpa [h1,w1]) ?_|refine xf (by simpa [h1,w1]) ?_|apply wB|apply Qab|refine wX ?_|refine wY ?_|refine wR ?_|refine wK ?_|refine wE ?_)
    have:=ih (a+1) (acc++row a (a+1) m) (by omega) (by simp [Qp3];omega)
    simp only [List.append_assoc] at this
    exact this
 have hnn:n * n≤1000 * 1000:=Nat.mul_le_mul hn hn
 refine cW Jya rfl ?_
 repeat (first|apply wA|apply wS|refine wr (by simp;with_reducible rfl) ?_|refine wq (by simp;with_reducible rfl) ?_|refine wt (by simpa) ?_|refine wf (by simpa) ?_|refine xt (by simpa) ?_|refine xf (by simpa) ?_|apply wB|apply Qab|refine wX ?_|refine wY ?_|refine wR ?_|refine wK ?_|refine wE ?_)
 refine Qah (loop n 0 [] (by omega) (by simp;omega)) ?_
 rintro ex st ⟨rfl,rfl⟩
 simp only [if_true]
 repeat (first|apply wA|apply wS|refine wr (by simp;with_reducible rfl) ?_|refine wq (by simp;with_reducible rfl) ?_|refine wt (by simpa) ?_|refine wf (by simpa) ?_|refine xt (by simpa) ?_|refine xf (by simpa) ?_|apply wB|apply Qab|refine wX ?_|refine wY ?_|refine wR ?_|refine wK ?_|refine wE ?_)
 simp [Jau,prs]
abbrev Gr (n:Int) (es:List (Int×Int)) (c:Bool:=false):IV:=.agg [I n,L2 es c]
abbrev OG (n:Int) (es:List (Int×Int)):IV:=.agg [I n,O2 es]
def isE (a b:Int) (e:Int×Int):Bool:=decide (e.1=a) && decide (e.2=b) || decide (e.1=b) && decide (e.2=a)
def has (es:List (Int×Int)) (a b:Int):Bool:=es.any (isE a b)
theorem Que (n:Int) (es:List (Int×Int)) (c:Bool) (a b:Int) (hl:es.length≤100000) :
 Ev tb Qyh [] [Gr n es c,I a,I b] [] ⟨Bo (has es a b),[],[],[]⟩:=by
 have loop:∀ (m i:Nat) (B:Qac),i+m=es.length→wp tb (.loop Jc7) { T:=[(1,I a),(2,I b),(3,.bptr 0 0 0),(7,I i)],loc:=[I n,L2 es c]::B,M:=[] }
  (fun ex st=>(ex=.exit 0∧has (es.drop i) a b=false∧∃ B',st={ T:=[(1,I a),(2,I b),(3,.bptr 0 0 0),(7,I es.length),(13,Bo false)],loc:=[I n,L2 es c]::B',M:=[] }) ∨
    ex=.ret∧has (es.drop i) a b=true∧∃ B',st={ T:=[(6,Bo true)],loc:=[I n,L2 es c]::B',M:=[] }):=by
  intro m
  induction m with
  | zero =>
    intro i B hi
    have h3:i=es.length:=hi
    subst h3
    refine wW ?_
    repeat (first|apply wA|apply wS|refine wr (by simp;with_reducible rfl) ?_|refine wq (by simp;with_reducible rfl) ?_|refine wt (by simpa) ?_|refine wf (by simpa) ?_|refine xt (by simpa) ?_|refine xf (by simpa) ?_|apply wB|apply Qab|refine wX ?_|refine wY ?_|refine wR ?_|refine wK ?_|refine wE ?_)
    refine .inl ⟨rfl,by simp [has],_,rfl⟩
  | succ m ih =>
    intro i B hi
    have hi2:i < es.length:=by omega
    have w1:IntKind.i64.wrap ((i:Int)+1)=((i+1:Nat):Int):=Qbg (by omega)
    have hd:es.drop i=es[i]::es.drop (i+1):=List.drop_eq_getElem_cons hi2
    refine wW ?_
    repeat (first|apply wA|apply wS|refine wr (by simp [hi2,w1];with_reducible rfl) ?_|refine wq (by simp [hi2,w1];with_reducible rfl) ?_|refine wt (by simpa [hi2,w1]) ?_|refine wf (by simpa [hi2,w1]) ?_|refine xt (by simpa [hi2,w1]) ?_|refine xf (by simpa [hi2,w1]) ?_|apply wB|apply Qab|refine wX ?_|refine wY ?_|refine wR ?_|refine wK ?_|refine wE ?_)
    have hh:∀ (x:Int×Int) r,has (x::r) a b=(isE a b x || has r a b):=fun _ _=>rfl
    rw [hd,hh]
    generalize es[i]=e
    obtain ⟨p,q⟩:=e
    have hn:=ih (i+1) (B++[[I p,I q]]) (by omega)
    have key:∃ st1,Qai (Qco tb) { T:=[(1,I a),(2,I b),(3,.bptr 0 0 0),(7,I i),(8,.bptr 0 (B.length+1) 0)],loc:=[I n,L2 es c]::(B++[[I p,I q]]),M:=[] }
     (match Qik with | .reg ops _ _=>ops | _=>[])=some st1 ∧
     st1.cut [1,2,3,7,42]={ T:=[(1,I a),(2,I b),(3,.bptr 0 0 0),(7,I i),(42,Bo (isE a b (p,q)))],loc:=[I n,L2 es c]::(B++[[I p,I q]]),M:=[] }:=by
     by_cases h1:p=a
     · subst h1
       by_cases h2:q=b
       · subst h2
         exact ⟨_,by simp [Qik];with_reducible rfl,by simp [isE]⟩
       · by_cases h3:p=b
         · subst h3
           exact ⟨_,by simp [Qik,h2];with_reducible rfl,by simp [isE,h2]⟩
         · exact ⟨_,by simp [Qik,h2,h3];with_reducible rfl,by simp [isE,h2,h3]⟩
     · by_cases h3:p=b
       · subst h3
         by_cases h4:q=a
         · subst h4
           exact ⟨_,by simp [Qik,h1];with_reducible rfl,by simp [isE,h1]⟩
         · exact ⟨_,by simp [Qik,h1,h4];with_reducible rfl,by simp [isE,h1,h4]⟩
       · exact ⟨_,by simp [Qik,h1,h3];with_reducible rfl,by simp [isE,h1,h3]⟩
    obtain ⟨st1,k1,k2⟩:=key
    refine Qb4 k1 k2 ?_
    cases hx:isE a b (p,q) with
    | true =>
      repeat (first|apply wA|apply wS|refine wr (by simp;with_reducible rfl) ?_|refine wq (by simp;with_reducible rfl) ?_|refine wt (by simpa) ?_|refine wf (by simpa) ?_|refine xt (by simpa) ?_|refine xf (by simpa) ?_|apply wB|apply Qab|refine wX ?_|refine wY ?_|refine wR ?_|refine wK ?_|refine wE ?_)
      exact .inr ⟨rfl,by simp,_,rfl⟩
    | false =>
      repeat (first|apply wA|apply wS|refine wr (by simp [w1];with_reducible rfl) ?_|refine wq (by simp [w1];with_reducible rfl) ?_|refine wt (by simpa [w1]) ?_|refine wf (by simpa [w1]) ?_|refine xt (by simpa [w1]) ?_|refine xf (by simpa [w1]) ?_|apply wB|apply Qab|refine wX ?_|refine wY ?_|refine wR ?_|refine wK ?_|refine wE ?_)
      rw [Bool.false_or]
      exact hn
 refine cW zt130 rfl ?_
 repeat (first|apply wA|apply wS|refine wr (by simp;with_reducible rfl) ?_|refine wq (by simp;with_reducible rfl) ?_|refine wt (by simpa) ?_|refine wf (by simpa) ?_|refine xt (by simpa) ?_|refine xf (by simpa) ?_|apply wB|apply Qab|refine wX ?_|refine wY ?_|refine wR ?_|refine wK ?_|refine wE ?_)
 refine Qah (loop es.length 0 [] (by simp)) ?_
 rintro ex st (⟨rfl,h,B',rfl⟩ | ⟨rfl,h,B',rfl⟩)
 · simp only [if_true]
   repeat (first|apply wA|apply wS|refine wr (by simp;with_reducible rfl) ?_|refine wq (by simp;with_reducible rfl) ?_|refine wt (by simpa) ?_|refine wf (by simpa) ?_|refine xt (by simpa) ?_|refine xf (by simpa) ?_|apply wB|apply Qab|refine wX ?_|refine wY ?_|refine wR ?_|refine wK ?_|refine wE ?_)
   simp only [List.drop_zero] at h
   simp [Qvr,h]
 · simp only [List.drop_zero] at h
   simp [Qvr,h]
def Qz8 (n:Nat) (es:List (Int×Int)):List (Int×Int):=(prs n).filter fun e=>!has es e.1 e.2
theorem Qiy {α} {p:α→Bool} {xs:List α} {i:Nat} (h:i < xs.length):(xs.take (i+1)).filter p=(xs.take i).filter p++(if p xs[i] then [xs[i]] else []):=by
 rw [List.take_succ_eq_append_getElem h,List.filter_append]
 congr 1
 simp [List.filter_cons]
theorem Qg6 (n:Nat) (hn:n≤100) (es:List (Int×Int)) (c:Bool) (hl:es.length≤100000) :
 Ev tb Qxo [] [Gr n es c] [] ⟨OG n (Qz8 n es),[],[],[]⟩:=by
 have e1:=Qaa (Qrc n (by omega))
 have e2:=fun a b=>Qaa (Que n es c a b hl)
 have hpl:(prs n).length≤100000:=by
  have:=Qje n 0
  have h2:n * n≤100 * 100:=Nat.mul_le_mul hn hn
  simp only [prs];omega
 have loop:∀ (m i:Nat),i+m=(prs n).length→wp tb (.loop Jc4) { T:=[(1,.bptr 0 0 0),(2,.bptr 0 1 0),(3,.bptr 0 2 0),(4,O2 (prs n)),(5,I i)],loc:=[[I n,L2 es c],[I 0,.lst 0 [] true],[I n,O2 (((prs n).take i).filter fun e=>!has es e.1 e.2)]],M:=[] }
  (fun ex st=>ex=.exit 0∧st={ T:=[(1,.bptr 0 0 0),(2,.bptr 0 1 0),(3,.bptr 0 2 0),(4,O2 (prs n)),(5,I (prs n).length),(16,Bo false)],loc:=[[I n,L2 es c],[I 0,.lst 0 [] true],[I n,O2 (Qz8 n es)]],M:=[] }):=by
  intro m
  induction m with
  | zero =>
    intro i hi
    have h3:i=(prs n).length:=hi
    subst h3
    refine wW ?_
    repeat (first|apply wA|apply wS|refine wr (by simp;with_reducible rfl) ?_|refine wq (by simp;with_reducible rfl) ?_|refine wt (by simpa) ?_|refine wf (by simpa) ?_|refine xt (by simpa) ?_|refine xf (by simpa) ?_|apply wB|apply Qab|refine wX ?_|refine wY ?_|refine wR ?_|refine wK ?_|refine wE ?_)
    simp [Qz8]
  | succ m ih =>
    intro i hi
    have hi2:i < (prs n).length:=by omega
    have w1:IntKind.i64.wrap ((i:Int)+1)=((i+1:Nat):Int):=Qbg (by omega)
    have hn:=ih (i+1) (by omega)
    rw [Qiy hi2] at hn
    have hfl:(((prs n).take i).filter fun e=>!has es e.1 e.2).length≤100000:=by
     have h1:=List.length_filter_le (fun e:Int×Int=>!has es e.1 e.2) ((prs n).take i)
     simp at h1;omega
    generalize (((prs n).take i).filter fun e=>!has es e.1 e.2)=acc at hn hfl
    cases hx:has es (prs n)[i].1 (prs n)[i].2 with
    | true =>
      rw [hx] at hn
      simp at hn
      refine wW ?_
      repeat (first|apply wA|apply wS|refine wr (by simp [e2,hi2,hx,w1];with_reducible rfl) ?_|refine wq (by simp [e2,hi2,hx,w1];with_reducible rfl) ?_|refine wt (by simpa [e2,hi2,hx,w1]) ?_|refine wf (by simpa [e2,hi2,hx,w1]) ?_|refine xt (by simpa [e2,hi2,hx,w1]) ?_|refine xf (by simpa [e2,hi2,hx,w1]) ?_|apply wB|apply Qab|refine wX ?_|refine wY ?_|refine wR ?_|refine wK ?_|refine wE ?_)
      exact hn
    | false =>
      rw [hx] at hn
      simp at hn
      refine wW ?_
      repeat (first|apply wA|apply wS|refine wr (by simp [e2,hi2,hx,w1,show acc.length≤274877906943 by omega];with_reducible rfl) ?_|refine wq (by simp [e2,hi2,hx,w1,show acc.length≤274877906943 by omega];with_reducible rfl) ?_|refine wt (by simpa [e2,hi2,hx,w1,show acc.length≤274877906943 by omega]) ?_|refine wf (by simpa [e2,hi2,hx,w1,show acc.length≤274877906943 by omega]) ?_|refine xt (by simpa [e2,hi2,hx,w1,show acc.length≤274877906943 by omega]) ?_|refine xf (by simpa [e2,hi2,hx,w1,show acc.length≤274877906943 by omega]) ?_|apply wB|apply Qab|refine wX ?_|refine wY ?_|refine wR ?_|refine wK ?_|refine wE ?_)
      have hb:acc.length≤274877906943:=by omega
      refine Qm1 (by simp [hi2,hb];with_reducible rfl) (by simp;with_reducible rfl) ?_ ?_
      · intro p hp
        simp only [List.mem_cons,List.not_mem_nil,or_false] at hp
        subst hp
        exact ⟨_,by simp [hi2,hb];with_reducible rfl,by simp⟩
      repeat (first|apply wA|apply wS|refine wr (by simp [w1];with_reducible rfl) ?_|refine wq (by simp [w1];with_reducible rfl) ?_|refine wt (by simpa [w1]) ?_|refine wf (by simpa [w1]) ?_|refine xt (by simpa [w1]) ?_|refine xf (by simpa [w1]) ?_|apply wB|apply Qab|refine wX ?_|refine wY ?_|refine wR ?_|refine wK ?_|refine wE ?_)
      exact hn
 refine cW zt122 rfl ?_
 repeat (first|apply wA|apply wS|refine wr (by simp [e1];with_reducible rfl) ?_|refine wq (by simp [e1];with_reducible rfl) ?_|refine wt (by simpa [e1]) ?_|refine wf (by simpa [e1]) ?_|refine xt (by simpa [e1]) ?_|refine xf (by simpa [e1]) ?_|apply wB|apply Qab|refine wX ?_|refine wY ?_|refine wR ?_|refine wK ?_|refine wE ?_)
 have:=loop (prs n).length 0 (by simp)
 simp at this
 refine Qah this ?_
 rintro ex st ⟨rfl,rfl⟩
 simp only [if_true]
 repeat (first|apply wA|apply wS|refine wr (by simp;with_reducible rfl) ?_|refine wq (by simp;with_reducible rfl) ?_|refine wt (by simpa) ?_|refine wf (by simpa) ?_|refine xt (by simpa) ?_|refine xf (by simpa) ?_|apply wB|apply Qab|refine wX ?_|refine wY ?_|refine wR ?_|refine wK ?_|refine wE ?_)
 simp [Qzp]
end Go.Idl
namespace Go.Idl
open Go
theorem Qf7 {f:Lab} {fn:Qa4} (hf:tb f=some fn) {lent:List Nat} {args:List IV} {M:List Qac} (hl:lent.all fn.keep.contains=true) {P:Ret→Prop}
 (h:wp tb fn.body { T:=args.zipIdx.map fun (v,i)=>(i,v),loc:=[],M:=M } fun ex st=>(ex=.normal ∨ ex=.ret)∧∃ r,P r∧Qld fn lent st=some r):∃ r,P r∧Ev tb f lent args M r:=by
 obtain ⟨ex,st',⟨h1,r,hP,h2⟩,-,back⟩:=Qbf h
 exact ⟨r,hP,cW hf hl (back _ ⟨h1,h2⟩)⟩
theorem Qlo {α} {acc xs:List α} {i:Nat} (h:i < xs.length) (hs:acc.Sublist (xs.take i)):(acc++[xs[i]]).Sublist (xs.take (i+1)):=by
 rw [List.take_succ_eq_append_getElem h]
 exact hs.append (List.Sublist.refl _)
theorem Qm2 {α} {acc xs:List α} {i:Nat} (hs:acc.Sublist (xs.take i)):acc.Sublist (xs.take (i+1)) :=
 hs.trans (List.take_sublist_take_left (by omega))
end Go.Idl
namespace Go.Idl
theorem Jy2 {B:Int} (hB:0≤B):∀ {xs:List Int},(∀ x ∈ xs,0≤x∧x≤B)→0≤xs.sum∧xs.sum≤B * xs.length
 | [],_=>by simp
 | x::r,h=>by
   have h1:=h x (by simp)
   have h2:=Jy2 hB (xs:=r) (fun y hy=>h y (by simp [hy]))
   have e:B * ((x::r).length:Int)=B * r.length+B:=by
    rw [List.length_cons,Int.natCast_add,Int.mul_add];simp
   rw [List.sum_cons,e]
   omega
def slk (s:List Int) (k:Nat):Int:=(k:Int) * ((k:Int) - 1) - (s.take k).sum+((s.drop k).map fun x:Int=>min x (k:Int)).sum
def Qex (d:List Int):List Int:=(List.range d.length).map fun i=>slk (fall d) (i+1)
theorem Qk6 (d:List Int):(Qex d).length=d.length:=by simp [Qex]
def least (xs:List Int):Int:=xs.foldl (fun n x=>min n x) 0
end Go.Idl
namespace Go.Idl
open Go
abbrev Z:IV:=.lst 0 [] true
def Few (xs:List Int):Prop:=xs.length≤7∧∀ x ∈ xs,0≤x∧x≤6
theorem Qd2 {xs:List Int} (h:Qgw xs=true):Few xs:=by
 simp only [Qgw,Qba,decide_eq_true_eq,List.all_eq_true] at h
 refine ⟨h.1,fun x hx=>?_⟩
 have:=h.2 x hx
 omega
theorem Few.small {xs:List Int} (h:Few xs):Qrd xs:=by
 refine ⟨by have:=h.1;omega,fun k=>?_⟩
 have h1:=Jy2 (B:=6) (by omega) (xs:=xs.take k) (fun x hx=>h.2 x (List.mem_of_mem_take hx))
 have h2:(xs.take k).length≤7:=by have:=h.1;simp;omega
 omega
theorem Few.take {xs:List Int} (h:Few xs) (k:Nat):Few (xs.take k):=⟨by have:=h.1;simp;omega,fun x hx=>h.2 x (List.mem_of_mem_take hx)⟩
theorem Few.drop {xs:List Int} (h:Few xs) (k:Nat):Few (xs.drop k):=⟨by have:=h.1;simp;omega,fun x hx=>h.2 x (List.mem_of_mem_drop hx)⟩
theorem Few.fall {xs:List Int} (h:Few xs):Few (fall xs):=⟨by rw [Qm6];exact h.1,fun x hx=>h.2 x (Jc0.1 hx)⟩
theorem Few.sum {xs:List Int} (h:Few xs):0≤xs.sum∧xs.sum≤42:=by
 have h1:=Jy2 (B:=6) (by omega) h.2
 have:=h.1
 omega
def Qt3 (n:Nat) (g:Nat→Int):List Int:=(List.range n).map g
theorem Ql5 {n i:Nat} (g:Nat→Int) (h:i < n):(Qt3 i g++List.replicate (n - i) 0).set i (g i)=Qt3 (i+1) g++List.replicate (n - (i+1)) 0:=by
 have e:n - i=(n - (i+1))+1:=by omega
 rw [e,List.replicate_succ,List.set_append_right _ _ (by simp [Qt3])]
 simp [Qt3,List.range_succ]
@[simp] theorem Jxk (n:Nat):List.replicate n [IV.sc (.int .i64 0)]=Qb8 (List.replicate n 0):=by simp [Qb8]
theorem Jh6 (xs:List Int) (c:Bool) (F:Lab) (caps:List IV) (M:List Qac) (g:Nat→Int) (hv:Qgw xs=true)
 (hF:∀ k,k < xs.length→Ev tb F [] (I k::caps) (M++[[]]) ⟨I (g k),[],M++[[]],[]⟩) :
 Ev tb Jqv [] [L xs c,.fn F caps] M ⟨O (Qt3 xs.length g),[],M,[]⟩:=by
 have hl:xs.length≤7:=(Qd2 hv).1
 have e1:=Qaa (Qe4 xs c (by omega))
 have loop:∀ (m i:Nat),i+m=xs.length→wp tb (.loop Jqj) { T:=[(1,.fn F caps),(5,O (Qt3 i g++List.replicate (xs.length - i) 0)),(14,I xs.length),(15,I i)],loc:=[],M:=M }
  (fun ex st=>ex=.exit 0∧st={ T:=[(1,.fn F caps),(5,O (Qt3 xs.length g)),(14,I xs.length),(15,I xs.length),(16,Bo false)],loc:=[],M:=M }):=by
  intro m
  induction m with
  | zero =>
    intro i hi
    have h3:i=xs.length:=hi
    subst h3
    refine wW ?_
    repeat (first|apply wA|apply wS|refine wr (by simp;with_reducible rfl) ?_|refine wq (by simp;with_reducible rfl) ?_|refine wt (by simp) ?_|refine wf (by simp) ?_|refine xt (by simp) ?_|refine xf (by simp) ?_|apply wB|apply Qab|refine wX ?_|refine wY ?_|refine wR ?_|refine wK ?_|refine wE ?_)
    exact ⟨rfl,rfl⟩
  | succ m ih =>
    intro i hi
    have hi2:i < xs.length:=by omega
    have e2:=Qaa (hF i hi2)
    have w2:IntKind.i64.wrap ((i:Int)+1)=((i+1:Nat):Int):=Qbg (by omega)
    have hln:(Qt3 i g).length=i:=by simp [Qt3]
    have hlt:i < i+(xs.length - i):=by omega
    have hs:=Ql5 g hi2
    refine wW ?_
    repeat (first|apply wA|apply wS|refine wr (by simp [e2,hi2,w2,hln,hlt,hs];with_reducible rfl) ?_|refine wq (by simp [e2,hi2,w2,hln,hlt,hs];with_reducible rfl) ?_|refine wt (by simp [e2,hi2,w2,hln,hlt,hs]) ?_|refine wf (by simp [e2,hi2,w2,hln,hlt,hs]) ?_|refine xt (by simp [e2,hi2,w2,hln,hlt,hs]) ?_|refine xf (by simp [e2,hi2,w2,hln,hlt,hs]) ?_|apply wB|apply Qab|refine wX ?_|refine wY ?_|refine wR ?_|refine wK ?_|refine wE ?_)
    exact ih (i+1) (by omega)
 refine cW zt35 rfl ?_
 repeat (first|apply wA|apply wS|refine wr (by simp [e1,hv,show xs.length≤274877906944 by omega];with_reducible rfl) ?_|refine wq (by simp [e1,hv,show xs.length≤274877906944 by omega];with_reducible rfl) ?_|refine wt (by simp [e1,hv,show xs.length≤274877906944 by omega]) ?_|refine wf (by simp [e1,hv,show xs.length≤274877906944 by omega]) ?_|refine xt (by simp [e1,hv,show xs.length≤274877906944 by omega]) ?_|refine xf (by simp [e1,hv,show xs.length≤274877906944 by omega]) ?_|apply wB|apply Qab|refine wX ?_|refine wY ?_|refine wR ?_|refine wK ?_|refine wE ?_)
 have:=loop xs.length 0 (by simp)
 simp [Qt3] at this
 refine Qah this ?_
 rintro ex st ⟨rfl,rfl⟩
 simp only [if_true]
 repeat (first|apply wA|apply wS|refine wr (by simp;with_reducible rfl) ?_|refine wq (by simp;with_reducible rfl) ?_|refine wt (by simp) ?_|refine wf (by simp) ?_|refine xt (by simp) ?_|refine xf (by simp) ?_|apply wB|apply Qab|refine wX ?_|refine wY ?_|refine wR ?_|refine wK ?_|refine wE ?_)
 simp [Jw9,Qt3]
 rw [List.take_of_length_le (by simp)]
theorem Qio (a b:Int):(if b < a then b else a)=min a b:=by split <;> omega
theorem Jfj (a b:Int):(if a < b then a else b)=min a b:=by split <;> omega
theorem Qkt (s:List Int) (i:Nat) (hi:i < s.length) (hs:Few s) :
 Ev tb Jjv [] [I i,.bptr 0 0 0] [[[O s]],[]] ⟨I (slk s (i+1)),[],[[[O s]],[]],[]⟩:=by
 have hl:=hs.1
 have e1:=Qaa (Qvt (s.take (i+1)) false (hs.take _).small)
 have hb1:=(hs.take (i+1)).sum
 have hd:=hs.drop (i+1)
 generalize hr:s.drop (i+1)=r at hd
 have hrl:r.length=s.length - (i+1):=by rw [← hr];simp
 have loop:∀ (m j:Nat) (n:Int),j+m=r.length→0≤n+100→n≤1000+6 * j→wp tb (.loop Ju8) { T:=[(1,.bptr 0 0 0),(4,I ((i+1:Nat):Int)),(5,I n),(21,.arr (.B 0 0) 0 [] 1 (i+1) (s.length - (i+1)) false),(22,I ((s.length - (i+1):Nat):Int)),(23,I j)],loc:=[],M:=[[[O s]],[]] }
  (fun ex st=>ex=.exit 0∧st={ T:=[(1,.bptr 0 0 0),(4,I ((i+1:Nat):Int)),(5,I (n+((r.drop j).map fun x:Int=>min x ((i+1:Nat):Int)).sum)),(21,.arr (.B 0 0) 0 [] 1 (i+1) (s.length - (i+1)) false),(22,I ((s.length - (i+1):Nat):Int)),(23,I ((s.length - (i+1):Nat):Int)),(24,Bo false)],loc:=[],M:=[[[O s]],[]] }):=by
  intro m
  induction m with
  | zero =>
    intro j n hj h0 h1
    obtain ⟨h1,h2⟩:=Qfs hj
    have h3:j=s.length - (i+1):=by omega
    subst h3
    refine wW ?_
    repeat (first|apply wA|apply wS|refine wr (by simp;with_reducible rfl) ?_|refine wq (by simp;with_reducible rfl) ?_|refine wt (by simp) ?_|refine wf (by simp) ?_|refine xt (by simp) ?_|refine xf (by simp) ?_|apply wB|apply Qab|refine wX ?_|refine wY ?_|refine wR ?_|refine wK ?_|refine wE ?_)
    rw [h2];simp
  | succ m ih =>
    intro j n hj h0 h1
    obtain ⟨hi2,h2,h3⟩:=Qfk hj
    have hx:=hd.2 _ h3
    have hlr:=hd.1
    have w2:IntKind.i64.wrap ((j:Int)+1)=((j+1:Nat):Int):=Qbg (by omega)
    have w3:IntKind.i64.wrap (n+min r[j] ((i:Int)+1))=n+min r[j] ((i:Int)+1):=Qae (by omega) (by omega)
    rw [h2]
    refine wW ?_
    have hj3:i+1+j < s.length:=by omega
    have hj4:j < s.length - (i+1):=by omega
    have hg:s[i+1+j]=r[j]:=by subst hr;simp
    repeat (first|apply wA|apply wS|refine wr (by simp [hi2,w2,w3,Qio,hj3,hj4,hg];with_reducible rfl) ?_|refine wq (by simp [hi2,w2,w3,Qio,hj3,hj4,hg];with_reducible rfl) ?_|refine wt (by simp [hi2,w2,w3,Qio,hj3,hj4,hg]) ?_|refine wf (by simp [hi2,w2,w3,Qio,hj3,hj4,hg]) ?_|refine xt (by simp [hi2,w2,w3,Qio,hj3,hj4,hg]) ?_|refine xf (by simp [hi2,w2,w3,Qio,hj3,hj4,hg]) ?_|apply wB|apply Qab|refine wX ?_|refine wY ?_|refine wR ?_|refine wK ?_|refine wE ?_)
    have:=ih (j+1) (n+min r[j] ((i:Int)+1)) (by omega) (by omega) (by omega)
    simp only [List.map_cons,List.sum_cons,Int.natCast_add,Int.natCast_one,Int.add_assoc] at this ⊢
    exact this
 have hq:(((i:Int)+1) * (i:Int))≤1000∧0≤((i:Int)+1) * (i:Int):=by
  have h1:((i:Int)+1) * (i:Int)≤7 * 7:=Int.mul_le_mul (by omega) (by omega) (by omega) (by omega)
  exact ⟨by omega,Int.mul_nonneg (by omega) (by omega)⟩
 generalize hm:((i:Int)+1) * (i:Int)=q at hq
 have w1:IntKind.i64.wrap ((i:Int)+1)=(i:Int)+1:=Qae (by omega) (by omega)
 have w2:IntKind.i64.wrap (i:Int)=(i:Int):=Qae (by omega) (by omega)
 have w3:IntKind.i64.wrap q=q:=Qae (by omega) (by omega)
 have w4:IntKind.i64.wrap (q - (s.take (i+1)).sum)=q - (s.take (i+1)).sum:=Qae (by omega) (by omega)
 refine cW zt19 rfl ?_
 repeat (first|apply wA|apply wS|refine wr (by simp [e1,w1,w2,w3,w4,hm,hi,show i+1≤s.length by omega];with_reducible rfl) ?_|refine wq (by simp [e1,w1,w2,w3,w4,hm,hi,show i+1≤s.length by omega];with_reducible rfl) ?_|refine wt (by simp [e1,w1,w2,w3,w4,hm,hi,show i+1≤s.length by omega]) ?_|refine wf (by simp [e1,w1,w2,w3,w4,hm,hi,show i+1≤s.length by omega]) ?_|refine xt (by simp [e1,w1,w2,w3,w4,hm,hi,show i+1≤s.length by omega]) ?_|refine xf (by simp [e1,w1,w2,w3,w4,hm,hi,show i+1≤s.length by omega]) ?_|apply wB|apply Qab|refine wX ?_|refine wY ?_|refine wR ?_|refine wK ?_|refine wE ?_)
 have:=loop r.length 0 (q - (s.take (i+1)).sum) (by simp) (by omega) (by omega)
 refine Qah this ?_
 rintro ex st ⟨rfl,rfl⟩
 simp only [if_true]
 repeat (first|apply wA|apply wS|refine wr (by simp;with_reducible rfl) ?_|refine wq (by simp;with_reducible rfl) ?_|refine wt (by simp) ?_|refine wf (by simp) ?_|refine xt (by simp) ?_|refine xf (by simp) ?_|apply wB|apply Qab|refine wX ?_|refine wY ?_|refine wR ?_|refine wK ?_|refine wE ?_)
 have h1:(((i+1:Nat):Int) - 1)=(i:Int):=by omega
 simp only [slk,hr,h1]
 rw [show ((i+1:Nat):Int) * (i:Int)=q from hm]
 simp [Jx0]
theorem Qqh (d:List Int) (c:Bool) (hv:Qgw d=true):Ev tb Jvt [] [L d c] [] ⟨O (Qex d),[],[],[]⟩:=by
 have hf:=(Qd2 hv).fall
 have hl:=(Qd2 hv).1
 have e1:=Qaa (Qts d c (by omega))
 have e2:=Qaa (Jh6 d c Jjv [.bptr 0 0 0] [[[O (fall d)]]] (fun k=>slk (fall d) (k+1)) hv (fun k hk=>Qkt (fall d) k (by rw [Qm6];exact hk) hf))
 refine cW zt18 rfl ?_
 repeat (first|apply wA|apply wS|refine wr (by simp [e1,e2];with_reducible rfl) ?_|refine wq (by simp [e1,e2];with_reducible rfl) ?_|refine wt (by simp [e1,e2]) ?_|refine wf (by simp [e1,e2]) ?_|refine xt (by simp [e1,e2]) ?_|refine xf (by simp [e1,e2]) ?_|apply wB|apply Qab|refine wX ?_|refine wY ?_|refine wR ?_|refine wK ?_|refine wE ?_)
 simp [Jx2,Qex,Qt3]
def Qdl (d:List Int):Int:=idx (fun x=>decide (x < 0)) 0 (Qex d)+1
theorem Qj9 (p:Int→Bool):∀ (xs:List Int) (i:Int),0≤i→-1≤idx p i xs∧idx p i xs≤i+xs.length
 | [],i,h=>by simp [idx];omega
 | x::r,i,h=>by
   have:=Qj9 p r (i+1) (by omega)
   unfold idx
   split
   · simp;omega
   · simp;omega
theorem Qju (d:List Int) (c:Bool) (hv:Qgw d=true):Ev tb zl7 [] [L d c] [] ⟨I (Qdl d),[],[],[]⟩:=by
 have hl:=(Qd2 hv).1
 have e1:=Qaa (Qqh d c hv)
 have e2:=Qaa (Qis (Qex d) false zl8 [] [[]] _ (by rw [Qk6];omega) (fun x _=>Qgu x [[],[]]))
 have hb:=Qj9 (fun x=>decide (x < 0)) (Qex d) 0 (by omega)
 rw [Qk6] at hb
 have w1:IntKind.i64.wrap (idx (fun x=>decide (x < 0)) 0 (Qex d)+1)=Qdl d:=Qae (by omega) (by omega)
 refine cW zt7 rfl ?_
 repeat (first|apply wA|apply wS|refine wr (by simp [e1,e2,w1];with_reducible rfl) ?_|refine wq (by simp [e1,e2,w1];with_reducible rfl) ?_|refine wt (by simp [e1,e2,w1]) ?_|refine wf (by simp [e1,e2,w1]) ?_|refine xt (by simp [e1,e2,w1]) ?_|refine xf (by simp [e1,e2,w1]) ?_|apply wB|apply Qab|refine wX ?_|refine wY ?_|refine wR ?_|refine wK ?_|refine wE ?_)
 simp [zi7]
def Qc7 (d:List Int):Bool:=Qgw d && decide (d.sum % 2=0) && (Qex d).all fun x=>decide (0≤x)
theorem Jbv (p:Int→Bool) (xs:List Int) (i:Int) (h:0≤i):(idx p i xs+1=0) ↔ xs.any p=false:=by
 have h1:=Qig p xs i h
 have h2:=(Qj9 p xs i h).1
 cases hx:xs.any p with
 | true=>rw [hx] at h1;simp at h1;simp;omega
 | false=>rw [hx] at h1;simp at h1;simp;omega
theorem Qh4 (d:List Int):Qdl d=0 ↔ ((Qex d).all fun x=>decide (0≤x))=true:=by
 rw [Qdl,Jbv _ _ _ (by omega)]
 rw [← Bool.not_eq_true,List.all_eq_true,List.any_eq_true]
 constructor
 · intro h x hx
   have:=fun hp=>h ⟨x,hx,hp⟩
   simp at this ⊢
   exact this
 · rintro h ⟨x,hx,hp⟩
   have:=h x hx
   simp at this hp
   omega
theorem Qof (d:List Int) (c:Bool) (hl:d.length≤1000000):Ev tb Joi [] [L d c] [] ⟨Bo (Qc7 d),[],[],[]⟩:=by
 have e1:=Qaa (Qe4 d c hl)
 cases hv:Qgw d with
 | false =>
   refine cW zt10 rfl ?_
   repeat (first|apply wA|apply wS|refine wr (by simp [e1,hv];with_reducible rfl) ?_|refine wq (by simp [e1,hv];with_reducible rfl) ?_|refine wt (by simp [e1,hv]) ?_|refine wf (by simp [e1,hv]) ?_|refine xt (by simp [e1,hv]) ?_|refine xf (by simp [e1,hv]) ?_|apply wB|apply Qab|refine wX ?_|refine wY ?_|refine wR ?_|refine wK ?_|refine wE ?_)
   simp [Jjl,Qc7,hv]
 | true =>
   have hs:=(Qd2 hv)
   have e2:=Qaa (Qvt d c hs.small)
   have e3:=Qaa (Qju d c hv)
   have h2:d.sum.tmod 2=d.sum % 2:=Int.tmod_eq_emod_of_nonneg hs.sum.1
   have hr:=Qh4 d
   have w1:IntKind.i64.wrap (d.sum.tmod 2)=d.sum % 2:=by rw [h2];exact Qae (by omega) (by omega)
   by_cases hp:d.sum % 2=0
   · refine cW zt10 rfl ?_
     repeat (first|apply wA|apply wS|refine wr (by simp [e1,hv,e2,e3,w1,h2,hp];with_reducible rfl) ?_|refine wq (by simp [e1,hv,e2,e3,w1,h2,hp];with_reducible rfl) ?_|refine wt (by simp [e1,hv,e2,e3,w1,h2,hp]) ?_|refine wf (by simp [e1,hv,e2,e3,w1,h2,hp]) ?_|refine xt (by simp [e1,hv,e2,e3,w1,h2,hp]) ?_|refine xf (by simp [e1,hv,e2,e3,w1,h2,hp]) ?_|apply wB|apply Qab|refine wX ?_|refine wY ?_|refine wR ?_|refine wK ?_|refine wE ?_)
     simp [Jjl,Qc7,hv,hp]
     rw [Bool.eq_iff_iff,beq_iff_eq];exact hr
   · refine cW zt10 rfl ?_
     repeat (first|apply wA|apply wS|refine wr (by simp [e1,hv,e2,e3,w1,h2,hp];with_reducible rfl) ?_|refine wq (by simp [e1,hv,e2,e3,w1,h2,hp];with_reducible rfl) ?_|refine wt (by simp [e1,hv,e2,e3,w1,h2,hp]) ?_|refine wf (by simp [e1,hv,e2,e3,w1,h2,hp]) ?_|refine xt (by simp [e1,hv,e2,e3,w1,h2,hp]) ?_|refine xf (by simp [e1,hv,e2,e3,w1,h2,hp]) ?_|apply wB|apply Qab|refine wX ?_|refine wY ?_|refine wR ?_|refine wK ?_|refine wE ?_)
     simp [Jjl,Qc7,hv,hp,hr]
end Go.Idl
namespace Go.Idl
open Go
def Qou (o:List Int) (i:Nat):List Int:=o.set i (o.getD i 0+1)
def Qi3 (o:List Int) (es:List (Int×Int)):List Int:=es.foldl (fun o e=>Qou (Qou o e.1.toNat) e.2.toNat) o
def Qdu (n:Nat) (es:List (Int×Int)):List Int:=Qi3 (List.replicate n 0) es
def Qds (n:Nat) (es:List (Int×Int)):Prop:=∀ e ∈ es,0≤e.1∧e.1 < n∧0≤e.2∧e.2 < n
theorem Qgn (o:List Int) (i:Nat):(Qou o i).length=o.length:=by simp [Qou]
theorem Qum {o:List Int} {i:Nat} (h:i < o.length):Qou o i=o.set i (o[i]+1):=by
 simp [Qou,List.getD_eq_getElem?_getD,List.getElem?_eq_getElem h]
theorem Qlh {o:List Int} {i:Nat} {B:Int} (h:∀ x ∈ o,0≤x∧x≤B) (hB:0≤B):∀ x ∈ Qou o i,0≤x∧x≤B+1:=by
 intro x hx
 rcases List.mem_or_eq_of_mem_set hx with hx | rfl
 · have:=h x hx;omega
 · rw [List.getD_eq_getElem?_getD]
   cases he:o[i]? with
   | none=>simp;omega
   | some y=>have:=h y (List.mem_of_getElem? he);simp;omega
theorem Qdx:∀ (es:List (Int×Int)) (o:List Int),(Qi3 o es).length=o.length
 | [],o=>rfl
 | e::es,o=>by simp only [Qi3,List.foldl_cons];rw [← Qi3,Qdx es];simp [Qgn]
theorem Jkb {n:Nat} {es:List (Int×Int)} (h:es.Sublist (prs n)):Qds n es:=by
 intro e he
 have:=Qrs n 0 e (h.mem he)
 omega
theorem Qw4 {n:Nat} (hn:n≤7) {es:List (Int×Int)} (h:es.Sublist (prs n)):es.length≤49:=by
 have h1:=h.length_le
 have:=Qje n 0
 have h2:n * n≤7 * 7:=Nat.mul_le_mul hn hn
 simp only [prs] at h1;omega
def Low (B:Int) (d:List Int):Prop:=∀ x ∈ d,-B≤x∧x≤B
theorem Low.set {B:Int} {d:List Int} (h:Low B d) {i:Nat} {x:Int} (hx:-B≤x∧x≤B):Low B (d.set i x):=by
 intro y hy
 rcases List.mem_or_eq_of_mem_set hy with hy | rfl
 · exact h y hy
 · exact hx
theorem Low.app {B:Int} {d:List Int} (h:Low B d) {x:Int} (hx:-B≤x∧x≤B):Low B (d++[x]):=by
 intro y hy
 rcases List.mem_append.1 hy with hy | hy
 · exact h y hy
 · simp at hy;subst hy;exact hx
theorem Low.mono {B C:Int} {d:List Int} (h:Low B d) (hc:B≤C):Low C d:=fun x hx=>by have:=h x hx;omega
theorem Jpw (a b:Int):(if a < b then b else a)=max a b:=by split <;> omega
end Go.Idl
namespace Go.Idl
open Go
def tab (t:List (List Int)):List (List IV):=t.map fun r=>[.lst 1 (Qb8 r) false]
def oab (t:List (List Int)):List (List IV):=t.map fun r=>[.own 1 (Qb8 r)]
abbrev OT (t:List (List Int)):IV:=.own 1 (oab t)
@[simp] theorem tab_len (t:List (List Int)):(tab t).length=t.length:=by simp [tab]
@[simp] theorem oab_len (t:List (List Int)):(oab t).length=t.length:=by simp [oab]
@[simp] theorem Jhs:oab []=[]:=rfl
@[simp] theorem tab_get? (t:List (List Int)) (i:Nat):(tab t)[i]? = t[i]?.map fun r=>[IV.lst 1 (Qb8 r) false]:=by simp [tab]
@[simp] theorem tab_get (t:List (List Int)) (i:Nat) (h:i < (tab t).length):(tab t)[i]=[IV.lst 1 (Qb8 (t[i]'(by simpa [tab] using h))) false]:=by simp [tab]
@[simp] theorem oab_get? (t:List (List Int)) (i:Nat):(oab t)[i]? = t[i]?.map fun r=>[IV.own 1 (Qb8 r)]:=by simp [oab]
@[simp] theorem oab_get (t:List (List Int)) (i:Nat) (h:i < (oab t).length):(oab t)[i]=[IV.own 1 (Qb8 (t[i]'(by simpa [oab] using h)))]:=by simp [oab]
@[simp] theorem Jyf (t:List (List Int)) (r:List Int):oab t++[[IV.own 1 (Qb8 r)]]=oab (t++[r]):=by simp [oab]
@[simp] theorem Jy8 (t:List (List Int)) (i:Nat) (r:List Int):(oab t).set i [IV.own 1 (Qb8 r)]=oab (t.set i r):=by simp [oab,List.map_set]
@[simp] theorem Jx6 (t:List (List Int)) (n:Nat):(oab t).take n=oab (t.take n):=by simp [oab,List.map_take]
@[simp] theorem frz_oab (t:List (List Int)):Qcw (oab t)=tab t:=by
  induction t with
  | nil=>rfl
  | cons x xs ih =>
    simp only [oab,tab,List.map_cons,Qcw,Qdf,Qhr] at *
    rw [ih]
    have:Qcw (Qb8 x)=Qb8 x:=by
     clear ih
     induction x with
     | nil=>rfl
     | cons y ys ih=>simp only [Qb8,List.map_cons,Qcw,Qdf,Qhr] at *;rw [ih]
    rw [this]
@[simp] theorem Jxl (t:List (List Int)):((tab t).all fun x=>x.all IV.plain1)=true:=by
  induction t with
  | nil=>rfl
  | cons x xs ih=>simp only [tab,List.map_cons,List.all_cons] at *;rw [ih];rfl
@[simp] theorem Jql (t:List (List Int)):Qbw (oab t)=true:=by
  induction t with
  | nil=>rfl
  | cons x xs ih =>
    simp only [oab,List.map_cons,Qbw,Qbc,Qb5] at *
    rw [ih,Qud];rfl
def g2 (t:List (List Int)) (a b:Nat):Int:=(t.getD a []).getD b 0
end Go.Idl
namespace Go.Idl
def Qro {α:Type} (lt:α→α→Bool) (x:α):List α→List α→List α
 | [],B=>x::B
 | a::r,B=>if lt x a then Qro lt x r (a::B) else r.reverse++a::x::B
def Qne {α:Type} (lt:α→α→Bool):List α→List α→List α
 | S,[]=>S
 | S,x::r=>Qne lt (Qro lt x S.reverse []) r
theorem Qfa {α:Type} (lt:α→α→Bool) (x:α):∀ (r B:List α),(Qro lt x r B).Perm (r.reverse++x::B)
 | [],B=>.refl _
 | a::r,B=>by
   unfold Qro
   split
   · refine (Qfa lt x r (a::B)).trans ?_
     rw [List.reverse_cons,List.append_assoc]
     exact List.Perm.append_left _ (.swap _ _ _)
   · rw [List.reverse_cons,List.append_assoc]
     exact .refl _
theorem Qmx {α:Type} (lt:α→α→Bool) (x:α) (S:List α):(Qro lt x S.reverse []).length=S.length+1:=by
 have:=(Qfa lt x S.reverse []).length_eq
 simpa using this
abbrev Srt {α:Type} (lt:α→α→Bool) (l:List α):Prop:=l.Pairwise fun a b=>lt b a=false
theorem Qr6 {α:Type} {lt:α→α→Bool} (ht:∀ a b c,lt b a=false→lt c b=false→lt c a=false) (ha:∀ a b,lt a b=true→lt b a=false) (x:α):∀ (r B:List α),Srt lt (r.reverse++B)→(∀ b ∈ B,lt x b=true)→Srt lt (Qro lt x r B)
 | [],B,h,hb=>List.pairwise_cons.2 ⟨fun b hb'=>ha _ _ (hb b hb'),by simpa using h⟩
 | a::r,B,h,hb=>by
   rw [List.reverse_cons,List.append_assoc] at h
   unfold Qro
   split
   · rename_i hx
     refine Qr6 ht ha x r (a::B) h fun b hb'=>?_
     rcases List.mem_cons.1 hb' with rfl | hb'
     · exact hx
     · exact hb b hb'
   · rename_i hx
     have hx:lt x a=false:=by simpa using hx
     obtain ⟨h1,h2,h3⟩:=List.pairwise_append.1 (show Srt lt (r.reverse++a::B) from h)
     have h2:=List.pairwise_cons.1 h2
     refine List.pairwise_append.2 ⟨h1,?_,fun p hp q hq=>?_⟩
     · refine List.pairwise_cons.2 ⟨fun q hq=>?_,List.pairwise_cons.2 ⟨fun b hb'=>ha _ _ (hb b hb'),h2.2⟩⟩
       rcases List.mem_cons.1 hq with rfl | hq
       · exact hx
       · exact h2.1 q hq
     · have h4:=h3 p hp a (by simp)
       rcases List.mem_cons.1 hq with rfl | hq
       · exact h4
       · rcases List.mem_cons.1 hq with rfl | hq
         · exact ht _ _ _ h4 hx
         · exact h3 p hp q (by simp [hq])
theorem Qp4 {α:Type} {lt:α→α→Bool} (ht:∀ a b c,lt b a=false→lt c b=false→lt c a=false) (ha:∀ a b,lt a b=true→lt b a=false):∀ (r S:List α),Srt lt S→Srt lt (Qne lt S r)∧(Qne lt S r).Perm (S++r)
 | [],S,h=>⟨h,by simp [Qne]⟩
 | x::r,S,h=>by
   obtain ⟨h1,h2⟩:=Qp4 ht ha r (Qro lt x S.reverse []) (Qr6 ht ha x _ _ (by simpa using h) (by simp))
   refine ⟨h1,h2.trans ?_⟩
   have:=Qfa lt x S.reverse []
   rw [List.reverse_reverse] at this
   refine (this.append_right r).trans ?_
   rw [List.append_assoc];exact .refl _
theorem Qnp {α:Type} (lt:α→α→Bool):∀ (r S:List α),(Qne lt S r).Perm (S++r)
 | [],S=>by simp [Qne]
 | x::r,S=>by
   refine (Qnp lt r _).trans ?_
   have:=Qfa lt x S.reverse []
   rw [List.reverse_reverse] at this
   refine (this.append_right r).trans ?_
   rw [List.append_assoc];exact .refl _
end Go.Idl
namespace Go.Idl
open Go
abbrev vE (x:Int×Int):IV:=.agg [I x.1,I x.2]
theorem Qbr {α:Type} {A Z:List α} {a x:α}:(A++a::x::Z)[A.length+1]? = some x:=by
 rw [List.getElem?_append_right (by omega)];simp
theorem Qbs {α:Type} {A Z:List α} {a:α}:(A++a::Z)[A.length]? = some a:=by
 rw [List.getElem?_append_right (by omega)];simp
theorem Qb6 {α:Type} {A Z:List α} {a x:α}:((A++a::x::Z).set (A.length+1) a).set A.length x=A++x::a::Z:=by
 rw [List.set_append_right _ _ (by omega),List.set_append_right _ _ (by omega)]
 simp
def Qz7 {α:Type} (v:α→IV) (F:Lab) (caps:List IV) (lt:α→α→Bool) (D:α→Prop) (M:List Qac):Prop :=
 ∀ x y,D x→D y→∃ k:Int,decide (k < 0)=lt x y∧Ev tb F [] (v x::v y::caps) (M++[[]]) ⟨I k,[],M++[[]],[]⟩
theorem icle (F:Lab) (caps:List IV) (lt:(Int×Int)→(Int×Int)→Bool) (D:(Int×Int)→Prop) (M:List Qac) (hc:Qz7 vE F caps lt D M) (P:List (Int×Int)) (n i:Int) (x:(Int×Int)) (rest:List (Int×Int)):∀ (k:Nat) (A B:List (Int×Int)),A.length=k→P.length+k+B.length+rest.length≤1000000→D x→(∀ a ∈ A,D a) →
 wp tb (.loop Jde) { T:=[(0,O2 ((P++A)++x::(B++rest))),(1,I P.length),(2,I n),(3,.fn F caps),(8,I i),(9,I (P.length+k:Nat))],loc:=[],M:=M }
  (fun ex st=>ex=.exit 2∧∃ k':Int,st={ T:=[(0,O2 (P++(Qro lt x A.reverse B++rest))),(1,I P.length),(2,I n),(3,.fn F caps),(8,I i),(9,I k'),(34,Bo false)],loc:=[],M:=M }):=by
 intro k
 induction k with
 | zero =>
   intro A B hA hl hx hD
   have:A=[]:=List.length_eq_zero_iff.1 hA
   subst this
   refine wW ?_
   repeat (first|apply wA|apply wS|refine wr (by simp;with_reducible rfl) ?_|refine wq (by simp;with_reducible rfl) ?_|refine wt (by simpa) ?_|refine wf (by simpa) ?_|refine xt (by simpa) ?_|refine xf (by simpa) ?_|apply wB|apply Qab|refine wX ?_|refine wY ?_|refine wR ?_|refine wK ?_|refine wE ?_)
   exact ⟨rfl,_,by simp [Qro];rfl⟩
 | succ k ih =>
   intro A B hA hl hx hD
   obtain ⟨A',a,rfl⟩:∃ A' a,A=A'++[a]:=⟨A.dropLast,A.getLast (by intro h;subst h;simp at hA),(List.dropLast_concat_getLast _).symm⟩
   have hA':A'.length=k:=by simpa using hA
   subst hA'
   obtain ⟨c,hc1,hc2⟩:=hc x a hx (hD a (by simp))
   have e1:=Qaa hc2
   have hPl:(P++A').length=P.length+A'.length:=by simp
   obtain ⟨Q,hQ⟩:∃ Q,Q=P++A':=⟨_,rfl⟩
   have hQl:P.length+A'.length=Q.length:=by rw [hQ];simp
   have hre:P++(A'++[a])++x::(B++rest)=Q++a::x::(B++rest):=by rw [hQ];simp
   rw [hre]
   have hk:((P.length+(A'.length+1):Nat):Int)=(Q.length:Int)+1:=by omega
   rw [hk]
   have w1:IntKind.i64.wrap (Q.length:Int)=(Q.length:Int):=Qae (by omega) (by omega)
   have w2:(P.length:Int) < (Q.length:Int)+1:=by omega
   by_cases hx0:c < 0
   · have hlt:lt x a=true:=by rw [← hc1];exact decide_eq_true hx0
     have:=ih A' (a::B) rfl (by simp;omega) hx (fun b hb=>hD b (by simp [hb]))
     rw [show P++A'++x::(a::B++rest)=Q++x::(a::(B++rest)) by rw [hQ];simp,hQl] at this
     refine wW ?_
     repeat (first|apply wA|apply wS|refine wr (by simp [e1,hx0,w1,w2,Qbs,Qbr,Qb6];with_reducible rfl) ?_|refine wq (by simp [e1,hx0,w1,w2,Qbs,Qbr,Qb6];with_reducible rfl) ?_|refine wt (by simpa [e1,hx0,w1,w2,Qbs,Qbr,Qb6]) ?_|refine wf (by simpa [e1,hx0,w1,w2,Qbs,Qbr,Qb6]) ?_|refine xt (by simpa [e1,hx0,w1,w2,Qbs,Qbr,Qb6]) ?_|refine xf (by simpa [e1,hx0,w1,w2,Qbs,Qbr,Qb6]) ?_|apply wB|apply Qab|refine wX ?_|refine wY ?_|refine wR ?_|refine wK ?_|refine wE ?_)
     simp only [List.reverse_append,List.reverse_cons,List.reverse_nil,List.nil_append,List.cons_append]
     simp only [Qro,hlt,if_true]
     exact this
   · have hlt:lt x a=false:=by rw [← hc1];exact decide_eq_false hx0
     refine wW ?_
     repeat (first|apply wA|apply wS|refine wr (by simp [e1,hx0,w1,w2,Qbs,Qbr,Qb6];with_reducible rfl) ?_|refine wq (by simp [e1,hx0,w1,w2,Qbs,Qbr,Qb6];with_reducible rfl) ?_|refine wt (by simpa [e1,hx0,w1,w2,Qbs,Qbr,Qb6]) ?_|refine wf (by simpa [e1,hx0,w1,w2,Qbs,Qbr,Qb6]) ?_|refine xt (by simpa [e1,hx0,w1,w2,Qbs,Qbr,Qb6]) ?_|refine xf (by simpa [e1,hx0,w1,w2,Qbs,Qbr,Qb6]) ?_|apply wB|apply Qab|refine wX ?_|refine wY ?_|refine wR ?_|refine wK ?_|refine wE ?_)
     refine ⟨rfl,(Q.length:Int)+1,?_⟩
     simp only [List.reverse_append,List.reverse_cons,List.reverse_nil,List.nil_append,List.cons_append]
     simp only [Qro,hlt,Bool.false_eq_true,if_false,List.reverse_reverse]
     rw [hQ]
     simp
theorem isoe (F:Lab) (caps:List IV) (lt:(Int×Int)→(Int×Int)→Bool) (D:(Int×Int)→Prop) (M:List Qac) (hc:Qz7 vE F caps lt D M) (P Q:List (Int×Int)) (n:Int):∀ (r S:List (Int×Int)),n=(P.length+S.length+r.length:Nat)→P.length+S.length+r.length+Q.length≤900000→(∀ x ∈ S,D x)→(∀ x ∈ r,D x) →
 wp tb (.loop Jd2) { T:=[(0,O2 (P++(S++(r++Q)))),(1,I P.length),(2,I n),(3,.fn F caps),(8,I (P.length+S.length:Nat))],loc:=[],M:=M }
  (fun ex st=>ex=.exit 0∧∃ k':Int,st={ T:=[(0,O2 (P++(Qne lt S r++Q))),(1,I P.length),(2,I n),(3,.fn F caps),(8,I k'),(14,Bo false)],loc:=[],M:=M }):=by
 intro r
 induction r with
 | nil =>
   intro S hn hl hS hr
   have h1:¬ ((P.length:Int)+(S.length:Int)) < n:=by simp at hn;omega
   refine wW ?_
   repeat (first|apply wA|apply wS|refine wr (by simp [h1];with_reducible rfl) ?_|refine wq (by simp [h1];with_reducible rfl) ?_|refine wt (by simpa [h1]) ?_|refine wf (by simpa [h1]) ?_|refine xt (by simpa [h1]) ?_|refine xf (by simpa [h1]) ?_|apply wB|apply Qab|refine wX ?_|refine wY ?_|refine wR ?_|refine wK ?_|refine wE ?_)
   exact ⟨rfl,_,by simp [Qne];rfl⟩
 | cons x r ih =>
   intro S hn hl hS hr
   simp only [List.length_cons] at hn hl
   have h1:(P.length:Int)+(S.length:Int) < n:=by omega
   have w1:IntKind.i64.wrap ((P.length:Int)+(S.length:Int)+1)=(P.length:Int)+(S.length:Int)+1:=by rw [Qae (by omega) (by omega)]
   have hin:=icle F caps lt D M hc P n ((P.length:Int)+S.length) x (r++Q) S.length S [] rfl (by simp;omega) (hr x (by simp)) hS
   rw [show P++S++x::([]++(r++Q))=P++(S++(x::r++Q)) by simp,show ((P.length+S.length:Nat):Int)=(P.length:Int)+S.length by omega] at hin
   have hn2:=ih (Qro lt x S.reverse []) (by rw [Qmx];omega) (by rw [Qmx];omega) (fun y hy=>by
    have:=(Qfa lt x S.reverse []).mem_iff.1 hy
    simp only [List.reverse_reverse,List.mem_append,List.mem_cons,List.not_mem_nil,or_false] at this
    rcases this with h | rfl
    · exact hS y h
    · exact hr y (by simp)) (fun y hy=>hr y (by simp [hy]))
   rw [Qmx,show ((P.length+(S.length+1):Nat):Int)=(P.length:Int)+S.length+1 by omega] at hn2
   rw [show ((P.length+S.length:Nat):Int)=(P.length:Int)+S.length by omega]
   refine wW ?_
   repeat (first|apply wA|apply wS|refine wr (by simp [h1,w1];with_reducible rfl) ?_|refine wq (by simp [h1,w1];with_reducible rfl) ?_|refine wt (by simpa [h1,w1]) ?_|refine wf (by simpa [h1,w1]) ?_|refine xt (by simpa [h1,w1]) ?_|refine xf (by simpa [h1,w1]) ?_|apply wB|apply Qab|refine wX ?_|refine wY ?_|refine wR ?_|refine wK ?_|refine wE ?_)
   refine Qah hin ?_
   rintro ex st ⟨rfl,k',rfl⟩
   simp only [if_true]
   repeat (first|apply wA|apply wS|refine wr (by simp [h1,w1];with_reducible rfl) ?_|refine wq (by simp [h1,w1];with_reducible rfl) ?_|refine wt (by simpa [h1,w1]) ?_|refine wf (by simpa [h1,w1]) ?_|refine xt (by simpa [h1,w1]) ?_|refine xf (by simpa [h1,w1]) ?_|apply wB|apply Qab|refine wX ?_|refine wY ?_|refine wR ?_|refine wK ?_|refine wE ?_)
   exact hn2
theorem Jan (F:Lab) (caps:List IV) (lt:(Int×Int)→(Int×Int)→Bool) (D:(Int×Int)→Prop) (M:List Qac) (hc:Qz7 vE F caps lt D M) (P Q seg:List (Int×Int)) (hl:P.length+seg.length+Q.length≤800000) (hD:∀ x ∈ seg,D x) :
 Ev tb Qt9 [0] [O2 (P++(seg++Q)),I P.length,I (P.length+seg.length:Nat),.fn F caps] M ⟨.tup [],[O2 (P++(Qne lt [] seg++Q))],M,[]⟩:=by
 have w1:IntKind.i64.wrap ((P.length:Int)+1)=(P.length:Int)+1:=by rw [Qae (by omega) (by omega)]
 cases seg with
 | nil =>
   have h1:¬ (P.length:Int)+1 < ((P.length+([]:List (Int×Int)).length:Nat):Int):=by simp;omega
   simp only [List.length_nil,Nat.add_zero] at h1 ⊢
   refine cW Jtj rfl ?_
   repeat (first|apply wA|apply wS|refine wr (by simp [w1];with_reducible rfl) ?_|refine wq (by simp [w1];with_reducible rfl) ?_|refine wt (by simpa [w1]) ?_|refine wf (by simpa [w1]) ?_|refine xt (by simpa [w1]) ?_|refine xf (by simpa [w1]) ?_|apply wB|apply Qab|refine wX ?_|refine wY ?_|refine wR ?_|refine wK ?_|refine wE ?_)
   refine wW ?_
   repeat (first|apply wA|apply wS|refine wr (by simp [h1];with_reducible rfl) ?_|refine wq (by simp [h1];with_reducible rfl) ?_|refine wt (by simpa [h1]) ?_|refine wf (by simpa [h1]) ?_|refine xt (by simpa [h1]) ?_|refine xf (by simpa [h1]) ?_|apply wB|apply Qab|refine wX ?_|refine wY ?_|refine wR ?_|refine wK ?_|refine wE ?_)
   simp [Qx8,Qne]
 | cons x r =>
   have:=isoe F caps lt D M hc P Q (P.length+(x::r).length:Nat) r [x] (by simp;omega) (by simp at hl ⊢;omega) (fun y hy=>by simp at hy;subst hy;exact hD _ (by simp)) (fun y hy=>hD y (by simp [hy]))
   rw [show P++([x]++(r++Q))=P++(x::r++Q) by simp,show ((P.length+[x].length:Nat):Int)=(P.length:Int)+1 by simp] at this
   have hs:Qne lt [x] r=Qne lt [] (x::r):=by simp [Qne,Qro]
   rw [hs] at this
   generalize ((P.length+(x::r).length:Nat):Int)=n at *
   refine cW Jtj rfl ?_
   repeat (first|apply wA|apply wS|refine wr (by simp [w1];with_reducible rfl) ?_|refine wq (by simp [w1];with_reducible rfl) ?_|refine wt (by simpa [w1]) ?_|refine wf (by simpa [w1]) ?_|refine xt (by simpa [w1]) ?_|refine xf (by simpa [w1]) ?_|apply wB|apply Qab|refine wX ?_|refine wY ?_|refine wR ?_|refine wK ?_|refine wE ?_)
   refine Qah this ?_
   rintro ex st ⟨rfl,k',rfl⟩
   simp [Qx8]
end Go.Idl
namespace Go.Idl
open Go
def Qd1 (n:Nat) (but:Int):List Int:=((List.range n).map fun v:Nat=>(v:Int)).filter fun v=>decide (v ≠ but)
def nlI:List Int→IV
 | []=>Z
 | x::r=>O (x::r)
theorem Qfd (n:Nat) (but:Int) (hn:n≤1000):Ev tb Qo4 [] [I n,I but] [] ⟨nlI (Qd1 n but),[],[],[]⟩:=by
 have loop:∀ (m i:Nat),i+m=n→wp tb (.loop Jdm) { T:=[(1,I but),(5,nlI (Qd1 i but)),(7,I n),(8,I i)],loc:=[],M:=[] }
  (fun ex st=>ex=.exit 0∧st={ T:=[(1,I but),(5,nlI (Qd1 n but)),(7,I n),(8,I n),(9,Bo false)],loc:=[],M:=[] }):=by
  intro m
  induction m with
  | zero =>
    intro i hi
    have h3:i=n:=hi
    subst h3
    cases Qd1 i but with
    | nil =>
      simp only [nlI]
      refine wW ?_
      repeat (first|apply wA|apply wS|refine wr (by simp;with_reducible rfl) ?_|refine wq (by simp;with_reducible rfl) ?_|refine wt (by simpa) ?_|refine wf (by simpa) ?_|refine xt (by simpa) ?_|refine xf (by simpa) ?_|apply wB|apply Qab|refine wX ?_|refine wY ?_|refine wR ?_|refine wK ?_|refine wE ?_)
      exact ⟨rfl,rfl⟩
    | cons x r =>
      simp only [nlI]
      refine wW ?_
      repeat (first|apply wA|apply wS|refine wr (by simp;with_reducible rfl) ?_|refine wq (by simp;with_reducible rfl) ?_|refine wt (by simpa) ?_|refine wf (by simpa) ?_|refine xt (by simpa) ?_|refine xf (by simpa) ?_|apply wB|apply Qab|refine wX ?_|refine wY ?_|refine wR ?_|refine wK ?_|refine wE ?_)
      exact ⟨rfl,rfl⟩
  | succ m ih =>
    intro i hi
    have hi2:i < n:=by omega
    have w2:IntKind.i64.wrap ((i:Int)+1)=((i+1:Nat):Int):=Qbg (by omega)
    have hn2:=ih (i+1) (by omega)
    have hs:Qd1 (i+1) but=Qd1 i but++if (i:Int)=but then [] else [(i:Int)]:=by
     simp only [Qd1,List.range_succ,List.map_append,List.map_cons,List.map_nil,List.filter_append,List.filter_cons,List.filter_nil]
     congr 1
     by_cases h:(i:Int)=but <;> simp [h]
    rw [hs] at hn2
    have hal:(Qd1 i but).length≤i:=Nat.le_trans (List.length_filter_le _ _) (by simp)
    generalize Qd1 i but=A at *
    by_cases hb:but=(i:Int)
    · subst hb
      rw [if_pos rfl,List.append_nil] at hn2
      cases A with
      | nil =>
        rw [show nlI []=Z from rfl] at hn2 ⊢
        refine wW ?_
        repeat (first|apply wA|apply wS|refine wr (by simp [hi2,w2];with_reducible rfl) ?_|refine wq (by simp [hi2,w2];with_reducible rfl) ?_|refine wt (by simpa [hi2,w2]) ?_|refine wf (by simpa [hi2,w2]) ?_|refine xt (by simpa [hi2,w2]) ?_|refine xf (by simpa [hi2,w2]) ?_|apply wB|apply Qab|refine wX ?_|refine wY ?_|refine wR ?_|refine wK ?_|refine wE ?_)
        exact hn2
      | cons x r =>
        rw [show nlI (x::r)=O (x::r) from rfl] at hn2 ⊢
        refine wW ?_
        repeat (first|apply wA|apply wS|refine wr (by simp [hi2,w2];with_reducible rfl) ?_|refine wq (by simp [hi2,w2];with_reducible rfl) ?_|refine wt (by simpa [hi2,w2]) ?_|refine wf (by simpa [hi2,w2]) ?_|refine xt (by simpa [hi2,w2]) ?_|refine xf (by simpa [hi2,w2]) ?_|apply wB|apply Qab|refine wX ?_|refine wY ?_|refine wR ?_|refine wK ?_|refine wE ?_)
        exact hn2
    · have hb':¬ (i:Int)=but:=fun h=>hb h.symm
      rw [if_neg hb'] at hn2
      cases A with
      | nil =>
        rw [List.nil_append,show nlI [(i:Int)]=O [(i:Int)] from rfl] at hn2
        rw [show nlI []=Z from rfl]
        refine wW ?_
        repeat (first|apply wA|apply wS|refine wr (by simp [hi2,w2,hb'];with_reducible rfl) ?_|refine wq (by simp [hi2,w2,hb'];with_reducible rfl) ?_|refine wt (by simpa [hi2,w2,hb']) ?_|refine wf (by simpa [hi2,w2,hb']) ?_|refine xt (by simpa [hi2,w2,hb']) ?_|refine xf (by simpa [hi2,w2,hb']) ?_|apply wB|apply Qab|refine wX ?_|refine wY ?_|refine wR ?_|refine wK ?_|refine wE ?_)
        exact hn2
      | cons x r =>
        rw [show nlI (x::r++[(i:Int)])=O (x::r++[(i:Int)]) from rfl] at hn2
        rw [show nlI (x::r)=O (x::r) from rfl]
        have hal1:r.length+1+1≤274877906944:=by simp at hal;omega
        have hat:(x::r).take (r.length+1)=x::r:=List.take_of_length_le (by simp)
        refine wW ?_
        repeat (first|apply wA|apply wS|refine wr (by simp [hi2,w2,hb',hal1,hat];with_reducible rfl) ?_|refine wq (by simp [hi2,w2,hb',hal1,hat];with_reducible rfl) ?_|refine wt (by simpa [hi2,w2,hb',hal1,hat]) ?_|refine wf (by simpa [hi2,w2,hb',hal1,hat]) ?_|refine xt (by simpa [hi2,w2,hb',hal1,hat]) ?_|refine xf (by simpa [hi2,w2,hb',hal1,hat]) ?_|apply wB|apply Qab|refine wX ?_|refine wY ?_|refine wR ?_|refine wK ?_|refine wE ?_)
        exact hn2
 refine cW zt212 rfl ?_
 repeat (first|apply wA|apply wS|refine wr (by simp;with_reducible rfl) ?_|refine wq (by simp;with_reducible rfl) ?_|refine wt (by simpa) ?_|refine wf (by simpa) ?_|refine xt (by simpa) ?_|refine xf (by simpa) ?_|apply wB|apply Qab|refine wX ?_|refine wY ?_|refine wR ?_|refine wK ?_|refine wE ?_)
 refine Qah (loop n 0 (by simp)) ?_
 rintro ex st ⟨rfl,rfl⟩
 try simp only [if_true]
 cases Qd1 n but with
 | nil =>
   simp only [nlI]
   repeat (first|apply wA|apply wS|refine wr (by simp;with_reducible rfl) ?_|refine wq (by simp;with_reducible rfl) ?_|refine wt (by simpa) ?_|refine wf (by simpa) ?_|refine xt (by simpa) ?_|refine xf (by simpa) ?_|apply wB|apply Qab|refine wX ?_|refine wY ?_|refine wR ?_|refine wK ?_|refine wE ?_)
   simp [Qu6]
 | cons x r =>
   simp only [nlI]
   repeat (first|apply wA|apply wS|refine wr (by simp;with_reducible rfl) ?_|refine wq (by simp;with_reducible rfl) ?_|refine wt (by simpa) ?_|refine wf (by simpa) ?_|refine xt (by simpa) ?_|refine xf (by simpa) ?_|apply wB|apply Qab|refine wX ?_|refine wY ?_|refine wR ?_|refine wK ?_|refine wE ?_)
   simp [Qu6]
end Go.Idl
namespace Go.Idl
open Go
@[simp] theorem get_mid {α:Type} (A bs:List α) (x:α):(A++x::bs)[A.length]? = some x:=by simp
@[simp] theorem Je8 {α:Type} (A bs:List α) (x y:α):(A++x::bs).set A.length y=A++y::bs:=by
  rw [List.set_append_right _ _ (Nat.le_refl _)];simp
@[simp] theorem Jxw {α:Type} (A:List α) (x y:α):(A++[x]).set A.length y=A++[y]:=Je8 A [] x y
theorem Qgl (code:List Int) (c:Bool) (hc:Qgs code) (cnt:Nat) (hn:cnt≤1000000) (n:Int) (hn2:n≤1000000) (A bs:Qac) (Ms:List Qac) :
 ∃ v:Nat,(1≤n→(v:Int) < n)∧Ev tb Qhx [] [.bptr 0 A.length 0,I n] ((A++R code c cnt::bs)::Ms) ⟨I v,[],(A++R code c ((cnt+1:Nat):Int)::bs)::Ms,[]⟩:=by
 have w1:IntKind.i64.wrap ((cnt:Int)+1)=((cnt+1:Nat):Int):=Qbg (by omega)
 by_cases h1:n < 1
 · refine ⟨0,by omega,?_⟩
   refine cW Jb7 rfl ?_
   repeat (first|apply wA|apply wS|refine wr (by simp [w1,h1];with_reducible rfl) ?_|refine wq (by simp [w1,h1];with_reducible rfl) ?_|refine wt (by simpa [w1,h1]) ?_|refine wf (by simpa [w1,h1]) ?_|refine xt (by simpa [w1,h1]) ?_|refine xf (by simpa [w1,h1]) ?_|apply wB|apply Qab|refine wX ?_|refine wY ?_|refine wR ?_|refine wK ?_|refine wE ?_)
   simp [Qqp]
 by_cases h2:code=[]
 · subst h2
   refine ⟨0,by omega,?_⟩
   refine cW Jb7 rfl ?_
   repeat (first|apply wA|apply wS|refine wr (by simp [w1,h1];with_reducible rfl) ?_|refine wq (by simp [w1,h1];with_reducible rfl) ?_|refine wt (by simpa [w1,h1]) ?_|refine wf (by simpa [w1,h1]) ?_|refine xt (by simpa [w1,h1]) ?_|refine xf (by simpa [w1,h1]) ?_|apply wB|apply Qab|refine wX ?_|refine wY ?_|refine wR ?_|refine wK ?_|refine wE ?_)
   simp [Qqp]
 have h2':¬ (code.length:Int)=0:=by
  have:code.length ≠ 0:=fun h=>h2 (List.length_eq_zero_iff.1 h)
  omega
 have w2:IntKind.i64.wrap (cnt:Int)=(cnt:Int):=Qt1 (by omega)
 have hn0:¬ n=0:=by omega
 by_cases h3:cnt < code.length
 · have hb:=hc.2 code[cnt] (List.getElem_mem h3)
   have w3:IntKind.i64.wrap code[cnt]=code[cnt]:=Qae (by omega) (by omega)
   have hr:=Qli hb.1 (n:=n) (by omega)
   obtain ⟨v,hv⟩:=Int.eq_ofNat_of_zero_le hr.1
   rw [hv] at hr
   refine ⟨v,fun _=>hr.2,?_⟩
   refine cW Jb7 rfl ?_
   repeat (first|apply wA|apply wS|refine wr (by simp [w1,w2,h1,h2,h2',h3,w3,hn0,hv];with_reducible rfl) ?_|refine wq (by simp [w1,w2,h1,h2,h2',h3,w3,hn0,hv];with_reducible rfl) ?_|refine wt (by simpa [w1,w2,h1,h2,h2',h3,w3,hn0,hv]) ?_|refine wf (by simpa [w1,w2,h1,h2,h2',h3,w3,hn0,hv]) ?_|refine xt (by simpa [w1,w2,h1,h2,h2',h3,w3,hn0,hv]) ?_|refine xf (by simpa [w1,w2,h1,h2,h2',h3,w3,hn0,hv]) ?_|apply wB|apply Qab|refine wX ?_|refine wY ?_|refine wR ?_|refine wK ?_|refine wE ?_)
   simp [Qqp]
 have hl0:0 < code.length:=by omega
 have hlen:=hc.1
 obtain ⟨i1,hi1,m1⟩:∃ i1:Nat,i1 < code.length∧(cnt:Int).tmod (code.length:Int)=(i1:Int) :=
  ⟨cnt % code.length,Nat.mod_lt _ hl0,rfl⟩
 obtain ⟨i2,hi2,m2⟩:∃ i2:Nat,i2 < code.length∧((cnt:Int) * 7+3).tmod (code.length:Int)=(i2:Int) :=
  ⟨(cnt * 7+3) % code.length,Nat.mod_lt _ hl0,rfl⟩
 obtain ⟨q,hq,m3⟩:∃ q:Nat,q≤cnt∧(cnt:Int).tdiv (code.length:Int)=(q:Int) :=
  ⟨cnt / code.length,Nat.div_le_self _ _,rfl⟩
 have hb1:=hc.2 code[i1] (List.getElem_mem hi1)
 have hb2:=hc.2 code[i2] (List.getElem_mem hi2)
 generalize hx1:code[i1]=b1 at hb1
 generalize hx2:code[i2]=b2 at hb2
 have v1:IntKind.i64.wrap b1=b1:=Qae (by omega) (by omega)
 have v2:IntKind.i64.wrap b2=b2:=Qae (by omega) (by omega)
 have v3:IntKind.i64.wrap (b1 * 131)=b1 * 131:=Qae (by omega) (by omega)
 have v4:IntKind.i64.wrap (b2 * 1117)=b2 * 1117:=Qae (by omega) (by omega)
 have v5:IntKind.i64.wrap (b1 * 131+b2 * 1117)=b1 * 131+b2 * 1117:=Qae (by omega) (by omega)
 have v6:IntKind.i64.wrap ((cnt:Int) * 7)=(cnt:Int) * 7:=Qae (by omega) (by omega)
 have v7:IntKind.i64.wrap ((cnt:Int) * 7+3)=(cnt:Int) * 7+3:=Qae (by omega) (by omega)
 have v8:IntKind.i64.wrap ((cnt:Int) * 29)=(cnt:Int) * 29:=Qae (by omega) (by omega)
 have v9:IntKind.i64.wrap (q:Int)=(q:Int):=Qae (by omega) (by omega)
 have v10:IntKind.i64.wrap ((q:Int) * 53)=(q:Int) * 53:=Qae (by omega) (by omega)
 have v11:IntKind.i64.wrap (b1 * 131+b2 * 1117+(cnt:Int) * 29)=b1 * 131+b2 * 1117+(cnt:Int) * 29:=Qae (by omega) (by omega)
 obtain ⟨x,hx,ex⟩:∃ x:Nat,x < 2 ^ 40∧b1 * 131+b2 * 1117+(cnt:Int) * 29+(q:Int) * 53=(x:Int) :=
  ⟨(b1 * 131+b2 * 1117+(cnt:Int) * 29+(q:Int) * 53).toNat,by omega,by omega⟩
 have v12:IntKind.i64.wrap (x:Int)=(x:Int):=Qae (by omega) (by omega)
 obtain ⟨y,hy,ey⟩:∃ y:Nat,y < 2 ^ 40∧(x:Int).tdiv 64=(y:Int):=⟨x / 64,by omega,rfl⟩
 have ey2:(x:Int) / 64=(y:Int):=ey
 have v13:IntKind.i64.wrap (y:Int)=(y:Int):=Qae (by omega) (by omega)
 obtain ⟨z,hz,ez⟩:=Jll x y hx hy
 have hr:=Qli (x:=(z:Int)) (by omega) (n:=n) (by omega)
 obtain ⟨v,hv⟩:=Int.eq_ofNat_of_zero_le hr.1
 rw [hv] at hr
 refine ⟨v,fun _=>hr.2,?_⟩
 refine cW Jb7 rfl ?_
 repeat (first|apply wA|apply wS|refine wr (by simp [w1,w2,h1,h2,h2',h3,hn0,m1,m2,m3,hi1,hi2,hx1,hx2,v1,v2,v3,v4,v5,v6,v7,v8,v9,v10,v11,ex,v12,ey,ey2,v13,ez,hv];with_reducible rfl) ?_|refine wq (by simp [w1,w2,h1,h2,h2',h3,hn0,m1,m2,m3,hi1,hi2,hx1,hx2,v1,v2,v3,v4,v5,v6,v7,v8,v9,v10,v11,ex,v12,ey,ey2,v13,ez,hv];with_reducible rfl) ?_|refine wt (by simpa [w1,w2,h1,h2,h2',h3,hn0,m1,m2,m3,hi1,hi2,hx1,hx2,v1,v2,v3,v4,v5,v6,v7,v8,v9,v10,v11,ex,v12,ey,ey2,v13,ez,hv]) ?_|refine wf (by simpa [w1,w2,h1,h2,h2',h3,hn0,m1,m2,m3,hi1,hi2,hx1,hx2,v1,v2,v3,v4,v5,v6,v7,v8,v9,v10,v11,ex,v12,ey,ey2,v13,ez,hv]) ?_|refine xt (by simpa [w1,w2,h1,h2,h2',h3,hn0,m1,m2,m3,hi1,hi2,hx1,hx2,v1,v2,v3,v4,v5,v6,v7,v8,v9,v10,v11,ex,v12,ey,ey2,v13,ez,hv]) ?_|refine xf (by simpa [w1,w2,h1,h2,h2',h3,hn0,m1,m2,m3,hi1,hi2,hx1,hx2,v1,v2,v3,v4,v5,v6,v7,v8,v9,v10,v11,ex,v12,ey,ey2,v13,ez,hv]) ?_|apply wB|apply Qab|refine wX ?_|refine wY ?_|refine wR ?_|refine wK ?_|refine wE ?_)
 simp [Qqp]
theorem Je6 (code:List Int) (c:Bool) (hc:Qgs code) (cnt:Nat) (hn:cnt≤1000000) (xs:List Int) (d:Bool) (hl:0 < xs.length∧xs.length≤1000) (A bs:Qac) (Ms:List Qac) :
 ∃ x:Int,x ∈ xs∧Ev tb Qoj [] [.bptr 0 A.length 0,L xs d] ((A++R code c cnt::bs)::Ms) ⟨I x,[],(A++R code c ((cnt+1:Nat):Int)::bs)::Ms,[]⟩:=by
 obtain ⟨v,hv,e⟩:=Qgl code c hc cnt hn (xs.length:Int) (by omega) A bs (Ms++[[]])
 have hv:=hv (by omega)
 have hv2:v < xs.length:=by omega
 have e1:=Qaa e
 refine ⟨xs[v],List.getElem_mem hv2,?_⟩
 refine cW zt139 rfl ?_
 repeat (first|apply wA|apply wS|refine wr (by simp [e1,hv2];with_reducible rfl) ?_|refine wq (by simp [e1,hv2];with_reducible rfl) ?_|refine wt (by simpa [e1,hv2]) ?_|refine wf (by simpa [e1,hv2]) ?_|refine xt (by simpa [e1,hv2]) ?_|refine xf (by simpa [e1,hv2]) ?_|apply wB|apply Qab|refine wX ?_|refine wY ?_|refine wR ?_|refine wK ?_|refine wE ?_)
 simp [Jby]
theorem Qt2 (code:List Int) (c:Bool) (hc:Qgs code) (cnt:Nat) (hn:cnt≤100000) (n:Nat) (hn7:n≤7) (A bs:Qac) (Ms:List Qac) :
 ∃ (es:List (Int×Int)) (k:Nat),es.Sublist (prs n)∧k≤cnt+100 ∧
   Ev tb Qs0 [] [.bptr 0 A.length 0,I n] ((A++R code c cnt::bs)::Ms) ⟨OG n es,[],(A++R code c k::bs)::Ms,[]⟩:=by
 have e1:=Qaa (Qrc n (by omega))
 have hpl:(prs n).length≤49:=by
  have:=Qje n 0
  have h2:n * n≤7 * 7:=Nat.mul_le_mul hn7 hn7
  simp only [prs];omega
 have loop:∀ (m i k:Nat) (acc:List (Int×Int)) (most:Nat),most≤10→i+m=(prs n).length→k≤cnt+1+i→acc.Sublist ((prs n).take i) →
  wp tb (.loop Jdw) { T:=[(0,.bptr 0 A.length 0),(4,.bptr (Ms.length+1) 0 0),(5,.bptr (Ms.length+1) 1 0),(6,O2 (prs n)),(7,I most),(8,I i)],loc:=[[I 0,.lst 0 [] true],[I n,O2 acc]],M:=(A++R code c k::bs)::Ms }
  (fun ex st=>ex=.exit 0∧∃ (es:List (Int×Int)) (k':Nat),es.Sublist (prs n)∧k'≤cnt+60∧st={ T:=[(0,.bptr 0 A.length 0),(4,.bptr (Ms.length+1) 0 0),(5,.bptr (Ms.length+1) 1 0),(6,O2 (prs n)),(7,I most),(8,I (prs n).length),(20,Bo false)],loc:=[[I 0,.lst 0 [] true],[I n,O2 es]],M:=(A++R code c k'::bs)::Ms }):=by
  intro m
  induction m with
  | zero =>
    intro i k acc most hm hi hk hs
    have h3:i=(prs n).length:=hi
    subst h3
    refine wW ?_
    repeat (first|apply wA|apply wS|refine wr (by simp;with_reducible rfl) ?_|refine wq (by simp;with_reducible rfl) ?_|refine wt (by simpa) ?_|refine wf (by simpa) ?_|refine xt (by simpa) ?_|refine xf (by simpa) ?_|apply wB|apply Qab|refine wX ?_|refine wY ?_|refine wR ?_|refine wK ?_|refine wE ?_)
    exact ⟨rfl,acc,k,by simpa using hs,by omega,rfl⟩
  | succ m ih =>
    intro i k acc most hm hi hk hs
    have hi2:i < (prs n).length:=by omega
    have w1:IntKind.i64.wrap ((i:Int)+1)=((i+1:Nat):Int):=Qbg (by omega)
    obtain ⟨v,-,ep⟩:=Qgl code c hc k (by omega) (most:Int) (by omega) A bs (Ms++[[[I 0,.lst 0 [] true],[I n,O2 acc]]])
    have e2:=Qaa ep
    have hal:acc.length≤49:=by have:=hs.length_le;simp at this;omega
    have hb:acc.length≤274877906943:=by omega
    by_cases hv:v=0
    · subst hv
      have hn:=ih (i+1) (k+1) (acc++[(prs n)[i]]) most hm (by omega) (by omega) (Qlo hi2 hs)
      refine wW ?_
      repeat (first|apply wA|apply wS|refine wr (by simp [e2,hi2];with_reducible rfl) ?_|refine wq (by simp [e2,hi2];with_reducible rfl) ?_|refine wt (by simpa [e2,hi2]) ?_|refine wf (by simpa [e2,hi2]) ?_|refine xt (by simpa [e2,hi2]) ?_|refine xf (by simpa [e2,hi2]) ?_|apply wB|apply Qab|refine wX ?_|refine wY ?_|refine wR ?_|refine wK ?_|refine wE ?_)
      refine Qm1 (by simp [hi2,hb];with_reducible rfl) (by simp;with_reducible rfl) ?_ ?_
      · intro p hp
        simp only [List.mem_cons,List.not_mem_nil,or_false] at hp
        subst hp
        exact ⟨_,by simp [hi2,hb];with_reducible rfl,by simp⟩
      repeat (first|apply wA|apply wS|refine wr (by simp [w1];with_reducible rfl) ?_|refine wq (by simp [w1];with_reducible rfl) ?_|refine wt (by simpa [w1]) ?_|refine wf (by simpa [w1]) ?_|refine xt (by simpa [w1]) ?_|refine xf (by simpa [w1]) ?_|apply wB|apply Qab|refine wX ?_|refine wY ?_|refine wR ?_|refine wK ?_|refine wE ?_)
      exact hn
    · have hn:=ih (i+1) (k+1) acc most hm (by omega) (by omega) (Qm2 hs)
      have hv2:¬ (v:Int)=0:=by omega
      refine wW ?_
      repeat (first|apply wA|apply wS|refine wr (by simp [e2,hi2,hv,hv2,w1];with_reducible rfl) ?_|refine wq (by simp [e2,hi2,hv,hv2,w1];with_reducible rfl) ?_|refine wt (by simpa [e2,hi2,hv,hv2,w1]) ?_|refine wf (by simpa [e2,hi2,hv,hv2,w1]) ?_|refine xt (by simpa [e2,hi2,hv,hv2,w1]) ?_|refine xf (by simpa [e2,hi2,hv,hv2,w1]) ?_|apply wB|apply Qab|refine wX ?_|refine wY ?_|refine wR ?_|refine wK ?_|refine wE ?_)
      exact hn
 obtain ⟨v,hv,ep⟩:=Qgl code c hc cnt (by omega) 3 (by omega) A bs (Ms++[[[I 0,.lst 0 [] true],[I n,.own 2 []]]])
 have hv:=hv (by omega)
 have e2:=Qaa ep
 have w0:IntKind.i64.wrap (2+(v:Int))=((2+v:Nat):Int):=by rw [Qae (by omega) (by omega)];omega
 suffices h:∃ r,(∃ (es:List (Int×Int)) (k:Nat),es.Sublist (prs n)∧k≤cnt+100∧r=⟨OG n es,[],(A++R code c k::bs)::Ms,[]⟩)∧Ev tb Qs0 [] [.bptr 0 A.length 0,I n] ((A++R code c cnt::bs)::Ms) r by
  obtain ⟨r,⟨es,k,h1,h2,rfl⟩,h3⟩:=h
  exact ⟨es,k,h1,h2,h3⟩
 refine Qf7 Jy3 rfl ?_
 repeat (first|apply wA|apply wS|refine wr (by simp [e1,e2,w0];with_reducible rfl) ?_|refine wq (by simp [e1,e2,w0];with_reducible rfl) ?_|refine wt (by simpa [e1,e2,w0]) ?_|refine wf (by simpa [e1,e2,w0]) ?_|refine xt (by simpa [e1,e2,w0]) ?_|refine xf (by simpa [e1,e2,w0]) ?_|apply wB|apply Qab|refine wX ?_|refine wY ?_|refine wR ?_|refine wK ?_|refine wE ?_)
 have hlp:=loop (prs n).length 0 (cnt+1) [] (2+v) (by omega) (by simp) (by omega) (by simp)
 simp at hlp
 refine Qah hlp ?_
 rintro ex st ⟨rfl,es,hs,k,hk,rfl⟩
 simp only [if_true]
 obtain ⟨v2,-,ep2⟩:=Qgl code c hc k (by omega) 4 (by omega) A bs (Ms++[[[I 0,.lst 0 [] true],[I n,O2 es]]])
 have e3:=Qaa ep2
 have hel:es.length≤100000:=by have:=hs.length_le;omega
 have e4:=Qaa (Qg6 n (by omega) es false hel)
 by_cases hv2:v2=0
 · subst hv2
   repeat (first|apply wA|apply wS|refine wr (by simp [e3,e4];with_reducible rfl) ?_|refine wq (by simp [e3,e4];with_reducible rfl) ?_|refine wt (by simpa [e3,e4]) ?_|refine wf (by simpa [e3,e4]) ?_|refine xt (by simpa [e3,e4]) ?_|refine xf (by simpa [e3,e4]) ?_|apply wB|apply Qab|refine wX ?_|refine wY ?_|refine wR ?_|refine wK ?_|refine wE ?_)
   refine ⟨.inr rfl,_,⟨Qz8 n es,k+1,List.filter_sublist,by omega,rfl⟩,?_⟩
   simp [Qx2]
 · have hv3:¬ (v2:Int)=0:=by omega
   repeat (first|apply wA|apply wS|refine wr (by simp [e3,e4,hv2,hv3];with_reducible rfl) ?_|refine wq (by simp [e3,e4,hv2,hv3];with_reducible rfl) ?_|refine wt (by simpa [e3,e4,hv2,hv3]) ?_|refine wf (by simpa [e3,e4,hv2,hv3]) ?_|refine xt (by simpa [e3,e4,hv2,hv3]) ?_|refine xf (by simpa [e3,e4,hv2,hv3]) ?_|apply wB|apply Qab|refine wX ?_|refine wY ?_|refine wR ?_|refine wK ?_|refine wE ?_)
   refine ⟨.inr rfl,_,⟨es,k+1,hs,by omega,rfl⟩,?_⟩
   simp [Qx2]
theorem Jco (code:List Int) (c:Bool) (hc:Qgs code) (cnt:Nat) (hn:cnt≤1000000) (n:Int) (hn2:n≤1000000) (A bs:Qac) (Ms:List Qac) :
 ∃ v k:Nat,(1≤n→(v:Int) < n)∧k≤cnt+1∧Qco tb Qhx [] [.bptr 0 A.length 0,I n] ((A++R code c cnt::bs)::Ms)=some ⟨I v,[],(A++R code c k::bs)::Ms,[]⟩:=by
 obtain ⟨v,h,e⟩:=Qgl code c hc cnt hn n hn2 A bs Ms
 exact ⟨v,cnt+1,h,by omega,Qaa e⟩
theorem Jyw (code:List Int) (c:Bool) (hc:Qgs code) (cnt:Nat) (hn:cnt≤1000000) (xs:List Int) (hl:0 < xs.length∧xs.length≤1000) (A bs:Qac) (Ms:List Qac) :
 ∃ (x:Int) (k:Nat),x ∈ xs∧k≤cnt+1∧Qco tb Qoj [] [.bptr 0 A.length 0,.lst 1 (Qb8 xs) false] ((A++R code c cnt::bs)::Ms)=some ⟨I x,[],(A++R code c k::bs)::Ms,[]⟩:=by
 obtain ⟨v,h,e⟩:=Je6 code c hc cnt hn xs false hl A bs Ms
 exact ⟨v,cnt+1,h,by omega,Qaa e⟩
theorem Ql8 (code:List Int) (c:Bool) (hc:Qgs code) (cnt:Nat) (hn:cnt≤90000) (A bs:Qac) (Ms:List Qac) :
 ∃ (n:Nat) (es:List (Int×Int)) (k:Nat),n≤7∧es.Sublist (prs n)∧k≤cnt+101 ∧
   Ev tb Qya [] [.bptr 0 A.length 0] ((A++R code c cnt::bs)::Ms) ⟨OG n es,[],(A++R code c k::bs)::Ms,[]⟩:=by
 obtain ⟨x,k1,hx,hk1,e1⟩:=Jyw code c hc cnt (by omega) [5,4,6,3,5,2,7,1,0] (by simp) A bs (Ms++[[[I 0,.lst 0 [] true]]])
 obtain ⟨n,rfl,hn7⟩:∃ n:Nat,x=(n:Int)∧n≤7:=by
  simp at hx
  exact ⟨x.toNat,by omega,by omega⟩
 obtain ⟨es,k,hs,hk,ea⟩:=Qt2 code c hc k1 (by omega) n hn7 A bs (Ms++[[[I 0,.lst 0 [] true]]])
 have e2:=Qaa ea
 refine ⟨n,es,k,hn7,hs,by omega,?_⟩
 refine cW zt129 rfl ?_
 refine wr (by simp;with_reducible rfl) ?_
 refine wr (by simp [e1,e2];with_reducible rfl) ?_
 repeat (first|apply wA|apply wS|refine wr (by simp;with_reducible rfl) ?_|refine wq (by simp;with_reducible rfl) ?_|refine wt (by simpa) ?_|refine wf (by simpa) ?_|refine xt (by simpa) ?_|refine xf (by simpa) ?_|apply wB|apply Qab|refine wX ?_|refine wY ?_|refine wR ?_|refine wK ?_|refine wE ?_)
 simp [Jcy]
end Go.Idl
namespace Go.Idl
open Go
def comp (d:List Int):List Int:=(List.range d.length).map fun k=>(d.length:Int) - 1 - d.getD k 0
theorem Qph {code:List Int} (h:∀ x ∈ code,0≤x∧x≤255):Qgs (code.take 2000):=⟨by simp;omega,fun x hx=>h x (List.mem_of_mem_take hx)⟩
end Go.Idl
namespace Go.Idl
abbrev Jxr (xs:List Int) (k:Nat):Int:=((fall xs).take k).sum
theorem Qkj (c:Int):∀ (l:List Int) (j:Nat),j≤l.length→(l.map fun x:Int=>min x c).sum≤c * j+(l.drop j).sum
 | [],0,_=>by simp
 | x::r,0,_=>by
   have:=Qkj c r 0 (by simp)
   simp at this ⊢;omega
 | x::r,j+1,h=>by
   have:=Qkj c r j (by simpa using h)
   rw [List.map_cons,List.sum_cons,List.drop_succ_cons,Int.natCast_add,Int.mul_add]
   omega
theorem Qrb (c:Int):∀ (l:List Int),(∀ x ∈ l,x≤c)→(l.map fun x:Int=>min x c).sum=l.sum
 | [],_=>rfl
 | x::r,h=>by
   have h1:=h x (by simp)
   have h2:=Qrb c r (fun y hy=>h y (by simp [hy]))
   simp [h2];omega
theorem Qoe (c:Int):∀ (l:List Int),Qzf l→∃ j,j≤l.length∧(l.map fun x:Int=>min x c).sum=c * j+(l.drop j).sum
 | [],_=>⟨0,by simp,by simp⟩
 | x::r,h=>by
   have h':=List.pairwise_cons.1 h
   by_cases hx:c≤x
   · obtain ⟨j,h1,h2⟩:=Qoe c r h'.2
     refine ⟨j+1,by simpa using h1,?_⟩
     rw [List.map_cons,List.sum_cons,List.drop_succ_cons,Int.natCast_add,Int.mul_add,h2]
     omega
   · refine ⟨0,by simp,?_⟩
     rw [Qrb c (x::r) (by
      intro y hy
      rcases List.mem_cons.1 hy with rfl | hy
      · omega
      · have:=h'.1 y hy;omega)]
     simp
theorem Qhd (s:List Int) (k:Nat):(s.take k).sum+(s.drop k).sum=s.sum:=by
 rw [← List.sum_append,List.take_append_drop]
theorem Jel {s:List Int} (hs:Qzf s):(∀ k,1≤k→k≤s.length→0≤slk s k) ↔
 ∀ k m,1≤k→k≤m→m≤s.length→(s.take k).sum+(s.take m).sum≤(k:Int) * ((m:Int) - 1)+s.sum:=by
 constructor
 · intro h k m h1 h2 h3
   have h0:=h k h1 (by omega)
   have h4:=Qkj k (s.drop k) (m - k) (by simp;omega)
   rw [List.drop_drop,show k+(m - k)=m by omega] at h4
   have h5:=Qhd s m
   unfold slk at h0
   have h6:((m - k:Nat):Int)=(m:Int) - k:=by omega
   rw [h6] at h4
   have e:(k:Int) * ((m:Int) - 1)=(k:Int) * ((k:Int) - 1)+(k:Int) * ((m:Int) - k):=by rw [← Int.mul_add];congr 1;omega
   omega
 · intro h k h1 h2
   obtain ⟨j,h3,h4⟩:=Qoe k (s.drop k) (hs.sublist (List.drop_sublist k s))
   rw [List.length_drop] at h3
   have h0:=h k (k+j) h1 (by omega) (by omega)
   rw [List.drop_drop] at h4
   have h5:=Qhd s (k+j)
   unfold slk
   rw [h4]
   have e:(k:Int) * (((k+j:Nat):Int) - 1)=(k:Int) * ((k:Int) - 1)+(k:Int) * (j:Int):=by rw [← Int.mul_add];congr 1;omega
   omega
theorem Qp1 (d:List Int):Qc7 d=true ↔ Qgw d=true∧d.sum % 2=0∧∀ k m,1≤k→k≤m→m≤d.length→Jxr d k+Jxr d m≤(k:Int) * ((m:Int) - 1)+d.sum:=by
 have h:=Jel (Qol d)
 rw [Qm6,Qz9] at h
 simp only [Qc7,Qba,decide_eq_true_eq,List.all_eq_true,Jxr,← h,Qex,List.mem_map,List.mem_range,and_assoc]
 constructor
 · rintro ⟨h1,h2,h3⟩
   refine ⟨h1,h2,fun k hk hk2=>?_⟩
   exact h3 _ ⟨k - 1,by omega,by rw [show k - 1+1=k by omega]⟩
 · rintro ⟨h1,h2,h3⟩
   refine ⟨h1,h2,?_⟩
   rintro x ⟨i,hi,rfl⟩
   exact h3 (i+1) (by omega) (by omega)
end Go.Idl
namespace Go.Idl
open Go
def ahead (x y:List Int) (i m:Nat):Bool:=(List.range m).all fun j=>decide ((y.take (i+j+1)).sum≤(x.take (i+j+1)).sum)
end Go.Idl
namespace Go.Idl
open Go
def Fit (es:List (Int×Int)):Prop:=∀ e ∈ es,-9223372036854775808≤e.1∧e.1 < 9223372036854775808∧-9223372036854775808≤e.2∧e.2 < 9223372036854775808
def Qan (a b:Int×Int):Bool:=decide (a.1 < b.1) || (decide (a.1=b.1) && decide (a.2 < b.2))
def Qnb (a b:Int×Int):Int:=if a.1=b.1 then a.2 - b.2 else a.1 - b.1
theorem Qb1 (a b:Int×Int):(decide (Qnb a b < 0))=Qan a b:=by
 unfold Qnb Qan
 rw [Bool.eq_iff_iff]
 simp only [decide_eq_true_eq,Bool.or_eq_true,Qba]
 split <;> omega
theorem Qe6 (a b:Int×Int) (ha:0≤a.1∧a.1 < 9223372036854775808∧0≤a.2∧a.2 < 9223372036854775808) (hb:0≤b.1∧b.1 < 9223372036854775808∧0≤b.2∧b.2 < 9223372036854775808) (M:List Qac) :
 Ev tb Qzo [] [.agg [I a.1,I a.2],.agg [I b.1,I b.2]] M ⟨I (Qnb a b),[],M,[]⟩:=by
 have w1:IntKind.i64.wrap (a.1 - b.1)=a.1 - b.1:=Qae (by omega) (by omega)
 have w2:IntKind.i64.wrap (a.2 - b.2)=a.2 - b.2:=Qae (by omega) (by omega)
 by_cases h:a.1=b.1
 · refine cW zt32 rfl ?_
   repeat (first|apply wA|apply wS|refine wr (by simp [h,w2];with_reducible rfl) ?_|refine wq (by simp [h,w2];with_reducible rfl) ?_|refine wt (by simpa [h,w2]) ?_|refine wf (by simpa [h,w2]) ?_|refine xt (by simpa [h,w2]) ?_|refine xf (by simpa [h,w2]) ?_|apply wB|apply Qab|refine wX ?_|refine wY ?_|refine wR ?_|refine wK ?_|refine wE ?_)
   simp [Jj2,Qnb,h]
 · have h2:(a.1 != b.1)=true:=by simp [h]
   refine cW zt32 rfl ?_
   repeat (first|apply wA|apply wS|refine wr (by simp [h,h2,w1];with_reducible rfl) ?_|refine wq (by simp [h,h2,w1];with_reducible rfl) ?_|refine wt (by simpa [h,h2,w1]) ?_|refine wf (by simpa [h,h2,w1]) ?_|refine xt (by simpa [h,h2,w1]) ?_|refine xf (by simpa [h,h2,w1]) ?_|apply wB|apply Qab|refine wX ?_|refine wY ?_|refine wR ?_|refine wK ?_|refine wE ?_)
   simp [Jj2,Qnb,h]
theorem Qin (a b:Int×Int):Ev tb Qsy [] [.agg [I a.1,I a.2],.agg [I b.1,I b.2]] [] ⟨Bo (Qan a b),[],[],[]⟩:=by
 by_cases h1:a.1 < b.1
 · refine cW Jgb rfl ?_
   repeat (first|apply wA|apply wS|refine wr (by simp [h1];with_reducible rfl) ?_|refine wq (by simp [h1];with_reducible rfl) ?_|refine wt (by simpa [h1]) ?_|refine wf (by simpa [h1]) ?_|refine xt (by simpa [h1]) ?_|refine xf (by simpa [h1]) ?_|apply wB|apply Qab|refine wX ?_|refine wY ?_|refine wR ?_|refine wK ?_|refine wE ?_)
   simp [Qs5,Qan,h1]
 · by_cases h2:a.1=b.1
   · refine cW Jgb rfl ?_
     repeat (first|apply wA|apply wS|refine wr (by simp [h1,h2];with_reducible rfl) ?_|refine wq (by simp [h1,h2];with_reducible rfl) ?_|refine wt (by simpa [h1,h2]) ?_|refine wf (by simpa [h1,h2]) ?_|refine xt (by simpa [h1,h2]) ?_|refine xf (by simpa [h1,h2]) ?_|apply wB|apply Qab|refine wX ?_|refine wY ?_|refine wR ?_|refine wK ?_|refine wE ?_)
     simp [Qs5,Qan,h1,h2]
   · refine cW Jgb rfl ?_
     repeat (first|apply wA|apply wS|refine wr (by simp [h1,h2];with_reducible rfl) ?_|refine wq (by simp [h1,h2];with_reducible rfl) ?_|refine wt (by simpa [h1,h2]) ?_|refine wf (by simpa [h1,h2]) ?_|refine xt (by simpa [h1,h2]) ?_|refine xf (by simpa [h1,h2]) ?_|apply wB|apply Qab|refine wX ?_|refine wY ?_|refine wR ?_|refine wK ?_|refine wE ?_)
     simp [Qs5,Qan,h1,h2]
def okE (n:Int) (e:Int×Int):Bool:=decide (0≤e.1) && (decide (e.1 < e.2) && decide (e.2 < n))
def vEs (n:Int):Option (Int×Int)→List (Int×Int)→Bool
 | _,[]=>true
 | none,e::r=>okE n e && vEs n (some e) r
 | some q,e::r=>okE n e && (Qan q e && vEs n (some e) r)
def Qao (n:Int) (es:List (Int×Int)):Bool:=vEs n none es && (decide (0≤n) && decide (n≤7))
theorem Fit.at {es:List (Int×Int)} (h:Fit es) {i:Nat} (hi:i < es.length):-9223372036854775808≤es[i].1∧es[i].1 < 9223372036854775808∧-9223372036854775808≤es[i].2∧es[i].2 < 9223372036854775808:=h _ (List.getElem_mem hi)
theorem Jop (n:Int) (es:List (Int×Int)) (c:Bool) (hf:Fit es) (hl:es.length≤100000000):∀ (m i:Nat) (p:Option (Int×Int)) (bs:Qac),i+m=es.length →
 (i=0∧p=none ∨ ∃ j,∃ h:j < es.length,i=j+1∧p=some es[j]∧0≤es[j].1∧0≤es[j].2) →
 wp tb (.loop Jo7) { T:=[(1,.bptr 0 0 0),(6,L2 es c),(7,I es.length),(8,I i)],loc:=[I n,L2 es c]::bs,M:=[] }
  (fun ex st=>(vEs n p (es.drop i)=true∧ex=.exit 0∧∃ bs',st={ T:=[(1,.bptr 0 0 0),(6,L2 es c),(7,I es.length),(8,I es.length),(9,Bo false)],loc:=[I n,L2 es c]::bs',M:=[] }) ∨
    (vEs n p (es.drop i)=false∧ex=.ret∧∃ bs',st={ T:=[(2,Bo false)],loc:=[I n,L2 es c]::bs',M:=[] })):=by
 intro m
 induction m with
 | zero =>
   intro i p bs hi hp
   have h3:i=es.length:=hi
   subst h3
   refine wW ?_
   repeat (first|apply wA|apply wS|refine wr (by simp;with_reducible rfl) ?_|refine wq (by simp;with_reducible rfl) ?_|refine wt (by simpa) ?_|refine wf (by simpa) ?_|refine xt (by simpa) ?_|refine xf (by simpa) ?_|apply wB|apply Qab|refine wX ?_|refine wY ?_|refine wR ?_|refine wK ?_|refine wE ?_)
   exact .inl ⟨by simp [vEs],rfl,bs,rfl⟩
 | succ m ih =>
   intro i p bs hi hp
   have hi2:i < es.length:=by omega
   have hd:es.drop i=es[i]::es.drop (i+1):=List.drop_eq_getElem_cons hi2
   have hfe:=hf.at hi2
   have w1:IntKind.i64.wrap ((i:Int)+1)=((i+1:Nat):Int):=Qbg (by omega)
   have bad:okE n es[i]=false→vEs n p (es.drop i)=false:=fun h=>by
    rw [hd];cases p <;> simp [vEs,h]
   by_cases h1:es[i].1 < 0
   · have hb:=bad (by simp [okE];omega)
     refine wW ?_
     repeat (first|apply wA|apply wS|refine wr (by simp [hi2,h1];with_reducible rfl) ?_|refine wq (by simp [hi2,h1];with_reducible rfl) ?_|refine wt (by simpa [hi2,h1]) ?_|refine wf (by simpa [hi2,h1]) ?_|refine xt (by simpa [hi2,h1]) ?_|refine xf (by simpa [hi2,h1]) ?_|apply wB|apply Qab|refine wX ?_|refine wY ?_|refine wR ?_|refine wK ?_|refine wE ?_)
     exact .inr ⟨hb,rfl,_,rfl⟩
   by_cases h2:es[i].2≤es[i].1
   · have hb:=bad (by simp [okE];omega)
     refine wW ?_
     repeat (first|apply wA|apply wS|refine wr (by simp [hi2,h1,h2];with_reducible rfl) ?_|refine wq (by simp [hi2,h1,h2];with_reducible rfl) ?_|refine wt (by simpa [hi2,h1,h2]) ?_|refine wf (by simpa [hi2,h1,h2]) ?_|refine xt (by simpa [hi2,h1,h2]) ?_|refine xf (by simpa [hi2,h1,h2]) ?_|apply wB|apply Qab|refine wX ?_|refine wY ?_|refine wR ?_|refine wK ?_|refine wE ?_)
     exact .inr ⟨hb,rfl,_,rfl⟩
   by_cases h3:n≤es[i].2
   · have hb:=bad (by simp [okE];omega)
     refine wW ?_
     repeat (first|apply wA|apply wS|refine wr (by simp [hi2,h1,h2,h3];with_reducible rfl) ?_|refine wq (by simp [hi2,h1,h2,h3];with_reducible rfl) ?_|refine wt (by simpa [hi2,h1,h2,h3]) ?_|refine wf (by simpa [hi2,h1,h2,h3]) ?_|refine xt (by simpa [hi2,h1,h2,h3]) ?_|refine xf (by simpa [hi2,h1,h2,h3]) ?_|apply wB|apply Qab|refine wX ?_|refine wY ?_|refine wR ?_|refine wK ?_|refine wE ?_)
     exact .inr ⟨hb,rfl,_,rfl⟩
   have hok:okE n es[i]=true:=by simp [okE];omega
   rcases hp with ⟨rfl,rfl⟩ | ⟨j,hj,rfl,rfl,q1,q2⟩
   · have hn:=ih 1 (some es[0]) (bs++[[I es[0].1,I es[0].2]]) (by omega) (.inr ⟨0,hi2,rfl,rfl,by omega,by omega⟩)
     rw [hd]
     simp only [vEs,hok,Bool.true_and]
     refine wW ?_
     repeat (first|apply wA|apply wS|refine wr (by simp [hi2,h1,h2,h3,show IntKind.i64.wrap (1:Int)=1 from rfl];with_reducible rfl) ?_|refine wq (by simp [hi2,h1,h2,h3,show IntKind.i64.wrap (1:Int)=1 from rfl];with_reducible rfl) ?_|refine wt (by simpa [hi2,h1,h2,h3,show IntKind.i64.wrap (1:Int)=1 from rfl]) ?_|refine wf (by simpa [hi2,h1,h2,h3,show IntKind.i64.wrap (1:Int)=1 from rfl]) ?_|refine xt (by simpa [hi2,h1,h2,h3,show IntKind.i64.wrap (1:Int)=1 from rfl]) ?_|refine xf (by simpa [hi2,h1,h2,h3,show IntKind.i64.wrap (1:Int)=1 from rfl]) ?_|apply wB|apply Qab|refine wX ?_|refine wY ?_|refine wR ?_|refine wK ?_|refine wE ?_)
     exact hn
   · have hfj:=hf.at hj
     have w2:IntKind.i64.wrap (j:Int)=(j:Int):=Qt1 (by omega)
     have hj0:(0:Int) < (j:Int)+1:=by omega
     have hj1:(j:Int)+1 < (es.length:Int):=by omega
     have w3:IntKind.i64.wrap ((j:Int)+1+1)=((j+1+1:Nat):Int):=by rw [Qae (by omega) (by omega)];omega
     have e1:=Qaa (Qe6 es[j] es[j+1] ⟨q1,hfj.2.1,q2,hfj.2.2.2⟩ ⟨by omega,by omega,by omega,by omega⟩ [])
     have hcb:=Qb1 es[j] es[j+1]
     rw [hd]
     simp only [vEs,hok,Bool.true_and,← hcb]
     by_cases h4:0≤Qnb es[j] es[j+1]
     · have h5:decide (Qnb es[j] es[j+1] < 0)=false:=decide_eq_false (by omega)
       rw [h5]
       refine wW ?_
       repeat (first|apply wA|apply wS|refine wr (by simp [hi2,hj,h1,h2,h3,w2,hj0,hj1,e1,h4];with_reducible rfl) ?_|refine wq (by simp [hi2,hj,h1,h2,h3,w2,hj0,hj1,e1,h4];with_reducible rfl) ?_|refine wt (by simpa [hi2,hj,h1,h2,h3,w2,hj0,hj1,e1,h4]) ?_|refine wf (by simpa [hi2,hj,h1,h2,h3,w2,hj0,hj1,e1,h4]) ?_|refine xt (by simpa [hi2,hj,h1,h2,h3,w2,hj0,hj1,e1,h4]) ?_|refine xf (by simpa [hi2,hj,h1,h2,h3,w2,hj0,hj1,e1,h4]) ?_|apply wB|apply Qab|refine wX ?_|refine wY ?_|refine wR ?_|refine wK ?_|refine wE ?_)
       exact .inr ⟨rfl,rfl,_,rfl⟩
     · have h5:decide (Qnb es[j] es[j+1] < 0)=true:=decide_eq_true (by omega)
       rw [h5]
       have hn:=ih (j+1+1) (some es[j+1]) (bs++[[I es[j+1].1,I es[j+1].2]]) (by omega) (.inr ⟨j+1,hi2,rfl,rfl,by omega,by omega⟩)
       simp only [Bool.true_and]
       refine wW ?_
       repeat (first|apply wA|apply wS|refine wr (by simp [hi2,hj,h1,h2,h3,w3,w2,hj0,hj1,e1,h4];with_reducible rfl) ?_|refine wq (by simp [hi2,hj,h1,h2,h3,w3,w2,hj0,hj1,e1,h4];with_reducible rfl) ?_|refine wt (by simpa [hi2,hj,h1,h2,h3,w3,w2,hj0,hj1,e1,h4]) ?_|refine wf (by simpa [hi2,hj,h1,h2,h3,w3,w2,hj0,hj1,e1,h4]) ?_|refine xt (by simpa [hi2,hj,h1,h2,h3,w3,w2,hj0,hj1,e1,h4]) ?_|refine xf (by simpa [hi2,hj,h1,h2,h3,w3,w2,hj0,hj1,e1,h4]) ?_|apply wB|apply Qab|refine wX ?_|refine wY ?_|refine wR ?_|refine wK ?_|refine wE ?_)
       exact hn
theorem Qbz (n:Int) (es:List (Int×Int)) (c:Bool) (hf:Fit es) (hl:es.length≤100000000):Ev tb Qui [] [Gr n es c] [] ⟨Bo (Qao n es),[],[],[]⟩:=by
 have e1:=Qaa (Jnn n 0 7)
 have hlo:=Jop n es c hf hl es.length 0 none [] (by simp) (.inl ⟨rfl,rfl⟩)
 refine cW zt26 rfl ?_
 repeat (first|apply wA|apply wS|refine wr (by simp;with_reducible rfl) ?_|refine wq (by simp;with_reducible rfl) ?_|refine wt (by simpa) ?_|refine wf (by simpa) ?_|refine xt (by simpa) ?_|refine xf (by simpa) ?_|apply wB|apply Qab|refine wX ?_|refine wY ?_|refine wR ?_|refine wK ?_|refine wE ?_)
 refine Qah hlo ?_
 rintro ex st (⟨hv,rfl,bs,rfl⟩ | ⟨hv,rfl,bs,rfl⟩)
 · try simp only [if_true]
   repeat (first|apply wA|apply wS|refine wr (by simp [e1];with_reducible rfl) ?_|refine wq (by simp [e1];with_reducible rfl) ?_|refine wt (by simpa [e1]) ?_|refine wf (by simpa [e1]) ?_|refine xt (by simpa [e1]) ?_|refine xf (by simpa [e1]) ?_|apply wB|apply Qab|refine wX ?_|refine wY ?_|refine wR ?_|refine wK ?_|refine wE ?_)
   simp only [List.drop_zero] at hv
   simp [Jve,Qao,hv]
 · simp only [List.drop_zero] at hv
   simp [Jve,Qao,hv]
theorem Jhj (n:Int) (es:List (Int×Int)) (c:Bool) (hl:es.length≤100000000):∀ (m i:Nat) (p:Option (Int×Int)) (bs:Qac),i+m=es.length →
 (i=0∧p=none ∨ ∃ j,∃ h:j < es.length,i=j+1∧p=some es[j]) →
 wp tb (.loop Jda) { T:=[(1,.bptr 0 0 0),(3,I i)],loc:=[I n,L2 es c]::bs,M:=[] }
  (fun ex st=>(vEs n p (es.drop i)=true∧ex=.exit 0∧∃ bs',st={ T:=[(1,.bptr 0 0 0),(3,I es.length),(9,Bo false)],loc:=[I n,L2 es c]::bs',M:=[] }) ∨
    (vEs n p (es.drop i)=false∧ex=.ret∧∃ bs',st={ T:=[(2,Bo false)],loc:=[I n,L2 es c]::bs',M:=[] })):=by
 intro m
 induction m with
 | zero =>
   intro i p bs hi hp
   have h3:i=es.length:=hi
   subst h3
   refine wW ?_
   repeat (first|apply wA|apply wS|refine wr (by simp;with_reducible rfl) ?_|refine wq (by simp;with_reducible rfl) ?_|refine wt (by simpa) ?_|refine wf (by simpa) ?_|refine xt (by simpa) ?_|refine xf (by simpa) ?_|apply wB|apply Qab|refine wX ?_|refine wY ?_|refine wR ?_|refine wK ?_|refine wE ?_)
   exact .inl ⟨by simp [vEs],rfl,bs,rfl⟩
 | succ m ih =>
   intro i p bs hi hp
   have hi2:i < es.length:=by omega
   have hd:es.drop i=es[i]::es.drop (i+1):=List.drop_eq_getElem_cons hi2
   have w1:IntKind.i64.wrap ((i:Int)+1)=((i+1:Nat):Int):=Qbg (by omega)
   have bad:okE n es[i]=false→vEs n p (es.drop i)=false:=fun h=>by
    rw [hd];cases p <;> simp [vEs,h]
   by_cases h1:es[i].1 < 0
   · have hb:=bad (by simp [okE];omega)
     refine wW ?_
     repeat (first|apply wA|apply wS|refine wr (by simp [hi2,h1];with_reducible rfl) ?_|refine wq (by simp [hi2,h1];with_reducible rfl) ?_|refine wt (by simpa [hi2,h1]) ?_|refine wf (by simpa [hi2,h1]) ?_|refine xt (by simpa [hi2,h1]) ?_|refine xf (by simpa [hi2,h1]) ?_|apply wB|apply Qab|refine wX ?_|refine wY ?_|refine wR ?_|refine wK ?_|refine wE ?_)
     exact .inr ⟨hb,rfl,_,rfl⟩
   by_cases h2:es[i].2≤es[i].1
   · have hb:=bad (by simp [okE];omega)
     refine wW ?_
     repeat (first|apply wA|apply wS|refine wr (by simp [hi2,h1,h2];with_reducible rfl) ?_|refine wq (by simp [hi2,h1,h2];with_reducible rfl) ?_|refine wt (by simpa [hi2,h1,h2]) ?_|refine wf (by simpa [hi2,h1,h2]) ?_|refine xt (by simpa [hi2,h1,h2]) ?_|refine xf (by simpa [hi2,h1,h2]) ?_|apply wB|apply Qab|refine wX ?_|refine wY ?_|refine wR ?_|refine wK ?_|refine wE ?_)
     exact .inr ⟨hb,rfl,_,rfl⟩
   by_cases h3:n≤es[i].2
   · have hb:=bad (by simp [okE];omega)
     refine wW ?_
     repeat (first|apply wA|apply wS|refine wr (by simp [hi2,h1,h2,h3];with_reducible rfl) ?_|refine wq (by simp [hi2,h1,h2,h3];with_reducible rfl) ?_|refine wt (by simpa [hi2,h1,h2,h3]) ?_|refine wf (by simpa [hi2,h1,h2,h3]) ?_|refine xt (by simpa [hi2,h1,h2,h3]) ?_|refine xf (by simpa [hi2,h1,h2,h3]) ?_|apply wB|apply Qab|refine wX ?_|refine wY ?_|refine wR ?_|refine wK ?_|refine wE ?_)
     exact .inr ⟨hb,rfl,_,rfl⟩
   have hok:okE n es[i]=true:=by simp [okE];omega
   rcases hp with ⟨rfl,rfl⟩ | ⟨j,hj,rfl,rfl⟩
   · have hn:=ih 1 (some es[0]) (bs++[[I es[0].1,I es[0].2]]) (by omega) (.inr ⟨0,hi2,rfl,rfl⟩)
     rw [hd]
     simp only [vEs,hok,Bool.true_and]
     refine wW ?_
     repeat (first|apply wA|apply wS|refine wr (by simp [hi2,h1,h2,h3,show IntKind.i64.wrap (1:Int)=1 from rfl];with_reducible rfl) ?_|refine wq (by simp [hi2,h1,h2,h3,show IntKind.i64.wrap (1:Int)=1 from rfl];with_reducible rfl) ?_|refine wt (by simpa [hi2,h1,h2,h3,show IntKind.i64.wrap (1:Int)=1 from rfl]) ?_|refine wf (by simpa [hi2,h1,h2,h3,show IntKind.i64.wrap (1:Int)=1 from rfl]) ?_|refine xt (by simpa [hi2,h1,h2,h3,show IntKind.i64.wrap (1:Int)=1 from rfl]) ?_|refine xf (by simpa [hi2,h1,h2,h3,show IntKind.i64.wrap (1:Int)=1 from rfl]) ?_|apply wB|apply Qab|refine wX ?_|refine wY ?_|refine wR ?_|refine wK ?_|refine wE ?_)
     exact hn
   · have w2:IntKind.i64.wrap (j:Int)=(j:Int):=Qt1 (by omega)
     have hj0:(0:Int) < (j:Int)+1:=by omega
     have hj1:(j:Int)+1 < (es.length:Int):=by omega
     have w3:IntKind.i64.wrap ((j:Int)+1+1)=((j+1+1:Nat):Int):=by rw [Qae (by omega) (by omega)];omega
     have e1:=Qaa (Qin es[j] es[j+1])
     rw [hd]
     simp only [vEs,hok,Bool.true_and]
     cases h4:Qan es[j] es[j+1] with
     | false =>
       refine wW ?_
       repeat (first|apply wA|apply wS|refine wr (by simp [hi2,hj,h1,h2,h3,w2,hj0,hj1,e1,h4];with_reducible rfl) ?_|refine wq (by simp [hi2,hj,h1,h2,h3,w2,hj0,hj1,e1,h4];with_reducible rfl) ?_|refine wt (by simpa [hi2,hj,h1,h2,h3,w2,hj0,hj1,e1,h4]) ?_|refine wf (by simpa [hi2,hj,h1,h2,h3,w2,hj0,hj1,e1,h4]) ?_|refine xt (by simpa [hi2,hj,h1,h2,h3,w2,hj0,hj1,e1,h4]) ?_|refine xf (by simpa [hi2,hj,h1,h2,h3,w2,hj0,hj1,e1,h4]) ?_|apply wB|apply Qab|refine wX ?_|refine wY ?_|refine wR ?_|refine wK ?_|refine wE ?_)
       exact .inr ⟨rfl,rfl,_,rfl⟩
     | true =>
       have hn:=ih (j+1+1) (some es[j+1]) (bs++[[I es[j+1].1,I es[j+1].2]]) (by omega) (.inr ⟨j+1,hi2,rfl,rfl⟩)
       simp only [Bool.true_and]
       refine wW ?_
       repeat (first|apply wA|apply wS|refine wr (by simp [hi2,hj,h1,h2,h3,w3,w2,hj0,hj1,e1,h4];with_reducible rfl) ?_|refine wq (by simp [hi2,hj,h1,h2,h3,w3,w2,hj0,hj1,e1,h4];with_reducible rfl) ?_|refine wt (by simpa [hi2,hj,h1,h2,h3,w3,w2,hj0,hj1,e1,h4]) ?_|refine wf (by simpa [hi2,hj,h1,h2,h3,w3,w2,hj0,hj1,e1,h4]) ?_|refine xt (by simpa [hi2,hj,h1,h2,h3,w3,w2,hj0,hj1,e1,h4]) ?_|refine xf (by simpa [hi2,hj,h1,h2,h3,w3,w2,hj0,hj1,e1,h4]) ?_|apply wB|apply Qab|refine wX ?_|refine wY ?_|refine wR ?_|refine wK ?_|refine wE ?_)
       exact hn
theorem Qei (n:Int) (es:List (Int×Int)) (c:Bool) (hl:es.length≤100000000):Ev tb Qwn [] [Gr n es c] [] ⟨Bo (Qao n es),[],[],[]⟩:=by
 have e1:=Qaa (Qtm n 0 7)
 have hlo:=Jhj n es c hl es.length 0 none [] (by simp) (.inl ⟨rfl,rfl⟩)
 refine cW zt145 rfl ?_
 repeat (first|apply wA|apply wS|refine wr (by simp;with_reducible rfl) ?_|refine wq (by simp;with_reducible rfl) ?_|refine wt (by simpa) ?_|refine wf (by simpa) ?_|refine xt (by simpa) ?_|refine xf (by simpa) ?_|apply wB|apply Qab|refine wX ?_|refine wY ?_|refine wR ?_|refine wK ?_|refine wE ?_)
 refine Qah hlo ?_
 rintro ex st (⟨hv,rfl,bs,rfl⟩ | ⟨hv,rfl,bs,rfl⟩)
 · try simp only [if_true]
   repeat (first|apply wA|apply wS|refine wr (by simp [e1];with_reducible rfl) ?_|refine wq (by simp [e1];with_reducible rfl) ?_|refine wt (by simpa [e1]) ?_|refine wf (by simpa [e1]) ?_|refine xt (by simpa [e1]) ?_|refine xf (by simpa [e1]) ?_|apply wB|apply Qab|refine wX ?_|refine wY ?_|refine wR ?_|refine wK ?_|refine wE ?_)
   simp only [List.drop_zero] at hv
   simp [Qxe,Qao,hv]
 · simp only [List.drop_zero] at hv
   simp [Qxe,Qao,hv]
end Go.Idl
namespace Go.Idl
structure Seg {α:Type} (X X':List α) (a b:Nat):Prop where
 perm:X'.Perm X
 out:∀ k,k < a ∨ b≤k→X'[k]? = X[k]?
theorem Seg.len {α:Type} {X X':List α} {a b:Nat} (h:Seg X X' a b):X'.length=X.length:=h.perm.length_eq
theorem Seg.refl {α:Type} (X:List α) (a b:Nat):Seg X X a b:=⟨.refl _,fun _ _=>rfl⟩
theorem Seg.trans {α:Type} {X Y Z:List α} {a b:Nat} (h:Seg X Y a b) (k:Seg Y Z a b):Seg X Z a b:=⟨k.perm.trans h.perm,fun i hi=>(k.out i hi).trans (h.out i hi)⟩
theorem Seg.mono {α:Type} {X Y:List α} {a b a' b':Nat} (h:Seg X Y a b) (h1:a'≤a) (h2:b≤b'):Seg X Y a' b':=⟨h.perm,fun i hi=>h.out i (by omega)⟩
theorem Seg.nodup {α:Type} {X Y:List α} {a b:Nat} (h:Seg X Y a b) (hn:X.Nodup):Y.Nodup:=h.perm.nodup_iff.2 hn
def Qeb {α:Type} (X:List α) (i j:Nat) (hi:i < X.length) (hj:j < X.length):List α:=(X.set i X[j]).set j X[i]
theorem Qoy {α:Type} (X:List α) (i j:Nat) (hi hj):(Qeb X i j hi hj).length=X.length:=by simp [Qeb]
theorem Qct {α:Type} (X:List α) (i j:Nat) (hi:i < X.length) (hj:j < X.length) (k:Nat):(Qeb X i j hi hj)[k]? = if k=j then some X[i] else if k=i then some X[j] else X[k]?:=by
 rw [Qeb,List.getElem?_set,List.getElem?_set]
 by_cases h1:k=j
 · subst h1;simp [hj]
 · by_cases h2:k=i
   · subst h2;simp [hi,h1,Ne.symm h1]
   · simp [h1,h2,Ne.symm h1,Ne.symm h2]
theorem Quf {α:Type} (X:List α) (i j:Nat) (hi:i < X.length) (hj:j < X.length):(Qeb X i j hi hj).Perm X:=by
 exact List.set_set_perm hi hj
theorem Qe8 {α:Type} (X:List α) (i j a b:Nat) (hi:i < X.length) (hj:j < X.length) (h1:a≤i∧i < b) (h2:a≤j∧j < b):Seg X (Qeb X i j hi hj) a b :=
 ⟨Quf X i j hi hj,fun k hk=>by rw [Qct,if_neg (by omega),if_neg (by omega)]⟩
theorem Seg.back {α:Type} {X Y:List α} {a b:Nat} (h:Seg X Y a b) (hn:X.Nodup) {k:Nat} (hk:a≤k∧k < b) {e:α} (he:Y[k]? = some e):∃ l,(a≤l∧l < b)∧X[l]? = some e:=by
 have hm:e ∈ X:=h.perm.mem_iff.1 (List.mem_of_getElem? he)
 obtain ⟨l,hl,rfl⟩:=List.getElem_of_mem hm
 by_cases hlb:a≤l∧l < b
 · exact ⟨l,hlb,List.getElem?_eq_getElem hl⟩
 · have h1:=h.out l (by omega)
   rw [List.getElem?_eq_getElem hl] at h1
   have hny:=h.nodup hn
   have hkl:k < Y.length:=(List.getElem?_eq_some_iff.1 he).1
   have hll:l < Y.length:=by rw [h.len];exact hl
   have h2:=(List.getElem?_eq_some_iff.1 he).2
   have h3:=(List.getElem?_eq_some_iff.1 h1).2
   have h4:k=l:=(List.getElem_inj hny).1 (h2.trans h3.symm)
   omega
end Go.Idl
namespace Go.Idl
open Go
def DE (x:Int×Int):Prop:=0≤x.1∧x.1 < 9223372036854775808∧0≤x.2∧x.2 < 9223372036854775808
abbrev fcE:IV:=.fn Qzo []
theorem Qer {a b:Int×Int} (ha:DE a) (hb:DE b) (M:List Qac):Ev tb Qzo [] [.agg [I a.1,I a.2],.agg [I b.1,I b.2]] M ⟨I (Qnb a b),[],M,[]⟩:=Qe6 a b ha hb M
theorem Qwa (X:List (Int×Int)) (hX:∀ x ∈ X,DE x) (i j s:Nat) (hi:i < X.length) (hj:j < X.length) (hs:s≤1000) (Ms Es:List Qac) :
 Ev tb Qno [0] [O2 X,I i,I j,.bptr Ms.length 0 0,fcE] (Ms++[[I s]]::Es)
  ⟨.tup (if Qan X[j] X[i] then [I j,I i] else [I i,I j]),[O2 X],Ms++[[I (if Qan X[j] X[i] then s+1 else s:Nat)]]::Es,[]⟩:=by
 have hb:=Qb1 X[j] X[i]
 have e1:=fun M=>Qaa (Qer (hX _ (List.getElem_mem hj)) (hX _ (List.getElem_mem hi)) M)
 have w1:IntKind.i64.wrap ((s:Int)+1)=(s:Int)+1:=Qae (by omega) (by omega)
 have hln:Ms.length+(Es.length+1+1)=Ms.length+(Es.length+1)+1:=by omega
 rw [← hb]
 by_cases hc:Qnb X[j] X[i] < 0
 · refine cW Jt9 rfl ?_
   repeat (first|apply wA|apply wS|refine wr (by simp [hi,hj,e1,hc,w1,hln];with_reducible rfl) ?_|refine wq (by simp [hi,hj,e1,hc,w1,hln];with_reducible rfl) ?_|refine wt (by simpa [hi,hj,e1,hc,w1,hln]) ?_|refine wf (by simpa [hi,hj,e1,hc,w1,hln]) ?_|refine xt (by simpa [hi,hj,e1,hc,w1,hln]) ?_|refine xf (by simpa [hi,hj,e1,hc,w1,hln]) ?_|apply wB|apply Qab|refine wX ?_|refine wY ?_|refine wR ?_|refine wK ?_|refine wE ?_)
   simp [Qyy,hc]
 · refine cW Jt9 rfl ?_
   repeat (first|apply wA|apply wS|refine wr (by simp [hi,hj,e1,hc,w1,hln];with_reducible rfl) ?_|refine wq (by simp [hi,hj,e1,hc,w1,hln];with_reducible rfl) ?_|refine wt (by simpa [hi,hj,e1,hc,w1,hln]) ?_|refine wf (by simpa [hi,hj,e1,hc,w1,hln]) ?_|refine xt (by simpa [hi,hj,e1,hc,w1,hln]) ?_|refine xf (by simpa [hi,hj,e1,hc,w1,hln]) ?_|apply wB|apply Qab|refine wX ?_|refine wY ?_|refine wR ?_|refine wK ?_|refine wE ?_)
   simp [Qyy,hc]
theorem Qca {a b:Int×Int} (h:a ≠ b):Qan a b=true ∨ Qan b a=true:=by
 simp only [Qan,Bool.or_eq_true,Qba,decide_eq_true_eq]
 have:¬ (a.1=b.1∧a.2=b.2):=fun h2=>h (Prod.ext h2.1 h2.2)
 omega
theorem Qgb {a b:Int×Int} (h:Qan a b=true):Qan b a=false:=by
 rw [← Bool.not_eq_true]
 simp only [Qan,Bool.or_eq_true,Qba,decide_eq_true_eq] at *
 omega
theorem Qqr (X:List (Int×Int)) (hX:∀ x ∈ X,DE x) (hn:X.Nodup) (i j s:Nat) (hi:i < X.length) (hj:j < X.length) (hij:i ≠ j) (hs:s≤1000) (Ms Es:List Qac) :
 ∃ a b s':Nat,((a=i∧b=j) ∨ (a=j∧b=i))∧s'≤s+1∧(∀ ha hb,Qan (X[a]'ha) (X[b]'hb)=true) ∧
   Qco tb Qno [0] [O2 X,I i,I j,.bptr Ms.length 0 0,fcE] (Ms++[[I s]]::Es)=some ⟨.tup [I a,I b],[O2 X],Ms++[[I s']]::Es,[]⟩:=by
 have e:=Qaa (Qwa X hX i j s hi hj hs Ms Es)
 have hne:X[i] ≠ X[j]:=fun h=>hij ((List.getElem_inj hn).1 h)
 cases hb:Qan X[j] X[i] with
 | true =>
   rw [hb] at e
   exact ⟨j,i,s+1,.inr ⟨rfl,rfl⟩,by omega,fun _ _=>hb,e⟩
 | false =>
   rw [hb] at e
   refine ⟨i,j,s,.inl ⟨rfl,rfl⟩,by omega,fun _ _=>?_,e⟩
   rcases Qca hne with h | h
   · exact h
   · rw [hb] at h;cases h
theorem Qxa (X:List (Int×Int)) (hX:∀ x ∈ X,DE x) (hn:X.Nodup) (i j k s:Nat) (hi:i < X.length) (hj:j < X.length) (hk:k < X.length) (hij:i ≠ j) (hik:i ≠ k) (hjk:j ≠ k) (hs:s≤900) (Ms Es:List Qac) :
 ∃ m s':Nat,s'≤s+3∧(m=i ∨ m=j ∨ m=k)∧(∃ p,(p=i ∨ p=j ∨ p=k)∧∀ h1 h2,Qan (X[p]'h1) (X[m]'h2)=true)∧(∃ p,(p=i ∨ p=j ∨ p=k)∧∀ h1 h2,Qan (X[m]'h1) (X[p]'h2)=true) ∧
   Ev tb Qy8 [0] [O2 X,I i,I j,I k,.bptr Ms.length 0 0,fcE] (Ms++[[I s]]::Es) ⟨I m,[O2 X],Ms++[[I s']]::Es,[]⟩:=by
 obtain ⟨a1,b1,s1,h1,k1,o1,e1⟩:=Qqr X hX hn i j s hi hj hij (by omega) Ms (Es++[[]])
 have ha1:a1 < X.length:=by omega
 have hb1:b1 < X.length:=by omega
 obtain ⟨b2,c2,s2,h2,k2,o2,e2⟩:=Qqr X hX hn b1 k s1 hb1 hk (by omega) (by omega) Ms (Es++[[]])
 have hb2:b2 < X.length:=by omega
 have hc2:c2 < X.length:=by omega
 obtain ⟨a3,b3,s3,h3,k3,o3,e3⟩:=Qqr X hX hn a1 b2 s2 ha1 hb2 (by omega) (by omega) Ms (Es++[[]])
 have ha3:a3 < X.length:=by omega
 have hb3:b3 < X.length:=by omega
 refine ⟨b3,s3,by omega,by omega,⟨a3,by omega,fun _ _=>o3 ha3 hb3⟩,?_,?_⟩
 · rcases h3 with ⟨_,rfl⟩ | ⟨_,rfl⟩
   · exact ⟨c2,by omega,fun _ _=>o2 hb2 hc2⟩
   · exact ⟨b1,by omega,fun _ _=>o1 ha1 hb1⟩
 · have hln:Ms.length+(Es.length+1+1)=Ms.length+(Es.length+1)+1:=by omega
   refine cW zt454 rfl ?_
   repeat (first|apply wA|apply wS|refine wr (by simp [e1,e2,e3,hln];with_reducible rfl) ?_|refine wq (by simp [e1,e2,e3,hln];with_reducible rfl) ?_|refine wt (by simpa [e1,e2,e3,hln]) ?_|refine wf (by simpa [e1,e2,e3,hln]) ?_|refine xt (by simpa [e1,e2,e3,hln]) ?_|refine xf (by simpa [e1,e2,e3,hln]) ?_|apply wB|apply Qab|refine wX ?_|refine wY ?_|refine wR ?_|refine wK ?_|refine wE ?_)
   simp [Jbd]
set_option maxHeartbeats 1000000 in
theorem Qky (X:List (Int×Int)) (hX:∀ x ∈ X,DE x) (hn:X.Nodup) (hl:X.length≤1000000) (a n:Nat) (hab:a+n≤X.length) (h13:13≤n) (h49:n≤49) (M:List Qac) :
 ∃ (m:Nat) (hint:Int),(a≤m∧m < a+n)∧(hint=0 ∨ hint=1)∧(∃ p,(a≤p∧p < a+n)∧∀ h1 h2,Qan (X[p]'h1) (X[m]'h2)=true)∧(∃ p,(a≤p∧p < a+n)∧∀ h1 h2,Qan (X[m]'h1) (X[p]'h2)=true) ∧
   Ev tb Quw [0] [O2 X,I a,I ((a:Int)+n),fcE] M ⟨.tup [I m,I hint],[O2 X],M,[]⟩:=by
 obtain ⟨q,hq⟩:∃ q,q=n / 4:=⟨_,rfl⟩
 have hq1:3≤q∧q * 3 < n:=by omega
 obtain ⟨m,s',h1,h2,⟨p1,h3,h4⟩,⟨p2,h5,h6⟩,e⟩:=Qxa X hX hn (a+q) (a+q * 2) (a+q * 3) 0 (by omega) (by omega) (by omega) (by omega) (by omega) (by omega) (by omega) M []
 have e1:=Qaa e
 have t1:(n:Int).tdiv 4=(q:Int):=by rw [Int.tdiv_eq_ediv_of_nonneg (by omega)];omega
 have w0:IntKind.i64.wrap (n:Int)=(n:Int):=Qae (by omega) (by omega)
 have w00:(a:Int)+n - a=n:=by omega
 have w1:IntKind.i64.wrap (q:Int)=(q:Int):=Qae (by omega) (by omega)
 have w2:IntKind.i64.wrap ((q:Int) * 2)=(q:Int) * 2:=Qae (by omega) (by omega)
 have w3:IntKind.i64.wrap ((q:Int) * 3)=(q:Int) * 3:=Qae (by omega) (by omega)
 have w4:IntKind.i64.wrap ((a:Int)+q)=(a:Int)+q:=Qae (by omega) (by omega)
 have w5:IntKind.i64.wrap ((a:Int)+q * 2)=(a:Int)+q * 2:=Qae (by omega) (by omega)
 have w6:IntKind.i64.wrap ((a:Int)+q * 3)=(a:Int)+q * 3:=Qae (by omega) (by omega)
 have g1:(8:Int)≤n:=by omega
 have g1':8≤n:=by omega
 have g2:¬ (50:Int)≤n:=by omega
 have g2':¬ 50≤n:=by omega
 rw [show ((a+q:Nat):Int)=(a:Int)+q by omega,show ((a+q * 2:Nat):Int)=(a:Int)+q * 2 by omega,show ((a+q * 3:Nat):Int)=(a:Int)+q * 3 by omega,show ((0:Nat):Int)=0 from rfl] at e1
 by_cases hs0:s'=0
 · subst hs0
   refine ⟨m,1,by omega,.inr rfl,⟨p1,by omega,h4⟩,⟨p2,by omega,h6⟩,?_⟩
   refine cW Jpb rfl ?_
   repeat (first|apply wA|apply wS|refine wr (by simp [e1,t1,w00,w0,w1,w2,w3,w4,w5,w6,g1,g2,g1',g2'];with_reducible rfl) ?_|refine wq (by simp [e1,t1,w00,w0,w1,w2,w3,w4,w5,w6,g1,g2,g1',g2'];with_reducible rfl) ?_|refine wt (by simpa [e1,t1,w00,w0,w1,w2,w3,w4,w5,w6,g1,g2,g1',g2']) ?_|refine wf (by simpa [e1,t1,w00,w0,w1,w2,w3,w4,w5,w6,g1,g2,g1',g2']) ?_|refine xt (by simpa [e1,t1,w00,w0,w1,w2,w3,w4,w5,w6,g1,g2,g1',g2']) ?_|refine xf (by simpa [e1,t1,w00,w0,w1,w2,w3,w4,w5,w6,g1,g2,g1',g2']) ?_|apply wB|apply Qab|refine wX ?_|refine wY ?_|refine wR ?_|refine wK ?_|refine wE ?_)
   simp [Qu3]
 · have hs1:¬ (s':Int)=0:=by omega
   have hs2:¬ (s':Int)=12:=by omega
   have hs3:¬ s'=12:=by omega
   refine ⟨m,0,by omega,.inl rfl,⟨p1,by omega,h4⟩,⟨p2,by omega,h6⟩,?_⟩
   refine cW Jpb rfl ?_
   repeat (first|apply wA|apply wS|refine wr (by simp [e1,t1,w00,w0,w1,w2,w3,w4,w5,w6,g1,g2,g1',g2',hs0,hs1,hs2,hs3];with_reducible rfl) ?_|refine wq (by simp [e1,t1,w00,w0,w1,w2,w3,w4,w5,w6,g1,g2,g1',g2',hs0,hs1,hs2,hs3];with_reducible rfl) ?_|refine wt (by simpa [e1,t1,w00,w0,w1,w2,w3,w4,w5,w6,g1,g2,g1',g2',hs0,hs1,hs2,hs3]) ?_|refine wf (by simpa [e1,t1,w00,w0,w1,w2,w3,w4,w5,w6,g1,g2,g1',g2',hs0,hs1,hs2,hs3]) ?_|refine xt (by simpa [e1,t1,w00,w0,w1,w2,w3,w4,w5,w6,g1,g2,g1',g2',hs0,hs1,hs2,hs3]) ?_|refine xf (by simpa [e1,t1,w00,w0,w1,w2,w3,w4,w5,w6,g1,g2,g1',g2',hs0,hs1,hs2,hs3]) ?_|apply wB|apply Qab|refine wX ?_|refine wY ?_|refine wR ?_|refine wK ?_|refine wE ?_)
   simp [Qu3]
end Go.Idl
