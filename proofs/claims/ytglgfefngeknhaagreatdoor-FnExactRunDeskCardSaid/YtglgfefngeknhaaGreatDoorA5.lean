/- Part 5 of a proof by an ideal interpreter of the code: its definitions and lemmas. Conditions: none. -/
import Derived.KernelRfl
import Derived.Test.YtglgfefngeknhaaGreatDoorA4
set_option linter.all false
set_option linter.unusedVariables false
set_option linter.unusedSimpArgs false
namespace Go.Idl
open Go
theorem Jsf (n lo hi:Int):Ev tb zl38 [] [I n,I lo,I hi] [] ⟨Bo (decide (lo<=n) && decide (n<=hi)),[],[],[]⟩:=by
 refine jC zt38 rfl ?_;refine Qbo (by simp;rfl) (by simp;rfl) ?_;by_cases h:lo<=n
 . refine Qbo (by simp [h];rfl) (by simp;rfl) ?_;refine jR ?_;simp [h,zi38]
 . refine Qbo (by simp [h];rfl) (by simp;rfl) ?_;refine jR ?_;simp [h,zi38]
theorem Qof (n lo hi:Int):Ev tb Jas [] [I n,I lo,I hi] [] ⟨Bo (decide (lo<=n) && decide (n<=hi)),[],[],[]⟩:=by
 refine jC zt132 rfl ?_;refine Qbo (by simp;rfl) (by simp;rfl) ?_;by_cases h:lo<=n
 . refine Qbo (by simp [h];rfl) (by simp;rfl) ?_;refine jR ?_;simp [h,Jhw]
 . refine Qbo (by simp [h];rfl) (by simp;rfl) ?_;refine jR ?_;simp [h,Jhw]
def Qoz (xs:List Int):Prop:=xs.length<=2000000/\∀ k,-4611686018427387904<=(xs.take k).sum/\(xs.take k).sum<=4611686018427387904
theorem Qde {xs:List Int} {i:Nat} (h:i < xs.length):(xs.take i).sum+xs[i]=(xs.take (i+1)).sum:=by
 rw [Kau h,List.sum_append];simp
theorem Qwx (xs:List Int) (c:Bool) (hs:Qoz xs):Ev tb Jrb [] [.lst 1 (Qb9 xs) c] [] ⟨I xs.sum,[],[],[]⟩:=by
 obtain ⟨hl,hs⟩:=hs;have loop:∀ (m i:Nat),i+m=xs.length->wp tb (.loop z40l7) { T:=[(0,.lst 1 (Qb9 xs) c),(3,I (xs.take i).sum),(6,.lst 1 (Qb9 xs) c),(7,I xs.length),(8,I i)],loc:=[],M:=[] }
  (fun ex st=>ex=.exit 0/\st={ T:=[(0,.lst 1 (Qb9 xs) c),(3,I xs.sum),(6,.lst 1 (Qb9 xs) c),(7,I xs.length),(8,I xs.length),(9,Bo false)],loc:=[],M:=[] }):=by
  intro m
  induction m with
  | zero =>
    intro i hi;have hi':i=xs.length:=by omega
    subst hi';apply jL;refine Qbo (by simp;rfl) (by simp;rfl) ?_;refine Qge rfl (by simp) fun _=>jY ?_;simp
  | succ m ih =>
    intro i hi;have hi':i < xs.length:=by omega
    have h1:=hs (i+1);rw [<- Qde hi'] at h1;apply jL;refine Qbo (by simp;rfl) (by simp;rfl) ?_;refine Qge rfl (fun _=>jQ ?_) (by simp [hi']);refine jB ?_;refine Qbo (by simp [hi'];rfl) (by simp;rfl) ?_;refine Qm7 (by simp;rfl) (by simp;rfl) ?_;refine Qm7 (by simp;rfl) (by simp;rfl) ?_;have:=ih (i+1) (by omega);rw [Qas (by omega),Qac (by omega) (by omega),Qde hi'];exact this
 refine jC zt40 rfl ?_;refine Qbo (by simp;rfl) (by simp;rfl) ?_;refine Qbo (by simp;rfl) (by simp;rfl) ?_;refine jA (Qbo (by simp;rfl) (by simp;rfl) ?_);refine jB (Qab (loop xs.length 0 (by simp)) ?_);rintro ex st ⟨rfl,rfl⟩;simp only [if_true];refine Qbo (by simp;rfl) (by simp;rfl) ?_;refine jR ?_;simp [zi40]
theorem Qph (xs:List Int):Ev tb Jrd [] [.own 1 (Qb9 xs)] [] ⟨.own 1 (Qb9 xs),[],[],[]⟩:=by
 refine jC zt70 rfl ?_;refine Qbo (by simp;rfl) (by simp;rfl) ?_;refine Qbo (by simp;rfl) (by simp;rfl) ?_;refine jR ?_;simp [zi70]
theorem Qww (xs:List Int) (c:Bool) (hl:xs.length<=2000000):Ev tb zl71 [] [.lst 1 (Qb9 xs) c] [] ⟨.own 1 (Qb9 xs),[],[],[]⟩:=by
 refine jC zt71 rfl ?_;refine Qbo (by simp;rfl) (by simp;rfl) ?_;refine Qqy (b:=xs.isEmpty) (by simp [Jz6];rfl) (by simp) ?_ ?_ ?_ (ex:=.ret) (st':={ T:=[(2,.own 1 (Qb9 xs))],loc:=[],M:=[] })
 . refine Qge (t:=false) (by simp) (by simp) fun _=>jQ ?_;refine Qbo (by simp [show xs.length<=274877906944 by omega];rfl) (by simp;rfl) ?_;refine jR ?_;simp
 . intro he;have:xs=[]:=by simpa using he
   subst this;refine Qge (t:=true) (by simp) (fun _=>jA ?_) (by simp);refine Qbo (by simp;rfl) (by simp;rfl) ?_;refine jX ?_;simp
 . simp [zi71]
theorem Qpl (xs:List Int) (c:Bool) (hl:xs.length<=2000000) :
 Ev tb Jo1 [] [.lst 1 (Qb9 xs) c] [] ⟨.own 1 (Qb9 xs),[],[],[]⟩:=by
 have e1:=Qaa (Qww xs c hl);have e2:=Qaa (Qph xs);refine jC zt31 rfl ?_;refine Qbo (by simp;rfl) (by simp;rfl) ?_;refine Qbo (by simp [e1,e2];rfl) (by simp;rfl) ?_;refine jR ?_;simp [zi31]
theorem Ql6 (xs:List Int) (c:Bool) (hs:Qoz xs):Ev tb Jbg [] [.lst 1 (Qb9 xs) c] [] ⟨I xs.sum,[],[],[]⟩:=by
 obtain ⟨hl,hs⟩:=hs;have loop:∀ (m i:Nat),i+m=xs.length->wp tb (.loop Jq8) { T:=[(0,.lst 1 (Qb9 xs) c),(3,I (xs.take i).sum),(4,I i)],loc:=[],M:=[] }
  (fun ex st=>ex=.exit 0/\st={ T:=[(0,.lst 1 (Qb9 xs) c),(3,I xs.sum),(4,I xs.length),(8,Bo false)],loc:=[],M:=[] }):=by
  intro m
  induction m with
  | zero =>
    intro i hi;have hi':i=xs.length:=by omega
    subst hi';refine jL (jA (Qbo (by simp;rfl) (by simp;rfl) ?_));exact Qge rfl (by simp) fun _=>jY (by simp)
  | succ m ih =>
    intro i hi;have hi':i < xs.length:=by omega
    have h1:=hs (i+1);rw [<- Qde hi'] at h1;refine jL (jA (Qbo (by simp;rfl) (by simp;rfl) ?_));refine Qge rfl (fun _=>jQ ?_) (by simp [hi']);refine jB (Qm7 (by simp [hi'];rfl) (by simp;rfl) ?_);refine Qm7 (by simp;rfl) (by simp;rfl) ?_;have:=ih (i+1) (by omega);rw [Qas (by omega),Qac (by omega) (by omega),Qde hi'];exact this
 refine jC zt382 rfl ?_;refine Qbo (by simp;rfl) (by simp;rfl) ?_;refine Qbo (by simp;rfl) (by simp;rfl) ?_;refine jA (Qbo (by simp;rfl) (by simp;rfl) ?_);refine jB (Qab (loop xs.length 0 (by simp)) ?_);rintro ex st ⟨rfl,rfl⟩;simp only [if_true];refine Qbo (by simp;rfl) (by simp;rfl) ?_;exact jR (by simp [Jot])
end Go.Idl
namespace Go.Idl
def Qht (x:Int):List Int->List Int
 | []=>[x]
 | y::ys=>if x<=y then y::Qht x ys else x::y::ys
def fall (xs:List Int):List Int:=xs.foldl (fun out x=>Qht x out) []
abbrev Jbk (xs:List Int):Prop:=xs.Pairwise (fun a b=>b<=a)
abbrev Asc (xs:List Int):Prop:=xs.Pairwise (fun a b=>a<=b)
theorem Qsn (x:Int) (ys:List Int):(Qht x ys).Perm (x::ys):=by
 induction ys with
 | nil=>exact .refl _
 | cons y ys ih =>
   unfold Qht;split
   . exact (ih.cons y).trans (.swap x y ys)
   . exact .refl _
theorem Jdt (x:Int) (ys:List Int) (h:Jbk ys):Jbk (Qht x ys):=by
 induction ys with
 | nil=>simp [Qht]
 | cons y ys ih =>
   unfold Qht;have h:=Kbe.1 h;split
   . refine Kbe.2 ⟨fun a ha=>?_,ih h.2⟩;rcases Kaf.1 ((Qsn x ys).mem_iff.1 ha) with rfl | ha
     . assumption
     . exact h.1 a ha
   . rename_i hx;refine Kbe.2 ⟨fun a ha=>?_,Kbe.2 h⟩;rcases Kaf.1 ha with rfl | ha
     . omega
     . have:=h.1 a ha;omega
theorem Qw1 (xs:List Int):∀ ys,Jbk ys->Jbk (xs.foldl (fun out x=>Qht x out) ys)/\(xs.foldl (fun out x=>Qht x out) ys).Perm (xs++ys):=by
 induction xs with
 | nil=>intro ys h;exact ⟨h,.refl _⟩
 | cons x xs ih =>
   intro ys h;obtain ⟨h1,h2⟩:=ih (Qht x ys) (Jdt x ys h);refine ⟨h1,h2.trans ?_⟩;exact ((Qsn x ys).append_left xs).trans List.perm_middle
theorem Qmf (xs:List Int):Jbk (fall xs):=(Qw1 xs [] .nil).1
theorem Qdp (xs:List Int):(fall xs).Perm xs:=by simpa [fall] using (Qw1 xs [] .nil).2
theorem Qay (xs:List Int):(fall xs).length=xs.length:=(Qdp xs).length_eq
theorem Qt7 {xs ys:List Int} (hx:Jbk xs) (hy:Jbk ys) (h:xs.Perm ys):xs=ys:=by
 refine List.Perm.eq_of_pairwise (le:=fun a b=>b<=a) (fun a b _ _ h1 h2=>by omega) hx hy h
theorem Qut {xs ys:List Int} (hy:Jbk ys) (h:ys.Perm xs):ys=fall xs:=Qt7 hy (Qmf xs) (h.trans (Qdp xs).symm)
theorem Qxx {xs ys:List Int} (h:xs.Perm ys):xs.sum=ys.sum:=by
 induction h with
 | nil=>rfl
 | cons x _ ih=>simp [ih]
 | swap x y l=>simp;omega
 | trans _ _ h1 h2=>exact h1.trans h2
theorem Qw3 (xs:List Int):(fall xs).sum=xs.sum:=Qxx (Qdp xs)
theorem Qw2 {xs:List Int} {x:Int}:x ∈ fall xs <-> x ∈ xs:=(Qdp xs).mem_iff
def Qxg (x:Int):List Int->List Int->List Int
 | [],B=>x::B
 | a::r,B=>if x < a then Qxg x r (a::B) else r.reverse++a::x::B
theorem Qmo (x:Int):∀ (r B:List Int),(Qxg x r B).Perm (r.reverse++x::B)
 | [],B=>.refl _
 | a::r,B=>by
   unfold Qxg;split
   . refine (Qmo x r (a::B)).trans ?_;rw [Kcv,Kal];exact Kek _ (.swap _ _ _)
   . rw [Kcv,Kal];exact .refl _
theorem Qxh (x:Int):∀ (r B:List Int),Asc (r.reverse++B)->(∀ b ∈ B,x<=b)->Asc (Qxg x r B)
 | [],B,h,hb=>Kbe.2 ⟨hb,by simpa using h⟩
 | a::r,B,h,hb=>by
   rw [Kcv,Kal] at h;unfold Qxg;split
   . rename_i hx;refine Qxh x r (a::B) h fun b hb'=>?_;rcases Kaf.1 hb' with rfl | hb'
     . omega
     . exact hb b hb'
   . rename_i hx;obtain ⟨h1,h2,h3⟩:=Kdt.1 (show Asc (r.reverse++a::B) from h);have h2:=Kbe.1 h2;refine Kdt.2 ⟨h1,?_,fun p hp q hq=>?_⟩
     . refine Kbe.2 ⟨fun q hq=>?_,Kbe.2 ⟨hb,h2.2⟩⟩;rcases Kaf.1 hq with rfl | hq
       . omega
       . exact h2.1 q hq
     . have ha:=h3 p hp a (by simp);rcases Kaf.1 hq with rfl | hq
       . exact ha
       . rcases Kaf.1 hq with rfl | hq
         . omega
         . exact h3 p hp q (by simp [hq])
def asc:Nat->List Int->List Int->List Int
 | _,S,[]=>S
 | n,S,x::r=>asc n (Qxg x S.reverse []) r
theorem Jcf:∀ (r S:List Int),Asc S->Asc (asc 0 S r)/\(asc 0 S r).Perm (S++r)
 | [],S,h=>⟨h,by simp [asc]⟩
 | x::r,S,h=>by
   obtain ⟨h1,h2⟩:=Jcf r (Qxg x S.reverse []) (Qxh x _ _ (by simpa using h) (by simp));refine ⟨h1,h2.trans ?_⟩;have:=Qmo x S.reverse [];rw [Kde] at this;refine (this.append_right r).trans ?_;rw [Kal];exact .refl _
theorem Jrm (xs:List Int):(asc 0 [] xs).reverse=fall xs:=by
 obtain ⟨h1,h2⟩:=Jcf xs [] .nil;refine Qut ?_ ((List.reverse_perm _).trans (by simpa using h2));rw [Jbk,List.pairwise_reverse];exact h1
theorem Jrl (xs:List Int):(asc 0 [] xs).length=xs.length:=by simpa using (Jcf xs [] .nil).2.length_eq
end Go.Idl
namespace Go.Idl
open Go
abbrev L (xs:List Int) (c:Bool:=false):IV:=.lst 1 (Qb9 xs) c
abbrev O (xs:List Int):IV:=.own 1 (Qb9 xs)
theorem Jlk (n:Int):Ev tb zl4 [] [I n] [] ⟨Bo false,[],[],[]⟩:=by
 refine jC zt4 rfl ?_
 repeat refine go0 ?_
 simp [zi4]
theorem Jsc (a b:Int):Ev tb zl2 [] [I a,I b] [] ⟨Bo (decide (a < b)),[],[],[]⟩:=by
 have e1:=fun n=>Qaa (Jlk n);refine jC zt2 rfl ?_;have Hq:=e1;repeat refine go1 ?_
 simp [zi2]
theorem Qh6 (n:Int) (M:List Qad):Ev tb zl8 [] [I n] M ⟨Bo (decide (n < 0)),[],M,[]⟩:=by
 refine jC zt8 rfl ?_
 repeat refine go0 ?_
 simp [zi8]
theorem Qwi {A Z:List Int} {a x:Int}:(A++a::x::Z)[A.length+1]? = some x:=by
 rw [Kat (by omega)];simp
theorem Qo0 {A Z:List Int} {a:Int}:(A++a::Z)[A.length]? = some a:=by
 rw [Kat (by omega)];simp
theorem Jcc {A Z:List Int} {a x:Int}:((A++a::x::Z).set (A.length+1) a).set A.length x=A++x::a::Z:=by
 rw [Kcl _ _ (by omega),Kcl _ _ (by omega)];simp
theorem insl (n i:Int) (x:Int) (rest:List Int) (M:List Qad):∀ (k:Nat) (A B:List Int),A.length=k->k+B.length+rest.length<=2000000 ->
 wp tb (.loop z86l6) { T:=[(0,O (A++x::(B++rest))),(1,I 0),(2,I n),(6,I i),(7,I k)],loc:=[],M:=M }
  (fun ex st=>ex=.exit 2/\∃ k':Int,st={ T:=[(0,O (Qxg x A.reverse B++rest)),(1,I 0),(2,I n),(6,I i),(7,I k'),(30,Bo false)],loc:=[],M:=M }):=by
 have e1:=fun a b=>Qaa (Jsc a b);intro k
 induction k with
 | zero =>
   intro A B hA hl;have:A=[]:=Kav.1 hA;subst this;refine jL ?_
   repeat refine go0 ?_
   exact ⟨rfl,_,by simp [Qxg];rfl⟩
 | succ k ih =>
   intro A B hA hl;obtain ⟨A',a,rfl⟩:∃ A' a,A=A'++[a]:=⟨A.dropLast,A.getLast (by intro h;subst h;simp at hA),(Kdm _).symm⟩;have hA':A'.length=k:=by simpa using hA
   subst hA';have w1:IntKind.i64.wrap (A'.length:Int)=(A'.length:Int):=Jf6 (by omega);have w2:(0:Int) < (A'.length:Int)+1:=by omega
   simp only [Kal,List.singleton_append];by_cases hx:x < a
   . refine jL ?_;have Hq:=cj7 e1 hx w1 w2 @Qo0 @Qwi @Jcc;repeat refine go1 ?_
     have:=ih A' (a::B) rfl (by simp;omega);simp only [Kbk,Kea,Kcv,Ken,Kaq] at this |-;simp only [Qxg,hx,if_true];exact this
   . refine jL ?_;have Hq:=cj7 e1 hx w1 w2 @Qo0 @Qwi @Jcc;repeat refine go1 ?_
     refine ⟨rfl,((A'.length+1:Nat):Int),?_⟩;simp only [Kea,Kcv,Ken,Kaq,Kbk];simp only [Qxg,hx,Kbs,Kde,Kal,Kbk];rfl
theorem Qpy (x:Int) (S:List Int):(Qxg x S.reverse []).length=S.length+1:=by
 have:=(Qmo x S.reverse []).length_eq;simpa using this
theorem sortl (M:List Qad) (n:Int):∀ (r S:List Int),n=(S.length+r.length:Nat)->S.length+r.length<=2000000 ->
 wp tb (.loop z86l8) { T:=[(0,O (S++r)),(1,I 0),(2,I n),(6,I S.length)],loc:=[],M:=M }
  (fun ex st=>ex=.exit 0/\∃ k':Int,st={ T:=[(0,O (asc 0 S r)),(1,I 0),(2,I n),(6,I k'),(12,Bo false)],loc:=[],M:=M }):=by
 intro r
 induction r with
 | nil =>
   intro S hn hl;refine jL ?_;have h1:¬ (S.length:Int) < n:=by simp at hn;omega
   have Hq:=h1;repeat refine go1 ?_
   exact ⟨rfl,_,by simp [asc];rfl⟩
 | cons x r ih =>
   intro S hn hl;refine jL ?_;simp only [Kbc] at hn hl;have h1:(S.length:Int) < n:=by omega
   have w1:IntKind.i64.wrap ((S.length:Int)+1)=(S.length:Int)+1:=by rw [Qac (by omega) (by omega)]
   have Hq:=cj2 h1 w1;repeat refine go1 ?_
   refine Qab (insl n S.length x r M S.length S [] rfl (by simp;omega)) ?_;rintro ex st ⟨rfl,k',rfl⟩;simp only [if_true];have Hq:=cj2 h1 w1;repeat refine go1 ?_
   have:=ih (Qxg x S.reverse []) (by rw [Qpy];omega) (by rw [Qpy];omega);rw [Qpy] at this;exact this
theorem Qkf (xs:List Int) (hl:xs.length<=1000) (M:List Qad) :
 Ev tb zl86 [0] [O xs,I 0,I xs.length] M ⟨.tup [],[O (asc 0 [] xs)],M,[]⟩:=by
 refine jC zt86 rfl ?_
 repeat refine go0 ?_
 cases xs with
 | nil =>
   refine jL ?_
   repeat refine go0 ?_
   simp [zi86,asc]
 | cons x r =>
   simp only [Kbc] at hl;refine Qab (sortl M _ r [x] (by simp;omega) (by simp;omega)) ?_;rintro ex st ⟨rfl,k',rfl⟩;simp [zi86,asc,Qxg]
theorem Qzf (xs:List Int) (hl:xs.length<=12) (k:Int) (M:List Qad) :
 Ev tb Qvr [0] [O xs,I 0,I xs.length,I k] M ⟨.tup [],[O (asc 0 [] xs)],M,[]⟩:=by
 have e1:=Qaa (Qkf xs (by omega) (M++[[]]));have w1:IntKind.i64.wrap (xs.length:Int)=(xs.length:Int):=Jf6 (by omega);refine jC zt101 rfl ?_
 repeat refine go0 ?_
 refine jL ?_;have h:(xs.length:Int)<=12:=by omega
 have Hq:=cj4 e1 w1 hl h;repeat refine go1 ?_
 simp [Jni]
theorem len_r (cf:CF) (n:Int) (m:Nat) (g:ByteArray) (hw:IntKind.u8.wrap n=(m:Int)) (hb:(g[m]?).isSome=true) :
 ∃ k st,Qaf cf { T:=[(0,.sc (.int .u64 n)),(2,I 0),(14,Bo false)],loc:=[],M:=[] } [⟨some 19,none,.mv (.t 2)⟩,⟨some 20,none,.mv (.t 0)⟩,⟨some 21,none,.conv .u8 (.t 20)⟩,⟨some 22,none,.idxs (.c (.string g)) (.t 21)⟩,⟨some 23,none,.conv .i64 (.t 22)⟩,⟨some 24,none,.bin .add (.t 19) (.t 23)⟩,⟨some 2,none,.asg (.t 24)⟩]=some st/\st.cut [2]={ T:=[(2,I k)],loc:=[],M:=[] }:=by
 obtain ⟨b,hb⟩:=Option.isSome_iff_exists.1 hb;refine ⟨_,_,by simp [hw,hb];rfl,by simp;rfl⟩
set_option maxRecDepth 100000 in
theorem Jlf (n:Nat) (hn:n<=12):∃ k:Int,Ev tb zl68 [] [.sc (.int .u64 n)] [] ⟨I k,[],[],[]⟩:=by
 have w8:IntKind.u8.wrap (n:Int)=(n:Int):=by
  have:n=0 \/ n=1 \/ n=2 \/ n=3 \/ n=4 \/ n=5 \/ n=6 \/ n=7 \/ n=8 \/ n=9 \/ n=10 \/ n=11 \/ n=12:=by omega
  rcases this with rfl | rfl | rfl | rfl | rfl | rfl | rfl | rfl | rfl | rfl | rfl | rfl | rfl <;> rfl
 have key:∃ k:Int,∃ st,Qaf (Qbq tb) { T:=[(0,.sc (.int .u64 n)),(2,I 0),(14,Bo false)],loc:=[],M:=[] } (match Jht with | .reg ops _ _=>ops | _=>[])=some st/\st.cut [2]={ T:=[(2,I k)],loc:=[],M:=[] }:=by
  have:n=0 \/ n=1 \/ n=2 \/ n=3 \/ n=4 \/ n=5 \/ n=6 \/ n=7 \/ n=8 \/ n=9 \/ n=10 \/ n=11 \/ n=12:=by omega
  rcases this with rfl | rfl | rfl | rfl | rfl | rfl | rfl | rfl | rfl | rfl | rfl | rfl | rfl
  all_goals
   refine len_r (Qbq tb) _ _ _ w8 ?_;rfl
 obtain ⟨k,st,h1,h2⟩:=key;have g1:¬ (4294967296:Int)<=n:=by omega
 have g2:¬ (65536:Int)<=n:=by omega
 have g3:¬ (256:Int)<=n:=by omega
 refine ⟨k,?_⟩;refine jC zt68 rfl ?_
 iterate 4 ((first|apply jA|skip);refine Qbo (by simp [g1,g2,g3];rfl) (by simp;rfl) ?_;(first|refine Qge (t:=false) (by simp) (by simp) (fun _=>?_)|skip);(first|apply jQ|skip))
 refine Qbo h1 h2 ?_;refine jR ?_;simp [zi68]
theorem ev_Len (n:Nat) (hn:n<=12):∃ k:Int,Ev tb Jrc [] [.sc (.int .u64 n)] [] ⟨I k,[],[],[]⟩:=by
 obtain ⟨k,hk⟩:=Jlf n hn;have e1:=Qaa hk;refine ⟨k,?_⟩;refine jC zt66 rfl ?_;have Hq:=e1;repeat refine go1 ?_
 simp [zi66]
theorem Jnh {n:Nat} (h:n < 2000000):IntKind.u64.wrap (n:Int)=(n:Int):=by
 have e1:(2:Int) ^ IntKind.u64.bits=18446744073709551616:=by decide
 have e3:IntKind.u64.signed=false:=rfl;unfold IntKind.wrap;rw [e1,e3];simp;omega
theorem Jse (xs:List Int) (hl:xs.length<=12) (M:List Qad) :
 Ev tb zl78 [0] [O xs] M ⟨.tup [],[O (asc 0 [] xs)],M,[]⟩:=by
 obtain ⟨k,hk⟩:=ev_Len xs.length hl;have e1:=Qaa hk;have e2:=Qaa (Qzf xs hl k (M++[[]]));have w1:=@Jnh xs.length (by omega);refine jC zt78 rfl ?_;have Hq:=cj3 e1 e2 w1;repeat refine go1 ?_
 simp [zi78]
end Go.Idl
namespace Go.Idl
open Go
theorem Qzu {k:IntKind} {a b:Nat}:Qcc (.sc (.int k ((a:Int)+(b:Int)+1)))=some (a+b+1):=Qf3 (n:=a+b+1)
theorem Jpv {A m B:List Int} {x y:Int}:(A++x::(m++y::B))[A.length+m.length+1]? = some y:=by
 rw [Kat (by omega),show A.length+m.length+1 - A.length=m.length+1 by omega,List.getElem?_cons_succ,Kat (by omega)];simp
theorem Jtp {A m B:List Int} {x y:Int} {h}:(A++x::(m++y::B))[A.length+m.length+1]'h=y:=by
 have:=@Jpv A m B x y;rw [Kag h] at this;exact Kda this
theorem rv_set {A m B:List Int} {v x y:Int}:(A++v::(m++y::B)).set (A.length+m.length+1) x=A++v::(m++x::B):=by
 rw [Kcl _ _ (by omega)];simp [show A.length+m.length+1 - A.length=m.length+1 by omega]
theorem revl (M:List Qad):∀ (k:Nat) (A m B:List Int),m.length<=k->A.length+m.length+B.length<=2000000 ->
 wp tb (.loop z76l4) { T:=[(0,O (A++(m++B))),(2,I A.length),(3,I ((A.length:Int)+m.length - 1))],loc:=[],M:=M }
  (fun ex st=>ex=.exit 0/\∃ a b:Int,st={ T:=[(0,O (A++(m.reverse++B))),(2,I a),(3,I b),(9,Bo false)],loc:=[],M:=M }):=by
 intro k
 induction k with
 | zero =>
   intro A m B hk hl;have:m=[]:=Kav.1 (by omega);subst this;refine jL ?_;have h:¬ ((A.length:Int) < A.length - 1):=by omega
   have Hq:=h;repeat refine go1 ?_
   exact ⟨rfl,_,_,rfl⟩
 | succ k ih =>
   intro A m B hk hl
   match m,hk,hl with
   | [],hk,hl =>
     refine jL ?_;have h:¬ ((A.length:Int) < A.length - 1):=by omega
     have Hq:=h;repeat refine go1 ?_
     exact ⟨rfl,_,_,rfl⟩
   | [x],hk,hl =>
     refine jL ?_
     repeat refine go0 ?_
     exact ⟨rfl,_,_,rfl⟩
   | x::z::m',hk,hl =>
     obtain ⟨m,y,hm⟩:∃ m y,z::m'=m++[y]:=⟨(z::m').dropLast,(z::m').getLast (by simp),(Kdm _).symm⟩;rw [hm] at hk hl |-;simp only [Kbc,Kbu,Kci] at hk hl;have hj:(A.length:Int)+(x::(m++[y])).length - 1=(A.length:Int)+m.length+1:=by simp;omega
     rw [hj];simp only [Kbk,Kal,Kaq];refine jL ?_;have h:(A.length:Int) < A.length+m.length+1:=by omega
     have h2:A.length < A.length+(m.length+(B.length+1)+1):=by omega
     have h3:A.length+m.length+1 < A.length+(m.length+(B.length+1)+1):=by omega
     have w1:IntKind.i64.wrap ((A.length:Int)+1)=((A++[y]).length:Int):=by rw [Qac (by omega) (by omega)];simp
     have w2:IntKind.i64.wrap ((A.length:Int)+m.length)=((A++[y]).length:Int)+m.length - 1:=by rw [Qac (by omega) (by omega)];simp;omega
     have Hq:=Qri h h2 h3 w1 w2 @Jpv @Jtp @rv_set @Qzu @Qo0;repeat refine go1 ?_
     have:=ih (A++[y]) m (x::B) (by omega) (by simp;omega);simp at this |-;exact this
theorem Qzc (xs:List Int) (hl:xs.length<=2000000) (M:List Qad) :
 Ev tb zl76 [0] [O xs] M ⟨.tup [],[O xs.reverse],M,[]⟩:=by
 have w1:IntKind.i64.wrap ((xs.length:Int) - 1)=(xs.length:Int) - 1:=Qac (by omega) (by omega);refine jC zt76 rfl ?_;have Hq:=w1;repeat refine go1 ?_
 have:=revl M xs.length [] xs [] (by omega) (by simp;omega);simp at this;refine Qab this ?_;rintro ex st ⟨rfl,a,b,rfl⟩;simp [zi76]
theorem Qgl (xs:List Int) (c:Bool) (hl:xs.length<=12) :
 Ev tb Jra [] [L xs c] [] ⟨O (fall xs),[],[],[]⟩:=by
 have e1:=Qaa (Qpl xs c (by omega));have e2:=Qaa (Jse xs hl [[]]);have e3:=Qaa (Qzc (asc 0 [] xs) (by rw [Jrl];omega) [[]]);refine jC zt37 rfl ?_;have Hq:=cj4 e1 e2 e3 @Jrm;repeat refine go1 ?_
 simp [zi37]
theorem Qch {xs:List Int} {i m:Nat} (h:i+(m+1)=xs.length):∃ h:i < xs.length,xs.drop i=xs[i]::xs.drop (i+1)/\xs[i] ∈ xs:=by
 have hi:i < xs.length:=by omega
 exact ⟨hi,Kay hi,Kao hi⟩
theorem Qcg {xs:List Int} {i:Nat} (h:i+0=xs.length):xs[i]? = none/\xs.drop i=[]:=by
 have:i=xs.length:=by omega
 subst this;simp
def idx (p:Int->Bool):Int->List Int->Int
 | _,[]=>-1
 | i,x::r=>if p x then i else idx p (i+1) r
theorem Qjp (xs:List Int) (c:Bool) (F:Lab) (caps:List IV) (M:List Qad) (p:Int->Bool) (hl:xs.length<=2000000)
 (hp:∀ x ∈ xs,Ev tb F [] (I x::caps) (M++[[]]) ⟨Bo (p x),[],M++[[]],[]⟩) :
 Ev tb zl73 [] [L xs c,.fn F caps] M ⟨I (idx p 0 xs),[],M,[]⟩:=by
 have loop:∀ (m i:Nat),i+m=xs.length->wp tb (.loop z73l7) { T:=[(0,L xs c),(1,.fn F caps),(7,I xs.length),(8,I i)],loc:=[],M:=M }
  (fun ex st=>(ex=.exit 0/\idx p i (xs.drop i)=-1/\st={ T:=[(0,L xs c),(1,.fn F caps),(7,I xs.length),(8,I xs.length),(9,Bo false)],loc:=[],M:=M }) \/
    ex=.ret/\st={ T:=[(4,I (idx p i (xs.drop i)))],loc:=[],M:=M }):=by
  intro m
  induction m with
  | zero =>
    intro i hi;obtain ⟨h1,h2⟩:=Qcg hi;have h3:i=xs.length:=hi;subst h3;refine jL ?_
    repeat refine go0 ?_
    refine .inl ⟨rfl,by rw [h2];rfl,rfl⟩
  | succ m ih =>
    intro i hi;obtain ⟨hi2,h2,h3⟩:=Qch hi;have e1:=Qaa (hp _ h3);have w1:IntKind.i64.wrap ((i:Int)+1)=((i+1:Nat):Int):=Qas (by omega);rw [h2];cases hpx:p xs[i] with
    | true =>
      refine jL ?_;have Hq:=cj4 e1 hi2 w1 hpx;repeat refine go1 ?_
      refine .inr ⟨rfl,by simp [idx,hpx]⟩
    | false =>
      refine jL ?_;have Hq:=cj4 e1 hi2 w1 hpx;repeat refine go1 ?_
      have:=ih (i+1) (by omega);simp only [idx,hpx] at this |-;exact this
 refine jC zt73 rfl ?_
 repeat refine go0 ?_
 refine Qab (loop xs.length 0 (by simp)) ?_;rintro ex st (⟨rfl,h,rfl⟩ | ⟨rfl,rfl⟩)
 . simp only [if_true]
   repeat refine go0 ?_
   simp at h;simp [zi73,h]
 . simp [zi73]
end Go.Idl
namespace Go.Idl
open Go
theorem Qui (x lo hi:Int):Ev tb zl30 [] [I x,.bptr 0 0 0,.bptr 0 1 0] [[[I lo],[I hi]],[],[]] ⟨Bo (!(decide (lo<=x) && decide (x<=hi))),[],[[[I lo],[I hi]],[],[]],[]⟩:=by
 have e1:=Qaa (Jsf x lo hi);refine jC zt30 rfl ?_;have Hq:=e1;repeat refine go1 ?_
 simp [zi30]
theorem Qlr (xs:List Int) (c:Bool) (F:Lab) (caps:List IV) (M:List Qad) (p:Int->Bool) (hl:xs.length<=2000000)
 (hp:∀ x ∈ xs,Ev tb F [] (I x::caps) (M++[[],[]]) ⟨Bo (p x),[],M++[[],[]],[]⟩) :
 Ev tb zl72 [] [L xs c,.fn F caps] M ⟨Bo (decide (0<=idx p 0 xs)),[],M,[]⟩:=by
 have e1:=Qaa (Qjp xs c F caps (M++[[]]) p hl (by simpa using hp));refine jC zt72 rfl ?_;have Hq:=e1;repeat refine go1 ?_
 simp [zi72]
theorem Jds (p:Int->Bool):∀ (xs:List Int) (i:Int),0<=i->(decide (0<=idx p i xs)=xs.any p)
 | [],i,h=>by simp [idx]
 | x::r,i,h=>by
   unfold idx;cases hp:p x with
   | true=>simp [hp,h]
   | false=>simp [hp];simpa using Jds p r (i+1) (by omega)
theorem Jlh (xs:List Int) (c:Bool) (lo hi:Int) (hl:xs.length<=2000000) :
 Ev tb zl29 [] [L xs c,I lo,I hi] [] ⟨Bo (xs.all fun x=>decide (lo<=x) && decide (x<=hi)),[],[],[]⟩:=by
 have e1:=Qaa (Qlr xs c zl30 [.bptr 0 0 0,.bptr 0 1 0] [[[I lo],[I hi]]] _ hl (fun x _=>Qui x lo hi));refine jC zt29 rfl ?_;have Hq:=cj2 e1 @Jds;repeat refine go1 ?_
 simp [zi29,List.all_eq_not_any_not]
def Qbb (d:List Int):Bool:=decide (d.length<=7) && d.all fun x=>decide (0<=x) && decide (x < d.length)
theorem Qbh (xs:List Int) (c:Bool) (hl:xs.length<=2000000):Ev tb Jbp [] [L xs c] [] ⟨Bo (Qbb xs),[],[],[]⟩:=by
 have e1:=Qaa (Jlh xs c 0 ((xs.length:Int) - 1) hl);have w1:IntKind.i64.wrap ((xs.length:Int) - 1)=(xs.length:Int) - 1:=Qac (by omega) (by omega);have hx:∀ x:Int,(x<=(xs.length:Int) - 1) <-> x < (xs.length:Int):=fun x=>by omega
 simp only [hx] at e1;have h2:((xs.length:Int)<=7) <-> xs.length<=7:=by omega
 by_cases h:xs.length<=7
 . refine jC zt25 rfl ?_;have Hq:=cj4 e1 w1 h2 h;repeat refine go1 ?_
   simp [zi25,Qbb,h]
 . refine jC zt25 rfl ?_;have Hq:=cj4 e1 w1 h2 h;repeat refine go1 ?_
   simp [zi25,Qbb,h]
theorem Ql7 (xs:List Int) (c:Bool) (hl:xs.length<=2000000):Ev tb Ji0 [] [L xs c] [] ⟨Bo (Qbb xs),[],[],[]⟩:=by
 have e1:=fun n=>Qaa (Qof n 0 ((xs.length:Int) - 1));have w1:IntKind.i64.wrap ((xs.length:Int) - 1)=(xs.length:Int) - 1:=Qac (by omega) (by omega);have hx:∀ x:Int,(x<=(xs.length:Int) - 1) <-> x < (xs.length:Int):=fun x=>by omega
 simp only [hx] at e1;have loop:∀ (m i:Nat),i+m=xs.length->wp tb (.loop Jp7) { T:=[(0,L xs c),(3,I i)],loc:=[],M:=[] }
  (fun ex st=>(ex=.exit 0/\((xs.drop i).all fun x=>decide (0<=x) && decide (x < xs.length))=true/\st={ T:=[(0,L xs c),(3,I xs.length),(7,Bo false)],loc:=[],M:=[] }) \/
    ex=.ret/\((xs.drop i).all fun x=>decide (0<=x) && decide (x < xs.length))=false/\st={ T:=[(2,Bo false)],loc:=[],M:=[] }):=by
  intro m
  induction m with
  | zero =>
    intro i hi;obtain ⟨h1,h2⟩:=Qcg hi;have h3:i=xs.length:=hi;subst h3;refine jL ?_
    repeat refine go0 ?_
    refine .inl ⟨rfl,by rw [h2];rfl,rfl⟩
  | succ m ih =>
    intro i hi;obtain ⟨hi2,h2,h3⟩:=Qch hi;have w2:IntKind.i64.wrap ((i:Int)+1)=((i+1:Nat):Int):=Qas (by omega);rw [h2];cases hpx:(decide (0<=xs[i]) && decide (xs[i] < (xs.length:Int))) with
    | true =>
      refine jL ?_;have Hq:=cj5 e1 hi2 w1 w2 hpx;repeat refine go1 ?_
      have:=ih (i+1) (by omega);simp only [Kcj,hpx,Kbx] at this |-;exact this
    | false =>
      refine jL ?_;have Hq:=cj5 e1 hi2 w1 w2 hpx;repeat refine go1 ?_
      refine .inr ⟨rfl,by simp only [Kcj,hpx,Kee],rfl⟩
 refine jC zt144 rfl ?_
 repeat refine go0 ?_
 refine Qab (loop xs.length 0 (by simp)) ?_;rintro ex st (⟨rfl,h,rfl⟩ | ⟨rfl,h,rfl⟩)
 . simp only [if_true];have h2:((xs.length:Int)<=7) <-> xs.length<=7:=by omega
   have Hq:=h2;repeat refine go1 ?_
   simp only [Kcb] at h;simp only [Qbb,h];simp [Jhx]
 . simp only [Kcb] at h;simp only [Qbb,h];simp [Jhx]
theorem Qly (xs:List Int) (c:Bool) (hl:xs.length<=2000000):Ev tb Qvs [] [L xs c] [] ⟨O xs,[],[],[]⟩:=by
 refine jC zt123 rfl ?_;have Hq:=(show xs.length<=274877906944 by omega);repeat refine go1 ?_
 simp [Jnl]
end Go.Idl
namespace Go.Idl
open Go
def bytes (xs:List Int):List (List IV):=xs.map fun n=>[.sc (.int .u8 n)]
@[simp] theorem bytes_len (xs:List Int):(bytes xs).length=xs.length:=by simp [bytes]
@[simp] theorem bytes_take (xs:List Int) (n:Nat):(bytes xs).take n=bytes (xs.take n):=by simp [bytes,List.map_take]
@[simp] theorem bytes_get? (xs:List Int) (i:Nat):(bytes xs)[i]? = xs[i]?.map fun n=>[IV.sc (.int .u8 n)]:=by simp [bytes]
@[simp] theorem bytes_get (xs:List Int) (i:Nat) (h:i < (bytes xs).length):(bytes xs)[i]=[IV.sc (.int .u8 (xs[i]'(by simpa [bytes] using h)))]:=by simp [bytes]
@[simp] theorem bytes_emp (xs:List Int):(bytes xs).isEmpty=xs.isEmpty:=by cases xs <;> rfl
@[simp] theorem bytes_all1 (xs:List Int):((bytes xs).all fun x=>x.all IV.plain1)=true:=by
  induction xs with
  | nil=>rfl
  | cons x xs ih=>simp only [bytes,Kbd,Kcj] at *;rw [ih];rfl
@[simp] theorem bytes_all2 (xs:List Int):((bytes xs).all fun x=>x.all IV.isData)=true:=by
  induction xs with
  | nil=>rfl
  | cons x xs ih=>simp only [bytes,Kbd,Kcj] at *;rw [ih];rfl
@[simp] theorem Jrx (xs:List Int):Qb7 (bytes xs)=true:=by
  induction xs with
  | nil=>rfl
  | cons x xs ih=>simp only [bytes,Kbd,Qb7,Qbl,Qcr] at *;rw [ih];rfl
abbrev R (code:List Int) (c:Bool) (n:Int):List IV:=[.lst 1 (bytes code) c,I n]
end Go.Idl
namespace Go.Idl
open Go
def eds (xs:List (Int×Int)):List (List IV):=xs.map fun e=>[I e.1,I e.2]
abbrev L2 (xs:List (Int×Int)) (c:Bool:=false):IV:=.lst 2 (eds xs) c
abbrev O2 (xs:List (Int×Int)):IV:=.own 2 (eds xs)
@[simp] theorem eds_len (xs:List (Int×Int)):(eds xs).length=xs.length:=by simp [eds]
@[simp] theorem Que:eds []=[]:=rfl
@[simp] theorem eds_take (xs:List (Int×Int)) (n:Nat):(eds xs).take n=eds (xs.take n):=by simp [eds,List.map_take]
@[simp] theorem eds_drop (xs:List (Int×Int)) (n:Nat):(eds xs).drop n=eds (xs.drop n):=by simp [eds,List.map_drop]
@[simp] theorem eds_app (xs ys:List (Int×Int)):eds xs++eds ys=eds (xs++ys):=by simp [eds]
@[simp] theorem eds_one (xs:List (Int×Int)) (a b:Int):eds xs++[[IV.sc (.int .i64 a),IV.sc (.int .i64 b)]]=eds (xs++[(a,b)]):=by simp [eds]
@[simp] theorem eds_get? (xs:List (Int×Int)) (i:Nat):(eds xs)[i]? = xs[i]?.map fun e=>[IV.sc (.int .i64 e.1),IV.sc (.int .i64 e.2)]:=by simp [eds]
@[simp] theorem eds_get (xs:List (Int×Int)) (i:Nat) (h:i < (eds xs).length):(eds xs)[i]=[IV.sc (.int .i64 (xs[i]'(by simpa [eds] using h)).1),IV.sc (.int .i64 (xs[i]'(by simpa [eds] using h)).2)]:=by simp [eds]
@[simp] theorem eds_emp (xs:List (Int×Int)):(eds xs).isEmpty=xs.isEmpty:=by cases xs <;> rfl
@[simp] theorem eds_set (xs:List (Int×Int)) (i:Nat) (a b:Int):(eds xs).set i [IV.sc (.int .i64 a),IV.sc (.int .i64 b)]=eds (xs.set i (a,b)):=by
  simp [eds,Ker]
@[simp] theorem eds_all1 (xs:List (Int×Int)):((eds xs).all fun x=>x.all IV.plain1)=true:=by
  induction xs with
  | nil=>rfl
  | cons x xs ih=>simp only [eds,Kbd,Kcj] at *;rw [ih];rfl
@[simp] theorem eds_all2 (xs:List (Int×Int)):((eds xs).all fun x=>x.all IV.isData)=true:=by
  induction xs with
  | nil=>rfl
  | cons x xs ih=>simp only [eds,Kbd,Kcj] at *;rw [ih];rfl
@[simp] theorem eds_noLst (xs:List (Int×Int)):Qb7 (eds xs)=true:=by
  induction xs with
  | nil=>rfl
  | cons x xs ih=>simp only [eds,Kbd,Qb7,Qbl,Qcr] at *;rw [ih];rfl
@[simp] theorem frz_eds (xs:List (Int×Int)):Qdq (eds xs)=eds xs:=by
  induction xs with
  | nil=>rfl
  | cons x xs ih=>simp only [eds,Kbd,Qdq,Qe4,Qol] at *;rw [ih]
def row (a b:Nat):Nat->List (Int×Int)
 | 0=>[]
 | m+1=>((a:Int),(b:Int))::row a (b+1) m
def Qq7 (a:Nat):Nat->List (Int×Int)
 | 0=>[]
 | m+1=>row a (a+1) m++Qq7 (a+1) m
def prs (n:Nat):List (Int×Int):=Qq7 0 n
theorem Qqi (a:Nat):∀ (m b:Nat),(row a b m).length=m
 | 0,b=>rfl
 | m+1,b=>by simp [row,Qqi a m]
theorem Qk2:∀ (m a:Nat),(Qq7 a m).length<=m * m
 | 0,a=>by simp [Qq7]
 | m+1,a=>by
   have:=Qk2 m (a+1);have e:(m+1) * (m+1)=m * m+2 * m+1:=by rw [Kdk,Nat.mul_add];omega
   simp only [Qq7,Kbu,Qqi];omega
theorem Jmh (n a:Nat) (hn:n<=1000):∀ (m b:Nat) (acc:List (Int×Int)),b+m=n->acc.length+m<=2000000 ->
 wp tb (.loop Jp6) { T:=[(0,I n),(3,O2 acc),(4,I a),(5,I b)],loc:=[],M:=[] }
  (fun ex st=>ex=.exit 2/\st={ T:=[(0,I n),(3,O2 (acc++row a b m)),(4,I a),(5,I n),(16,Bo false)],loc:=[],M:=[] }):=by
 intro m
 induction m with
 | zero =>
   intro b acc hb hl;have h3:b=n:=hb;subst h3;refine jL ?_
   repeat refine go0 ?_
   simp [row]
 | succ m ih =>
   intro b acc hb hl;have h1:(b:Int) < n:=by omega
   have w1:IntKind.i64.wrap ((b:Int)+1)=((b+1:Nat):Int):=Qas (by omega);refine jL ?_;have Hq:=cj3 h1 w1 (show acc.length<=274877906943 by omega);repeat refine go1 ?_
   have:=ih (b+1) (acc++[((a:Int),(b:Int))]) (by omega) (by simp;omega);simp only [Kal,Kbk,Kaq] at this;simp [row];exact this
theorem Jlm (n:Nat) (hn:n<=1000):Ev tb Jiz [] [I n] [] ⟨O2 (prs n),[],[],[]⟩:=by
 have loop:∀ (m a:Nat) (acc:List (Int×Int)),a+m=n->acc.length+m * m<=2000000 ->
  wp tb (.loop Jf9) { T:=[(0,I n),(3,O2 acc),(4,I a)],loc:=[],M:=[] }
  (fun ex st=>ex=.exit 0/\st={ T:=[(0,I n),(3,O2 (acc++Qq7 a m)),(4,I n),(9,Bo false)],loc:=[],M:=[] }):=by
  intro m
  induction m with
  | zero =>
    intro a acc ha hl;have h3:a=n:=ha;subst h3;refine jL ?_
    repeat refine go0 ?_
    simp [Qq7]
  | succ m ih =>
    intro a acc ha hl;have h1:(a:Int) < n:=by omega
    have w1:IntKind.i64.wrap ((a:Int)+1)=((a+1:Nat):Int):=Qas (by omega);have e:(m+1) * (m+1)=m * m+2 * m+1:=by rw [Kdk,Nat.mul_add];omega
    refine jL ?_;have Hq:=cj2 h1 w1;repeat refine go1 ?_
    refine Qab (Jmh n a hn m (a+1) acc (by omega) (by omega)) ?_;rintro ex st ⟨rfl,rfl⟩;simp only [if_true];have Hq:=cj2 h1 w1;repeat refine go1 ?_
    have:=ih (a+1) (acc++row a (a+1) m) (by omega) (by simp [Qqi];omega);simp only [Kal] at this;exact this
 have hnn:n * n<=1000 * 1000:=Nat.mul_le_mul hn hn;refine jC zt138 rfl ?_
 repeat refine go0 ?_
 refine Qab (loop n 0 [] (by omega) (by simp;omega)) ?_;rintro ex st ⟨rfl,rfl⟩;simp only [if_true]
 repeat refine go0 ?_
 simp [Jno,prs]
abbrev Gr (n:Int) (es:List (Int×Int)) (c:Bool:=false):IV:=.agg [I n,L2 es c]
abbrev OG (n:Int) (es:List (Int×Int)):IV:=.agg [I n,O2 es]
def isE (a b:Int) (e:Int×Int):Bool:=decide (e.1=a) && decide (e.2=b) || decide (e.1=b) && decide (e.2=a)
def has (es:List (Int×Int)) (a b:Int):Bool:=es.any (isE a b)
theorem Qoe (n:Int) (es:List (Int×Int)) (c:Bool) (a b:Int) (hl:es.length<=100000) :
 Ev tb Jar [] [Gr n es c,I a,I b] [] ⟨Bo (has es a b),[],[],[]⟩:=by
 have loop:∀ (m i:Nat) (B:Qad),i+m=es.length->wp tb (.loop Jp4) { T:=[(1,I a),(2,I b),(3,.bptr 0 0 0),(7,I i)],loc:=[I n,L2 es c]::B,M:=[] }
  (fun ex st=>(ex=.exit 0/\has (es.drop i) a b=false/\∃ B',st={ T:=[(1,I a),(2,I b),(3,.bptr 0 0 0),(7,I es.length),(13,Bo false)],loc:=[I n,L2 es c]::B',M:=[] }) \/
    ex=.ret/\has (es.drop i) a b=true/\∃ B',st={ T:=[(6,Bo true)],loc:=[I n,L2 es c]::B',M:=[] }):=by
  intro m
  induction m with
  | zero =>
    intro i B hi;have h3:i=es.length:=hi;subst h3;refine jL ?_
    repeat refine go0 ?_
    refine .inl ⟨rfl,by simp [has],_,rfl⟩
  | succ m ih =>
    intro i B hi;have hi2:i < es.length:=by omega
    have w1:IntKind.i64.wrap ((i:Int)+1)=((i+1:Nat):Int):=Qas (by omega);have hd:es.drop i=es[i]::es.drop (i+1):=Kay hi2;refine jL ?_;have Hq:=cj2 hi2 w1;repeat refine go1 ?_
    have hh:∀ (x:Int×Int) r,has (x::r) a b=(isE a b x || has r a b):=fun _ _=>rfl;rw [hd,hh];generalize es[i]=e;obtain ⟨p,q⟩:=e;have hn:=ih (i+1) (B++[[I p,I q]]) (by omega);have key:∃ st1,Qaf (Qbq tb) { T:=[(1,I a),(2,I b),(3,.bptr 0 0 0),(7,I i),(8,.bptr 0 (B.length+1) 0)],loc:=[I n,L2 es c]::(B++[[I p,I q]]),M:=[] }
     (match Qj4 with | .reg ops _ _=>ops | _=>[])=some st1 /\
     st1.cut [1,2,3,7,42]={ T:=[(1,I a),(2,I b),(3,.bptr 0 0 0),(7,I i),(42,Bo (isE a b (p,q)))],loc:=[I n,L2 es c]::(B++[[I p,I q]]),M:=[] }:=by
     by_cases h1:p=a
     . subst h1;by_cases h2:q=b
       . subst h2;exact ⟨_,by simp [Qj4];with_reducible rfl,by simp [isE]⟩
       . by_cases h3:p=b
         . subst h3;exact ⟨_,by simp [Qj4,h2];with_reducible rfl,by simp [isE,h2]⟩
         . exact ⟨_,by simp [Qj4,h2,h3];with_reducible rfl,by simp [isE,h2,h3]⟩
     . by_cases h3:p=b
       . subst h3;by_cases h4:q=a
         . subst h4;exact ⟨_,by simp [Qj4,h1];with_reducible rfl,by simp [isE,h1]⟩
         . exact ⟨_,by simp [Qj4,h1,h4];with_reducible rfl,by simp [isE,h1,h4]⟩
       . exact ⟨_,by simp [Qj4,h1,h3];with_reducible rfl,by simp [isE,h1,h3]⟩
    obtain ⟨st1,k1,k2⟩:=key;refine Qbo k1 k2 ?_;cases hx:isE a b (p,q) with
    | true =>
      repeat refine go0 ?_
      exact .inr ⟨rfl,by simp,_,rfl⟩
    | false =>
      have Hq:=w1;repeat refine go1 ?_
      rw [Kdz];exact hn
 refine jC zt130 rfl ?_
 repeat refine go0 ?_
 refine Qab (loop es.length 0 [] (by simp)) ?_;rintro ex st (⟨rfl,h,B',rfl⟩ | ⟨rfl,h,B',rfl⟩)
 . simp only [if_true]
   repeat refine go0 ?_
   simp only [Kcb] at h;simp [Jhu,h]
 . simp only [Kcb] at h;simp [Jhu,h]
def Jcu (n:Nat) (es:List (Int×Int)):List (Int×Int):=(prs n).filter fun e=>!has es e.1 e.2
theorem Qki {α} {p:α->Bool} {xs:List α} {i:Nat} (h:i < xs.length):(xs.take (i+1)).filter p=(xs.take i).filter p++(if p xs[i] then [xs[i]] else []):=by
 rw [Kau h,List.filter_append];congr 1;simp [Kec]
theorem Qia (n:Nat) (hn:n<=100) (es:List (Int×Int)) (c:Bool) (hl:es.length<=100000) :
 Ev tb Jiy [] [Gr n es c] [] ⟨OG n (Jcu n es),[],[],[]⟩:=by
 have e1:=Qaa (Jlm n (by omega));have e2:=fun a b=>Qaa (Qoe n es c a b hl);have hpl:(prs n).length<=100000:=by
  have:=Qk2 n 0;have h2:n * n<=100 * 100:=Nat.mul_le_mul hn hn;simp only [prs];omega
 have loop:∀ (m i:Nat),i+m=(prs n).length->wp tb (.loop Jp1) { T:=[(1,.bptr 0 0 0),(2,.bptr 0 1 0),(3,.bptr 0 2 0),(4,O2 (prs n)),(5,I i)],loc:=[[I n,L2 es c],[I 0,.lst 0 [] true],[I n,O2 (((prs n).take i).filter fun e=>!has es e.1 e.2)]],M:=[] }
  (fun ex st=>ex=.exit 0/\st={ T:=[(1,.bptr 0 0 0),(2,.bptr 0 1 0),(3,.bptr 0 2 0),(4,O2 (prs n)),(5,I (prs n).length),(16,Bo false)],loc:=[[I n,L2 es c],[I 0,.lst 0 [] true],[I n,O2 (Jcu n es)]],M:=[] }):=by
  intro m
  induction m with
  | zero =>
    intro i hi;have h3:i=(prs n).length:=hi;subst h3;refine jL ?_
    repeat refine go0 ?_
    simp [Jcu]
  | succ m ih =>
    intro i hi;have hi2:i < (prs n).length:=by omega
    have w1:IntKind.i64.wrap ((i:Int)+1)=((i+1:Nat):Int):=Qas (by omega);have hn:=ih (i+1) (by omega);rw [Qki hi2] at hn;have hfl:(((prs n).take i).filter fun e=>!has es e.1 e.2).length<=100000:=by
     have h1:=Kei (fun e:Int×Int=>!has es e.1 e.2) ((prs n).take i);simp at h1;omega
    generalize (((prs n).take i).filter fun e=>!has es e.1 e.2)=acc at hn hfl;cases hx:has es (prs n)[i].1 (prs n)[i].2 with
    | true =>
      rw [hx] at hn;simp at hn;refine jL ?_;have Hq:=cj4 e2 hi2 hx w1;repeat refine go1 ?_
      exact hn
    | false =>
      rw [hx] at hn;simp at hn;refine jL ?_;have Hq:=cj5 e2 hi2 hx w1 (show acc.length<=274877906943 by omega);repeat refine go1 ?_
      have hb:acc.length<=274877906943:=by omega
      refine Qhr (by simp [hi2,hb];with_reducible rfl) (by simp;with_reducible rfl) ?_ ?_
      . intro p hp;simp only [Kaf,Kaw,Kcf] at hp;subst hp;exact ⟨_,by simp [hi2,hb];with_reducible rfl,by simp⟩
      have Hq:=w1;repeat refine go1 ?_
      exact hn
 refine jC zt122 rfl ?_;have Hq:=e1;repeat refine go1 ?_
 have:=loop (prs n).length 0 (by simp);simp at this;refine Qab this ?_;rintro ex st ⟨rfl,rfl⟩;simp only [if_true]
 repeat refine go0 ?_
 simp [Jnk]
end Go.Idl
namespace Go.Idl
open Go
theorem Qlg {f:Lab} {fn:Qar} (hf:tb f=some fn) {lent:List Nat} {args:List IV} {M:List Qad} (hl:lent.all fn.keep.contains=true) {P:Ret->Prop}
 (h:wp tb fn.body { T:=args.zipIdx.map fun (v,i)=>(i,v),loc:=[],M:=M } fun ex st=>(ex=.normal \/ ex=.ret)/\∃ r,P r/\Qd6 fn lent st=some r):∃ r,P r/\Ev tb f lent args M r:=by
 obtain ⟨ex,st',⟨h1,r,hP,h2⟩,-,back⟩:=Qa8 h;exact ⟨r,hP,jC hf hl (back _ ⟨h1,h2⟩)⟩
end Go.Idl
namespace Go.Idl
theorem sumB {B:Int} (hB:0<=B):∀ {xs:List Int},(∀ x ∈ xs,0<=x/\x<=B)->0<=xs.sum/\xs.sum<=B * xs.length
 | [],_=>by simp
 | x::r,h=>by
   have h1:=h x (by simp);have h2:=sumB hB (xs:=r) (fun y hy=>h y (by simp [hy]));have e:B * ((x::r).length:Int)=B * r.length+B:=by
    rw [Kbc,Int.natCast_add,Int.mul_add];simp
   rw [List.sum_cons,e];omega
def slk (s:List Int) (k:Nat):Int:=(k:Int) * ((k:Int) - 1) - (s.take k).sum+((s.drop k).map fun x:Int=>min x (k:Int)).sum
def Qa7 (d:List Int):List Int:=(List.range d.length).map fun i=>slk (fall d) (i+1)
theorem Qet (d:List Int):(Qa7 d).length=d.length:=by simp [Qa7]
theorem Jnb (l:List Int) (x:Int) (k:Nat):slk (l++[x]) k=slk l k+(if l.length < k then -x else min x k):=by
 unfold slk;by_cases h:l.length < k
 . rw [if_pos h,Kae (by simp;omega),Kew (by simp;omega),Kae (l:=l) (by omega),Kew (l:=l) (by omega)];simp;omega
 . rw [if_neg h,List.take_append_of_le_length (by omega),List.drop_append_of_le_length (by omega)];simp;omega
theorem Qql {s:List Int} {i:Nat} (h:i < s.length) (k:Nat):slk (s.take (i+1)) k=slk (s.take i) k+(if i < k then -s[i] else min s[i] k):=by
 rw [Kau h,Jnb];have:(s.take i).length=i:=by simp;omega
 rw [this]
theorem Qm4 {s:List Int} {k:Nat} (hk:k<=7) (hl:s.length<=7) (h:∀ x ∈ s,0<=x/\x<=6):-100<=slk s k/\slk s k<=200:=by
 unfold slk;have h1:=sumB (B:=6) (by omega) (xs:=s.take k) (fun x hx=>h x (Kbv hx));have h2:=sumB (B:=6) (by omega) (xs:=(s.drop k).map fun x:Int=>min x k) (by
  intro x hx;obtain ⟨y,hy,rfl⟩:=Kck.1 hx;have:=h y (Kdl hy);omega)
 have l1:(s.take k).length<=7:=by simp;omega
 have l2:((s.drop k).map fun x:Int=>min x k).length<=7:=by simp;omega
 have h3:(k:Int) * ((k:Int) - 1)<=7 * 6/\0<=(k:Int) * ((k:Int) - 1):=by
  cases k with
  | zero=>simp
  | succ n =>
    have e:((n+1:Nat):Int) - 1=(n:Int):=by omega
    rw [e];exact ⟨Int.mul_le_mul (by omega) (by omega) (by omega) (by omega),Int.mul_nonneg (by omega) (by omega)⟩
 generalize (k:Int) * ((k:Int) - 1)=q at *
 omega
def Qsp (xs:List Int):Int:=xs.foldl (fun n x=>min n x) 0
theorem Qsr:∀ (xs:List Int) (n:Int),xs.foldl (fun n x=>min n x) n<=n/\((xs.foldl (fun n x=>min n x) n=n) <-> ∀ x ∈ xs,n<=x)
 | [],n=>by simp
 | x::r,n=>by
   obtain ⟨h1,h2⟩:=Qsr r (min n x);simp only [Kdv,Kaf,forall_eq_or_imp];by_cases hx:n<=x
   . rw [Int.min_eq_left hx] at h1 h2 |-;exact ⟨h1,h2.trans ⟨fun h=>⟨hx,h⟩,fun h=>h.2⟩⟩
   . rw [Int.min_eq_right (by omega)] at h1 h2 |-;exact ⟨by omega,⟨fun h=>by omega,fun h=>absurd h.1 hx⟩⟩
theorem Qzq (xs:List Int):Qsp xs=0 <-> ∀ x ∈ xs,0<=x:=(Qsr xs 0).2
end Go.Idl
namespace Go.Idl
open Go
abbrev Z:IV:=.lst 0 [] true
def Few (xs:List Int):Prop:=xs.length<=7/\∀ x ∈ xs,0<=x/\x<=6
theorem Qan {xs:List Int} (h:Qbb xs=true):Few xs:=by
 simp only [Qbb,Kac,Kai,Kaj] at h;refine ⟨h.1,fun x hx=>?_⟩;have:=h.2 x hx;omega
theorem Qdv {xs:List Int} (h:Qbb xs=true):∀ x ∈ xs,0<=x/\x < xs.length:=by
 simp only [Qbb,Kac,Kai,Kaj] at h;exact h.2
theorem Few.small {xs:List Int} (h:Few xs):Qoz xs:=by
 refine ⟨by have:=h.1;omega,fun k=>?_⟩;have h1:=sumB (B:=6) (by omega) (xs:=xs.take k) (fun x hx=>h.2 x (Kbv hx));have h2:(xs.take k).length<=7:=by have:=h.1;simp;omega
 omega
theorem Few.take {xs:List Int} (h:Few xs) (k:Nat):Few (xs.take k):=⟨by have:=h.1;simp;omega,fun x hx=>h.2 x (Kbv hx)⟩
theorem Few.drop {xs:List Int} (h:Few xs) (k:Nat):Few (xs.drop k):=⟨by have:=h.1;simp;omega,fun x hx=>h.2 x (Kdl hx)⟩
theorem Few.fall {xs:List Int} (h:Few xs):Few (fall xs):=⟨by rw [Qay];exact h.1,fun x hx=>h.2 x (Qw2.1 hx)⟩
theorem Few.sum {xs:List Int} (h:Few xs):0<=xs.sum/\xs.sum<=42:=by
 have h1:=sumB (B:=6) (by omega) h.2;have:=h.1;omega
def Qxp (n:Nat) (g:Nat->Int):List Int:=(List.range n).map g
theorem Qp4 {n i:Nat} (g:Nat->Int) (h:i < n):(Qxp i g++List.replicate (n - i) 0).set i (g i)=Qxp (i+1) g++List.replicate (n - (i+1)) 0:=by
 have e:n - i=(n - (i+1))+1:=by omega
 rw [e,List.replicate_succ,Kcl _ _ (by simp [Qxp])];simp [Qxp,Kff]
@[simp] theorem ints_rep (n:Nat):List.replicate n [IV.sc (.int .i64 0)]=Qb9 (List.replicate n 0):=by simp [Qb9]
theorem Jdb (xs:List Int) (c:Bool) (F:Lab) (caps:List IV) (M:List Qad) (g:Nat->Int) (hv:Qbb xs=true)
 (hF:∀ k,k < xs.length->Ev tb F [] (I k::caps) (M++[[]]) ⟨I (g k),[],M++[[]],[]⟩) :
 Ev tb zl35 [] [L xs c,.fn F caps] M ⟨O (Qxp xs.length g),[],M,[]⟩:=by
 have hl:xs.length<=7:=(Qan hv).1;have e1:=Qaa (Qbh xs c (by omega));have loop:∀ (m i:Nat),i+m=xs.length->wp tb (.loop z35l9) { T:=[(1,.fn F caps),(5,O (Qxp i g++List.replicate (xs.length - i) 0)),(14,I xs.length),(15,I i)],loc:=[],M:=M }
  (fun ex st=>ex=.exit 0/\st={ T:=[(1,.fn F caps),(5,O (Qxp xs.length g)),(14,I xs.length),(15,I xs.length),(16,Bo false)],loc:=[],M:=M }):=by
  intro m
  induction m with
  | zero =>
    intro i hi;have h3:i=xs.length:=hi;subst h3;refine jL ?_
    repeat refine go0 ?_
    exact ⟨rfl,rfl⟩
  | succ m ih =>
    intro i hi;have hi2:i < xs.length:=by omega
    have e2:=Qaa (hF i hi2);have w2:IntKind.i64.wrap ((i:Int)+1)=((i+1:Nat):Int):=Qas (by omega);have hln:(Qxp i g).length=i:=by simp [Qxp]
    have hlt:i < i+(xs.length - i):=by omega
    have hs:=Qp4 g hi2;refine jL ?_;have Hq:=cj6 e2 hi2 w2 hln hlt hs;repeat refine go1 ?_
    exact ih (i+1) (by omega)
 refine jC zt35 rfl ?_
 repeat (first|apply jA|apply jQ|refine wr (by simp [e1,hv,show xs.length<=274877906944 by omega];with_reducible rfl) ?_|refine wq (by simp [e1,hv,show xs.length<=274877906944 by omega];with_reducible rfl) ?_|refine wt (by simpa [e1,hv,show xs.length<=274877906944 by omega]) ?_|refine wf (by simpa [e1,hv,show xs.length<=274877906944 by omega]) ?_|refine xt (by simpa [e1,hv,show xs.length<=274877906944 by omega]) ?_|refine xf (by simpa [e1,hv,show xs.length<=274877906944 by omega]) ?_|apply jB|apply Jaf|refine jX ?_|refine jY ?_|refine jR ?_|refine jK ?_|refine jE ?_)
 have:=loop xs.length 0 (by simp);simp [Qxp] at this;refine Qab this ?_;rintro ex st ⟨rfl,rfl⟩;simp only [if_true]
 repeat refine go0 ?_
 simp [zi35,Qxp];rw [Kae (by simp)]
theorem Qsv (a b:Int):(if b < a then b else a)=min a b:=by split <;> omega
theorem Jst (a b:Int):(if a < b then a else b)=min a b:=by split <;> omega
theorem Qno (s:List Int) (i:Nat) (hi:i < s.length) (hs:Few s) :
 Ev tb zl19 [] [I i,.bptr 0 0 0] [[[O s]],[]] ⟨I (slk s (i+1)),[],[[[O s]],[]],[]⟩:=by
 have hl:=hs.1;have e1:=Qaa (Qwx (s.take (i+1)) false (hs.take _).small);have hb1:=(hs.take (i+1)).sum;have hd:=hs.drop (i+1);generalize hr:s.drop (i+1)=r at hd;have hrl:r.length=s.length - (i+1):=by rw [<- hr];simp
 have loop:∀ (m j:Nat) (n:Int),j+m=r.length->0<=n+100->n<=1000+6 * j->wp tb (.loop z19l8) { T:=[(1,.bptr 0 0 0),(4,I ((i+1:Nat):Int)),(5,I n),(21,.arr (.B 0 0) 0 [] 1 (i+1) (s.length - (i+1)) false),(22,I ((s.length - (i+1):Nat):Int)),(23,I j)],loc:=[],M:=[[[O s]],[]] }
  (fun ex st=>ex=.exit 0/\st={ T:=[(1,.bptr 0 0 0),(4,I ((i+1:Nat):Int)),(5,I (n+((r.drop j).map fun x:Int=>min x ((i+1:Nat):Int)).sum)),(21,.arr (.B 0 0) 0 [] 1 (i+1) (s.length - (i+1)) false),(22,I ((s.length - (i+1):Nat):Int)),(23,I ((s.length - (i+1):Nat):Int)),(24,Bo false)],loc:=[],M:=[[[O s]],[]] }):=by
  intro m
  induction m with
  | zero =>
    intro j n hj h0 h1;obtain ⟨h1,h2⟩:=Qcg hj;have h3:j=s.length - (i+1):=by omega
    subst h3;refine jL ?_
    repeat refine go0 ?_
    rw [h2];simp
  | succ m ih =>
    intro j n hj h0 h1;obtain ⟨hi2,h2,h3⟩:=Qch hj;have hx:=hd.2 _ h3;have hlr:=hd.1;have w2:IntKind.i64.wrap ((j:Int)+1)=((j+1:Nat):Int):=Qas (by omega);have w3:IntKind.i64.wrap (n+min r[j] ((i:Int)+1))=n+min r[j] ((i:Int)+1):=Qac (by omega) (by omega);rw [h2];refine jL ?_;have hj3:i+1+j < s.length:=by omega
    have hj4:j < s.length - (i+1):=by omega
    have hg:s[i+1+j]=r[j]:=by subst hr;simp
    have Hq:=cj7 hi2 w2 w3 @Qsv hj3 hj4 hg;repeat refine go1 ?_
    have:=ih (j+1) (n+min r[j] ((i:Int)+1)) (by omega) (by omega) (by omega);simp only [Kbd,List.sum_cons,Int.natCast_add,Int.natCast_one,Int.add_assoc] at this |-;exact this
 have hq:(((i:Int)+1) * (i:Int))<=1000/\0<=((i:Int)+1) * (i:Int):=by
  have h1:((i:Int)+1) * (i:Int)<=7 * 7:=Int.mul_le_mul (by omega) (by omega) (by omega) (by omega);exact ⟨by omega,Int.mul_nonneg (by omega) (by omega)⟩
 generalize hm:((i:Int)+1) * (i:Int)=q at hq;have w1:IntKind.i64.wrap ((i:Int)+1)=(i:Int)+1:=Qac (by omega) (by omega);have w2:IntKind.i64.wrap (i:Int)=(i:Int):=Qac (by omega) (by omega);have w3:IntKind.i64.wrap q=q:=Qac (by omega) (by omega);have w4:IntKind.i64.wrap (q - (s.take (i+1)).sum)=q - (s.take (i+1)).sum:=Qac (by omega) (by omega);refine jC zt19 rfl ?_;have Hq:=cj8 e1 w1 w2 w3 w4 hm hi (show i+1<=s.length by omega);repeat refine go1 ?_
 have:=loop r.length 0 (q - (s.take (i+1)).sum) (by simp) (by omega) (by omega);refine Qab this ?_;rintro ex st ⟨rfl,rfl⟩;simp only [if_true]
 repeat refine go0 ?_
 have h1:(((i+1:Nat):Int) - 1)=(i:Int):=by omega
 simp only [slk,hr,h1];rw [show ((i+1:Nat):Int) * (i:Int)=q from hm];simp [zi19]
theorem Qlv (d:List Int) (c:Bool) (hv:Qbb d=true):Ev tb zl18 [] [L d c] [] ⟨O (Qa7 d),[],[],[]⟩:=by
 have hf:=(Qan hv).fall;have hl:=(Qan hv).1;have e1:=Qaa (Qgl d c (by omega));have e2:=Qaa (Jdb d c zl19 [.bptr 0 0 0] [[[O (fall d)]]] (fun k=>slk (fall d) (k+1)) hv (fun k hk=>Qno (fall d) k (by rw [Qay];exact hk) hf));refine jC zt18 rfl ?_;have Hq:=cj2 e1 e2;repeat refine go1 ?_
 simp [zi18,Qa7,Qxp]
def Qd7 (d:List Int):Int:=idx (fun x=>decide (x < 0)) 0 (Qa7 d)+1
theorem Qmn (p:Int->Bool):∀ (xs:List Int) (i:Int),0<=i->-1<=idx p i xs/\idx p i xs<=i+xs.length
 | [],i,h=>by simp [idx];omega
 | x::r,i,h=>by
   have:=Qmn p r (i+1) (by omega);unfold idx;split
   . simp;omega
   . simp;omega
theorem Qlt (d:List Int) (c:Bool) (hv:Qbb d=true):Ev tb zl7 [] [L d c] [] ⟨I (Qd7 d),[],[],[]⟩:=by
 have hl:=(Qan hv).1;have e1:=Qaa (Qlv d c hv);have e2:=Qaa (Qjp (Qa7 d) false zl8 [] [[]] _ (by rw [Qet];omega) (fun x _=>Qh6 x [[],[]]));have hb:=Qmn (fun x=>decide (x < 0)) (Qa7 d) 0 (by omega);rw [Qet] at hb;have w1:IntKind.i64.wrap (idx (fun x=>decide (x < 0)) 0 (Qa7 d)+1)=Qd7 d:=Qac (by omega) (by omega);refine jC zt7 rfl ?_;have Hq:=cj3 e1 e2 w1;repeat refine go1 ?_
 simp [zi7]
def Qa2 (d:List Int):Bool:=Qbb d && decide (d.sum % 2=0) && (Qa7 d).all fun x=>decide (0<=x)
theorem Jls (p:Int->Bool) (xs:List Int) (i:Int) (h:0<=i):(idx p i xs+1=0) <-> xs.any p=false:=by
 have h1:=Jds p xs i h;have h2:=(Qmn p xs i h).1;cases hx:xs.any p with
 | true=>rw [hx] at h1;simp at h1;simp;omega
 | false=>rw [hx] at h1;simp at h1;simp;omega
theorem Qi9 (d:List Int):Qd7 d=0 <-> ((Qa7 d).all fun x=>decide (0<=x))=true:=by
 rw [Qd7,Jls _ _ _ (by omega)];rw [<- Kep,Kaj,Kfb];constructor
 . intro h x hx;have:=fun hp=>h ⟨x,hx,hp⟩;simp at this |-;exact this
 . rintro h ⟨x,hx,hp⟩;have:=h x hx;simp at this hp;omega
theorem Qfs (d:List Int) (c:Bool) (hl:d.length<=2000000):Ev tb Jz8 [] [L d c] [] ⟨Bo (Qa2 d),[],[],[]⟩:=by
 have e1:=Qaa (Qbh d c hl);cases hv:Qbb d with
 | false =>
   refine jC zt10 rfl ?_
   repeat (first|apply jA|apply jQ|refine wr (by simp [e1,hv];with_reducible rfl) ?_|refine wq (by simp [e1,hv];with_reducible rfl) ?_|refine wt (by simpa [e1,hv]) ?_|refine wf (by simpa [e1,hv]) ?_|refine xt (by simpa [e1,hv]) ?_|refine xf (by simpa [e1,hv]) ?_|apply jB|apply Jaf|refine jX ?_|refine jY ?_|refine jR ?_|refine jK ?_|refine jE ?_)
   simp [zi10,Qa2,hv]
 | true =>
   have hs:=(Qan hv);have e2:=Qaa (Qwx d c hs.small);have e3:=Qaa (Qlt d c hv);have h2:d.sum.tmod 2=d.sum % 2:=Int.tmod_eq_emod_of_nonneg hs.sum.1;have hr:=Qi9 d;have w1:IntKind.i64.wrap (d.sum.tmod 2)=d.sum % 2:=by rw [h2];exact Qac (by omega) (by omega)
   by_cases hp:d.sum % 2=0
   . refine jC zt10 rfl ?_
     repeat (first|apply jA|apply jQ|refine wr (by simp [e1,hv,e2,e3,w1,h2,hp];with_reducible rfl) ?_|refine wq (by simp [e1,hv,e2,e3,w1,h2,hp];with_reducible rfl) ?_|refine wt (by simpa [e1,hv,e2,e3,w1,h2,hp]) ?_|refine wf (by simpa [e1,hv,e2,e3,w1,h2,hp]) ?_|refine xt (by simpa [e1,hv,e2,e3,w1,h2,hp]) ?_|refine xf (by simpa [e1,hv,e2,e3,w1,h2,hp]) ?_|apply jB|apply Jaf|refine jX ?_|refine jY ?_|refine jR ?_|refine jK ?_|refine jE ?_)
     simp [zi10,Qa2,hv,hp];rw [Kdq,Kbt];exact hr
   . refine jC zt10 rfl ?_
     repeat (first|apply jA|apply jQ|refine wr (by simp [e1,hv,e2,e3,w1,h2,hp];with_reducible rfl) ?_|refine wq (by simp [e1,hv,e2,e3,w1,h2,hp];with_reducible rfl) ?_|refine wt (by simpa [e1,hv,e2,e3,w1,h2,hp]) ?_|refine wf (by simpa [e1,hv,e2,e3,w1,h2,hp]) ?_|refine xt (by simpa [e1,hv,e2,e3,w1,h2,hp]) ?_|refine xf (by simpa [e1,hv,e2,e3,w1,h2,hp]) ?_|apply jB|apply Jaf|refine jX ?_|refine jY ?_|refine jR ?_|refine jK ?_|refine jE ?_)
     simp [zi10,Qa2,hv,hp,hr]
end Go.Idl
namespace Go.Idl
open Go
def Qni (o:List Int) (i:Nat):List Int:=o.set i (o.getD i 0+1)
def Qgw (o:List Int) (es:List (Int×Int)):List Int:=es.foldl (fun o e=>Qni (Qni o e.1.toNat) e.2.toNat) o
def Qdf (n:Nat) (es:List (Int×Int)):List Int:=Qgw (List.replicate n 0) es
def Qg7 (n:Nat) (es:List (Int×Int)):Prop:=∀ e ∈ es,0<=e.1/\e.1 < n/\0<=e.2/\e.2 < n
theorem Qez (o:List Int) (i:Nat):(Qni o i).length=o.length:=by simp [Qni]
theorem Qo7 {o:List Int} {i:Nat} (h:i < o.length):Qni o i=o.set i (o[i]+1):=by
 simp [Qni,Kad,Kag h]
theorem Qgk {o:List Int} {i:Nat} {B:Int} (h:∀ x ∈ o,0<=x/\x<=B) (hB:0<=B):∀ x ∈ Qni o i,0<=x/\x<=B+1:=by
 intro x hx;rcases Kch hx with hx | rfl
 . have:=h x hx;omega
 . rw [Kad];cases he:o[i]? with
   | none=>simp;omega
   | some y=>have:=h y (Kbn he);simp;omega
theorem Qh2:∀ (es:List (Int×Int)) (o:List Int),(Qgw o es).length=o.length
 | [],o=>rfl
 | e::es,o=>by simp only [Qgw,Kdv];rw [<- Qgw,Qh2 es];simp [Qez]
theorem Jtb {n:Nat} (hn:n<=7) {es:List (Int×Int)} (h:es.Sublist (prs n)):es.length<=49:=by
 have h1:=h.length_le;have:=Qk2 n 0;have h2:n * n<=7 * 7:=Nat.mul_le_mul hn hn;simp only [prs] at h1;omega
theorem Qi8 (n:Nat) (es:List (Int×Int)) (c:Bool) (hn:n<=1000) (hl:es.length<=1000) (he:Qg7 n es) :
 Ev tb Jap [] [Gr n es c] [] ⟨O (Qdf n es),[],[],[]⟩:=by
 have loop:∀ (m i:Nat) (out:List Int),i+m=es.length->out.length=n->(∀ x ∈ out,0<=x/\x<=2 * i) ->
  wp tb (.loop Jp2) { T:=[(1,.bptr 0 0 0),(3,O out),(4,I i)],loc:=[[I n,L2 es c]],M:=[] }
  (fun ex st=>ex=.exit 0/\st={ T:=[(1,.bptr 0 0 0),(3,O (Qgw out (es.drop i))),(4,I es.length),(12,Bo false)],loc:=[[I n,L2 es c]],M:=[] }):=by
  intro m
  induction m with
  | zero =>
    intro i out hi ho hb;have h3:i=es.length:=hi;subst h3;refine jL ?_
    repeat refine go0 ?_
    simp [Qgw]
  | succ m ih =>
    intro i out hi ho hb;have hi2:i < es.length:=by omega
    have w1:IntKind.i64.wrap ((i:Int)+1)=((i+1:Nat):Int):=Qas (by omega);have hd:es.drop i=es[i]::es.drop (i+1):=Kay hi2;have hei:=he es[i] (Kao hi2);obtain ⟨p,q,hpq,hp,hq⟩:∃ p q:Nat,es[i]=((p:Int),(q:Int))/\p < n/\q < n:=⟨es[i].1.toNat,es[i].2.toNat,by ext <;> simp <;> omega,by omega,by omega⟩;rw [hd,hpq];have hpo:p < out.length:=by omega
    have hx:=hb out[p] (Kao hpo);have w2:IntKind.i64.wrap (out[p]+1)=out[p]+1:=Qac (by omega) (by omega);have e1:=Qo7 hpo;have b1:=Qgk (i:=p) hb (by omega);have l1:=Qez out p;have hstep:Qgw out (((p:Int),(q:Int))::es.drop (i+1))=Qgw (Qni (Qni out p) q) (es.drop (i+1)):=rfl;rw [hstep];refine jL ?_;refine jA (Qbo (by simp;with_reducible rfl) (by simp;with_reducible rfl) ?_);refine Qge (t:=true) (by simp [hi2]) (fun _=>jQ ?_) (by simp);refine jB ?_;refine wr (by simp [hi2,hpq,hpo,w2,<- e1];with_reducible rfl) ?_;generalize Qni out p=out1 at *
    have hqo:q < out1.length:=by omega
    have hx2:=b1 out1[q] (Kao hqo);have w3:IntKind.i64.wrap (out1[q]+1)=out1[q]+1:=Qac (by omega) (by omega);have e2:=Qo7 hqo;have b2:=Qgk (i:=q) b1 (by omega);have l2:=Qez out1 q;refine wq (by simp [hi2,hpq,hqo,w3,<- e2];with_reducible rfl) ?_;have Hq:=w1;repeat refine go1 ?_
    exact ih (i+1) (Qni out1 q) (by omega) (by omega) (fun x hx=>by have:=b2 x hx;omega)
 refine jC zt125 rfl ?_;have Hq:=(show n<=274877906944 by omega);repeat refine go1 ?_
 have:=loop es.length 0 (List.replicate n 0) (by simp) (by simp) (by intro x hx;have:=List.eq_of_mem_replicate hx;subst this;simp);simp at this;refine Qab this ?_;rintro ex st ⟨rfl,rfl⟩;simp only [if_true]
 repeat refine go0 ?_
 simp [Jnm,Qdf]
def Low (B:Int) (d:List Int):Prop:=∀ x ∈ d,-B<=x/\x<=B
theorem Low.set {B:Int} {d:List Int} (h:Low B d) {i:Nat} {x:Int} (hx:-B<=x/\x<=B):Low B (d.set i x):=by
 intro y hy;rcases Kch hy with hy | rfl
 . exact h y hy
 . exact hx
theorem Low.app {B:Int} {d:List Int} (h:Low B d) {x:Int} (hx:-B<=x/\x<=B):Low B (d++[x]):=by
 intro y hy;rcases Kah.1 hy with hy | hy
 . exact h y hy
 . simp at hy;subst hy;exact hx
theorem Low.mono {B C:Int} {d:List Int} (h:Low B d) (hc:B<=C):Low C d:=fun x hx=>by have:=h x hx;omega
theorem max_if (a b:Int):(if a < b then b else a)=max a b:=by split <;> omega
end Go.Idl
namespace Go.Idl
open Go
@[simp] theorem get_mid {α:Type} (A bs:List α) (x:α):(A++x::bs)[A.length]? = some x:=by simp
@[simp] theorem Jts {α:Type} (A bs:List α) (x y:α):(A++x::bs).set A.length y=A++y::bs:=by
  rw [Kcl _ _ (Kam _)];simp
@[simp] theorem set_last {α:Type} (A:List α) (x y:α):(A++[x]).set A.length y=A++[y]:=Jts A [] x y
end Go.Idl
namespace Go.Idl
open Go
theorem Jdu {x:Int} {out:List Int} {k:Nat} (h:k < out.length) (hx:x<=out[k]) (hi:Qht x out=out.take k++Qht x (out.drop k)) :
 Qht x out=out.take (k+1)++Qht x (out.drop (k+1)):=by
 rw [Kay h] at hi;rw [hi,Qht,if_pos hx,Kau h,Kal];rfl
theorem Jdv {x:Int} {out:List Int} {k:Nat} (h:k < out.length) (hx:¬ x<=out[k]) (hi:Qht x out=out.take k++Qht x (out.drop k)) :
 Qht x out=out.take k++x::out.drop k:=by
 rw [hi]
 conv=>lhs;rw [Kay h]
 rw [Qht,if_neg hx,<- Kay h]
theorem Jlu {x:Int} {out:List Int} {k:Nat} (h:k=out.length) (hi:Qht x out=out.take k++Qht x (out.drop k)) :
 Qht x out=out.take k++x::out.drop k:=by
 rw [hi];subst h;simp [Qht]
theorem Jm8 (xs out:List Int) (c:Bool) (i:Nat) (hi:i < xs.length) (ho:out.length<=2000000):∀ (m k:Nat),k+m=out.length->Qht xs[i] out=out.take k++Qht xs[i] (out.drop k) ->
 wp tb (.loop Jp3) { T:=[(0,L xs c),(3,O out),(4,I i),(5,I k)],loc:=[],M:=[] }
  (fun ex st=>ex=.exit 2/\∃ k':Nat,k'<=out.length/\Qht xs[i] out=out.take k'++xs[i]::out.drop k'/\st={ T:=[(0,L xs c),(3,O out),(4,I i),(5,I k'),(27,Bo false)],loc:=[],M:=[] }):=by
 intro m
 induction m with
 | zero =>
   intro k hk hinv;have h3:k=out.length:=hk;have h4:¬ k < out.length:=by omega
   refine jL ?_;have Hq:=h4;repeat refine go1 ?_
   exact ⟨rfl,k,by omega,Jlu h3 hinv,rfl⟩
 | succ m ih =>
   intro k hk hinv;have hk2:k < out.length:=by omega
   have w1:IntKind.i64.wrap ((k:Int)+1)=((k+1:Nat):Int):=Qas (by omega);by_cases hx:xs[i]<=out[k]
   . refine jL ?_;have Hq:=cj4 hk2 hx hi w1;repeat refine go1 ?_
     exact ih (k+1) (by omega) (Jdu hk2 hx hinv)
   . refine jL ?_;have Hq:=cj4 hk2 hx hi w1;repeat refine go1 ?_
     exact ⟨rfl,k,by omega,Jdv hk2 hx hinv,rfl⟩
theorem Qmh {xs:List Int} {i:Nat} (h:i < xs.length):(xs.take (i+1)).foldl (fun out x=>Qht x out) []=Qht xs[i] ((xs.take i).foldl (fun out x=>Qht x out) []):=by
 rw [Kau h,List.foldl_append];rfl
theorem Qdo (xs:List Int) (c:Bool) (hl:xs.length<=1000) :
 Ev tb Qvt [] [L xs c] [] ⟨O (fall xs),[],[],[]⟩:=by
 have cp:∀ (ys:List Int) (c:Bool),ys.length<=1000->Qbq tb Qvs [] [L ys c] []=some ⟨O ys,[],[],[]⟩:=fun ys c h=>Qaa (Qly ys c (by omega));have loop:∀ (m i:Nat),i+m=xs.length->wp tb (.loop Jf8) { T:=[(0,L xs c),(3,O (fall (xs.take i))),(4,I i)],loc:=[],M:=[] }
  (fun ex st=>ex=.exit 0/\st={ T:=[(0,L xs c),(3,O (fall xs)),(4,I xs.length),(10,Bo false)],loc:=[],M:=[] }):=by
  intro m
  induction m with
  | zero =>
    intro i hi;have h3:i=xs.length:=hi;subst h3;refine jL ?_
    repeat refine go0 ?_
    simp
  | succ m ih =>
    intro i hi;have hi2:i < xs.length:=by omega
    have w1:IntKind.i64.wrap ((i:Int)+1)=((i+1:Nat):Int):=Qas (by omega);have hfl:(fall (xs.take i)).length=i:=by rw [Qay];simp;omega
    have hfs:fall (xs.take (i+1))=Qht xs[i] (fall (xs.take i)):=Qmh hi2;have:=ih (i+1) (by omega);rw [hfs] at this;revert this;generalize fall (xs.take i)=out at hfl;intro hnext;refine jL ?_;have Hq:=hi2;repeat refine go1 ?_
    refine Qab (Jm8 xs out c i hi2 (by omega) out.length 0 (by simp) (by simp)) ?_;rintro ex st ⟨rfl,k,hk,hins,rfl⟩;simp only [if_true];have hk2:k<=out.length:=hk;have c1:=cp (out.take k) false (by simp;omega);have hb:out.length<=274877906944:=by omega
    have hb2:k<=274877906943:=by omega
    have hb3:k+1+(out.length - k)<=274877906944:=by omega
    have hb4:k+(out.length - k+1)<=274877906944:=by omega
    have hb5:out.length<=274877906943:=by omega
    refine Qhr (by simp [hi2,hk2,c1,hb,hb2,hb3,hb4,hb5];with_reducible rfl) (by simp;with_reducible rfl) ?_ ?_
    . intro p hp;simp only [Kaf,Kaw,Kcf] at hp;rcases hp with rfl | rfl
      . exact ⟨_,by simp [hi2,hk2,c1,hb,hb2,hb3,hb4,hb5];with_reducible rfl,by simp⟩
      . exact ⟨_,by simp [hi2,hk2,c1,hb,hb2,hb3,hb4,hb5];with_reducible rfl,by simp⟩
    have Hq:=w1;repeat refine go1 ?_
    rw [Kae (l:=out.drop k) (by simp),<- hins];exact hnext
 refine jC zt127 rfl ?_
 repeat refine go0 ?_
 have:=loop xs.length 0 (by simp);simp only [Kcz] at this;refine Qab this ?_;rintro ex st ⟨rfl,rfl⟩;simp only [if_true]
 repeat refine go0 ?_
 simp [Jnn]
theorem Jtv (s acc:List Int) (k:Nat) (hs:Few s) (hk:k<=7):∀ (m i:Nat),i+m=s.length ->
 wp tb (.loop Jga) { T:=[(3,O s),(4,O acc),(5,I k),(6,I (slk (s.take i) k)),(7,I i)],loc:=[],M:=[] }
  (fun ex st=>ex=.exit 2/\st={ T:=[(3,O s),(4,O acc),(5,I k),(6,I (slk s k)),(7,I s.length),(24,Bo false)],loc:=[],M:=[] }):=by
 intro m
 induction m with
 | zero =>
   intro i hi;have h3:i=s.length:=hi;subst h3;refine jL ?_
   repeat refine go0 ?_
   simp
 | succ m ih =>
   intro i hi;have hi2:i < s.length:=by omega
   have hl:=hs.1;have w1:IntKind.i64.wrap ((i:Int)+1)=((i+1:Nat):Int):=Qas (by omega);have hn:=Qql hi2 k;have hb:=Qm4 (s:=s.take (i+1)) (k:=k) hk (by simp;omega) (fun x hx=>hs.2 x (Kbv hx));have:=ih (i+1) (by omega);by_cases hx:i < k
   . rw [if_pos hx,<- Int.sub_eq_add_neg] at hn;rw [hn] at hb this;have w2:=Qac (n:=slk (s.take i) k - s[i]) (by omega) (by omega);refine jL ?_;have Hq:=cj4 hi2 hx w1 w2;repeat refine go1 ?_
     exact this
   . rw [if_neg hx] at hn;rw [hn] at hb this;have w2:=Qac (n:=slk (s.take i) k+min s[i] k) (by omega) (by omega);refine jL ?_;have Hq:=cj5 hi2 hx w1 w2 @Qsv;repeat refine go1 ?_
     exact this
theorem Qr3 (d:List Int) (c:Bool) (hd:Few d):Ev tb Jat [] [L d c] [] ⟨O (Qa7 d),[],[],[]⟩:=by
 have hl:=hd.1;have e1:=Qaa (Qdo d c (by omega));have hs:=hd.fall;have hsl:(fall d).length=d.length:=Qay d;have loop:∀ (m i:Nat),i+m=(fall d).length->wp tb (.loop Jgb) { T:=[(3,O (fall d)),(4,O ((List.range i).map fun i=>slk (fall d) (i+1))),(5,I ((i+1:Nat):Int))],loc:=[],M:=[] }
  (fun ex st=>ex=.exit 0/\st={ T:=[(3,O (fall d)),(4,O (Qa7 d)),(5,I (((fall d).length+1:Nat):Int)),(14,Bo false)],loc:=[],M:=[] }):=by
  intro m
  induction m with
  | zero =>
    intro i hi;have h3:i=(fall d).length:=hi;subst h3;refine jL ?_;have h4:¬ ((fall d).length:Int)+1<=(fall d).length:=by omega
    have Hq:=h4;repeat refine go1 ?_
    refine ⟨rfl,?_⟩;rw [Qa7,hsl];rfl
  | succ m ih =>
    intro i hi;have hi2:i < (fall d).length:=by omega
    have h4:(i:Int)+1<=(fall d).length:=by omega
    have w1:IntKind.i64.wrap ((i:Int)+1)=((i+1:Nat):Int):=Qas (by omega);have w2:IntKind.i64.wrap (i:Int)=(i:Int):=Jf6 (by omega);have w4:IntKind.i64.wrap ((i:Int)+1+1)=((i+1+1:Nat):Int):=by rw [Qac (by omega) (by omega)];omega
    have hz:slk ((fall d).take 0) (i+1)=((i:Int)+1) * (i:Int):=by
     simp [slk]
    have hb:=Qm4 (s:=(fall d).take 0) (k:=i+1) (by omega) (by simp) (by simp);rw [hz] at hb;have w3:IntKind.i64.wrap (((i:Int)+1) * (i:Int))=((i:Int)+1) * (i:Int):=Qac (by omega) (by omega);refine jL ?_;have Hq:=cj4 h4 w1 w2 w3;repeat refine go1 ?_
    have hin:=Jtv (fall d) ((List.range i).map fun i=>slk (fall d) (i+1)) (i+1) hs (by omega) (fall d).length 0 (by simp);rw [hz] at hin;refine Qab hin ?_;rintro ex st ⟨rfl,rfl⟩;simp only [if_true];have:=ih (i+1) (by omega);simp only [Kff,Kct,Kbd,Kdn] at this;have Hq:=cj2 w4 (show i<=274877906943 by omega);repeat refine go1 ?_
    rw [Kae (by simp)];exact this
 refine jC zt141 rfl ?_;have Hq:=e1;repeat refine go1 ?_
 refine Qab (loop (fall d).length 0 (by simp)) ?_;rintro ex st ⟨rfl,rfl⟩;simp only [if_true]
 repeat refine go0 ?_
 simp [Jnp]
theorem Jll (xs:List Int) (c:Bool) (hl:xs.length<=2000000):Ev tb Jj0 [] [L xs c] [] ⟨I (Qsp xs),[],[],[]⟩:=by
 have loop:∀ (m i:Nat),i+m=xs.length->wp tb (.loop Jq2) { T:=[(0,L xs c),(3,I (Qsp (xs.take i))),(4,I i)],loc:=[],M:=[] }
  (fun ex st=>ex=.exit 0/\st={ T:=[(0,L xs c),(3,I (Qsp xs)),(4,I xs.length),(8,Bo false)],loc:=[],M:=[] }):=by
  intro m
  induction m with
  | zero =>
    intro i hi;have h3:i=xs.length:=hi;subst h3;refine jL ?_
    repeat refine go0 ?_
    simp
  | succ m ih =>
    intro i hi;have hi2:i < xs.length:=by omega
    have w1:IntKind.i64.wrap ((i:Int)+1)=((i+1:Nat):Int):=Qas (by omega);have hn:Qsp (xs.take (i+1))=min (Qsp (xs.take i)) xs[i]:=by
     rw [Kau hi2,Qsp,List.foldl_append];rfl
    have:=ih (i+1) (by omega);rw [hn] at this;refine jL ?_;have Hq:=cj3 hi2 w1 @Qsv;repeat refine go1 ?_
    exact this
 refine jC zt360 rfl ?_
 repeat refine go0 ?_
 refine Qab (loop xs.length 0 (by simp)) ?_;rintro ex st ⟨rfl,rfl⟩;simp only [if_true]
 repeat refine go0 ?_
 simp [Jop]
theorem Jdz (xs:List Int):(Qsp xs == 0)=xs.all fun x=>decide (0<=x):=by
 rw [Kdq,Kbt,Qzq,Kaj];simp
theorem Qjr (d:List Int) (c:Bool) (hv:Qbb d=true):Ev tb Jbe [] [L d c] [] ⟨Bo (Qa2 d),[],[],[]⟩:=by
 have hs:=(Qan hv);have hl:=hs.1;have e2:=Qaa (Ql6 d c hs.small);have e3:=Qaa (Qr3 d c hs);have e4:=Qaa (Jll (Qa7 d) false (by rw [Qet];omega));have h2:d.sum.tmod 2=d.sum % 2:=Int.tmod_eq_emod_of_nonneg hs.sum.1;by_cases hp:d.sum % 2=0
 . refine jC zt357 rfl ?_
   repeat (first|apply jA|apply jQ|refine wr (by simp [hv,e2,e3,e4,h2,hp];with_reducible rfl) ?_|refine wq (by simp [hv,e2,e3,e4,h2,hp];with_reducible rfl) ?_|refine wt (by simpa [hv,e2,e3,e4,h2,hp]) ?_|refine wf (by simpa [hv,e2,e3,e4,h2,hp]) ?_|refine xt (by simpa [hv,e2,e3,e4,h2,hp]) ?_|refine xf (by simpa [hv,e2,e3,e4,h2,hp]) ?_|apply jB|apply Jaf|refine jX ?_|refine jY ?_|refine jR ?_|refine jK ?_|refine jE ?_)
   simp [Jin,Qa2,hv,hp,Jdz]
 . refine jC zt357 rfl ?_
   repeat (first|apply jA|apply jQ|refine wr (by simp [hv,e2,e3,e4,h2,hp];with_reducible rfl) ?_|refine wq (by simp [hv,e2,e3,e4,h2,hp];with_reducible rfl) ?_|refine wt (by simpa [hv,e2,e3,e4,h2,hp]) ?_|refine wf (by simpa [hv,e2,e3,e4,h2,hp]) ?_|refine xt (by simpa [hv,e2,e3,e4,h2,hp]) ?_|refine xf (by simpa [hv,e2,e3,e4,h2,hp]) ?_|apply jB|apply Jaf|refine jX ?_|refine jY ?_|refine jR ?_|refine jK ?_|refine jE ?_)
   simp [Jin,Qa2,hv,hp]
end Go.Idl
namespace Go.Idl
open Go
def comp (d:List Int):List Int:=(List.range d.length).map fun k=>(d.length:Int) - 1 - d.getD k 0
def Jd8 (xs:List Int):Bool:=xs.all fun x=>decide (0<=x)
end Go.Idl
namespace Go.Idl
theorem Jk9 {s:List Int} (h:Jbk s) {i j:Nat} (hij:i<=j) (hj:j < s.length):s[j]<=s[i]:=by
 rcases Kbw i j with h1 | h1
 . exact List.pairwise_iff_getElem.1 h i j (by omega) hj h1
 . have:i=j:=by omega
   subst this;omega
abbrev Qc5 (xs:List Int) (k:Nat):Int:=((fall xs).take k).sum
theorem Qqs (s:List Int) (k:Nat):(s.take k).sum+(s.drop k).sum=s.sum:=by
 rw [<- List.sum_append,Kcg]
end Go.Idl
namespace Go.Idl
open Go
theorem Qnp (d:List Int) (c:Bool) (hv:Qbb d=true):Ev tb zl20 [] [L d c] [] ⟨O (fall d),[],[],[]⟩:=by
 have hl:=(Qan hv).1;have e1:=Qaa (Qbh d c (by omega));have e2:=Qaa (Qgl d c (by omega));refine jC zt20 rfl ?_
 repeat (first|apply jA|apply jQ|refine wr (by simp [e1,e2,hv];with_reducible rfl) ?_|refine wq (by simp [e1,e2,hv];with_reducible rfl) ?_|refine wt (by simpa [e1,e2,hv]) ?_|refine wf (by simpa [e1,e2,hv]) ?_|refine xt (by simpa [e1,e2,hv]) ?_|refine xf (by simpa [e1,e2,hv]) ?_|apply jB|apply Jaf|refine jX ?_|refine jY ?_|refine jR ?_|refine jK ?_|refine jE ?_)
 simp [zi20]
end Go.Idl
namespace Go.Idl
open Go
theorem Qkt (xs:List Int) (c:Bool) (F:Lab) (caps:List IV) (M:List Qad) (p:Int->Bool) (hl:xs.length<=2000000)
 (hp:∀ x ∈ xs,Ev tb F [] (I x::caps) (M++[[]]) ⟨Bo (p x),[],M++[[]],[]⟩) :
 Ev tb Qvy [] [L xs c,.fn F caps] M ⟨I (xs.countP p),[],M,[]⟩:=by
 have loop:∀ (m i n:Nat),i+m=xs.length->n<=i->wp tb (.loop Jqd) { T:=[(0,L xs c),(1,.fn F caps),(5,I n),(8,L xs c),(9,I xs.length),(10,I i)],loc:=[],M:=M }
  (fun ex st=>ex=.exit 0/\st={ T:=[(0,L xs c),(1,.fn F caps),(5,I ((n+(xs.drop i).countP p:Nat):Int)),(8,L xs c),(9,I xs.length),(10,I xs.length),(11,Bo false)],loc:=[],M:=M }):=by
  intro m
  induction m with
  | zero =>
    intro i n hi hn;obtain ⟨h1,h2⟩:=Qcg hi;have h3:i=xs.length:=hi;subst h3;refine jL ?_
    repeat refine go0 ?_
    rw [h2];simp
  | succ m ih =>
    intro i n hi hn;obtain ⟨hi2,h2,h3⟩:=Qch hi;have e1:=Qaa (hp _ h3);have w2:IntKind.i64.wrap ((i:Int)+1)=((i+1:Nat):Int):=Qas (by omega);have w3:IntKind.i64.wrap ((n:Int)+1)=((n+1:Nat):Int):=Qas (by omega);rw [h2,List.countP_cons];cases hq:p xs[i] with
    | true =>
      refine jL ?_;have Hq:=cj5 hi2 e1 hq w2 w3;repeat refine go1 ?_
      have:=ih (i+1) (n+1) (by omega) (by omega);simp only [if_true];rw [show n+(List.countP p (xs.drop (i+1))+1)=n+1+List.countP p (xs.drop (i+1)) by omega];exact this
    | false =>
      refine jL ?_;have Hq:=cj5 hi2 e1 hq w2 w3;repeat refine go1 ?_
      simpa using ih (i+1) n (by omega) (by omega)
 refine jC zt206 rfl ?_
 repeat refine go0 ?_
 refine Qab (loop xs.length 0 0 (by simp) (by omega)) ?_;rintro ex st ⟨rfl,rfl⟩
 try simp only [if_true]
 repeat refine go0 ?_
 simp [Jn1]
def corr (s:List Int) (k:Nat):Int:=(s.take k).countP (fun x=>decide ((k:Int)<=x))+(s.drop (k+1)).countP (fun x=>decide ((k:Int) < x))
def Qda (s:List Int):List Int:=(List.range s.length).map (corr s)
theorem Qh4 (x:Int) (k:Int) (A:Qad) (s:List IV):Ev tb Jav [] [I x,.bptr 2 0 0] [[s],[],[[I k]],[]] ⟨Bo (decide (k<=x)),[],[[s],[],[[I k]],[]],[]⟩:=by
 refine jC zt156 rfl ?_
 repeat refine go0 ?_
 simp [Jns]
theorem Qh5 (x:Int) (k:Int) (A:Qad) (s:List IV):Ev tb Jaw [] [I x,.bptr 2 0 0] [[s],[],[[I k]],[]] ⟨Bo (decide (k < x)),[],[[s],[],[[I k]],[]],[]⟩:=by
 refine jC zt157 rfl ?_
 repeat refine go0 ?_
 simp [Jnt]
theorem Qls (s:List Int) (k:Nat) (hk:k < s.length) (hl:s.length<=7) :
 Ev tb Jau [] [I k,.bptr 0 0 0] [[[L s]],[]] ⟨I (corr s k),[],[[[L s]],[]],[]⟩:=by
 have e1:=Qaa (Qkt (s.take k) false Jav [.bptr 2 0 0] [[[L s]],[],[[I k]]] (fun x=>decide ((k:Int)<=x)) (by simp;omega) (fun x _=>Qh4 x k [] _));have e2:=Qaa (Qkt (s.drop (k+1)) false Jaw [.bptr 2 0 0] [[[L s]],[],[[I k]]] (fun x=>decide ((k:Int) < x)) (by simp;omega) (fun x _=>Qh5 x k [] _));have b1:(s.take k).countP (fun x=>decide ((k:Int)<=x))<=7:=Kcp Kej (by simp [Qay];omega);have b2:(s.drop (k+1)).countP (fun x=>decide ((k:Int) < x))<=7:=Kcp Kej (by simp [Qay];omega);have w1:IntKind.i64.wrap ((k:Int)+1)=(k:Int)+1:=Qac (by omega) (by omega);have w2:IntKind.i64.wrap (((s.take k).countP (fun x=>decide ((k:Int)<=x)):Int)+((s.drop (k+1)).countP (fun x=>decide ((k:Int) < x)):Int))=corr s k:=by
  rw [Qac]
  . rfl
  . omega
  . omega
 have hk1:k<=s.length:=by omega
 have hk2:k+1<=s.length:=hk;have ht:(s.take k).take k=s.take k:=by rw [Ked,Nat.min_self]
 have ht2:(s.drop (k+1)).take (s.length - (k+1))=s.drop (k+1):=Kae (by simp);refine jC zt155 rfl ?_
 repeat refine go0 ?_
 refine Qhp (by simp [e1,e2,w1,w2,hk1,hk2,ht,ht2];with_reducible rfl) (by simp;with_reducible rfl) ?_ ?_
 . intro p hp;simp only [Kaf,Kaw,Kcf] at hp;rcases hp with rfl | rfl | rfl
   . exact ⟨_,by simp [e1,e2,w1,w2,hk1,hk2,ht,ht2];with_reducible rfl,by simp⟩
   . exact ⟨_,by simp [e1,e2,w1,w2,hk1,hk2,ht,ht2];with_reducible rfl,by simp⟩
   . exact ⟨_,by simp [e1,e2,w1,w2,hk1,hk2,ht,ht2];with_reducible rfl,by simp⟩
 repeat refine go0 ?_
 simp [Jnr]
theorem Qnk (d:List Int) (c:Bool) (hv:Qbb d=true):Ev tb Ji2 [] [L d c] [] ⟨O (Qda (fall d)),[],[],[]⟩:=by
 have hl:=(Qan hv).1;have e1:=Qaa (Qgl d c (by omega));have e2:=Qaa (Jdb d c Jau [.bptr 0 0 0] [[[L (fall d)]]] (corr (fall d)) hv (fun k hk=>Qls (fall d) k (by rw [Qay];exact hk) (by rw [Qay];exact hl)));refine jC zt154 rfl ?_;have Hq:=cj3 e1 e2 @Qw8;repeat refine go1 ?_
 simp [Jnq,Qda,Qxp,Qay]
theorem Qfv (xs:List Int) (c:Bool) (k:Int) (hl:xs.length<=2000000):Ev tb Jbd [] [L xs c,I k] [] ⟨I (xs.countP fun x=>decide (k<=x)),[],[],[]⟩:=by
 have loop:∀ (m i n:Nat),i+m=xs.length->n<=i->wp tb (.loop Jqx) { T:=[(0,L xs c),(1,I k),(5,I n),(6,I i)],loc:=[],M:=[] }
  (fun ex st=>ex=.exit 0/\st={ T:=[(0,L xs c),(1,I k),(5,I ((n+(xs.drop i).countP (fun x=>decide (k<=x)):Nat):Int)),(6,I xs.length),(10,Bo false)],loc:=[],M:=[] }):=by
  intro m
  induction m with
  | zero =>
    intro i n hi hn;obtain ⟨h1,h2⟩:=Qcg hi;have h3:i=xs.length:=hi;subst h3;refine jL ?_
    repeat refine go0 ?_
    rw [h2];simp
  | succ m ih =>
    intro i n hi hn;obtain ⟨hi2,h2,h3⟩:=Qch hi;have w2:IntKind.i64.wrap ((i:Int)+1)=((i+1:Nat):Int):=Qas (by omega);have w3:IntKind.i64.wrap ((n:Int)+1)=((n+1:Nat):Int):=Qas (by omega);rw [h2,List.countP_cons];by_cases hq:k<=xs[i]
    . refine jL ?_;have Hq:=cj4 hi2 hq w2 w3;repeat refine go1 ?_
      have:=ih (i+1) (n+1) (by omega) (by omega);simp only [hq,decide_true,if_true];rw [show n+(List.countP (fun x=>decide (k<=x)) (xs.drop (i+1))+1)=n+1+List.countP (fun x=>decide (k<=x)) (xs.drop (i+1)) by omega];exact this
    . refine jL ?_;have Hq:=cj4 hi2 hq w2 w3;repeat refine go1 ?_
      simpa [hq] using ih (i+1) n (by omega) (by omega)
 refine jC zt345 rfl ?_
 repeat refine go0 ?_
 refine Qab (loop xs.length 0 0 (by simp) (by omega)) ?_;rintro ex st ⟨rfl,rfl⟩
 try simp only [if_true]
 repeat refine go0 ?_
 simp [Joi]
theorem Qll (s:List Int) (i:Nat) (h:i < s.length):(Qda s).take (i+1)=(Qda s).take i++[corr s i]:=by
 rw [Kau (by simpa [Qda] using h)];simp [Qda]
theorem Qry (s:List Int) (c:Bool) (hl:s.length<=7):Ev tb Jju [] [L s c] [] ⟨O (Qda s),[],[],[]⟩:=by
 have hcl:(Qda s).length=s.length:=by simp [Qda]
 have loop:∀ (m i:Nat),i+m=s.length->wp tb (.loop Jqw) { T:=[(0,L s c),(3,O ((Qda s).take i)),(4,I i)],loc:=[],M:=[] }
  (fun ex st=>ex=.exit 0/\st={ T:=[(0,L s c),(3,O (Qda s)),(4,I s.length),(9,Bo false)],loc:=[],M:=[] }):=by
  intro m
  induction m with
  | zero =>
    intro i hi;have h3:i=s.length:=hi;subst h3;refine jL ?_
    repeat refine go0 ?_
    rw [<- hcl,Kdb];exact ⟨rfl,rfl⟩
  | succ m ih =>
    intro i hi;have hi2:i < s.length:=by omega
    have hi3:i<=s.length:=by omega
    have e1:=fun cc=>Qaa (Qfv (s.take i) cc i (by simp;omega));have e2:=fun cc=>Qaa (Qfv (s.drop (i+1)) cc ((i:Int)+1) (by simp;omega));have b1:(s.take i).countP (fun x=>decide ((i:Int)<=x))<=7:=Kcp Kej (by simp [Qay];omega);have b2:(s.drop (i+1)).countP (fun x=>decide ((i:Int)+1<=x))<=7:=Kcp Kej (by simp [Qay];omega);have w1:IntKind.i64.wrap ((i:Int)+1)=(i:Int)+1:=Qac (by omega) (by omega);have w2:IntKind.i64.wrap (((s.take i).countP (fun x=>decide ((i:Int)<=x)):Int)+((s.drop (i+1)).countP (fun x=>decide ((i:Int)+1<=x)):Int))=corr s i:=by
     rw [Qac]
     . rfl
     . omega
     . omega
    have ht:(s.take i).take i=s.take i:=by rw [Ked,Nat.min_self]
    have ht2:(s.drop (i+1)).take (s.length - (i+1))=s.drop (i+1):=Kae (by simp);have hap:=Qll s i hi2;have hA:((Qda s).take i).length=i:=by rw [Kas,hcl];omega
    have hi4:i+1<=s.length:=hi2;have hi5:i+1<=274877906944:=by omega
    have hih:=ih (i+1) (by omega);rw [hap] at hih;generalize (Qda s).take i=A at hA hih |-;have hT:A.take i=A:=Kae (by omega);refine jL ?_;have Hq:=Qwo hi2 hi3 hi4 hi5 e1 e2 w1 w2 ht ht2 hA hT;repeat refine go1 ?_
    exact hih
 refine jC zt344 rfl ?_
 repeat refine go0 ?_
 refine Qab (loop s.length 0 (by simp)) ?_;rintro ex st ⟨rfl,rfl⟩
 try simp only [if_true]
 repeat refine go0 ?_
 simp [Joh]
def ahead (x y:List Int) (i m:Nat):Bool:=(List.range m).all fun j=>decide ((y.take (i+j+1)).sum<=(x.take (i+j+1)).sum)
end Go.Idl
namespace Go.Idl
open Go
def Fit (es:List (Int×Int)):Prop:=∀ e ∈ es,-9223372036854775808<=e.1/\e.1 < 9223372036854775808/\-9223372036854775808<=e.2/\e.2 < 9223372036854775808
def Qal (a b:Int×Int):Bool:=decide (a.1 < b.1) || (decide (a.1=b.1) && decide (a.2 < b.2))
def Qq5 (a b:Int×Int):Int:=if a.1=b.1 then a.2 - b.2 else a.1 - b.1
theorem Qcb (a b:Int×Int):(decide (Qq5 a b < 0))=Qal a b:=by
 unfold Qq5 Qal;rw [Kdq];simp only [Kai,Kbj,Kac];split <;> omega
theorem Qfu (a b:Int×Int) (ha:0<=a.1/\a.1 < 9223372036854775808/\0<=a.2/\a.2 < 9223372036854775808) (hb:0<=b.1/\b.1 < 9223372036854775808/\0<=b.2/\b.2 < 9223372036854775808) (M:List Qad) :
 Ev tb Jkm [] [.agg [I a.1,I a.2],.agg [I b.1,I b.2]] M ⟨I (Qq5 a b),[],M,[]⟩:=by
 have w1:IntKind.i64.wrap (a.1 - b.1)=a.1 - b.1:=Qac (by omega) (by omega);have w2:IntKind.i64.wrap (a.2 - b.2)=a.2 - b.2:=Qac (by omega) (by omega);by_cases h:a.1=b.1
 . refine jC zt32 rfl ?_;have Hq:=cj2 h w2;repeat refine go1 ?_
   simp [zi32,Qq5,h]
 . have h2:(a.1 != b.1)=true:=by simp [h]
   refine jC zt32 rfl ?_;have Hq:=cj3 h h2 w1;repeat refine go1 ?_
   simp [zi32,Qq5,h]
theorem Qjq (a b:Int×Int):Ev tb Jaq [] [.agg [I a.1,I a.2],.agg [I b.1,I b.2]] [] ⟨Bo (Qal a b),[],[],[]⟩:=by
 by_cases h1:a.1 < b.1
 . refine jC zt126 rfl ?_;have Hq:=h1;repeat refine go1 ?_
   simp [Jag,Qal,h1]
 . by_cases h2:a.1=b.1
   . refine jC zt126 rfl ?_;have Hq:=cj2 h1 h2;repeat refine go1 ?_
     simp [Jag,Qal,h1,h2]
   . refine jC zt126 rfl ?_;have Hq:=cj2 h1 h2;repeat refine go1 ?_
     simp [Jag,Qal,h1,h2]
def okE (n:Int) (e:Int×Int):Bool:=decide (0<=e.1) && (decide (e.1 < e.2) && decide (e.2 < n))
def vEs (n:Int):Option (Int×Int)->List (Int×Int)->Bool
 | _,[]=>true
 | none,e::r=>okE n e && vEs n (some e) r
 | some q,e::r=>okE n e && (Qal q e && vEs n (some e) r)
def Qak (n:Int) (es:List (Int×Int)):Bool:=vEs n none es && (decide (0<=n) && decide (n<=7))
theorem Fit.at {es:List (Int×Int)} (h:Fit es) {i:Nat} (hi:i < es.length):-9223372036854775808<=es[i].1/\es[i].1 < 9223372036854775808/\-9223372036854775808<=es[i].2/\es[i].2 < 9223372036854775808:=h _ (Kao hi)
theorem validl (n:Int) (es:List (Int×Int)) (c:Bool) (hf:Fit es) (hl:es.length<=100000000):∀ (m i:Nat) (p:Option (Int×Int)) (bs:Qad),i+m=es.length ->
 (i=0/\p=none \/ ∃ j,∃ h:j < es.length,i=j+1/\p=some es[j]/\0<=es[j].1/\0<=es[j].2) ->
 wp tb (.loop z26l7) { T:=[(1,.bptr 0 0 0),(6,L2 es c),(7,I es.length),(8,I i)],loc:=[I n,L2 es c]::bs,M:=[] }
  (fun ex st=>(vEs n p (es.drop i)=true/\ex=.exit 0/\∃ bs',st={ T:=[(1,.bptr 0 0 0),(6,L2 es c),(7,I es.length),(8,I es.length),(9,Bo false)],loc:=[I n,L2 es c]::bs',M:=[] }) \/
    (vEs n p (es.drop i)=false/\ex=.ret/\∃ bs',st={ T:=[(2,Bo false)],loc:=[I n,L2 es c]::bs',M:=[] })):=by
 intro m
 induction m with
 | zero =>
   intro i p bs hi hp;have h3:i=es.length:=hi;subst h3;refine jL ?_
   repeat refine go0 ?_
   exact .inl ⟨by simp [vEs],rfl,bs,rfl⟩
 | succ m ih =>
   intro i p bs hi hp;have hi2:i < es.length:=by omega
   have hd:es.drop i=es[i]::es.drop (i+1):=Kay hi2;have hfe:=hf.at hi2;have w1:IntKind.i64.wrap ((i:Int)+1)=((i+1:Nat):Int):=Qas (by omega);have bad:okE n es[i]=false->vEs n p (es.drop i)=false:=fun h=>by
    rw [hd];cases p <;> simp [vEs,h]
   by_cases h1:es[i].1 < 0
   . have hb:=bad (by simp [okE];omega);refine jL ?_;have Hq:=cj2 hi2 h1;repeat refine go1 ?_
     exact .inr ⟨hb,rfl,_,rfl⟩
   by_cases h2:es[i].2<=es[i].1
   . have hb:=bad (by simp [okE];omega);refine jL ?_;have Hq:=cj3 hi2 h1 h2;repeat refine go1 ?_
     exact .inr ⟨hb,rfl,_,rfl⟩
   by_cases h3:n<=es[i].2
   . have hb:=bad (by simp [okE];omega);refine jL ?_;have Hq:=cj4 hi2 h1 h2 h3;repeat refine go1 ?_
     exact .inr ⟨hb,rfl,_,rfl⟩
   have hok:okE n es[i]=true:=by simp [okE];omega
   rcases hp with ⟨rfl,rfl⟩ | ⟨j,hj,rfl,rfl,q1,q2⟩
   . have hn:=ih 1 (some es[0]) (bs++[[I es[0].1,I es[0].2]]) (by omega) (.inr ⟨0,hi2,rfl,rfl,by omega,by omega⟩);rw [hd];simp only [vEs,hok,Kbx];refine jL ?_;have Hq:=cj5 hi2 h1 h2 h3 (show IntKind.i64.wrap (1:Int)=1 from rfl);repeat refine go1 ?_
     exact hn
   . have hfj:=hf.at hj;have w2:IntKind.i64.wrap (j:Int)=(j:Int):=Jf6 (by omega);have hj0:(0:Int) < (j:Int)+1:=by omega
     have hj1:(j:Int)+1 < (es.length:Int):=by omega
     have w3:IntKind.i64.wrap ((j:Int)+1+1)=((j+1+1:Nat):Int):=by rw [Qac (by omega) (by omega)];omega
     have e1:=Qaa (Qfu es[j] es[j+1] ⟨q1,hfj.2.1,q2,hfj.2.2.2⟩ ⟨by omega,by omega,by omega,by omega⟩ []);have hcb:=Qcb es[j] es[j+1];rw [hd];simp only [vEs,hok,Kbx,<- hcb];by_cases h4:0<=Qq5 es[j] es[j+1]
     . have h5:decide (Qq5 es[j] es[j+1] < 0)=false:=Kbf (by omega);rw [h5];refine jL ?_;have Hq:=Qri hi2 hj h1 h2 h3 w2 hj0 hj1 e1 h4;repeat refine go1 ?_
       exact .inr ⟨rfl,rfl,_,rfl⟩
     . have h5:decide (Qq5 es[j] es[j+1] < 0)=true:=Kbo (by omega);rw [h5];have hn:=ih (j+1+1) (some es[j+1]) (bs++[[I es[j+1].1,I es[j+1].2]]) (by omega) (.inr ⟨j+1,hi2,rfl,rfl,by omega,by omega⟩);simp only [Kbx];refine jL ?_;have Hq:=Qtv hi2 hj h1 h2 h3 w3 w2 hj0 hj1 e1 h4;repeat refine go1 ?_
       exact hn
theorem Qdb (n:Int) (es:List (Int×Int)) (c:Bool) (hf:Fit es) (hl:es.length<=100000000):Ev tb Qq8 [] [Gr n es c] [] ⟨Bo (Qak n es),[],[],[]⟩:=by
 have e1:=Qaa (Jsf n 0 7);have hlo:=validl n es c hf hl es.length 0 none [] (by simp) (.inl ⟨rfl,rfl⟩);refine jC zt26 rfl ?_
 repeat refine go0 ?_
 refine Qab hlo ?_;rintro ex st (⟨hv,rfl,bs,rfl⟩ | ⟨hv,rfl,bs,rfl⟩)
 . try simp only [if_true]
   have Hq:=e1;repeat refine go1 ?_
   simp only [Kcb] at hv;simp [zi26,Qak,hv]
 . simp only [Kcb] at hv;simp [zi26,Qak,hv]
theorem Jtx (n:Int) (es:List (Int×Int)) (c:Bool) (hl:es.length<=100000000):∀ (m i:Nat) (p:Option (Int×Int)) (bs:Qad),i+m=es.length ->
 (i=0/\p=none \/ ∃ j,∃ h:j < es.length,i=j+1/\p=some es[j]) ->
 wp tb (.loop Jp8) { T:=[(1,.bptr 0 0 0),(3,I i)],loc:=[I n,L2 es c]::bs,M:=[] }
  (fun ex st=>(vEs n p (es.drop i)=true/\ex=.exit 0/\∃ bs',st={ T:=[(1,.bptr 0 0 0),(3,I es.length),(9,Bo false)],loc:=[I n,L2 es c]::bs',M:=[] }) \/
    (vEs n p (es.drop i)=false/\ex=.ret/\∃ bs',st={ T:=[(2,Bo false)],loc:=[I n,L2 es c]::bs',M:=[] })):=by
 intro m
 induction m with
 | zero =>
   intro i p bs hi hp;have h3:i=es.length:=hi;subst h3;refine jL ?_
   repeat refine go0 ?_
   exact .inl ⟨by simp [vEs],rfl,bs,rfl⟩
 | succ m ih =>
   intro i p bs hi hp;have hi2:i < es.length:=by omega
   have hd:es.drop i=es[i]::es.drop (i+1):=Kay hi2;have w1:IntKind.i64.wrap ((i:Int)+1)=((i+1:Nat):Int):=Qas (by omega);have bad:okE n es[i]=false->vEs n p (es.drop i)=false:=fun h=>by
    rw [hd];cases p <;> simp [vEs,h]
   by_cases h1:es[i].1 < 0
   . have hb:=bad (by simp [okE];omega);refine jL ?_;have Hq:=cj2 hi2 h1;repeat refine go1 ?_
     exact .inr ⟨hb,rfl,_,rfl⟩
   by_cases h2:es[i].2<=es[i].1
   . have hb:=bad (by simp [okE];omega);refine jL ?_;have Hq:=cj3 hi2 h1 h2;repeat refine go1 ?_
     exact .inr ⟨hb,rfl,_,rfl⟩
   by_cases h3:n<=es[i].2
   . have hb:=bad (by simp [okE];omega);refine jL ?_;have Hq:=cj4 hi2 h1 h2 h3;repeat refine go1 ?_
     exact .inr ⟨hb,rfl,_,rfl⟩
   have hok:okE n es[i]=true:=by simp [okE];omega
   rcases hp with ⟨rfl,rfl⟩ | ⟨j,hj,rfl,rfl⟩
   . have hn:=ih 1 (some es[0]) (bs++[[I es[0].1,I es[0].2]]) (by omega) (.inr ⟨0,hi2,rfl,rfl⟩);rw [hd];simp only [vEs,hok,Kbx];refine jL ?_;have Hq:=cj5 hi2 h1 h2 h3 (show IntKind.i64.wrap (1:Int)=1 from rfl);repeat refine go1 ?_
     exact hn
   . have w2:IntKind.i64.wrap (j:Int)=(j:Int):=Jf6 (by omega);have hj0:(0:Int) < (j:Int)+1:=by omega
     have hj1:(j:Int)+1 < (es.length:Int):=by omega
     have w3:IntKind.i64.wrap ((j:Int)+1+1)=((j+1+1:Nat):Int):=by rw [Qac (by omega) (by omega)];omega
     have e1:=Qaa (Qjq es[j] es[j+1]);rw [hd];simp only [vEs,hok,Kbx];cases h4:Qal es[j] es[j+1] with
     | false =>
       refine jL ?_;have Hq:=Qri hi2 hj h1 h2 h3 w2 hj0 hj1 e1 h4;repeat refine go1 ?_
       exact .inr ⟨rfl,rfl,_,rfl⟩
     | true =>
       have hn:=ih (j+1+1) (some es[j+1]) (bs++[[I es[j+1].1,I es[j+1].2]]) (by omega) (.inr ⟨j+1,hi2,rfl,rfl⟩);simp only [Kbx];refine jL ?_;have Hq:=Qtv hi2 hj h1 h2 h3 w3 w2 hj0 hj1 e1 h4;repeat refine go1 ?_
       exact hn
theorem Qps (n:Int) (es:List (Int×Int)) (c:Bool) (hl:es.length<=100000000):Ev tb Ji1 [] [Gr n es c] [] ⟨Bo (Qak n es),[],[],[]⟩:=by
 have e1:=Qaa (Qof n 0 7);have hlo:=Jtx n es c hl es.length 0 none [] (by simp) (.inl ⟨rfl,rfl⟩);refine jC zt145 rfl ?_
 repeat refine go0 ?_
 refine Qab hlo ?_;rintro ex st (⟨hv,rfl,bs,rfl⟩ | ⟨hv,rfl,bs,rfl⟩)
 . try simp only [if_true]
   have Hq:=e1;repeat refine go1 ?_
   simp only [Kcb] at hv;simp [Jhy,Qak,hv]
 . simp only [Kcb] at hv;simp [Jhy,Qak,hv]
end Go.Idl
namespace Go.Idl
open Go
def nl2:List (Int×Int)->IV
 | []=>Z
 | e::es=>O2 (e::es)
@[simp] theorem Qcu:nl2 []=Z:=rfl
@[simp] theorem Qcj (e:Int×Int) (es:List (Int×Int)):nl2 (e::es)=O2 (e::es):=rfl
theorem Qp8 (acc:List (Int×Int)) (e:Int×Int):nl2 (acc++[e])=O2 (acc++[e]):=by
 cases acc <;> rfl
theorem Jdc (a b:Int) (M:List Qad):Ev tb zl36 [] [I a,I b] M ⟨.agg [I (min a b),I (max a b)],[],M,[]⟩:=by
 have h1:(if b < a then b else a)=min a b:=Qsv a b;have h2:(if a < b then b else a)=max a b:=max_if a b;refine jC zt36 rfl ?_
 repeat refine go0 ?_
 simp [zi36,h1,h2]
theorem Qun (n a:Nat) (hn:n<=1000):∀ (m b:Nat) (acc:List (Int×Int)),b+m=n->acc.length+m<=2000000 ->
 wp tb (.loop Jqf) { T:=[(0,I n),(3,nl2 acc),(4,I a),(5,I b),(6,I n),(7,I a)],loc:=[],M:=[] }
  (fun ex st=>ex=.exit 2/\st={ T:=[(0,I n),(3,nl2 (acc++row a b m)),(4,I a),(5,I n),(6,I n),(7,I a),(14,Bo false)],loc:=[],M:=[] }):=by
 intro m
 induction m with
 | zero =>
   intro b acc hb hl;have h3:b=n:=hb;subst h3;refine jL ?_;cases acc with
   | nil =>
     repeat refine go0 ?_
     exact ⟨rfl,by simp [row]⟩
   | cons e acc =>
     repeat refine go0 ?_
     exact ⟨rfl,by simp [row]⟩
 | succ m ih =>
   intro b acc hb hl;have hi2:b < n:=by omega
   have w1:IntKind.i64.wrap ((b:Int)+1)=((b+1:Nat):Int):=Qas (by omega);have hn':=ih (b+1) (acc++[((a:Int),(b:Int))]) (by omega) (by simp;omega);rw [Qp8] at hn';have hrow:acc++row a b (m+1)=(acc++[((a:Int),(b:Int))])++row a (b+1) m:=by simp [row]
   rw [hrow];have hl2:acc.length+1<=274877906944:=by omega
   cases acc with
   | nil =>
     refine jL ?_;have Hq:=cj2 hi2 w1;repeat refine go1 ?_
     exact hn'
   | cons e acc =>
     have ht:(e::acc).take (acc.length+1)=e::acc:=by rw [Kae (by simp)]
     have hl3:acc.length+1+1<=274877906944:=by simp at hl2;omega
     refine jL ?_;have Hq:=cj4 hi2 w1 hl3 ht;repeat refine go1 ?_
     exact hn'
theorem Qpn (n:Nat) (hn:n<=1000):Ev tb Jjd [] [I n] [] ⟨nl2 (prs n),[],[],[]⟩:=by
 have loop:∀ (m a:Nat) (acc:List (Int×Int)),a+m=n->acc.length+m * 1001<=1500000->wp tb (.loop Jgp) { T:=[(0,I n),(3,nl2 acc),(6,I n),(7,I a)],loc:=[],M:=[] }
  (fun ex st=>ex=.exit 0/\st={ T:=[(0,I n),(3,nl2 (acc++Qq7 a m)),(6,I n),(7,I n),(8,Bo false)],loc:=[],M:=[] }):=by
  intro m
  induction m with
  | zero =>
    intro a acc ha hl;have h3:a=n:=ha;subst h3;refine jL ?_;cases acc with
    | nil =>
      repeat refine go0 ?_
      exact ⟨rfl,by simp [Qq7]⟩
    | cons e acc =>
      repeat refine go0 ?_
      exact ⟨rfl,by simp [Qq7]⟩
  | succ m ih =>
    intro a acc ha hl;have hi2:a < n:=by omega
    have w1:IntKind.i64.wrap ((a:Int)+1)=((a+1:Nat):Int):=Qas (by omega);have hin:=Qun n a hn m (a+1) acc (by omega) (by omega);have hout:=ih (a+1) (acc++row a (a+1) m) (by omega) (by rw [Kbu,Qqi,Kbz] at *;omega);have hr:acc++Qq7 a (m+1)=(acc++row a (a+1) m)++Qq7 (a+1) m:=by simp [Qq7]
    rw [hr];generalize acc++row a (a+1) m=acc2 at *
    refine jL ?_;cases acc with
    | nil =>
      have Hq:=cj2 hi2 w1;repeat refine go1 ?_
      refine Qab hin ?_;rintro ex st ⟨rfl,rfl⟩
      try simp only [if_true]
      cases acc2 <;>
      (have Hq:=w1;repeat refine go1 ?_)
      . exact hout
      . exact hout
    | cons e acc =>
      have Hq:=cj2 hi2 w1;repeat refine go1 ?_
      refine Qab hin ?_;rintro ex st ⟨rfl,rfl⟩
      try simp only [if_true]
      cases acc2 <;>
      (have Hq:=w1;repeat refine go1 ?_)
      . exact hout
      . exact hout
 refine jC zt216 rfl ?_
 repeat refine go0 ?_
 refine Qab (loop n 0 [] (by simp) (by simp;omega)) ?_;rintro ex st ⟨rfl,rfl⟩
 try simp only [if_true]
 rw [Kaq,<- prs];cases hp:prs n <;>
 repeat refine go0 ?_
 . simp [Jh7]
 . simp [Jh7]
end Go.Idl
namespace Go.Idl
open Go
def Jki (e:Int×Int):Int->List (Int×Int)->Int
 | _,[]=>-1
 | i,x::r=>if x=e then i else Jki e (i+1) r
theorem Jdq (e:Int×Int):∀ (xs:List (Int×Int)) (i:Int),0<=i->(decide (0<=Jki e i xs)=xs.any fun x=>decide (x=e))
 | [],i,h=>by simp [Jki]
 | x::r,i,h=>by
   unfold Jki;by_cases hp:x=e
   . simp [hp,h]
   . simp [hp];simpa using Jdq e r (i+1) (by omega)
theorem Jc6 (e0:Nat) (es:List (Int×Int)) (c:Bool) (e:Int×Int) (he0:e0=2 \/ es=[]) (hl:es.length<=100000000) (M:List Qad) :
 Ev tb Jjm [] [.lst e0 (eds es) c,.agg [I e.1,I e.2]] M ⟨I (Jki e 0 es),[],M,[]⟩:=by
 have loop:∀ (m i:Nat),i+m=es.length->wp tb (.loop Jqk) { T:=[(0,.lst e0 (eds es) c),(3,.bptr M.length 0 0),(7,I es.length),(8,I i)],loc:=[[I e.1,I e.2]],M:=M }
  (fun ex st=>(ex=.exit 0/\Jki e i (es.drop i)=-1/\st={ T:=[(0,.lst e0 (eds es) c),(3,.bptr M.length 0 0),(7,I es.length),(8,I es.length),(9,Bo false)],loc:=[[I e.1,I e.2]],M:=M }) \/
    (ex=.ret/\st={ T:=[(4,I (Jki e i (es.drop i)))],loc:=[[I e.1,I e.2]],M:=M })):=by
  intro m
  induction m with
  | zero =>
    intro i hi;have h3:i=es.length:=hi;subst h3;refine jL ?_
    repeat refine go0 ?_
    exact .inl ⟨rfl,by simp [Jki],rfl⟩
  | succ m ih =>
    intro i hi;have hi2:i < es.length:=by omega
    have he:e0=2:=by
     rcases he0 with h | h
     . exact h
     . rw [h] at hi2;simp at hi2
    subst he;have hd:es.drop i=es[i]::es.drop (i+1):=Kay hi2;have w1:IntKind.i64.wrap ((i:Int)+1)=((i+1:Nat):Int):=Qas (by omega);rw [hd];by_cases hq:es[i]=e
    . have h1:e.1=es[i].1:=by rw [hq]
      have h2:e.2=es[i].2:=by rw [hq]
      refine jL ?_;have Hq:=cj4 hi2 h1 h2 w1;repeat refine go1 ?_
      exact .inr ⟨rfl,by simp [Jki,hq]⟩
    . have h3:(e.1 == es[i].1 && e.2 == es[i].2)=false:=by
       rw [<- Kep,Kac,Kbt,Kbt];rintro ⟨h1,h2⟩;exact hq (by ext <;> simp [h1,h2])
      have hn:=ih (i+1) (by omega);simp only [Jki,hq,Kbs];refine jL ?_;have Hq:=cj3 hi2 h3 w1;repeat refine go1 ?_
      exact hn
 refine jC zt269 rfl ?_
 repeat refine go0 ?_
 refine Qab (loop es.length 0 (by simp)) ?_;rintro ex st (⟨rfl,h,rfl⟩ | ⟨rfl,rfl⟩)
 . try simp only [if_true]
   repeat refine go0 ?_
   simp only [Kcb] at h;simp [Jif];exact h.symm
 . simp [Jif]
theorem Qru (e0:Nat) (es:List (Int×Int)) (c:Bool) (e:Int×Int) (he0:e0=2 \/ es=[]) (hl:es.length<=100000000) (M:List Qad) :
 Ev tb Jjk [] [.lst e0 (eds es) c,.agg [I e.1,I e.2]] M ⟨Bo (es.any fun x=>decide (x=e)),[],M,[]⟩:=by
 have e1:=Qaa (Jc6 e0 es c e he0 hl []);have h:=Jdq e es 0 (by omega);refine jC zt263 rfl ?_;have Hq:=e1;repeat refine go1 ?_
 simp [Jn8,h]
def Qn0 (es:List (Int×Int)) (a b:Int):Bool:=es.any fun x=>decide (x=(min a b,max a b))
theorem Jpj (n:Int) (e0:Nat) (es:List (Int×Int)) (c:Bool) (a b:Int) (he0:e0=2 \/ es=[]) (hl:es.length<=100000000) (M:List Qad) :
 Ev tb Jaz [] [.agg [I n,.lst e0 (eds es) c],I a,I b] M ⟨Bo (Qn0 es a b),[],M,[]⟩:=by
 have e1:=Qaa (Jdc a b []);have e2:=Qaa (Qru e0 es c (min a b,max a b) he0 hl []);refine jC zt171 rfl ?_
 repeat refine go0 ?_
 refine Qhp (by simp [e1,e2];with_reducible rfl) (by simp;with_reducible rfl) ?_ ?_
 . intro p hp;simp only [Kaf,Kaw,Kcf] at hp;subst hp;exact ⟨_,by simp [e1,e2];with_reducible rfl,by simp⟩
 repeat refine go0 ?_
 simp [Jnx,Qn0]
theorem Qwu (xs:List (Int×Int)):Ev tb Qv3 [] [O2 xs] [] ⟨O2 xs,[],[],[]⟩:=by
 refine jC zt258 rfl ?_
 repeat refine go0 ?_
 simp [Jic]
theorem Qy2:Ev tb Qv3 [] [Z] [] ⟨Z,[],[],[]⟩:=by
 refine jC zt258 rfl ?_
 repeat refine go0 ?_
 simp [Jic]
theorem nl2_ne {es:List (Int×Int)} (h:es ≠ []):nl2 es=O2 es:=by
 cases es with
 | nil=>exact absurd rfl h
 | cons e es=>rfl
theorem Jlo (n:Nat) (hn:n<=100) (F:Lab) (caps:List IV) (M:List Qad) (p:Int->Int->Bool)
 (hF:∀ e ∈ prs n,∀ bs,Ev tb F [] (I e.1::I e.2::caps) (M++[bs]) ⟨Bo (p e.1 e.2),[],M++[bs],[]⟩) :
 Ev tb Jje [] [I n,.fn F caps] M ⟨.agg [I n,nl2 ((prs n).filter fun e=>p e.1 e.2)],[],M,[]⟩:=by
 have e1:=Qaa (Qpn n (by omega));have hpl:(prs n).length<=10000:=by
  have:=Qk2 n 0;have h2:n * n<=100 * 100:=Nat.mul_le_mul hn hn;simp only [prs];omega
 generalize prs n=P at *
 have loop:∀ (m i:Nat) (acc:List (Int×Int)) (bs:Qad),i+m=P.length->acc.length<=i ->
  wp tb (.loop Jqg) { T:=[(0,I n),(1,.fn F caps),(4,.bptr M.length 0 0),(5,nl2 acc),(9,nl2 P),(10,I P.length),(11,I i)],loc:=[I 0,Z]::bs,M:=M }
  (fun ex st=>ex=.exit 0/\∃ bs',st={ T:=[(0,I n),(1,.fn F caps),(4,.bptr M.length 0 0),(5,nl2 (acc++(P.drop i).filter fun e=>p e.1 e.2)),(9,nl2 P),(10,I P.length),(11,I P.length),(12,Bo false)],loc:=[I 0,Z]::bs',M:=M }):=by
  intro m
  induction m with
  | zero =>
    intro i acc bs hi ha;have h3:i=P.length:=hi;subst h3;rw [List.drop_length,Kdw,Kbb];refine jL ?_;cases acc <;> cases P <;>
    repeat refine go0 ?_
    all_goals exact ⟨rfl,bs,rfl⟩
  | succ m ih =>
    intro i acc bs hi ha;have hi2:i < P.length:=by omega
    have hne:P ≠ []:=by rintro rfl;simp at hi2
    have hPn:=nl2_ne hne;have hd:P.drop i=P[i]::P.drop (i+1):=Kay hi2;have w1:IntKind.i64.wrap ((i:Int)+1)=((i+1:Nat):Int):=Qas (by omega);have e2:=Qaa (hF P[i] (Kao hi2) ([I 0,Z]::(bs++[[I P[i].1,I P[i].2]])));have hlm:acc.length+1<=274877906944:=by omega
    have ht:acc.take acc.length=acc:=Kdb;cases hq:p P[i].1 P[i].2 with
    | true =>
      have hn:=ih (i+1) (acc++[P[i]]) (bs++[[I P[i].1,I P[i].2]]) (by omega) (by simp;omega);rw [Qp8] at hn;have hf:acc++(P.drop i).filter (fun e=>p e.1 e.2)=acc++[P[i]]++(P.drop (i+1)).filter (fun e=>p e.1 e.2):=by rw [hd,Kec,if_pos hq];simp
      rw [hf];rw [hPn] at hn |-;refine jL ?_;cases acc with
      | nil =>
        have Hq:=cj4 hi2 e2 hq w1;repeat refine go1 ?_
        exact hn
      | cons x acc =>
        have ht2:(x::acc).take (acc.length+1)=x::acc:=ht;have Hq:=cj6 hi2 e2 hq w1 ht2 (show acc.length+1+1<=274877906944 from hlm);repeat refine go1 ?_
        exact hn
    | false =>
      have hn:=ih (i+1) acc (bs++[[I P[i].1,I P[i].2]]) (by omega) (by omega);have hf:(P.drop i).filter (fun e=>p e.1 e.2)=(P.drop (i+1)).filter (fun e=>p e.1 e.2):=by rw [hd,Kec,if_neg (by simp [hq])]
      rw [hf];rw [hPn] at hn |-;refine jL ?_;cases acc with
      | nil =>
        have Hq:=cj4 hi2 e2 hq w1;repeat refine go1 ?_
        exact hn
      | cons x acc =>
        have Hq:=cj4 hi2 e2 hq w1;repeat refine go1 ?_
        exact hn
 have c1:=Qaa Qy2;have hlo:=loop P.length 0 [] [] (by simp) (by simp);rw [Kaq,Kcb] at hlo;generalize P.filter (fun e=>p e.1 e.2)=Q at *
 have c2:=Qaa (Qwu Q);refine jC zt220 rfl ?_;cases P <;>
 (have Hq:=e1;repeat refine go1 ?_)
 all_goals
  refine Qab hlo ?_;rintro ex st ⟨rfl,bs,rfl⟩
  try simp only [if_true]
  cases Q with
  | nil =>
    have Hq:=c1;repeat refine go1 ?_
    simp [Jh9]
  | cons q Q =>
    have ht:(q::Q).take (Q.length+1)=q::Q:=by rw [Kae (by simp)]
    have Hq:=cj2 c2 ht;repeat refine go1 ?_
    simp [Jh9]
end Go.Idl
namespace Go.Idl
open Go
def Qfk (n:Nat) (es:List (Int×Int)):List (Int×Int):=(prs n).filter fun e=>!Qn0 es e.1 e.2
theorem Qke (n:Int) (es:List (Int×Int)) (c:Bool) (hl:es.length<=100000000) (a b:Int) (bs:Qad) (Ms:List Qad) :
 Ev tb Jax [] [I a,I b,.bptr 0 0 0] (([I n,L2 es c]::bs)::Ms) ⟨Bo (!Qn0 es a b),[],([I n,L2 es c]::bs)::Ms,[]⟩:=by
 have e1:=Qaa (Jpj n 2 es c a b (.inl rfl) hl []);refine jC zt169 rfl ?_;have Hq:=e1;repeat refine go1 ?_
 simp [Jnw]
theorem Qhd (n:Nat) (hn:n<=100) (es:List (Int×Int)) (c:Bool) (hl:es.length<=100000000) :
 Ev tb Ji5 [] [Gr n es c] [] ⟨.agg [I n,nl2 (Qfk n es)],[],[],[]⟩:=by
 have e1:=Qaa (Jlo n hn Jax [.bptr 0 0 0] [[[I n,L2 es c],[I 0,Z]]] (fun a b=>!Qn0 es a b) (fun e _ bs=>Qke n es c hl e.1 e.2 [[I 0,Z]] [bs]));have hc:((prs n).filter fun e=>!Qn0 es e.1 e.2)=Qfk n es:=rfl;rw [hc] at e1;generalize Qfk n es=Q at *
 cases Q with
 | nil =>
   rw [Qcu] at *
   refine jC zt168 rfl ?_;have Hq:=e1;repeat refine go1 ?_
   simp [Jhz]
 | cons q Q =>
   rw [Qcj] at *
   refine jC zt168 rfl ?_;have Hq:=e1;repeat refine go1 ?_
   simp [Jhz]
theorem Qj9 (n:Nat) (es:List (Int×Int)) (c:Bool) (hn:n<=1000) (hl:es.length<=1000) (he:Qg7 n es) :
 Ev tb zl9 [] [Gr n es c] [] ⟨O (Qdf n es),[],[],[]⟩:=by
 have loop:∀ (m i:Nat) (out:List Int) (bs:Qad),i+m=es.length->out.length=n->(∀ x ∈ out,0<=x/\x<=2 * i) ->
  wp tb (.loop z9l8) { T:=[(1,.bptr 0 0 0),(3,O out),(10,L2 es c),(11,I es.length),(12,I i)],loc:=[I n,L2 es c]::bs,M:=[] }
  (fun ex st=>ex=.exit 0/\∃ bs',st={ T:=[(1,.bptr 0 0 0),(3,O (Qgw out (es.drop i))),(10,L2 es c),(11,I es.length),(12,I es.length),(13,Bo false)],loc:=[I n,L2 es c]::bs',M:=[] }):=by
  intro m
  induction m with
  | zero =>
    intro i out bs hi ho hb;have h3:i=es.length:=hi;subst h3;refine jL ?_
    repeat refine go0 ?_
    exact ⟨rfl,bs,by simp [Qgw]⟩
  | succ m ih =>
    intro i out bs hi ho hb;have hi2:i < es.length:=by omega
    have w1:IntKind.i64.wrap ((i:Int)+1)=((i+1:Nat):Int):=Qas (by omega);have hd:es.drop i=es[i]::es.drop (i+1):=Kay hi2;have hei:=he es[i] (Kao hi2);obtain ⟨p,q,hpq,hp,hq⟩:∃ p q:Nat,es[i]=((p:Int),(q:Int))/\p < n/\q < n:=⟨es[i].1.toNat,es[i].2.toNat,by ext <;> simp <;> omega,by omega,by omega⟩;rw [hd,hpq];have hpo:p < out.length:=by omega
    have hx:=hb out[p] (Kao hpo);have w2:IntKind.i64.wrap (out[p]+1)=out[p]+1:=Qac (by omega) (by omega);have e1:=Qo7 hpo;have b1:=Qgk (i:=p) hb (by omega);have l1:=Qez out p;have hstep:Qgw out (((p:Int),(q:Int))::es.drop (i+1))=Qgw (Qni (Qni out p) q) (es.drop (i+1)):=rfl;rw [hstep];refine jL ?_;have Hq:=cj2 hi2 hpq;repeat refine go1 ?_
    refine wr (by simp [hi2,hpq,hpo,w2,<- e1];with_reducible rfl) ?_;generalize Qni out p=out1 at *
    have hqo:q < out1.length:=by omega
    have hx2:=b1 out1[q] (Kao hqo);have w3:IntKind.i64.wrap (out1[q]+1)=out1[q]+1:=Qac (by omega) (by omega);have e2:=Qo7 hqo;have b2:=Qgk (i:=q) b1 (by omega);have l2:=Qez out1 q;refine wq (by simp [hi2,hpq,hqo,w3,<- e2];with_reducible rfl) ?_;have Hq:=w1;repeat refine go1 ?_
    exact ih (i+1) (Qni out1 q) _ (by omega) (by omega) (fun x hx=>by have:=b2 x hx;omega)
 refine jC zt9 rfl ?_;have Hq:=(show n<=274877906944 by omega);repeat refine go1 ?_
 have:=loop es.length 0 (List.replicate n 0) [] (by simp) (by simp) (by intro x hx;have:=List.eq_of_mem_replicate hx;subst this;simp);simp at this;refine Qab this ?_;rintro ex st ⟨rfl,bs,rfl⟩
 try simp only [if_true]
 repeat refine go0 ?_
 simp [zi9,Qdf]
theorem Jfz (n:Int):∀ (p:Option (Int×Int)) (es:List (Int×Int)),vEs n p es=true->∀ e ∈ es,okE n e=true
 | _,[],_=>by simp
 | none,e::r,h=>by
   simp only [vEs,Kac] at h;intro x hx;rcases Kaf.1 hx with rfl | hx
   . exact h.1
   . exact Jfz n _ r h.2 x hx
 | some q,e::r,h=>by
   simp only [vEs,Kac] at h;intro x hx;rcases Kaf.1 hx with rfl | hx
   . exact h.1
   . exact Jfz n _ r h.2.2 x hx
theorem Qqw {n:Int} {es:List (Int×Int)} (h:Qak n es=true):∀ e ∈ es,0<=e.1/\e.1 < e.2/\e.2 < n:=by
 simp only [Qak,Kac] at h;intro e he;have:=Jfz n none es h.1 e he;simpa [okE] using this
theorem Qqx {n:Nat} {es:List (Int×Int)} (h:Qak n es=true):Qg7 n es:=fun e he=>by
 have:=Qqw h e he;omega
theorem vG_n {n:Int} {es:List (Int×Int)} (h:Qak n es=true):0<=n/\n<=7:=by
 simp only [Qak,Kac,Kai] at h;omega
theorem Qlx (n:Int):Ev tb Qq8 [] [.agg [I n,Z]] [] ⟨Bo (Qak n []),[],[],[]⟩:=by
 have e1:=Qaa (Jsf n 0 7);refine jC zt26 rfl ?_
 repeat refine go0 ?_
 refine jL ?_
 repeat refine go0 ?_
 try simp only [if_true]
 have Hq:=e1;repeat refine go1 ?_
 simp [zi26,Qak,vEs]
end Go.Idl
namespace Go.Idl
open Go
def Qtw (e:Int×Int):List (Int×Int)->List (Int×Int)
 | []=>[e]
 | x::r=>if Qal x e then x::Qtw e r else e::x::r
theorem Jsq (e:Int×Int) (es:List (Int×Int)) (k:Nat) (hk:k<=es.length) (h:∀ x ∈ es.take k,Qal x e=true) (hs:∀ h:k < es.length,Qal es[k] e=false) :
 Qtw e es=es.take k++[e]++es.drop k:=by
 induction es generalizing k with
 | nil=>simp at hk;subst hk;rfl
 | cons x r ih =>
   cases k with
   | zero =>
     have:=hs (by simp);simp only [List.getElem_cons_zero] at this;simp [Qtw,this]
   | succ k =>
     have h1:=h x (by simp);rw [Qtw,if_pos h1,ih k (by simpa using hk) (fun y hy=>h y (by simp [hy])) (fun hh=>hs (by simpa using hh))];simp
theorem Qxe (e:Int×Int) (es:List (Int×Int)):(Qtw e es).length=es.length+1:=by
 induction es with
 | nil=>rfl
 | cons x r ih=>rw [Qtw];split <;> simp [ih]
theorem Qxf (e x:Int×Int) (es:List (Int×Int)):x ∈ Qtw e es <-> x=e \/ x ∈ es:=by
 induction es with
 | nil=>simp [Qtw]
 | cons y r ih =>
   rw [Qtw];split
   . rw [Kaf,ih,Kaf];constructor
     . rintro (h | h | h) <;> simp [h]
     . rintro (h | h | h) <;> simp [h]
   . simp
theorem Qzd (n:Int) (es:List (Int×Int)) (c:Bool) (a b:Int) (hl:es.length<=2000000) :
 Ev tb Jjp [] [Gr n es c,I a,I b] [] ⟨OG n (Qtw (min a b,max a b) es),[],[],[]⟩:=by
 obtain ⟨e,he⟩:∃ e:Int×Int,e=(min a b,max a b):=⟨_,rfl⟩;have he1:(if b < a then b else a)=e.1:=by rw [he];simp only;split <;> omega
 have he2:(if a < b then b else a)=e.2:=by rw [he];simp only;split <;> omega
 rw [<- he];have loop:∀ (m k:Nat),k+m=es.length->(∀ x ∈ es.take k,Qal x e=true)->wp tb (.loop Jqu) { T:=[(3,.bptr 0 0 0),(6,.bptr 0 1 0),(7,.bptr 0 2 0),(8,I k)],loc:=[[I n,L2 es c],[I 0,Z],[I e.1,I e.2]],M:=[] }
  (fun ex st=>ex=.exit 0/\∃ k:Nat,(k<=es.length/\(∀ x ∈ es.take k,Qal x e=true)/\(∀ h:k < es.length,Qal es[k] e=false)) /\
    st={ T:=[(3,.bptr 0 0 0),(6,.bptr 0 1 0),(7,.bptr 0 2 0),(8,I k),(30,Bo false)],loc:=[[I n,L2 es c],[I 0,Z],[I e.1,I e.2]],M:=[] }):=by
  intro m
  induction m with
  | zero =>
    intro k hk hb;have h3:k=es.length:=hk;subst h3;refine jL ?_
    repeat refine go0 ?_
    exact ⟨rfl,es.length,⟨Kam _,hb,fun h=>absurd h (by omega)⟩,rfl⟩
  | succ m ih =>
    intro k hk hb;have hi2:k < es.length:=by omega
    have w2:IntKind.i64.wrap ((k:Int)+1)=((k+1:Nat):Int):=Qas (by omega);have e1:=Qaa (Qjq es[k] e);cases hq:Qal es[k] e with
    | true =>
      refine jL ?_;have Hq:=cj4 hi2 e1 hq w2;repeat refine go1 ?_
      refine ih (k+1) (by omega) fun x hx=>?_;rw [Kau hi2] at hx;rcases Kah.1 hx with hx | hx
      . exact hb x hx
      . simp at hx;subst hx;exact hq
    | false =>
      refine jL ?_;have Hq:=cj3 hi2 e1 hq;repeat refine go1 ?_
      exact ⟨rfl,k,⟨by omega,hb,fun _=>hq⟩,rfl⟩
 refine jC zt335 rfl ?_;have Hq:=cj2 he1 he2;repeat refine go1 ?_
 refine Qab (loop es.length 0 (by simp) (by simp)) ?_;rintro ex st ⟨rfl,k,⟨hk,hb,hs⟩,rfl⟩;rw [Jsq e es k hk hb hs]
 try simp only [if_true]
 have hT:es.take es.length=es:=Kae (Kam _);have hT2:(es.drop k).take (es.length - k)=es.drop k:=Kae (by simp);have hT3:(es.take k).take k=es.take k:=by rw [Ked,Nat.min_self]
 have hl1:k<=274877906943:=by omega
 have hl2:k<=274877906944:=by omega
 have hl3:k+1<=274877906944:=by omega
 have hl4:k+1+(es.length - k)<=274877906944:=by omega
 have hT4:(es.take k++[(e.1,e.2)]).take (k+1)=es.take k++[(e.1,e.2)]:=Kae (by simp;omega);have hmin:min k es.length=k:=by omega
 have Hq:=Qri hk hT hT2 hT3 hl1 hl2 hl3 hl4 hT4 hmin;repeat refine go1 ?_
 refine Qhp (by simp [hk,hT,hT2,hT3,hl1,hl2,hl3,hl4,hT4,hmin];with_reducible rfl) (by simp;with_reducible rfl) ?_ ?_
 . intro p hp;simp only [Kaf,Kaw,Kcf] at hp;rcases hp with rfl | rfl | rfl | rfl | rfl | rfl | rfl | rfl | rfl | rfl | rfl
   . exact ⟨_,by simp [hk,hT,hT2,hT3,hl1,hl2,hl3,hl4,hT4,hmin];with_reducible rfl,by simp⟩
   . exact ⟨_,by simp [hk,hT,hT2,hT3,hl1,hl2,hl3,hl4,hT4,hmin];with_reducible rfl,by simp⟩
   . exact ⟨_,by simp [hk,hT,hT2,hT3,hl1,hl2,hl3,hl4,hT4,hmin];with_reducible rfl,by simp⟩
   . exact ⟨_,by simp [hk,hT,hT2,hT3,hl1,hl2,hl3,hl4,hT4,hmin];with_reducible rfl,by simp⟩
   . exact ⟨_,by simp [hk,hT,hT2,hT3,hl1,hl2,hl3,hl4,hT4,hmin];with_reducible rfl,by simp⟩
   . exact ⟨_,by simp [hk,hT,hT2,hT3,hl1,hl2,hl3,hl4,hT4,hmin];with_reducible rfl,by simp⟩
   . exact ⟨_,by simp [hk,hT,hT2,hT3,hl1,hl2,hl3,hl4,hT4,hmin];with_reducible rfl,by simp⟩
   . exact ⟨_,by simp [hk,hT,hT2,hT3,hl1,hl2,hl3,hl4,hT4,hmin];with_reducible rfl,by simp⟩
   . exact ⟨_,by simp [hk,hT,hT2,hT3,hl1,hl2,hl3,hl4,hT4,hmin];with_reducible rfl,by simp⟩
   . exact ⟨_,by simp [hk,hT,hT2,hT3,hl1,hl2,hl3,hl4,hT4,hmin];with_reducible rfl,by simp⟩
   . exact ⟨_,by simp [hk,hT,hT2,hT3,hl1,hl2,hl3,hl4,hT4,hmin];with_reducible rfl,by simp⟩
 repeat refine go0 ?_
 simp [Joe]
end Go.Idl
namespace Go.Idl
open Go
def oab (t:List (List Int)):List (List IV):=t.map fun r=>[.own 1 (Qb9 r)]
abbrev OT (t:List (List Int)):IV:=.own 1 (oab t)
@[simp] theorem oab_len (t:List (List Int)):(oab t).length=t.length:=by simp [oab]
@[simp] theorem Jsw:oab []=[]:=rfl
@[simp] theorem oab_get? (t:List (List Int)) (i:Nat):(oab t)[i]? = t[i]?.map fun r=>[IV.own 1 (Qb9 r)]:=by simp [oab]
@[simp] theorem oab_get (t:List (List Int)) (i:Nat) (h:i < (oab t).length):(oab t)[i]=[IV.own 1 (Qb9 (t[i]'(by simpa [oab] using h)))]:=by simp [oab]
@[simp] theorem oab_one (t:List (List Int)) (r:List Int):oab t++[[IV.own 1 (Qb9 r)]]=oab (t++[r]):=by simp [oab]
@[simp] theorem oab_set (t:List (List Int)) (i:Nat) (r:List Int):(oab t).set i [IV.own 1 (Qb9 r)]=oab (t.set i r):=by simp [oab,Ker]
@[simp] theorem oab_take (t:List (List Int)) (n:Nat):(oab t).take n=oab (t.take n):=by simp [oab,List.map_take]
@[simp] theorem oab_noLst (t:List (List Int)):Qb7 (oab t)=true:=by
  induction t with
  | nil=>rfl
  | cons x xs ih =>
    simp only [oab,Kbd,Qb7,Qbl,Qcr] at *
    rw [ih,Qzl];rfl
def g2 (t:List (List Int)) (a b:Nat):Int:=(t.getD a []).getD b 0
end Go.Idl
namespace Go.Idl
open Go
def Qcq:Int->List Int->Int
 | m,[]=>m
 | m,x::r=>Qcq (min m x) r
theorem ev_Min (x:Int) (r:List Int) (c:Bool) (hl:r.length<=2000000) :
 Ev tb zl75 [] [L (x::r) c] [] ⟨I (Qcq x r),[],[],[]⟩:=by
 have loop:∀ (m i:Nat) (y:Int),i+m=r.length->wp tb (.loop z75l8) { T:=[(0,L (x::r) c),(3,I y),(4,I (i+1))],loc:=[],M:=[] }
  (fun ex st=>ex=.exit 0/\st={ T:=[(0,L (x::r) c),(3,I (Qcq y (r.drop i))),(4,I (r.length+1)),(15,Bo false)],loc:=[],M:=[] }):=by
  intro m
  induction m with
  | zero =>
    intro i y hi;obtain ⟨h1,h2⟩:=Qcg hi;have h3:i=r.length:=hi;subst h3;refine jL ?_
    repeat refine go0 ?_
    exact ⟨rfl,by simp [Qcq]⟩
  | succ m ih =>
    intro i y hi;obtain ⟨hi2,h2,h3⟩:=Qch hi;have w2:IntKind.i64.wrap ((i:Int)+1+1)=(i:Int)+1+1:=Qac (by omega) (by omega);have h4:(i:Int) < r.length:=by omega
    rw [h2];refine jL ?_;have Hq:=cj3 hi2 w2 h4;repeat refine go1 ?_
    have:=ih (i+1) (min y r[i]) (by omega);simp only [Qsv,Jst,Qcq] at this |-;exact this
 have h0:¬ ((r.length:Int)+1 < 1):=by omega
 refine jC zt75 rfl ?_;have Hq:=h0;repeat refine go1 ?_
 have:=loop r.length 0 x (by omega);simp at this;refine Qab this ?_;rintro ex st ⟨rfl,rfl⟩;simp only [if_true]
 repeat refine go0 ?_
 simp [zi75]
theorem Qsq:∀ (r:List Int) (m b:Int),(b<=Qcq m r) <-> b<=m/\∀ x ∈ r,b<=x
 | [],m,b=>by simp [Qcq]
 | x::r,m,b=>by
   rw [Qcq,Qsq r];constructor
   . rintro ⟨h1,h2⟩;exact ⟨by omega,by intro y hy;rcases Kaf.1 hy with rfl | hy;omega;exact h2 y hy⟩
   . rintro ⟨h1,h2⟩;have:=h2 x (by simp);exact ⟨by omega,fun y hy=>h2 y (by simp [hy])⟩
def asc0 (s:List Int):List Int:=(fall s).reverse
def overT (s:List Int) (i:Nat):Int:=((asc0 s).take (i+1)).sum - ((i:Int)+1) * i / 2
def over (s:List Int):List Int:=Qxp s.length (overT s)
end Go.Idl
namespace Go.Idl
open Go
theorem sum01 (r:List Int) (h:∀ x ∈ r,0<=x/\x<=1):0<=r.sum/\r.sum<=r.length:=by
 induction r with
 | nil=>simp
 | cons x xs ih =>
   have h1:=h x (by simp);have h2:=ih fun y hy=>h y (by simp [hy]);simp only [List.sum_cons,Kbc];omega
end Go.Idl
namespace Go.Idl
open Go
theorem Ql1 (xs:List Int) (c:Bool) (y:Int) (hl:xs.length<=2000000) :
 Ev tb Qvu [] [L xs c,I y] [] ⟨Bo (decide (y ∈ xs)),[],[],[]⟩:=by
 have loop:∀ (m i:Nat),i+m=xs.length->wp tb (.loop Jp5) { T:=[(0,L xs c),(1,I y),(5,I i)],loc:=[],M:=[] }
  (fun ex st=>(ex=.exit 0/\y ∉ xs.drop i/\st={ T:=[(0,L xs c),(1,I y),(5,I xs.length),(9,Bo false)],loc:=[],M:=[] }) \/
    ex=.ret/\y ∈ xs.drop i/\st={ T:=[(4,Bo true)],loc:=[],M:=[] }):=by
  intro m
  induction m with
  | zero =>
    intro i hi;obtain ⟨h1,h2⟩:=Qcg hi;have h3:i=xs.length:=hi;subst h3;refine jL ?_
    repeat refine go0 ?_
    exact .inl ⟨rfl,by rw [h2];simp,rfl⟩
  | succ m ih =>
    intro i hi;obtain ⟨hi2,h2,h3⟩:=Qch hi;have w2:IntKind.i64.wrap ((i:Int)+1)=((i+1:Nat):Int):=Qas (by omega);rw [h2];by_cases he:xs[i]=y
    . refine jL ?_;have Hq:=cj2 hi2 he;repeat refine go1 ?_
      exact .inr ⟨rfl,by simp [he],rfl⟩
    . refine jL ?_;have Hq:=cj3 hi2 he w2;repeat refine go1 ?_
      refine Qab (ih (i+1) (by omega)) ?_;rintro ex st (⟨rfl,h,rfl⟩ | ⟨rfl,h,rfl⟩)
      . exact .inl ⟨rfl,by rw [Kaf];rintro (h' | h');exact he h'.symm;exact h h',rfl⟩
      . exact .inr ⟨rfl,Kdu _ h,rfl⟩
 refine jC zt131 rfl ?_
 repeat refine go0 ?_
 refine Qab (loop xs.length 0 (by omega)) ?_;rintro ex st (⟨rfl,h,rfl⟩ | ⟨rfl,h,rfl⟩)
 . simp only [if_true];simp only [Kcb] at h
   repeat refine go0 ?_
   simp [Jhv,h]
 . simp only [Kcb] at h;simp [Jhv,h]
theorem Jfq:∀ (A l:List Int),A.Nodup->(∀ x ∈ A,x ∈ l)->A.length<=l.length
 | [],l,_,_=>by simp
 | x::r,l,hd,h=>by
   have hd':=Kbq.1 hd;have h1:=Jfq r (l.erase x) hd'.2 (fun y hy=>(List.mem_erase_of_ne (fun e=>hd'.1 (by rw [<- e];exact hy))).2 (h y (by simp [hy])));have hx:=h x (by simp);rw [List.length_erase_of_mem hx] at h1;have:=Kev hx;simp only [Kbc];omega
end Go.Idl
namespace Go.Idl
def allD (p:List Int->Bool):Nat->Nat->List Int->Bool
 | 0,_,acc=>p acc.reverse
 | m+1,t,acc=>(List.range (t+1)).all fun x=>allD p m x ((x:Int)::acc)
theorem Jbx (p:List Int->Bool):∀ (m t:Nat) (acc l:List Int),allD p m t acc=true->l.length=m->Jbk l->(∀ x ∈ l,0<=x/\x<=t)->p (acc.reverse++l)=true
 | 0,t,acc,l,h,hl,hd,hb=>by
   have:l=[]:=Kav.1 hl;subst this;simpa [allD] using h
 | m+1,t,acc,l,h,hl,hd,hb=>by
   cases l with
   | nil=>simp at hl
   | cons x r =>
     have hx:=hb x (by simp);have hd':=Kbe.1 hd;obtain ⟨k,rfl⟩:=Kbm hx.1;simp only [allD,Kaj,Kaz] at h;have h1:=h k (by omega);have:=Jbx p m k ((k:Int)::acc) r h1 (by simpa using hl) hd'.2 (fun y hy=>⟨(hb y (by simp [hy])).1,hd'.1 y hy⟩);simpa using this
def slS (s:List Int):List Int:=(List.range s.length).map fun i=>slk s (i+1)
theorem Qya (d:List Int):Qa7 d=slS (fall d):=by rw [Qa7,slS,Qay]
end Go.Idl
namespace Go.Idl
def S {α:Type} (l:List α) (f:α->Int):Int:=(l.map f).sum
@[simp] theorem S_nil {α:Type} (f:α->Int):S [] f=0:=rfl
@[simp] theorem Qdz {α:Type} (a:α) (l:List α) (f:α->Int):S (a::l) f=f a+S l f:=by simp [S]
theorem S_app {α:Type} (l k:List α) (f:α->Int):S (l++k) f=S l f+S k f:=by simp [S]
theorem S_perm {α:Type} {l k:List α} (h:l.Perm k) (f:α->Int):S l f=S k f:=Qxx (h.map f)
theorem S_add {α:Type} (l:List α) (f g:α->Int):S l (fun a=>f a+g a)=S l f+S l g:=by
 induction l with
 | nil=>rfl
 | cons a l ih=>simp only [Qdz,ih];omega
theorem Qn7 {α:Type} (l:List α):S l (fun _=>0)=0:=by
 induction l with
 | nil=>rfl
 | cons a l ih=>simp [ih]
theorem Jrj {α:Type} (l:List α) (c:Int):S l (fun _=>c)=l.length * c:=by
 induction l with
 | nil=>simp
 | cons a l ih=>rw [Qdz,ih,Kbc,Int.natCast_add,Int.add_mul];simp;omega
theorem Qey {α:Type} {l:List α} {f g:α->Int} (h:∀ a ∈ l,f a=g a):S l f=S l g:=by
 induction l with
 | nil=>rfl
 | cons a l ih=>rw [Qdz,Qdz,h a (by simp),ih fun b hb=>h b (by simp [hb])]
theorem S_le {α:Type} {l:List α} {f g:α->Int} (h:∀ a ∈ l,f a<=g a):S l f<=S l g:=by
 induction l with
 | nil=>simp
 | cons a l ih =>
   have h1:=h a (by simp);have h2:=ih fun b hb=>h b (by simp [hb]);simp only [Qdz];omega
theorem S_swap {α β:Type} (l:List α) (k:List β) (f:α->β->Int):S l (fun a=>S k (f a))=S k (fun b=>S l (fun a=>f a b)):=by
 induction l with
 | nil=>simp [Qn7]
 | cons a l ih=>simp only [Qdz,S_add,ih]
theorem Jbv {α:Type} {l k:List α} (h:l.Sublist k) {f:α->Int} (h0:∀ a ∈ k,0<=f a):S l f<=S k f:=by
 induction h with
 | slnil=>simp
 | cons a _ ih =>
   have h1:=h0 a (by simp);have h2:=ih fun b hb=>h0 b (by simp [hb]);rw [Qdz];omega
 | cons_cons a _ ih =>
   have h2:=ih fun b hb=>h0 b (by simp [hb]);rw [Qdz,Qdz];omega
theorem Jkn {α:Type} {l:List α} {f:α->Int} (h:∀ a ∈ l,0<=f a):0<=S l f:=by
 have:=S_le (l:=l) (f:=fun _=>0) h
 rwa [Qn7] at this
theorem S_map {α γ:Type} (l:List γ) (g:γ->α) (f:α->Int):S (l.map g) f=S l (fun c=>f (g c)):=by simp [S];rfl
theorem S_one {α:Type} [DecidableEq α] {l:List α} (h:l.Nodup) (x:α):S l (fun a=>if x=a then 1 else 0)=if x ∈ l then 1 else 0:=by
 induction l with
 | nil=>simp
 | cons a l ih =>
   have h':=Kbq.1 h;rw [Qdz,ih h'.2];by_cases hx:x=a
   . subst hx;simp [h'.1]
   . simp [hx]
theorem Qhz (a b:Int×Int):Qal a b=true <-> a.1 < b.1 \/ (a.1=b.1/\a.2 < b.2):=by simp [Qal]
theorem Qdm {a b c:Int×Int} (h:Qal a b=true) (k:Qal b c=true):Qal a c=true:=by
 rw [Qhz] at *;omega
theorem Qkr {a b:Int×Int} (h:Qal a b=true):a ≠ b:=by
 rintro rfl;rw [Qhz] at h;omega
abbrev PW (es:List (Int×Int)):Prop:=es.Pairwise fun a b=>Qal a b=true
theorem Jf0 (n:Int):∀ (p:Option (Int×Int)) (es:List (Int×Int)),vEs n p es=true->PW es/\(∀ q,p=some q->∀ e ∈ es,Qal q e=true)
 | p,[],_=>⟨.nil,by simp⟩
 | none,e::r,h=>by
   simp only [vEs,Kac] at h;obtain ⟨h1,h2⟩:=Jf0 n (some e) r h.2;exact ⟨Kbe.2 ⟨h2 e rfl,h1⟩,by simp⟩
 | some q,e::r,h=>by
   simp only [vEs,Kac] at h;obtain ⟨h1,h2⟩:=Jf0 n (some e) r h.2.2;refine ⟨Kbe.2 ⟨h2 e rfl,h1⟩,fun q' hq' x hx=>?_⟩;cases hq';rcases Kaf.1 hx with rfl | hx
   . exact h.2.1
   . exact Qdm h.2.1 (h2 e rfl x hx)
theorem Jex (n:Int):∀ (p:Option (Int×Int)) (es:List (Int×Int)),PW es->(∀ q,p=some q->∀ e ∈ es,Qal q e=true)->(∀ e ∈ es,okE n e=true)->vEs n p es=true
 | p,[],_,_,_=>by cases p <;> rfl
 | none,e::r,h,_,ho=>by
   have h':=Kbe.1 h;simp only [vEs,Kac];exact ⟨ho e (by simp),Jex n (some e) r h'.2 (fun q hq x hx=>by cases hq;exact h'.1 x hx) fun x hx=>ho x (by simp [hx])⟩
 | some q,e::r,h,hq,ho=>by
   have h':=Kbe.1 h;simp only [vEs,Kac];exact ⟨ho e (by simp),hq q rfl e (by simp),Jex n (some e) r h'.2 (fun q hq x hx=>by cases hq;exact h'.1 x hx) fun x hx=>ho x (by simp [hx])⟩
theorem Qe8 (a:Nat):∀ (m b:Nat) (e:Int×Int),e ∈ row a b m <-> e.1=a/\(b:Int)<=e.2/\e.2 < b+m
 | 0,b,e=>by simp [row] <;> omega
 | m+1,b,e=>by
   rw [row,Kaf,Qe8 a m (b+1) e];constructor
   . rintro (rfl | h)
     . simp;omega
     . omega
   . intro h;by_cases h2:e.2=b
     . exact .inl (Prod.ext h.1 h2)
     . exact .inr (by omega)
theorem Qf7:∀ (m a:Nat) (e:Int×Int),e ∈ Qq7 a m <-> (a:Int)<=e.1/\e.1 < e.2/\e.2 < a+m
 | 0,a,e=>by simp [Qq7];omega
 | m+1,a,e=>by
   rw [Qq7,Kah,Qe8,Qf7 m (a+1) e];omega
theorem Qej {n:Nat} {e:Int×Int}:e ∈ prs n <-> 0<=e.1/\e.1 < e.2/\e.2 < n:=by
 rw [prs,Qf7];omega
theorem Jpu (a:Nat):∀ (m b:Nat),PW (row a b m)
 | 0,b=>.nil
 | m+1,b=>by
   rw [row];refine Kbe.2 ⟨fun e he=>?_,Jpu a m (b+1)⟩;rw [Qe8] at he;rw [Qhz];simp only;omega
theorem Jet:∀ (m a:Nat),PW (Qq7 a m)
 | 0,a=>.nil
 | m+1,a=>by
   rw [Qq7];refine Kdt.2 ⟨Jpu a m (a+1),Jet m (a+1),fun x hx y hy=>?_⟩;rw [Qe8] at hx;rw [Qf7] at hy;rw [Qhz];omega
theorem Jeu (n:Nat):PW (prs n):=Jet n 0
theorem Qqd {es:List (Int×Int)} (h:PW es):es.Nodup:=h.imp fun h=>Qkr h
theorem Jew {xs ys:List (Int×Int)} (hx:PW xs) (hy:PW ys) (h:∀ e,e ∈ xs <-> e ∈ ys):xs=ys:=by
 refine List.Perm.eq_of_pairwise (le:=fun a b=>Qal a b=true) (fun a b _ _ h1 h2=>absurd (Qdm h1 h2) (fun h=>Qkr h rfl)) hx hy ?_;exact (List.perm_ext_iff_of_nodup (Qqd hx) (Qqd hy)).2 h
theorem Qee {n:Nat} {es:List (Int×Int)}:Qak n es=true <-> PW es/\(∀ e ∈ es,e ∈ prs n)/\n<=7:=by
 constructor
 . intro h;have h1:=vG_n h;have h2:=Qqw h;simp only [Qak,Kac] at h;exact ⟨(Jf0 n none es h.1).1,fun e he=>Qej.2 (h2 e he),by omega⟩
 . rintro ⟨h1,h2,h3⟩;simp only [Qak,Kac,Kai];refine ⟨Jex n none es h1 (by simp) fun e he=>?_,by omega,by omega⟩;have:=Qej.1 (h2 e he);simp only [okE,Kac,Kai];omega
theorem Jdk {n:Nat} (hn:n<=7) (p:Int×Int->Bool):Qak n ((prs n).filter p)=true :=
 Qee.2 ⟨(Jeu n).filter _,fun e he=>(Kbr.1 he).1,hn⟩
theorem Qm5 {n:Nat} {es:List (Int×Int)} (h:Qak n es=true):es=(prs n).filter fun e=>decide (e ∈ es):=by
 obtain ⟨h1,h2,h3⟩:=Qee.1 h;refine Jew h1 ((Jeu n).filter _) fun e=>?_;rw [Kbr,Kai];exact ⟨fun he=>⟨h2 e he,he⟩,fun he=>he.2⟩
theorem Jp0 {n:Nat} {es:List (Int×Int)} (h:Qak n es=true):es.Sublist (prs n):=by
 rw [Qm5 h];exact List.filter_sublist
theorem Qpa {n:Nat} (hn:n<=7) (es:List (Int×Int)):Qak n (Qfk n es)=true:=Jdk hn _
def inc (v:Nat) (e:Int×Int):Int:=(if e.1=v then 1 else 0)+(if e.2=v then 1 else 0)
def deg (es:List (Int×Int)) (v:Nat):Int:=S es (inc v)
theorem Qwn {o:List Int} {i v:Nat} (hv:v < o.length):(Qni o i).getD v 0=o.getD v 0+(if i=v then 1 else 0):=by
 rw [Qni,Kad,Kdp];by_cases h:i=v
 . subst h;simp [hv,Kad]
 . simp [h,Kad]
theorem Qrm {n:Nat}:∀ (es:List (Int×Int)) (o:List Int),(∀ e ∈ es,0<=e.1/\0<=e.2)->∀ v,v < o.length->(Qgw o es).getD v 0=o.getD v 0+deg es v
 | [],o,_,v,_=>by simp [Qgw,deg]
 | e::es,o,h,v,hv=>by
   have h1:=h e (by simp);have:=Qrm (n:=n) es (Qni (Qni o e.1.toNat) e.2.toNat) (fun x hx=>h x (by simp [hx])) v (by simp [Qez];exact hv);rw [show Qgw o (e::es)=Qgw (Qni (Qni o e.1.toNat) e.2.toNat) es from rfl,this,Qwn (by rw [Qez];exact hv),Qwn hv,deg,deg,Qdz];have c1:(e.1.toNat=v)=(e.1=(v:Int)):=by rw [eq_iff_iff];omega
   have c2:(e.2.toNat=v)=(e.2=(v:Int)):=by rw [eq_iff_iff];omega
   simp only [inc,c1,c2];omega
theorem Qt6 {n:Nat} {es:List (Int×Int)} (h:Qg7 n es):Qdf n es=(List.range n).map (deg es):=by
 have hl:(Qdf n es).length=n:=by rw [Qdf,Qh2];simp
 refine List.ext_getElem (by simp [hl]) fun v h1 h2=>?_;have:=Qrm (n:=n) es (List.replicate n 0) (fun e he=>by have:=h e he;omega) v (by simp;omega);rw [<- Qdf,Kad,Kag h1] at this;simp only [Kdf] at this;rw [this];simp [Kad];rw [Kag (by simp;omega)];simp
theorem Qt5:(List.range 8).all (fun n=>(List.range n).all fun v=>decide (deg (prs n) v=(n:Int) - 1))=true:=by decide +kernel
theorem Jr5 {n v:Nat} (hn:n<=7) (hv:v < n):deg (prs n) v=(n:Int) - 1:=by
 have:=Kaj.1 (Kaj.1 Qt5 n (Kaz.2 (by omega))) v (Kaz.2 hv);exact of_decide_eq_true this
def adj (e:Int×Int) (a b:Nat):Int:=(if e.1=a then 1 else 0) * (if e.2=b then 1 else 0)+(if e.2=a then 1 else 0) * (if e.1=b then 1 else 0)
theorem Qod {n:Nat} {es:List (Int×Int)} (h:Qak n es=true):Qbb (Qdf n es)=true:=by
 obtain ⟨h1,h2,hn⟩:=Qee.1 h;have hE:Qg7 n es:=fun e he=>by have:=Qej.1 (h2 e he);omega
 rw [Qt6 hE];simp only [Qbb,Kac,Kai,Kaj,Kcu,List.length_range];refine ⟨hn,fun x hx=>?_⟩;obtain ⟨v,hv,rfl⟩:=Kck.1 hx;have hv:=Kaz.1 hv;have hi:∀ e:Int×Int,0<=inc v e:=fun e=>by simp only [inc];split <;> split <;> decide
 have h3:deg es v<=deg (prs n) v:=Jbv (Jp0 h) fun e _=>hi e;have h4:0<=deg es v:=Jkn fun e _=>hi e;have:=Jr5 hn hv;omega
end Go.Idl
namespace Go.Idl
open Go
def rI (N:Nat):List Int:=(List.range N).map fun v:Nat=>(v:Int)
theorem rI_len (N:Nat):(rI N).length=N:=by simp [rI]
theorem mem_rI {N:Nat} {x:Int}:x ∈ rI N <-> 0<=x/\x < N:=by
 simp only [rI,Kck,Kaz];exact ⟨fun ⟨v,h1,h2⟩=>by omega,fun h=>⟨x.toNat,by omega,by omega⟩⟩
def busy (rest Jbm:List Int) (v:Nat):Bool:=decide ((v:Int) ∈ rest) || decide ((v:Int) ∈ Jbm)
theorem Qs6 (N:Nat):(rI N).Nodup:=by
 rw [rI,List.Nodup,List.pairwise_map];exact List.nodup_range.imp fun h e=>h (by omega)
theorem Jsl {N:Nat} {rest Jbm:List Int} (h:rest.length+Jbm.length < N):∃ w,w < N/\busy rest Jbm w=false:=by
 refine Kcx fun hn=>?_;have hall:∀ x ∈ rI N,x ∈ rest++Jbm:=fun x hx=>by
  have hx':=mem_rI.1 hx;obtain ⟨v,rfl⟩:=Kbm hx'.1;have hv:v < N:=by omega
  have hb:busy rest Jbm v=true:=by
   cases hq:busy rest Jbm v with
   | true=>rfl
   | false=>exact absurd ⟨v,hv,hq⟩ hn
  simp only [busy,Kbj,Kai] at hb;exact Kah.2 hb
 have:=Jfq _ _ (Qs6 N) hall;rw [rI_len,Kbu] at this;omega
end Go.Idl
namespace Go.Idl
open Go
abbrev Str (s:ByteArray):IV:=.sc (.string s)
def Qel (l:List ByteArray):List (List IV):=l.map fun s=>[Str s]
@[simp] theorem Jnd (l:List ByteArray):(Qel l).length=l.length:=by simp [Qel]
@[simp] theorem strs_get (l:List ByteArray) (i:Nat) (h:i < (Qel l).length):(Qel l)[i]=[IV.sc (.string (l[i]'(by simpa [Qel] using h)))]:=by simp [Qel]
@[simp] theorem strs_get? (l:List ByteArray) (i:Nat):(Qel l)[i]? = l[i]?.map fun s=>[IV.sc (.string s)]:=by simp [Qel]
end Go.Idl
namespace Go.Idl
open Go
def Qeo (o:List Int) (i:Nat):List Int:=o.set i (o.getD i 0 - 1)
def subs:List (Int×Int)->List Int->List (Int×Int)->List (List (Int×Int))
 | [],left,chosen=>if left.all (fun x=>decide (x=0)) then [chosen] else []
 | e::r,left,chosen =>
   (if 0 < left.getD e.1.toNat 0/\0 < left.getD e.2.toNat 0 then subs r (Qeo (Qeo left e.1.toNat) e.2.toNat) (chosen++[e]) else [])++subs r left chosen
theorem Jc4 (e0:Nat) (es:List (Int×Int)) (c:Bool) (he0:e0=2 \/ es=[]) (hl:es.length<=2000000):Ev tb Jjj [] [.lst e0 (eds es) c] [] ⟨O2 es,[],[],[]⟩:=by
 rcases he0 with rfl | rfl
 . refine jC zt261 rfl ?_;refine Qbo (by simp;rfl) (by simp;rfl) ?_;refine Qqy (b:=es.isEmpty) (by simp [Jgs];rfl) (by simp) ?_ ?_ ?_ (ex:=.ret) (st':={ T:=[(2,.own 2 (eds es))],loc:=[],M:=[] })
   . refine Qge (t:=false) (by simp) (by simp) fun _=>jQ ?_;refine Qbo (by simp [show es.length<=274877906944 by omega];rfl) (by simp;rfl) ?_;refine jR ?_;simp
   . intro he;have:es=[]:=by simpa using he
     subst this;refine Qge (t:=true) (by simp) (fun _=>jA ?_) (by simp);refine Qbo (by simp;rfl) (by simp;rfl) ?_;refine jX ?_;simp
   . simp [Jid]
 . refine jC zt261 rfl ?_;refine Qbo (by simp;rfl) (by simp;rfl) ?_;refine Qqy (b:=([]:List (Int×Int)).isEmpty) (by simp [Jgs];rfl) (by simp) ?_ ?_ ?_ (ex:=.ret) (st':={ T:=[(2,.own 2 (eds ([]:List (Int×Int))))],loc:=[],M:=[] })
   . refine Qge (t:=false) (by simp) (by simp) fun _=>jQ ?_;refine Qbo (by simp;rfl) (by simp;rfl) ?_;refine jR ?_;simp
   . intro he;refine Qge (t:=true) (by simp) (fun _=>jA ?_) (by simp);refine Qbo (by simp;rfl) (by simp;rfl) ?_;refine jX ?_;simp
   . simp [Jid]
theorem Qrw (e0:Nat) (es:List (Int×Int)) (c:Bool) (he0:e0=2 \/ es=[]) (hl:es.length<=2000000):Ev tb Qvx [] [.lst e0 (eds es) c] [] ⟨O2 es,[],[],[]⟩:=by
 have e1:=Qaa (Jc4 e0 es c he0 hl);have e2:=Qaa (Qwu es);refine jC zt204 rfl ?_;have Hq:=cj2 e1 e2;repeat refine go1 ?_
 simp [Jn0]
end Go.Idl
namespace Go.Idl
open Go
abbrev SB (l:List UInt8):IV:=.sc (.string ⟨l.toArray⟩)
theorem bs_app (a b:List UInt8):(⟨a.toArray⟩:ByteArray)++⟨b.toArray⟩=⟨(a++b).toArray⟩:=by
 ext1;simp [ByteArray.data_append]
theorem Jck (a:List UInt8):(⟨a.toArray⟩:ByteArray).size=a.length:=rfl
theorem Qeu {a b:List UInt8} (h:a.length+b.length<=4000000000):Op.stringOp .add ⟨a.toArray⟩ ⟨b.toArray⟩=Sem.pure (.string ⟨(a++b).toArray⟩):=by
 have hno:¬ ((((⟨a.toArray⟩:ByteArray).size+(⟨b.toArray⟩:ByteArray).size:Nat):Int) > IntKind.i64.max):=by
  rw [show IntKind.i64.max=9223372036854775807 from rfl,Jck,Jck];omega
 unfold Op.stringOp;simp only [if_neg hno,bs_app];rfl
theorem Jpf {a b:ByteArray}:(a.toList == b.toList)=decide (a=b):=by
 rw [Go.Lib.toList_data,Go.Lib.toList_data];by_cases h:a=b
 . subst h;simp
 . rw [Kbf h,beq_eq_false_iff_ne];intro hc;apply h;cases a with | mk a=>cases b with | mk b =>
   congr 1;exact Array.toList_inj.1 hc
theorem Jfi (a b:ByteArray):Op.stringOp .eql a b=Sem.pure (.bool (decide (a=b))):=by
 unfold Op.stringOp;simp only [Jpf];rfl
theorem Jfj (a b:ByteArray):Op.stringOp .neq a b=Sem.pure (.bool (!decide (a=b))):=by
 unfold Op.stringOp;simp only [Jpf];rfl
@[simp] theorem Qzj:∀ (l:List ByteArray),Qdq (Qel l)=Qel l
  | []=>rfl
  | s::l=>by
    show [Str s]::Qdq (Qel l)=[Str s]::Qel l;rw [Qzj l]
@[simp] theorem Qsz:∀ (l:List ByteArray),Qb7 (Qel l)=true
  | []=>rfl
  | s::l=>by
    show (Qbl [Str s] && Qb7 (Qel l))=true;rw [Qsz l];rfl
def dgt (x:Int):UInt8:=UInt8.ofNat (48+x.toNat)
theorem Qjs:∀ {xs:List Int},(∀ x ∈ xs,0<=x/\x < 10)->Qfx (Qb9 xs)=some (xs.map dgt)
 | [],_=>rfl
 | x::xs,h=>by
   have h1:=h x (by simp);have h2:=Qjs (xs:=xs) fun y hy=>h y (by simp [hy]);show (if 0<=x/\x < 10 then _ else _)=_;rw [if_pos h1];show (match Qfx (Qb9 xs) with | some l=>some (UInt8.ofNat (48+x.toNat)::l) | none=>none)=_;rw [h2];rfl
theorem Qox {g:List IV->Option IV} {st:St} {Q:Ex->St->Prop} {v:IV} (h:g (st.T.map (·.2))=some v) (q:Q .ret { st with T:=[(0,v)] }):wp tb (.ext fun _=>g) st Q:=⟨v,⟨0,fun _ _=>h⟩,q⟩
theorem Qh8 (xs:List Int) (c:Bool) (hl:xs.length<=1000) (h:∀ x ∈ xs,0<=x/\x < 10):Ev tb Qnb [] [L xs c] [] ⟨SB (xs.map dgt),[],[],[]⟩:=by
 refine jC zt208 rfl ?_;refine Qox (g:=Qbi) (v:=SB (xs.map dgt)) ?_ ⟨.inr rfl,?_⟩
 . show Qbi [.lst 1 (Qb9 xs) c]=_;rw [Qbi,if_pos (by simpa using hl),Qjs h]
 . simp [Qd6,Jh4,Jao]
theorem Qjt:∀ (l:List ByteArray),Qfy (Qel l)=some l
 | []=>rfl
 | s::l=>by
   show (match Qfy (Qel l) with | some l=>some (s::l) | none=>none)=_;rw [Qjt l]
theorem Jsb (l:List (List UInt8)) (sep:List UInt8) (c:Bool) (hl:l.length<=1000000) (h:(Qhi sep l).length<=1000000000) :
 Ev tb Qv9 [] [.lst 1 (Qel (l.map fun x=>⟨x.toArray⟩)) c,SB sep] [] ⟨SB (Qhi sep l),[],[],[]⟩:=by
 refine jC zt399 rfl ?_;refine Qox (g:=Qa4) (v:=SB (Qhi sep l)) ?_ ⟨.inr rfl,?_⟩
 . show Qa4 [.lst 1 (Qel (l.map fun x=>⟨x.toArray⟩)) c,SB sep]=_;have hm:((l.map fun x=>(⟨x.toArray⟩:ByteArray)).map fun s=>s.data.toList)=l:=by
    rw [List.map_map];exact (Kdr fun _ _=>rfl).trans (List.map_id l)
   rw [Qa4,Qjt];simp only [hm,Kcu];rw [if_pos ⟨hl,h⟩]
 . simp [Qd6,Jh4,Jao]
theorem Qrv (sep:List UInt8):Ev tb Qv9 [] [Z,SB sep] [] ⟨SB [],[],[],[]⟩:=by
 refine jC zt399 rfl ?_;refine Qox (g:=Qa4) (v:=SB []) rfl ⟨.inr rfl,?_⟩;simp [Qd6,Jao]
theorem Qku (n:Nat) (hn:n<=9):Ev tb Qts [] [I n] [] ⟨SB [dgt n],[],[],[]⟩:=by
 have w1:IntKind.i64.wrap ((n:Int)+1)=((n+1:Nat):Int):=Qas (by omega);have hx:(⟨#[48,49,50,51,52,53,54,55,56,57]⟩:ByteArray).extract n (n+1)=⟨[dgt n].toArray⟩:=by
  match n,hn with
  | 0,_=>rfl
  | 1,_=>rfl
  | 2,_=>rfl
  | 3,_=>rfl
  | 4,_=>rfl
  | 5,_=>rfl
  | 6,_=>rfl
  | 7,_=>rfl
  | 8,_=>rfl
  | 9,_=>rfl
 refine jC zt347 rfl ?_;have hs:(⟨#[48,49,50,51,52,53,54,55,56,57]⟩:ByteArray).size=10:=rfl;have hn':n+1<=10:=by omega
 have Hq:=cj5 w1 hx hs hn hn';repeat refine go1 ?_
 simp [Jok]
end Go.Idl
namespace Go.Idl
def Qnd {α:Type} (lt:α->α->Bool) (x:α):List α->List α->List α
 | [],B=>x::B
 | a::r,B=>if lt x a then Qnd lt x r (a::B) else r.reverse++a::x::B
def Qem {α:Type} (lt:α->α->Bool):List α->List α->List α
 | S,[]=>S
 | S,x::r=>Qem lt (Qnd lt x S.reverse []) r
theorem Qdr {α:Type} (lt:α->α->Bool) (x:α):∀ (r B:List α),(Qnd lt x r B).Perm (r.reverse++x::B)
 | [],B=>.refl _
 | a::r,B=>by
   unfold Qnd;split
   . refine (Qdr lt x r (a::B)).trans ?_;rw [Kcv,Kal];exact Kek _ (.swap _ _ _)
   . rw [Kcv,Kal];exact .refl _
theorem Qgn {α:Type} (lt:α->α->Bool) (x:α) (S:List α):(Qnd lt x S.reverse []).length=S.length+1:=by
 have:=(Qdr lt x S.reverse []).length_eq;simpa using this
abbrev Srt {α:Type} (lt:α->α->Bool) (l:List α):Prop:=l.Pairwise fun a b=>lt b a=false
theorem Qxd {α:Type} {lt:α->α->Bool} (ht:∀ a b c,lt b a=false->lt c b=false->lt c a=false) (ha:∀ a b,lt a b=true->lt b a=false) (x:α):∀ (r B:List α),Srt lt (r.reverse++B)->(∀ b ∈ B,lt x b=true)->Srt lt (Qnd lt x r B)
 | [],B,h,hb=>Kbe.2 ⟨fun b hb'=>ha _ _ (hb b hb'),by simpa using h⟩
 | a::r,B,h,hb=>by
   rw [Kcv,Kal] at h;unfold Qnd;split
   . rename_i hx;refine Qxd ht ha x r (a::B) h fun b hb'=>?_;rcases Kaf.1 hb' with rfl | hb'
     . exact hx
     . exact hb b hb'
   . rename_i hx;have hx:lt x a=false:=by simpa using hx
     obtain ⟨h1,h2,h3⟩:=Kdt.1 (show Srt lt (r.reverse++a::B) from h);have h2:=Kbe.1 h2;refine Kdt.2 ⟨h1,?_,fun p hp q hq=>?_⟩
     . refine Kbe.2 ⟨fun q hq=>?_,Kbe.2 ⟨fun b hb'=>ha _ _ (hb b hb'),h2.2⟩⟩;rcases Kaf.1 hq with rfl | hq
       . exact hx
       . exact h2.1 q hq
     . have h4:=h3 p hp a (by simp);rcases Kaf.1 hq with rfl | hq
       . exact h4
       . rcases Kaf.1 hq with rfl | hq
         . exact ht _ _ _ h4 hx
         . exact h3 p hp q (by simp [hq])
theorem Qvh {α:Type} {lt:α->α->Bool} (ht:∀ a b c,lt b a=false->lt c b=false->lt c a=false) (ha:∀ a b,lt a b=true->lt b a=false):∀ (r S:List α),Srt lt S->Srt lt (Qem lt S r)/\(Qem lt S r).Perm (S++r)
 | [],S,h=>⟨h,by simp [Qem]⟩
 | x::r,S,h=>by
   obtain ⟨h1,h2⟩:=Qvh ht ha r (Qnd lt x S.reverse []) (Qxd ht ha x _ _ (by simpa using h) (by simp));refine ⟨h1,h2.trans ?_⟩;have:=Qdr lt x S.reverse [];rw [Kde] at this;refine (this.append_right r).trans ?_;rw [Kal];exact .refl _
theorem Qb5 {α:Type} (lt:α->α->Bool):∀ (r S:List α),(Qem lt S r).Perm (S++r)
 | [],S=>by simp [Qem]
 | x::r,S=>by
   refine (Qb5 lt r _).trans ?_;have:=Qdr lt x S.reverse [];rw [Kde] at this;refine (this.append_right r).trans ?_;rw [Kal];exact .refl _
end Go.Idl
namespace Go.Idl
open Go
abbrev vI (x:Int):IV:=I x
abbrev vE (x:Int×Int):IV:=.agg [I x.1,I x.2]
theorem Qhv {α:Type} {A Z:List α} {a x:α}:(A++a::x::Z)[A.length+1]? = some x:=by
 rw [Kat (by omega)];simp
theorem Qhu {α:Type} {A Z:List α} {a:α}:(A++a::Z)[A.length]? = some a:=by
 rw [Kat (by omega)];simp
theorem Qko {α:Type} {A Z:List α} {a x:α}:((A++a::x::Z).set (A.length+1) a).set A.length x=A++x::a::Z:=by
 rw [Kcl _ _ (by omega),Kcl _ _ (by omega)];simp
def Qnf {α:Type} (v:α->IV) (F:Lab) (caps:List IV) (lt:α->α->Bool) (D:α->Prop) (M:List Qad):Prop :=
 ∀ x y,D x->D y->∃ k:Int,decide (k < 0)=lt x y/\Ev tb F [] (v x::v y::caps) (M++[[]]) ⟨I k,[],M++[[]],[]⟩
theorem icli (F:Lab) (caps:List IV) (lt:Int->Int->Bool) (D:Int->Prop) (M:List Qad) (hc:Qnf vI F caps lt D M) (P:List Int) (n i:Int) (x:Int) (rest:List Int):∀ (k:Nat) (A B:List Int),A.length=k->P.length+k+B.length+rest.length<=2000000->D x->(∀ a ∈ A,D a) ->
 wp tb (.loop Jqo) { T:=[(0,O ((P++A)++x::(B++rest))),(1,I P.length),(2,I n),(3,.fn F caps),(8,I i),(9,I (P.length+k:Nat))],loc:=[],M:=M }
  (fun ex st=>ex=.exit 2/\∃ k':Int,st={ T:=[(0,O (P++(Qnd lt x A.reverse B++rest))),(1,I P.length),(2,I n),(3,.fn F caps),(8,I i),(9,I k'),(34,Bo false)],loc:=[],M:=M }):=by
 intro k
 induction k with
 | zero =>
   intro A B hA hl hx hD;have:A=[]:=Kav.1 hA;subst this;refine jL ?_
   repeat refine go0 ?_
   exact ⟨rfl,_,by simp [Qnd];rfl⟩
 | succ k ih =>
   intro A B hA hl hx hD;obtain ⟨A',a,rfl⟩:∃ A' a,A=A'++[a]:=⟨A.dropLast,A.getLast (by intro h;subst h;simp at hA),(Kdm _).symm⟩;have hA':A'.length=k:=by simpa using hA
   subst hA';obtain ⟨c,hc1,hc2⟩:=hc x a hx (hD a (by simp));have e1:=Qaa hc2;have hPl:(P++A').length=P.length+A'.length:=by simp
   obtain ⟨Q,hQ⟩:∃ Q,Q=P++A':=⟨_,rfl⟩;have hQl:P.length+A'.length=Q.length:=by rw [hQ];simp
   have hre:P++(A'++[a])++x::(B++rest)=Q++a::x::(B++rest):=by rw [hQ];simp
   rw [hre];have hk:((P.length+(A'.length+1):Nat):Int)=(Q.length:Int)+1:=by omega
   rw [hk];have w1:IntKind.i64.wrap (Q.length:Int)=(Q.length:Int):=Qac (by omega) (by omega);have w2:(P.length:Int) < (Q.length:Int)+1:=by omega
   by_cases hx0:c < 0
   . have hlt:lt x a=true:=by rw [<- hc1];exact Kbo hx0
     have:=ih A' (a::B) rfl (by simp;omega) hx (fun b hb=>hD b (by simp [hb]));rw [show P++A'++x::(a::B++rest)=Q++x::(a::(B++rest)) by rw [hQ];simp,hQl] at this;refine jL ?_;have Hq:=cj7 e1 hx0 w1 w2 @Qhu @Qhv @Qko;repeat refine go1 ?_
     simp only [Kea,Kcv,Ken,Kaq,Kbk];simp only [Qnd,hlt,if_true];exact this
   . have hlt:lt x a=false:=by rw [<- hc1];exact Kbf hx0
     refine jL ?_;have Hq:=cj7 e1 hx0 w1 w2 @Qhu @Qhv @Qko;repeat refine go1 ?_
     refine ⟨rfl,(Q.length:Int)+1,?_⟩;simp only [Kea,Kcv,Ken,Kaq,Kbk];simp only [Qnd,hlt,Kap,Kbs,Kde];rw [hQ];simp
theorem isoi (F:Lab) (caps:List IV) (lt:Int->Int->Bool) (D:Int->Prop) (M:List Qad) (hc:Qnf vI F caps lt D M) (P Q:List Int) (n:Int):∀ (r S:List Int),n=(P.length+S.length+r.length:Nat)->P.length+S.length+r.length+Q.length<=900000->(∀ x ∈ S,D x)->(∀ x ∈ r,D x) ->
 wp tb (.loop Jqp) { T:=[(0,O (P++(S++(r++Q)))),(1,I P.length),(2,I n),(3,.fn F caps),(8,I (P.length+S.length:Nat))],loc:=[],M:=M }
  (fun ex st=>ex=.exit 0/\∃ k':Int,st={ T:=[(0,O (P++(Qem lt S r++Q))),(1,I P.length),(2,I n),(3,.fn F caps),(8,I k'),(14,Bo false)],loc:=[],M:=M }):=by
 intro r
 induction r with
 | nil =>
   intro S hn hl hS hr;have h1:¬ ((P.length:Int)+(S.length:Int)) < n:=by simp at hn;omega
   refine jL ?_;have Hq:=h1;repeat refine go1 ?_
   exact ⟨rfl,_,by simp [Qem];rfl⟩
 | cons x r ih =>
   intro S hn hl hS hr;simp only [Kbc] at hn hl;have h1:(P.length:Int)+(S.length:Int) < n:=by omega
   have w1:IntKind.i64.wrap ((P.length:Int)+(S.length:Int)+1)=(P.length:Int)+(S.length:Int)+1:=by rw [Qac (by omega) (by omega)]
   have hin:=icli F caps lt D M hc P n ((P.length:Int)+S.length) x (r++Q) S.length S [] rfl (by simp;omega) (hr x (by simp)) hS;rw [show P++S++x::([]++(r++Q))=P++(S++(x::r++Q)) by simp,show ((P.length+S.length:Nat):Int)=(P.length:Int)+S.length by omega] at hin;have hn2:=ih (Qnd lt x S.reverse []) (by rw [Qgn];omega) (by rw [Qgn];omega) (fun y hy=>by
    have:=(Qdr lt x S.reverse []).mem_iff.1 hy;simp only [Kde,Kah,Kaf,Kaw,Kcf] at this;rcases this with h | rfl
    . exact hS y h
    . exact hr y (by simp)) (fun y hy=>hr y (by simp [hy]))
   rw [Qgn,show ((P.length+(S.length+1):Nat):Int)=(P.length:Int)+S.length+1 by omega] at hn2;rw [show ((P.length+S.length:Nat):Int)=(P.length:Int)+S.length by omega];refine jL ?_;have Hq:=cj2 h1 w1;repeat refine go1 ?_
   refine Qab hin ?_;rintro ex st ⟨rfl,k',rfl⟩;simp only [if_true];have Hq:=cj2 h1 w1;repeat refine go1 ?_
   exact hn2
theorem Jlj (F:Lab) (caps:List IV) (lt:Int->Int->Bool) (D:Int->Prop) (M:List Qad) (hc:Qnf vI F caps lt D M) (P Q seg:List Int) (hl:P.length+seg.length+Q.length<=800000) (hD:∀ x ∈ seg,D x) :
 Ev tb Jba [0] [O (P++(seg++Q)),I P.length,I (P.length+seg.length:Nat),.fn F caps] M ⟨.tup [],[O (P++(Qem lt [] seg++Q))],M,[]⟩:=by
 have w1:IntKind.i64.wrap ((P.length:Int)+1)=(P.length:Int)+1:=by rw [Qac (by omega) (by omega)]
 cases seg with
 | nil =>
   have h1:¬ (P.length:Int)+1 < ((P.length+([]:List Int).length:Nat):Int):=by simp;omega
   simp only [Kci,Keh] at h1 |-;refine jC zt278 rfl ?_;have Hq:=w1;repeat refine go1 ?_
   refine jL ?_;have Hq:=h1;repeat refine go1 ?_
   simp [Jii,Qem]
 | cons x r =>
   have:=isoi F caps lt D M hc P Q (P.length+(x::r).length:Nat) r [x] (by simp;omega) (by simp at hl |-;omega) (fun y hy=>by simp at hy;subst hy;exact hD _ (by simp)) (fun y hy=>hD y (by simp [hy]));rw [show P++([x]++(r++Q))=P++(x::r++Q) by simp,show ((P.length+[x].length:Nat):Int)=(P.length:Int)+1 by simp] at this;have hs:Qem lt [x] r=Qem lt [] (x::r):=by simp [Qem,Qnd]
   rw [hs] at this;generalize ((P.length+(x::r).length:Nat):Int)=n at *
   refine jC zt278 rfl ?_;have Hq:=w1;repeat refine go1 ?_
   refine Qab this ?_;rintro ex st ⟨rfl,k',rfl⟩;simp [Jii]
theorem icle (F:Lab) (caps:List IV) (lt:(Int×Int)->(Int×Int)->Bool) (D:(Int×Int)->Prop) (M:List Qad) (hc:Qnf vE F caps lt D M) (P:List (Int×Int)) (n i:Int) (x:(Int×Int)) (rest:List (Int×Int)):∀ (k:Nat) (A B:List (Int×Int)),A.length=k->P.length+k+B.length+rest.length<=2000000->D x->(∀ a ∈ A,D a) ->
 wp tb (.loop Jqm) { T:=[(0,O2 ((P++A)++x::(B++rest))),(1,I P.length),(2,I n),(3,.fn F caps),(8,I i),(9,I (P.length+k:Nat))],loc:=[],M:=M }
  (fun ex st=>ex=.exit 2/\∃ k':Int,st={ T:=[(0,O2 (P++(Qnd lt x A.reverse B++rest))),(1,I P.length),(2,I n),(3,.fn F caps),(8,I i),(9,I k'),(34,Bo false)],loc:=[],M:=M }):=by
 intro k
 induction k with
 | zero =>
   intro A B hA hl hx hD;have:A=[]:=Kav.1 hA;subst this;refine jL ?_
   repeat refine go0 ?_
   exact ⟨rfl,_,by simp [Qnd];rfl⟩
 | succ k ih =>
   intro A B hA hl hx hD;obtain ⟨A',a,rfl⟩:∃ A' a,A=A'++[a]:=⟨A.dropLast,A.getLast (by intro h;subst h;simp at hA),(Kdm _).symm⟩;have hA':A'.length=k:=by simpa using hA
   subst hA';obtain ⟨c,hc1,hc2⟩:=hc x a hx (hD a (by simp));have e1:=Qaa hc2;have hPl:(P++A').length=P.length+A'.length:=by simp
   obtain ⟨Q,hQ⟩:∃ Q,Q=P++A':=⟨_,rfl⟩;have hQl:P.length+A'.length=Q.length:=by rw [hQ];simp
   have hre:P++(A'++[a])++x::(B++rest)=Q++a::x::(B++rest):=by rw [hQ];simp
   rw [hre];have hk:((P.length+(A'.length+1):Nat):Int)=(Q.length:Int)+1:=by omega
   rw [hk];have w1:IntKind.i64.wrap (Q.length:Int)=(Q.length:Int):=Qac (by omega) (by omega);have w2:(P.length:Int) < (Q.length:Int)+1:=by omega
   by_cases hx0:c < 0
   . have hlt:lt x a=true:=by rw [<- hc1];exact Kbo hx0
     have:=ih A' (a::B) rfl (by simp;omega) hx (fun b hb=>hD b (by simp [hb]));rw [show P++A'++x::(a::B++rest)=Q++x::(a::(B++rest)) by rw [hQ];simp,hQl] at this;refine jL ?_;have Hq:=cj7 e1 hx0 w1 w2 @Qhu @Qhv @Qko;repeat refine go1 ?_
     simp only [Kea,Kcv,Ken,Kaq,Kbk];simp only [Qnd,hlt,if_true];exact this
   . have hlt:lt x a=false:=by rw [<- hc1];exact Kbf hx0
     refine jL ?_;have Hq:=cj7 e1 hx0 w1 w2 @Qhu @Qhv @Qko;repeat refine go1 ?_
     refine ⟨rfl,(Q.length:Int)+1,?_⟩;simp only [Kea,Kcv,Ken,Kaq,Kbk];simp only [Qnd,hlt,Kap,Kbs,Kde];rw [hQ];simp
theorem isoe (F:Lab) (caps:List IV) (lt:(Int×Int)->(Int×Int)->Bool) (D:(Int×Int)->Prop) (M:List Qad) (hc:Qnf vE F caps lt D M) (P Q:List (Int×Int)) (n:Int):∀ (r S:List (Int×Int)),n=(P.length+S.length+r.length:Nat)->P.length+S.length+r.length+Q.length<=900000->(∀ x ∈ S,D x)->(∀ x ∈ r,D x) ->
 wp tb (.loop Jqn) { T:=[(0,O2 (P++(S++(r++Q)))),(1,I P.length),(2,I n),(3,.fn F caps),(8,I (P.length+S.length:Nat))],loc:=[],M:=M }
  (fun ex st=>ex=.exit 0/\∃ k':Int,st={ T:=[(0,O2 (P++(Qem lt S r++Q))),(1,I P.length),(2,I n),(3,.fn F caps),(8,I k'),(14,Bo false)],loc:=[],M:=M }):=by
 intro r
 induction r with
 | nil =>
   intro S hn hl hS hr;have h1:¬ ((P.length:Int)+(S.length:Int)) < n:=by simp at hn;omega
   refine jL ?_;have Hq:=h1;repeat refine go1 ?_
   exact ⟨rfl,_,by simp [Qem];rfl⟩
 | cons x r ih =>
   intro S hn hl hS hr;simp only [Kbc] at hn hl;have h1:(P.length:Int)+(S.length:Int) < n:=by omega
   have w1:IntKind.i64.wrap ((P.length:Int)+(S.length:Int)+1)=(P.length:Int)+(S.length:Int)+1:=by rw [Qac (by omega) (by omega)]
   have hin:=icle F caps lt D M hc P n ((P.length:Int)+S.length) x (r++Q) S.length S [] rfl (by simp;omega) (hr x (by simp)) hS;rw [show P++S++x::([]++(r++Q))=P++(S++(x::r++Q)) by simp,show ((P.length+S.length:Nat):Int)=(P.length:Int)+S.length by omega] at hin;have hn2:=ih (Qnd lt x S.reverse []) (by rw [Qgn];omega) (by rw [Qgn];omega) (fun y hy=>by
    have:=(Qdr lt x S.reverse []).mem_iff.1 hy;simp only [Kde,Kah,Kaf,Kaw,Kcf] at this;rcases this with h | rfl
    . exact hS y h
    . exact hr y (by simp)) (fun y hy=>hr y (by simp [hy]))
   rw [Qgn,show ((P.length+(S.length+1):Nat):Int)=(P.length:Int)+S.length+1 by omega] at hn2;rw [show ((P.length+S.length:Nat):Int)=(P.length:Int)+S.length by omega];refine jL ?_;have Hq:=cj2 h1 w1;repeat refine go1 ?_
   refine Qab hin ?_;rintro ex st ⟨rfl,k',rfl⟩;simp only [if_true];have Hq:=cj2 h1 w1;repeat refine go1 ?_
   exact hn2
theorem Jli (F:Lab) (caps:List IV) (lt:(Int×Int)->(Int×Int)->Bool) (D:(Int×Int)->Prop) (M:List Qad) (hc:Qnf vE F caps lt D M) (P Q seg:List (Int×Int)) (hl:P.length+seg.length+Q.length<=800000) (hD:∀ x ∈ seg,D x) :
 Ev tb Ja9 [0] [O2 (P++(seg++Q)),I P.length,I (P.length+seg.length:Nat),.fn F caps] M ⟨.tup [],[O2 (P++(Qem lt [] seg++Q))],M,[]⟩:=by
 have w1:IntKind.i64.wrap ((P.length:Int)+1)=(P.length:Int)+1:=by rw [Qac (by omega) (by omega)]
 cases seg with
 | nil =>
   have h1:¬ (P.length:Int)+1 < ((P.length+([]:List (Int×Int)).length:Nat):Int):=by simp;omega
   simp only [Kci,Keh] at h1 |-;refine jC zt277 rfl ?_;have Hq:=w1;repeat refine go1 ?_
   refine jL ?_;have Hq:=h1;repeat refine go1 ?_
   simp [Jih,Qem]
 | cons x r =>
   have:=isoe F caps lt D M hc P Q (P.length+(x::r).length:Nat) r [x] (by simp;omega) (by simp at hl |-;omega) (fun y hy=>by simp at hy;subst hy;exact hD _ (by simp)) (fun y hy=>hD y (by simp [hy]));rw [show P++([x]++(r++Q))=P++(x::r++Q) by simp,show ((P.length+[x].length:Nat):Int)=(P.length:Int)+1 by simp] at this;have hs:Qem lt [x] r=Qem lt [] (x::r):=by simp [Qem,Qnd]
   rw [hs] at this;generalize ((P.length+(x::r).length:Nat):Int)=n at *
   refine jC zt277 rfl ?_;have Hq:=w1;repeat refine go1 ?_
   refine Qab this ?_;rintro ex st ⟨rfl,k',rfl⟩;simp [Jih]
end Go.Idl
namespace Go.Idl
open Go
theorem Jdi (F:Lab) (caps:List IV) (lt:Int->Int->Bool) (D:Int->Prop) (M:List Qad) (hc:Qnf vI F caps lt D (M++[[]])) (xs:List Int) (hl:xs.length<=19) (hD:∀ x ∈ xs,D x) :
 Ev tb Jjo [0] [O xs,I xs.length,.fn F caps] M ⟨.tup [],[O (Qem lt [] xs)],M,[]⟩:=by
 have e1:=Qaa (Jlj F caps lt D (M++[[]]) hc [] [] xs (by simp;omega) hD);simp only [Kaq,Kbb,Kci,Nat.zero_add] at e1;rw [show ((0:Nat):Int)=0 from rfl] at e1;have h1:¬ (20:Int)<=xs.length:=by omega
 have h2:¬ (20:Int) < xs.length:=by omega
 have h3:¬ 20<=xs.length:=by omega
 have h4:¬ 20 < xs.length:=by omega
 refine jC zt289 rfl ?_
 repeat refine go0 ?_
 refine jL ?_;have Hq:=cj5 h1 h2 h3 h4 e1;repeat refine go1 ?_
 refine jL ?_;have Hq:=cj5 h1 h2 h3 h4 e1;repeat refine go1 ?_
 simp [Jod]
theorem Qpj (F:Lab) (caps:List IV) (lt:Int->Int->Bool) (D:Int->Prop) (M:List Qad) (hc:Qnf vI F caps lt D (M++[[],[]])) (xs:List Int) (hl:xs.length<=19) (hD:∀ x ∈ xs,D x) :
 Ev tb Jjn [0] [O xs,.fn F caps] M ⟨.tup [],[O (Qem lt [] xs)],M,[]⟩:=by
 have e1:=Qaa (Jdi F caps lt D (M++[[]]) (by rw [Kal];exact hc) xs hl hD);refine jC zt273 rfl ?_;have Hq:=e1;repeat refine go1 ?_
 simp [Job]
def Qbx (n:Nat) (but:Int):List Int:=((List.range n).map fun v:Nat=>(v:Int)).filter fun v=>decide (v ≠ but)
def nlI:List Int->IV
 | []=>Z
 | x::r=>O (x::r)
theorem Qb6 (n:Nat) (but:Int) (hn:n<=1000):Ev tb Qhs [] [I n,I but] [] ⟨nlI (Qbx n but),[],[],[]⟩:=by
 have loop:∀ (m i:Nat),i+m=n->wp tb (.loop Jqe) { T:=[(1,I but),(5,nlI (Qbx i but)),(7,I n),(8,I i)],loc:=[],M:=[] }
  (fun ex st=>ex=.exit 0/\st={ T:=[(1,I but),(5,nlI (Qbx n but)),(7,I n),(8,I n),(9,Bo false)],loc:=[],M:=[] }):=by
  intro m
  induction m with
  | zero =>
    intro i hi;have h3:i=n:=hi;subst h3;cases Qbx i but with
    | nil =>
      simp only [nlI];refine jL ?_
      repeat refine go0 ?_
      exact ⟨rfl,rfl⟩
    | cons x r =>
      simp only [nlI];refine jL ?_
      repeat refine go0 ?_
      exact ⟨rfl,rfl⟩
  | succ m ih =>
    intro i hi;have hi2:i < n:=by omega
    have w2:IntKind.i64.wrap ((i:Int)+1)=((i+1:Nat):Int):=Qas (by omega);have hn2:=ih (i+1) (by omega);have hs:Qbx (i+1) but=Qbx i but++if (i:Int)=but then [] else [(i:Int)]:=by
     simp only [Qbx,Kff,Kct,Kbd,Kdn,List.filter_append,Kec,Kdw];congr 1;by_cases h:(i:Int)=but <;> simp [h]
    rw [hs] at hn2;have hal:(Qbx i but).length<=i:=Kcp (Kei _ _) (by simp);generalize Qbx i but=A at *
    by_cases hb:but=(i:Int)
    . subst hb;rw [if_pos rfl,Kbb] at hn2;cases A with
      | nil =>
        rw [show nlI []=Z from rfl] at hn2 |-;refine jL ?_;have Hq:=cj2 hi2 w2;repeat refine go1 ?_
        exact hn2
      | cons x r =>
        rw [show nlI (x::r)=O (x::r) from rfl] at hn2 |-;refine jL ?_;have Hq:=cj2 hi2 w2;repeat refine go1 ?_
        exact hn2
    . have hb':¬ (i:Int)=but:=fun h=>hb h.symm;rw [if_neg hb'] at hn2;cases A with
      | nil =>
        rw [Kaq,show nlI [(i:Int)]=O [(i:Int)] from rfl] at hn2;rw [show nlI []=Z from rfl];refine jL ?_;have Hq:=cj3 hi2 w2 hb';repeat refine go1 ?_
        exact hn2
      | cons x r =>
        rw [show nlI (x::r++[(i:Int)])=O (x::r++[(i:Int)]) from rfl] at hn2;rw [show nlI (x::r)=O (x::r) from rfl];have hal1:r.length+1+1<=274877906944:=by simp at hal;omega
        have hat:(x::r).take (r.length+1)=x::r:=Kae (by simp);refine jL ?_;have Hq:=cj5 hi2 w2 hb' hal1 hat;repeat refine go1 ?_
        exact hn2
 refine jC zt212 rfl ?_
 repeat refine go0 ?_
 refine Qab (loop n 0 (by simp)) ?_;rintro ex st ⟨rfl,rfl⟩
 try simp only [if_true]
 cases Qbx n but with
 | nil =>
   simp only [nlI]
   repeat refine go0 ?_
   simp [Jh6]
 | cons x r =>
   simp only [nlI]
   repeat refine go0 ?_
   simp [Jh6]
end Go.Idl
namespace Go.Idl
open Go
theorem Jl0 (A:List Int) (x:Int):nlI (A++[x])=O (A++[x]):=by cases A <;> rfl
theorem Jle (xs:List Int):Ev tb Jrd [] [nlI xs] [] ⟨nlI xs,[],[],[]⟩:=by
 cases xs with
 | nil =>
   simp only [nlI];refine jC zt70 rfl ?_
   repeat refine go0 ?_
   simp [zi70]
 | cons s r =>
   simp only [nlI];exact Qph (s::r)
theorem bs_get? (l:List UInt8) (i:Nat) (h:i < l.length):(⟨l.toArray⟩:ByteArray)[i]? = some l[i]:=by
 rw [getElem?_pos (⟨l.toArray⟩:ByteArray) i h];rfl
theorem Qoc (l:List UInt8) (a b:Nat):(⟨l.toArray⟩:ByteArray).extract a b=⟨((l.drop a).take (b - a)).toArray⟩:=by
 ext1;rw [ByteArray.data_extract];simp
def rdb (b:UInt8):Int:=if (b.toNat:Int) - 48 < 0 then 99 else (b.toNat:Int) - 48
theorem Jey (b:UInt8):0<=rdb b/\rdb b<=255:=by
 have:=b.toNat_lt;rw [rdb];split <;> omega
set_option maxHeartbeats 1000000 in
theorem Qe2 (l:List UInt8) (hl:l.length<=2000000):Ev tb Qv1 [] [SB l] [] ⟨nlI (l.map rdb),[],[],[]⟩:=by
 have loop:∀ (m i:Nat),i+m=l.length->wp tb (.loop Jgq) { T:=[(0,SB l),(3,nlI ((l.take i).map rdb)),(7,I l.length),(8,I i)],loc:=[],M:=[] }
  (fun ex st=>ex=.exit 0/\st={ T:=[(0,SB l),(3,nlI (l.map rdb)),(7,I l.length),(8,I l.length),(9,Bo false)],loc:=[],M:=[] }):=by
  intro m
  induction m with
  | zero =>
    intro i hi;have h3:i=l.length:=hi;subst h3;rw [Kdb];cases l.map rdb with
    | nil =>
      rw [show nlI []=Z from rfl];refine jL ?_
      repeat refine go0 ?_
      exact ⟨rfl,rfl⟩
    | cons x r =>
      rw [show nlI (x::r)=O (x::r) from rfl];refine jL ?_
      repeat refine go0 ?_
      exact ⟨rfl,rfl⟩
  | succ m ih =>
    intro i hi;have hi2:i < l.length:=by omega
    have w1:IntKind.i64.wrap ((i:Int)+1)=((i+1:Nat):Int):=Qas (by omega);have hn:=ih (i+1) (by omega);rw [Kau hi2,Kct,Kbd,Kdn,Jl0] at hn;have g1:=bs_get? l i hi2;have hb:=l[i].toNat_lt;have w2:IntKind.i64.wrap (l[i].toNat:Int)=l[i].toNat:=Qac (by omega) (by omega);have w3:IntKind.i64.wrap ((l[i].toNat:Int) - 48)=(l[i].toNat:Int) - 48:=Qac (by omega) (by omega);have hr:rdb l[i]=if (l[i].toNat:Int) - 48 < 0 then 99 else (l[i].toNat:Int) - 48:=rfl
    have hA:((l.take i).map rdb).length=i:=by simp;omega
    have hlm:i+1<=274877906944:=by omega
    generalize hX:(l.take i).map rdb=A at *
    by_cases hneg:(l[i].toNat:Int) - 48 < 0
    . rw [if_pos hneg] at hr;rw [hr] at hn;cases A with
      | nil =>
        rw [show nlI []=Z from rfl];refine jL ?_;have Hq:=cj6 hi2 w1 w2 w3 g1 hneg;repeat refine go1 ?_
        simp at hn;exact hn
      | cons a A =>
        rw [show nlI (a::A)=O (a::A) from rfl];have htA:(a::A).take i=a::A:=Kae (by omega);generalize a::A=A at *
        refine jL ?_;have Hq:=cj9 hi2 w1 w2 w3 g1 hneg hA htA hlm;repeat refine go1 ?_
        simpa using hn
    . rw [if_neg hneg] at hr;rw [hr] at hn;cases A with
      | nil =>
        rw [show nlI []=Z from rfl];refine jL ?_;have Hq:=cj6 hi2 w1 w2 w3 g1 hneg;repeat refine go1 ?_
        simp at hn;exact hn
      | cons a A =>
        rw [show nlI (a::A)=O (a::A) from rfl];have htA:(a::A).take i=a::A:=Kae (by omega);generalize a::A=A at *
        refine jL ?_;have Hq:=cj9 hi2 w1 w2 w3 g1 hneg hA htA hlm;repeat refine go1 ?_
        simpa using hn
 have q:=loop l.length 0 (by omega);rw [Kcz,show ((0:Nat):Int)=0 from rfl,show nlI ([].map rdb)=Z from rfl] at q;have e1:=Qaa (Jle (l.map rdb));have hs:(⟨l.toArray⟩:ByteArray).size=l.length:=rfl;refine jC zt217 rfl ?_;have Hq:=hs;repeat refine go1 ?_
 refine Qab q ?_;rintro ex st ⟨rfl,rfl⟩;simp only [if_true];clear q loop;generalize l.map rdb=D at *
 cases D with
 | nil =>
   rw [show nlI []=Z from rfl] at *
   have Hq:=e1;repeat refine go1 ?_
   simp [Jh8]
 | cons x r =>
   rw [show nlI (x::r)=O (x::r) from rfl] at *
   have Hq:=e1;repeat refine go1 ?_
   simp [Jh8]
end Go.Idl
namespace Go.Idl
open Go
def Qix (c:UInt8):List UInt8->Option (List UInt8×List UInt8)
 | []=>none
 | b::r=>if b=c then some ([],r) else match Qix c r with
   | some (x,y)=>some (b::x,y)
   | none=>none
def Qck (c:UInt8):List UInt8->List (List UInt8)
 | []=>[[]]
 | b::r=>if b=c then []::Qck c r else match Qck c r with
   | p::q=>(b::p)::q
   | []=>[[b]]
theorem Jfk (c:UInt8):∀ l,Qck c l ≠ []
 | []=>by simp [Qck]
 | b::r=>by
   rw [Qck];split
   . simp
   . split <;> simp
theorem Qen {c:UInt8}:∀ {l:List UInt8},Qix c l=none->Go.Lib.indexByte l c=-1/\Qck c l=[l]/\l.count c=0
 | [],_=>⟨rfl,rfl,rfl⟩
 | b::r,h=>by
   rw [Qix] at h;split at h
   . cases h
   rename_i hb;split at h
   . cases h
   rename_i hr;obtain ⟨h1,h2,h3⟩:=Qen hr;refine ⟨?_,?_,?_⟩
   . rw [Go.Lib.indexByte,if_neg (by simpa using hb),h1];rfl
   . rw [Qck,if_neg hb,h2]
   . rw [List.count_cons,h3];simp [hb]
theorem Qcp {c:UInt8}:∀ {l x y:List UInt8},Qix c l=some (x,y)->Go.Lib.indexByte l c=x.length/\Qck c l=x::Qck c y/\l.count c=y.count c+1/\l=x++c::y
 | [],x,y,h=>by cases h
 | b::r,x,y,h=>by
   rw [Qix] at h;split at h
   . rename_i hb;simp only [Kaa,Kab] at h;obtain ⟨rfl,rfl⟩:=h;subst hb;refine ⟨?_,?_,?_,rfl⟩
     . rw [Go.Lib.indexByte,if_pos (by simp)];rfl
     . rw [Qck,if_pos rfl]
     . simp
   . rename_i hb;split at h;rotate_left
     . cases h
     rename_i x' y' hr;simp only [Kaa,Kab] at h;obtain ⟨rfl,rfl⟩:=h;obtain ⟨h1,h2,h3,h4⟩:=Qcp hr;refine ⟨?_,?_,?_,by rw [h4];rfl⟩
     . rw [Go.Lib.indexByte,if_neg (by simpa using hb),h1,if_neg (by simp)];simp only [Kbc,Int.natCast_add,Int.natCast_one]
     . rw [Qck,if_neg hb,h2]
     . rw [List.count_cons,h3];simp [hb]
theorem Qr2 (l:List UInt8) (c:UInt8):Ev tb Qv8 [] [SB l,SB [c]] [] ⟨I (Go.Lib.indexByte l c),[],[],[]⟩:=by
 refine jC zt398 rfl ?_;refine Qox (g:=Qbs) (v:=I (Go.Lib.indexByte l c)) rfl ⟨.inr rfl,?_⟩;simp [Qd6,Jow]
theorem Jdd (l:List UInt8) (c:UInt8):Ev tb Ja4 [] [SB l,SB [c]] [] ⟨I (Go.Lib.indexByte l c),[],[],[]⟩:=by
 refine jC zt231 rfl ?_;refine Qox (g:=Qaq) (v:=I (Go.Lib.indexByte l c)) rfl ⟨.inr rfl,?_⟩;simp [Qd6,Jn5]
theorem Jdg (l:List UInt8) (c:UInt8):Ev tb Jbi [] [SB l,SB [c]] [] ⟨I (l.count c),[],[],[]⟩:=by
 refine jC zt396 rfl ?_;refine Qox (g:=Qbr) (v:=I (l.count c)) rfl ⟨.inr rfl,?_⟩;simp [Qd6,Jov]
def Jbl (l:List UInt8):Option (List UInt8×List UInt8)->IV
 | some (x,y)=>.tup [SB x,SB y,Bo true]
 | none=>.tup [SB l,SB [],Bo false]
theorem Jsg (l:List UInt8) (c:UInt8) (hl:l.length<=4000000):Ev tb Jjf [] [SB l,SB [c]] [] ⟨Jbl l (Qix c l),[],[],[]⟩:=by
 have e1:=Qaa (Jdd l c);cases hc:Qix c l with
 | none =>
   rw [(Qen hc).1] at e1;refine jC zt230 rfl ?_;have Hq:=e1;repeat refine go1 ?_
   simp [Jia,Jbl];rfl
 | some p =>
   obtain ⟨x,y⟩:=p;obtain ⟨h1,-,-,h4⟩:=Qcp hc;rw [h1] at e1;have hlen:l.length=x.length+(y.length+1):=by rw [h4];simp
   have hs:(⟨l.toArray⟩:ByteArray).size=l.length:=rfl;have hs1:(⟨[c].toArray⟩:ByteArray).size=1:=rfl;have w1:IntKind.i64.wrap ((x.length:Int)+1)=((x.length+1:Nat):Int):=Qas (by omega);have c1:=Qoc l 0 x.length;have c2:=Qoc l (x.length+1) l.length;have hx:((l.drop 0).take (x.length - 0))=x:=by rw [h4];simp
   have hy:((l.drop (x.length+1)).take (l.length - (x.length+1)))=y:=by
    rw [hlen,h4];simp;exact Kae (by omega)
   rw [hx] at c1;rw [hy] at c2;have q1:x.length<=l.length:=by omega
   have q2:x.length+1<=l.length:=by omega
   refine jC zt230 rfl ?_;have Hq:=cj8 e1 hs hs1 w1 c1 c2 q1 q2;repeat refine go1 ?_
   simp [Jia,Jbl]
theorem Quo (l:List UInt8) (c:UInt8) (hl:l.length<=4000000):Ev tb Qv7 [] [SB l,SB [c]] [] ⟨Jbl l (Qix c l),[],[],[]⟩:=by
 have e1:=Qaa (Jsg l c hl);cases hc:Qix c l with
 | none =>
   rw [hc] at e1;simp only [Jbl] at e1 |-;refine jC zt397 rfl ?_;have Hq:=e1;repeat refine go1 ?_
   simp [Jir]
 | some p =>
   obtain ⟨x,y⟩:=p;rw [hc] at e1;simp only [Jbl] at e1 |-;refine jC zt397 rfl ?_;have Hq:=e1;repeat refine go1 ?_
   simp [Jir]
end Go.Idl
namespace Go.Idl
open Go
theorem Jne (n:Nat):List.replicate n [IV.sc (.string ByteArray.empty)]=Qel (List.replicate n ByteArray.empty):=by simp [Qel]
theorem Qyd (l:List ByteArray) (i:Nat) (s:ByteArray):(Qel l).set i [IV.sc (.string s)]=Qel (l.set i s):=by simp [Qel,Ker]
theorem Jfg {α:Type} (D:List α) (e s:α) (k:Nat):(D++List.replicate (k+1) e).set D.length s=(D++[s])++List.replicate k e:=by
 rw [Kcl _ _ (Kam _),Nat.sub_self,List.replicate_succ,List.set_cons_zero,Kal];rfl
abbrev BSm (l:List (List UInt8)):List ByteArray:=l.map fun x=>⟨x.toArray⟩
set_option maxHeartbeats 1000000 in
theorem Jsn (c:UInt8) (N:Nat) (hN:N<=3000000):∀ (k:Nat) (l:List UInt8) (D:List (List UInt8)),l.count c=k->l.length<=3000000->D.length+k=N ->
 wp tb (.loop Jhs) { T:=[(0,SB l),(1,SB [c]),(2,I 0),(3,I N),(9,.own 1 (Qel (BSm D++List.replicate (k+1) ByteArray.empty))),(10,I D.length)],loc:=[],M:=[] }
  (fun ex st=>ex=.exit 0/\∃ (D':List (List UInt8)) (r:List UInt8),D'++[r]=D++Qck c l/\D'.length=N /\
    st={ T:=[(0,SB r),(1,SB [c]),(2,I 0),(3,I N),(9,.own 1 (Qel (BSm D'++[ByteArray.empty]))),(10,I N),(36,Bo false)],loc:=[],M:=[] }):=by
 intro k
 induction k with
 | zero =>
   intro l D hk hl hD;have hDN:D.length=N:=by omega
   have h1:Qck c l=[l]:=by
    cases hc:Qix c l with
    | none=>exact (Qen hc).2.1
    | some p=>obtain ⟨x,y⟩:=p;have:=(Qcp hc).2.2.1;omega
   rw [hDN];refine jL ?_
   repeat refine go0 ?_
   exact ⟨rfl,D,l,by rw [h1],hDN,rfl⟩
 | succ k ih =>
   intro l D hk hl hD;cases hc:Qix c l with
   | none=>have:=(Qen hc).2.2;omega
   | some p =>
   obtain ⟨x,y⟩:=p;obtain ⟨h1,h2,h3,h4⟩:=Qcp hc;have hlen:l.length=x.length+(y.length+1):=by rw [h4];simp
   have hn:=ih y (D++[x]) (by omega) (by omega) (by simp;omega);have e1:=Qaa (Qr2 l c);rw [h1] at e1;have hs:(⟨l.toArray⟩:ByteArray).size=l.length:=rfl;have hs1:(⟨[c].toArray⟩:ByteArray).size=1:=rfl;have w0:IntKind.i64.wrap (x.length:Int)=(x.length:Int):=Qac (by omega) (by omega);have w1:IntKind.i64.wrap ((x.length:Int)+1)=((x.length+1:Nat):Int):=Qas (by omega);have w2:IntKind.i64.wrap ((D.length:Int)+1)=((D.length+1:Nat):Int):=Qas (by omega);have c1:=Qoc l 0 x.length;have c2:=Qoc l (x.length+1) l.length;have hx:((l.drop 0).take (x.length - 0))=x:=by rw [h4];simp
   have hy:((l.drop (x.length+1)).take (l.length - (x.length+1)))=y:=by
    rw [hlen,h4];simp;exact Kae (by omega)
   rw [hx] at c1;rw [hy] at c2;have q1:x.length<=l.length:=by omega
   have q2:x.length+1<=l.length:=by omega
   have q3:D.length < N:=by omega
   have hA:(BSm D++List.replicate (k+1+1) ByteArray.empty).length=D.length+(k+1+1):=by simp
   have q4:D.length < D.length+(k+1+1):=by omega
   have hset:(BSm D++List.replicate (k+1+1) ByteArray.empty).set D.length ⟨x.toArray⟩=BSm (D++[x])++List.replicate (k+1) ByteArray.empty:=by
    have:=Jfg (BSm D) ByteArray.empty ⟨x.toArray⟩ (k+1);rw [Kcu] at this;rw [this,BSm,BSm,Kct];rfl
   have hset2:=Qyd (BSm D++List.replicate (k+1+1) ByteArray.empty) D.length ⟨x.toArray⟩;rw [hset] at hset2;have hDl:(D++[x]).length=D.length+1:=by simp
   rw [hDl] at hn;generalize BSm (D++[x])++List.replicate (k+1) ByteArray.empty=B at *
   generalize BSm D++List.replicate (k+1+1) ByteArray.empty=A at *
   have q4':D.length < A.length:=by omega
   refine jL ?_;have Hq:=Jrz e1 hs hs1 w0 w1 w2 c1 c2 q1 q2 q3 q4' hset2;repeat refine go1 ?_
   refine Qab hn ?_;rintro ex st ⟨rfl,D',r,g1,g2,rfl⟩;exact ⟨rfl,D',r,by rw [g1,h2,Kal];rfl,g2,rfl⟩
theorem Qul (l:List UInt8) (c:UInt8) (hl:l.length<=2000000):Ev tb Jj7 [] [SB l,SB [c],I 0,I (-1)] [] ⟨.own 1 (Qel (BSm (Qck c l))),[],[],[]⟩:=by
 have e1:=Qaa (Jdg l c);have hcl:l.count c<=l.length:=List.count_le_length;have so:=Jfi ⟨[c].toArray⟩ ByteArray.empty;have hne:¬ (⟨[c].toArray⟩:ByteArray)=ByteArray.empty:=fun h=>by
  have:=congrArg ByteArray.size h;cases this
 rw [Kbf hne] at so;have w1:IntKind.i64.wrap ((l.count c:Int)+1)=((l.count c+1:Nat):Int):=Qas (by omega);have w2:IntKind.i64.wrap ((l.length:Int)+1)=((l.length+1:Nat):Int):=Qas (by omega);have hs:(⟨l.toArray⟩:ByteArray).size=l.length:=rfl;have hmin:min ((l.count c:Int)+1) ((l.length:Int)+1)=(l.count c:Int)+1:=by omega
 have q:=Jsn c (l.count c) (by omega) (l.count c) l [] rfl (by omega) (by simp);rw [show BSm []++List.replicate (l.count c+1) ByteArray.empty=List.replicate (l.count c+1) ByteArray.empty from rfl,show (([]:List (List UInt8)).length:Int)=0 from rfl] at q;have hlm:l.count c+1<=274877906944:=by omega
 have w3:IntKind.i64.wrap (l.count c:Int)=l.count c:=Qac (by omega) (by omega);refine jC zt402 rfl ?_;have hcl2:¬ l.length < l.count c:=by omega
 have Hq:=Qri e1 so hs w1 w2 w3 hmin hlm @Jne hcl2;repeat refine go1 ?_
 refine Qab q ?_;rintro ex st ⟨rfl,D',r,g1,g2,rfl⟩;simp only [if_true];rw [Kaq] at g1;have hset:(BSm D'++[ByteArray.empty]).set (l.count c) ⟨r.toArray⟩=BSm (Qck c l):=by
  have:=Jfg (BSm D') ByteArray.empty ⟨r.toArray⟩ 0;rw [Kcu,g2] at this;rw [<- g1,BSm,BSm,Kct];simpa using this
 have hset2:=Qyd (BSm D'++[ByteArray.empty]) (l.count c) ⟨r.toArray⟩;rw [hset] at hset2;have hAl:(BSm D'++[ByteArray.empty]).length=l.count c+1:=by simp [g2]
 have hBl:(BSm (Qck c l)).length=l.count c+1:=by rw [<- hset,List.length_set,hAl]
 have htk:(Qel (BSm (Qck c l))).take (l.count c+1)=Qel (BSm (Qck c l)):=Kae (by rw [Jnd,hBl];exact Kam _);generalize BSm (Qck c l)=B at *
 generalize BSm D'++[ByteArray.empty]=A at *
 have q4:l.count c < A.length:=by omega
 have Hq:=cj6 w1 hAl hBl hset2 htk q4;repeat refine go1 ?_
 simp [Joy,htk,hBl]
theorem Jlg (l:List UInt8) (c:UInt8) (hl:l.length<=2000000):Ev tb Jj6 [] [SB l,SB [c]] [] ⟨.own 1 (Qel (BSm (Qck c l))),[],[],[]⟩:=by
 have e1:=Qaa (Qul l c hl);generalize BSm (Qck c l)=B at *
 refine jC zt400 rfl ?_;have Hq:=e1;repeat refine go1 ?_
 simp [Jox]
end Go.Idl
namespace Go.Idl
open Go
def etx (es:List (Int×Int)):List UInt8:=Qhi [44] (es.map fun e=>[dgt e.1,dgt e.2])
def gtx (n:Int) (es:List (Int×Int)):List UInt8:=[dgt n]++[58]++etx es
theorem Jld (es:List (Int×Int)) (e:Int×Int):etx (es++[e])=(if es=[] then [] else etx es++[44])++[dgt e.1]++[dgt e.2]:=by
 cases es with
 | nil=>rfl
 | cons x r =>
   rw [if_neg (by simp)];simp [etx,Qhi]
theorem Qpg:∀ es:List (Int×Int),(etx es).length<=3 * es.length
 | []=>by simp [etx,Qhi]
 | x::r=>by
   have h:∀ r:List (Int×Int),(((r.map fun e=>[dgt e.1,dgt e.2]).map (fun y=>[44]++y)).flatten:List UInt8).length=3 * r.length:=by
    intro r
    induction r with
    | nil=>rfl
    | cons y r ih=>simp only [Kbd,Kca,Kbu,Kbc,Kci,ih];omega
   have h1:=h r;rw [etx,Kbd,Qhi,Kbu,h1];simp only [Kbc,Kci];omega
def Jo9 (es:List (Int×Int)):Prop:=∀ e ∈ es,0<=e.1/\e.1 < 10/\0<=e.2/\e.2 < 10
set_option maxHeartbeats 1000000 in
theorem Jso (n:Nat) (es:List (Int×Int)) (c:Bool) (hl:es.length<=1000) (hd:Jo9 es):∀ (m i:Nat),i+m=es.length ->
 wp tb (.loop Jq1) { T:=[(1,.bptr 0 0 0),(3,SB (gtx n (es.take i))),(4,I i)],loc:=[[I n,L2 es c]],M:=[] }
  (fun ex st=>ex=.exit 0/\st={ T:=[(1,.bptr 0 0 0),(3,SB (gtx n es)),(4,I es.length),(13,Bo false)],loc:=[[I n,L2 es c]],M:=[] }):=by
 intro m
 induction m with
 | zero =>
   intro i hi;have h3:i=es.length:=hi;subst h3;rw [Kdb];refine jL ?_
   repeat refine go0 ?_
   exact ⟨rfl,rfl⟩
 | succ m ih =>
   intro i hi;have hi2:i < es.length:=by omega
   have w1:IntKind.i64.wrap ((i:Int)+1)=((i+1:Nat):Int):=Qas (by omega);have hn:=ih (i+1) (by omega);obtain ⟨b1,b2,b3,b4⟩:=hd _ (Kao hi2);obtain ⟨x,hx⟩:∃ x:Nat,es[i].1=(x:Int):=⟨es[i].1.toNat,by omega⟩;obtain ⟨y,hy⟩:∃ y:Nat,es[i].2=(y:Int):=⟨es[i].2.toNat,by omega⟩;have e1:=Qaa (Qku x (by omega));have e2:=Qaa (Qku y (by omega));have hcl:=Qpg (es.take i);rw [Kas] at hcl;have hsn:=Jld (es.take i) es[i];rw [Kau hi2] at hn;have hgl:(gtx n (es.take i)).length<=10000:=by simp only [gtx,Kbu,Kbc,Kci];omega
   by_cases h0:i=0
   . subst h0;rw [Kcz] at *
     have hg:gtx n ([]++[es[0]])=gtx n []++[dgt es[0].1]++[dgt es[0].2]:=by simp [gtx,etx,Qhi]
     rw [hg,hx,hy] at hn;have a1:=Qeu (a:=gtx n []) (b:=[dgt x]) (by simp only [Kbc,Kci];omega);have a2:=Qeu (a:=gtx n []++[dgt x]) (b:=[dgt y]) (by simp only [Kbu,Kbc,Kci];omega);refine jL ?_;have Hq:=cj4 hi2 w1 hx hy;repeat refine go1 ?_
     refine Qhr (by simp [hi2,w1,hx,hy,e1,e2,a1,a2];with_reducible rfl) (by simp;with_reducible rfl) ?_ ?_
     . intro p hp;simp only [Kaf,Kaw,Kcf] at hp;rcases hp with rfl | rfl
       . exact ⟨_,by simp [hi2,w1,hx,hy,e1,e2,a1,a2];with_reducible rfl,by simp⟩
       . exact ⟨_,by simp [hi2,w1,hx,hy,e1,e2,a1,a2];with_reducible rfl,by simp⟩
     have w1:IntKind.i64.wrap 1=1:=by decide
     have Hq:=w1;repeat refine go1 ?_
     exact hn
   . have hne:es.take i ≠ []:=fun h=>by
      have:=congrArg List.length h;rw [Kas,Kci] at this;omega
     have h0':0 < i:=by omega
     rw [if_neg hne] at hsn;have hg:gtx n (es.take i++[es[i]])=gtx n (es.take i)++[44]++[dgt es[i].1]++[dgt es[i].2]:=by simp only [gtx,hsn,Kal]
     rw [hg,hx,hy] at hn;generalize gtx n (es.take i)=S at *
     have a0:=Qeu (a:=S) (b:=[44]) (by simp only [Kbc,Kci];omega);have a1:=Qeu (a:=S++[44]) (b:=[dgt x]) (by simp only [Kbu,Kbc,Kci];omega);have a2:=Qeu (a:=S++[44]++[dgt x]) (b:=[dgt y]) (by simp only [Kbu,Kbc,Kci];omega);generalize S++[44]=S0 at *
     generalize S0++[dgt x]=S1 at *
     generalize S1++[dgt y]=S2 at *
     refine jL ?_;have Hq:=cj6 hi2 w1 hx hy h0' a0;repeat refine go1 ?_
     refine Qhr (by simp [hi2,w1,hx,hy,e1,e2,a1,a2];with_reducible rfl) (by simp;with_reducible rfl) ?_ ?_
     . intro p hp;simp only [Kaf,Kaw,Kcf] at hp;rcases hp with rfl | rfl
       . exact ⟨_,by simp [hi2,w1,hx,hy,e1,e2,a1,a2];with_reducible rfl,by simp⟩
       . exact ⟨_,by simp [hi2,w1,hx,hy,e1,e2,a1,a2];with_reducible rfl,by simp⟩
     have Hq:=w1;repeat refine go1 ?_
     exact hn
theorem Qfw (n:Nat) (es:List (Int×Int)) (c:Bool) (hn:n<=9) (hl:es.length<=1000) (hd:Jo9 es):Ev tb Qv5 [] [Gr n es c] [] ⟨SB (gtx n es),[],[],[]⟩:=by
 have e1:=Qaa (Qku n hn);have a1:=Qeu (a:=[dgt n]) (b:=[58]) (by simp);have q:=Jso n es c hl hd es.length 0 (by omega);rw [Kcz,show ((0:Nat):Int)=0 from rfl,show gtx (n:Int) []=[dgt n]++[58] from rfl] at q;generalize [dgt (n:Int)]++[58]=S at *
 refine jC zt352 rfl ?_;have Hq:=cj2 e1 a1;repeat refine go1 ?_
 refine Qab q ?_;rintro ex st ⟨rfl,rfl⟩;simp only [if_true]
 repeat refine go0 ?_
 simp [Jon]
theorem Qlo {n:Nat} {es:List (Int×Int)} (hn:n<=7) (h:Qak n es=true):Jo9 es:=fun e he=>by
 have:=Qqx h e he;omega
theorem Qn4 {n:Int} {es:List (Int×Int)} (h:Qak n es=true):∃ m:Nat,n=(m:Int)/\m<=7:=by
 simp only [Qak,Kac,Kai] at h;exact ⟨n.toNat,by omega,by omega⟩
theorem Qev {n:Nat} {es:List (Int×Int)} (h:Qak n es=true):es.length<=49:=by
 obtain ⟨m,hm,h7⟩:=Qn4 h;have:n<=7:=by omega
 exact Jtb this (by rw [Qm5 h];exact List.filter_sublist)
end Go.Idl
namespace Go.Idl
open Go
def nlS:List ByteArray->IV
 | []=>Z
 | x::r=>.own 1 (Qel (x::r))
theorem Jsv (A:List ByteArray) (x:ByteArray):nlS (A++[x])=.own 1 (Qel (A++[x])):=by cases A <;> rfl
theorem Jnc (A:List ByteArray) (x:ByteArray):Qel (A++[x])=Qel A++[[Str x]]:=by simp [Qel]
def prt (es:List (Int×Int)):List ByteArray:=es.map fun e=>⟨[dgt e.1,dgt e.2].toArray⟩
set_option maxHeartbeats 1000000 in
theorem Jlt (n:Int) (es:List (Int×Int)) (c:Bool) (hl:es.length<=1000) (hd:Jo9 es):∀ (m i:Nat) (bs:Qad),i+m=es.length ->
 wp tb (.loop Jqc) { T:=[(1,.bptr 0 0 0),(3,nlS (prt (es.take i))),(10,L2 es c),(11,I es.length),(12,I i)],loc:=[I n,L2 es c]::bs,M:=[] }
  (fun ex st=>ex=.exit 0/\∃ bs',st={ T:=[(1,.bptr 0 0 0),(3,nlS (prt es)),(10,L2 es c),(11,I es.length),(12,I es.length),(13,Bo false)],loc:=[I n,L2 es c]::bs',M:=[] }):=by
 intro m
 induction m with
 | zero =>
   intro i bs hi;have h3:i=es.length:=hi;subst h3;rw [Kdb];cases prt es with
   | nil =>
     rw [show nlS []=Z from rfl];refine jL ?_
     repeat refine go0 ?_
     exact ⟨rfl,_,rfl⟩
   | cons x r =>
     rw [show nlS (x::r)=.own 1 (Qel (x::r)) from rfl];refine jL ?_
     repeat refine go0 ?_
     exact ⟨rfl,_,rfl⟩
 | succ m ih =>
   intro i bs hi;have hi2:i < es.length:=by omega
   have w1:IntKind.i64.wrap ((i:Int)+1)=((i+1:Nat):Int):=Qas (by omega);have hn:=ih (i+1) (bs++[[I es[i].1,I es[i].2]]) (by omega);obtain ⟨b1,b2,b3,b4⟩:=hd _ (Kao hi2);have e1:=fun c=>Qaa (Qh8 [es[i].1,es[i].2] c (by simp) (by simp;omega));rw [show ([es[i].1,es[i].2].map dgt)=[dgt es[i].1,dgt es[i].2] from rfl] at e1;rw [Kau hi2,prt,Kct,<- prt,Kbd,Kdn,Jsv] at hn;have hA:(prt (es.take i)).length=i:=by simp [prt];omega
   have hlm:i+1<=274877906944:=by omega
   generalize prt (es.take i)=A at *
   cases A with
   | nil =>
     rw [show nlS []=Z from rfl];refine jL ?_;have Hq:=cj3 hi2 w1 e1;repeat refine go1 ?_
     exact hn
   | cons a A =>
     rw [show nlS (a::A)=.own 1 (Qel (a::A)) from rfl];have htA:(a::A).take i=a::A:=Kae (by omega);generalize a::A=A at *
     have htS:(Qel A).take i=Qel A:=Kae (by simp;omega);refine jL ?_;have Hq:=cj7 hi2 w1 e1 hA htA htS hlm;repeat refine go1 ?_
     rw [Jnc] at hn;exact hn
theorem Jtc (es:List (Int×Int)):prt es=(es.map fun e=>[dgt e.1,dgt e.2]).map fun x=>(⟨x.toArray⟩:ByteArray):=by
 rw [prt,List.map_map];rfl
theorem Qcs (n:Int) (es:List (Int×Int)) (c:Bool) (hf:Fit es) (hl:es.length<=2000000):Ev tb Qtp [] [Gr n es c] [] ⟨SB (if Qak n es then gtx n es else []),[],[],[]⟩:=by
 have v1:=Qaa (Qdb n es c hf (by omega));cases hv:Qak n es with
 | false =>
   rw [hv] at v1;rw [if_neg (by simp)];refine jC zt166 rfl ?_;have Hq:=v1;repeat refine go1 ?_
   simp [Qvn];rfl
 | true =>
   rw [hv] at v1;rw [if_pos rfl];obtain ⟨m,rfl,h7⟩:=Qn4 hv;have hel:=Qev hv;have hd:=Qlo h7 hv;have e1:Qbq tb Qnb [] [.lst 1 [[I (m:Int)]] false] []=some ⟨SB [dgt m],[],[],[]⟩:=Qaa (Qh8 [(m:Int)] false (by simp) (by simp;omega));have q:=Jlt m es c (by omega) hd es.length 0 [] (by omega);rw [Kcz,show ((0:Nat):Int)=0 from rfl,show nlS (prt [])=Z from rfl] at q;have a1:=Qeu (a:=[dgt m]) (b:=[58]) (by simp);have a2:=Qeu (a:=[dgt m]++[58]) (b:=etx es) (by have:=Qpg es;simp;omega);have hg:gtx (m:Int) es=[dgt m]++[58]++etx es:=rfl;rw [<- hg] at a2;generalize [dgt (m:Int)]++[58]=H at a1 a2;refine jC zt166 rfl ?_;have Hq:=v1;repeat refine go1 ?_
   refine Qab q ?_;rintro ex st ⟨rfl,bs',rfl⟩;simp only [if_true];cases hes:es with
   | nil =>
     subst hes;rw [show nlS (prt [])=Z from rfl];have e2:=Qaa (Qrv [44]);rw [show etx []=[] from rfl] at a2;generalize gtx (m:Int) []=S at *
     have Hq:=cj4 e1 e2 a1 a2;repeat refine go1 ?_
     simp [Qvn]
   | cons x r =>
     rw [<- hes];have e2:=Qaa (Jsb (es.map fun e=>[dgt e.1,dgt e.2]) [44] false (by simp;omega) (by have:=Qpg es;rw [etx] at this;omega));rw [<- Jtc,<- etx] at e2;have hp:nlS (prt es)=.own 1 (Qel (prt es)):=by rw [hes];rfl
     rw [hp];have hpl:(prt es).length=es.length:=by simp [prt]
     have htk:(Qel (prt es)).take es.length=Qel (prt es):=Kae (by simp [hpl]);generalize prt es=A at *
     generalize etx es=X at *
     generalize gtx (m:Int) es=S at *
     have Hq:=cj6 e1 e2 a1 a2 hpl htk;repeat refine go1 ?_
     simp [Qvn]
end Go.Idl
namespace Go.Idl
open Go
def edg (p:List UInt8):List (Int×Int):=match p with
 | [a,b]=>[(rdb a,rdb b)]
 | _=>[]
def Qpe (P:List (List UInt8)):List (Int×Int):=P.flatMap edg
theorem Jr8 {p:List UInt8} (h:p.length=2):∃ a b,p=[a,b]:=by
 match p,h with
 | [a,b],_=>exact ⟨a,b,rfl⟩
theorem edg_no {p:List UInt8} (h:p.length ≠ 2):edg p=[]:=by
 match p with
 | []=>rfl
 | [_]=>rfl
 | [_,_]=>exact absurd rfl h
 | _::_::_::_=>rfl
theorem Qpf:∀ P:List (List UInt8),(Qpe P).length<=P.length
 | []=>by simp [Qpe]
 | p::P=>by
   have h1:=Qpf P;have h2:(edg p).length<=1:=by
    match p with
    | []=>simp [edg]
    | [_]=>simp [edg]
    | [_,_]=>simp [edg]
    | _::_::_::_=>simp [edg]
   rw [Qpe,Kcw,Kbu,<- Qpe,Kbc];omega
set_option maxHeartbeats 2000000 in
theorem Js9 (l:List UInt8) (n0:Int) (P:List (List UInt8)) (hP:P.length<=3000000) (hb:∀ p ∈ P,p.length<=2000000):∀ (m i:Nat),i+m=P.length ->
 wp tb (.loop Jgn) { T:=[(0,SB l),(2,.bptr 0 0 0),(7,.bptr 0 1 0),(31,.own 1 (Qel (BSm P))),(32,I P.length),(33,I i)],loc:=[[I 0,Z],[I n0,nl2 (Qpe (P.take i))]],M:=[] }
  (fun ex st=>ex=.exit 0/\st={ T:=[(0,SB l),(2,.bptr 0 0 0),(7,.bptr 0 1 0),(31,.own 1 (Qel (BSm P))),(32,I P.length),(33,I P.length),(34,Bo false)],loc:=[[I 0,Z],[I n0,nl2 (Qpe P)]],M:=[] }):=by
 intro m
 induction m with
 | zero =>
   intro i hi;have h3:i=P.length:=hi;subst h3;rw [Kdb];cases Qpe P with
   | nil =>
     rw [show nl2 []=Z from rfl];refine jL ?_
     repeat refine go0 ?_
     exact ⟨rfl,rfl⟩
   | cons x r =>
     rw [show nl2 (x::r)=O2 (x::r) from rfl];refine jL ?_
     repeat refine go0 ?_
     exact ⟨rfl,rfl⟩
 | succ m ih =>
   intro i hi;have hi2:i < P.length:=by omega
   have w1:IntKind.i64.wrap ((i:Int)+1)=((i+1:Nat):Int):=Qas (by omega);have hn:=ih (i+1) (by omega);have e1:=Qaa (Qe2 P[i] (hb _ (Kao hi2)));have hBl:(BSm P).length=P.length:=by simp
   have hg:(BSm P)[i]'(by rw [hBl];exact hi2)=⟨P[i].toArray⟩:=by simp
   have hg?:(BSm P)[i]? = some ⟨P[i].toArray⟩:=by simp [hi2]
   have hAl:=Qpf (P.take i);rw [Kas] at hAl;have hst:Qpe (P.take i++[P[i]])=Qpe (P.take i)++edg P[i]:=by simp only [Qpe,List.flatMap_append,Kcw,List.flatMap_nil,Kbb]
   rw [Kau hi2,hst] at hn;generalize hAA:Qpe (P.take i)=A at *
   by_cases h2:P[i].length=2
   . obtain ⟨a,b,hab⟩:=Jr8 h2;rw [hab] at hn e1 hg hg?;rw [show edg [a,b]=[(rdb a,rdb b)] from rfl,Qp8] at hn;rw [show nlI ([a,b].map rdb)=O [rdb a,rdb b] from rfl] at e1;generalize BSm P=B at *
     cases A with
     | nil =>
       rw [show nl2 []=Z from rfl];refine jL ?_;have Hq:=cj6 hi2 w1 e1 hBl hg (hg?);repeat refine go1 ?_
       refine Qhr (by simp;with_reducible rfl) (by simp;with_reducible rfl) ?_ ?_
       . intro p hp;simp only [Kaf,Kaw,Kcf] at hp;rcases hp with rfl | rfl
         . exact ⟨_,by simp [];with_reducible rfl,by simp⟩
         . exact ⟨_,by simp [];with_reducible rfl,by simp⟩
       have Hq:=w1;repeat refine go1 ?_
       exact hn
     | cons x r =>
       rw [show nl2 (x::r)=O2 (x::r) from rfl];have hlm:(x::r).length+1<=274877906944:=by omega
       have htA:(x::r).take (x::r).length=x::r:=Kae (by omega);generalize x::r=A at *
       refine jL ?_;have Hq:=cj6 hi2 w1 e1 hBl hg (hg?);repeat refine go1 ?_
       refine Qhr (by simp [hlm,htA];with_reducible rfl) (by simp;with_reducible rfl) ?_ ?_
       . intro p hp;simp only [Kaf,Kaw,Kcf] at hp;rcases hp with rfl | rfl
         . exact ⟨_,by simp [hlm,htA];with_reducible rfl,by simp⟩
         . exact ⟨_,by simp [hlm,htA];with_reducible rfl,by simp⟩
       have Hq:=w1;repeat refine go1 ?_
       exact hn
   . rw [edg_no h2,Kbb] at hn;have hl2:(P[i].map rdb).length ≠ 2:=by rw [Kcu];exact h2
     generalize P[i].map rdb=D at *
     have q1:¬ (D.length:Int)=2:=by omega
     generalize BSm P=B at *
     cases D with
     | nil =>
       rw [show nlI []=Z from rfl] at e1;cases A with
       | nil =>
         rw [show nl2 []=Z from rfl] at hn |-;refine jL ?_;have Hq:=cj6 hi2 w1 e1 hBl hg (hg?);repeat refine go1 ?_
         exact hn
       | cons x r =>
         rw [show nl2 (x::r)=O2 (x::r) from rfl] at hn |-;refine jL ?_;have Hq:=cj6 hi2 w1 e1 hBl hg (hg?);repeat refine go1 ?_
         exact hn
     | cons d D =>
       rw [show nlI (d::D)=O (d::D) from rfl] at e1;have q2:¬ (d::D).length=2:=hl2;generalize d::D=D at *
       cases A with
       | nil =>
         rw [show nl2 []=Z from rfl] at hn |-;refine jL ?_;have Hq:=cj8 hi2 w1 e1 hBl hg (hg?) q1 q2;repeat refine go1 ?_
         exact hn
       | cons x r =>
         rw [show nl2 (x::r)=O2 (x::r) from rfl] at hn |-;refine jL ?_;have Hq:=cj8 hi2 w1 e1 hBl hg (hg?) q1 q2;repeat refine go1 ?_
         exact hn
def Qrg (l:List UInt8):Option (Int×List (Int×Int)):=match Qix 58 l with
 | some ([h],y)=>some (rdb h,Qpe (Qck 44 y))
 | _=>none
def Qc7 (l:List UInt8):Option (Int×List (Int×Int)):=match Qrg l with
 | some (n,es)=>if Qak n es=true/\gtx n es=l then some (n,es) else none
 | none=>none
def Jkk:Option (Int×List (Int×Int))->IV
 | some (n,es)=>.tup [.agg [I n,O2 es],Bo true]
 | none=>.tup [.agg [I 0,Z],Bo false]
theorem Qk8 (c:UInt8):∀ (l p:List UInt8),p ∈ Qck c l->p.length<=l.length
 | [],p,h=>by simp [Qck] at h;subst h;simp
 | b::r,p,h=>by
   rw [Qck] at h;split at h
   . rcases Kaf.1 h with rfl | h
     . simp
     . have:=Qk8 c r p h;simp only [Kbc];omega
   . split at h
     . rename_i q Q hq;rcases Kaf.1 h with rfl | h
       . have:=Qk8 c r q (by rw [hq];simp);simp only [Kbc];omega
       . have:=Qk8 c r p (by rw [hq];simp [h]);simp only [Kbc];omega
     . rename_i hq;exact absurd hq (Jfk c r)
theorem Qyb (c:UInt8):∀ l:List UInt8,(Qck c l).length<=l.length+1
 | []=>by simp [Qck]
 | b::r=>by
   have h:=Qyb c r;rw [Qck];split
   . simp only [Kbc];omega
   . split
     . rename_i q Q hq;rw [hq] at h;simp only [Kbc] at h |-;omega
     . simp
theorem Jlb (P:List (List UInt8)):Fit (Qpe P):=by
 intro e he;obtain ⟨p,-,he⟩:=List.mem_flatMap.1 he
 match p,he with
 | [a,b],he =>
   simp only [edg,Kce] at he;subst he;have:=Jey a;have:=Jey b;simp only;omega
 | [],he=>cases he
 | [_],he=>cases he
 | _::_::_::_,he=>cases he
theorem Qi6 (l:List UInt8) (hl:l.length<=2000000) (h:Qrg l=none):Ev tb Qtq [] [SB l] [] ⟨Jkk none,[],[],[]⟩:=by
 have e1:=Qaa (Quo l 58 (by omega));simp only [Jkk];cases hc:Qix 58 l with
 | none =>
   rw [hc] at e1;simp only [Jbl] at e1;refine jC Jkd rfl ?_;have Hq:=e1;repeat refine go1 ?_
   simp [Qm8]
 | some p =>
   obtain ⟨x,y⟩:=p;rw [hc] at e1;simp only [Jbl] at e1;have hx:x.length ≠ 1:=fun h1=>by
    obtain ⟨a,rfl⟩:=List.length_eq_one_iff.1 h1;rw [Qrg,hc] at h;cases h
   have hx':¬ (x.length:Int)=1:=by omega
   have hs:(⟨x.toArray⟩:ByteArray).size=x.length:=rfl;refine jC Jkd rfl ?_;have Hq:=cj4 e1 hs hx hx';repeat refine go1 ?_
   simp [Qm8]
set_option maxHeartbeats 2000000 in
theorem Qh7 (l:List UInt8) (hl:l.length<=1500000) (n:Int) (es:List (Int×Int)) (h:Qrg l=some (n,es)):Ev tb Qtq [] [SB l] [] ⟨Jkk (Qc7 l),[],[],[]⟩:=by
 have e1:=Qaa (Quo l 58 (by omega));rw [Qc7,h];rw [Qrg] at h;cases hc:Qix 58 l with
 | none=>rw [hc] at h;cases h
 | some p =>
 obtain ⟨x,y⟩:=p;rw [hc] at h e1
 match x,h with
 | [hh],h =>
 simp only [Kaa,Kab] at h;obtain ⟨rfl,rfl⟩:=h;simp only [Jbl] at e1;have hyl:y.length<=l.length:=by have:=(Qcp hc).2.2.2;rw [this];simp;omega
 have e2:=Qaa (Qe2 [hh] (by simp));rw [show nlI ([hh].map rdb)=O [rdb hh] from rfl] at e2;have e3:=Qaa (Jlg y 44 (by omega));have hPl:=Qyb 44 y;have q:=Js9 l (rdb hh) (Qck 44 y) (by omega) (fun p hp=>by have:=Qk8 44 y p hp;omega) (Qck 44 y).length 0 (by omega);rw [Kcz,show ((0:Nat):Int)=0 from rfl,show nl2 (Qpe [])=Z from rfl] at q;have hEl:=Qpf (Qck 44 y);have hF:=Jlb (Qck 44 y);have hBl:(BSm (Qck 44 y)).length=(Qck 44 y).length:=by simp
 have hs:(⟨[hh].toArray⟩:ByteArray).size=1:=rfl;generalize Qpe (Qck 44 y)=es at *
 have v1:=Qaa (Qdb (rdb hh) es false hF (by omega));have g1:=Qaa (Qcs (rdb hh) es false hF (by omega));generalize BSm (Qck 44 y)=B at *
 have so:=Jfj ⟨(gtx (rdb hh) es).toArray⟩ ⟨l.toArray⟩;have hdec:decide ((⟨(gtx (rdb hh) es).toArray⟩:ByteArray)=⟨l.toArray⟩)=decide (gtx (rdb hh) es=l):=by
  rw [Kfa];constructor
  . intro h;have:=congrArg (fun b:ByteArray=>b.data.toList) h;simpa using this
  . intro h;rw [h]
 rw [hdec] at so;have c2:∀ e0 c,(e0=2 \/ es=[])->Qbq tb Qvx [] [.lst e0 (eds es) c] []=some ⟨O2 es,[],[],[]⟩:=fun e0 c he=>Qaa (Qrw e0 es c he (by omega));show Ev tb Qtq [] [SB l] [] ⟨Jkk (if Qak (rdb hh) es=true/\gtx (rdb hh) es=l then some (rdb hh,es) else none),[],[],[]⟩;by_cases hv:Qak (rdb hh) es=true;rotate_left
 . rw [if_neg (fun h=>hv h.1)];rw [Kep] at hv;rw [hv] at v1;simp only [Jkk];refine jC Jkd rfl ?_;have Hq:=cj5 e1 hs e2 e3 hBl;repeat refine go1 ?_
   refine Qab q ?_;rintro ex st ⟨rfl,rfl⟩;simp only [if_true];cases es with
   | nil =>
     rw [show nl2 []=Z from rfl];have c3:=c2 0 true (.inr rfl);simp only [Gr,L2,O2,Que] at v1 g1 c3;generalize gtx (rdb hh) []=S at *
     generalize rdb hh=N at *
     have Hq:=cj4 c3 v1 g1 so;repeat refine go1 ?_
     simp [Qm8]
   | cons e r =>
     rw [show nl2 (e::r)=O2 (e::r) from rfl];have c3:=fun c=>c2 2 c (.inl rfl);have htk:(eds (e::r)).take (e::r).length=eds (e::r):=Kae (by simp);generalize e::r=es at *
     generalize gtx (rdb hh) es=S at *
     generalize rdb hh=N at *
     have Hq:=cj5 c3 v1 g1 so htk;repeat refine go1 ?_
     simp [Qm8]
 rw [hv] at v1;rw [hv,if_pos rfl] at g1;by_cases hd:gtx (rdb hh) es=l;rotate_left
 . rw [if_neg (fun h=>hd h.2)];rw [Kbf hd] at so;simp only [Jkk];refine jC Jkd rfl ?_;have Hq:=cj5 e1 hs e2 e3 hBl;repeat refine go1 ?_
   refine Qab q ?_;rintro ex st ⟨rfl,rfl⟩;simp only [if_true];cases es with
   | nil =>
     rw [show nl2 []=Z from rfl];have c3:=c2 0 true (.inr rfl);simp only [Gr,L2,O2,Que] at v1 g1 c3;generalize gtx (rdb hh) []=S at *
     generalize rdb hh=N at *
     have Hq:=cj4 c3 v1 g1 so;repeat refine go1 ?_
     simp [Qm8]
   | cons e r =>
     rw [show nl2 (e::r)=O2 (e::r) from rfl];have c3:=fun c=>c2 2 c (.inl rfl);have htk:(eds (e::r)).take (e::r).length=eds (e::r):=Kae (by simp);generalize e::r=es at *
     generalize gtx (rdb hh) es=S at *
     generalize rdb hh=N at *
     have Hq:=cj5 c3 v1 g1 so htk;repeat refine go1 ?_
     simp [Qm8]
 . rw [if_pos ⟨hv,hd⟩];rw [Kbo hd] at so;simp only [Jkk];refine jC Jkd rfl ?_;have Hq:=cj5 e1 hs e2 e3 hBl;repeat refine go1 ?_
   refine Qab q ?_;rintro ex st ⟨rfl,rfl⟩;simp only [if_true];cases es with
   | nil =>
     rw [show nl2 []=Z from rfl];have c3:=c2 0 true (.inr rfl);simp only [Gr,L2,O2,Que] at v1 g1 c3;generalize gtx (rdb hh) []=S at *
     generalize rdb hh=N at *
     have Hq:=cj4 c3 v1 g1 so;repeat refine go1 ?_
     simp [Qm8]
   | cons e r =>
     rw [show nl2 (e::r)=O2 (e::r) from rfl];have c3:=fun c=>c2 2 c (.inl rfl);have htk:(eds (e::r)).take (e::r).length=eds (e::r):=Kae (by simp);generalize e::r=es at *
     generalize gtx (rdb hh) es=S at *
     generalize rdb hh=N at *
     have Hq:=cj5 c3 v1 g1 so htk;repeat refine go1 ?_
     simp [Qm8]
end Go.Idl
