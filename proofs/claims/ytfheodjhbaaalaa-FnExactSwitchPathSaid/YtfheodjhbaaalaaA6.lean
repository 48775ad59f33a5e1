/- Part 6 of a proof by an ideal interpreter of the code: its definitions and lemmas. Conditions: none. -/
import Derived.KernelRfl
import Derived.Test.YtfheodjhbaaalaaA5
set_option linter.all false
set_option linter.unusedVariables false
set_option linter.unusedSimpArgs false
namespace Go.Idl
open Go
theorem Jx7 (n lo hi:Int):Ev tb Jpt [] [I n,I lo,I hi] [] ⟨Bo (decide (lo≤n) && decide (n≤hi)),[],[],[]⟩:=by
 refine cW zt38 rfl ?_
 refine Qf1 (by simp;rfl) (by simp;rfl) ?_
 by_cases h:lo≤n
 · refine Qf1 (by simp [h];rfl) (by simp;rfl) ?_
   refine wR ?_
   simp [h,Jkl]
 · refine Qf1 (by simp [h];rfl) (by simp;rfl) ?_
   refine wR ?_
   simp [h,Jkl]
theorem Qsz (n lo hi:Int):Ev tb Qvx [] [I n,I lo,I hi] [] ⟨Bo (decide (lo≤n) && decide (n≤hi)),[],[],[]⟩:=by
 refine cW Jwz rfl ?_
 refine Qf1 (by simp;rfl) (by simp;rfl) ?_
 by_cases h:lo≤n
 · refine Qf1 (by simp [h];rfl) (by simp;rfl) ?_
   refine wR ?_
   simp [h,Qw3]
 · refine Qf1 (by simp [h];rfl) (by simp;rfl) ?_
   refine wR ?_
   simp [h,Qw3]
def Jbw (xs:List Int):Prop:=xs.length≤2000000∧∀ k,-4611686018427387904≤(xs.take k).sum∧(xs.take k).sum≤4611686018427387904
end Go.Idl
namespace Go.Idl
def Qy4 (x:Int):List Int→List Int
 | []=>[x]
 | y::ys=>if x≤y then y::Qy4 x ys else x::y::ys
def fall (xs:List Int):List Int:=xs.foldl (fun out x=>Qy4 x out) []
abbrev Juy (xs:List Int):Prop:=xs.Pairwise (fun a b=>b≤a)
theorem Qm4 (x:Int) (ys:List Int):(Qy4 x ys).Perm (x::ys):=by
 induction ys with
 | nil=>exact .refl _
 | cons y ys ih =>
   unfold Qy4
   split
   · exact (ih.cons y).trans (.swap x y ys)
   · exact .refl _
theorem Qxy (x:Int) (ys:List Int) (h:Juy ys):Juy (Qy4 x ys):=by
 induction ys with
 | nil=>simp [Qy4]
 | cons y ys ih =>
   unfold Qy4
   have h:=List.pairwise_cons.1 h
   split
   · refine List.pairwise_cons.2 ⟨fun a ha=>?_,ih h.2⟩
     rcases List.mem_cons.1 ((Qm4 x ys).mem_iff.1 ha) with rfl | ha
     · assumption
     · exact h.1 a ha
   · rename_i hx
     refine List.pairwise_cons.2 ⟨fun a ha=>?_,List.pairwise_cons.2 h⟩
     rcases List.mem_cons.1 ha with rfl | ha
     · omega
     · have:=h.1 a ha;omega
theorem Jah (xs:List Int):∀ ys,Juy ys→Juy (xs.foldl (fun out x=>Qy4 x out) ys)∧(xs.foldl (fun out x=>Qy4 x out) ys).Perm (xs++ys):=by
 induction xs with
 | nil=>intro ys h;exact ⟨h,.refl _⟩
 | cons x xs ih =>
   intro ys h
   obtain ⟨h1,h2⟩:=ih (Qy4 x ys) (Qxy x ys h)
   refine ⟨h1,h2.trans ?_⟩
   exact ((Qm4 x ys).append_left xs).trans List.perm_middle
theorem Qok (xs:List Int):(fall xs).Perm xs:=by simpa [fall] using (Jah xs [] .nil).2
theorem Ja9 (xs:List Int):(fall xs).length=xs.length:=(Qok xs).length_eq
theorem Ja0 {xs ys:List Int} (h:xs.Perm ys):xs.sum=ys.sum:=by
 induction h with
 | nil=>rfl
 | cons x _ ih=>simp [ih]
 | swap x y l=>simp;omega
 | trans _ _ h1 h2=>exact h1.trans h2
theorem Qzo {xs:List Int} {x:Int}:x ∈ fall xs ↔ x ∈ xs:=(Qok xs).mem_iff
end Go.Idl
namespace Go.Idl
open Go
abbrev L (xs:List Int) (c:Bool:=false):IV:=.lst 1 (Qdj xs) c
theorem Jez {n:Nat} (h:n < 2000000):IntKind.u64.wrap (n:Int)=(n:Int):=by
 have e1:(2:Int) ^ IntKind.u64.bits=18446744073709551616:=by decide
 have e3:IntKind.u64.signed=false:=rfl
 unfold IntKind.wrap
 rw [e1,e3]
 simp
 omega
end Go.Idl
namespace Go.Idl
open Go
theorem Qdn {k:IntKind} {a b:Nat}:Qc1 (.sc (.int k ((a:Int)+(b:Int)+1)))=some (a+b+1):=Qfk (n:=a+b+1)
end Go.Idl
namespace Go.Idl
open Go
def valid (d:List Int):Bool:=decide (d.length≤7) && d.all fun x=>decide (0≤x) && decide (x < d.length)
end Go.Idl
namespace Go.Idl
open Go
def bytes (xs:List Int):List (List IV):=xs.map fun n=>[.sc (.int .u8 n)]
@[simp] theorem Jmh (xs:List Int):(bytes xs).length=xs.length:=by simp [bytes]
@[simp] theorem Jjq (xs:List Int) (n:Nat):(bytes xs).take n=bytes (xs.take n):=by simp [bytes,List.map_take]
@[simp] theorem bytes_get? (xs:List Int) (i:Nat):(bytes xs)[i]? = xs[i]?.map fun n=>[IV.sc (.int .u8 n)]:=by simp [bytes]
@[simp] theorem Juc (xs:List Int) (i:Nat) (h:i < (bytes xs).length):(bytes xs)[i]=[IV.sc (.int .u8 (xs[i]'(by simpa [bytes] using h)))]:=by simp [bytes]
@[simp] theorem Jmt (xs:List Int):(bytes xs).isEmpty=xs.isEmpty:=by cases xs <;> rfl
@[simp] theorem Jj0 (xs:List Int):((bytes xs).all fun x=>x.all IV.plain1)=true:=by
  induction xs with
  | nil=>rfl
  | cons x xs ih=>simp only [bytes,List.map_cons,List.all_cons] at *;rw [ih];rfl
@[simp] theorem Jjz (xs:List Int):((bytes xs).all fun x=>x.all IV.isData)=true:=by
  induction xs with
  | nil=>rfl
  | cons x xs ih=>simp only [bytes,List.map_cons,List.all_cons] at *;rw [ih];rfl
@[simp] theorem Jd7 (xs:List Int):Qb1 (bytes xs)=true:=by
  induction xs with
  | nil=>rfl
  | cons x xs ih=>simp only [bytes,List.map_cons,Qb1,Qa7,Qbq] at *;rw [ih];rfl
abbrev R (code:List Int) (c:Bool) (n:Int):List IV:=[.lst 1 (bytes code) c,I n]
end Go.Idl
namespace Go.Idl
open Go
def eds (xs:List (Int×Int)):List (List IV):=xs.map fun e=>[I e.1,I e.2]
abbrev L2 (xs:List (Int×Int)) (c:Bool:=false):IV:=.lst 2 (eds xs) c
abbrev O2 (xs:List (Int×Int)):IV:=.own 2 (eds xs)
@[simp] theorem Qvc (xs:List (Int×Int)):(eds xs).length=xs.length:=by simp [eds]
@[simp] theorem Jzw:eds []=[]:=rfl
@[simp] theorem Jvb (xs:List (Int×Int)) (n:Nat):(eds xs).take n=eds (xs.take n):=by simp [eds,List.map_take]
@[simp] theorem Jvs (xs:List (Int×Int)) (n:Nat):(eds xs).drop n=eds (xs.drop n):=by simp [eds,List.map_drop]
@[simp] theorem Jg4 (xs ys:List (Int×Int)):eds xs++eds ys=eds (xs++ys):=by simp [eds]
@[simp] theorem eds_one (xs:List (Int×Int)) (a b:Int):eds xs++[[IV.sc (.int .i64 a),IV.sc (.int .i64 b)]]=eds (xs++[(a,b)]):=by simp [eds]
@[simp] theorem eds_get? (xs:List (Int×Int)) (i:Nat):(eds xs)[i]? = xs[i]?.map fun e=>[IV.sc (.int .i64 e.1),IV.sc (.int .i64 e.2)]:=by simp [eds]
@[simp] theorem Jyl (xs:List (Int×Int)) (i:Nat) (h:i < (eds xs).length):(eds xs)[i]=[IV.sc (.int .i64 (xs[i]'(by simpa [eds] using h)).1),IV.sc (.int .i64 (xs[i]'(by simpa [eds] using h)).2)]:=by simp [eds]
@[simp] theorem eds_emp (xs:List (Int×Int)):(eds xs).isEmpty=xs.isEmpty:=by cases xs <;> rfl
@[simp] theorem Qhh (xs:List (Int×Int)) (i:Nat) (a b:Int):(eds xs).set i [IV.sc (.int .i64 a),IV.sc (.int .i64 b)]=eds (xs.set i (a,b)):=by
  simp [eds,List.map_set]
@[simp] theorem Jut (xs:List (Int×Int)):((eds xs).all fun x=>x.all IV.plain1)=true:=by
  induction xs with
  | nil=>rfl
  | cons x xs ih=>simp only [eds,List.map_cons,List.all_cons] at *;rw [ih];rfl
@[simp] theorem Jum (xs:List (Int×Int)):((eds xs).all fun x=>x.all IV.isData)=true:=by
  induction xs with
  | nil=>rfl
  | cons x xs ih=>simp only [eds,List.map_cons,List.all_cons] at *;rw [ih];rfl
@[simp] theorem Qvb (xs:List (Int×Int)):Qb1 (eds xs)=true:=by
  induction xs with
  | nil=>rfl
  | cons x xs ih=>simp only [eds,List.map_cons,Qb1,Qa7,Qbq] at *;rw [ih];rfl
@[simp] theorem Qvj (xs:List (Int×Int)):Qcc (eds xs)=eds xs:=by
  induction xs with
  | nil=>rfl
  | cons x xs ih=>simp only [eds,List.map_cons,Qcc,Qcx,Qge] at *;rw [ih]
def row (a b:Nat):Nat→List (Int×Int)
 | 0=>[]
 | m+1=>((a:Int),(b:Int))::row a (b+1) m
def Jbe (a:Nat):Nat→List (Int×Int)
 | 0=>[]
 | m+1=>row a (a+1) m++Jbe (a+1) m
def prs (n:Nat):List (Int×Int):=Jbe 0 n
theorem Qvk (a:Nat):∀ (m b:Nat) (e:Int×Int),e ∈ row a b m→e.1=a∧(b:Int)≤e.2∧e.2 < b+m
 | 0,b,e,h=>by simp [row] at h
 | m+1,b,e,h=>by
   rcases List.mem_cons.1 h with rfl | h
   · simp;omega
   · have:=Qvk a m (b+1) e h;omega
theorem Qq5:∀ (m a:Nat) (e:Int×Int),e ∈ Jbe a m→0≤e.1∧e.1 < e.2∧e.2 < a+m
 | 0,a,e,h=>by simp [Jbe] at h
 | m+1,a,e,h=>by
   rcases List.mem_append.1 h with h | h
   · have:=Qvk a m (a+1) e h;omega
   · have:=Qq5 m (a+1) e h;omega
abbrev Gr (n:Int) (es:List (Int×Int)) (c:Bool:=false):IV:=.agg [I n,L2 es c]
abbrev OG (n:Int) (es:List (Int×Int)):IV:=.agg [I n,O2 es]
def isE (a b:Int) (e:Int×Int):Bool:=decide (e.1=a) && decide (e.2=b) || decide (e.1=b) && decide (e.2=a)
def has (es:List (Int×Int)) (a b:Int):Bool:=es.any (isE a b)
theorem Qhz (n:Int) (es:List (Int×Int)) (c:Bool) (a b:Int) (hl:es.length≤100000) :
 Ev tb Qkc [] [Gr n es c,I a,I b] [] ⟨Bo (has es a b),[],[],[]⟩:=by
 have loop:∀ (m i:Nat) (B:Qal),i+m=es.length→wp tb (.loop Jcx) { T:=[(1,I a),(2,I b),(3,.bptr 0 0 0),(7,I i)],loc:=[I n,L2 es c]::B,M:=[] }
  (fun ex st=>(ex=.exit 0∧has (es.drop i) a b=false∧∃ B',st={ T:=[(1,I a),(2,I b),(3,.bptr 0 0 0),(7,I es.length),(13,Bo false)],loc:=[I n,L2 es c]::B',M:=[] }) ∨
    ex=.ret∧has (es.drop i) a b=true∧∃ B',st={ T:=[(6,Bo true)],loc:=[I n,L2 es c]::B',M:=[] }):=by
  intro m
  induction m with
  | zero =>
    intro i B hi
    have h3:i=es.length:=hi
    subst h3
    refine wW ?_
    repeat (first|apply wA|apply wS|refine wr (by simp;with_reducible rfl) ?_|refine wq (by simp;with_reducible rfl) ?_|refine wt (by simpa) ?_|refine wf (by simpa) ?_|refine xt (by simpa) ?_|refine xf (by simpa) ?_|apply wB|apply Qaa|refine wX ?_|refine wY ?_|refine wR ?_|refine wK ?_|refine wE ?_)
    refine .inl ⟨rfl,by simp [has],_,rfl⟩
  | succ m ih =>
    intro i B hi
    have hi2:i < es.length:=by omega
    have w1:IntKind.i64.wrap ((i:Int)+1)=((i+1:Nat):Int):=Qbp (by omega)
    have hd:es.drop i=es[i]::es.drop (i+1):=List.drop_eq_getElem_cons hi2
    refine wW ?_
    repeat (first|apply wA|apply wS|refine wr (by simp [hi2,w1];with_reducible rfl) ?_|refine wq (by simp [hi2,w1];with_reducible rfl) ?_|refine wt (by simpa [hi2,w1]) ?_|refine wf (by simpa [hi2,w1]) ?_|refine xt (by simpa [hi2,w1]) ?_|refine xf (by simpa [hi2,w1]) ?_|apply wB|apply Qaa|refine wX ?_|refine wY ?_|refine wR ?_|refine wK ?_|refine wE ?_)
    have hh:∀ (x:Int×Int) r,has (x::r) a b=(isE a b x || has r a b):=fun _ _=>rfl
    rw [hd,hh]
    generalize es[i]=e
    obtain ⟨p,q⟩:=e
    have hn:=ih (i+1) (B++[[I p,I q]]) (by omega)
    have key:∃ st1,Qag (Qcm tb) { T:=[(1,I a),(2,I b),(3,.bptr 0 0 0),(7,I i),(8,.bptr 0 (B.length+1) 0)],loc:=[I n,L2 es c]::(B++[[I p,I q]]),M:=[] }
     (match Qh6 with | .reg ops _ _=>ops | _=>[])=some st1 ∧
     st1.cut [1,2,3,7,42]={ T:=[(1,I a),(2,I b),(3,.bptr 0 0 0),(7,I i),(42,Bo (isE a b (p,q)))],loc:=[I n,L2 es c]::(B++[[I p,I q]]),M:=[] }:=by
     by_cases h1:p=a
     · subst h1
       by_cases h2:q=b
       · subst h2
         exact ⟨_,by simp [Qh6];with_reducible rfl,by simp [isE]⟩
       · by_cases h3:p=b
         · subst h3
           exact ⟨_,by simp [Qh6,h2];with_reducible rfl,by simp [isE,h2]⟩
         · exact ⟨_,by simp [Qh6,h2,h3];with_reducible rfl,by simp [isE,h2,h3]⟩
     · by_cases h3:p=b
       · subst h3
         by_cases h4:q=a
         · subst h4
           exact ⟨_,by simp [Qh6,h1];with_reducible rfl,by simp [isE,h1]⟩
         · exact ⟨_,by simp [Qh6,h1,h4];with_reducible rfl,by simp [isE,h1,h4]⟩
       · exact ⟨_,by simp [Qh6,h1,h3];with_reducible rfl,by simp [isE,h1,h3]⟩
    obtain ⟨st1,k1,k2⟩:=key
    refine Qf1 k1 k2 ?_
    cases hx:isE a b (p,q) with
    | true =>
      repeat (first|apply wA|apply wS|refine wr (by simp;with_reducible rfl) ?_|refine wq (by simp;with_reducible rfl) ?_|refine wt (by simpa) ?_|refine wf (by simpa) ?_|refine xt (by simpa) ?_|refine xf (by simpa) ?_|apply wB|apply Qaa|refine wX ?_|refine wY ?_|refine wR ?_|refine wK ?_|refine wE ?_)
      exact .inr ⟨rfl,by simp,_,rfl⟩
    | false =>
      repeat (first|apply wA|apply wS|refine wr (by simp [w1];with_reducible rfl) ?_|refine wq (by simp [w1];with_reducible rfl) ?_|refine wt (by simpa [w1]) ?_|refine wf (by simpa [w1]) ?_|refine xt (by simpa [w1]) ?_|refine xf (by simpa [w1]) ?_|apply wB|apply Qaa|refine wX ?_|refine wY ?_|refine wR ?_|refine wK ?_|refine wE ?_)
      rw [Bool.false_or]
      exact hn
 refine cW Jzi rfl ?_
 repeat (first|apply wA|apply wS|refine wr (by simp;with_reducible rfl) ?_|refine wq (by simp;with_reducible rfl) ?_|refine wt (by simpa) ?_|refine wf (by simpa) ?_|refine xt (by simpa) ?_|refine xf (by simpa) ?_|apply wB|apply Qaa|refine wX ?_|refine wY ?_|refine wR ?_|refine wK ?_|refine wE ?_)
 refine Qap (loop es.length 0 [] (by simp)) ?_
 rintro ex st (⟨rfl,h,B',rfl⟩ | ⟨rfl,h,B',rfl⟩)
 · simp only [if_true]
   repeat (first|apply wA|apply wS|refine wr (by simp;with_reducible rfl) ?_|refine wq (by simp;with_reducible rfl) ?_|refine wt (by simpa) ?_|refine wf (by simpa) ?_|refine xt (by simpa) ?_|refine xf (by simpa) ?_|apply wB|apply Qaa|refine wX ?_|refine wY ?_|refine wR ?_|refine wK ?_|refine wE ?_)
   simp only [List.drop_zero] at h
   simp [Qvr,h]
 · simp only [List.drop_zero] at h
   simp [Qvr,h]
end Go.Idl
namespace Go.Idl
open Go
theorem Qho {f:Lab} {fn:Qbu} (hf:tb f=some fn) {lent:List Nat} {args:List IV} {M:List Qal} (hl:lent.all fn.keep.contains=true) {P:Ret→Prop}
 (h:wp tb fn.body { T:=args.zipIdx.map fun (v,i)=>(i,v),loc:=[],M:=M } fun ex st=>(ex=.normal ∨ ex=.ret)∧∃ r,P r∧Qk3 fn lent st=some r):∃ r,P r∧Ev tb f lent args M r:=by
 obtain ⟨ex,st',⟨h1,r,hP,h2⟩,-,back⟩:=Qbi h
 exact ⟨r,hP,cW hf hl (back _ ⟨h1,h2⟩)⟩
end Go.Idl
namespace Go.Idl
theorem Jyo {B:Int} (hB:0≤B):∀ {xs:List Int},(∀ x ∈ xs,0≤x∧x≤B)→0≤xs.sum∧xs.sum≤B * xs.length
 | [],_=>by simp
 | x::r,h=>by
   have h1:=h x (by simp)
   have h2:=Jyo hB (xs:=r) (fun y hy=>h y (by simp [hy]))
   have e:B * ((x::r).length:Int)=B * r.length+B:=by
    rw [List.length_cons,Int.natCast_add,Int.mul_add];simp
   rw [List.sum_cons,e]
   omega
def least (xs:List Int):Int:=xs.foldl (fun n x=>min n x) 0
end Go.Idl
namespace Go.Idl
open Go
abbrev Z:IV:=.lst 0 [] true
def Few (xs:List Int):Prop:=xs.length≤7∧∀ x ∈ xs,0≤x∧x≤6
theorem Few.small {xs:List Int} (h:Few xs):Jbw xs:=by
 refine ⟨by have:=h.1;omega,fun k=>?_⟩
 have h1:=Jyo (B:=6) (by omega) (xs:=xs.take k) (fun x hx=>h.2 x (List.mem_of_mem_take hx))
 have h2:(xs.take k).length≤7:=by have:=h.1;simp;omega
 omega
theorem Few.take {xs:List Int} (h:Few xs) (k:Nat):Few (xs.take k):=⟨by have:=h.1;simp;omega,fun x hx=>h.2 x (List.mem_of_mem_take hx)⟩
theorem Few.drop {xs:List Int} (h:Few xs) (k:Nat):Few (xs.drop k):=⟨by have:=h.1;simp;omega,fun x hx=>h.2 x (List.mem_of_mem_drop hx)⟩
theorem Few.fall {xs:List Int} (h:Few xs):Few (fall xs):=⟨by rw [Ja9];exact h.1,fun x hx=>h.2 x (Qzo.1 hx)⟩
theorem Few.sum {xs:List Int} (h:Few xs):0≤xs.sum∧xs.sum≤42:=by
 have h1:=Jyo (B:=6) (by omega) h.2
 have:=h.1
 omega
def mapR (n:Nat) (g:Nat→Int):List Int:=(List.range n).map g
@[simp] theorem Juo (n:Nat):List.replicate n [IV.sc (.int .i64 0)]=Qdj (List.replicate n 0):=by simp [Qdj]
theorem Jor (a b:Int):(if b < a then b else a)=min a b:=by split <;> omega
end Go.Idl
namespace Go.Idl
open Go
def Qy1 (o:List Int) (i:Nat):List Int:=o.set i (o.getD i 0+1)
def Qn9 (o:List Int) (es:List (Int×Int)):List Int:=es.foldl (fun o e=>Qy1 (Qy1 o e.1.toNat) e.2.toNat) o
def Qew (n:Nat) (es:List (Int×Int)):List Int:=Qn9 (List.replicate n 0) es
def Qlo (n:Nat) (es:List (Int×Int)):Prop:=∀ e ∈ es,0≤e.1∧e.1 < n∧0≤e.2∧e.2 < n
theorem Qlr (o:List Int) (i:Nat):(Qy1 o i).length=o.length:=by simp [Qy1]
theorem Qfb:∀ (es:List (Int×Int)) (o:List Int),(Qn9 o es).length=o.length
 | [],o=>rfl
 | e::es,o=>by simp only [Qn9,List.foldl_cons];rw [← Qn9,Qfb es];simp [Qlr]
theorem Jpf {n:Nat} {es:List (Int×Int)} (h:es.Sublist (prs n)):Qlo n es:=by
 intro e he
 have:=Qq5 n 0 e (h.mem he)
 omega
def Low (B:Int) (d:List Int):Prop:=∀ x ∈ d,-B≤x∧x≤B
theorem Low.set {B:Int} {d:List Int} (h:Low B d) {i:Nat} {x:Int} (hx:-B≤x∧x≤B):Low B (d.set i x):=by
 intro y hy
 rcases List.mem_or_eq_of_mem_set hy with hy | rfl
 · exact h y hy
 · exact hx
theorem Low.app {B:Int} {d:List Int} (h:Low B d) {x:Int} (hx:-B≤x∧x≤B):Low B (d++[x]):=by
 intro y hy
 rcases List.mem_append.1 hy with hy | hy
 · exact h y hy
 · simp at hy;subst hy;exact hx
theorem Low.mono {B C:Int} {d:List Int} (h:Low B d) (hc:B≤C):Low C d:=fun x hx=>by have:=h x hx;omega
theorem Jqw (a b:Int):(if a < b then b else a)=max a b:=by split <;> omega
end Go.Idl
namespace Go.Idl
def Qri {α:Type} (lt:α→α→Bool) (x:α):List α→List α→List α
 | [],B=>x::B
 | a::r,B=>if lt x a then Qri lt x r (a::B) else r.reverse++a::x::B
def Qmp {α:Type} (lt:α→α→Bool):List α→List α→List α
 | S,[]=>S
 | S,x::r=>Qmp lt (Qri lt x S.reverse []) r
theorem Qe8 {α:Type} (lt:α→α→Bool) (x:α):∀ (r B:List α),(Qri lt x r B).Perm (r.reverse++x::B)
 | [],B=>.refl _
 | a::r,B=>by
   unfold Qri
   split
   · refine (Qe8 lt x r (a::B)).trans ?_
     rw [List.reverse_cons,List.append_assoc]
     exact List.Perm.append_left _ (.swap _ _ _)
   · rw [List.reverse_cons,List.append_assoc]
     exact .refl _
theorem Qly {α:Type} (lt:α→α→Bool) (x:α) (S:List α):(Qri lt x S.reverse []).length=S.length+1:=by
 have:=(Qe8 lt x S.reverse []).length_eq
 simpa using this
abbrev Srt {α:Type} (lt:α→α→Bool) (l:List α):Prop:=l.Pairwise fun a b=>lt b a=false
theorem Qqm {α:Type} {lt:α→α→Bool} (ht:∀ a b c,lt b a=false→lt c b=false→lt c a=false) (ha:∀ a b,lt a b=true→lt b a=false) (x:α):∀ (r B:List α),Srt lt (r.reverse++B)→(∀ b ∈ B,lt x b=true)→Srt lt (Qri lt x r B)
 | [],B,h,hb=>List.pairwise_cons.2 ⟨fun b hb'=>ha _ _ (hb b hb'),by simpa using h⟩
 | a::r,B,h,hb=>by
   rw [List.reverse_cons,List.append_assoc] at h
   unfold Qri
   split
   · rename_i hx
     refine Qqm ht ha x r (a::B) h fun b hb'=>?_
     rcases List.mem_cons.1 hb' with rfl | hb'
     · exact hx
     · exact hb b hb'
   · rename_i hx
     have hx:lt x a=false:=by simpa using hx
     obtain ⟨h1,h2,h3⟩:=List.pairwise_append.1 (show Srt lt (r.reverse++a::B) from h)
     have h2:=List.pairwise_cons.1 h2
     refine List.pairwise_append.2 ⟨h1,?_,fun p hp q hq=>?_⟩
     · refine List.pairwise_cons.2 ⟨fun q hq=>?_,List.pairwise_cons.2 ⟨fun b hb'=>ha _ _ (hb b hb'),h2.2⟩⟩
       rcases List.mem_cons.1 hq with rfl | hq
       · exact hx
       · exact h2.1 q hq
     · have h4:=h3 p hp a (by simp)
       rcases List.mem_cons.1 hq with rfl | hq
       · exact h4
       · rcases List.mem_cons.1 hq with rfl | hq
         · exact ht _ _ _ h4 hx
         · exact h3 p hp q (by simp [hq])
theorem Qo6 {α:Type} {lt:α→α→Bool} (ht:∀ a b c,lt b a=false→lt c b=false→lt c a=false) (ha:∀ a b,lt a b=true→lt b a=false):∀ (r S:List α),Srt lt S→Srt lt (Qmp lt S r)∧(Qmp lt S r).Perm (S++r)
 | [],S,h=>⟨h,by simp [Qmp]⟩
 | x::r,S,h=>by
   obtain ⟨h1,h2⟩:=Qo6 ht ha r (Qri lt x S.reverse []) (Qqm ht ha x _ _ (by simpa using h) (by simp))
   refine ⟨h1,h2.trans ?_⟩
   have:=Qe8 lt x S.reverse []
   rw [List.reverse_reverse] at this
   refine (this.append_right r).trans ?_
   rw [List.append_assoc];exact .refl _
theorem Qog {α:Type} (lt:α→α→Bool):∀ (r S:List α),(Qmp lt S r).Perm (S++r)
 | [],S=>by simp [Qmp]
 | x::r,S=>by
   refine (Qog lt r _).trans ?_
   have:=Qe8 lt x S.reverse []
   rw [List.reverse_reverse] at this
   refine (this.append_right r).trans ?_
   rw [List.append_assoc];exact .refl _
end Go.Idl
namespace Go.Idl
open Go
abbrev vE (x:Int×Int):IV:=.agg [I x.1,I x.2]
theorem Qbt {α:Type} {A Z:List α} {a x:α}:(A++a::x::Z)[A.length+1]? = some x:=by
 rw [List.getElem?_append_right (by omega)];simp
theorem Qbs {α:Type} {A Z:List α} {a:α}:(A++a::Z)[A.length]? = some a:=by
 rw [List.getElem?_append_right (by omega)];simp
theorem Qca {α:Type} {A Z:List α} {a x:α}:((A++a::x::Z).set (A.length+1) a).set A.length x=A++x::a::Z:=by
 rw [List.set_append_right _ _ (by omega),List.set_append_right _ _ (by omega)]
 simp
def Jbg {α:Type} (v:α→IV) (F:Lab) (caps:List IV) (lt:α→α→Bool) (D:α→Prop) (M:List Qal):Prop :=
 ∀ x y,D x→D y→∃ k:Int,decide (k < 0)=lt x y∧Ev tb F [] (v x::v y::caps) (M++[[]]) ⟨I k,[],M++[[]],[]⟩
theorem icle (F:Lab) (caps:List IV) (lt:(Int×Int)→(Int×Int)→Bool) (D:(Int×Int)→Prop) (M:List Qal) (hc:Jbg vE F caps lt D M) (P:List (Int×Int)) (n i:Int) (x:(Int×Int)) (rest:List (Int×Int)):∀ (k:Nat) (A B:List (Int×Int)),A.length=k→P.length+k+B.length+rest.length≤2000000→D x→(∀ a ∈ A,D a) →
 wp tb (.loop Jct) { T:=[(0,O2 ((P++A)++x::(B++rest))),(1,I P.length),(2,I n),(3,.fn F caps),(8,I i),(9,I (P.length+k:Nat))],loc:=[],M:=M }
  (fun ex st=>ex=.exit 2∧∃ k':Int,st={ T:=[(0,O2 (P++(Qri lt x A.reverse B++rest))),(1,I P.length),(2,I n),(3,.fn F caps),(8,I i),(9,I k'),(34,Bo false)],loc:=[],M:=M }):=by
 intro k
 induction k with
 | zero =>
   intro A B hA hl hx hD
   have:A=[]:=List.length_eq_zero_iff.1 hA
   subst this
   refine wW ?_
   repeat (first|apply wA|apply wS|refine wr (by simp;with_reducible rfl) ?_|refine wq (by simp;with_reducible rfl) ?_|refine wt (by simpa) ?_|refine wf (by simpa) ?_|refine xt (by simpa) ?_|refine xf (by simpa) ?_|apply wB|apply Qaa|refine wX ?_|refine wY ?_|refine wR ?_|refine wK ?_|refine wE ?_)
   exact ⟨rfl,_,by simp [Qri];rfl⟩
 | succ k ih =>
   intro A B hA hl hx hD
   obtain ⟨A',a,rfl⟩:∃ A' a,A=A'++[a]:=⟨A.dropLast,A.getLast (by intro h;subst h;simp at hA),(List.dropLast_concat_getLast _).symm⟩
   have hA':A'.length=k:=by simpa using hA
   subst hA'
   obtain ⟨c,hc1,hc2⟩:=hc x a hx (hD a (by simp))
   have e1:=Qab hc2
   have hPl:(P++A').length=P.length+A'.length:=by simp
   obtain ⟨Q,hQ⟩:∃ Q,Q=P++A':=⟨_,rfl⟩
   have hQl:P.length+A'.length=Q.length:=by rw [hQ];simp
   have hre:P++(A'++[a])++x::(B++rest)=Q++a::x::(B++rest):=by rw [hQ];simp
   rw [hre]
   have hk:((P.length+(A'.length+1):Nat):Int)=(Q.length:Int)+1:=by omega
   rw [hk]
   have w1:IntKind.i64.wrap (Q.length:Int)=(Q.length:Int):=Qan (by omega) (by omega)
   have w2:(P.length:Int) < (Q.length:Int)+1:=by omega
   by_cases hx0:c < 0
   · have hlt:lt x a=true:=by rw [← hc1];exact decide_eq_true hx0
     have:=ih A' (a::B) rfl (by simp;omega) hx (fun b hb=>hD b (by simp [hb]))
     rw [show P++A'++x::(a::B++rest)=Q++x::(a::(B++rest)) by rw [hQ];simp,hQl] at this
     refine wW ?_
     repeat (first|apply wA|apply wS|refine wr (by simp [e1,hx0,w1,w2,Qbs,Qbt,Qca];with_reducible rfl) ?_|refine wq (by simp [e1,hx0,w1,w2,Qbs,Qbt,Qca];with_reducible rfl) ?_|refine wt (by simpa [e1,hx0,w1,w2,Qbs,Qbt,Qca]) ?_|refine wf (by simpa [e1,hx0,w1,w2,Qbs,Qbt,Qca]) ?_|refine xt (by simpa [e1,hx0,w1,w2,Qbs,Qbt,Qca]) ?_|refine xf (by simpa [e1,hx0,w1,w2,Qbs,Qbt,Qca]) ?_|apply wB|apply Qaa|refine wX ?_|refine wY ?_|refine wR ?_|refine wK ?_|refine wE ?_)
     simp only [List.reverse_append,List.reverse_cons,List.reverse_nil,List.nil_append,List.cons_append]
     simp only [Qri,hlt,if_true]
     exact this
   · have hlt:lt x a=false:=by rw [← hc1];exact decide_eq_false hx0
     refine wW ?_
     repeat (first|apply wA|apply wS|refine wr (by simp [e1,hx0,w1,w2,Qbs,Qbt,Qca];with_reducible rfl) ?_|refine wq (by simp [e1,hx0,w1,w2,Qbs,Qbt,Qca];with_reducible rfl) ?_|refine wt (by simpa [e1,hx0,w1,w2,Qbs,Qbt,Qca]) ?_|refine wf (by simpa [e1,hx0,w1,w2,Qbs,Qbt,Qca]) ?_|refine xt (by simpa [e1,hx0,w1,w2,Qbs,Qbt,Qca]) ?_|refine xf (by simpa [e1,hx0,w1,w2,Qbs,Qbt,Qca]) ?_|apply wB|apply Qaa|refine wX ?_|refine wY ?_|refine wR ?_|refine wK ?_|refine wE ?_)
     refine ⟨rfl,(Q.length:Int)+1,?_⟩
     simp only [List.reverse_append,List.reverse_cons,List.reverse_nil,List.nil_append,List.cons_append]
     simp only [Qri,hlt,Bool.false_eq_true,if_false,List.reverse_reverse]
     rw [hQ]
     simp
theorem isoe (F:Lab) (caps:List IV) (lt:(Int×Int)→(Int×Int)→Bool) (D:(Int×Int)→Prop) (M:List Qal) (hc:Jbg vE F caps lt D M) (P Q:List (Int×Int)) (n:Int):∀ (r S:List (Int×Int)),n=(P.length+S.length+r.length:Nat)→P.length+S.length+r.length+Q.length≤900000→(∀ x ∈ S,D x)→(∀ x ∈ r,D x) →
 wp tb (.loop Jdg) { T:=[(0,O2 (P++(S++(r++Q)))),(1,I P.length),(2,I n),(3,.fn F caps),(8,I (P.length+S.length:Nat))],loc:=[],M:=M }
  (fun ex st=>ex=.exit 0∧∃ k':Int,st={ T:=[(0,O2 (P++(Qmp lt S r++Q))),(1,I P.length),(2,I n),(3,.fn F caps),(8,I k'),(14,Bo false)],loc:=[],M:=M }):=by
 intro r
 induction r with
 | nil =>
   intro S hn hl hS hr
   have h1:¬ ((P.length:Int)+(S.length:Int)) < n:=by simp at hn;omega
   refine wW ?_
   repeat (first|apply wA|apply wS|refine wr (by simp [h1];with_reducible rfl) ?_|refine wq (by simp [h1];with_reducible rfl) ?_|refine wt (by simpa [h1]) ?_|refine wf (by simpa [h1]) ?_|refine xt (by simpa [h1]) ?_|refine xf (by simpa [h1]) ?_|apply wB|apply Qaa|refine wX ?_|refine wY ?_|refine wR ?_|refine wK ?_|refine wE ?_)
   exact ⟨rfl,_,by simp [Qmp];rfl⟩
 | cons x r ih =>
   intro S hn hl hS hr
   simp only [List.length_cons] at hn hl
   have h1:(P.length:Int)+(S.length:Int) < n:=by omega
   have w1:IntKind.i64.wrap ((P.length:Int)+(S.length:Int)+1)=(P.length:Int)+(S.length:Int)+1:=by rw [Qan (by omega) (by omega)]
   have hin:=icle F caps lt D M hc P n ((P.length:Int)+S.length) x (r++Q) S.length S [] rfl (by simp;omega) (hr x (by simp)) hS
   rw [show P++S++x::([]++(r++Q))=P++(S++(x::r++Q)) by simp,show ((P.length+S.length:Nat):Int)=(P.length:Int)+S.length by omega] at hin
   have hn2:=ih (Qri lt x S.reverse []) (by rw [Qly];omega) (by rw [Qly];omega) (fun y hy=>by
    have:=(Qe8 lt x S.reverse []).mem_iff.1 hy
    simp only [List.reverse_reverse,List.mem_append,List.mem_cons,List.not_mem_nil,or_false] at this
    rcases this with h | rfl
    · exact hS y h
    · exact hr y (by simp)) (fun y hy=>hr y (by simp [hy]))
   rw [Qly,show ((P.length+(S.length+1):Nat):Int)=(P.length:Int)+S.length+1 by omega] at hn2
   rw [show ((P.length+S.length:Nat):Int)=(P.length:Int)+S.length by omega]
   refine wW ?_
   repeat (first|apply wA|apply wS|refine wr (by simp [h1,w1];with_reducible rfl) ?_|refine wq (by simp [h1,w1];with_reducible rfl) ?_|refine wt (by simpa [h1,w1]) ?_|refine wf (by simpa [h1,w1]) ?_|refine xt (by simpa [h1,w1]) ?_|refine xf (by simpa [h1,w1]) ?_|apply wB|apply Qaa|refine wX ?_|refine wY ?_|refine wR ?_|refine wK ?_|refine wE ?_)
   refine Qap hin ?_
   rintro ex st ⟨rfl,k',rfl⟩
   simp only [if_true]
   repeat (first|apply wA|apply wS|refine wr (by simp [h1,w1];with_reducible rfl) ?_|refine wq (by simp [h1,w1];with_reducible rfl) ?_|refine wt (by simpa [h1,w1]) ?_|refine wf (by simpa [h1,w1]) ?_|refine xt (by simpa [h1,w1]) ?_|refine xf (by simpa [h1,w1]) ?_|apply wB|apply Qaa|refine wX ?_|refine wY ?_|refine wR ?_|refine wK ?_|refine wE ?_)
   exact hn2
theorem Qzv (F:Lab) (caps:List IV) (lt:(Int×Int)→(Int×Int)→Bool) (D:(Int×Int)→Prop) (M:List Qal) (hc:Jbg vE F caps lt D M) (P Q seg:List (Int×Int)) (hl:P.length+seg.length+Q.length≤800000) (hD:∀ x ∈ seg,D x) :
 Ev tb Qso [0] [O2 (P++(seg++Q)),I P.length,I (P.length+seg.length:Nat),.fn F caps] M ⟨.tup [],[O2 (P++(Qmp lt [] seg++Q))],M,[]⟩:=by
 have w1:IntKind.i64.wrap ((P.length:Int)+1)=(P.length:Int)+1:=by rw [Qan (by omega) (by omega)]
 cases seg with
 | nil =>
   have h1:¬ (P.length:Int)+1 < ((P.length+([]:List (Int×Int)).length:Nat):Int):=by simp;omega
   simp only [List.length_nil,Nat.add_zero] at h1 ⊢
   refine cW Jrz rfl ?_
   repeat (first|apply wA|apply wS|refine wr (by simp [w1];with_reducible rfl) ?_|refine wq (by simp [w1];with_reducible rfl) ?_|refine wt (by simpa [w1]) ?_|refine wf (by simpa [w1]) ?_|refine xt (by simpa [w1]) ?_|refine xf (by simpa [w1]) ?_|apply wB|apply Qaa|refine wX ?_|refine wY ?_|refine wR ?_|refine wK ?_|refine wE ?_)
   refine wW ?_
   repeat (first|apply wA|apply wS|refine wr (by simp [h1];with_reducible rfl) ?_|refine wq (by simp [h1];with_reducible rfl) ?_|refine wt (by simpa [h1]) ?_|refine wf (by simpa [h1]) ?_|refine xt (by simpa [h1]) ?_|refine xf (by simpa [h1]) ?_|apply wB|apply Qaa|refine wX ?_|refine wY ?_|refine wR ?_|refine wK ?_|refine wE ?_)
   simp [Quf,Qmp]
 | cons x r =>
   have:=isoe F caps lt D M hc P Q (P.length+(x::r).length:Nat) r [x] (by simp;omega) (by simp at hl ⊢;omega) (fun y hy=>by simp at hy;subst hy;exact hD _ (by simp)) (fun y hy=>hD y (by simp [hy]))
   rw [show P++([x]++(r++Q))=P++(x::r++Q) by simp,show ((P.length+[x].length:Nat):Int)=(P.length:Int)+1 by simp] at this
   have hs:Qmp lt [x] r=Qmp lt [] (x::r):=by simp [Qmp,Qri]
   rw [hs] at this
   generalize ((P.length+(x::r).length:Nat):Int)=n at *
   refine cW Jrz rfl ?_
   repeat (first|apply wA|apply wS|refine wr (by simp [w1];with_reducible rfl) ?_|refine wq (by simp [w1];with_reducible rfl) ?_|refine wt (by simpa [w1]) ?_|refine wf (by simpa [w1]) ?_|refine xt (by simpa [w1]) ?_|refine xf (by simpa [w1]) ?_|apply wB|apply Qaa|refine wX ?_|refine wY ?_|refine wR ?_|refine wK ?_|refine wE ?_)
   refine Qap this ?_
   rintro ex st ⟨rfl,k',rfl⟩
   simp [Quf]
end Go.Idl
namespace Go.Idl
open Go
@[simp] theorem Jy4 {α:Type} (A bs:List α) (x:α):(A++x::bs)[A.length]? = some x:=by simp
@[simp] theorem Jhz {α:Type} (A bs:List α) (x y:α):(A++x::bs).set A.length y=A++y::bs:=by
  rw [List.set_append_right _ _ (Nat.le_refl _)];simp
@[simp] theorem Juv {α:Type} (A:List α) (x y:α):(A++[x]).set A.length y=A++[y]:=Jhz A [] x y
end Go.Idl
namespace Go.Idl
open Go
def comp (d:List Int):List Int:=(List.range d.length).map fun k=>(d.length:Int) - 1 - d.getD k 0
end Go.Idl
namespace Go.Idl
abbrev tops (xs:List Int) (k:Nat):Int:=((fall xs).take k).sum
end Go.Idl
namespace Go.Idl
open Go
def ahead (x y:List Int) (i m:Nat):Bool:=(List.range m).all fun j=>decide ((y.take (i+j+1)).sum≤(x.take (i+j+1)).sum)
end Go.Idl
namespace Go.Idl
open Go
def Fit (es:List (Int×Int)):Prop:=∀ e ∈ es,-9223372036854775808≤e.1∧e.1 < 9223372036854775808∧-9223372036854775808≤e.2∧e.2 < 9223372036854775808
def Qam (a b:Int×Int):Bool:=decide (a.1 < b.1) || (decide (a.1=b.1) && decide (a.2 < b.2))
def Qmu (a b:Int×Int):Int:=if a.1=b.1 then a.2 - b.2 else a.1 - b.1
theorem Qb4 (a b:Int×Int):(decide (Qmu a b < 0))=Qam a b:=by
 unfold Qmu Qam
 rw [Bool.eq_iff_iff]
 simp only [decide_eq_true_eq,Bool.or_eq_true,Qba]
 split <;> omega
theorem Qfi (a b:Int×Int) (ha:0≤a.1∧a.1 < 9223372036854775808∧0≤a.2∧a.2 < 9223372036854775808) (hb:0≤b.1∧b.1 < 9223372036854775808∧0≤b.2∧b.2 < 9223372036854775808) (M:List Qal) :
 Ev tb Qy0 [] [.agg [I a.1,I a.2],.agg [I b.1,I b.2]] M ⟨I (Qmu a b),[],M,[]⟩:=by
 have w1:IntKind.i64.wrap (a.1 - b.1)=a.1 - b.1:=Qan (by omega) (by omega)
 have w2:IntKind.i64.wrap (a.2 - b.2)=a.2 - b.2:=Qan (by omega) (by omega)
 by_cases h:a.1=b.1
 · refine cW zt32 rfl ?_
   repeat (first|apply wA|apply wS|refine wr (by simp [h,w2];with_reducible rfl) ?_|refine wq (by simp [h,w2];with_reducible rfl) ?_|refine wt (by simpa [h,w2]) ?_|refine wf (by simpa [h,w2]) ?_|refine xt (by simpa [h,w2]) ?_|refine xf (by simpa [h,w2]) ?_|apply wB|apply Qaa|refine wX ?_|refine wY ?_|refine wR ?_|refine wK ?_|refine wE ?_)
   simp [Jq3,Qmu,h]
 · have h2:(a.1 != b.1)=true:=by simp [h]
   refine cW zt32 rfl ?_
   repeat (first|apply wA|apply wS|refine wr (by simp [h,h2,w1];with_reducible rfl) ?_|refine wq (by simp [h,h2,w1];with_reducible rfl) ?_|refine wt (by simpa [h,h2,w1]) ?_|refine wf (by simpa [h,h2,w1]) ?_|refine xt (by simpa [h,h2,w1]) ?_|refine xf (by simpa [h,h2,w1]) ?_|apply wB|apply Qaa|refine wX ?_|refine wY ?_|refine wR ?_|refine wK ?_|refine wE ?_)
   simp [Jq3,Qmu,h]
theorem Qib (a b:Int×Int):Ev tb Qsg [] [.agg [I a.1,I a.2],.agg [I b.1,I b.2]] [] ⟨Bo (Qam a b),[],[],[]⟩:=by
 by_cases h1:a.1 < b.1
 · refine cW Jfj rfl ?_
   repeat (first|apply wA|apply wS|refine wr (by simp [h1];with_reducible rfl) ?_|refine wq (by simp [h1];with_reducible rfl) ?_|refine wt (by simpa [h1]) ?_|refine wf (by simpa [h1]) ?_|refine xt (by simpa [h1]) ?_|refine xf (by simpa [h1]) ?_|apply wB|apply Qaa|refine wX ?_|refine wY ?_|refine wR ?_|refine wK ?_|refine wE ?_)
   simp [Qsr,Qam,h1]
 · by_cases h2:a.1=b.1
   · refine cW Jfj rfl ?_
     repeat (first|apply wA|apply wS|refine wr (by simp [h1,h2];with_reducible rfl) ?_|refine wq (by simp [h1,h2];with_reducible rfl) ?_|refine wt (by simpa [h1,h2]) ?_|refine wf (by simpa [h1,h2]) ?_|refine xt (by simpa [h1,h2]) ?_|refine xf (by simpa [h1,h2]) ?_|apply wB|apply Qaa|refine wX ?_|refine wY ?_|refine wR ?_|refine wK ?_|refine wE ?_)
     simp [Qsr,Qam,h1,h2]
   · refine cW Jfj rfl ?_
     repeat (first|apply wA|apply wS|refine wr (by simp [h1,h2];with_reducible rfl) ?_|refine wq (by simp [h1,h2];with_reducible rfl) ?_|refine wt (by simpa [h1,h2]) ?_|refine wf (by simpa [h1,h2]) ?_|refine xt (by simpa [h1,h2]) ?_|refine xf (by simpa [h1,h2]) ?_|apply wB|apply Qaa|refine wX ?_|refine wY ?_|refine wR ?_|refine wK ?_|refine wE ?_)
     simp [Qsr,Qam,h1,h2]
def okE (n:Int) (e:Int×Int):Bool:=decide (0≤e.1) && (decide (e.1 < e.2) && decide (e.2 < n))
def vEs (n:Int):Option (Int×Int)→List (Int×Int)→Bool
 | _,[]=>true
 | none,e::r=>okE n e && vEs n (some e) r
 | some q,e::r=>okE n e && (Qam q e && vEs n (some e) r)
def Qad (n:Int) (es:List (Int×Int)):Bool:=vEs n none es && (decide (0≤n) && decide (n≤7))
theorem Fit.at {es:List (Int×Int)} (h:Fit es) {i:Nat} (hi:i < es.length):-9223372036854775808≤es[i].1∧es[i].1 < 9223372036854775808∧-9223372036854775808≤es[i].2∧es[i].2 < 9223372036854775808:=h _ (List.getElem_mem hi)
theorem Jm8 (n:Int) (es:List (Int×Int)) (c:Bool) (hf:Fit es) (hl:es.length≤100000000):∀ (m i:Nat) (p:Option (Int×Int)) (bs:Qal),i+m=es.length →
 (i=0∧p=none ∨ ∃ j,∃ h:j < es.length,i=j+1∧p=some es[j]∧0≤es[j].1∧0≤es[j].2) →
 wp tb (.loop Jpx) { T:=[(1,.bptr 0 0 0),(6,L2 es c),(7,I es.length),(8,I i)],loc:=[I n,L2 es c]::bs,M:=[] }
  (fun ex st=>(vEs n p (es.drop i)=true∧ex=.exit 0∧∃ bs',st={ T:=[(1,.bptr 0 0 0),(6,L2 es c),(7,I es.length),(8,I es.length),(9,Bo false)],loc:=[I n,L2 es c]::bs',M:=[] }) ∨
    (vEs n p (es.drop i)=false∧ex=.ret∧∃ bs',st={ T:=[(2,Bo false)],loc:=[I n,L2 es c]::bs',M:=[] })):=by
 intro m
 induction m with
 | zero =>
   intro i p bs hi hp
   have h3:i=es.length:=hi
   subst h3
   refine wW ?_
   repeat (first|apply wA|apply wS|refine wr (by simp;with_reducible rfl) ?_|refine wq (by simp;with_reducible rfl) ?_|refine wt (by simpa) ?_|refine wf (by simpa) ?_|refine xt (by simpa) ?_|refine xf (by simpa) ?_|apply wB|apply Qaa|refine wX ?_|refine wY ?_|refine wR ?_|refine wK ?_|refine wE ?_)
   exact .inl ⟨by simp [vEs],rfl,bs,rfl⟩
 | succ m ih =>
   intro i p bs hi hp
   have hi2:i < es.length:=by omega
   have hd:es.drop i=es[i]::es.drop (i+1):=List.drop_eq_getElem_cons hi2
   have hfe:=hf.at hi2
   have w1:IntKind.i64.wrap ((i:Int)+1)=((i+1:Nat):Int):=Qbp (by omega)
   have bad:okE n es[i]=false→vEs n p (es.drop i)=false:=fun h=>by
    rw [hd];cases p <;> simp [vEs,h]
   by_cases h1:es[i].1 < 0
   · have hb:=bad (by simp [okE];omega)
     refine wW ?_
     repeat (first|apply wA|apply wS|refine wr (by simp [hi2,h1];with_reducible rfl) ?_|refine wq (by simp [hi2,h1];with_reducible rfl) ?_|refine wt (by simpa [hi2,h1]) ?_|refine wf (by simpa [hi2,h1]) ?_|refine xt (by simpa [hi2,h1]) ?_|refine xf (by simpa [hi2,h1]) ?_|apply wB|apply Qaa|refine wX ?_|refine wY ?_|refine wR ?_|refine wK ?_|refine wE ?_)
     exact .inr ⟨hb,rfl,_,rfl⟩
   by_cases h2:es[i].2≤es[i].1
   · have hb:=bad (by simp [okE];omega)
     refine wW ?_
     repeat (first|apply wA|apply wS|refine wr (by simp [hi2,h1,h2];with_reducible rfl) ?_|refine wq (by simp [hi2,h1,h2];with_reducible rfl) ?_|refine wt (by simpa [hi2,h1,h2]) ?_|refine wf (by simpa [hi2,h1,h2]) ?_|refine xt (by simpa [hi2,h1,h2]) ?_|refine xf (by simpa [hi2,h1,h2]) ?_|apply wB|apply Qaa|refine wX ?_|refine wY ?_|refine wR ?_|refine wK ?_|refine wE ?_)
     exact .inr ⟨hb,rfl,_,rfl⟩
   by_cases h3:n≤es[i].2
   · have hb:=bad (by simp [okE];omega)
     refine wW ?_
     repeat (first|apply wA|apply wS|refine wr (by simp [hi2,h1,h2,h3];with_reducible rfl) ?_|refine wq (by simp [hi2,h1,h2,h3];with_reducible rfl) ?_|refine wt (by simpa [hi2,h1,h2,h3]) ?_|refine wf (by simpa [hi2,h1,h2,h3]) ?_|refine xt (by simpa [hi2,h1,h2,h3]) ?_|refine xf (by simpa [hi2,h1,h2,h3]) ?_|apply wB|apply Qaa|refine wX ?_|refine wY ?_|refine wR ?_|refine wK ?_|refine wE ?_)
     exact .inr ⟨hb,rfl,_,rfl⟩
   have hok:okE n es[i]=true:=by simp [okE];omega
   rcases hp with ⟨rfl,rfl⟩ | ⟨j,hj,rfl,rfl,q1,q2⟩
   · have hn:=ih 1 (some es[0]) (bs++[[I es[0].1,I es[0].2]]) (by omega) (.inr ⟨0,hi2,rfl,rfl,by omega,by omega⟩)
     rw [hd]
     simp only [vEs,hok,Bool.true_and]
     refine wW ?_
     repeat (first|apply wA|apply wS|refine wr (by simp [hi2,h1,h2,h3,show IntKind.i64.wrap (1:Int)=1 from rfl];with_reducible rfl) ?_|refine wq (by simp [hi2,h1,h2,h3,show IntKind.i64.wrap (1:Int)=1 from rfl];with_reducible rfl) ?_|refine wt (by simpa [hi2,h1,h2,h3,show IntKind.i64.wrap (1:Int)=1 from rfl]) ?_|refine wf (by simpa [hi2,h1,h2,h3,show IntKind.i64.wrap (1:Int)=1 from rfl]) ?_|refine xt (by simpa [hi2,h1,h2,h3,show IntKind.i64.wrap (1:Int)=1 from rfl]) ?_|refine xf (by simpa [hi2,h1,h2,h3,show IntKind.i64.wrap (1:Int)=1 from rfl]) ?_|apply wB|apply Qaa|refine wX ?_|refine wY ?_|refine wR ?_|refine wK ?_|refine wE ?_)
     exact hn
   · have hfj:=hf.at hj
     have w2:IntKind.i64.wrap (j:Int)=(j:Int):=Jlr (by omega)
     have hj0:(0:Int) < (j:Int)+1:=by omega
     have hj1:(j:Int)+1 < (es.length:Int):=by omega
     have w3:IntKind.i64.wrap ((j:Int)+1+1)=((j+1+1:Nat):Int):=by rw [Qan (by omega) (by omega)];omega
     have e1:=Qab (Qfi es[j] es[j+1] ⟨q1,hfj.2.1,q2,hfj.2.2.2⟩ ⟨by omega,by omega,by omega,by omega⟩ [])
     have hcb:=Qb4 es[j] es[j+1]
     rw [hd]
     simp only [vEs,hok,Bool.true_and,← hcb]
     by_cases h4:0≤Qmu es[j] es[j+1]
     · have h5:decide (Qmu es[j] es[j+1] < 0)=false:=decide_eq_false (by omega)
       rw [h5]
       refine wW ?_
       repeat (first|apply wA|apply wS|refine wr (by simp [hi2,hj,h1,h2,h3,w2,hj0,hj1,e1,h4];with_reducible rfl) ?_|refine wq (by simp [hi2,hj,h1,h2,h3,w2,hj0,hj1,e1,h4];with_reducible rfl) ?_|refine wt (by simpa [hi2,hj,h1,h2,h3,w2,hj0,hj1,e1,h4]) ?_|refine wf (by simpa [hi2,hj,h1,h2,h3,w2,hj0,hj1,e1,h4]) ?_|refine xt (by simpa [hi2,hj,h1,h2,h3,w2,hj0,hj1,e1,h4]) ?_|refine xf (by simpa [hi2,hj,h1,h2,h3,w2,hj0,hj1,e1,h4]) ?_|apply wB|apply Qaa|refine wX ?_|refine wY ?_|refine wR ?_|refine wK ?_|refine wE ?_)
       exact .inr ⟨rfl,rfl,_,rfl⟩
     · have h5:decide (Qmu es[j] es[j+1] < 0)=true:=decide_eq_true (by omega)
       rw [h5]
       have hn:=ih (j+1+1) (some es[j+1]) (bs++[[I es[j+1].1,I es[j+1].2]]) (by omega) (.inr ⟨j+1,hi2,rfl,rfl,by omega,by omega⟩)
       simp only [Bool.true_and]
       refine wW ?_
       repeat (first|apply wA|apply wS|refine wr (by simp [hi2,hj,h1,h2,h3,w3,w2,hj0,hj1,e1,h4];with_reducible rfl) ?_|refine wq (by simp [hi2,hj,h1,h2,h3,w3,w2,hj0,hj1,e1,h4];with_reducible rfl) ?_|refine wt (by simpa [hi2,hj,h1,h2,h3,w3,w2,hj0,hj1,e1,h4]) ?_|refine wf (by simpa [hi2,hj,h1,h2,h3,w3,w2,hj0,hj1,e1,h4]) ?_|refine xt (by simpa [hi2,hj,h1,h2,h3,w3,w2,hj0,hj1,e1,h4]) ?_|refine xf (by simpa [hi2,hj,h1,h2,h3,w3,w2,hj0,hj1,e1,h4]) ?_|apply wB|apply Qaa|refine wX ?_|refine wY ?_|refine wR ?_|refine wK ?_|refine wE ?_)
       exact hn
theorem Qej (n:Int) (es:List (Int×Int)) (c:Bool) (hf:Fit es) (hl:es.length≤100000000):Ev tb Jf0 [] [Gr n es c] [] ⟨Bo (Qad n es),[],[],[]⟩:=by
 have e1:=Qab (Jx7 n 0 7)
 have hlo:=Jm8 n es c hf hl es.length 0 none [] (by simp) (.inl ⟨rfl,rfl⟩)
 refine cW zt26 rfl ?_
 repeat (first|apply wA|apply wS|refine wr (by simp;with_reducible rfl) ?_|refine wq (by simp;with_reducible rfl) ?_|refine wt (by simpa) ?_|refine wf (by simpa) ?_|refine xt (by simpa) ?_|refine xf (by simpa) ?_|apply wB|apply Qaa|refine wX ?_|refine wY ?_|refine wR ?_|refine wK ?_|refine wE ?_)
 refine Qap hlo ?_
 rintro ex st (⟨hv,rfl,bs,rfl⟩ | ⟨hv,rfl,bs,rfl⟩)
 · try simp only [if_true]
   repeat (first|apply wA|apply wS|refine wr (by simp [e1];with_reducible rfl) ?_|refine wq (by simp [e1];with_reducible rfl) ?_|refine wt (by simpa [e1]) ?_|refine wf (by simpa [e1]) ?_|refine xt (by simpa [e1]) ?_|refine xf (by simpa [e1]) ?_|apply wB|apply Qaa|refine wX ?_|refine wY ?_|refine wR ?_|refine wK ?_|refine wE ?_)
   simp only [List.drop_zero] at hv
   simp [Jmv,Qad,hv]
 · simp only [List.drop_zero] at hv
   simp [Jmv,Qad,hv]
theorem Jds (n:Int) (es:List (Int×Int)) (c:Bool) (hl:es.length≤100000000):∀ (m i:Nat) (p:Option (Int×Int)) (bs:Qal),i+m=es.length →
 (i=0∧p=none ∨ ∃ j,∃ h:j < es.length,i=j+1∧p=some es[j]) →
 wp tb (.loop Jc0) { T:=[(1,.bptr 0 0 0),(3,I i)],loc:=[I n,L2 es c]::bs,M:=[] }
  (fun ex st=>(vEs n p (es.drop i)=true∧ex=.exit 0∧∃ bs',st={ T:=[(1,.bptr 0 0 0),(3,I es.length),(9,Bo false)],loc:=[I n,L2 es c]::bs',M:=[] }) ∨
    (vEs n p (es.drop i)=false∧ex=.ret∧∃ bs',st={ T:=[(2,Bo false)],loc:=[I n,L2 es c]::bs',M:=[] })):=by
 intro m
 induction m with
 | zero =>
   intro i p bs hi hp
   have h3:i=es.length:=hi
   subst h3
   refine wW ?_
   repeat (first|apply wA|apply wS|refine wr (by simp;with_reducible rfl) ?_|refine wq (by simp;with_reducible rfl) ?_|refine wt (by simpa) ?_|refine wf (by simpa) ?_|refine xt (by simpa) ?_|refine xf (by simpa) ?_|apply wB|apply Qaa|refine wX ?_|refine wY ?_|refine wR ?_|refine wK ?_|refine wE ?_)
   exact .inl ⟨by simp [vEs],rfl,bs,rfl⟩
 | succ m ih =>
   intro i p bs hi hp
   have hi2:i < es.length:=by omega
   have hd:es.drop i=es[i]::es.drop (i+1):=List.drop_eq_getElem_cons hi2
   have w1:IntKind.i64.wrap ((i:Int)+1)=((i+1:Nat):Int):=Qbp (by omega)
   have bad:okE n es[i]=false→vEs n p (es.drop i)=false:=fun h=>by
    rw [hd];cases p <;> simp [vEs,h]
   by_cases h1:es[i].1 < 0
   · have hb:=bad (by simp [okE];omega)
     refine wW ?_
     repeat (first|apply wA|apply wS|refine wr (by simp [hi2,h1];with_reducible rfl) ?_|refine wq (by simp [hi2,h1];with_reducible rfl) ?_|refine wt (by simpa [hi2,h1]) ?_|refine wf (by simpa [hi2,h1]) ?_|refine xt (by simpa [hi2,h1]) ?_|refine xf (by simpa [hi2,h1]) ?_|apply wB|apply Qaa|refine wX ?_|refine wY ?_|refine wR ?_|refine wK ?_|refine wE ?_)
     exact .inr ⟨hb,rfl,_,rfl⟩
   by_cases h2:es[i].2≤es[i].1
   · have hb:=bad (by simp [okE];omega)
     refine wW ?_
     repeat (first|apply wA|apply wS|refine wr (by simp [hi2,h1,h2];with_reducible rfl) ?_|refine wq (by simp [hi2,h1,h2];with_reducible rfl) ?_|refine wt (by simpa [hi2,h1,h2]) ?_|refine wf (by simpa [hi2,h1,h2]) ?_|refine xt (by simpa [hi2,h1,h2]) ?_|refine xf (by simpa [hi2,h1,h2]) ?_|apply wB|apply Qaa|refine wX ?_|refine wY ?_|refine wR ?_|refine wK ?_|refine wE ?_)
     exact .inr ⟨hb,rfl,_,rfl⟩
   by_cases h3:n≤es[i].2
   · have hb:=bad (by simp [okE];omega)
     refine wW ?_
     repeat (first|apply wA|apply wS|refine wr (by simp [hi2,h1,h2,h3];with_reducible rfl) ?_|refine wq (by simp [hi2,h1,h2,h3];with_reducible rfl) ?_|refine wt (by simpa [hi2,h1,h2,h3]) ?_|refine wf (by simpa [hi2,h1,h2,h3]) ?_|refine xt (by simpa [hi2,h1,h2,h3]) ?_|refine xf (by simpa [hi2,h1,h2,h3]) ?_|apply wB|apply Qaa|refine wX ?_|refine wY ?_|refine wR ?_|refine wK ?_|refine wE ?_)
     exact .inr ⟨hb,rfl,_,rfl⟩
   have hok:okE n es[i]=true:=by simp [okE];omega
   rcases hp with ⟨rfl,rfl⟩ | ⟨j,hj,rfl,rfl⟩
   · have hn:=ih 1 (some es[0]) (bs++[[I es[0].1,I es[0].2]]) (by omega) (.inr ⟨0,hi2,rfl,rfl⟩)
     rw [hd]
     simp only [vEs,hok,Bool.true_and]
     refine wW ?_
     repeat (first|apply wA|apply wS|refine wr (by simp [hi2,h1,h2,h3,show IntKind.i64.wrap (1:Int)=1 from rfl];with_reducible rfl) ?_|refine wq (by simp [hi2,h1,h2,h3,show IntKind.i64.wrap (1:Int)=1 from rfl];with_reducible rfl) ?_|refine wt (by simpa [hi2,h1,h2,h3,show IntKind.i64.wrap (1:Int)=1 from rfl]) ?_|refine wf (by simpa [hi2,h1,h2,h3,show IntKind.i64.wrap (1:Int)=1 from rfl]) ?_|refine xt (by simpa [hi2,h1,h2,h3,show IntKind.i64.wrap (1:Int)=1 from rfl]) ?_|refine xf (by simpa [hi2,h1,h2,h3,show IntKind.i64.wrap (1:Int)=1 from rfl]) ?_|apply wB|apply Qaa|refine wX ?_|refine wY ?_|refine wR ?_|refine wK ?_|refine wE ?_)
     exact hn
   · have w2:IntKind.i64.wrap (j:Int)=(j:Int):=Jlr (by omega)
     have hj0:(0:Int) < (j:Int)+1:=by omega
     have hj1:(j:Int)+1 < (es.length:Int):=by omega
     have w3:IntKind.i64.wrap ((j:Int)+1+1)=((j+1+1:Nat):Int):=by rw [Qan (by omega) (by omega)];omega
     have e1:=Qab (Qib es[j] es[j+1])
     rw [hd]
     simp only [vEs,hok,Bool.true_and]
     cases h4:Qam es[j] es[j+1] with
     | false =>
       refine wW ?_
       repeat (first|apply wA|apply wS|refine wr (by simp [hi2,hj,h1,h2,h3,w2,hj0,hj1,e1,h4];with_reducible rfl) ?_|refine wq (by simp [hi2,hj,h1,h2,h3,w2,hj0,hj1,e1,h4];with_reducible rfl) ?_|refine wt (by simpa [hi2,hj,h1,h2,h3,w2,hj0,hj1,e1,h4]) ?_|refine wf (by simpa [hi2,hj,h1,h2,h3,w2,hj0,hj1,e1,h4]) ?_|refine xt (by simpa [hi2,hj,h1,h2,h3,w2,hj0,hj1,e1,h4]) ?_|refine xf (by simpa [hi2,hj,h1,h2,h3,w2,hj0,hj1,e1,h4]) ?_|apply wB|apply Qaa|refine wX ?_|refine wY ?_|refine wR ?_|refine wK ?_|refine wE ?_)
       exact .inr ⟨rfl,rfl,_,rfl⟩
     | true =>
       have hn:=ih (j+1+1) (some es[j+1]) (bs++[[I es[j+1].1,I es[j+1].2]]) (by omega) (.inr ⟨j+1,hi2,rfl,rfl⟩)
       simp only [Bool.true_and]
       refine wW ?_
       repeat (first|apply wA|apply wS|refine wr (by simp [hi2,hj,h1,h2,h3,w3,w2,hj0,hj1,e1,h4];with_reducible rfl) ?_|refine wq (by simp [hi2,hj,h1,h2,h3,w3,w2,hj0,hj1,e1,h4];with_reducible rfl) ?_|refine wt (by simpa [hi2,hj,h1,h2,h3,w3,w2,hj0,hj1,e1,h4]) ?_|refine wf (by simpa [hi2,hj,h1,h2,h3,w3,w2,hj0,hj1,e1,h4]) ?_|refine xt (by simpa [hi2,hj,h1,h2,h3,w3,w2,hj0,hj1,e1,h4]) ?_|refine xf (by simpa [hi2,hj,h1,h2,h3,w3,w2,hj0,hj1,e1,h4]) ?_|apply wB|apply Qaa|refine wX ?_|refine wY ?_|refine wR ?_|refine wK ?_|refine wE ?_)
       exact hn
theorem Qdi (n:Int) (es:List (Int×Int)) (c:Bool) (hl:es.length≤100000000):Ev tb Qs1 [] [Gr n es c] [] ⟨Bo (Qad n es),[],[],[]⟩:=by
 have e1:=Qab (Qsz n 0 7)
 have hlo:=Jds n es c hl es.length 0 none [] (by simp) (.inl ⟨rfl,rfl⟩)
 refine cW Jwp rfl ?_
 repeat (first|apply wA|apply wS|refine wr (by simp;with_reducible rfl) ?_|refine wq (by simp;with_reducible rfl) ?_|refine wt (by simpa) ?_|refine wf (by simpa) ?_|refine xt (by simpa) ?_|refine xf (by simpa) ?_|apply wB|apply Qaa|refine wX ?_|refine wY ?_|refine wR ?_|refine wK ?_|refine wE ?_)
 refine Qap hlo ?_
 rintro ex st (⟨hv,rfl,bs,rfl⟩ | ⟨hv,rfl,bs,rfl⟩)
 · try simp only [if_true]
   repeat (first|apply wA|apply wS|refine wr (by simp [e1];with_reducible rfl) ?_|refine wq (by simp [e1];with_reducible rfl) ?_|refine wt (by simpa [e1]) ?_|refine wf (by simpa [e1]) ?_|refine xt (by simpa [e1]) ?_|refine xf (by simpa [e1]) ?_|apply wB|apply Qaa|refine wX ?_|refine wY ?_|refine wR ?_|refine wK ?_|refine wE ?_)
   simp only [List.drop_zero] at hv
   simp [Qxb,Qad,hv]
 · simp only [List.drop_zero] at hv
   simp [Qxb,Qad,hv]
end Go.Idl
namespace Go.Idl
structure Seg {α:Type} (X X':List α) (a b:Nat):Prop where
 perm:X'.Perm X
 out:∀ k,k < a ∨ b≤k→X'[k]? = X[k]?
theorem Seg.len {α:Type} {X X':List α} {a b:Nat} (h:Seg X X' a b):X'.length=X.length:=h.perm.length_eq
theorem Seg.refl {α:Type} (X:List α) (a b:Nat):Seg X X a b:=⟨.refl _,fun _ _=>rfl⟩
theorem Seg.trans {α:Type} {X Y Z:List α} {a b:Nat} (h:Seg X Y a b) (k:Seg Y Z a b):Seg X Z a b:=⟨k.perm.trans h.perm,fun i hi=>(k.out i hi).trans (h.out i hi)⟩
theorem Seg.mono {α:Type} {X Y:List α} {a b a' b':Nat} (h:Seg X Y a b) (h1:a'≤a) (h2:b≤b'):Seg X Y a' b':=⟨h.perm,fun i hi=>h.out i (by omega)⟩
theorem Seg.nodup {α:Type} {X Y:List α} {a b:Nat} (h:Seg X Y a b) (hn:X.Nodup):Y.Nodup:=h.perm.nodup_iff.2 hn
def Qer {α:Type} (X:List α) (i j:Nat) (hi:i < X.length) (hj:j < X.length):List α:=(X.set i X[j]).set j X[i]
theorem Qnz {α:Type} (X:List α) (i j:Nat) (hi hj):(Qer X i j hi hj).length=X.length:=by simp [Qer]
theorem Qc9 {α:Type} (X:List α) (i j:Nat) (hi:i < X.length) (hj:j < X.length) (k:Nat):(Qer X i j hi hj)[k]? = if k=j then some X[i] else if k=i then some X[j] else X[k]?:=by
 rw [Qer,List.getElem?_set,List.getElem?_set]
 by_cases h1:k=j
 · subst h1;simp [hj]
 · by_cases h2:k=i
   · subst h2;simp [hi,h1,Ne.symm h1]
   · simp [h1,h2,Ne.symm h1,Ne.symm h2]
theorem Qs2 {α:Type} (X:List α) (i j:Nat) (hi:i < X.length) (hj:j < X.length):(Qer X i j hi hj).Perm X:=by
 exact List.set_set_perm hi hj
theorem Qfa {α:Type} (X:List α) (i j a b:Nat) (hi:i < X.length) (hj:j < X.length) (h1:a≤i∧i < b) (h2:a≤j∧j < b):Seg X (Qer X i j hi hj) a b :=
 ⟨Qs2 X i j hi hj,fun k hk=>by rw [Qc9,if_neg (by omega),if_neg (by omega)]⟩
theorem Seg.back {α:Type} {X Y:List α} {a b:Nat} (h:Seg X Y a b) (hn:X.Nodup) {k:Nat} (hk:a≤k∧k < b) {e:α} (he:Y[k]? = some e):∃ l,(a≤l∧l < b)∧X[l]? = some e:=by
 have hm:e ∈ X:=h.perm.mem_iff.1 (List.mem_of_getElem? he)
 obtain ⟨l,hl,rfl⟩:=List.getElem_of_mem hm
 by_cases hlb:a≤l∧l < b
 · exact ⟨l,hlb,List.getElem?_eq_getElem hl⟩
 · have h1:=h.out l (by omega)
   rw [List.getElem?_eq_getElem hl] at h1
   have hny:=h.nodup hn
   have hkl:k < Y.length:=(List.getElem?_eq_some_iff.1 he).1
   have hll:l < Y.length:=by rw [h.len];exact hl
   have h2:=(List.getElem?_eq_some_iff.1 he).2
   have h3:=(List.getElem?_eq_some_iff.1 h1).2
   have h4:k=l:=(List.getElem_inj hny).1 (h2.trans h3.symm)
   omega
end Go.Idl
namespace Go.Idl
open Go
def DE (x:Int×Int):Prop:=0≤x.1∧x.1 < 9223372036854775808∧0≤x.2∧x.2 < 9223372036854775808
abbrev fcE:IV:=.fn Qy0 []
theorem Qe5 {a b:Int×Int} (ha:DE a) (hb:DE b) (M:List Qal):Ev tb Qy0 [] [.agg [I a.1,I a.2],.agg [I b.1,I b.2]] M ⟨I (Qmu a b),[],M,[]⟩:=Qfi a b ha hb M
theorem Qul (X:List (Int×Int)) (hX:∀ x ∈ X,DE x) (i j s:Nat) (hi:i < X.length) (hj:j < X.length) (hs:s≤1000) (Ms Es:List Qal) :
 Ev tb Qnp [0] [O2 X,I i,I j,.bptr Ms.length 0 0,fcE] (Ms++[[I s]]::Es)
  ⟨.tup (if Qam X[j] X[i] then [I j,I i] else [I i,I j]),[O2 X],Ms++[[I (if Qam X[j] X[i] then s+1 else s:Nat)]]::Es,[]⟩:=by
 have hb:=Qb4 X[j] X[i]
 have e1:=fun M=>Qab (Qe5 (hX _ (List.getElem_mem hj)) (hX _ (List.getElem_mem hi)) M)
 have w1:IntKind.i64.wrap ((s:Int)+1)=(s:Int)+1:=Qan (by omega) (by omega)
 have hln:Ms.length+(Es.length+1+1)=Ms.length+(Es.length+1)+1:=by omega
 rw [← hb]
 by_cases hc:Qmu X[j] X[i] < 0
 · refine cW Jq5 rfl ?_
   repeat (first|apply wA|apply wS|refine wr (by simp [hi,hj,e1,hc,w1,hln];with_reducible rfl) ?_|refine wq (by simp [hi,hj,e1,hc,w1,hln];with_reducible rfl) ?_|refine wt (by simpa [hi,hj,e1,hc,w1,hln]) ?_|refine wf (by simpa [hi,hj,e1,hc,w1,hln]) ?_|refine xt (by simpa [hi,hj,e1,hc,w1,hln]) ?_|refine xf (by simpa [hi,hj,e1,hc,w1,hln]) ?_|apply wB|apply Qaa|refine wX ?_|refine wY ?_|refine wR ?_|refine wK ?_|refine wE ?_)
   simp [Qv2,hc]
 · refine cW Jq5 rfl ?_
   repeat (first|apply wA|apply wS|refine wr (by simp [hi,hj,e1,hc,w1,hln];with_reducible rfl) ?_|refine wq (by simp [hi,hj,e1,hc,w1,hln];with_reducible rfl) ?_|refine wt (by simpa [hi,hj,e1,hc,w1,hln]) ?_|refine wf (by simpa [hi,hj,e1,hc,w1,hln]) ?_|refine xt (by simpa [hi,hj,e1,hc,w1,hln]) ?_|refine xf (by simpa [hi,hj,e1,hc,w1,hln]) ?_|apply wB|apply Qaa|refine wX ?_|refine wY ?_|refine wR ?_|refine wK ?_|refine wE ?_)
   simp [Qv2,hc]
theorem Qb0 {a b:Int×Int} (h:a ≠ b):Qam a b=true ∨ Qam b a=true:=by
 simp only [Qam,Bool.or_eq_true,Qba,decide_eq_true_eq]
 have:¬ (a.1=b.1∧a.2=b.2):=fun h2=>h (Prod.ext h2.1 h2.2)
 omega
theorem Qeo {a b:Int×Int} (h:Qam a b=true):Qam b a=false:=by
 rw [← Bool.not_eq_true]
 simp only [Qam,Bool.or_eq_true,Qba,decide_eq_true_eq] at *
 omega
theorem Qpw (X:List (Int×Int)) (hX:∀ x ∈ X,DE x) (hn:X.Nodup) (i j s:Nat) (hi:i < X.length) (hj:j < X.length) (hij:i ≠ j) (hs:s≤1000) (Ms Es:List Qal) :
 ∃ a b s':Nat,((a=i∧b=j) ∨ (a=j∧b=i))∧s'≤s+1∧(∀ ha hb,Qam (X[a]'ha) (X[b]'hb)=true) ∧
   Qcm tb Qnp [0] [O2 X,I i,I j,.bptr Ms.length 0 0,fcE] (Ms++[[I s]]::Es)=some ⟨.tup [I a,I b],[O2 X],Ms++[[I s']]::Es,[]⟩:=by
 have e:=Qab (Qul X hX i j s hi hj hs Ms Es)
 have hne:X[i] ≠ X[j]:=fun h=>hij ((List.getElem_inj hn).1 h)
 cases hb:Qam X[j] X[i] with
 | true =>
   rw [hb] at e
   exact ⟨j,i,s+1,.inr ⟨rfl,rfl⟩,by omega,fun _ _=>hb,e⟩
 | false =>
   rw [hb] at e
   refine ⟨i,j,s,.inl ⟨rfl,rfl⟩,by omega,fun _ _=>?_,e⟩
   rcases Qb0 hne with h | h
   · exact h
   · rw [hb] at h;cases h
theorem Qx1 (X:List (Int×Int)) (hX:∀ x ∈ X,DE x) (hn:X.Nodup) (i j k s:Nat) (hi:i < X.length) (hj:j < X.length) (hk:k < X.length) (hij:i ≠ j) (hik:i ≠ k) (hjk:j ≠ k) (hs:s≤900) (Ms Es:List Qal) :
 ∃ m s':Nat,s'≤s+3∧(m=i ∨ m=j ∨ m=k)∧(∃ p,(p=i ∨ p=j ∨ p=k)∧∀ h1 h2,Qam (X[p]'h1) (X[m]'h2)=true)∧(∃ p,(p=i ∨ p=j ∨ p=k)∧∀ h1 h2,Qam (X[m]'h1) (X[p]'h2)=true) ∧
   Ev tb Qwh [0] [O2 X,I i,I j,I k,.bptr Ms.length 0 0,fcE] (Ms++[[I s]]::Es) ⟨I m,[O2 X],Ms++[[I s']]::Es,[]⟩:=by
 obtain ⟨a1,b1,s1,h1,k1,o1,e1⟩:=Qpw X hX hn i j s hi hj hij (by omega) Ms (Es++[[]])
 have ha1:a1 < X.length:=by omega
 have hb1:b1 < X.length:=by omega
 obtain ⟨b2,c2,s2,h2,k2,o2,e2⟩:=Qpw X hX hn b1 k s1 hb1 hk (by omega) (by omega) Ms (Es++[[]])
 have hb2:b2 < X.length:=by omega
 have hc2:c2 < X.length:=by omega
 obtain ⟨a3,b3,s3,h3,k3,o3,e3⟩:=Qpw X hX hn a1 b2 s2 ha1 hb2 (by omega) (by omega) Ms (Es++[[]])
 have ha3:a3 < X.length:=by omega
 have hb3:b3 < X.length:=by omega
 refine ⟨b3,s3,by omega,by omega,⟨a3,by omega,fun _ _=>o3 ha3 hb3⟩,?_,?_⟩
 · rcases h3 with ⟨_,rfl⟩ | ⟨_,rfl⟩
   · exact ⟨c2,by omega,fun _ _=>o2 hb2 hc2⟩
   · exact ⟨b1,by omega,fun _ _=>o1 ha1 hb1⟩
 · have hln:Ms.length+(Es.length+1+1)=Ms.length+(Es.length+1)+1:=by omega
   refine cW Jvw rfl ?_
   repeat (first|apply wA|apply wS|refine wr (by simp [e1,e2,e3,hln];with_reducible rfl) ?_|refine wq (by simp [e1,e2,e3,hln];with_reducible rfl) ?_|refine wt (by simpa [e1,e2,e3,hln]) ?_|refine wf (by simpa [e1,e2,e3,hln]) ?_|refine xt (by simpa [e1,e2,e3,hln]) ?_|refine xf (by simpa [e1,e2,e3,hln]) ?_|apply wB|apply Qaa|refine wX ?_|refine wY ?_|refine wR ?_|refine wK ?_|refine wE ?_)
   simp [Jb9]
set_option maxHeartbeats 2000000 in
theorem Qki (X:List (Int×Int)) (hX:∀ x ∈ X,DE x) (hn:X.Nodup) (hl:X.length≤2000000) (a n:Nat) (hab:a+n≤X.length) (h13:13≤n) (h49:n≤49) (M:List Qal) :
 ∃ (m:Nat) (hint:Int),(a≤m∧m < a+n)∧(hint=0 ∨ hint=1)∧(∃ p,(a≤p∧p < a+n)∧∀ h1 h2,Qam (X[p]'h1) (X[m]'h2)=true)∧(∃ p,(a≤p∧p < a+n)∧∀ h1 h2,Qam (X[m]'h1) (X[p]'h2)=true) ∧
   Ev tb Qxr [0] [O2 X,I a,I ((a:Int)+n),fcE] M ⟨.tup [I m,I hint],[O2 X],M,[]⟩:=by
 obtain ⟨q,hq⟩:∃ q,q=n / 4:=⟨_,rfl⟩
 have hq1:3≤q∧q * 3 < n:=by omega
 obtain ⟨m,s',h1,h2,⟨p1,h3,h4⟩,⟨p2,h5,h6⟩,e⟩:=Qx1 X hX hn (a+q) (a+q * 2) (a+q * 3) 0 (by omega) (by omega) (by omega) (by omega) (by omega) (by omega) (by omega) M []
 have e1:=Qab e
 have t1:(n:Int).tdiv 4=(q:Int):=by rw [Int.tdiv_eq_ediv_of_nonneg (by omega)];omega
 have w0:IntKind.i64.wrap (n:Int)=(n:Int):=Qan (by omega) (by omega)
 have w00:(a:Int)+n - a=n:=by omega
 have w1:IntKind.i64.wrap (q:Int)=(q:Int):=Qan (by omega) (by omega)
 have w2:IntKind.i64.wrap ((q:Int) * 2)=(q:Int) * 2:=Qan (by omega) (by omega)
 have w3:IntKind.i64.wrap ((q:Int) * 3)=(q:Int) * 3:=Qan (by omega) (by omega)
 have w4:IntKind.i64.wrap ((a:Int)+q)=(a:Int)+q:=Qan (by omega) (by omega)
 have w5:IntKind.i64.wrap ((a:Int)+q * 2)=(a:Int)+q * 2:=Qan (by omega) (by omega)
 have w6:IntKind.i64.wrap ((a:Int)+q * 3)=(a:Int)+q * 3:=Qan (by omega) (by omega)
 have g1:(8:Int)≤n:=by omega
 have g1':8≤n:=by omega
 have g2:¬ (50:Int)≤n:=by omega
 have g2':¬ 50≤n:=by omega
 rw [show ((a+q:Nat):Int)=(a:Int)+q by omega,show ((a+q * 2:Nat):Int)=(a:Int)+q * 2 by omega,show ((a+q * 3:Nat):Int)=(a:Int)+q * 3 by omega,show ((0:Nat):Int)=0 from rfl] at e1
 by_cases hs0:s'=0
 · subst hs0
   refine ⟨m,1,by omega,.inr rfl,⟨p1,by omega,h4⟩,⟨p2,by omega,h6⟩,?_⟩
   refine cW Jmf rfl ?_
   repeat (first|apply wA|apply wS|refine wr (by simp [e1,t1,w00,w0,w1,w2,w3,w4,w5,w6,g1,g2,g1',g2'];with_reducible rfl) ?_|refine wq (by simp [e1,t1,w00,w0,w1,w2,w3,w4,w5,w6,g1,g2,g1',g2'];with_reducible rfl) ?_|refine wt (by simpa [e1,t1,w00,w0,w1,w2,w3,w4,w5,w6,g1,g2,g1',g2']) ?_|refine wf (by simpa [e1,t1,w00,w0,w1,w2,w3,w4,w5,w6,g1,g2,g1',g2']) ?_|refine xt (by simpa [e1,t1,w00,w0,w1,w2,w3,w4,w5,w6,g1,g2,g1',g2']) ?_|refine xf (by simpa [e1,t1,w00,w0,w1,w2,w3,w4,w5,w6,g1,g2,g1',g2']) ?_|apply wB|apply Qaa|refine wX ?_|refine wY ?_|refine wR ?_|refine wK ?_|refine wE ?_)
   simp [Qu3]
 · have hs1:¬ (s':Int)=0:=by omega
   have hs2:¬ (s':Int)=12:=by omega
   have hs3:¬ s'=12:=by omega
   refine ⟨m,0,by omega,.inl rfl,⟨p1,by omega,h4⟩,⟨p2,by omega,h6⟩,?_⟩
   refine cW Jmf rfl ?_
   repeat (first|apply wA|apply wS|refine wr (by simp [e1,t1,w00,w0,w1,w2,w3,w4,w5,w6,g1,g2,g1',g2',hs0,hs1,hs2,hs3];with_reducible rfl) ?_|refine wq (by simp [e1,t1,w00,w0,w1,w2,w3,w4,w5,w6,g1,g2,g1',g2',hs0,hs1,hs2,hs3];with_reducible rfl) ?_|refine wt (by simpa [e1,t1,w00,w0,w1,w2,w3,w4,w5,w6,g1,g2,g1',g2',hs0,hs1,hs2,hs3]) ?_|refine wf (by simpa [e1,t1,w00,w0,w1,w2,w3,w4,w5,w6,g1,g2,g1',g2',hs0,hs1,hs2,hs3]) ?_|refine xt (by simpa [e1,t1,w00,w0,w1,w2,w3,w4,w5,w6,g1,g2,g1',g2',hs0,hs1,hs2,hs3]) ?_|refine xf (by simpa [e1,t1,w00,w0,w1,w2,w3,w4,w5,w6,g1,g2,g1',g2',hs0,hs1,hs2,hs3]) ?_|apply wB|apply Qaa|refine wX ?_|refine wY ?_|refine wR ?_|refine wK ?_|refine wE ?_)
   simp [Qu3]
end Go.Idl
namespace Go.Idl
open Go
def Qhf (X:List (Int×Int)) (lo hi:Nat) (x:Int×Int):Prop:=∀ k e,lo≤k→k < hi→X[k]? = some e→Qam e x=true
def Qeq (X:List (Int×Int)) (lo hi:Nat) (x:Int×Int):Prop:=∀ k e,lo≤k→k < hi→X[k]? = some e→Qam e x=false
theorem Qeq.cons {X:List (Int×Int)} {lo hi:Nat} {x:Int×Int} (h:Qeq X (lo+1) hi x) (hl:lo < X.length) (hb:Qam X[lo] x=false):Qeq X lo hi x:=fun k e h1 h2 he=>by
 by_cases hk:k=lo
 · subst hk
   rw [List.getElem?_eq_getElem hl] at he
   cases he;exact hb
 · exact h k e (by omega) h2 he
theorem Jge (X:List (Int×Int)) (hX:∀ x ∈ X,DE x) (hl:X.length≤2000000) (a j:Nat) (ha:a < X.length) (hj:j < X.length) (M:List Qal):∀ (m i:Nat),i+m=j+1 →
 wp tb (.loop Jde) { T:=[(0,O2 X),(1,I a),(4,fcE),(12,I i),(13,I j)],loc:=[],M:=M }
  (fun ex st=>ex=.exit 0∧∃ i':Nat,(i≤i'∧i'≤j+1∧Qhf X i i' X[a]∧(∀ h:i'≤j,Qam (X[i']'(by omega)) X[a]=false)) ∧
    st={ T:=[(0,O2 X),(1,I a),(4,fcE),(12,I i'),(13,I j),(47,Bo false)],loc:=[],M:=M }):=by
 intro m
 induction m with
 | zero =>
   intro i hi
   have h1:¬ i≤j:=by omega
   have h2:¬ (i:Int)≤j:=by omega
   refine wW ?_
   repeat (first|apply wA|apply wS|refine wr (by simp [h1,h2];with_reducible rfl) ?_|refine wq (by simp [h1,h2];with_reducible rfl) ?_|refine wt (by simpa [h1,h2]) ?_|refine wf (by simpa [h1,h2]) ?_|refine xt (by simpa [h1,h2]) ?_|refine xf (by simpa [h1,h2]) ?_|apply wB|apply Qaa|refine wX ?_|refine wY ?_|refine wR ?_|refine wK ?_|refine wE ?_)
   exact ⟨rfl,i,⟨Nat.le_refl _,by omega,fun k e k1 k2 _=>by omega,fun h=>absurd h h1⟩,rfl⟩
 | succ m ih =>
   intro i hi
   have h1:i≤j:=by omega
   have h2:(i:Int)≤j:=by omega
   have hi2:i < X.length:=by omega
   have w1:IntKind.i64.wrap ((i:Int)+1)=((i+1:Nat):Int):=Qbp (by omega)
   have hb:=Qb4 X[i] X[a]
   have e1:=fun M=>Qab (Qe5 (hX _ (List.getElem_mem hi2)) (hX _ (List.getElem_mem ha)) M)
   by_cases hc:Qmu X[i] X[a] < 0
   · have hbt:Qam X[i] X[a]=true:=by rw [← hb];exact decide_eq_true hc
     refine wW ?_
     repeat (first|apply wA|apply wS|refine wr (by simp [h1,h2,hi2,ha,e1,hc,w1];with_reducible rfl) ?_|refine wq (by simp [h1,h2,hi2,ha,e1,hc,w1];with_reducible rfl) ?_|refine wt (by simpa [h1,h2,hi2,ha,e1,hc,w1]) ?_|refine wf (by simpa [h1,h2,hi2,ha,e1,hc,w1]) ?_|refine xt (by simpa [h1,h2,hi2,ha,e1,hc,w1]) ?_|refine xf (by simpa [h1,h2,hi2,ha,e1,hc,w1]) ?_|apply wB|apply Qaa|refine wX ?_|refine wY ?_|refine wR ?_|refine wK ?_|refine wE ?_)
     refine Qap (ih (i+1) (by omega)) ?_
     rintro ex st ⟨rfl,i',⟨k1,k2,k3,k4⟩,rfl⟩
     refine ⟨rfl,i',⟨by omega,k2,fun k e q1 q2 q3=>?_,k4⟩,rfl⟩
     by_cases hk:k=i
     · subst hk
       rw [List.getElem?_eq_getElem hi2] at q3
       cases q3;exact hbt
     · exact k3 k e (by omega) q2 q3
   · have hbt:Qam X[i] X[a]=false:=by rw [← hb];exact decide_eq_false hc
     refine wW ?_
     repeat (first|apply wA|apply wS|refine wr (by simp [h1,h2,hi2,ha,e1,hc,w1];with_reducible rfl) ?_|refine wq (by simp [h1,h2,hi2,ha,e1,hc,w1];with_reducible rfl) ?_|refine wt (by simpa [h1,h2,hi2,ha,e1,hc,w1]) ?_|refine wf (by simpa [h1,h2,hi2,ha,e1,hc,w1]) ?_|refine xt (by simpa [h1,h2,hi2,ha,e1,hc,w1]) ?_|refine xf (by simpa [h1,h2,hi2,ha,e1,hc,w1]) ?_|apply wB|apply Qaa|refine wX ?_|refine wY ?_|refine wR ?_|refine wK ?_|refine wE ?_)
     exact ⟨rfl,i,⟨Nat.le_refl _,by omega,fun k e k1 k2 _=>by omega,fun _=>hbt⟩,rfl⟩
theorem Qyf (X:List (Int×Int)) (hX:∀ x ∈ X,DE x) (hl:X.length≤2000000) (a j:Nat) (ha:a < X.length) (hj:j < X.length) (M:List Qal):∀ (m i:Nat),i+m=j+1 →
 wp tb (.loop Qwm) { T:=[(0,O2 X),(1,I a),(4,fcE),(12,I i),(13,I j)],loc:=[],M:=M }
  (fun ex st=>ex=.exit 6∧∃ i':Nat,(i≤i'∧i'≤j+1∧Qhf X i i' X[a]∧(∀ h:i'≤j,Qam (X[i']'(by omega)) X[a]=false)) ∧
    st={ T:=[(0,O2 X),(1,I a),(4,fcE),(12,I i'),(13,I j),(120,Bo false)],loc:=[],M:=M }):=by
 intro m
 induction m with
 | zero =>
   intro i hi
   have h1:¬ i≤j:=by omega
   have h2:¬ (i:Int)≤j:=by omega
   refine wW ?_
   repeat (first|apply wA|apply wS|refine wr (by simp [h1,h2];with_reducible rfl) ?_|refine wq (by simp [h1,h2];with_reducible rfl) ?_|refine wt (by simpa [h1,h2]) ?_|refine wf (by simpa [h1,h2]) ?_|refine xt (by simpa [h1,h2]) ?_|refine xf (by simpa [h1,h2]) ?_|apply wB|apply Qaa|refine wX ?_|refine wY ?_|refine wR ?_|refine wK ?_|refine wE ?_)
   exact ⟨rfl,i,⟨Nat.le_refl _,by omega,fun k e k1 k2 _=>by omega,fun h=>absurd h h1⟩,rfl⟩
 | succ m ih =>
   intro i hi
   have h1:i≤j:=by omega
   have h2:(i:Int)≤j:=by omega
   have hi2:i < X.length:=by omega
   have w1:IntKind.i64.wrap ((i:Int)+1)=((i+1:Nat):Int):=Qbp (by omega)
   have hb:=Qb4 X[i] X[a]
   have e1:=fun M=>Qab (Qe5 (hX _ (List.getElem_mem hi2)) (hX _ (List.getElem_mem ha)) M)
   by_cases hc:Qmu X[i] X[a] < 0
   · have hbt:Qam X[i] X[a]=true:=by rw [← hb];exact decide_eq_true hc
     refine wW ?_
     repeat (first|apply wA|apply wS|refine wr (by simp [h1,h2,hi2,ha,e1,hc,w1];with_reducible rfl) ?_|refine wq (by simp [h1,h2,hi2,ha,e1,hc,w1];with_reducible rfl) ?_|refine wt (by simpa [h1,h2,hi2,ha,e1,hc,w1]) ?_|refine wf (by simpa [h1,h2,hi2,ha,e1,hc,w1]) ?_|refine xt (by simpa [h1,h2,hi2,ha,e1,hc,w1]) ?_|refine xf (by simpa [h1,h2,hi2,ha,e1,hc,w1]) ?_|apply wB|apply Qaa|refine wX ?_|refine wY ?_|refine wR ?_|refine wK ?_|refine wE ?_)
     refine Qap (ih (i+1) (by omega)) ?_
     rintro ex st ⟨rfl,i',⟨k1,k2,k3,k4⟩,rfl⟩
     refine ⟨rfl,i',⟨by omega,k2,fun k e q1 q2 q3=>?_,k4⟩,rfl⟩
     by_cases hk:k=i
     · subst hk
       rw [List.getElem?_eq_getElem hi2] at q3
       cases q3;exact hbt
     · exact k3 k e (by omega) q2 q3
   · have hbt:Qam X[i] X[a]=false:=by rw [← hb];exact decide_eq_false hc
     refine wW ?_
     repeat (first|apply wA|apply wS|refine wr (by simp [h1,h2,hi2,ha,e1,hc,w1];with_reducible rfl) ?_|refine wq (by simp [h1,h2,hi2,ha,e1,hc,w1];with_reducible rfl) ?_|refine wt (by simpa [h1,h2,hi2,ha,e1,hc,w1]) ?_|refine wf (by simpa [h1,h2,hi2,ha,e1,hc,w1]) ?_|refine xt (by simpa [h1,h2,hi2,ha,e1,hc,w1]) ?_|refine xf (by simpa [h1,h2,hi2,ha,e1,hc,w1]) ?_|apply wB|apply Qaa|refine wX ?_|refine wY ?_|refine wR ?_|refine wK ?_|refine wE ?_)
     exact ⟨rfl,i,⟨Nat.le_refl _,by omega,fun k e k1 k2 _=>by omega,fun _=>hbt⟩,rfl⟩
theorem Jgs (X:List (Int×Int)) (hX:∀ x ∈ X,DE x) (hl:X.length≤2000000) (a i:Nat) (ha:a < X.length) (h0:0 < i) (M:List Qal):∀ (m j:Nat) (f:Bool),i+m=j+1→j < X.length →
 wp tb (.loop Jc4) { T:=[(0,O2 X),(1,I a),(4,fcE),(12,I i),(13,I j)]++(if f then [(47,Bo false)] else []),loc:=[],M:=M }
  (fun ex st=>ex=.exit 2∧∃ j':Nat,(j'≤j∧i≤j'+1∧Qeq X (j'+1) (j+1) X[a]∧(i≤j'→∃ h:j' < X.length,Qam X[j'] X[a]=true)) ∧
    st={ T:=[(0,O2 X),(1,I a),(4,fcE),(12,I i),(13,I j'),(66,Bo false)],loc:=[],M:=M }):=by
 intro m
 induction m with
 | zero =>
   intro j f hj hjl
   have h1:¬ i≤j:=by omega
   have h2:¬ (i:Int)≤j:=by omega
   cases f
   all_goals
    simp only [if_true,if_false,Bool.false_eq_true,List.append_nil,List.cons_append,List.nil_append]
    refine wW ?_
    repeat (first|apply wA|apply wS|refine wr (by simp [h1,h2];with_reducible rfl) ?_|refine wq (by simp [h1,h2];with_reducible rfl) ?_|refine wt (by simpa [h1,h2]) ?_|refine wf (by simpa [h1,h2]) ?_|refine xt (by simpa [h1,h2]) ?_|refine xf (by simpa [h1,h2]) ?_|apply wB|apply Qaa|refine wX ?_|refine wY ?_|refine wR ?_|refine wK ?_|refine wE ?_)
    exact ⟨rfl,j,⟨Nat.le_refl _,by omega,fun k e k1 k2 _=>by omega,fun h=>absurd h h1⟩,rfl⟩
 | succ m ih =>
   intro j f hj hjl
   have h1:i≤j:=by omega
   have h2:(i:Int)≤j:=by omega
   obtain ⟨q,rfl⟩:∃ q,j=q+1:=⟨j - 1,by omega⟩
   have w1:IntKind.i64.wrap (q:Int)=(q:Int):=Qan (by omega) (by omega)
   have hb:=Qb4 X[q+1] X[a]
   have e1:=fun M=>Qab (Qe5 (hX _ (List.getElem_mem hjl)) (hX _ (List.getElem_mem ha)) M)
   have h3:(i:Int)≤(q:Int)+1:=by omega
   cases f
   all_goals
    simp only [if_true,if_false,Bool.false_eq_true,List.append_nil,List.cons_append,List.nil_append]
    by_cases hc:Qmu X[q+1] X[a] < 0
    · have hbt:Qam X[q+1] X[a]=true:=by rw [← hb];exact decide_eq_true hc
      refine wW ?_
      repeat (first|apply wA|apply wS|refine wr (by simp [h1,h2,h3,hjl,ha,e1,hc,w1];with_reducible rfl) ?_|refine wq (by simp [h1,h2,h3,hjl,ha,e1,hc,w1];with_reducible rfl) ?_|refine wt (by simpa [h1,h2,h3,hjl,ha,e1,hc,w1]) ?_|refine wf (by simpa [h1,h2,h3,hjl,ha,e1,hc,w1]) ?_|refine xt (by simpa [h1,h2,h3,hjl,ha,e1,hc,w1]) ?_|refine xf (by simpa [h1,h2,h3,hjl,ha,e1,hc,w1]) ?_|apply wB|apply Qaa|refine wX ?_|refine wY ?_|refine wR ?_|refine wK ?_|refine wE ?_)
      exact ⟨rfl,q+1,⟨Nat.le_refl _,by omega,fun k e k1 k2 _=>by omega,fun _=>⟨hjl,hbt⟩⟩,rfl⟩
    · have hbt:Qam X[q+1] X[a]=false:=by rw [← hb];exact decide_eq_false hc
      refine wW ?_
      repeat (first|apply wA|apply wS|refine wr (by simp [h1,h2,h3,hjl,ha,e1,hc,w1];with_reducible rfl) ?_|refine wq (by simp [h1,h2,h3,hjl,ha,e1,hc,w1];with_reducible rfl) ?_|refine wt (by simpa [h1,h2,h3,hjl,ha,e1,hc,w1]) ?_|refine wf (by simpa [h1,h2,h3,hjl,ha,e1,hc,w1]) ?_|refine xt (by simpa [h1,h2,h3,hjl,ha,e1,hc,w1]) ?_|refine xf (by simpa [h1,h2,h3,hjl,ha,e1,hc,w1]) ?_|apply wB|apply Qaa|refine wX ?_|refine wY ?_|refine wR ?_|refine wK ?_|refine wE ?_)
      refine Qap ((by simpa using ih q false (by omega) (by omega))) ?_
      rintro ex st ⟨rfl,j',⟨k1,k2,k3,k4⟩,rfl⟩
      refine ⟨rfl,j',⟨by omega,k2,fun k e q1 q2 q3=>?_,k4⟩,rfl⟩
      by_cases hk:k=q+1
      · subst hk
        rw [List.getElem?_eq_getElem hjl] at q3
        cases q3;exact hbt
      · exact k3 k e q1 (by omega) q3
theorem Qyu (X:List (Int×Int)) (hX:∀ x ∈ X,DE x) (hl:X.length≤2000000) (a i:Nat) (ha:a < X.length) (h0:0 < i) (M:List Qal):∀ (m j:Nat) (f:Bool),i+m=j+1→j < X.length →
 wp tb (.loop Qtl) { T:=[(0,O2 X),(1,I a),(4,fcE),(12,I i),(13,I j)]++(if f then [(120,Bo false)] else []),loc:=[],M:=M }
  (fun ex st=>ex=.exit 8∧∃ j':Nat,(j'≤j∧i≤j'+1∧Qeq X (j'+1) (j+1) X[a]∧(i≤j'→∃ h:j' < X.length,Qam X[j'] X[a]=true)) ∧
    st={ T:=[(0,O2 X),(1,I a),(4,fcE),(12,I i),(13,I j'),(139,Bo false)],loc:=[],M:=M }):=by
 intro m
 induction m with
 | zero =>
   intro j f hj hjl
   have h1:¬ i≤j:=by omega
   have h2:¬ (i:Int)≤j:=by omega
   cases f
   all_goals
    simp only [if_true,if_false,Bool.false_eq_true,List.append_nil,List.cons_append,List.nil_append]
    refine wW ?_
    repeat (first|apply wA|apply wS|refine wr (by simp [h1,h2];with_reducible rfl) ?_|refine wq (by simp [h1,h2];with_reducible rfl) ?_|refine wt (by simpa [h1,h2]) ?_|refine wf (by simpa [h1,h2]) ?_|refine xt (by simpa [h1,h2]) ?_|refine xf (by simpa [h1,h2]) ?_|apply wB|apply Qaa|refine wX ?_|refine wY ?_|refine wR ?_|refine wK ?_|refine wE ?_)
    exact ⟨rfl,j,⟨Nat.le_refl _,by omega,fun k e k1 k2 _=>by omega,fun h=>absurd h h1⟩,rfl⟩
 | succ m ih =>
   intro j f hj hjl
   have h1:i≤j:=by omega
   have h2:(i:Int)≤j:=by omega
   obtain ⟨q,rfl⟩:∃ q,j=q+1:=⟨j - 1,by omega⟩
   have w1:IntKind.i64.wrap (q:Int)=(q:Int):=Qan (by omega) (by omega)
   have hb:=Qb4 X[q+1] X[a]
   have e1:=fun M=>Qab (Qe5 (hX _ (List.getElem_mem hjl)) (hX _ (List.getElem_mem ha)) M)
   have h3:(i:Int)≤(q:Int)+1:=by omega
   cases f
   all_goals
    simp only [if_true,if_false,Bool.false_eq_true,List.append_nil,List.cons_append,List.nil_append]
    by_cases hc:Qmu X[q+1] X[a] < 0
    · have hbt:Qam X[q+1] X[a]=true:=by rw [← hb];exact decide_eq_true hc
      refine wW ?_
      repeat (first|apply wA|apply wS|refine wr (by simp [h1,h2,h3,hjl,ha,e1,hc,w1];with_reducible rfl) ?_|refine wq (by simp [h1,h2,h3,hjl,ha,e1,hc,w1];with_reducible rfl) ?_|refine wt (by simpa [h1,h2,h3,hjl,ha,e1,hc,w1]) ?_|refine wf (by simpa [h1,h2,h3,hjl,ha,e1,hc,w1]) ?_|refine xt (by simpa [h1,h2,h3,hjl,ha,e1,hc,w1]) ?_|refine xf (by simpa [h1,h2,h3,hjl,ha,e1,hc,w1]) ?_|apply wB|apply Qaa|refine wX ?_|refine wY ?_|refine wR ?_|refine wK ?_|refine wE ?_)
      exact ⟨rfl,q+1,⟨Nat.le_refl _,by omega,fun k e k1 k2 _=>by omega,fun _=>⟨hjl,hbt⟩⟩,rfl⟩
    · have hbt:Qam X[q+1] X[a]=false:=by rw [← hb];exact decide_eq_false hc
      refine wW ?_
      repeat (first|apply wA|apply wS|refine wr (by simp [h1,h2,h3,hjl,ha,e1,hc,w1];with_reducible rfl) ?_|refine wq (by simp [h1,h2,h3,hjl,ha,e1,hc,w1];with_reducible rfl) ?_|refine wt (by simpa [h1,h2,h3,hjl,ha,e1,hc,w1]) ?_|refine wf (by simpa [h1,h2,h3,hjl,ha,e1,hc,w1]) ?_|refine xt (by simpa [h1,h2,h3,hjl,ha,e1,hc,w1]) ?_|refine xf (by simpa [h1,h2,h3,hjl,ha,e1,hc,w1]) ?_|apply wB|apply Qaa|refine wX ?_|refine wY ?_|refine wR ?_|refine wK ?_|refine wE ?_)
      refine Qap ((by simpa using ih q false (by omega) (by omega))) ?_
      rintro ex st ⟨rfl,j',⟨k1,k2,k3,k4⟩,rfl⟩
      refine ⟨rfl,j',⟨by omega,k2,fun k e q1 q2 q3=>?_,k4⟩,rfl⟩
      by_cases hk:k=q+1
      · subst hk
        rw [List.getElem?_eq_getElem hjl] at q3
        cases q3;exact hbt
      · exact k3 k e q1 (by omega) q3
structure Qqv (X0 X:List (Int×Int)) (a b i j:Nat) (x:Int×Int):Prop where
 seg:Seg X0 X a b
 piv:X[a]? = some x
 lo:Qhf X (a+1) i x
 hi:Qeq X (j+1) b x
 ai:a+1≤i
 ij:i≤j+1
 jb:j < b
 bl:b≤X.length
theorem Qqv.al {X0 X a b i j x} (h:Qqv X0 X a b i j x):a < X.length:=(List.getElem?_eq_some_iff.1 h.piv).1
theorem Qqv.xa {X0 X a b i j x} (h:Qqv X0 X a b i j x):X[a]'h.al=x:=(List.getElem?_eq_some_iff.1 h.piv).2
theorem Qqv.swap {X0 X a b i j x} (h:Qqv X0 X a b i j x) (hi:i < X.length) (hj:j < X.length) (hij:i≤j) (h1:Qam X[i] x=false) (h2:Qam X[j] x=true) :
 ∃ q,j=q+1∧i < j∧Qqv X0 (Qer X i j hi hj) a b (i+1) q x:=by
 have hne:i ≠ j:=by rintro rfl;rw [h1] at h2;cases h2
 have hb:=h.bl
 have hjb:=h.jb
 have hai:=h.ai
 refine ⟨j - 1,by omega,by omega,h.seg.trans (Qfa X i j a b hi hj (by omega) (by omega)),?_,?_,?_,by omega,by omega,by omega,by rw [Qnz];exact hb⟩
 · rw [Qc9,if_neg (by omega),if_neg (by omega)];exact h.piv
 · intro k e k1 k2 he
   rw [Qc9,if_neg (by omega)] at he
   by_cases hk:k=i
   · rw [if_pos hk] at he
     cases he;exact h2
   · rw [if_neg hk] at he
     exact h.lo k e k1 (by omega) he
 · intro k e k1 k2 he
   rw [Qc9] at he
   by_cases hk:k=j
   · rw [if_pos hk] at he
     cases he;exact h1
   · rw [if_neg hk,if_neg (by omega)] at he
     exact h.hi k e (by omega) k2 he
theorem Jb5 (X0:List (Int×Int)) (hX0:∀ x ∈ X0,DE x) (hl:X0.length≤2000000) (a b:Nat) (x:Int×Int) (M:List Qal):∀ (m:Nat) (X:List (Int×Int)) (i j:Nat),j+1≤i+m→Qqv X0 X a b i j x →
 wp tb (.loop Qwn) { T:=[(0,O2 X),(1,I a),(4,fcE),(12,I i),(13,I j)],loc:=[],M:=M }
  (fun ex st=>ex=.exit 4∧∃ (X':List (Int×Int)) (j':Nat),Qqv X0 X' a b (j'+1) j' x∧st={ T:=[(0,O2 X'),(1,I a),(4,fcE),(12,I (j'+1:Nat)),(13,I j'),(144,Bo true)],loc:=[],M:=M }):=by
 intro m
 induction m with
 | zero =>
   intro X i j hm h
   have hij:=h.ij
   have hi:i=j+1:=by omega
   subst hi
   have hXl:=h.seg.len
   have hX:∀ y ∈ X,DE y:=fun y hy=>hX0 y (h.seg.perm.mem_iff.1 hy)
   have hjl:j < X.length:=by have:=h.jb;have:=h.bl;omega
   have hA:=Qyf X hX (by omega) a j h.al hjl M 0 (j+1) (by omega)
   have hB:=Qyu X hX (by omega) a (j+1) h.al (by omega) M 0 j true (by omega) hjl
   have g1:((j+1:Nat):Int) > (j:Int):=by omega
   refine wW ?_
   repeat (first|apply wA|apply wS|refine wr (by simp;with_reducible rfl) ?_|refine wq (by simp;with_reducible rfl) ?_|refine wt (by simpa) ?_|refine wf (by simpa) ?_|refine xt (by simpa) ?_|refine xf (by simpa) ?_|apply wB|apply Qaa|refine wX ?_|refine wY ?_|refine wR ?_|refine wK ?_|refine wE ?_)
   refine Qap hA ?_
   rintro ex st ⟨rfl,i',⟨k1,k2,-,-⟩,rfl⟩
   have:i'=j+1:=by omega
   subst this
   simp only [if_true]
   repeat (first|apply wA|apply wS|refine wr (by simp;with_reducible rfl) ?_|refine wq (by simp;with_reducible rfl) ?_|refine wt (by simpa) ?_|refine wf (by simpa) ?_|refine xt (by simpa) ?_|refine xf (by simpa) ?_|apply wB|apply Qaa|refine wX ?_|refine wY ?_|refine wR ?_|refine wK ?_|refine wE ?_)
   refine Qap hB ?_
   rintro ex st ⟨rfl,j',⟨k1,k2,-,-⟩,rfl⟩
   have:j'=j:=by omega
   subst this
   simp only [if_true]
   have g2:(j':Int) < (j':Int)+1:=by omega
   repeat (first|apply wA|apply wS|refine wr (by simp [g2];with_reducible rfl) ?_|refine wq (by simp [g2];with_reducible rfl) ?_|refine wt (by simpa [g2]) ?_|refine wf (by simpa [g2]) ?_|refine xt (by simpa [g2]) ?_|refine xf (by simpa [g2]) ?_|apply wB|apply Qaa|refine wX ?_|refine wY ?_|refine wR ?_|refine wK ?_|refine wE ?_)
   exact ⟨rfl,X,j',h,rfl⟩
 | succ m ih =>
   intro X i j hm h
   have hXl:=h.seg.len
   have hX:∀ y ∈ X,DE y:=fun y hy=>hX0 y (h.seg.perm.mem_iff.1 hy)
   have hjb:=h.jb
   have hbl:=h.bl
   have hai:=h.ai
   have hjl:j < X.length:=by omega
   have hxa:=h.xa
   obtain ⟨mm,hmm⟩:∃ mm,i+mm=j+1:=⟨j+1 - i,by have:=h.ij;omega⟩
   have hA:=Qyf X hX (by omega) a j h.al hjl M mm i hmm
   rw [hxa] at hA
   refine wW ?_
   repeat (first|apply wA|apply wS|refine wr (by simp;with_reducible rfl) ?_|refine wq (by simp;with_reducible rfl) ?_|refine wt (by simpa) ?_|refine wf (by simpa) ?_|refine xt (by simpa) ?_|refine xf (by simpa) ?_|apply wB|apply Qaa|refine wX ?_|refine wY ?_|refine wR ?_|refine wK ?_|refine wE ?_)
   refine Qap hA ?_
   rintro ex st ⟨rfl,i',⟨k1,k2,k3,k4⟩,rfl⟩
   simp only [if_true]
   obtain ⟨m2,hm2⟩:∃ m2,i'+m2=j+1:=⟨j+1 - i',by omega⟩
   have hB:=Qyu X hX (by omega) a i' h.al (by omega) M m2 j true hm2 hjl
   rw [hxa] at hB
   repeat (first|apply wA|apply wS|refine wr (by simp;with_reducible rfl) ?_|refine wq (by simp;with_reducible rfl) ?_|refine wt (by simpa) ?_|refine wf (by simpa) ?_|refine xt (by simpa) ?_|refine xf (by simpa) ?_|apply wB|apply Qaa|refine wX ?_|refine wY ?_|refine wR ?_|refine wK ?_|refine wE ?_)
   refine Qap hB ?_
   rintro ex st ⟨rfl,j',⟨q1,q2,q3,q4⟩,rfl⟩
   simp only [if_true]
   have h':Qqv X0 X a b i' j' x:=⟨h.seg,h.piv,fun k e a1 a2 a3=>by
    by_cases hk:k < i
    · exact h.lo k e a1 hk a3
    · exact k3 k e (by omega) a2 a3,fun k e a1 a2 a3=>by
    by_cases hk:j < k
    · exact h.hi k e (by omega) a2 a3
    · exact q3 k e a1 (by omega) a3,by omega,by omega,by omega,by omega⟩
   by_cases hij:i'≤j'
   · obtain ⟨hjl',hb2⟩:=q4 hij
     have hil':i' < X.length:=by omega
     obtain ⟨q,rfl,hlt,hP⟩:=h'.swap hil' hjl' hij (k4 (by omega)) hb2
     have g1:¬ ((q+1:Nat):Int) < (i':Int):=by omega
     have g2:¬ (q:Int)+1 < (i':Int):=by omega
     have w1:IntKind.i64.wrap ((i':Int)+1)=((i'+1:Nat):Int):=Qbp (by omega)
     have w2:IntKind.i64.wrap (q:Int)=(q:Int):=Qan (by omega) (by omega)
     have hn:=ih (Qer X i' (q+1) hil' hjl') (i'+1) q (by omega) hP
     repeat (first|apply wA|apply wS|refine wr (by simp [g1,g2,hil',hjl',w1,w2];with_reducible rfl) ?_|refine wq (by simp [g1,g2,hil',hjl',w1,w2];with_reducible rfl) ?_|refine wt (by simpa [g1,g2,hil',hjl',w1,w2]) ?_|refine wf (by simpa [g1,g2,hil',hjl',w1,w2]) ?_|refine xt (by simpa [g1,g2,hil',hjl',w1,w2]) ?_|refine xf (by simpa [g1,g2,hil',hjl',w1,w2]) ?_|apply wB|apply Qaa|refine wX ?_|refine wY ?_|refine wR ?_|refine wK ?_|refine wE ?_)
     exact hn
   · have hi3:i'=j'+1:=by omega
     subst hi3
     have g2:(j':Int) < (j':Int)+1:=by omega
     repeat (first|apply wA|apply wS|refine wr (by simp [g2];with_reducible rfl) ?_|refine wq (by simp [g2];with_reducible rfl) ?_|refine wt (by simpa [g2]) ?_|refine wf (by simpa [g2]) ?_|refine xt (by simpa [g2]) ?_|refine xf (by simpa [g2]) ?_|apply wB|apply Qaa|refine wX ?_|refine wY ?_|refine wR ?_|refine wK ?_|refine wE ?_)
     exact ⟨rfl,X,j',h',rfl⟩
theorem Qqv.fin {X0 X a b j x} (h:Qqv X0 X a b (j+1) j x) (hj:j < X.length):Seg X0 (Qer X j a hj h.al) a b∧(Qer X j a hj h.al)[j]? = some x∧Qhf (Qer X j a hj h.al) a j x∧Qeq (Qer X j a hj h.al) (j+1) b x:=by
 have hb:=h.bl
 have hjb:=h.jb
 have hai:=h.ai
 have hxa:=h.xa
 refine ⟨h.seg.trans (Qfa X j a a b hj h.al (by omega) (by omega)),?_,fun k e k1 k2 he=>?_,fun k e k1 k2 he=>?_⟩
 · rw [Qc9]
   by_cases hja:j=a
   · subst hja;rw [if_pos rfl,hxa]
   · rw [if_neg hja,if_pos rfl,hxa]
 · rw [Qc9] at he
   by_cases hka:k=a
   · rw [if_pos hka] at he
     cases he
     exact h.lo j _ (by omega) (by omega) (List.getElem?_eq_getElem hj)
   · rw [if_neg hka,if_neg (by omega)] at he
     exact h.lo k e (by omega) (by omega) he
 · rw [Qc9,if_neg (by omega),if_neg (by omega)] at he
   exact h.hi k e k1 k2 he
theorem Qmw (X:List (Int×Int)) (hX:∀ x ∈ X,DE x) (hl:X.length≤2000000) (a n p:Nat) (hn:2≤n) (hab:a+n≤X.length) (hp:a≤p∧p < a+n) (M:List Qal) :
 ∃ (X':List (Int×Int)) (mid:Nat) (t:Bool),Seg X X' a (a+n)∧(a≤mid∧mid < a+n)∧X'[mid]? = X[p]?∧(∀ x,X[p]? = some x→Qhf X' a mid x∧Qeq X' (mid+1) (a+n) x) ∧
   Ev tb Qrx [0] [O2 X,I a,I ((a:Int)+n),I p,fcE] M ⟨.tup [I mid,Bo t],[O2 X'],M,[]⟩:=by
 have hpl:p < X.length:=by omega
 have hal:a < X.length:=by omega
 obtain ⟨x,hx⟩:∃ x,x=X[p]:=⟨_,rfl⟩
 obtain ⟨j0,hj0⟩:∃ j0,j0=a+n - 1:=⟨_,rfl⟩
 have hP1:Qqv X (Qer X a p hal hpl) a (a+n) (a+1) j0 x:=by
  refine ⟨Qfa X a p a (a+n) hal hpl (by omega) (by omega),?_,fun k e k1 k2 _=>by omega,fun k e k1 k2 _=>by omega,by omega,by omega,by omega,by rw [Qnz];exact hab⟩
  rw [Qc9]
  by_cases hap:a=p
  · subst hap;rw [if_pos rfl,hx]
  · rw [if_neg hap,if_pos rfl,hx]
 have hXp:X[p]? = some x:=by rw [hx];exact List.getElem?_eq_getElem hpl
 rw [hXp]
 obtain ⟨X1,hX1⟩:∃ X1,X1=Qer X a p hal hpl:=⟨_,rfl⟩
 have hsw:(X.set a X[p]).set p X[a]=X1:=hX1.symm
 rw [← hX1] at hP1
 have hX1l:X1.length=X.length:=hP1.seg.len
 have hD1:∀ y ∈ X1,DE y:=fun y hy=>hX y (hP1.seg.perm.mem_iff.1 hy)
 have hj1:j0 < X1.length:=by omega
 have hal1:=hP1.al
 have hxa:=hP1.xa
 have w1:IntKind.i64.wrap ((a:Int)+1)=((a+1:Nat):Int):=Qbp (by omega)
 have w2:IntKind.i64.wrap ((a:Int)+n - 1)=(j0:Int):=by rw [Qan (by omega) (by omega)];omega
 suffices hh:∃ r,(∃ (X':List (Int×Int)) (mid:Nat) (t:Bool),Seg X X' a (a+n)∧(a≤mid∧mid < a+n)∧X'[mid]? = some x∧(Qhf X' a mid x∧Qeq X' (mid+1) (a+n) x)∧r=⟨.tup [I mid,Bo t],[O2 X'],M,[]⟩) ∧
  Ev tb Qrx [0] [O2 X,I a,I ((a:Int)+n),I p,fcE] M r by
  obtain ⟨r,⟨X',mid,t,q1,q2,q3,q4,rfl⟩,q5⟩:=hh
  exact ⟨X',mid,t,q1,q2,q3,fun y hy=>by cases hy;exact q4,q5⟩
 refine Qho Jzp rfl ?_
 have hA:=Jge X1 hD1 (by omega) a j0 hal1 hj1 M (j0 - a) (a+1) (by omega)
 rw [hxa] at hA
 repeat (first|apply wA|apply wS|refine wr (by simp [hpl,hal,hsw,w1,w2];with_reducible rfl) ?_|refine wq (by simp [hpl,hal,hsw,w1,w2];with_reducible rfl) ?_|refine wt (by simpa [hpl,hal,hsw,w1,w2]) ?_|refine wf (by simpa [hpl,hal,hsw,w1,w2]) ?_|refine xt (by simpa [hpl,hal,hsw,w1,w2]) ?_|refine xf (by simpa [hpl,hal,hsw,w1,w2]) ?_|apply wB|apply Qaa|refine wX ?_|refine wY ?_|refine wR ?_|refine wK ?_|refine wE ?_)
 refine Qap hA ?_
 rintro ex st ⟨rfl,i',⟨k1,k2,k3,k4⟩,rfl⟩
 simp only [if_true]
 have hB:=Jgs X1 hD1 (by omega) a i' hal1 (by omega) M (j0+1 - i') j0 true (by omega) hj1
 rw [hxa] at hB
 repeat (first|apply wA|apply wS|refine wr (by simp;with_reducible rfl) ?_|refine wq (by simp;with_reducible rfl) ?_|refine wt (by simpa) ?_|refine wf (by simpa) ?_|refine xt (by simpa) ?_|refine xf (by simpa) ?_|apply wB|apply Qaa|refine wX ?_|refine wY ?_|refine wR ?_|refine wK ?_|refine wE ?_)
 refine Qap hB ?_
 rintro ex st ⟨rfl,j',⟨q1,q2,q3,q4⟩,rfl⟩
 simp only [if_true]
 have h':Qqv X X1 a (a+n) i' j' x:=⟨hP1.seg,hP1.piv,k3,fun k e a1 a2 a3=>q3 k e a1 (by omega) a3,by omega,by omega,by omega,by omega⟩
 have hjl':j' < X1.length:=by omega
 by_cases hij:i'≤j'
 · obtain ⟨_,hb2⟩:=q4 hij
   have hil':i' < X1.length:=by omega
   obtain ⟨q,rfl,hlt,hP⟩:=h'.swap hil' hjl' hij (k4 (by omega)) hb2
   have g2:¬ (q:Int)+1 < (i':Int):=by omega
   have w3:IntKind.i64.wrap ((i':Int)+1)=((i'+1:Nat):Int):=Qbp (by omega)
   have w4:IntKind.i64.wrap (q:Int)=(q:Int):=Qan (by omega) (by omega)
   repeat (first|apply wA|apply wS|refine wr (by simp [g2,hil',hjl',w3,w4];with_reducible rfl) ?_|refine wq (by simp [g2,hil',hjl',w3,w4];with_reducible rfl) ?_|refine wt (by simpa [g2,hil',hjl',w3,w4]) ?_|refine wf (by simpa [g2,hil',hjl',w3,w4]) ?_|refine xt (by simpa [g2,hil',hjl',w3,w4]) ?_|refine xf (by simpa [g2,hil',hjl',w3,w4]) ?_|apply wB|apply Qaa|refine wX ?_|refine wY ?_|refine wR ?_|refine wK ?_|refine wE ?_)
   refine Qap (Jb5 X hX hl a (a+n) x M (q+1) (Qer X1 i' (q+1) hil' hjl') (i'+1) q (by omega) hP) ?_
   rintro ex st ⟨rfl,X2,j2,hP2,rfl⟩
   simp only [if_true]
   have hj2:j2 < X2.length:=by have:=hP2.jb;have:=hP2.bl;omega
   have hal2:=hP2.al
   obtain ⟨f1,f2,f3,f4⟩:=hP2.fin hj2
   obtain ⟨X3,hX3⟩:∃ X3,X3=Qer X2 j2 a hj2 hal2:=⟨_,rfl⟩
   have hsw3:(X2.set j2 X2[a]).set a X2[j2]=X3:=hX3.symm
   rw [← hX3] at f1 f2 f3 f4
   repeat (first|apply wA|apply wS|refine wr (by simp [hj2,hal2,hsw3];with_reducible rfl) ?_|refine wq (by simp [hj2,hal2,hsw3];with_reducible rfl) ?_|refine wt (by simpa [hj2,hal2,hsw3]) ?_|refine wf (by simpa [hj2,hal2,hsw3]) ?_|refine xt (by simpa [hj2,hal2,hsw3]) ?_|refine xf (by simpa [hj2,hal2,hsw3]) ?_|apply wB|apply Qaa|refine wX ?_|refine wY ?_|refine wR ?_|refine wK ?_|refine wE ?_)
   refine ⟨.inr rfl,_,⟨X3,j2,false,f1,⟨by have:=hP2.ai;omega,hP2.jb⟩,f2,⟨f3,f4⟩,rfl⟩,?_⟩
   simp [Qw5]
 · have hi3:i'=j'+1:=by omega
   subst hi3
   have g2:(j':Int) < (j':Int)+1:=by omega
   obtain ⟨f1,f2,f3,f4⟩:=h'.fin hjl'
   obtain ⟨X3,hX3⟩:∃ X3,X3=Qer X1 j' a hjl' hal1:=⟨_,rfl⟩
   have hsw3:(X1.set j' X1[a]).set a X1[j']=X3:=hX3.symm
   rw [← hX3] at f1 f2 f3 f4
   repeat (first|apply wA|apply wS|refine wr (by simp [g2,hjl',hal1,hsw3];with_reducible rfl) ?_|refine wq (by simp [g2,hjl',hal1,hsw3];with_reducible rfl) ?_|refine wt (by simpa [g2,hjl',hal1,hsw3]) ?_|refine wf (by simpa [g2,hjl',hal1,hsw3]) ?_|refine xt (by simpa [g2,hjl',hal1,hsw3]) ?_|refine xf (by simpa [g2,hjl',hal1,hsw3]) ?_|apply wB|apply Qaa|refine wX ?_|refine wY ?_|refine wR ?_|refine wK ?_|refine wE ?_)
   refine ⟨.inr rfl,_,⟨X3,j',true,f1,⟨by omega,by omega⟩,f2,⟨f3,f4⟩,rfl⟩,?_⟩
   simp [Qw5]
end Go.Idl
namespace Go.Idl
open Go
abbrev U (n:Int):IV:=.sc (.int .u64 n)
def wU (n:Int):Int:=IntKind.u64.wrap n
def Qv7 (a b:Int):Int:=wU (BitVec.ofInt 64 a ^^^ BitVec.ofInt 64 b).toNat
def Jtj (a b:Int):Int:=wU (BitVec.ofInt 64 a &&& BitVec.ofInt 64 b).toNat
theorem Jef (a b:Int):binOp .xor 0 (.int .u64 a) (.int .u64 b)=.pure (.int .u64 (Qv7 a b)):=rfl
theorem b_and (a b:Int):binOp .and 0 (.int .u64 a) (.int .u64 b)=.pure (.int .u64 (Jtj a b)):=rfl
theorem Jft (a:Int):binOp .shl 0 (.int .u64 a) (.int .u64 13)=.pure (.int .u64 (wU (a * 2 ^ 13))):=rfl
theorem Jir (a:Int):binOp .shl 0 (.int .u64 a) (.int .u64 17)=.pure (.int .u64 (wU (a * 2 ^ 17))):=rfl
theorem Jsc (a:Int):binOp .shr 0 (.int .u64 a) (.int .u64 7)=.pure (.int .u64 (a.fdiv (2 ^ 7))):=rfl
theorem Jyx (n:Int):wU n=n % 18446744073709551616:=rfl
theorem Jey {a b:Int} (h0:0≤b) (h1:b < 18446744073709551616):0≤Jtj a b∧Jtj a b≤b:=by
 have h2:(BitVec.ofInt 64 a &&& BitVec.ofInt 64 b).toNat≤(BitVec.ofInt 64 b).toNat:=by
  rw [BitVec.toNat_and];exact Nat.and_le_right
 have h3:(BitVec.ofInt 64 b).toNat=b.toNat:=by
  rw [BitVec.toNat_ofInt];congr 1;exact Int.emod_eq_of_lt h0 h1
 rw [h3] at h2
 rw [Jtj,Jyx]
 generalize (BitVec.ofInt 64 a &&& BitVec.ofInt 64 b).toNat=z at *
 omega
theorem Jgy (s:Int) (Ms Es:List Qal):∃ s':Int,Ev tb Qwr [] [.bptr Ms.length 0 0] (Ms++[[U s]]::Es) ⟨U s',[],Ms++[[U s']]::Es,[]⟩:=by
 refine ⟨Qv7 (Qv7 (Qv7 s (wU (s * 2 ^ 13))) ((Qv7 s (wU (s * 2 ^ 13))).fdiv (2 ^ 7))) (wU (Qv7 (Qv7 s (wU (s * 2 ^ 13))) ((Qv7 s (wU (s * 2 ^ 13))).fdiv (2 ^ 7)) * 2 ^ 17)),?_⟩
 have x1:=Jef s (wU (s * 2 ^ 13))
 have x0:=Jft s
 generalize wU (s * 2 ^ 13)=a at *
 generalize Qv7 s a=b at *
 have y0:=Jsc b
 generalize b.fdiv (2 ^ 7)=c at *
 have y1:=Jef b c
 generalize Qv7 b c=d at *
 have z0:=Jir d
 generalize wU (d * 2 ^ 17)=e at *
 have z1:=Jef d e
 generalize Qv7 d e=f at *
 refine cW Jzq rfl ?_
 repeat (first|apply wA|apply wS|refine wr (by simp [x0,x1,y0,y1,z0,z1];with_reducible rfl) ?_|refine wq (by simp [x0,x1,y0,y1,z0,z1];with_reducible rfl) ?_|refine wt (by simpa [x0,x1,y0,y1,z0,z1]) ?_|refine wf (by simpa [x0,x1,y0,y1,z0,z1]) ?_|refine xt (by simpa [x0,x1,y0,y1,z0,z1]) ?_|refine xf (by simpa [x0,x1,y0,y1,z0,z1]) ?_|apply wB|apply Qaa|refine wX ?_|refine wY ?_|refine wR ?_|refine wK ?_|refine wE ?_)
 simp [Jam]
theorem Jyr (cf:CF) (n:Int) (m:Nat) (g:ByteArray) (b:UInt8) (k:Nat) (hw:IntKind.u8.wrap n=(m:Int)) (hb:g[m]? = some b) (hk:b.toNat=k) :
 ∃ st,Qag cf { T:=[(0,.sc (.int .u64 n)),(2,I 0),(14,Bo false)],loc:=[],M:=[] } [⟨some 19,none,.mv (.t 2)⟩,⟨some 20,none,.mv (.t 0)⟩,⟨some 21,none,.conv .u8 (.t 20)⟩,⟨some 22,none,.idxs (.c (.string g)) (.t 21)⟩,⟨some 23,none,.conv .i64 (.t 22)⟩,⟨some 24,none,.bin .add (.t 19) (.t 23)⟩,⟨some 2,none,.asg (.t 24)⟩]=some st∧st.cut [2]={ T:=[(2,I k)],loc:=[],M:=[] }:=by
 subst hk
 have hbl:b.toNat < 256:=b.toNat_lt
 have w1:IntKind.i64.wrap (b.toNat:Int)=(b.toNat:Int):=Qan (by omega) (by omega)
 refine ⟨_,by simp [hw,hb];rfl,by simp [w1]⟩
def Qtk (n:Nat):Nat:=if n≤0 then 0 else if n≤1 then 1 else if n≤3 then 2 else if n≤7 then 3 else if n≤15 then 4 else 5
set_option maxRecDepth 100000 in
set_option maxHeartbeats 4000000 in
theorem Qyr (n:Nat) (hn:n≤21):Ev tb Jkm [] [.sc (.int .u64 n)] [] ⟨I (Qtk n),[],[],[]⟩:=by
 have cs:n=0 ∨ n=1 ∨ n=2 ∨ n=3 ∨ n=4 ∨ n=5 ∨ n=6 ∨ n=7 ∨ n=8 ∨ n=9 ∨ n=10 ∨ n=11 ∨ n=12 ∨ n=13 ∨ n=14 ∨ n=15 ∨ n=16 ∨ n=17 ∨ n=18 ∨ n=19 ∨ n=20 ∨ n=21:=by omega
 have w8:IntKind.u8.wrap (n:Int)=(n:Int):=by
  rcases cs with rfl | rfl | rfl | rfl | rfl | rfl | rfl | rfl | rfl | rfl | rfl | rfl | rfl | rfl | rfl | rfl | rfl | rfl | rfl | rfl | rfl | rfl <;> rfl
 have key:∃ st,Qag (Qcm tb) { T:=[(0,.sc (.int .u64 n)),(2,I 0),(14,Bo false)],loc:=[],M:=[] } (match Jcz with | .reg ops _ _=>ops | _=>[])=some st∧st.cut [2]={ T:=[(2,I (Qtk n))],loc:=[],M:=[] }:=by
  rcases cs with rfl | rfl | rfl | rfl | rfl | rfl | rfl | rfl | rfl | rfl | rfl | rfl | rfl | rfl | rfl | rfl | rfl | rfl | rfl | rfl | rfl | rfl
  all_goals
   exact Jyr (Qcm tb) _ _ _ _ _ w8 rfl rfl
 obtain ⟨st,h1,h2⟩:=key
 have g1:¬ (4294967296:Int)≤n:=by omega
 have g2:¬ (65536:Int)≤n:=by omega
 have g3:¬ (256:Int)≤n:=by omega
 refine cW zt68 rfl ?_
 iterate 4 ((first|apply wA|skip);refine Qf1 (by simp [g1,g2,g3];rfl) (by simp;rfl) ?_;(first|refine Qpt (t:=false) (by simp) (by simp) (fun _=>?_)|skip);(first|apply wS|skip))
 refine Qf1 h1 h2 ?_
 refine wR ?_
 simp [Jus]
theorem Qv9 (n:Nat) (hn:n≤21):Ev tb Jjx [] [.sc (.int .u64 n)] [] ⟨I (Qtk n),[],[],[]⟩:=by
 have e1:=Qab (Qyr n hn)
 refine cW zt66 rfl ?_
 repeat (first|apply wA|apply wS|refine wr (by simp [e1];with_reducible rfl) ?_|refine wq (by simp [e1];with_reducible rfl) ?_|refine wt (by simpa [e1]) ?_|refine wf (by simpa [e1]) ?_|refine xt (by simpa [e1]) ?_|refine xf (by simpa [e1]) ?_|apply wB|apply Qaa|refine wX ?_|refine wY ?_|refine wR ?_|refine wK ?_|refine wE ?_)
 simp [Jup]
def npo (n:Nat):Int:=if n≤15 then 16 else 32
theorem Jrd (n:Nat) (h1:13≤n) (h2:n≤21):Ev tb Jtt [] [I n] [] ⟨U (npo n),[],[],[]⟩:=by
 have e1:=Qab (Qv9 n h2)
 have w1:=@Jez n (by omega)
 by_cases h:n≤15
 · rw [show Qtk n=4 by rw [Qtk,if_neg (by omega),if_neg (by omega),if_neg (by omega),if_neg (by omega),if_pos h],show ((4:Nat):Int)=4 from rfl] at e1
   have s1:binOp .shl 0 (.int .u64 1) (.int .i64 4)=.pure (.int .u64 16):=rfl
   rw [npo,if_pos h]
   refine cW zt91 rfl ?_
   repeat (first|apply wA|apply wS|refine wr (by simp [e1,w1,s1];with_reducible rfl) ?_|refine wq (by simp [e1,w1,s1];with_reducible rfl) ?_|refine wt (by simpa [e1,w1,s1]) ?_|refine wf (by simpa [e1,w1,s1]) ?_|refine xt (by simpa [e1,w1,s1]) ?_|refine xf (by simpa [e1,w1,s1]) ?_|apply wB|apply Qaa|refine wX ?_|refine wY ?_|refine wR ?_|refine wK ?_|refine wE ?_)
   simp [Juk]
   try rfl
 · rw [show Qtk n=5 by rw [Qtk,if_neg (by omega),if_neg (by omega),if_neg (by omega),if_neg (by omega),if_neg h],show ((5:Nat):Int)=5 from rfl] at e1
   have s1:binOp .shl 0 (.int .u64 1) (.int .i64 5)=.pure (.int .u64 32):=rfl
   rw [npo,if_neg h]
   refine cW zt91 rfl ?_
   repeat (first|apply wA|apply wS|refine wr (by simp [e1,w1,s1];with_reducible rfl) ?_|refine wq (by simp [e1,w1,s1];with_reducible rfl) ?_|refine wt (by simpa [e1,w1,s1]) ?_|refine wf (by simpa [e1,w1,s1]) ?_|refine xt (by simpa [e1,w1,s1]) ?_|refine xf (by simpa [e1,w1,s1]) ?_|apply wB|apply Qaa|refine wX ?_|refine wY ?_|refine wR ?_|refine wK ?_|refine wE ?_)
   simp [Juk]
   try rfl
set_option maxHeartbeats 2000000 in
theorem Jfc (X0:List (Int×Int)) (hX0:X0.length≤2000000) (a n q:Nat) (hq:q=n / 4) (h13:13≤n) (h21:n≤21) (hab:a+n≤X0.length) (M:List Qal):∀ (m:Nat) (X:List (Int×Int)) (k:Nat) (s:Int),k+m=a+q * 2+2→a≤k→Seg X0 X a (a+n) →
 wp tb (.loop Qwf) { T:=[(0,O2 X),(1,I a),(8,I n),(9,.bptr M.length 0 0),(10,U (npo n)),(11,I k)],loc:=[[U s]],M:=M }
  (fun ex st=>ex=.exit 0∧∃ (X':List (Int×Int)) (s':Int) (k':Nat),Seg X0 X' a (a+n)∧st={ T:=[(0,O2 X'),(1,I a),(8,I n),(9,.bptr M.length 0 0),(10,U (npo n)),(11,I k'),(35,Bo false)],loc:=[[U s']],M:=M }):=by
 have t1:(n:Int).tdiv 4=(q:Int):=by rw [Int.tdiv_eq_ediv_of_nonneg (by omega)];omega
 have w1:IntKind.i64.wrap (q:Int)=(q:Int):=Qan (by omega) (by omega)
 have w2:IntKind.i64.wrap ((q:Int) * 2)=(q:Int) * 2:=Qan (by omega) (by omega)
 have w3:IntKind.i64.wrap ((a:Int)+q * 2)=(a:Int)+q * 2:=Qan (by omega) (by omega)
 have w4:IntKind.i64.wrap ((a:Int)+q * 2+1)=(a:Int)+q * 2+1:=Qan (by omega) (by omega)
 intro m
 induction m with
 | zero =>
   intro X k s hk ha hS
   have g1:¬ (k:Int)≤(a:Int)+q * 2+1:=by omega
   refine wW ?_
   repeat (first|apply wA|apply wS|refine wr (by simp [t1,w1,w2,w3,w4,g1];with_reducible rfl) ?_|refine wq (by simp [t1,w1,w2,w3,w4,g1];with_reducible rfl) ?_|refine wt (by simpa [t1,w1,w2,w3,w4,g1]) ?_|refine wf (by simpa [t1,w1,w2,w3,w4,g1]) ?_|refine xt (by simpa [t1,w1,w2,w3,w4,g1]) ?_|refine xf (by simpa [t1,w1,w2,w3,w4,g1]) ?_|apply wB|apply Qaa|refine wX ?_|refine wY ?_|refine wR ?_|refine wK ?_|refine wE ?_)
   exact ⟨rfl,X,s,k,hS,rfl⟩
 | succ m ih =>
   intro X k s hk ha hS
   have hXl:=hS.len
   have g1:(k:Int)≤(a:Int)+q * 2+1:=by omega
   have hkl:k < X.length:=by omega
   obtain ⟨s',hs'⟩:=Jgy s M []
   have e1:=Qab hs'
   have hnp:npo n=16∧n≤15 ∨ npo n=32∧16≤n:=by
    rw [npo];split <;> omega
   have wU1:IntKind.u64.wrap (npo n - 1)=npo n - 1:=by
    rcases hnp with ⟨h,_⟩ | ⟨h,_⟩ <;> rw [h] <;> rfl
   have hand:=Jey (a:=s') (b:=npo n - 1) (by omega) (by omega)
   have a1:=b_and s' (npo n - 1)
   generalize Jtj s' (npo n - 1)=o at *
   obtain ⟨o,rfl⟩:=Int.eq_ofNat_of_zero_le hand.1
   have w5:IntKind.i64.wrap (o:Int)=(o:Int):=Qan (by omega) (by omega)
   have w6:IntKind.i64.wrap ((k:Int)+1)=((k+1:Nat):Int):=Qbp (by omega)
   by_cases ho:(n:Int)≤o
   · have ho':n≤o:=by omega
     obtain ⟨p,hp⟩:∃ p,p=o - n:=⟨_,rfl⟩
     have w7:IntKind.i64.wrap ((o:Int) - n)=(p:Int):=by rw [Qan (by omega) (by omega)];omega
     have w8:IntKind.i64.wrap ((a:Int)+p)=(a:Int)+p:=Qan (by omega) (by omega)
     have hno:Qc1 (I ((a:Int)+p))=some (a+p):=Qfk (n:=a+p)
     have hpl:a+p < X.length:=by omega
     have hS2:=hS.trans (Qfa X k (a+p) a (a+n) hkl hpl (by omega) (by omega))
     have hn:=ih (Qer X k (a+p) hkl hpl) (k+1) s' (by omega) (by omega) hS2
     refine wW ?_
     repeat (first|apply wA|apply wS|refine wr (by simp [t1,w1,w2,w3,w4,g1,e1,wU1,a1,w5,ho,ho',w7,w8,hno,hkl,hpl,w6];with_reducible rfl) ?_|refine wq (by simp [t1,w1,w2,w3,w4,g1,e1,wU1,a1,w5,ho,ho',w7,w8,hno,hkl,hpl,w6];with_reducible rfl) ?_|refine wt (by simpa [t1,w1,w2,w3,w4,g1,e1,wU1,a1,w5,ho,ho',w7,w8,hno,hkl,hpl,w6]) ?_|refine wf (by simpa [t1,w1,w2,w3,w4,g1,e1,wU1,a1,w5,ho,ho',w7,w8,hno,hkl,hpl,w6]) ?_|refine xt (by simpa [t1,w1,w2,w3,w4,g1,e1,wU1,a1,w5,ho,ho',w7,w8,hno,hkl,hpl,w6]) ?_|refine xf (by simpa [t1,w1,w2,w3,w4,g1,e1,wU1,a1,w5,ho,ho',w7,w8,hno,hkl,hpl,w6]) ?_|apply wB|apply Qaa|refine wX ?_|refine wY ?_|refine wR ?_|refine wK ?_|refine wE ?_)
     exact hn
   · have ho':¬ n≤o:=by omega
     have w8:IntKind.i64.wrap ((a:Int)+o)=(a:Int)+o:=Qan (by omega) (by omega)
     have hno:Qc1 (I ((a:Int)+o))=some (a+o):=Qfk (n:=a+o)
     have hpl:a+o < X.length:=by omega
     have hS2:=hS.trans (Qfa X k (a+o) a (a+n) hkl hpl (by omega) (by omega))
     have hn:=ih (Qer X k (a+o) hkl hpl) (k+1) s' (by omega) (by omega) hS2
     refine wW ?_
     repeat (first|apply wA|apply wS|refine wr (by simp [t1,w1,w2,w3,w4,g1,e1,wU1,a1,w5,ho,ho',w8,hno,hkl,hpl,w6];with_reducible rfl) ?_|refine wq (by simp [t1,w1,w2,w3,w4,g1,e1,wU1,a1,w5,ho,ho',w8,hno,hkl,hpl,w6];with_reducible rfl) ?_|refine wt (by simpa [t1,w1,w2,w3,w4,g1,e1,wU1,a1,w5,ho,ho',w8,hno,hkl,hpl,w6]) ?_|refine wf (by simpa [t1,w1,w2,w3,w4,g1,e1,wU1,a1,w5,ho,ho',w8,hno,hkl,hpl,w6]) ?_|refine xt (by simpa [t1,w1,w2,w3,w4,g1,e1,wU1,a1,w5,ho,ho',w8,hno,hkl,hpl,w6]) ?_|refine xf (by simpa [t1,w1,w2,w3,w4,g1,e1,wU1,a1,w5,ho,ho',w8,hno,hkl,hpl,w6]) ?_|apply wB|apply Qaa|refine wX ?_|refine wY ?_|refine wR ?_|refine wK ?_|refine wE ?_)
     exact hn
set_option maxHeartbeats 2000000 in
theorem Qis (X:List (Int×Int)) (hl:X.length≤2000000) (a n:Nat) (h13:13≤n) (h21:n≤21) (hab:a+n≤X.length) (M:List Qal) :
 ∃ X':List (Int×Int),Seg X X' a (a+n)∧Ev tb Qs6 [0] [O2 X,I a,I ((a:Int)+n),fcE] M ⟨.tup [],[O2 X'],M,[]⟩:=by
 obtain ⟨q,hq⟩:∃ q,q=n / 4:=⟨_,rfl⟩
 have t1:(n:Int).tdiv 4=(q:Int):=by rw [Int.tdiv_eq_ediv_of_nonneg (by omega)];omega
 have w00:(a:Int)+n - a=n:=by omega
 have w0:IntKind.i64.wrap (n:Int)=(n:Int):=Qan (by omega) (by omega)
 have w1:IntKind.i64.wrap (q:Int)=(q:Int):=Qan (by omega) (by omega)
 have w2:IntKind.i64.wrap ((q:Int) * 2)=(q:Int) * 2:=Qan (by omega) (by omega)
 have w3:IntKind.i64.wrap ((a:Int)+q * 2)=(a:Int)+q * 2:=Qan (by omega) (by omega)
 have w4:IntKind.i64.wrap ((a:Int)+q * 2 - 1)=((a+q * 2 - 1:Nat):Int):=by rw [Qan (by omega) (by omega)];omega
 have wu:=@Jez n (by omega)
 have g1:(8:Int)≤n:=by omega
 have g1':8≤n:=by omega
 have e1:=Qab (Jrd n h13 h21)
 have hlo:=Jfc X hl a n q hq h13 h21 hab M 3 X (a+q * 2 - 1) n (by omega) (by omega) (Seg.refl X a (a+n))
 generalize a+q * 2 - 1=k0 at *
 suffices hh:∃ r,(∃ X':List (Int×Int),Seg X X' a (a+n)∧r=⟨.tup [],[O2 X'],M,[]⟩)∧Ev tb Qs6 [0] [O2 X,I a,I ((a:Int)+n),fcE] M r by
  obtain ⟨r,⟨X',q1,rfl⟩,q2⟩:=hh
  exact ⟨X',q1,q2⟩
 refine Qho Jxa rfl ?_
 repeat (first|apply wA|apply wS|refine wr (by simp [t1,w00,w0,w1,w2,w3,w4,wu,g1,g1',e1];with_reducible rfl) ?_|refine wq (by simp [t1,w00,w0,w1,w2,w3,w4,wu,g1,g1',e1];with_reducible rfl) ?_|refine wt (by simpa [t1,w00,w0,w1,w2,w3,w4,wu,g1,g1',e1]) ?_|refine wf (by simpa [t1,w00,w0,w1,w2,w3,w4,wu,g1,g1',e1]) ?_|refine xt (by simpa [t1,w00,w0,w1,w2,w3,w4,wu,g1,g1',e1]) ?_|refine xf (by simpa [t1,w00,w0,w1,w2,w3,w4,wu,g1,g1',e1]) ?_|apply wB|apply Qaa|refine wX ?_|refine wY ?_|refine wR ?_|refine wK ?_|refine wE ?_)
 refine Qap hlo ?_
 rintro ex st ⟨rfl,X',s',k',hS,rfl⟩
 try simp only [if_true]
 repeat (first|apply wA|apply wS|refine wr (by simp;with_reducible rfl) ?_|refine wq (by simp;with_reducible rfl) ?_|refine wt (by simpa) ?_|refine wf (by simpa) ?_|refine xt (by simpa) ?_|refine xf (by simpa) ?_|apply wB|apply Qaa|refine wX ?_|refine wY ?_|refine wR ?_|refine wK ?_|refine wE ?_)
 refine ⟨by simp,_,⟨X',hS,rfl⟩,?_⟩
 simp [Qz6]
theorem Jg8 (X:List (Int×Int)) (hX:∀ x ∈ X,DE x) (hl:X.length≤2000000) (a b:Nat) (hab:a < b) (hb:b≤X.length) (M:List Qal):∀ (m i:Nat) (f:Bool),i+m=b→a < i →
 wp tb (.loop Jdi) { T:=[(0,O2 X),(1,I a),(2,I b),(3,fcE),(9,I i),(10,I 0)]++(if f then [(16,Bo true)] else []),loc:=[],M:=M }
  (fun ex st=>ex=.exit 2∧∃ i':Nat,(i≤i'∧i'≤b∧(∀ k,i≤k→k < i'→∀ h1 h2,Qam (X[k]'h1) (X[k - 1]'h2)=false))∧st={ T:=[(0,O2 X),(1,I a),(2,I b),(3,fcE),(9,I i'),(10,I 0),(36,Bo false)],loc:=[],M:=M }):=by
 intro m
 induction m with
 | zero =>
   intro i f hi ha
   have g1:¬ i < b:=by omega
   have g1':¬ (i:Int) < b:=by omega
   cases f
   all_goals
    simp only [if_true,if_false,Bool.false_eq_true,List.append_nil,List.cons_append,List.nil_append]
    refine wW ?_
    repeat (first|apply wA|apply wS|refine wr (by simp [g1,g1'];with_reducible rfl) ?_|refine wq (by simp [g1,g1'];with_reducible rfl) ?_|refine wt (by simpa [g1,g1']) ?_|refine wf (by simpa [g1,g1']) ?_|refine xt (by simpa [g1,g1']) ?_|refine xf (by simpa [g1,g1']) ?_|apply wB|apply Qaa|refine wX ?_|refine wY ?_|refine wR ?_|refine wK ?_|refine wE ?_)
    exact ⟨rfl,i,⟨Nat.le_refl _,by omega,fun k k1 k2=>by omega⟩,rfl⟩
 | succ m ih =>
   intro i f hi ha
   obtain ⟨p,rfl⟩:∃ p,i=p+1:=⟨i - 1,by omega⟩
   have hil:p+1 < X.length:=by omega
   have hpl:p < X.length:=by omega
   have g1:p+1 < b:=by omega
   have g1':(p:Int)+1 < b:=by omega
   have w1:IntKind.i64.wrap (p:Int)=(p:Int):=Qan (by omega) (by omega)
   have w2:IntKind.i64.wrap ((p:Int)+1+1)=((p+1+1:Nat):Int):=by rw [Qan (by omega) (by omega)];omega
   have hbl:=Qb4 X[p+1] X[p]
   have e1:=fun M=>Qab (Qe5 (hX _ (List.getElem_mem hil)) (hX _ (List.getElem_mem hpl)) M)
   cases f
   all_goals
    simp only [if_true,if_false,Bool.false_eq_true,List.append_nil,List.cons_append,List.nil_append]
    by_cases hc:Qmu X[p+1] X[p] < 0
    · refine wW ?_
      repeat (first|apply wA|apply wS|refine wr (by simp [g1,g1',hil,hpl,w1,e1,hc,w2];with_reducible rfl) ?_|refine wq (by simp [g1,g1',hil,hpl,w1,e1,hc,w2];with_reducible rfl) ?_|refine wt (by simpa [g1,g1',hil,hpl,w1,e1,hc,w2]) ?_|refine wf (by simpa [g1,g1',hil,hpl,w1,e1,hc,w2]) ?_|refine xt (by simpa [g1,g1',hil,hpl,w1,e1,hc,w2]) ?_|refine xf (by simpa [g1,g1',hil,hpl,w1,e1,hc,w2]) ?_|apply wB|apply Qaa|refine wX ?_|refine wY ?_|refine wR ?_|refine wK ?_|refine wE ?_)
      exact ⟨rfl,p+1,⟨Nat.le_refl _,by omega,fun k k1 k2=>by omega⟩,rfl⟩
    · have hbt:Qam X[p+1] X[p]=false:=by rw [← hbl];exact decide_eq_false hc
      refine wW ?_
      repeat (first|apply wA|apply wS|refine wr (by simp [g1,g1',hil,hpl,w1,e1,hc,w2];with_reducible rfl) ?_|refine wq (by simp [g1,g1',hil,hpl,w1,e1,hc,w2];with_reducible rfl) ?_|refine wt (by simpa [g1,g1',hil,hpl,w1,e1,hc,w2]) ?_|refine wf (by simpa [g1,g1',hil,hpl,w1,e1,hc,w2]) ?_|refine xt (by simpa [g1,g1',hil,hpl,w1,e1,hc,w2]) ?_|refine xf (by simpa [g1,g1',hil,hpl,w1,e1,hc,w2]) ?_|apply wB|apply Qaa|refine wX ?_|refine wY ?_|refine wR ?_|refine wK ?_|refine wE ?_)
      refine Qap (by simpa using ih (p+1+1) false (by omega) (by omega)) ?_
      rintro ex st ⟨rfl,i',⟨k1,k2,k3⟩,rfl⟩
      refine ⟨rfl,i',⟨by omega,k2,fun k q1 q2 h1 h2=>?_⟩,rfl⟩
      by_cases hk:k=p+1
      · subst hk;exact hbt
      · exact k3 k (by omega) q2 h1 h2
theorem Ql9 (X:List (Int×Int)) (hX:∀ x ∈ X,DE x) (hl:X.length≤2000000) (a n:Nat) (h1:1≤n) (h49:n≤49) (hab:a+n≤X.length) (M:List Qal) :
 ∃ t:Bool,(t=true→∀ k,a < k→k < a+n→∀ h1 h2,Qam (X[k]'h1) (X[k - 1]'h2)=false)∧Ev tb Qss [0] [O2 X,I a,I ((a:Int)+n),fcE] M ⟨Bo t,[O2 X],M,[]⟩:=by
 have w00:(a:Int)+n - a=n:=by omega
 have w0:IntKind.i64.wrap (n:Int)=(n:Int):=Qan (by omega) (by omega)
 have w1:IntKind.i64.wrap ((a:Int)+1)=((a+1:Nat):Int):=Qbp (by omega)
 have g1:(n:Int) < 50:=by omega
 have g1':n < 50:=by omega
 suffices hh:∃ r,(∃ t:Bool,(t=true→∀ k,a < k→k < a+n→∀ h1 h2,Qam (X[k]'h1) (X[k - 1]'h2)=false)∧r=⟨Bo t,[O2 X],M,[]⟩)∧Ev tb Qss [0] [O2 X,I a,I ((a:Int)+n),fcE] M r by
  obtain ⟨r,⟨t,q1,rfl⟩,q2⟩:=hh
  exact ⟨t,q1,q2⟩
 have hlo:=Jg8 X hX hl a (a+n) (by omega) hab M (n - 1) (a+1) true (by omega) (by omega)
 rw [show ((a+n:Nat):Int)=(a:Int)+n by omega] at hlo
 refine Qho Jzk rfl ?_
 repeat (first|apply wA|apply wS|refine wr (by simp [w1];with_reducible rfl) ?_|refine wq (by simp [w1];with_reducible rfl) ?_|refine wt (by simpa [w1]) ?_|refine wf (by simpa [w1]) ?_|refine xt (by simpa [w1]) ?_|refine xf (by simpa [w1]) ?_|apply wB|apply Qaa|refine wX ?_|refine wY ?_|refine wR ?_|refine wK ?_|refine wE ?_)
 refine wW ?_
 repeat (first|apply wA|apply wS|refine wr (by simp;with_reducible rfl) ?_|refine wq (by simp;with_reducible rfl) ?_|refine wt (by simpa) ?_|refine wf (by simpa) ?_|refine xt (by simpa) ?_|refine xf (by simpa) ?_|apply wB|apply Qaa|refine wX ?_|refine wY ?_|refine wR ?_|refine wK ?_|refine wE ?_)
 refine Qap hlo ?_
 rintro ex st ⟨rfl,i',⟨k1,k2,k3⟩,rfl⟩
 try simp only [if_true]
 by_cases hi:i'=a+n
 · have g2:((i':Nat):Int)=(a:Int)+n:=by omega
   repeat (first|apply wA|apply wS|refine wr (by simp [g2];with_reducible rfl) ?_|refine wq (by simp [g2];with_reducible rfl) ?_|refine wt (by simpa [g2]) ?_|refine wf (by simpa [g2]) ?_|refine xt (by simpa [g2]) ?_|refine xf (by simpa [g2]) ?_|apply wB|apply Qaa|refine wX ?_|refine wY ?_|refine wR ?_|refine wK ?_|refine wE ?_)
   refine ⟨.inr rfl,_,⟨true,fun _ k q1 q2=>k3 k (by omega) (by omega),rfl⟩,?_⟩
   simp [Qxe]
 · have g2:¬ ((i':Nat):Int)=(a:Int)+n:=by omega
   repeat (first|apply wA|apply wS|refine wr (by simp [g2,w00,w0,g1,g1'];with_reducible rfl) ?_|refine wq (by simp [g2,w00,w0,g1,g1'];with_reducible rfl) ?_|refine wt (by simpa [g2,w00,w0,g1,g1']) ?_|refine wf (by simpa [g2,w00,w0,g1,g1']) ?_|refine xt (by simpa [g2,w00,w0,g1,g1']) ?_|refine xf (by simpa [g2,w00,w0,g1,g1']) ?_|apply wB|apply Qaa|refine wX ?_|refine wY ?_|refine wR ?_|refine wK ?_|refine wE ?_)
   refine ⟨.inr rfl,_,⟨false,(fun h=>nomatch h),rfl⟩,?_⟩
   simp [Qxe]
end Go.Idl
namespace Go.Idl
open Go
def nl2:List (Int×Int)→IV
 | []=>Z
 | e::es=>O2 (e::es)
@[simp] theorem nl2_nil:nl2 []=Z:=rfl
@[simp] theorem Jvi (e:Int×Int) (es:List (Int×Int)):nl2 (e::es)=O2 (e::es):=rfl
theorem Qme (a b:Int) (M:List Qal):Ev tb Jba [] [I a,I b] M ⟨.agg [I (min a b),I (max a b)],[],M,[]⟩:=by
 have h1:(if b < a then b else a)=min a b:=Jor a b
 have h2:(if a < b then b else a)=max a b:=Jqw a b
 refine cW zt36 rfl ?_
 repeat (first|apply wA|apply wS|refine wr (by simp;with_reducible rfl) ?_|refine wq (by simp;with_reducible rfl) ?_|refine wt (by simpa) ?_|refine wf (by simpa) ?_|refine xt (by simpa) ?_|refine xf (by simpa) ?_|apply wB|apply Qaa|refine wX ?_|refine wY ?_|refine wR ?_|refine wK ?_|refine wE ?_)
 simp [Ju2,h1,h2]
end Go.Idl
namespace Go.Idl
open Go
def Qyz (e:Int×Int):Int→List (Int×Int)→Int
 | _,[]=>-1
 | i,x::r=>if x=e then i else Qyz e (i+1) r
theorem Qvw (e:Int×Int):∀ (xs:List (Int×Int)) (i:Int),0≤i→(decide (0≤Qyz e i xs)=xs.any fun x=>decide (x=e))
 | [],i,h=>by simp [Qyz]
 | x::r,i,h=>by
   unfold Qyz
   by_cases hp:x=e
   · simp [hp,h]
   · simp [hp];simpa using Qvw e r (i+1) (by omega)
theorem Qx7 (e0:Nat) (es:List (Int×Int)) (c:Bool) (e:Int×Int) (he0:e0=2 ∨ es=[]) (hl:es.length≤100000000) (M:List Qal) :
 Ev tb Qvv [] [.lst e0 (eds es) c,.agg [I e.1,I e.2]] M ⟨I (Qyz e 0 es),[],M,[]⟩:=by
 have loop:∀ (m i:Nat),i+m=es.length→wp tb (.loop Jco) { T:=[(0,.lst e0 (eds es) c),(3,.bptr M.length 0 0),(7,I es.length),(8,I i)],loc:=[[I e.1,I e.2]],M:=M }
  (fun ex st=>(ex=.exit 0∧Qyz e i (es.drop i)=-1∧st={ T:=[(0,.lst e0 (eds es) c),(3,.bptr M.length 0 0),(7,I es.length),(8,I es.length),(9,Bo false)],loc:=[[I e.1,I e.2]],M:=M }) ∨
    (ex=.ret∧st={ T:=[(4,I (Qyz e i (es.drop i)))],loc:=[[I e.1,I e.2]],M:=M })):=by
  intro m
  induction m with
  | zero =>
    intro i hi
    have h3:i=es.length:=hi
    subst h3
    refine wW ?_
    repeat (first|apply wA|apply wS|refine wr (by simp;with_reducible rfl) ?_|refine wq (by simp;with_reducible rfl) ?_|refine wt (by simpa) ?_|refine wf (by simpa) ?_|refine xt (by simpa) ?_|refine xf (by simpa) ?_|apply wB|apply Qaa|refine wX ?_|refine wY ?_|refine wR ?_|refine wK ?_|refine wE ?_)
    exact .inl ⟨rfl,by simp [Qyz],rfl⟩
  | succ m ih =>
    intro i hi
    have hi2:i < es.length:=by omega
    have he:e0=2:=by
     rcases he0 with h | h
     · exact h
     · rw [h] at hi2;simp at hi2
    subst he
    have hd:es.drop i=es[i]::es.drop (i+1):=List.drop_eq_getElem_cons hi2
    have w1:IntKind.i64.wrap ((i:Int)+1)=((i+1:Nat):Int):=Qbp (by omega)
    rw [hd]
    by_cases hq:es[i]=e
    · have h1:e.1=es[i].1:=by rw [hq]
      have h2:e.2=es[i].2:=by rw [hq]
      refine wW ?_
      repeat (first|apply wA|apply wS|refine wr (by simp [hi2,h1,h2,w1];with_reducible rfl) ?_|refine wq (by simp [hi2,h1,h2,w1];with_reducible rfl) ?_|refine wt (by simpa [hi2,h1,h2,w1]) ?_|refine wf (by simpa [hi2,h1,h2,w1]) ?_|refine xt (by simpa [hi2,h1,h2,w1]) ?_|refine xf (by simpa [hi2,h1,h2,w1]) ?_|apply wB|apply Qaa|refine wX ?_|refine wY ?_|refine wR ?_|refine wK ?_|refine wE ?_)
      exact .inr ⟨rfl,by simp [Qyz,hq]⟩
    · have h3:(e.1 == es[i].1 && e.2 == es[i].2)=false:=by
       rw [← Bool.not_eq_true,Qba,beq_iff_eq,beq_iff_eq]
       rintro ⟨h1,h2⟩
       exact hq (by ext <;> simp [h1,h2])
      have hn:=ih (i+1) (by omega)
      simp only [Qyz,hq,if_false]
      refine wW ?_
      repeat (first|apply wA|apply wS|refine wr (by simp [hi2,h3,w1];with_reducible rfl) ?_|refine wq (by simp [hi2,h3,w1];with_reducible rfl) ?_|refine wt (by simpa [hi2,h3,w1]) ?_|refine wf (by simpa [hi2,h3,w1]) ?_|refine xt (by simpa [hi2,h3,w1]) ?_|refine xf (by simpa [hi2,h3,w1]) ?_|apply wB|apply Qaa|refine wX ?_|refine wY ?_|refine wR ?_|refine wK ?_|refine wE ?_)
      exact hn
 refine cW zt269 rfl ?_
 repeat (first|apply wA|apply wS|refine wr (by simp;with_reducible rfl) ?_|refine wq (by simp;with_reducible rfl) ?_|refine wt (by simpa) ?_|refine wf (by simpa) ?_|refine xt (by simpa) ?_|refine xf (by simpa) ?_|apply wB|apply Qaa|refine wX ?_|refine wY ?_|refine wR ?_|refine wK ?_|refine wE ?_)
 refine Qap (loop es.length 0 (by simp)) ?_
 rintro ex st (⟨rfl,h,rfl⟩ | ⟨rfl,rfl⟩)
 · try simp only [if_true]
   repeat (first|apply wA|apply wS|refine wr (by simp;with_reducible rfl) ?_|refine wq (by simp;with_reducible rfl) ?_|refine wt (by simpa) ?_|refine wf (by simpa) ?_|refine xt (by simpa) ?_|refine xf (by simpa) ?_|apply wB|apply Qaa|refine wX ?_|refine wY ?_|refine wR ?_|refine wK ?_|refine wE ?_)
   simp only [List.drop_zero] at h
   simp [Qxc]
   exact h.symm
 · simp [Qxc]
theorem Qnm (e0:Nat) (es:List (Int×Int)) (c:Bool) (e:Int×Int) (he0:e0=2 ∨ es=[]) (hl:es.length≤100000000) (M:List Qal) :
 Ev tb Qxm [] [.lst e0 (eds es) c,.agg [I e.1,I e.2]] M ⟨Bo (es.any fun x=>decide (x=e)),[],M,[]⟩:=by
 have e1:=Qab (Qx7 e0 es c e he0 hl [])
 have h:=Qvw e es 0 (by omega)
 refine cW Jxn rfl ?_
 repeat (first|apply wA|apply wS|refine wr (by simp [e1];with_reducible rfl) ?_|refine wq (by simp [e1];with_reducible rfl) ?_|refine wt (by simpa [e1]) ?_|refine wf (by simpa [e1]) ?_|refine xt (by simpa [e1]) ?_|refine xf (by simpa [e1]) ?_|apply wB|apply Qaa|refine wX ?_|refine wY ?_|refine wR ?_|refine wK ?_|refine wE ?_)
 simp [Qzl,h]
def Qrc (es:List (Int×Int)) (a b:Int):Bool:=es.any fun x=>decide (x=(min a b,max a b))
theorem Jqn (n:Int) (e0:Nat) (es:List (Int×Int)) (c:Bool) (a b:Int) (he0:e0=2 ∨ es=[]) (hl:es.length≤100000000) (M:List Qal) :
 Ev tb Qnb [] [.agg [I n,.lst e0 (eds es) c],I a,I b] M ⟨Bo (Qrc es a b),[],M,[]⟩:=by
 have e1:=Qab (Qme a b [])
 have e2:=Qab (Qnm e0 es c (min a b,max a b) he0 hl [])
 refine cW Jyj rfl ?_
 repeat (first|apply wA|apply wS|refine wr (by simp;with_reducible rfl) ?_|refine wq (by simp;with_reducible rfl) ?_|refine wt (by simpa) ?_|refine wf (by simpa) ?_|refine xt (by simpa) ?_|refine xf (by simpa) ?_|apply wB|apply Qaa|refine wX ?_|refine wY ?_|refine wR ?_|refine wK ?_|refine wE ?_)
 refine Qea (by simp [e1,e2];with_reducible rfl) (by simp;with_reducible rfl) ?_ ?_
 · intro p hp
   simp only [List.mem_cons,List.not_mem_nil,or_false] at hp
   subst hp
   exact ⟨_,by simp [e1,e2];with_reducible rfl,by simp⟩
 repeat (first|apply wA|apply wS|refine wr (by simp;with_reducible rfl) ?_|refine wq (by simp;with_reducible rfl) ?_|refine wt (by simpa) ?_|refine wf (by simpa) ?_|refine xt (by simpa) ?_|refine xf (by simpa) ?_|apply wB|apply Qaa|refine wX ?_|refine wY ?_|refine wR ?_|refine wK ?_|refine wE ?_)
 simp [Qzx,Qrc]
theorem Jcn (xs:List (Int×Int)):Ev tb Qu2 [] [O2 xs] [] ⟨O2 xs,[],[],[]⟩:=by
 refine cW Jw0 rfl ?_
 repeat (first|apply wA|apply wS|refine wr (by simp;with_reducible rfl) ?_|refine wq (by simp;with_reducible rfl) ?_|refine wt (by simpa) ?_|refine wf (by simpa) ?_|refine xt (by simpa) ?_|refine xf (by simpa) ?_|apply wB|apply Qaa|refine wX ?_|refine wY ?_|refine wR ?_|refine wK ?_|refine wE ?_)
 simp [Jby]
end Go.Idl
namespace Go.Idl
open Go
theorem Qto (n:Int):∀ (p:Option (Int×Int)) (es:List (Int×Int)),vEs n p es=true→∀ e ∈ es,okE n e=true
 | _,[],_=>by simp
 | none,e::r,h=>by
   simp only [vEs,Qba] at h
   intro x hx
   rcases List.mem_cons.1 hx with rfl | hx
   · exact h.1
   · exact Qto n _ r h.2 x hx
 | some q,e::r,h=>by
   simp only [vEs,Qba] at h
   intro x hx
   rcases List.mem_cons.1 hx with rfl | hx
   · exact h.1
   · exact Qto n _ r h.2.2 x hx
theorem Qy8 {n:Int} {es:List (Int×Int)} (h:Qad n es=true):∀ e ∈ es,0≤e.1∧e.1 < e.2∧e.2 < n:=by
 simp only [Qad,Qba] at h
 intro e he
 have:=Qto n none es h.1 e he
 simpa [okE] using this
theorem vG_n {n:Int} {es:List (Int×Int)} (h:Qad n es=true):0≤n∧n≤7:=by
 simp only [Qad,Qba,decide_eq_true_eq] at h;omega
end Go.Idl
namespace Go.Idl
def S {α:Type} (l:List α) (f:α→Int):Int:=(l.map f).sum
@[simp] theorem S_nil {α:Type} (f:α→Int):S [] f=0:=rfl
@[simp] theorem Qih {α:Type} (a:α) (l:List α) (f:α→Int):S (a::l) f=f a+S l f:=by simp [S]
theorem Jwn {α:Type} (l k:List α) (f:α→Int):S (l++k) f=S l f+S k f:=by simp [S]
theorem Jdj {α:Type} {l k:List α} (h:l.Perm k) (f:α→Int):S l f=S k f:=Ja0 (h.map f)
theorem Jrp {α:Type} (l:List α):S l (fun _=>0)=0:=by
 induction l with
 | nil=>rfl
 | cons a l ih=>simp [ih]
theorem S_le {α:Type} {l:List α} {f g:α→Int} (h:∀ a ∈ l,f a≤g a):S l f≤S l g:=by
 induction l with
 | nil=>simp
 | cons a l ih =>
   have h1:=h a (by simp)
   have h2:=ih fun b hb=>h b (by simp [hb])
   simp only [Qih];omega
theorem Jbx {α:Type} {l:List α} {f:α→Int} (h:∀ a ∈ l,0≤f a):0≤S l f:=by
 have:=S_le (l:=l) (f:=fun _=>0) h
 rwa [Jrp] at this
theorem Qz3 {α:Type} (l:List α) (p:α→Bool) (f:α→Int):S (l.filter p) f+S (l.filter fun a=>!p a) f=S l f:=by
 induction l with
 | nil=>rfl
 | cons a l ih =>
   cases hp:p a with
   | true=>simp only [List.filter_cons,hp,if_true,Bool.not_true,Bool.false_eq_true,if_false,Qih];omega
   | false=>simp only [List.filter_cons,hp,if_true,Bool.not_false,Bool.false_eq_true,if_false,Qih];omega
theorem Qg0 (a b:Int×Int):Qam a b=true ↔ a.1 < b.1 ∨ (a.1=b.1∧a.2 < b.2):=by simp [Qam]
theorem Qdu {a b c:Int×Int} (h:Qam a b=true) (k:Qam b c=true):Qam a c=true:=by
 rw [Qg0] at *;omega
theorem Qgw {a b:Int×Int} (h:Qam a b=true):a ≠ b:=by
 rintro rfl;rw [Qg0] at h;omega
abbrev PW (es:List (Int×Int)):Prop:=es.Pairwise fun a b=>Qam a b=true
theorem Qvm (n:Int):∀ (p:Option (Int×Int)) (es:List (Int×Int)),vEs n p es=true→PW es∧(∀ q,p=some q→∀ e ∈ es,Qam q e=true)
 | p,[],_=>⟨.nil,by simp⟩
 | none,e::r,h=>by
   simp only [vEs,Qba] at h
   obtain ⟨h1,h2⟩:=Qvm n (some e) r h.2
   exact ⟨List.pairwise_cons.2 ⟨h2 e rfl,h1⟩,by simp⟩
 | some q,e::r,h=>by
   simp only [vEs,Qba] at h
   obtain ⟨h1,h2⟩:=Qvm n (some e) r h.2.2
   refine ⟨List.pairwise_cons.2 ⟨h2 e rfl,h1⟩,fun q' hq' x hx=>?_⟩
   cases hq'
   rcases List.mem_cons.1 hx with rfl | hx
   · exact h.2.1
   · exact Qdu h.2.1 (h2 e rfl x hx)
theorem Qt9 (n:Int):∀ (p:Option (Int×Int)) (es:List (Int×Int)),PW es→(∀ q,p=some q→∀ e ∈ es,Qam q e=true)→(∀ e ∈ es,okE n e=true)→vEs n p es=true
 | p,[],_,_,_=>by cases p <;> rfl
 | none,e::r,h,_,ho=>by
   have h':=List.pairwise_cons.1 h
   simp only [vEs,Qba]
   exact ⟨ho e (by simp),Qt9 n (some e) r h'.2 (fun q hq x hx=>by cases hq;exact h'.1 x hx) fun x hx=>ho x (by simp [hx])⟩
 | some q,e::r,h,hq,ho=>by
   have h':=List.pairwise_cons.1 h
   simp only [vEs,Qba]
   exact ⟨ho e (by simp),hq q rfl e (by simp),Qt9 n (some e) r h'.2 (fun q hq x hx=>by cases hq;exact h'.1 x hx) fun x hx=>ho x (by simp [hx])⟩
theorem Qef (a:Nat):∀ (m b:Nat) (e:Int×Int),e ∈ row a b m ↔ e.1=a∧(b:Int)≤e.2∧e.2 < b+m
 | 0,b,e=>by simp [row] <;> omega
 | m+1,b,e=>by
   rw [row,List.mem_cons,Qef a m (b+1) e]
   constructor
   · rintro (rfl | h)
     · simp;omega
     · omega
   · intro h
     by_cases h2:e.2=b
     · exact .inl (Prod.ext h.1 h2)
     · exact .inr (by omega)
theorem Qfc:∀ (m a:Nat) (e:Int×Int),e ∈ Jbe a m ↔ (a:Int)≤e.1∧e.1 < e.2∧e.2 < a+m
 | 0,a,e=>by simp [Jbe];omega
 | m+1,a,e=>by
   rw [Jbe,List.mem_append,Qef,Qfc m (a+1) e]
   omega
theorem Qa1 {n:Nat} {e:Int×Int}:e ∈ prs n ↔ 0≤e.1∧e.1 < e.2∧e.2 < n:=by
 rw [prs,Qfc];omega
theorem Jcy (a:Nat):∀ (m b:Nat),PW (row a b m)
 | 0,b=>.nil
 | m+1,b=>by
   rw [row]
   refine List.pairwise_cons.2 ⟨fun e he=>?_,Jcy a m (b+1)⟩
   rw [Qef] at he
   rw [Qg0];simp only;omega
theorem Qwd:∀ (m a:Nat),PW (Jbe a m)
 | 0,a=>.nil
 | m+1,a=>by
   rw [Jbe]
   refine List.pairwise_append.2 ⟨Jcy a m (a+1),Qwd m (a+1),fun x hx y hy=>?_⟩
   rw [Qef] at hx
   rw [Qfc] at hy
   rw [Qg0];omega
theorem Jcv (n:Nat):PW (prs n):=Qwd n 0
theorem Qi1 {es:List (Int×Int)} (h:PW es):es.Nodup:=h.imp fun h=>Qgw h
theorem Qh9 {xs ys:List (Int×Int)} (hx:PW xs) (hy:PW ys) (h:∀ e,e ∈ xs ↔ e ∈ ys):xs=ys:=by
 refine List.Perm.eq_of_pairwise (le:=fun a b=>Qam a b=true) (fun a b _ _ h1 h2=>absurd (Qdu h1 h2) (fun h=>Qgw h rfl)) hx hy ?_
 exact (List.perm_ext_iff_of_nodup (Qi1 hx) (Qi1 hy)).2 h
theorem Qa2 {n:Nat} {es:List (Int×Int)}:Qad n es=true ↔ PW es∧(∀ e ∈ es,e ∈ prs n)∧n≤7:=by
 constructor
 · intro h
   have h1:=vG_n h
   have h2:=Qy8 h
   simp only [Qad,Qba] at h
   exact ⟨(Qvm n none es h.1).1,fun e he=>Qa1.2 (h2 e he),by omega⟩
 · rintro ⟨h1,h2,h3⟩
   simp only [Qad,Qba,decide_eq_true_eq]
   refine ⟨Qt9 n none es h1 (by simp) fun e he=>?_,by omega,by omega⟩
   have:=Qa1.1 (h2 e he)
   simp only [okE,Qba,decide_eq_true_eq];omega
theorem Qyh {n:Nat} {es:List (Int×Int)} (h:Qad n es=true):es=(prs n).filter fun e=>decide (e ∈ es):=by
 obtain ⟨h1,h2,h3⟩:=Qa2.1 h
 refine Qh9 h1 ((Jcv n).filter _) fun e=>?_
 rw [List.mem_filter,decide_eq_true_eq]
 exact ⟨fun he=>⟨h2 e he,he⟩,fun he=>he.2⟩
theorem Qqr {n:Nat} {es:List (Int×Int)} (h:Qad n es=true):es.Sublist (prs n):=by
 rw [Qyh h];exact List.filter_sublist
def inc (v:Nat) (e:Int×Int):Int:=(if e.1=v then 1 else 0)+(if e.2=v then 1 else 0)
def deg (es:List (Int×Int)) (v:Nat):Int:=S es (inc v)
theorem Qrq {o:List Int} {i v:Nat} (hv:v < o.length):(Qy1 o i).getD v 0=o.getD v 0+(if i=v then 1 else 0):=by
 rw [Qy1,List.getD_eq_getElem?_getD,List.getElem?_set]
 by_cases h:i=v
 · subst h;simp [hv,List.getD_eq_getElem?_getD]
 · simp [h,List.getD_eq_getElem?_getD]
theorem Qm8 {n:Nat}:∀ (es:List (Int×Int)) (o:List Int),(∀ e ∈ es,0≤e.1∧0≤e.2)→∀ v,v < o.length→(Qn9 o es).getD v 0=o.getD v 0+deg es v
 | [],o,_,v,_=>by simp [Qn9,deg]
 | e::es,o,h,v,hv=>by
   have h1:=h e (by simp)
   have:=Qm8 (n:=n) es (Qy1 (Qy1 o e.1.toNat) e.2.toNat) (fun x hx=>h x (by simp [hx])) v (by simp [Qlr];exact hv)
   rw [show Qn9 o (e::es)=Qn9 (Qy1 (Qy1 o e.1.toNat) e.2.toNat) es from rfl,this,Qrq (by rw [Qlr];exact hv),Qrq hv,deg,deg,Qih]
   have c1:(e.1.toNat=v)=(e.1=(v:Int)):=by rw [eq_iff_iff];omega
   have c2:(e.2.toNat=v)=(e.2=(v:Int)):=by rw [eq_iff_iff];omega
   simp only [inc,c1,c2]
   omega
theorem Qhn {n:Nat} {es:List (Int×Int)} (h:Qlo n es):Qew n es=(List.range n).map (deg es):=by
 have hl:(Qew n es).length=n:=by rw [Qew,Qfb];simp
 refine List.ext_getElem (by simp [hl]) fun v h1 h2=>?_
 have:=Qm8 (n:=n) es (List.replicate n 0) (fun e he=>by have:=h e he;omega) v (by simp;omega)
 rw [← Qew,List.getD_eq_getElem?_getD,List.getElem?_eq_getElem h1] at this
 simp only [Option.getD_some] at this
 rw [this]
 simp [List.getD_eq_getElem?_getD]
 rw [List.getElem?_eq_getElem (by simp;omega)];simp
end Go.Idl
namespace Go.Idl
open Go
def Qdd (X:List (Int×Int)) (a b:Nat):Prop:=∀ k l e f,a≤k→k < l→l < b→X[k]? = some e→X[l]? = some f→Qam e f=true
def Qil (X:List (Int×Int)) (a mid b:Nat):Prop:=∀ k l e f,a≤k→k < mid→mid≤l→l < b→X[k]? = some e→X[l]? = some f→Qam e f=true
theorem Qq4 {X Y:List (Int×Int)} {a mid b:Nat} (hn:X.Nodup) (h1:Qdd X a mid) (hc:Qil X a mid b) (hs:Seg X Y mid b) (h2:Qdd Y mid b):Qdd Y a b:=by
 intro k l e f hk hkl hl he hf
 by_cases h:mid≤k
 · exact h2 k l e f h hkl hl he hf
 · have he':X[k]? = some e:=by rw [← hs.out k (by omega)];exact he
   by_cases h':mid≤l
   · obtain ⟨l',hl',hf'⟩:=hs.back hn ⟨h',hl⟩ hf
     exact hc k l' e f hk (by omega) (by omega) (by omega) he' hf'
   · have hf':X[l]? = some f:=by rw [← hs.out l (by omega)];exact hf
     exact h1 k l e f hk hkl (by omega) he' hf'
theorem Qng {X Y:List (Int×Int)} {a mid b:Nat} (hn:X.Nodup) (h1:Qdd X mid b) (hc:Qil X a mid b) (hs:Seg X Y a mid) (h2:Qdd Y a mid):Qdd Y a b:=by
 intro k l e f hk hkl hl he hf
 by_cases h:l < mid
 · exact h2 k l e f hk hkl h he hf
 · have hf':X[l]? = some f:=by rw [← hs.out l (by omega)];exact hf
   by_cases h':k < mid
   · obtain ⟨k',hk',he'⟩:=hs.back hn ⟨hk,h'⟩ he
     exact hc k' l e f (by omega) (by omega) (by omega) hl he' hf'
   · have he':X[k]? = some e:=by rw [← hs.out k (by omega)];exact he
     exact h1 k l e f (by omega) hkl hl he' hf'
theorem Qrg (a b c:Int×Int) (h1:Qam b a=false) (h2:Qam c b=false):Qam c a=false:=by
 rw [← Bool.not_eq_true] at *
 simp only [Qam,Bool.or_eq_true,Qba,decide_eq_true_eq] at *
 omega
theorem Qzd (X:List (Int×Int)) (hX:∀ x ∈ X,DE x) (hn:X.Nodup) (hl:X.length≤700000) (a n:Nat) (hab:a+n≤X.length) (M:List Qal) :
 ∃ X':List (Int×Int),Seg X X' a (a+n)∧Qdd X' a (a+n)∧Ev tb Qso [0] [O2 X,I a,I ((a:Int)+n),fcE] M ⟨.tup [],[O2 X'],M,[]⟩:=by
 have hc:Jbg vE Qy0 [] Qam DE M:=fun x y hx hy=>⟨Qmu x y,Qb4 x y,Qe5 hx hy _⟩
 obtain ⟨P,hP⟩:∃ P,P=X.take a:=⟨_,rfl⟩
 obtain ⟨S,hS⟩:∃ S,S=(X.drop a).take n:=⟨_,rfl⟩
 obtain ⟨Q,hQ⟩:∃ Q,Q=X.drop (a+n):=⟨_,rfl⟩
 have hXe:X=P++(S++Q):=by
  rw [hP,hS,hQ,← List.drop_drop,List.take_append_drop,List.take_append_drop]
 have hPl:P.length=a:=by rw [hP,List.length_take];omega
 have hSl:S.length=n:=by rw [hS,List.length_take,List.length_drop];omega
 have hsrt:=Qo6 (lt:=Qam) Qrg (fun a b h=>Qeo h) S [] .nil
 have hsp:=hsrt.2
 rw [List.nil_append] at hsp
 have hTl:(Qmp Qam [] S).length=n:=by rw [hsp.length_eq,hSl]
 have hp:(P++(Qmp Qam [] S++Q)).Perm X:=by
  rw [hXe];exact List.Perm.append_left P (hsp.append_right Q)
 refine ⟨P++(Qmp Qam [] S++Q),⟨hp,fun k hk=>?_⟩,?_,?_⟩
 · rw [hXe]
   rcases hk with hk | hk
   · rw [List.getElem?_append_left (by omega),List.getElem?_append_left (by omega)]
   · rw [List.getElem?_append_right (by omega),List.getElem?_append_right (by omega),List.getElem?_append_right (by omega),List.getElem?_append_right (by omega),hTl,hSl]
 · intro k l e f hk hkl hlb he hf
   have hny:(P++(Qmp Qam [] S++Q)).Nodup:=hp.nodup_iff.2 hn
   have hne:e ≠ f:=by
    rintro rfl
    obtain ⟨h1,h2⟩:=List.getElem?_eq_some_iff.1 he
    obtain ⟨h3,h4⟩:=List.getElem?_eq_some_iff.1 hf
    have:=(List.getElem_inj hny).1 (h2.trans h4.symm)
    omega
   rw [List.getElem?_append_right (by omega),List.getElem?_append_left (by omega)] at he hf
   obtain ⟨h1,h2⟩:=List.getElem?_eq_some_iff.1 he
   obtain ⟨h3,h4⟩:=List.getElem?_eq_some_iff.1 hf
   have:=List.pairwise_iff_getElem.1 hsrt.1 _ _ h1 h3 (by omega)
   rw [h2,h4] at this
   rcases Qb0 hne with h | h
   · exact h
   · rw [this] at h;cases h
 · have e:=Qzv Qy0 [] Qam DE M hc P Q S (by rw [hXe] at hl;simp at hl;omega) (fun x hx=>hX x (by rw [hXe];simp [hx]))
   rw [← hXe,hPl,hSl,show ((a+n:Nat):Int)=(a:Int)+n by omega] at e
   exact e
def Qqt (n:Nat) (lim:Nat) (M:List Qal):Prop:=∀ (n' a':Nat) (X:List (Int×Int)),n'+2≤n→(∀ x ∈ X,DE x)→X.Nodup→X.length≤700000→a'+n'≤X.length→(a'=0 ∨ ∀ k e f,a'≤k→k < a'+n'→X[a' - 1]? = some e→X[k]? = some f→Qam e f=true) →
 ∃ X':List (Int×Int),Seg X X' a' (a'+n')∧Qdd X' a' (a'+n')∧Qcm tb Qlp [0] [O2 X,I a',I ((a':Int)+n'),I lim,fcE] M=some ⟨.tup [],[O2 X'],M,[]⟩
abbrev cD:IC:=(.seq Quo (.seq Qyj (.seq Que (.seq Qxi (.seq Qx6 (.cond (.t 125) (.seq Qts (.seq Qxf Qt1)) (.seq Qws (.seq Qxd Qtm))))))))
set_option maxHeartbeats 2000000 in
theorem Jx5 (X:List (Int×Int)) (hX:∀ x ∈ X,DE x) (hn:X.Nodup) (hl:X.length≤700000) (a n m lim:Nat) (h13:13≤n) (h21:n≤21) (hab:a+n≤X.length) (hm:a≤m∧m < a+n) (M:List Qal) (hrec:Qqt n lim (M++[[]]))
 (h0:a=0 ∨ ∀ k e f,a≤k→k < a+n→X[a - 1]? = some e→X[k]? = some f→Qam e f=true)
 (p1:∃ p,(a≤p∧p < a+n)∧∀ h1 h2,Qam (X[p]'h1) (X[m]'h2)=true) (p2:∃ p,(a≤p∧p < a+n)∧∀ h1 h2,Qam (X[m]'h1) (X[p]'h2)=true)
 (bal part:Bool) (Q:Ex→St→Prop)
 (hL:∀ (X3:List (Int×Int)) (mid:Nat) (bal part:Bool),a < mid→mid+1 < a+n→Seg X X3 a (a+n)→Qdd X3 a (mid+1)→Qil X3 a (mid+1) (a+n) →
   Q .normal { T:=[(0,O2 X3),(1,I (mid+1:Nat)),(2,I ((a:Int)+n)),(3,I lim),(4,fcE),(10,Bo bal),(11,Bo part)],loc:=[],M:=M })
 (hR:∀ (X3:List (Int×Int)) (mid:Nat) (bal part:Bool),a < mid→mid+1 < a+n→Seg X X3 a (a+n)→Qdd X3 mid (a+n)→Qil X3 a mid (a+n) →
   Q .normal { T:=[(0,O2 X3),(1,I a),(2,I mid),(3,I lim),(4,fcE),(10,Bo bal),(11,Bo part)],loc:=[],M:=M }) :
 wp tb cD { T:=[(0,O2 X),(1,I a),(2,I ((a:Int)+n)),(3,I lim),(4,fcE),(10,Bo bal),(11,Bo part),(12,I n),(13,I m),(97,Bo false)],loc:=[],M:=M } Q:=by
 obtain ⟨X2,mid,t,hS,hmid,hpv,hcut,hE⟩:=Qmw X hX (by omega) a n m (by omega) hab hm (M++[[]])
 have e1:=Qab hE
 have hml:m < X.length:=by omega
 rw [List.getElem?_eq_getElem hml] at hpv hcut
 obtain ⟨hlo,hhi⟩:=hcut _ rfl
 have hl2:=hS.len
 have hn2:=hS.nodup hn
 have hX2:∀ x ∈ X2,DE x:=fun x hx=>hX x (hS.perm.mem_iff.1 hx)
 obtain ⟨p,hp,hp1⟩:=p1
 obtain ⟨q,hq,hq1⟩:=p2
 have hpl:p < X.length:=by omega
 have hql:q < X.length:=by omega
 have hp1:=hp1 hpl hml
 have hq1:=hq1 hml hql
 have whereIs:∀ r,(a≤r∧r < a+n)→∀ hr:r < X.length,∃ r',(a≤r'∧r' < a+n)∧X2[r']? = some X[r]:=fun r hr hrl=>by
  have hm2:X[r] ∈ X2:=hS.perm.mem_iff.2 (List.getElem_mem hrl)
  obtain ⟨r',hr',he⟩:=List.getElem_of_mem hm2
  refine ⟨r',?_,by rw [List.getElem?_eq_getElem hr',he]⟩
  refine Classical.byContradiction fun hno=>?_
  have h1:=hS.out r' (by omega)
  rw [List.getElem?_eq_getElem hr',he] at h1
  obtain ⟨h2,h3⟩:=List.getElem?_eq_some_iff.1 h1.symm
  have:=(List.getElem_inj hn).1 h3
  omega
 obtain ⟨p',hp',hpe⟩:=whereIs p hp hpl
 obtain ⟨q',hq',hqe⟩:=whereIs q hq hql
 have hamid:a < mid:=by
  refine Classical.byContradiction fun hno=>?_
  have hma:mid=a:=by omega
  by_cases hpm:p'=mid
  · rw [hpm,hpv] at hpe
    exact Qgw hp1 (Option.some.inj hpe).symm
  · have:=hhi p' _ (by omega) hp'.2 hpe
    rw [hp1] at this;cases this
 have hmidb:mid+1 < a+n:=by
  refine Classical.byContradiction fun hno=>?_
  have hma:mid+1=a+n:=by omega
  by_cases hpm:q'=mid
  · rw [hpm,hpv] at hqe
    exact Qgw hq1 (Option.some.inj hqe)
  · have:=hlo q' _ hq'.1 (by omega) hqe
    rw [Qeo hq1] at this;cases this
 have hhi':∀ k e,mid < k→k < a+n→X2[k]? = some e→Qam X[m] e=true:=fun k e k1 k2 he=>by
  have h1:=hhi k e (by omega) k2 he
  have hne:X[m] ≠ e:=by
   rintro rfl
   obtain ⟨h2,h3⟩:=List.getElem?_eq_some_iff.1 he
   obtain ⟨h4,h5⟩:=List.getElem?_eq_some_iff.1 hpv
   have:=(List.getElem_inj hn2).1 (h3.trans h5.symm)
   omega
  rcases Qb0 hne with h | h
  · exact h
  · rw [h1] at h;cases h
 have hcutm:Qil X2 a mid (a+n):=fun k l e f k1 k2 k3 k4 he hf=>by
  have h1:=hlo k e k1 k2 he
  by_cases hlm:l=mid
  · rw [hlm,hpv] at hf;cases hf;exact h1
  · exact Qdu h1 (hhi' l f (by omega) k4 hf)
 have hcutm':Qil X2 a (mid+1) (a+n):=fun k l e f k1 k2 k3 k4 he hf=>by
  by_cases hkm:k=mid
  · rw [hkm,hpv] at he;cases he;exact hhi' l f (by omega) k4 hf
  · exact hcutm k l e f k1 (by omega) (by omega) k4 he hf
 obtain ⟨n1,hn1⟩:∃ n1,mid=a+n1:=⟨mid - a,by omega⟩
 obtain ⟨n2,hn2'⟩:∃ n2,n=n1+1+n2:=⟨n - (n1+1),by omega⟩
 have w1:IntKind.i64.wrap ((mid:Int) - a)=(n1:Int):=by rw [Qan (by omega) (by omega)];omega
 have w2:IntKind.i64.wrap ((a:Int)+n - mid)=((n2+1:Nat):Int):=by rw [Qan (by omega) (by omega)];omega
 have t1:(n:Int).tdiv 8=((n / 8:Nat):Int):=by rw [Int.tdiv_eq_ediv_of_nonneg (by omega)];rfl
 obtain ⟨th,hth⟩:∃ th,th=n / 8:=⟨_,rfl⟩
 rw [← hth] at t1
 have w3:IntKind.i64.wrap (th:Int)=(th:Int):=Qan (by omega) (by omega)
 have w4:IntKind.i64.wrap ((mid:Int)+1)=(mid:Int)+1:=Qan (by omega) (by omega)
 by_cases hc:(n1:Int) < ((n2+1:Nat):Int)
 · obtain ⟨X3,hS3,hsr,e2⟩:=hrec n1 a X2 (by omega) hX2 hn2 (by omega) (by omega) (by
    rcases h0 with h0 | h0
    · exact .inl h0
    · by_cases ha:a=0
      · exact .inl ha
      · refine .inr fun k e f k1 k2 he hf=>?_
        rw [hS.out (a - 1) (by omega)] at he
        obtain ⟨k',hk',hf'⟩:=hS.back hn ⟨k1,by omega⟩ hf
        exact h0 k' e f hk'.1 hk'.2 he hf')
   rw [show (a:Int)+n1=(mid:Int) by omega] at e2
   have hfin:=hL X3 mid (decide (th≤n1)) t hamid hmidb (hS.trans (hS3.mono (Nat.le_refl _) (by omega))) (Qng hn2 (fun k l e f k1 k2 k3=>by omega) (fun k l e f k1 k2 k3 k4=>hcutm k l e f k1 (by omega) k3 (by omega)) (by rw [← hn1] at hS3;exact hS3) (by rw [← hn1] at hsr;exact hsr)) (fun k l e f k1 k2 k3 k4 he hf=>by
    have hf':X2[l]? = some f:=by rw [← hS3.out l (by omega)];exact hf
    by_cases hkm:k=mid
    · have he':X2[k]? = some e:=by rw [← hS3.out k (by omega)];exact he
      exact hcutm' k l e f k1 k2 k3 k4 he' hf'
    · obtain ⟨k',hk',he'⟩:=hS3.back hn2 ⟨k1,by omega⟩ he
      exact hcutm' k' l e f hk'.1 (by omega) k3 k4 he' hf')
   rw [show ((mid+1:Nat):Int)=(mid:Int)+1 by omega] at hfin
   rw [show ((n2+1:Nat):Int)=(n2:Int)+1 by omega] at hc w2
   repeat (first|apply wA|apply wS|refine wr (by simp [e1,e2,w1,w2,w3,w4,t1,hc];with_reducible rfl) ?_|refine wq (by simp [e1,e2,w1,w2,w3,w4,t1,hc];with_reducible rfl) ?_|refine wt (by simpa [e1,e2,w1,w2,w3,w4,t1,hc]) ?_|refine wf (by simpa [e1,e2,w1,w2,w3,w4,t1,hc]) ?_|refine xt (by simpa [e1,e2,w1,w2,w3,w4,t1,hc]) ?_|refine xf (by simpa [e1,e2,w1,w2,w3,w4,t1,hc]) ?_|apply wB|apply Qaa|refine wX ?_|refine wY ?_|refine wR ?_|refine wK ?_|refine wE ?_)
   exact hfin
 · obtain ⟨X3,hS3,hsr,e2⟩:=hrec n2 (mid+1) X2 (by omega) hX2 hn2 (by omega) (by omega) (.inr fun k e f k1 k2 he hf=>by
    rw [Nat.add_sub_cancel,hpv] at he
    cases he
    exact hhi' k f (by omega) (by omega) hf)
   rw [show ((mid+1:Nat):Int)+n2=(a:Int)+n by omega,show ((mid+1:Nat):Int)=(mid:Int)+1 by omega] at e2
   have hS3':Seg X2 X3 (mid+1) (a+n):=by rw [show mid+1+n2=a+n by omega] at hS3;exact hS3
   have hsr':Qdd X3 (mid+1) (a+n):=by rw [show mid+1+n2=a+n by omega] at hsr;exact hsr
   have hfin:=hR X3 mid (decide ((th:Int)≤(n2:Int)+1)) t hamid hmidb (hS.trans (hS3'.mono (by omega) (Nat.le_refl _))) (Qq4 hn2 (mid:=mid+1) (fun k l e f k1 k2 k3=>by omega) (fun k l e f k1 k2 k3 k4=>hcutm' k l e f (by omega) k2 k3 k4) hS3' hsr') (fun k l e f k1 k2 k3 k4 he hf=>by
    have he':X2[k]? = some e:=by rw [← hS3'.out k (by omega)];exact he
    by_cases hlm:l=mid
    · have hf':X2[l]? = some f:=by rw [← hS3'.out l (by omega)];exact hf
      exact hcutm k l e f k1 k2 k3 k4 he' hf'
    · obtain ⟨l',hl',hf'⟩:=hS3'.back hn2 ⟨by omega,k4⟩ hf
      exact hcutm k l' e f k1 k2 (by omega) hl'.2 he' hf')
   rw [show ((n2+1:Nat):Int)=(n2:Int)+1 by omega] at hc w2
   repeat (first|apply wA|apply wS|refine wr (by simp [e1,e2,w1,w2,w3,w4,t1,hc];with_reducible rfl) ?_|refine wq (by simp [e1,e2,w1,w2,w3,w4,t1,hc];with_reducible rfl) ?_|refine wt (by simpa [e1,e2,w1,w2,w3,w4,t1,hc]) ?_|refine wf (by simpa [e1,e2,w1,w2,w3,w4,t1,hc]) ?_|refine xt (by simpa [e1,e2,w1,w2,w3,w4,t1,hc]) ?_|refine xf (by simpa [e1,e2,w1,w2,w3,w4,t1,hc]) ?_|apply wB|apply Qaa|refine wX ?_|refine wY ?_|refine wR ?_|refine wK ?_|refine wE ?_)
   exact hfin
end Go.Idl
namespace Go.Idl
open Go
abbrev cB':IC:=(.seq (.seq Qwe (.cond (.t 56) (.seq Qt4 (.seq Qxj Qvd)) .skip)) (.seq (.seq Qtu (.cond (.t 75) (.seq Qtn (.cond (.t 80) .ret .skip)) .skip)) (.seq (.seq Qvl (.cond (.t 97) (.seq Qun (.seq Qyv (.exit 1))) .skip)) cD)))
abbrev cB:IC:=.seq Qwc cB'
theorem Qv6 {X:List (Int×Int)} {a b:Nat} (hn:X.Nodup) (h:∀ k,a < k→k < b→∀ h1 h2,Qam (X[k]'h1) (X[k - 1]'h2)=false):Qdd X a b:=by
 have key:∀ (d k:Nat) (e f:Int×Int),a≤k→k+d+1 < b→X[k]? = some e→X[k+d+1]? = some f→Qam e f=true:=by
  intro d
  induction d with
  | zero =>
    intro k e f hk hb he hf
    obtain ⟨h1,h2⟩:=List.getElem?_eq_some_iff.1 he
    obtain ⟨h3,h4⟩:=List.getElem?_eq_some_iff.1 hf
    have h5:=h (k+0+1) (by omega) hb h3 (by simpa using h1)
    simp only [Nat.add_zero,Nat.add_sub_cancel] at h5 h4
    rw [h4,h2] at h5
    have hne:e ≠ f:=by
     rintro rfl
     have:=(List.getElem_inj hn).1 (h2.trans h4.symm)
     omega
    rcases Qb0 hne with q | q
    · exact q
    · rw [h5] at q;cases q
  | succ d ih =>
    intro k e f hk hb he hf
    have h3:=(List.getElem?_eq_some_iff.1 hf).1
    have hg:k+d+1 < X.length:=by omega
    have q1:=ih k e X[k+d+1] hk (by omega) he (List.getElem?_eq_getElem hg)
    obtain ⟨h3,h4⟩:=List.getElem?_eq_some_iff.1 hf
    have h5:=h (k+(d+1)+1) (by omega) hb h3 (by omega)
    have hi:k+(d+1)+1 - 1=k+d+1:=by omega
    simp only [hi] at h5
    rw [h4] at h5
    have hne:X[k+d+1] ≠ f:=by
     intro he2
     have:=(List.getElem_inj hn).1 (he2.trans h4.symm)
     omega
    rcases Qb0 hne with q | q
    · exact Qdu q1 q
    · rw [h5] at q;cases q
 intro k l e f hk hkl hl he hf
 obtain ⟨d,rfl⟩:∃ d,l=k+d+1:=⟨l - k - 1,by omega⟩
 exact key d k e f hk hl he hf
set_option maxHeartbeats 8000000 in
theorem Jp4 (X:List (Int×Int)) (hX:∀ x ∈ X,DE x) (hn:X.Nodup) (hl:X.length≤700000) (a n lim:Nat) (h13:13≤n) (h21:n≤21) (hab:a+n≤X.length) (M:List Qal) (hrec:Qqt n lim (M++[[]]))
 (h0:a=0 ∨ ∀ k e f,a≤k→k < a+n→X[a - 1]? = some e→X[k]? = some f→Qam e f=true)
 (bal part:Bool) (Q:Ex→St→Prop) (m:Nat) (hint:Int) (hm:a≤m∧m < a+n) (hh:hint=0 ∨ hint=1)
 (p1:∃ p,(a≤p∧p < a+n)∧∀ h1 h2,Qam (X[p]'h1) (X[m]'h2)=true) (p2:∃ p,(a≤p∧p < a+n)∧∀ h1 h2,Qam (X[m]'h1) (X[p]'h2)=true)
 (hS:∀ m:Nat,Qdd X a (a+n)→Q .ret { T:=[(0,O2 X),(1,I a),(2,I ((a:Int)+n)),(3,I lim),(4,fcE),(10,Bo bal),(11,Bo part),(12,I n),(13,I m),(80,Bo true)],loc:=[],M:=M })
 (hL:∀ (X3:List (Int×Int)) (mid:Nat) (bal part:Bool),a < mid→mid+1 < a+n→Seg X X3 a (a+n)→Qdd X3 a (mid+1)→Qil X3 a (mid+1) (a+n) →
   Q .normal { T:=[(0,O2 X3),(1,I (mid+1:Nat)),(2,I ((a:Int)+n)),(3,I lim),(4,fcE),(10,Bo bal),(11,Bo part)],loc:=[],M:=M })
 (hR:∀ (X3:List (Int×Int)) (mid:Nat) (bal part:Bool),a < mid→mid+1 < a+n→Seg X X3 a (a+n)→Qdd X3 mid (a+n)→Qil X3 a mid (a+n) →
   Q .normal { T:=[(0,O2 X3),(1,I a),(2,I mid),(3,I lim),(4,fcE),(10,Bo bal),(11,Bo part)],loc:=[],M:=M }) :
 wp tb cB' { T:=[(0,O2 X),(1,I a),(2,I ((a:Int)+n)),(3,I lim),(4,fcE),(10,Bo bal),(11,Bo part),(12,I n),(13,I m),(14,I hint)],loc:=[],M:=M } Q:=by
 obtain ⟨t,ht,hE2⟩:=Ql9 X hX (by omega) a n (by omega) (by omega) hab (M++[[]])
 have e2:=Qab hE2
 have hml:m < X.length:=by omega
 have hD:=Jx5 X hX hn hl a n m lim h13 h21 hab hm M hrec h0 p1 p2 bal part Q hL hR
 have key:∀ (hq:a=0 ∨ ∃ a0,∃ h:a0 < X.length,a=a0+1∧Qmu X[a0] X[m] < 0),True:=fun _=>trivial
 have hq:a=0 ∨ ∃ a0,∃ h:a0 < X.length,a=a0+1∧Qmu X[a0] X[m] < 0:=by
  rcases h0 with h0 | h0
  · exact .inl h0
  · by_cases ha:a=0
    · exact .inl ha
    · refine .inr ⟨a - 1,by omega,by omega,?_⟩
      have:=h0 m X[a - 1] X[m] hm.1 hm.2 (List.getElem?_eq_getElem (by omega)) (List.getElem?_eq_getElem hml)
      rw [← Qb4] at this
      exact of_decide_eq_true this
 clear key
 have hto:X.take X.length=X:=List.take_of_length_le (Nat.le_refl _)
 rcases hq with ha | ⟨a0,ha0,ha,hcm⟩
 · have g1:¬ (0:Int) < (a:Int):=by omega
   have g1':¬ 0 < a:=by omega
   clear ha
   rcases hh with rfl | rfl
   · cases bal <;> cases part
     all_goals
      repeat (first|apply wA|apply wS|refine wr (by simp [hml,g1,g1'];with_reducible rfl) ?_|refine wq (by simp [hml,g1,g1'];with_reducible rfl) ?_|refine wt (by simpa [hml,g1,g1']) ?_|refine wf (by simpa [hml,g1,g1']) ?_|refine xt (by simpa [hml,g1,g1']) ?_|refine xf (by simpa [hml,g1,g1']) ?_|apply wB|apply Qaa|refine wX ?_|refine wY ?_|refine wR ?_|refine wK ?_|refine wE ?_)
      exact hD
   · cases bal <;> cases part
     rotate_right 1
     · cases t with
       | true =>
         have hs:=hS m (Qv6 hn (ht rfl))
         repeat (first|apply wA|apply wS|refine wr (by simp [e2,hml,g1,g1'];with_reducible rfl) ?_|refine wq (by simp [e2,hml,g1,g1'];with_reducible rfl) ?_|refine wt (by simpa [e2,hml,g1,g1']) ?_|refine wf (by simpa [e2,hml,g1,g1']) ?_|refine xt (by simpa [e2,hml,g1,g1']) ?_|refine xf (by simpa [e2,hml,g1,g1']) ?_|apply wB|apply Qaa|refine wX ?_|refine wY ?_|refine wR ?_|refine wK ?_|refine wE ?_)
         exact hs
       | false =>
         repeat (first|apply wA|apply wS|refine wr (by simp [e2,hml,g1,g1'];with_reducible rfl) ?_|refine wq (by simp [e2,hml,g1,g1'];with_reducible rfl) ?_|refine wt (by simpa [e2,hml,g1,g1']) ?_|refine wf (by simpa [e2,hml,g1,g1']) ?_|refine xt (by simpa [e2,hml,g1,g1']) ?_|refine xf (by simpa [e2,hml,g1,g1']) ?_|apply wB|apply Qaa|refine wX ?_|refine wY ?_|refine wR ?_|refine wK ?_|refine wE ?_)
         exact hD
     all_goals
      repeat (first|apply wA|apply wS|refine wr (by simp [hml,g1,g1'];with_reducible rfl) ?_|refine wq (by simp [hml,g1,g1'];with_reducible rfl) ?_|refine wt (by simpa [hml,g1,g1']) ?_|refine wf (by simpa [hml,g1,g1']) ?_|refine xt (by simpa [hml,g1,g1']) ?_|refine xf (by simpa [hml,g1,g1']) ?_|apply wB|apply Qaa|refine wX ?_|refine wY ?_|refine wR ?_|refine wK ?_|refine wE ?_)
      exact hD
 · have e3:=fun M=>Qab (Qe5 (hX _ (List.getElem_mem ha0)) (hX _ (List.getElem_mem hml)) M)
   have w1:IntKind.i64.wrap ((a:Int) - 1)=(a0:Int):=by rw [Qan (by omega) (by omega)];omega
   have g1:(0:Int) < (a:Int):=by omega
   have g1':0 < a:=by omega
   rcases hh with rfl | rfl
   · cases bal <;> cases part
     all_goals
      repeat (first|apply wA|apply wS|refine wr (by simp [e3,hml,ha0,w1,g1,g1',hcm];with_reducible rfl) ?_|refine wq (by simp [e3,hml,ha0,w1,g1,g1',hcm];with_reducible rfl) ?_|refine wt (by simpa [e3,hml,ha0,w1,g1,g1',hcm]) ?_|refine wf (by simpa [e3,hml,ha0,w1,g1,g1',hcm]) ?_|refine xt (by simpa [e3,hml,ha0,w1,g1,g1',hcm]) ?_|refine xf (by simpa [e3,hml,ha0,w1,g1,g1',hcm]) ?_|apply wB|apply Qaa|refine wX ?_|refine wY ?_|refine wR ?_|refine wK ?_|refine wE ?_)
      exact hD
   · cases bal <;> cases part
     rotate_right 1
     · cases t with
       | true =>
         have hs:=hS m (Qv6 hn (ht rfl))
         repeat (first|apply wA|apply wS|refine wr (by simp [e2,e3,hml,ha0,w1,g1,g1',hcm];with_reducible rfl) ?_|refine wq (by simp [e2,e3,hml,ha0,w1,g1,g1',hcm];with_reducible rfl) ?_|refine wt (by simpa [e2,e3,hml,ha0,w1,g1,g1',hcm]) ?_|refine wf (by simpa [e2,e3,hml,ha0,w1,g1,g1',hcm]) ?_|refine xt (by simpa [e2,e3,hml,ha0,w1,g1,g1',hcm]) ?_|refine xf (by simpa [e2,e3,hml,ha0,w1,g1,g1',hcm]) ?_|apply wB|apply Qaa|refine wX ?_|refine wY ?_|refine wR ?_|refine wK ?_|refine wE ?_)
         exact hs
       | false =>
         repeat (first|apply wA|apply wS|refine wr (by simp [e2,e3,hml,ha0,w1,g1,g1',hcm];with_reducible rfl) ?_|refine wq (by simp [e2,e3,hml,ha0,w1,g1,g1',hcm];with_reducible rfl) ?_|refine wt (by simpa [e2,e3,hml,ha0,w1,g1,g1',hcm]) ?_|refine wf (by simpa [e2,e3,hml,ha0,w1,g1,g1',hcm]) ?_|refine xt (by simpa [e2,e3,hml,ha0,w1,g1,g1',hcm]) ?_|refine xf (by simpa [e2,e3,hml,ha0,w1,g1,g1',hcm]) ?_|apply wB|apply Qaa|refine wX ?_|refine wY ?_|refine wR ?_|refine wK ?_|refine wE ?_)
         exact hD
     all_goals
      repeat (first|apply wA|apply wS|refine wr (by simp [e3,hml,ha0,w1,g1,g1',hcm];with_reducible rfl) ?_|refine wq (by simp [e3,hml,ha0,w1,g1,g1',hcm];with_reducible rfl) ?_|refine wt (by simpa [e3,hml,ha0,w1,g1,g1',hcm]) ?_|refine wf (by simpa [e3,hml,ha0,w1,g1,g1',hcm]) ?_|refine xt (by simpa [e3,hml,ha0,w1,g1,g1',hcm]) ?_|refine xf (by simpa [e3,hml,ha0,w1,g1,g1',hcm]) ?_|apply wB|apply Qaa|refine wX ?_|refine wY ?_|refine wR ?_|refine wK ?_|refine wE ?_)
      exact hD
set_option maxHeartbeats 2000000 in
theorem Jt1 (X:List (Int×Int)) (hX:∀ x ∈ X,DE x) (hn:X.Nodup) (hl:X.length≤700000) (a n lim:Nat) (h13:13≤n) (h21:n≤21) (hab:a+n≤X.length) (M:List Qal) (hrec:Qqt n lim (M++[[]]))
 (h0:a=0 ∨ ∀ k e f,a≤k→k < a+n→X[a - 1]? = some e→X[k]? = some f→Qam e f=true)
 (bal part:Bool) (Q:Ex→St→Prop) (f:Bool)
 (hS:∀ m:Nat,Qdd X a (a+n)→Q .ret { T:=[(0,O2 X),(1,I a),(2,I ((a:Int)+n)),(3,I lim),(4,fcE),(10,Bo bal),(11,Bo part),(12,I n),(13,I m),(80,Bo true)],loc:=[],M:=M })
 (hL:∀ (X3:List (Int×Int)) (mid:Nat) (bal part:Bool),a < mid→mid+1 < a+n→Seg X X3 a (a+n)→Qdd X3 a (mid+1)→Qil X3 a (mid+1) (a+n) →
   Q .normal { T:=[(0,O2 X3),(1,I (mid+1:Nat)),(2,I ((a:Int)+n)),(3,I lim),(4,fcE),(10,Bo bal),(11,Bo part)],loc:=[],M:=M })
 (hR:∀ (X3:List (Int×Int)) (mid:Nat) (bal part:Bool),a < mid→mid+1 < a+n→Seg X X3 a (a+n)→Qdd X3 mid (a+n)→Qil X3 a mid (a+n) →
   Q .normal { T:=[(0,O2 X3),(1,I a),(2,I mid),(3,I lim),(4,fcE),(10,Bo bal),(11,Bo part)],loc:=[],M:=M }) :
 wp tb cB { T:=[(0,O2 X),(1,I a),(2,I ((a:Int)+n)),(3,I lim),(4,fcE),(10,Bo bal),(11,Bo part),(12,I n)]++(if f then [(39,Bo false)] else []),loc:=[],M:=M } Q:=by
 obtain ⟨m,hint,hm,hh,p1,p2,hE⟩:=Qki X hX hn (by omega) a n hab h13 (by omega) (M++[[]])
 have e1:=Qab hE
 have hB:=Jp4 X hX hn hl a n lim h13 h21 hab M hrec h0 bal part Q m hint hm hh p1 p2 hS hL hR
 cases f
 all_goals
  simp only [if_true,if_false,Bool.false_eq_true,List.append_nil,List.cons_append,List.nil_append]
  refine wr (by simp [e1];with_reducible rfl) ?_
  exact hB
end Go.Idl
namespace Go.Idl
open Go
def pot (n:Nat):Nat:=if n≤12 then 0 else (n - 11) / 2
theorem Qqn {X:List (Int×Int)} {a n lim:Nat} {M:List Qal}
 (h:wp tb (.loop Qhx) { T:=[(0,O2 X),(1,I a),(2,I ((a:Int)+n)),(3,I lim),(4,fcE),(10,Bo true),(11,Bo true)],loc:=[],M:=M }
   (fun ex st=>ex=.ret∧∃ X':List (Int×Int),Seg X X' a (a+n)∧Qdd X' a (a+n)∧Qk3 Qn5 [0] st=some ⟨.tup [],[O2 X'],M,[]⟩)) :
 ∃ X':List (Int×Int),Seg X X' a (a+n)∧Qdd X' a (a+n)∧Ev tb Qlp [0] [O2 X,I a,I ((a:Int)+n),I lim,fcE] M ⟨.tup [],[O2 X'],M,[]⟩:=by
 suffices hh:∃ r,(∃ X':List (Int×Int),Seg X X' a (a+n)∧Qdd X' a (a+n)∧r=⟨.tup [],[O2 X'],M,[]⟩)∧Ev tb Qlp [0] [O2 X,I a,I ((a:Int)+n),I lim,fcE] M r by
  obtain ⟨r,⟨X',q1,q2,rfl⟩,q3⟩:=hh
  exact ⟨X',q1,q2,q3⟩
 refine Qho zt285 rfl ?_
 repeat (first|apply wA|apply wS|refine wr (by simp;with_reducible rfl) ?_|refine wq (by simp;with_reducible rfl) ?_|refine wt (by simpa) ?_|refine wf (by simpa) ?_|refine xt (by simpa) ?_|refine xf (by simpa) ?_|apply wB|apply Qaa|refine wX ?_|refine wY ?_|refine wR ?_|refine wK ?_|refine wE ?_)
 refine Qap h ?_
 rintro ex st ⟨rfl,X',q1,q2,q3⟩
 exact ⟨.inr rfl,_,⟨X',q1,q2,rfl⟩,q3⟩
abbrev Qls (X:List (Int×Int)) (a n:Nat) (M:List Qal) (ex:Ex) (st:St):Prop :=
 ex=.ret∧∃ X':List (Int×Int),Seg X X' a (a+n)∧Qdd X' a (a+n)∧Qk3 Qn5 [0] st=some ⟨.tup [],[O2 X'],M,[]⟩
theorem Qtq (n:Nat) (h12:n≤12) (X:List (Int×Int)) (a lim:Nat) (bal part:Bool) (M:List Qal) (hX:∀ x ∈ X,DE x) (hnd:X.Nodup) (hl:X.length≤700000) (hab:a+n≤X.length) :
 wp tb (.loop Qhx) { T:=[(0,O2 X),(1,I a),(2,I ((a:Int)+n)),(3,I lim),(4,fcE),(10,Bo bal),(11,Bo part)],loc:=[],M:=M } (Qls X a n M):=by
 obtain ⟨X',hS,hs,hE⟩:=Qzd X hX hnd hl a n hab (M++[[]])
 have e1:=Qab hE
 have w00:(a:Int)+(n:Int) - a=n:=by omega
 have w0:IntKind.i64.wrap (n:Int)=(n:Int):=Qan (by omega) (by omega)
 have g1:(n:Int)≤12:=by omega
 refine wW ?_
 repeat (first|apply wA|apply wS|refine wr (by simp [w00,w0,g1,h12,e1];with_reducible rfl) ?_|refine wq (by simp [w00,w0,g1,h12,e1];with_reducible rfl) ?_|refine wt (by simpa [w00,w0,g1,h12,e1]) ?_|refine wf (by simpa [w00,w0,g1,h12,e1]) ?_|refine xt (by simpa [w00,w0,g1,h12,e1]) ?_|refine xf (by simpa [w00,w0,g1,h12,e1]) ?_|apply wB|apply Qaa|refine wX ?_|refine wY ?_|refine wR ?_|refine wK ?_|refine wE ?_)
 refine ⟨rfl,X',hS,hs,?_⟩
 simp [Qn5]
set_option maxHeartbeats 4000000 in
theorem Jag:∀ (N n:Nat),n≤N→n≤21→∀ (X:List (Int×Int)) (a lim:Nat) (bal part:Bool) (M:List Qal),(∀ x ∈ X,DE x)→X.Nodup→X.length≤700000→a+n≤X.length→pot n≤lim→lim≤1000 →
 (a=0 ∨ ∀ k e f,a≤k→k < a+n→X[a - 1]? = some e→X[k]? = some f→Qam e f=true) →
 wp tb (.loop Qhx) { T:=[(0,O2 X),(1,I a),(2,I ((a:Int)+n)),(3,I lim),(4,fcE),(10,Bo bal),(11,Bo part)],loc:=[],M:=M } (Qls X a n M):=by
 intro N
 induction N with
 | zero =>
   intro n hn h21 X a lim bal part M hX hnd hl hab hpot hlim h0
   exact Qtq n (by omega) X a lim bal part M hX hnd hl hab
 | succ N ih =>
   intro n hn h21 X a lim bal part M hX hnd hl hab hpot hlim h0
   by_cases h12:n≤12
   · exact Qtq n h12 X a lim bal part M hX hnd hl hab
   have hp1:pot n=(n - 11) / 2:=by rw [pot,if_neg h12]
   have hlim1:1≤lim:=by omega
   have hpm:∀ n',n'+2≤n→pot n'≤lim - 1:=fun n' h=>by
    rw [pot];split <;> omega
   have hrec:∀ lim',lim - 1≤lim'→lim'≤1000→∀ M,Qqt n lim' M:=fun lim' h1 h2 M n' a' X hn' hX hnd hl hab h0=>by
    obtain ⟨X',q1,q2,q3⟩:=Qqn (ih n' (by omega) (by omega) X a' lim' true true M hX hnd hl hab (by have:=hpm n' hn';omega) h2 h0)
    exact ⟨X',q1,q2,Qab q3⟩
   have w00:(a:Int)+(n:Int) - a=n:=by omega
   have w0:IntKind.i64.wrap (n:Int)=(n:Int):=Qan (by omega) (by omega)
   have g1:¬ (n:Int)≤12:=by omega
   have g2:¬ (lim:Int)=0:=by omega
   have g2':¬ lim=0:=by omega
   have fin:∀ (X1:List (Int×Int)) (lim1:Nat),Seg X X1 a (a+n)→lim - 1≤lim1→lim1≤1000 →
    (∀ (X3:List (Int×Int)) (mid:Nat) (bal part:Bool),a < mid→mid+1 < a+n→Seg X1 X3 a (a+n)→Qdd X3 a (mid+1)→Qil X3 a (mid+1) (a+n) →
      wp tb (.loop Qhx) { T:=[(0,O2 X3),(1,I (mid+1:Nat)),(2,I ((a:Int)+n)),(3,I lim1),(4,fcE),(10,Bo bal),(11,Bo part)],loc:=[],M:=M } (Qls X a n M)) ∧
    (∀ (X3:List (Int×Int)) (mid:Nat) (bal part:Bool),a < mid→mid+1 < a+n→Seg X1 X3 a (a+n)→Qdd X3 mid (a+n)→Qil X3 a mid (a+n) →
      wp tb (.loop Qhx) { T:=[(0,O2 X3),(1,I a),(2,I mid),(3,I lim1),(4,fcE),(10,Bo bal),(11,Bo part)],loc:=[],M:=M } (Qls X a n M)):=by
    intro X1 lim1 hS1 hl1 hl2
    refine ⟨fun X3 mid bal part h1 h2 hS3 hs hc=>?_,fun X3 mid bal part h1 h2 hS3 hs hc=>?_⟩
    · have hS:=hS1.trans hS3
      have hle:=hS.len
      obtain ⟨n2,hn2⟩:∃ n2,a+n=mid+1+n2:=⟨a+n - (mid+1),by omega⟩
      have:=ih n2 (by omega) (by omega) X3 (mid+1) lim1 bal part M (fun x hx=>hX x (hS.perm.mem_iff.1 hx)) (hS.nodup hnd) (by omega) (by omega) (by have:=hpm n2 (by omega);omega) hl2 (.inr fun k e f k1 k2 he hf=>by
       rw [Nat.add_sub_cancel] at he
       exact hc mid k e f (by omega) (by omega) k1 (by omega) he hf)
      rw [show ((mid+1:Nat):Int)+(n2:Int)=(a:Int)+n by omega] at this
      refine Qap this ?_
      rintro ex st ⟨rfl,X',q1,q2,q3⟩
      rw [← hn2] at q1 q2
      exact ⟨rfl,X',hS.trans (q1.mono (by omega) (Nat.le_refl _)),Qq4 (hS.nodup hnd) hs hc q1 q2,q3⟩
    · have hS:=hS1.trans hS3
      have hle:=hS.len
      obtain ⟨n1,hn1⟩:∃ n1,mid=a+n1:=⟨mid - a,by omega⟩
      have:=ih n1 (by omega) (by omega) X3 a lim1 bal part M (fun x hx=>hX x (hS.perm.mem_iff.1 hx)) (hS.nodup hnd) (by omega) (by omega) (by have:=hpm n1 (by omega);omega) hl2 (by
       rcases h0 with h0 | h0
       · exact .inl h0
       · by_cases ha:a=0
         · exact .inl ha
         · refine .inr fun k e f k1 k2 he hf=>?_
           rw [hS.out (a - 1) (by omega)] at he
           obtain ⟨k',hk',hf'⟩:=hS.back hnd ⟨k1,by omega⟩ hf
           exact h0 k' e f hk'.1 hk'.2 he hf')
      rw [show (a:Int)+(n1:Int)=(mid:Int) by omega] at this
      refine Qap this ?_
      rintro ex st ⟨rfl,X',q1,q2,q3⟩
      rw [← hn1] at q1 q2
      exact ⟨rfl,X',hS.trans (q1.mono (Nat.le_refl _) (by omega)),Qng (hS.nodup hnd) hs hc q1 q2,q3⟩
   cases bal with
   | true =>
     obtain ⟨fL,fR⟩:=fin X lim (Seg.refl X a (a+n)) (by omega) hlim
     refine wW ?_
     iterate 10 (first|apply wA|apply wS|refine wr (by simp [w00,w0,g1,h12,g2,g2'];with_reducible rfl) ?_|refine wq (by simp [w00,w0,g1,h12,g2,g2'];with_reducible rfl) ?_|refine wt (by simpa [w00,w0,g1,h12,g2,g2']) ?_|refine wf (by simpa [w00,w0,g1,h12,g2,g2']) ?_|refine xt (by simpa [w00,w0,g1,h12,g2,g2']) ?_|refine xf (by simpa [w00,w0,g1,h12,g2,g2']) ?_|apply wB|apply Qaa|refine wX ?_|refine wY ?_|refine wR ?_|refine wK ?_|refine wE ?_)
     refine wK ?_
     refine Jt1 X hX hnd hl a n lim (by omega) h21 hab M (hrec lim (by omega) hlim _) h0 true part _ true ?_ ?_ ?_
     · intro m hs
       refine ⟨rfl,X,Seg.refl X a (a+n),hs,?_⟩
       simp [Qn5]
     · intro X3 mid bal part h1 h2 h3 h4 h5
       exact fL X3 mid bal part h1 h2 h3 h4 h5
     · intro X3 mid bal part h1 h2 h3 h4 h5
       exact fR X3 mid bal part h1 h2 h3 h4 h5
   | false =>
     obtain ⟨X1,hS1,hE⟩:=Qis X (by omega) a n (by omega) h21 hab (M++[[]])
     have e1:=Qab hE
     obtain ⟨lim1,hlim2⟩:∃ lim1,lim=lim1+1:=⟨lim - 1,by omega⟩
     have hle:=hS1.len
     have w1:IntKind.i64.wrap ((lim:Int) - 1)=(lim1:Int):=by rw [Qan (by omega) (by omega)];omega
     obtain ⟨fL,fR⟩:=fin X1 lim1 hS1 (by omega) (by omega)
     refine wW ?_
     iterate 12 (first|apply wA|apply wS|refine wr (by simp [w00,w0,g1,h12,g2,g2',e1,w1];with_reducible rfl) ?_|refine wq (by simp [w00,w0,g1,h12,g2,g2',e1,w1];with_reducible rfl) ?_|refine wt (by simpa [w00,w0,g1,h12,g2,g2',e1,w1]) ?_|refine wf (by simpa [w00,w0,g1,h12,g2,g2',e1,w1]) ?_|refine xt (by simpa [w00,w0,g1,h12,g2,g2',e1,w1]) ?_|refine xf (by simpa [w00,w0,g1,h12,g2,g2',e1,w1]) ?_|apply wB|apply Qaa|refine wX ?_|refine wY ?_|refine wR ?_|refine wK ?_|refine wE ?_)
     refine Jt1 X1 (fun x hx=>hX x (hS1.perm.mem_iff.1 hx)) (hS1.nodup hnd) (by omega) a n lim1 (by omega) h21 (by omega) M (hrec lim1 (by omega) (by omega) _) ?_ false part _ false ?_ ?_ ?_
     · rcases h0 with h0 | h0
       · exact .inl h0
       · by_cases ha:a=0
         · exact .inl ha
         · refine .inr fun k e f k1 k2 he hf=>?_
           rw [hS1.out (a - 1) (by omega)] at he
           obtain ⟨k',hk',hf'⟩:=hS1.back hnd ⟨k1,k2⟩ hf
           exact h0 k' e f hk'.1 hk'.2 he hf'
     · intro m hs
       refine ⟨rfl,X1,hS1,hs,?_⟩
       simp [Qn5]
     · intro X3 mid bal part h1 h2 h3 h4 h5
       exact fL X3 mid bal part h1 h2 h3 h4 h5
     · intro X3 mid bal part h1 h2 h3 h4 h5
       exact fR X3 mid bal part h1 h2 h3 h4 h5
theorem Qj5 (X:List (Int×Int)) (hX:∀ x ∈ X,DE x) (hn:X.Nodup) (h21:X.length≤21) (M:List Qal) :
 ∃ X':List (Int×Int),X'.Perm X∧Qdd X' 0 X.length∧Ev tb Qs9 [0] [O2 X,fcE] M ⟨.tup [],[O2 X'],M,[]⟩:=by
 have hb:Qtk X.length≤1000:=by unfold Qtk;(repeat' split) <;> omega
 have hp:pot X.length≤Qtk X.length:=by
  unfold pot Qtk
  (repeat' split) <;> omega
 obtain ⟨X',hS,hs,hE⟩:=Qqn (Jag X.length X.length (Nat.le_refl _) h21 X 0 (Qtk X.length) true true (M++[[]]) hX hn (by omega) (by omega) hp hb (.inl rfl))
 have e1:=Qab hE
 have e2:=Qab (Qv9 X.length h21)
 have w1:=@Jez X.length (by omega)
 rw [show ((0:Nat):Int)=0 from rfl,Int.zero_add] at e1
 rw [Nat.zero_add] at hs
 refine ⟨X',hS.perm,hs,?_⟩
 refine cW zt272 rfl ?_
 repeat (first|apply wA|apply wS|refine wr (by simp [e1,e2,w1];with_reducible rfl) ?_|refine wq (by simp [e1,e2,w1];with_reducible rfl) ?_|refine wt (by simpa [e1,e2,w1]) ?_|refine wf (by simpa [e1,e2,w1]) ?_|refine xt (by simpa [e1,e2,w1]) ?_|refine xf (by simpa [e1,e2,w1]) ?_|apply wB|apply Qaa|refine wX ?_|refine wY ?_|refine wR ?_|refine wK ?_|refine wE ?_)
 simp [Jb7]
def Jc9 (X:List (Int×Int)):List (Int×Int):=Qmp Qam [] X
theorem Qlm {X:List (Int×Int)} (hn:X.Nodup):PW (Jc9 X):=by
 obtain ⟨h1,h2⟩:=Qo6 (lt:=Qam) Qrg (fun a b h=>Qeo h) X [] .nil
 have hnd:(Jc9 X).Nodup:=h2.nodup_iff.2 (by simpa using hn)
 refine (h1.and hnd).imp fun {a b} h=>?_
 rcases Qb0 h.2 with q | q
 · exact q
 · rw [h.1] at q;cases q
theorem Qe3 (X:List (Int×Int)):(Jc9 X).Perm X:=by
 have:=Qog Qam X []
 rwa [List.nil_append] at this
theorem Qpz (X:List (Int×Int)) (hX:∀ x ∈ X,DE x) (hn:X.Nodup) (h21:X.length≤21) (M:List Qal) :
 Ev tb Qs9 [0] [O2 X,fcE] M ⟨.tup [],[O2 (Jc9 X)],M,[]⟩:=by
 obtain ⟨X',hp,hs,hE⟩:=Qj5 X hX hn h21 M
 have hl:=hp.length_eq
 have hpw:PW X':=List.pairwise_iff_getElem.2 fun i j hi hj hij=>hs i j _ _ (by omega) hij (by omega) (List.getElem?_eq_getElem hi) (List.getElem?_eq_getElem hj)
 have:X'=Jc9 X:=Qh9 hpw (Qlm hn) fun e=>by rw [hp.mem_iff,(Qe3 X).mem_iff]
 rw [← this];exact hE
end Go.Idl
namespace Go.Idl
open Go
def Qim (o:List Int) (i:Nat):List Int:=o.set i (o.getD i 0 - 1)
def subs:List (Int×Int)→List Int→List (Int×Int)→List (List (Int×Int))
 | [],left,chosen=>if left.all (fun x=>decide (x=0)) then [chosen] else []
 | e::r,left,chosen =>
   (if 0 < left.getD e.1.toNat 0∧0 < left.getD e.2.toNat 0 then subs r (Qim (Qim left e.1.toNat) e.2.toNat) (chosen++[e]) else [])++subs r left chosen
theorem Qm9 (e0:Nat) (es:List (Int×Int)) (c:Bool) (he0:e0=2 ∨ es=[]) (hl:es.length≤2000000):Ev tb Qsy [] [.lst e0 (eds es) c] [] ⟨O2 es,[],[],[]⟩:=by
 rcases he0 with rfl | rfl
 · refine cW Jp1 rfl ?_
   refine Qf1 (by simp;rfl) (by simp;rfl) ?_
   refine Qw6 (b:=es.isEmpty) (by simp [Qx3];rfl) (by simp) ?_ ?_ ?_ (ex:=.ret) (st':={ T:=[(2,.own 2 (eds es))],loc:=[],M:=[] })
   · refine Qpt (t:=false) (by simp) (by simp) fun _=>wS ?_
     refine Qf1 (by simp [show es.length≤274877906944 by omega];rfl) (by simp;rfl) ?_
     refine wR ?_
     simp
   · intro he
     have:es=[]:=by simpa using he
     subst this
     refine Qpt (t:=true) (by simp) (fun _=>wA ?_) (by simp)
     refine Qf1 (by simp;rfl) (by simp;rfl) ?_
     refine wX ?_
     simp
   · simp [Qtw]
 · refine cW Jp1 rfl ?_
   refine Qf1 (by simp;rfl) (by simp;rfl) ?_
   refine Qw6 (b:=([]:List (Int×Int)).isEmpty) (by simp [Qx3];rfl) (by simp) ?_ ?_ ?_ (ex:=.ret) (st':={ T:=[(2,.own 2 (eds ([]:List (Int×Int))))],loc:=[],M:=[] })
   · refine Qpt (t:=false) (by simp) (by simp) fun _=>wS ?_
     refine Qf1 (by simp;rfl) (by simp;rfl) ?_
     refine wR ?_
     simp
   · intro he
     refine Qpt (t:=true) (by simp) (fun _=>wA ?_) (by simp)
     refine Qf1 (by simp;rfl) (by simp;rfl) ?_
     refine wX ?_
     simp
   · simp [Qtw]
theorem Qyy (e0:Nat) (es:List (Int×Int)) (c:Bool) (he0:e0=2 ∨ es=[]) (hl:es.length≤2000000):Ev tb Qw2 [] [.lst e0 (eds es) c] [] ⟨O2 es,[],[],[]⟩:=by
 have e1:=Qab (Qm9 e0 es c he0 hl)
 have e2:=Qab (Jcn es)
 refine cW zt204 rfl ?_
 repeat (first|apply wA|apply wS|refine wr (by simp [e1,e2];with_reducible rfl) ?_|refine wq (by simp [e1,e2];with_reducible rfl) ?_|refine wt (by simpa [e1,e2]) ?_|refine wf (by simpa [e1,e2]) ?_|refine xt (by simpa [e1,e2]) ?_|refine xf (by simpa [e1,e2]) ?_|apply wB|apply Qaa|refine wX ?_|refine wY ?_|refine wR ?_|refine wK ?_|refine wE ?_)
 simp [Jal]
end Go.Idl
namespace Go.Idl
open Go
theorem Jhq (n:Int) (e0:Nat) (es:List (Int×Int)) (c:Bool) (he0:e0=2 ∨ es=[]) (hX:∀ x ∈ es,DE x) (hn:es.Nodup) (h21:es.length≤21) :
 Ev tb Qv4 [] [I n,.lst e0 (eds es) c] [] ⟨OG n (Jc9 es),[],[],[]⟩:=by
 have e1:=Qab (Qyy e0 es c he0 (by omega))
 have e2:=Qab (Qpz es hX hn h21 [[[I 0,Z]]])
 refine cW Jyq rfl ?_
 repeat (first|apply wA|apply wS|refine wr (by simp [e1,e2];with_reducible rfl) ?_|refine wq (by simp [e1,e2];with_reducible rfl) ?_|refine wt (by simpa [e1,e2]) ?_|refine wf (by simpa [e1,e2]) ?_|refine xt (by simpa [e1,e2]) ?_|refine xf (by simpa [e1,e2]) ?_|apply wB|apply Qaa|refine wX ?_|refine wY ?_|refine wR ?_|refine wK ?_|refine wE ?_)
 simp [Jcf]
end Go.Idl
namespace Go.Idl
open Go
def Qt7 (p:Int×Int→Bool) (i:Int):List (Int×Int)→Int
 | []=>-1
 | x::xs=>if p x then i else Qt7 p (i+1) xs
theorem Qke (xs:List (Int×Int)) (F:Lab) (caps:List IV) (M:List Qal) (p:Int×Int→Bool) (hl:xs.length≤2000000)
 (hp:∀ x ∈ xs,Ev tb F [] (.agg [I x.1,I x.2]::caps) (M++[[]]) ⟨Bo (p x),[],M++[[]],[]⟩) :
 Ev tb Qup [0] [O2 xs,.fn F caps] M ⟨I (Qt7 p 0 xs),[O2 xs],M,[]⟩:=by
 have loop:∀ (m i:Nat),i+m=xs.length→wp tb (.loop Jdh) { T:=[(0,O2 xs),(1,.fn F caps),(7,I xs.length),(8,I i)],loc:=[],M:=M }
  (fun ex st=>(ex=.exit 0∧Qt7 p i (xs.drop i)=-1∧st={ T:=[(0,O2 xs),(1,.fn F caps),(7,I xs.length),(8,I xs.length),(9,Bo false)],loc:=[],M:=M }) ∨
    ex=.ret∧st={ T:=[(0,O2 xs),(4,I (Qt7 p i (xs.drop i)))],loc:=[],M:=M }):=by
  intro m
  induction m with
  | zero =>
    intro i hi
    have h2:xs.drop i=[]:=List.drop_of_length_le (by omega)
    have h3:i=xs.length:=hi
    subst h3
    refine wW ?_
    repeat (first|apply wA|apply wS|refine wr (by simp;with_reducible rfl) ?_|refine wq (by simp;with_reducible rfl) ?_|refine wt (by simpa) ?_|refine wf (by simpa) ?_|refine xt (by simpa) ?_|refine xf (by simpa) ?_|apply wB|apply Qaa|refine wX ?_|refine wY ?_|refine wR ?_|refine wK ?_|refine wE ?_)
    refine .inl ⟨rfl,by rw [h2];rfl,rfl⟩
  | succ m ih =>
    intro i hi
    have hi2:i < xs.length:=by omega
    have h2:xs.drop i=xs[i]::xs.drop (i+1):=List.drop_eq_getElem_cons hi2
    have e1:=Qab (hp _ (List.getElem_mem hi2))
    have w1:IntKind.i64.wrap ((i:Int)+1)=((i+1:Nat):Int):=Qbp (by omega)
    have gx:(eds xs)[i]'(by simpa using hi2)=[I xs[i].1,I xs[i].2]:=by simp [eds]
    rw [h2]
    cases hpx:p xs[i] with
    | true =>
      refine wW ?_
      repeat (first|apply wA|apply wS|refine wr (by simp [e1,hi2,w1,hpx,gx];with_reducible rfl) ?_|refine wq (by simp [e1,hi2,w1,hpx,gx];with_reducible rfl) ?_|refine wt (by simpa [e1,hi2,w1,hpx,gx]) ?_|refine wf (by simpa [e1,hi2,w1,hpx,gx]) ?_|refine xt (by simpa [e1,hi2,w1,hpx,gx]) ?_|refine xf (by simpa [e1,hi2,w1,hpx,gx]) ?_|apply wB|apply Qaa|refine wX ?_|refine wY ?_|refine wR ?_|refine wK ?_|refine wE ?_)
      refine .inr ⟨rfl,by simp [Qt7,hpx]⟩
    | false =>
      refine wW ?_
      repeat (first|apply wA|apply wS|refine wr (by simp [e1,hi2,w1,hpx,gx];with_reducible rfl) ?_|refine wq (by simp [e1,hi2,w1,hpx,gx];with_reducible rfl) ?_|refine wt (by simpa [e1,hi2,w1,hpx,gx]) ?_|refine wf (by simpa [e1,hi2,w1,hpx,gx]) ?_|refine xt (by simpa [e1,hi2,w1,hpx,gx]) ?_|refine xf (by simpa [e1,hi2,w1,hpx,gx]) ?_|apply wB|apply Qaa|refine wX ?_|refine wY ?_|refine wR ?_|refine wK ?_|refine wE ?_)
      have:=ih (i+1) (by omega)
      simp only [Qt7,hpx] at this ⊢
      exact this
 refine cW Jws rfl ?_
 repeat (first|apply wA|apply wS|refine wr (by simp;with_reducible rfl) ?_|refine wq (by simp;with_reducible rfl) ?_|refine wt (by simpa) ?_|refine wf (by simpa) ?_|refine xt (by simpa) ?_|refine xf (by simpa) ?_|apply wB|apply Qaa|refine wX ?_|refine wY ?_|refine wR ?_|refine wK ?_|refine wE ?_)
 refine Qap (loop xs.length 0 (by simp)) ?_
 rintro ex st (⟨rfl,h,rfl⟩ | ⟨rfl,rfl⟩)
 · simp only [if_true]
   repeat (first|apply wA|apply wS|refine wr (by simp;with_reducible rfl) ?_|refine wq (by simp;with_reducible rfl) ?_|refine wt (by simpa) ?_|refine wf (by simpa) ?_|refine xt (by simpa) ?_|refine xf (by simpa) ?_|apply wB|apply Qaa|refine wX ?_|refine wY ?_|refine wR ?_|refine wK ?_|refine wE ?_)
   simp at h
   simp [Quq,h]
 · simp [Quq]
theorem Qn7 (p:Int×Int→Bool):∀ (xs:List (Int×Int)) (i:Nat),(Qt7 p i xs=-1∧∀ x ∈ xs,p x=false) ∨ ∃ k:Nat,∃ h:k < xs.length,Qt7 p i xs=((i+k:Nat):Int)∧p xs[k]=true∧∀ x ∈ xs.take k,p x=false
 | [],i=>.inl ⟨rfl,by simp⟩
 | x::r,i=>by
   cases hp:p x with
   | true=>exact .inr ⟨0,by simp,by simp [Qt7,hp],hp,by simp⟩
   | false =>
     rcases Qn7 p r (i+1) with ⟨h1,h2⟩ | ⟨k,hk,h1,h2,h3⟩
     · refine .inl ⟨?_,fun y hy=>?_⟩
       · simp only [Qt7,hp,Bool.false_eq_true,if_false];exact h1
       · rcases List.mem_cons.1 hy with rfl | hy
         · exact hp
         · exact h2 y hy
     · refine .inr ⟨k+1,by simp;exact hk,?_,h2,fun y hy=>?_⟩
       · simp only [Qt7,hp,Bool.false_eq_true,if_false]
         rw [show ((i:Int)+1)=((i+1:Nat):Int) by omega,h1];omega
       · rw [List.take_succ_cons] at hy
         rcases List.mem_cons.1 hy with rfl | hy
         · exact hp
         · exact h3 y hy
theorem Qtx (xs:List (Int×Int)) (F:Lab) (caps:List IV) (M:List Qal) (p:Int×Int→Bool) (hl:xs.length≤2000000)
 (hp:∀ bs,∀ x ∈ xs,Ev tb F [] (.agg [I x.1,I x.2]::caps) (M++[bs]) ⟨Bo (p x),[],M++[bs],[]⟩):∀ (m j i:Nat) (s:List (Int×Int)) (bs:Qal),j+m=xs.length→i < j→s.length=xs.length→s.take i=(xs.take j).filter (fun x=>!p x)→s.drop j=xs.drop j →
 wp tb (.loop Qxv) { T:=[(0,O2 s),(1,.fn F caps),(5,I i),(6,I j)],loc:=bs,M:=M }
  (fun ex st=>ex=.exit 0∧∃ (i:Nat) (s:List (Int×Int)) (bs:Qal),(i < xs.length∧s.length=xs.length∧s.take i=xs.filter (fun x=>!p x))∧st={ T:=[(0,O2 s),(1,.fn F caps),(5,I i),(6,I xs.length),(19,Bo false)],loc:=bs,M:=M }):=by
 intro m
 induction m with
 | zero =>
   intro j i s bs hj hij hs h1 h2
   have h3:j=xs.length:=hj
   subst h3
   rw [List.take_length] at h1
   refine wW ?_
   repeat (first|apply wA|apply wS|refine wr (by simp [hs];with_reducible rfl) ?_|refine wq (by simp [hs];with_reducible rfl) ?_|refine wt (by simpa [hs]) ?_|refine wf (by simpa [hs]) ?_|refine xt (by simpa [hs]) ?_|refine xf (by simpa [hs]) ?_|apply wB|apply Qaa|refine wX ?_|refine wY ?_|refine wR ?_|refine wK ?_|refine wE ?_)
   exact ⟨rfl,i,s,bs,⟨hij,hs,h1⟩,rfl⟩
 | succ m ih =>
   intro j i s bs hj hij hs h1 h2
   have hjl:j < xs.length:=by omega
   have hjs:j < s.length:=by omega
   have hil:i < s.length:=by omega
   have hil':i < xs.length:=by omega
   have hsj:s[j]=xs[j]:=by
    have h3:s.drop j=s[j]::s.drop (j+1):=List.drop_eq_getElem_cons hjs
    have h4:xs.drop j=xs[j]::xs.drop (j+1):=List.drop_eq_getElem_cons hjl
    rw [h3,h4] at h2
    exact (List.cons.inj h2).1
   have hd2:s.drop (j+1)=xs.drop (j+1):=by
    have h3:s.drop j=s[j]::s.drop (j+1):=List.drop_eq_getElem_cons hjs
    have h4:xs.drop j=xs[j]::xs.drop (j+1):=List.drop_eq_getElem_cons hjl
    rw [h3,h4] at h2
    exact (List.cons.inj h2).2
   have gx:(eds s)[j]'(by simpa using hjs)=[I xs[j].1,I xs[j].2]:=by simp [eds,hsj]
   have e1:=fun bs=>Qab (hp bs _ (List.getElem_mem hjl))
   have w1:IntKind.i64.wrap ((j:Int)+1)=((j+1:Nat):Int):=Qbp (by omega)
   have w2:IntKind.i64.wrap ((i:Int)+1)=((i+1:Nat):Int):=Qbp (by omega)
   have ht:(xs.take (j+1)).filter (fun x=>!p x)=(xs.take j).filter (fun x=>!p x)++(if p xs[j] then [] else [xs[j]]):=by
    rw [List.take_succ_eq_append_getElem hjl,List.filter_append,List.filter_cons,List.filter_nil]
    cases p xs[j] <;> rfl
   cases hpx:p xs[j] with
   | true =>
     rw [hpx,if_pos rfl,List.append_nil] at ht
     have hn:=fun bs=>ih (j+1) i s bs (by omega) (by omega) hs (by rw [ht];exact h1) hd2
     refine wW ?_
     repeat (first|apply wA|apply wS|refine wr (by simp [hs,hjl,hjs,gx,e1,hpx,w1];with_reducible rfl) ?_|refine wq (by simp [hs,hjl,hjs,gx,e1,hpx,w1];with_reducible rfl) ?_|refine wt (by simpa [hs,hjl,hjs,gx,e1,hpx,w1]) ?_|refine wf (by simpa [hs,hjl,hjs,gx,e1,hpx,w1]) ?_|refine xt (by simpa [hs,hjl,hjs,gx,e1,hpx,w1]) ?_|refine xf (by simpa [hs,hjl,hjs,gx,e1,hpx,w1]) ?_|apply wB|apply Qaa|refine wX ?_|refine wY ?_|refine wR ?_|refine wK ?_|refine wE ?_)
     exact hn _
   | false =>
     rw [hpx,if_neg (by simp)] at ht
     have hn:=fun bs=>ih (j+1) (i+1) (s.set i xs[j]) bs (by omega) (by omega) (by simpa using hs) (by
      rw [ht,← h1,List.take_succ_eq_append_getElem (by simpa using hil),List.take_set_of_le (Nat.le_refl _),List.getElem_set_self]) (by
      rw [List.drop_set_of_lt (by omega)];exact hd2)
     refine wW ?_
     repeat (first|apply wA|apply wS|refine wr (by simp [hs,hjl,hjs,gx,e1,hpx,w1,w2,hil,hil',Qhh];with_reducible rfl) ?_|refine wq (by simp [hs,hjl,hjs,gx,e1,hpx,w1,w2,hil,hil',Qhh];with_reducible rfl) ?_|refine wt (by simpa [hs,hjl,hjs,gx,e1,hpx,w1,w2,hil,hil',Qhh]) ?_|refine wf (by simpa [hs,hjl,hjs,gx,e1,hpx,w1,w2,hil,hil',Qhh]) ?_|refine xt (by simpa [hs,hjl,hjs,gx,e1,hpx,w1,w2,hil,hil',Qhh]) ?_|refine xf (by simpa [hs,hjl,hjs,gx,e1,hpx,w1,w2,hil,hil',Qhh]) ?_|apply wB|apply Qaa|refine wX ?_|refine wY ?_|refine wR ?_|refine wK ?_|refine wE ?_)
     exact hn _
theorem Qfu (xs:List (Int×Int)):((eds xs).all fun x=>x.all IV.isSc)=true:=by
 induction xs with
 | nil=>rfl
 | cons x xs ih=>simp only [eds,List.map_cons,List.all_cons] at *;rw [ih];rfl
theorem Qj7 (xs:List (Int×Int)) (F:Lab) (caps:List IV) (M:List Qal) (p:Int×Int→Bool) (hl:xs.length≤2000000)
 (hp:∀ bs M' x,x ∈ xs→Ev tb F [] (.agg [I x.1,I x.2]::caps) (M++[bs]++M') ⟨Bo (p x),[],M++[bs]++M',[]⟩) :
 Ev tb Quh [] [O2 xs,.fn F caps] M ⟨O2 (xs.filter fun x=>!p x),[],M,[]⟩:=by
 have e1:=Qab (Qke xs F caps (M++[[]]) p hl (fun x hx=>hp [] [[]] x hx))
 rcases Qn7 p xs 0 with ⟨h1,h2⟩ | ⟨k,hk,h1,h2,h3⟩
 · rw [show ((0:Nat):Int)=0 from rfl] at h1
   rw [h1] at e1
   have hf:(xs.filter fun x=>!p x)=xs:=List.filter_eq_self.2 fun x hx=>by rw [h2 x hx];rfl
   rw [hf]
   refine cW Jo1 rfl ?_
   repeat (first|apply wA|apply wS|refine wr (by simp [e1];with_reducible rfl) ?_|refine wq (by simp [e1];with_reducible rfl) ?_|refine wt (by simpa [e1]) ?_|refine wf (by simpa [e1]) ?_|refine xt (by simpa [e1]) ?_|refine xf (by simpa [e1]) ?_|apply wB|apply Qaa|refine wX ?_|refine wY ?_|refine wR ?_|refine wK ?_|refine wE ?_)
   simp [Quv]
 · rw [show ((0:Nat):Int)=0 from rfl,Nat.zero_add] at h1
   rw [h1] at e1
   have hk0:¬ (k:Int)=-1:=by omega
   have w1:IntKind.i64.wrap ((k:Int)+1)=((k+1:Nat):Int):=Qbp (by omega)
   have hlo:=Qtx xs F caps M p hl (fun bs x hx=>by simpa using hp bs [] x hx) (xs.length - (k+1)) (k+1) k xs [] (by omega) (by omega) rfl (by
    rw [List.take_succ_eq_append_getElem hk,List.filter_append,List.filter_cons,h2]
    simp only [Bool.not_true,Bool.false_eq_true,if_false,List.filter_nil,List.append_nil]
    exact (List.filter_eq_self.2 fun x hx=>by rw [h3 x hx];rfl).symm) rfl
   refine cW Jo1 rfl ?_
   repeat (first|apply wA|apply wS|refine wr (by simp [e1,hk0,w1];with_reducible rfl) ?_|refine wq (by simp [e1,hk0,w1];with_reducible rfl) ?_|refine wt (by simpa [e1,hk0,w1]) ?_|refine wf (by simpa [e1,hk0,w1]) ?_|refine xt (by simpa [e1,hk0,w1]) ?_|refine xf (by simpa [e1,hk0,w1]) ?_|apply wB|apply Qaa|refine wX ?_|refine wY ?_|refine wR ?_|refine wK ?_|refine wE ?_)
   refine Qap hlo ?_
   rintro ex st ⟨rfl,i,s,bs,⟨k1,k2,k3⟩,rfl⟩
   simp only [if_true]
   have hil:i≤xs.length:=by omega
   have hz:s.drop xs.length=[]:=List.drop_of_length_le (by omega)
   have hti:(s.take i).length=i:=by simp;omega
   have hfl:(xs.filter fun x=>!p x).length=i:=by rw [← k3];exact hti
   generalize (xs.filter fun x=>!p x)=G at *
   have htk:∀ Z:List (List IV),(eds G++Z).take i=eds G:=fun Z=>by
    rw [List.take_append_of_le_length (by rw [Qvc];omega),List.take_of_length_le (by rw [Qvc];omega)]
   repeat (first|apply wA|apply wS|refine wr (by simp [k2,hil,↓Qfu,hz,k3,hti,hfl,htk];with_reducible rfl) ?_|refine wq (by simp [k2,hil,↓Qfu,hz,k3,hti,hfl,htk];with_reducible rfl) ?_|refine wt (by simpa [k2,hil,↓Qfu,hz,k3,hti,hfl,htk]) ?_|refine wf (by simpa [k2,hil,↓Qfu,hz,k3,hti,hfl,htk]) ?_|refine xt (by simpa [k2,hil,↓Qfu,hz,k3,hti,hfl,htk]) ?_|refine xf (by simpa [k2,hil,↓Qfu,hz,k3,hti,hfl,htk]) ?_|apply wB|apply Qaa|refine wX ?_|refine wY ?_|refine wR ?_|refine wK ?_|refine wE ?_)
   simp [Quv]
end Go.Idl
namespace Go.Idl
open Go
def apart (a b c d:Int):Bool:=decide (a ≠ b) && decide (a ≠ c) && decide (a ≠ d) && decide (b ≠ c) && decide (b ≠ d) && decide (c ≠ d)
abbrev Sw (a b c d:Int):IV:=.agg [I a,I b,I c,I d]
set_option maxHeartbeats 4000000 in
theorem Jaa (a b c d:Int) (M:List Qal):Ev tb Qui [] [Sw a b c d] M ⟨Bo (apart a b c d),[],M,[]⟩:=by
 by_cases h1:a=b
 · subst h1
   refine cW Qo2 rfl ?_
   repeat (first|apply wA|apply wS|refine wr (by simp;with_reducible rfl) ?_|refine wq (by simp;with_reducible rfl) ?_|refine wt (by simpa) ?_|refine wf (by simpa) ?_|refine xt (by simpa) ?_|refine xf (by simpa) ?_|apply wB|apply Qaa|refine wX ?_|refine wY ?_|refine wR ?_|refine wK ?_|refine wE ?_)
   simp [Qkb,apart]
 by_cases h2:a=c
 · subst h2
   refine cW Qo2 rfl ?_
   repeat (first|apply wA|apply wS|refine wr (by simp [h1];with_reducible rfl) ?_|refine wq (by simp [h1];with_reducible rfl) ?_|refine wt (by simpa [h1]) ?_|refine wf (by simpa [h1]) ?_|refine xt (by simpa [h1]) ?_|refine xf (by simpa [h1]) ?_|apply wB|apply Qaa|refine wX ?_|refine wY ?_|refine wR ?_|refine wK ?_|refine wE ?_)
   simp [Qkb,apart,h1]
 by_cases h3:a=d
 · subst h3
   refine cW Qo2 rfl ?_
   repeat (first|apply wA|apply wS|refine wr (by simp [h1,h2];with_reducible rfl) ?_|refine wq (by simp [h1,h2];with_reducible rfl) ?_|refine wt (by simpa [h1,h2]) ?_|refine wf (by simpa [h1,h2]) ?_|refine xt (by simpa [h1,h2]) ?_|refine xf (by simpa [h1,h2]) ?_|apply wB|apply Qaa|refine wX ?_|refine wY ?_|refine wR ?_|refine wK ?_|refine wE ?_)
   simp [Qkb,apart,h1,h2]
 by_cases h4:b=c
 · subst h4
   refine cW Qo2 rfl ?_
   repeat (first|apply wA|apply wS|refine wr (by simp [h1,h2,h3];with_reducible rfl) ?_|refine wq (by simp [h1,h2,h3];with_reducible rfl) ?_|refine wt (by simpa [h1,h2,h3]) ?_|refine wf (by simpa [h1,h2,h3]) ?_|refine xt (by simpa [h1,h2,h3]) ?_|refine xf (by simpa [h1,h2,h3]) ?_|apply wB|apply Qaa|refine wX ?_|refine wY ?_|refine wR ?_|refine wK ?_|refine wE ?_)
   simp [Qkb,apart,h1,h2,h3]
 by_cases h5:b=d
 · subst h5
   refine cW Qo2 rfl ?_
   repeat (first|apply wA|apply wS|refine wr (by simp [h1,h2,h3,h4];with_reducible rfl) ?_|refine wq (by simp [h1,h2,h3,h4];with_reducible rfl) ?_|refine wt (by simpa [h1,h2,h3,h4]) ?_|refine wf (by simpa [h1,h2,h3,h4]) ?_|refine xt (by simpa [h1,h2,h3,h4]) ?_|refine xf (by simpa [h1,h2,h3,h4]) ?_|apply wB|apply Qaa|refine wX ?_|refine wY ?_|refine wR ?_|refine wK ?_|refine wE ?_)
   simp [Qkb,apart,h1,h2,h3,h4]
 by_cases h6:c=d
 · subst h6
   refine cW Qo2 rfl ?_
   repeat (first|apply wA|apply wS|refine wr (by simp [h1,h2,h3,h4,h5];with_reducible rfl) ?_|refine wq (by simp [h1,h2,h3,h4,h5];with_reducible rfl) ?_|refine wt (by simpa [h1,h2,h3,h4,h5]) ?_|refine wf (by simpa [h1,h2,h3,h4,h5]) ?_|refine xt (by simpa [h1,h2,h3,h4,h5]) ?_|refine xf (by simpa [h1,h2,h3,h4,h5]) ?_|apply wB|apply Qaa|refine wX ?_|refine wY ?_|refine wR ?_|refine wK ?_|refine wE ?_)
   simp [Qkb,apart,h1,h2,h3,h4,h5]
 refine cW Qo2 rfl ?_
 repeat (first|apply wA|apply wS|refine wr (by simp [h1,h2,h3,h4,h5,h6];with_reducible rfl) ?_|refine wq (by simp [h1,h2,h3,h4,h5,h6];with_reducible rfl) ?_|refine wt (by simpa [h1,h2,h3,h4,h5,h6]) ?_|refine wf (by simpa [h1,h2,h3,h4,h5,h6]) ?_|refine xt (by simpa [h1,h2,h3,h4,h5,h6]) ?_|refine xf (by simpa [h1,h2,h3,h4,h5,h6]) ?_|apply wB|apply Qaa|refine wX ?_|refine wY ?_|refine wR ?_|refine wK ?_|refine wE ?_)
 simp [Qkb,apart,h1,h2,h3,h4,h5,h6]
def Qti (a b c d:Int) (x:Int×Int):Bool:=decide (x=(min a b,max a b)) || decide (x=(min c d,max c d))
set_option maxHeartbeats 4000000 in
theorem Qm6 (x:Int×Int) (a b c d:Int) (B:Qal) (k:Nat) (hB:B[k]? = some [I a,I b,I c,I d]) (Ms:List Qal):Ev tb Qr8 [] [.agg [I x.1,I x.2],.bptr 0 k 0] (B::Ms) ⟨Bo (Qti a b c d x),[],B::Ms,[]⟩:=by
 have e1:=fun M=>Qab (Qme a b M)
 have e2:=fun M=>Qab (Qme c d M)
 obtain ⟨x1,x2⟩:=x
 have hg:Qti a b c d (x1,x2)=(decide (x1=min a b) && decide (x2=max a b) || decide (x1=min c d) && decide (x2=max c d)):=by
  simp [Qti]
 rw [hg]
 generalize min a b=p at *
 generalize max a b=q at *
 generalize min c d=r at *
 generalize max c d=s at *
 by_cases h1:x1=p
 · subst h1
   by_cases h2:x2=q
   · subst h2
     refine cW Qo9 rfl ?_
     repeat (first|apply wA|apply wS|refine wr (by simp [e1,e2,hB];with_reducible rfl) ?_|refine wq (by simp [e1,e2,hB];with_reducible rfl) ?_|refine wt (by simpa [e1,e2,hB]) ?_|refine wf (by simpa [e1,e2,hB]) ?_|refine xt (by simpa [e1,e2,hB]) ?_|refine xf (by simpa [e1,e2,hB]) ?_|apply wB|apply Qaa|refine wX ?_|refine wY ?_|refine wR ?_|refine wK ?_|refine wE ?_)
     refine Qea (by simp [e1,e2,hB];with_reducible rfl) (by simp;with_reducible rfl) ?_ ?_
     · intro p hp
       simp only [List.mem_cons,List.not_mem_nil,or_false] at hp
       rcases hp with rfl | rfl | rfl
       · exact ⟨_,by simp [e1,e2,hB];with_reducible rfl,by simp⟩
       · exact ⟨_,by simp [e1,e2,hB];with_reducible rfl,by simp⟩
       · exact ⟨_,by simp [e1,e2,hB];with_reducible rfl,by simp⟩
     repeat (first|apply wA|apply wS|refine wr (by simp;with_reducible rfl) ?_|refine wq (by simp;with_reducible rfl) ?_|refine wt (by simpa) ?_|refine wf (by simpa) ?_|refine xt (by simpa) ?_|refine xf (by simpa) ?_|apply wB|apply Qaa|refine wX ?_|refine wY ?_|refine wR ?_|refine wK ?_|refine wE ?_)
     simp [Qj4]
   · by_cases h3:x1=r
     · subst h3
       by_cases h4:x2=s
       · subst h4
         refine cW Qo9 rfl ?_
         repeat (first|apply wA|apply wS|refine wr (by simp [e1,e2,hB,h2];with_reducible rfl) ?_|refine wq (by simp [e1,e2,hB,h2];with_reducible rfl) ?_|refine wt (by simpa [e1,e2,hB,h2]) ?_|refine wf (by simpa [e1,e2,hB,h2]) ?_|refine xt (by simpa [e1,e2,hB,h2]) ?_|refine xf (by simpa [e1,e2,hB,h2]) ?_|apply wB|apply Qaa|refine wX ?_|refine wY ?_|refine wR ?_|refine wK ?_|refine wE ?_)
         refine Qea (by simp [e1,e2,hB,h2];with_reducible rfl) (by simp;with_reducible rfl) ?_ ?_
         · intro p hp
           simp only [List.mem_cons,List.not_mem_nil,or_false] at hp
           rcases hp with rfl | rfl | rfl
           · exact ⟨_,by simp [e1,e2,hB,h2];with_reducible rfl,by simp⟩
           · exact ⟨_,by simp [e1,e2,hB,h2];with_reducible rfl,by simp⟩
           · exact ⟨_,by simp [e1,e2,hB,h2];with_reducible rfl,by simp⟩
         repeat (first|apply wA|apply wS|refine wr (by simp;with_reducible rfl) ?_|refine wq (by simp;with_reducible rfl) ?_|refine wt (by simpa) ?_|refine wf (by simpa) ?_|refine xt (by simpa) ?_|refine xf (by simpa) ?_|apply wB|apply Qaa|refine wX ?_|refine wY ?_|refine wR ?_|refine wK ?_|refine wE ?_)
         simp [Qj4,h2]
       · refine cW Qo9 rfl ?_
         repeat (first|apply wA|apply wS|refine wr (by simp [e1,e2,hB,h2,h4];with_reducible rfl) ?_|refine wq (by simp [e1,e2,hB,h2,h4];with_reducible rfl) ?_|refine wt (by simpa [e1,e2,hB,h2,h4]) ?_|refine wf (by simpa [e1,e2,hB,h2,h4]) ?_|refine xt (by simpa [e1,e2,hB,h2,h4]) ?_|refine xf (by simpa [e1,e2,hB,h2,h4]) ?_|apply wB|apply Qaa|refine wX ?_|refine wY ?_|refine wR ?_|refine wK ?_|refine wE ?_)
         refine Qea (by simp [e1,e2,hB,h2,h4];with_reducible rfl) (by simp;with_reducible rfl) ?_ ?_
         · intro p hp
           simp only [List.mem_cons,List.not_mem_nil,or_false] at hp
           rcases hp with rfl | rfl | rfl
           · exact ⟨_,by simp [e1,e2,hB,h2,h4];with_reducible rfl,by simp⟩
           · exact ⟨_,by simp [e1,e2,hB,h2,h4];with_reducible rfl,by simp⟩
           · exact ⟨_,by simp [e1,e2,hB,h2,h4];with_reducible rfl,by simp⟩
         repeat (first|apply wA|apply wS|refine wr (by simp;with_reducible rfl) ?_|refine wq (by simp;with_reducible rfl) ?_|refine wt (by simpa) ?_|refine wf (by simpa) ?_|refine xt (by simpa) ?_|refine xf (by simpa) ?_|apply wB|apply Qaa|refine wX ?_|refine wY ?_|refine wR ?_|refine wK ?_|refine wE ?_)
         simp [Qj4,h2,h4]
     · refine cW Qo9 rfl ?_
       repeat (first|apply wA|apply wS|refine wr (by simp [e1,e2,hB,h2,h3];with_reducible rfl) ?_|refine wq (by simp [e1,e2,hB,h2,h3];with_reducible rfl) ?_|refine wt (by simpa [e1,e2,hB,h2,h3]) ?_|refine wf (by simpa [e1,e2,hB,h2,h3]) ?_|refine xt (by simpa [e1,e2,hB,h2,h3]) ?_|refine xf (by simpa [e1,e2,hB,h2,h3]) ?_|apply wB|apply Qaa|refine wX ?_|refine wY ?_|refine wR ?_|refine wK ?_|refine wE ?_)
       refine Qea (by simp [e1,e2,hB,h2,h3];with_reducible rfl) (by simp;with_reducible rfl) ?_ ?_
       · intro p hp
         simp only [List.mem_cons,List.not_mem_nil,or_false] at hp
         rcases hp with rfl | rfl | rfl
         · exact ⟨_,by simp [e1,e2,hB,h2,h3];with_reducible rfl,by simp⟩
         · exact ⟨_,by simp [e1,e2,hB,h2,h3];with_reducible rfl,by simp⟩
         · exact ⟨_,by simp [e1,e2,hB,h2,h3];with_reducible rfl,by simp⟩
       repeat (first|apply wA|apply wS|refine wr (by simp;with_reducible rfl) ?_|refine wq (by simp;with_reducible rfl) ?_|refine wt (by simpa) ?_|refine wf (by simpa) ?_|refine xt (by simpa) ?_|refine xf (by simpa) ?_|apply wB|apply Qaa|refine wX ?_|refine wY ?_|refine wR ?_|refine wK ?_|refine wE ?_)
       simp [Qj4,h2,h3]
 · by_cases h3:x1=r
   · subst h3
     by_cases h4:x2=s
     · subst h4
       refine cW Qo9 rfl ?_
       repeat (first|apply wA|apply wS|refine wr (by simp [e1,e2,hB,h1];with_reducible rfl) ?_|refine wq (by simp [e1,e2,hB,h1];with_reducible rfl) ?_|refine wt (by simpa [e1,e2,hB,h1]) ?_|refine wf (by simpa [e1,e2,hB,h1]) ?_|refine xt (by simpa [e1,e2,hB,h1]) ?_|refine xf (by simpa [e1,e2,hB,h1]) ?_|apply wB|apply Qaa|refine wX ?_|refine wY ?_|refine wR ?_|refine wK ?_|refine wE ?_)
       refine Qea (by simp [e1,e2,hB,h1];with_reducible rfl) (by simp;with_reducible rfl) ?_ ?_
       · intro p hp
         simp only [List.mem_cons,List.not_mem_nil,or_false] at hp
         rcases hp with rfl | rfl | rfl
         · exact ⟨_,by simp [e1,e2,hB,h1];with_reducible rfl,by simp⟩
         · exact ⟨_,by simp [e1,e2,hB,h1];with_reducible rfl,by simp⟩
         · exact ⟨_,by simp [e1,e2,hB,h1];with_reducible rfl,by simp⟩
       repeat (first|apply wA|apply wS|refine wr (by simp;with_reducible rfl) ?_|refine wq (by simp;with_reducible rfl) ?_|refine wt (by simpa) ?_|refine wf (by simpa) ?_|refine xt (by simpa) ?_|refine xf (by simpa) ?_|apply wB|apply Qaa|refine wX ?_|refine wY ?_|refine wR ?_|refine wK ?_|refine wE ?_)
       simp [Qj4,h1]
     · refine cW Qo9 rfl ?_
       repeat (first|apply wA|apply wS|refine wr (by simp [e1,e2,hB,h1,h4];with_reducible rfl) ?_|refine wq (by simp [e1,e2,hB,h1,h4];with_reducible rfl) ?_|refine wt (by simpa [e1,e2,hB,h1,h4]) ?_|refine wf (by simpa [e1,e2,hB,h1,h4]) ?_|refine xt (by simpa [e1,e2,hB,h1,h4]) ?_|refine xf (by simpa [e1,e2,hB,h1,h4]) ?_|apply wB|apply Qaa|refine wX ?_|refine wY ?_|refine wR ?_|refine wK ?_|refine wE ?_)
       refine Qea (by simp [e1,e2,hB,h1,h4];with_reducible rfl) (by simp;with_reducible rfl) ?_ ?_
       · intro p hp
         simp only [List.mem_cons,List.not_mem_nil,or_false] at hp
         rcases hp with rfl | rfl | rfl
         · exact ⟨_,by simp [e1,e2,hB,h1,h4];with_reducible rfl,by simp⟩
         · exact ⟨_,by simp [e1,e2,hB,h1,h4];with_reducible rfl,by simp⟩
         · exact ⟨_,by simp [e1,e2,hB,h1,h4];with_reducible rfl,by simp⟩
       repeat (first|apply wA|apply wS|refine wr (by simp;with_reducible rfl) ?_|refine wq (by simp;with_reducible rfl) ?_|refine wt (by simpa) ?_|refine wf (by simpa) ?_|refine xt (by simpa) ?_|refine xf (by simpa) ?_|apply wB|apply Qaa|refine wX ?_|refine wY ?_|refine wR ?_|refine wK ?_|refine wE ?_)
       simp [Qj4,h1,h4]
   · refine cW Qo9 rfl ?_
     repeat (first|apply wA|apply wS|refine wr (by simp [e1,e2,hB,h1,h3];with_reducible rfl) ?_|refine wq (by simp [e1,e2,hB,h1,h3];with_reducible rfl) ?_|refine wt (by simpa [e1,e2,hB,h1,h3]) ?_|refine wf (by simpa [e1,e2,hB,h1,h3]) ?_|refine xt (by simpa [e1,e2,hB,h1,h3]) ?_|refine xf (by simpa [e1,e2,hB,h1,h3]) ?_|apply wB|apply Qaa|refine wX ?_|refine wY ?_|refine wR ?_|refine wK ?_|refine wE ?_)
     refine Qea (by simp [e1,e2,hB,h1,h3];with_reducible rfl) (by simp;with_reducible rfl) ?_ ?_
     · intro p hp
       simp only [List.mem_cons,List.not_mem_nil,or_false] at hp
       rcases hp with rfl | rfl | rfl
       · exact ⟨_,by simp [e1,e2,hB,h1,h3];with_reducible rfl,by simp⟩
       · exact ⟨_,by simp [e1,e2,hB,h1,h3];with_reducible rfl,by simp⟩
       · exact ⟨_,by simp [e1,e2,hB,h1,h3];with_reducible rfl,by simp⟩
     repeat (first|apply wA|apply wS|refine wr (by simp;with_reducible rfl) ?_|refine wq (by simp;with_reducible rfl) ?_|refine wt (by simpa) ?_|refine wf (by simpa) ?_|refine xt (by simpa) ?_|refine xf (by simpa) ?_|apply wB|apply Qaa|refine wX ?_|refine wY ?_|refine wR ?_|refine wK ?_|refine wE ?_)
     simp [Qj4,h1,h3]
end Go.Idl
namespace Go.Idl
open Go
def swX (es:List (Int×Int)) (a b c d:Int):List (Int×Int):=es.filter (fun x=>!Qti a b c d x)++[(min a c,max a c),(min b d,max b d)]
def sw (es:List (Int×Int)) (a b c d:Int):List (Int×Int):=Jc9 (swX es a b c d)
def Qdm (es:List (Int×Int)) (a b c d:Int):Bool:=apart a b c d && Qrc es a b && Qrc es c d && !Qrc es a c && !Qrc es b d
theorem Qi0 {es:List (Int×Int)} {a b:Int}:Qrc es a b=true ↔ (min a b,max a b) ∈ es:=by
 simp [Qrc]
theorem Qu0 {es:List (Int×Int)} {a b:Int}:Qrc es a b=false ↔ (min a b,max a b) ∉ es:=by
 rw [← Qi0];simp
theorem Qbz {es:List (Int×Int)} {a b c d:Int}:Qdm es a b c d=true ↔ (a ≠ b∧a ≠ c∧a ≠ d∧b ≠ c∧b ≠ d∧c ≠ d)∧(min a b,max a b) ∈ es∧(min c d,max c d) ∈ es∧(min a c,max a c) ∉ es∧(min b d,max b d) ∉ es:=by
 rw [Qdm]
 simp only [Qba,Bool.not_eq_true',apart,decide_eq_true_eq,Qi0,Qu0,and_assoc]
theorem Qmt {n:Nat} (hn:n≤7) {es:List (Int×Int)} (h:Qad n es=true):es.length≤21:=by
 have h1:=(Qqr h).length_le
 have h2:∀ n,n≤7→(prs n).length≤21:=by decide +kernel
 have:=h2 _ hn
 omega
theorem Qdf {n:Nat} {es:List (Int×Int)} {a b c d:Int} (h:Qad n es=true) (hm:Qdm es a b c d=true) :
 (swX es a b c d).Nodup∧(∀ e ∈ swX es a b c d,e ∈ prs n)∧Qad n (sw es a b c d)=true∧(swX es a b c d).length≤21:=by
 obtain ⟨h1,h2,h3⟩:=Qa2.1 h
 obtain ⟨⟨k1,k2,k3,k4,k5,k6⟩,m1,m2,m3,m4⟩:=Qbz.1 hm
 have p1:=Qa1.1 (h2 _ m1)
 have p2:=Qa1.1 (h2 _ m2)
 have hn:(swX es a b c d).Nodup:=by
  refine List.nodup_append.2 ⟨(Qi1 h1).filter _,?_,?_⟩
  · simp only [List.nodup_cons,List.mem_singleton,List.not_mem_nil,not_false_eq_true,List.nodup_nil,and_true,Qpi]
    omega
  · intro x hx y hy hxy
    subst hxy
    have hx:=(List.mem_filter.1 hx).1
    simp only [List.mem_cons,List.not_mem_nil,or_false] at hy
    rcases hy with rfl | rfl
    · exact m3 hx
    · exact m4 hx
 have hp:∀ e ∈ swX es a b c d,e ∈ prs n:=fun e he=>by
  rcases List.mem_append.1 he with he | he
  · exact h2 _ (List.mem_filter.1 he).1
  · simp only [List.mem_cons,List.not_mem_nil,or_false] at he
    simp only at p1 p2
    rcases he with rfl | rfl
    · exact Qa1.2 (by simp only;omega)
    · exact Qa1.2 (by simp only;omega)
 have hv:Qad n (sw es a b c d)=true:=Qa2.2 ⟨Qlm hn,fun e he=>hp e ((Qe3 _).mem_iff.1 he),h3⟩
 refine ⟨hn,hp,hv,?_⟩
 have:=Qmt h3 hv
 rw [sw,(Qe3 _).length_eq] at this
 exact this
abbrev OS (n:Nat) (es:List (Int×Int)) (a b c d:Int):IV:=if Qdm es a b c d then .tup [OG n (sw es a b c d),Bo true] else .tup [.agg [I 0,Z],Bo false]
set_option maxHeartbeats 4000000 in
theorem Qn8 (n:Nat) (es:List (Int×Int)) (cc:Bool) (a b c d:Int) (hv:Qad n es=true):Ev tb Qta [] [Gr n es cc,Sw a b c d] [] ⟨OS n es a b c d,[],[],[]⟩:=by
 have hn7:=(Qa2.1 hv).2.2
 have h21:=Qmt hn7 hv
 have ea:=fun M=>Qab (Jaa a b c d M)
 have eh:=fun c' a b M=>Qab (Jqn n 2 es c' a b (.inl rfl) (by omega) M)
 cases h1:apart a b c d with
 | false =>
   have hm:Qdm es a b c d=false:=by simp [Qdm,h1]
   rw [OS,hm]
   refine cW Qte rfl ?_
   repeat (first|apply wA|apply wS|refine wr (by simp [ea,eh,h1];with_reducible rfl) ?_|refine wq (by simp [ea,eh,h1];with_reducible rfl) ?_|refine wt (by simpa [ea,eh,h1]) ?_|refine wf (by simpa [ea,eh,h1]) ?_|refine xt (by simpa [ea,eh,h1]) ?_|refine xf (by simpa [ea,eh,h1]) ?_|apply wB|apply Qaa|refine wX ?_|refine wY ?_|refine wR ?_|refine wK ?_|refine wE ?_)
   simp [Qmb]
 | true =>
 cases h2:Qrc es a b with
 | false =>
   have hm:Qdm es a b c d=false:=by simp [Qdm,h2]
   rw [OS,hm]
   refine cW Qte rfl ?_
   repeat (first|apply wA|apply wS|refine wr (by simp [ea,eh,h1,h2];with_reducible rfl) ?_|refine wq (by simp [ea,eh,h1,h2];with_reducible rfl) ?_|refine wt (by simpa [ea,eh,h1,h2]) ?_|refine wf (by simpa [ea,eh,h1,h2]) ?_|refine xt (by simpa [ea,eh,h1,h2]) ?_|refine xf (by simpa [ea,eh,h1,h2]) ?_|apply wB|apply Qaa|refine wX ?_|refine wY ?_|refine wR ?_|refine wK ?_|refine wE ?_)
   simp [Qmb]
 | true =>
 cases h3:Qrc es c d with
 | false =>
   have hm:Qdm es a b c d=false:=by simp [Qdm,h3]
   rw [OS,hm]
   refine cW Qte rfl ?_
   repeat (first|apply wA|apply wS|refine wr (by simp [ea,eh,h1,h2,h3];with_reducible rfl) ?_|refine wq (by simp [ea,eh,h1,h2,h3];with_reducible rfl) ?_|refine wt (by simpa [ea,eh,h1,h2,h3]) ?_|refine wf (by simpa [ea,eh,h1,h2,h3]) ?_|refine xt (by simpa [ea,eh,h1,h2,h3]) ?_|refine xf (by simpa [ea,eh,h1,h2,h3]) ?_|apply wB|apply Qaa|refine wX ?_|refine wY ?_|refine wR ?_|refine wK ?_|refine wE ?_)
   simp [Qmb]
 | true =>
 cases h4:Qrc es a c with
 | true =>
   have hm:Qdm es a b c d=false:=by simp [Qdm,h4]
   rw [OS,hm]
   refine cW Qte rfl ?_
   repeat (first|apply wA|apply wS|refine wr (by simp [ea,eh,h1,h2,h3,h4];with_reducible rfl) ?_|refine wq (by simp [ea,eh,h1,h2,h3,h4];with_reducible rfl) ?_|refine wt (by simpa [ea,eh,h1,h2,h3,h4]) ?_|refine wf (by simpa [ea,eh,h1,h2,h3,h4]) ?_|refine xt (by simpa [ea,eh,h1,h2,h3,h4]) ?_|refine xf (by simpa [ea,eh,h1,h2,h3,h4]) ?_|apply wB|apply Qaa|refine wX ?_|refine wY ?_|refine wR ?_|refine wK ?_|refine wE ?_)
   simp [Qmb]
 | false =>
 cases h5:Qrc es b d with
 | true =>
   have hm:Qdm es a b c d=false:=by simp [Qdm,h5]
   rw [OS,hm]
   refine cW Qte rfl ?_
   repeat (first|apply wA|apply wS|refine wr (by simp [ea,eh,h1,h2,h3,h4,h5];with_reducible rfl) ?_|refine wq (by simp [ea,eh,h1,h2,h3,h4,h5];with_reducible rfl) ?_|refine wt (by simpa [ea,eh,h1,h2,h3,h4,h5]) ?_|refine wf (by simpa [ea,eh,h1,h2,h3,h4,h5]) ?_|refine xt (by simpa [ea,eh,h1,h2,h3,h4,h5]) ?_|refine xf (by simpa [ea,eh,h1,h2,h3,h4,h5]) ?_|apply wB|apply Qaa|refine wX ?_|refine wY ?_|refine wR ?_|refine wK ?_|refine wE ?_)
   simp [Qmb]
 | false =>
 have hm:Qdm es a b c d=true:=by simp [Qdm,h1,h2,h3,h4,h5]
 obtain ⟨q1,q2,q3,q4⟩:=Qdf hv hm
 rw [OS,hm]
 have ec:=fun c'=>Qab (Qm9 2 es c' (.inl rfl) (by omega))
 have ed:=Qab (Qj7 es Qr8 [.bptr 0 1 0] [[[I n,L2 es cc],[I a,I b,I c,I d],[I 0,Z]]] (Qti a b c d) (by omega) (fun bs M' x _=>Qm6 x a b c d _ 1 rfl _))
 have ee:=fun a b M=>Qab (Qme a b M)
 have em:=fun c'=>Qab (Jhq n 2 (swX es a b c d) c' (.inl rfl) (fun x hx=>by have:=Qa1.1 (q2 x hx);simp only [DE];omega) q1 q4)
 have hf:Fit (sw es a b c d):=fun e he=>by have:=Qa1.1 ((Qa2.1 q3).2.1 e he);omega
 have hl:(sw es a b c d).length≤21:=Qmt hn7 q3
 have ev:=fun c'=>Qab (Qej n (sw es a b c d) c' hf (by omega))
 rw [q3] at ev
 rw [show Jc9 (swX es a b c d)=sw es a b c d from rfl] at em
 simp only [swX] at em
 have hG:(es.filter (fun x=>!Qti a b c d x)).length≤274877906942:=by have:=List.length_filter_le (fun x=>!Qti a b c d x) es;omega
 generalize sw es a b c d=R at *
 generalize es.filter (fun x=>!Qti a b c d x)=G at *
 have hT:Qcc (List.take (G.length+2) (eds G++[[I (min a c),I (max a c)],[I (min b d),I (max b d)]]))=eds (G++[(min a c,max a c),(min b d,max b d)]):=by
  rw [List.take_of_length_le (by simp),← Qvj (G++[(min a c,max a c),(min b d,max b d)]),← Jg4]
  rfl
 refine cW Qte rfl ?_
 repeat (first|apply wA|apply wS|refine wr (by simp [ea,eh,h1,h2,h3,h4,h5,ec,ed];with_reducible rfl) ?_|refine wq (by simp [ea,eh,h1,h2,h3,h4,h5,ec,ed];with_reducible rfl) ?_|refine wt (by simpa [ea,eh,h1,h2,h3,h4,h5,ec,ed]) ?_|refine wf (by simpa [ea,eh,h1,h2,h3,h4,h5,ec,ed]) ?_|refine xt (by simpa [ea,eh,h1,h2,h3,h4,h5,ec,ed]) ?_|refine xf (by simpa [ea,eh,h1,h2,h3,h4,h5,ec,ed]) ?_|apply wB|apply Qaa|refine wX ?_|refine wY ?_|refine wR ?_|refine wK ?_|refine wE ?_)
 refine Qqo rfl (by simp [ee,em,hG,hT];with_reducible rfl) (by simp;with_reducible rfl) ?_ ?_
 · intro p hp
   simp only [List.mem_cons,List.not_mem_nil,or_false] at hp
   rcases hp with rfl | rfl | rfl | rfl | rfl | rfl | rfl | rfl | rfl | rfl | rfl
   · exact ⟨_,by simp [ee,em,hG,hT];with_reducible rfl,by simp⟩
   · exact ⟨_,by simp [ee,em,hG,hT];with_reducible rfl,by simp⟩
   · exact ⟨_,by simp [ee,em,hG,hT];with_reducible rfl,by simp⟩
   · exact ⟨_,by simp [ee,em,hG,hT];with_reducible rfl,by simp⟩
   · exact ⟨_,by simp [ee,em,hG,hT];with_reducible rfl,by simp⟩
   · exact ⟨_,by simp [ee,em,hG,hT];with_reducible rfl,by simp⟩
   · exact ⟨_,by simp [ee,em,hG,hT];with_reducible rfl,by simp⟩
   · exact ⟨_,by simp [ee,em,hG,hT];with_reducible rfl,by simp⟩
   · exact ⟨_,by simp [ee,em,hG,hT];with_reducible rfl,by simp⟩
   · exact ⟨_,by simp [ee,em,hG,hT];with_reducible rfl,by simp⟩
   · exact ⟨_,by simp [ee,em,hG,hT];with_reducible rfl,by simp⟩
 repeat (first|apply wA|apply wS|refine wr (by simp [ev];with_reducible rfl) ?_|refine wq (by simp [ev];with_reducible rfl) ?_|refine wt (by simpa [ev]) ?_|refine wf (by simpa [ev]) ?_|refine xt (by simpa [ev]) ?_|refine xf (by simpa [ev]) ?_|apply wB|apply Qaa|refine wX ?_|refine wY ?_|refine wR ?_|refine wK ?_|refine wE ?_)
 refine Qea (by simp [ev];with_reducible rfl) (by simp;with_reducible rfl) ?_ ?_
 · intro p hp
   simp only [List.mem_cons,List.not_mem_nil,or_false] at hp
   subst hp
   exact ⟨_,by simp [ev];with_reducible rfl,by simp⟩
 repeat (first|apply wA|apply wS|refine wr (by simp;with_reducible rfl) ?_|refine wq (by simp;with_reducible rfl) ?_|refine wt (by simpa) ?_|refine wf (by simpa) ?_|refine xt (by simpa) ?_|refine xf (by simpa) ?_|apply wB|apply Qaa|refine wX ?_|refine wY ?_|refine wR ?_|refine wK ?_|refine wE ?_)
 simp [Qmb]
end Go.Idl
