/- Part 6 of a proof by an ideal interpreter of the code: its definitions and lemmas. Conditions: none. -/
import Derived.KernelRfl
import Derived.Test.YtmkagmhkjafpfaaA5
set_option linter.all false
set_option linter.unusedVariables false
set_option linter.unusedSimpArgs false
namespace Go.Idl
open Go
theorem ev_in (n lo hi:Int):Ev tb Jmz [] [I n,I lo,I hi] [] ⟨Bo (decide (lo≤n) && decide (n≤hi)),[],[],[]⟩:=by
 refine cW zt38 rfl ?_
 refine Qf2 (by simp;rfl) (by simp;rfl) ?_
 by_cases h:lo≤n
 · refine Qf2 (by simp [h];rfl) (by simp;rfl) ?_
   refine wR ?_
   simp [h,Jtt]
 · refine Qf2 (by simp [h];rfl) (by simp;rfl) ?_
   refine wR ?_
   simp [h,Jtt]
theorem Qtw (n lo hi:Int):Ev tb Qy3 [] [I n,I lo,I hi] [] ⟨Bo (decide (lo≤n) && decide (n≤hi)),[],[],[]⟩:=by
 refine cW zt132 rfl ?_
 refine Qf2 (by simp;rfl) (by simp;rfl) ?_
 by_cases h:lo≤n
 · refine Qf2 (by simp [h];rfl) (by simp;rfl) ?_
   refine wR ?_
   simp [h,Qzh]
 · refine Qf2 (by simp [h];rfl) (by simp;rfl) ?_
   refine wR ?_
   simp [h,Qzh]
def Jdo (xs:List Int):Prop:=xs.length≤2000000∧∀ k,-4611686018427387904≤(xs.take k).sum∧(xs.take k).sum≤4611686018427387904
end Go.Idl
namespace Go.Idl
def Jak (x:Int):List Int→List Int
 | []=>[x]
 | y::ys=>if x≤y then y::Jak x ys else x::y::ys
def fall (xs:List Int):List Int:=xs.foldl (fun out x=>Jak x out) []
abbrev Jyp (xs:List Int):Prop:=xs.Pairwise (fun a b=>b≤a)
theorem Qo6 (x:Int) (ys:List Int):(Jak x ys).Perm (x::ys):=by
 induction ys with
 | nil=>exact .refl _
 | cons y ys ih =>
   unfold Jak
   split
   · exact (ih.cons y).trans (.swap x y ys)
   · exact .refl _
theorem Qzw (x:Int) (ys:List Int) (h:Jyp ys):Jyp (Jak x ys):=by
 induction ys with
 | nil=>simp [Jak]
 | cons y ys ih =>
   unfold Jak
   have h:=List.pairwise_cons.1 h
   split
   · refine List.pairwise_cons.2 ⟨fun a ha=>?_,ih h.2⟩
     rcases List.mem_cons.1 ((Qo6 x ys).mem_iff.1 ha) with rfl | ha
     · assumption
     · exact h.1 a ha
   · rename_i hx
     refine List.pairwise_cons.2 ⟨fun a ha=>?_,List.pairwise_cons.2 h⟩
     rcases List.mem_cons.1 ha with rfl | ha
     · omega
     · have:=h.1 a ha;omega
theorem Jcf (xs:List Int):∀ ys,Jyp ys→Jyp (xs.foldl (fun out x=>Jak x out) ys)∧(xs.foldl (fun out x=>Jak x out) ys).Perm (xs++ys):=by
 induction xs with
 | nil=>intro ys h;exact ⟨h,.refl _⟩
 | cons x xs ih =>
   intro ys h
   obtain ⟨h1,h2⟩:=ih (Jak x ys) (Qzw x ys h)
   refine ⟨h1,h2.trans ?_⟩
   exact ((Qo6 x ys).append_left xs).trans List.perm_middle
theorem Qnn (xs:List Int):(fall xs).Perm xs:=by simpa [fall] using (Jcf xs [] .nil).2
theorem Jda (xs:List Int):(fall xs).length=xs.length:=(Qnn xs).length_eq
theorem Jcu {xs ys:List Int} (h:xs.Perm ys):xs.sum=ys.sum:=by
 induction h with
 | nil=>rfl
 | cons x _ ih=>simp [ih]
 | swap x y l=>simp;omega
 | trans _ _ h1 h2=>exact h1.trans h2
theorem Jdj {xs:List Int} {x:Int}:x ∈ fall xs ↔ x ∈ xs:=(Qnn xs).mem_iff
end Go.Idl
namespace Go.Idl
open Go
abbrev L (xs:List Int) (c:Bool:=false):IV:=.lst 1 (Qdd xs) c
abbrev O (xs:List Int):IV:=.own 1 (Qdd xs)
theorem Jf1 {n:Nat} (h:n < 2000000):IntKind.u64.wrap (n:Int)=(n:Int):=by
 have e1:(2:Int) ^ IntKind.u64.bits=18446744073709551616:=by decide
 have e3:IntKind.u64.signed=false:=rfl
 unfold IntKind.wrap
 rw [e1,e3]
 simp
 omega
end Go.Idl
namespace Go.Idl
open Go
theorem Qdm {k:IntKind} {a b:Nat}:Qb8 (.sc (.int k ((a:Int)+(b:Int)+1)))=some (a+b+1):=Qfh (n:=a+b+1)
theorem Qrs {xs:List Int} {i m:Nat} (h:i+(m+1)=xs.length):∃ h:i < xs.length,xs.drop i=xs[i]::xs.drop (i+1)∧xs[i] ∈ xs:=by
 have hi:i < xs.length:=by omega
 exact ⟨hi,List.drop_eq_getElem_cons hi,List.getElem_mem hi⟩
theorem Qrt {xs:List Int} {i:Nat} (h:i+0=xs.length):xs[i]? = none∧xs.drop i=[]:=by
 have:i=xs.length:=by omega
 subst this
 simp
end Go.Idl
namespace Go.Idl
open Go
def valid (d:List Int):Bool:=decide (d.length≤7) && d.all fun x=>decide (0≤x) && decide (x < d.length)
theorem Qol (xs ys:List Int) (c d:Bool) (hl:xs.length≤2000000) (hm:ys.length≤2000000):Ev tb Jos [] [L xs c,L ys d] [] ⟨Bo (decide (xs=ys)),[],[],[]⟩:=by
 by_cases he:xs.length=ys.length
 · have loop:∀ (m i:Nat),i+m=xs.length→wp tb (.loop Jwb) { T:=[(0,L xs c),(1,L ys d),(5,I i)],loc:=[],M:=[] }
    (fun ex st=>(ex=.exit 0∧xs.drop i=ys.drop i∧st={ T:=[(0,L xs c),(1,L ys d),(5,I xs.length),(14,Bo false)],loc:=[],M:=[] }) ∨
      ex=.ret∧xs.drop i ≠ ys.drop i∧st={ T:=[(4,Bo false)],loc:=[],M:=[] }):=by
    intro m
    induction m with
    | zero =>
      intro i hi
      obtain ⟨h1,h2⟩:=Qrt hi
      obtain ⟨h1',h2'⟩:=Qrt (he ▸ hi)
      have h3:i=xs.length:=hi
      subst h3
      refine wW ?_
      repeat (first|apply wA|apply wS|refine wr (by simp;with_reducible rfl) ?_|refine wq (by simp;with_reducible rfl) ?_|refine wt (by simpa) ?_|refine wf (by simpa) ?_|refine xt (by simpa) ?_|refine xf (by simpa) ?_|apply wB|apply Qaa|refine wX ?_|refine wY ?_|refine wR ?_|refine wK ?_|refine wE ?_)
      refine .inl ⟨rfl,by rw [h2,h2'],rfl⟩
    | succ m ih =>
      intro i hi
      obtain ⟨hi2,h2,h3⟩:=Qrs hi
      obtain ⟨hi2',h2',h3'⟩:=Qrs (he ▸ hi)
      have w2:IntKind.i64.wrap ((i:Int)+1)=((i+1:Nat):Int):=Qbe (by omega)
      rw [h2,h2']
      by_cases hx:xs[i]=ys[i]
      · refine wW ?_
        repeat (first|apply wA|apply wS|refine wr (by simp [hi2,hi2',w2,hx];with_reducible rfl) ?_|refine wq (by simp [hi2,hi2',w2,hx];with_reducible rfl) ?_|refine wt (by simpa [hi2,hi2',w2,hx]) ?_|refine wf (by simpa [hi2,hi2',w2,hx]) ?_|refine xt (by simpa [hi2,hi2',w2,hx]) ?_|refine xf (by simpa [hi2,hi2',w2,hx]) ?_|apply wB|apply Qaa|refine wX ?_|refine wY ?_|refine wR ?_|refine wK ?_|refine wE ?_)
        have:=ih (i+1) (by omega)
        simp only [List.cons.injEq,true_and,ne_eq,hx] at this ⊢
        exact this
      · refine wW ?_
        repeat (first|apply wA|apply wS|refine wr (by simp [hi2,hi2',w2,hx];with_reducible rfl) ?_|refine wq (by simp [hi2,hi2',w2,hx];with_reducible rfl) ?_|refine wt (by simpa [hi2,hi2',w2,hx]) ?_|refine wf (by simpa [hi2,hi2',w2,hx]) ?_|refine xt (by simpa [hi2,hi2',w2,hx]) ?_|refine xf (by simpa [hi2,hi2',w2,hx]) ?_|apply wB|apply Qaa|refine wX ?_|refine wY ?_|refine wR ?_|refine wK ?_|refine wE ?_)
        refine .inr ⟨rfl,by simp only [ne_eq,List.cons.injEq,hx,false_and,not_false_eq_true],rfl⟩
   refine cW zt53 rfl ?_
   repeat (first|apply wA|apply wS|refine wr (by simp [he];with_reducible rfl) ?_|refine wq (by simp [he];with_reducible rfl) ?_|refine wt (by simpa [he]) ?_|refine wf (by simpa [he]) ?_|refine xt (by simpa [he]) ?_|refine xf (by simpa [he]) ?_|apply wB|apply Qaa|refine wX ?_|refine wY ?_|refine wR ?_|refine wK ?_|refine wE ?_)
   refine Qal (loop xs.length 0 (by simp)) ?_
   rintro ex st (⟨rfl,h,rfl⟩ | ⟨rfl,h,rfl⟩)
   · simp only [if_true]
     repeat (first|apply wA|apply wS|refine wr (by simp;with_reducible rfl) ?_|refine wq (by simp;with_reducible rfl) ?_|refine wt (by simpa) ?_|refine wf (by simpa) ?_|refine xt (by simpa) ?_|refine xf (by simpa) ?_|apply wB|apply Qaa|refine wX ?_|refine wY ?_|refine wR ?_|refine wK ?_|refine wE ?_)
     simp only [List.drop_zero] at h
     simp [Jkx,h]
   · simp only [List.drop_zero] at h
     simp [Jkx,h]
 · have hne:xs ≠ ys:=fun h=>he (by rw [h])
   have h2:((xs.length:Int)=ys.length) ↔ xs.length=ys.length:=by omega
   refine cW zt53 rfl ?_
   repeat (first|apply wA|apply wS|refine wr (by simp [he,h2];with_reducible rfl) ?_|refine wq (by simp [he,h2];with_reducible rfl) ?_|refine wt (by simpa [he,h2]) ?_|refine wf (by simpa [he,h2]) ?_|refine xt (by simpa [he,h2]) ?_|refine xf (by simpa [he,h2]) ?_|apply wB|apply Qaa|refine wX ?_|refine wY ?_|refine wR ?_|refine wK ?_|refine wE ?_)
   simp [Jkx,hne]
end Go.Idl
namespace Go.Idl
open Go
def bytes (xs:List Int):List (List IV):=xs.map fun n=>[.sc (.int .u8 n)]
@[simp] theorem Jqq (xs:List Int):(bytes xs).length=xs.length:=by simp [bytes]
@[simp] theorem Jk0 (xs:List Int) (n:Nat):(bytes xs).take n=bytes (xs.take n):=by simp [bytes,List.map_take]
@[simp] theorem bytes_get? (xs:List Int) (i:Nat):(bytes xs)[i]? = xs[i]?.map fun n=>[IV.sc (.int .u8 n)]:=by simp [bytes]
@[simp] theorem Jqr (xs:List Int) (i:Nat) (h:i < (bytes xs).length):(bytes xs)[i]=[IV.sc (.int .u8 (xs[i]'(by simpa [bytes] using h)))]:=by simp [bytes]
@[simp] theorem Jws (xs:List Int):(bytes xs).isEmpty=xs.isEmpty:=by cases xs <;> rfl
@[simp] theorem Jk4 (xs:List Int):((bytes xs).all fun x=>x.all IV.plain1)=true:=by
  induction xs with
  | nil=>rfl
  | cons x xs ih=>simp only [bytes,List.map_cons,List.all_cons] at *;rw [ih];rfl
@[simp] theorem Jkw (xs:List Int):((bytes xs).all fun x=>x.all IV.isData)=true:=by
  induction xs with
  | nil=>rfl
  | cons x xs ih=>simp only [bytes,List.map_cons,List.all_cons] at *;rw [ih];rfl
@[simp] theorem Jhx (xs:List Int):Qb1 (bytes xs)=true:=by
  induction xs with
  | nil=>rfl
  | cons x xs ih=>simp only [bytes,List.map_cons,Qb1,Qa7,Qbt] at *;rw [ih];rfl
abbrev R (code:List Int) (c:Bool) (n:Int):List IV:=[.lst 1 (bytes code) c,I n]
def Qe6 (code:List Int):Prop:=code.length≤2000∧∀ x ∈ code,0≤x∧x≤255
theorem Jk7 (a b:Nat) (ha:a < 2 ^ 40) (hb:b < 2 ^ 40):∃ n:Nat,n < 2 ^ 40∧binOp .xor 0 (Value.int .i64 a) (Value.int .i64 b)=Sem.pure (Value.int .i64 n):=by
 refine ⟨a ^^^ b,Nat.xor_lt_two_pow ha hb,?_⟩
 have h:=Nat.xor_lt_two_pow ha hb
 have e:IntKind.i64.wrap (((BitVec.ofInt 64 (a:Int)) ^^^ (BitVec.ofInt 64 (b:Int))).toNat:Int)=((a ^^^ b:Nat):Int):=by
  have h1:((BitVec.ofInt 64 (a:Int)) ^^^ (BitVec.ofInt 64 (b:Int))).toNat=a ^^^ b:=by
   rw [BitVec.toNat_xor,BitVec.ofInt_natCast,BitVec.ofInt_natCast,BitVec.toNat_ofNat,BitVec.toNat_ofNat,Nat.mod_eq_of_lt (by omega),Nat.mod_eq_of_lt (by omega)]
  rw [h1,Jd0 (by omega)]
 show Sem.pure (Value.int .i64 (IntKind.i64.wrap (((BitVec.ofInt 64 (a:Int)) ^^^ (BitVec.ofInt 64 (b:Int))).toNat:Int)))=_
 rw [e]
theorem Qla {x n:Int} (hx:0≤x) (hn:1≤n):0≤x.tmod n∧x.tmod n < n:=by
 rw [Int.tmod_eq_emod_of_nonneg hx]
 exact ⟨Int.emod_nonneg _ (by omega),Int.emod_lt_of_pos _ (by omega)⟩
theorem Qo2 (code:List Int) (c:Bool) (M:List Qae) (hl:code.length≤274877906944) :
 ∃ c',Ev tb Qyr [] [.lst 1 (bytes code) c] M ⟨.bptr M.length 0 0,[],M,[R (code.take 2000) c' 0]⟩:=by
 have hi:((code.length:Int)≤2000) ↔ code.length≤2000:=by omega
 by_cases h:2000 < code.length
 · refine ⟨false,?_⟩
   have h2:¬ code.length≤2000:=by omega
   have h3:(2000:Int) < code.length:=by omega
   refine cW Jnl rfl ?_
   repeat (first|apply wA|apply wS|refine wr (by simp [h,h2,h3,show 2000≤code.length by omega,Qb8];with_reducible rfl) ?_|refine wq (by simp [h,h2,h3,show 2000≤code.length by omega,Qb8];with_reducible rfl) ?_|refine wt (by simpa [h,h2,h3,show 2000≤code.length by omega,Qb8]) ?_|refine wf (by simpa [h,h2,h3,show 2000≤code.length by omega,Qb8]) ?_|refine xt (by simpa [h,h2,h3,show 2000≤code.length by omega,Qb8]) ?_|refine xf (by simpa [h,h2,h3,show 2000≤code.length by omega,Qb8]) ?_|apply wB|apply Qaa|refine wX ?_|refine wY ?_|refine wR ?_|refine wK ?_|refine wE ?_)
   simp [Qzc,h2,h3]
   intro _;omega
 · refine ⟨c,?_⟩
   have h2:code.length≤2000:=by omega
   have h3:¬ (2000:Int) < code.length:=by omega
   refine cW Jnl rfl ?_
   repeat (first|apply wA|apply wS|refine wr (by simp [h,h2,h3];with_reducible rfl) ?_|refine wq (by simp [h,h2,h3];with_reducible rfl) ?_|refine wt (by simpa [h,h2,h3]) ?_|refine wf (by simpa [h,h2,h3]) ?_|refine xt (by simpa [h,h2,h3]) ?_|refine xf (by simpa [h,h2,h3]) ?_|apply wB|apply Qaa|refine wX ?_|refine wY ?_|refine wR ?_|refine wK ?_|refine wE ?_)
   simp [Qzc,List.take_of_length_le h2]
end Go.Idl
namespace Go.Idl
open Go
def eds (xs:List (Int×Int)):List (List IV):=xs.map fun e=>[I e.1,I e.2]
abbrev L2 (xs:List (Int×Int)) (c:Bool:=false):IV:=.lst 2 (eds xs) c
abbrev O2 (xs:List (Int×Int)):IV:=.own 2 (eds xs)
@[simp] theorem Qy1 (xs:List (Int×Int)):(eds xs).length=xs.length:=by simp [eds]
@[simp] theorem Jy5:eds []=[]:=rfl
@[simp] theorem Jxv (xs:List (Int×Int)) (n:Nat):(eds xs).take n=eds (xs.take n):=by simp [eds,List.map_take]
@[simp] theorem Jx3 (xs:List (Int×Int)) (n:Nat):(eds xs).drop n=eds (xs.drop n):=by simp [eds,List.map_drop]
@[simp] theorem Jik (xs ys:List (Int×Int)):eds xs++eds ys=eds (xs++ys):=by simp [eds]
@[simp] theorem eds_one (xs:List (Int×Int)) (a b:Int):eds xs++[[IV.sc (.int .i64 a),IV.sc (.int .i64 b)]]=eds (xs++[(a,b)]):=by simp [eds]
@[simp] theorem eds_get? (xs:List (Int×Int)) (i:Nat):(eds xs)[i]? = xs[i]?.map fun e=>[IV.sc (.int .i64 e.1),IV.sc (.int .i64 e.2)]:=by simp [eds]
@[simp] theorem eds_get (xs:List (Int×Int)) (i:Nat) (h:i < (eds xs).length):(eds xs)[i]=[IV.sc (.int .i64 (xs[i]'(by simpa [eds] using h)).1),IV.sc (.int .i64 (xs[i]'(by simpa [eds] using h)).2)]:=by simp [eds]
@[simp] theorem eds_emp (xs:List (Int×Int)):(eds xs).isEmpty=xs.isEmpty:=by cases xs <;> rfl
@[simp] theorem Qh8 (xs:List (Int×Int)) (i:Nat) (a b:Int):(eds xs).set i [IV.sc (.int .i64 a),IV.sc (.int .i64 b)]=eds (xs.set i (a,b)):=by
  simp [eds,List.map_set]
@[simp] theorem Jyi (xs:List (Int×Int)):((eds xs).all fun x=>x.all IV.plain1)=true:=by
  induction xs with
  | nil=>rfl
  | cons x xs ih=>simp only [eds,List.map_cons,List.all_cons] at *;rw [ih];rfl
@[simp] theorem Jyf (xs:List (Int×Int)):((eds xs).all fun x=>x.all IV.isData)=true:=by
  induction xs with
  | nil=>rfl
  | cons x xs ih=>simp only [eds,List.map_cons,List.all_cons] at *;rw [ih];rfl
@[simp] theorem Qw8 (xs:List (Int×Int)):Qb1 (eds xs)=true:=by
  induction xs with
  | nil=>rfl
  | cons x xs ih=>simp only [eds,List.map_cons,Qb1,Qa7,Qbt] at *;rw [ih];rfl
@[simp] theorem Qzy (xs:List (Int×Int)):Qcf (eds xs)=eds xs:=by
  induction xs with
  | nil=>rfl
  | cons x xs ih=>simp only [eds,List.map_cons,Qcf,Qc2,Qgc] at *;rw [ih]
def row (a b:Nat):Nat→List (Int×Int)
 | 0=>[]
 | m+1=>((a:Int),(b:Int))::row a (b+1) m
def Qld (a:Nat):Nat→List (Int×Int)
 | 0=>[]
 | m+1=>row a (a+1) m++Qld (a+1) m
def prs (n:Nat):List (Int×Int):=Qld 0 n
theorem Qma (a:Nat):∀ (m b:Nat),(row a b m).length=m
 | 0,b=>rfl
 | m+1,b=>by simp [row,Qma a m]
theorem Qut (a:Nat):∀ (m b:Nat) (e:Int×Int),e ∈ row a b m→e.1=a∧(b:Int)≤e.2∧e.2 < b+m
 | 0,b,e,h=>by simp [row] at h
 | m+1,b,e,h=>by
   rcases List.mem_cons.1 h with rfl | h
   · simp;omega
   · have:=Qut a m (b+1) e h;omega
theorem Qi8:∀ (m a:Nat),(Qld a m).length≤m * m
 | 0,a=>by simp [Qld]
 | m+1,a=>by
   have:=Qi8 m (a+1)
   have e:(m+1) * (m+1)=m * m+2 * m+1:=by rw [Nat.add_mul,Nat.mul_add];omega
   simp only [Qld,List.length_append,Qma]
   omega
theorem Qrv:∀ (m a:Nat) (e:Int×Int),e ∈ Qld a m→0≤e.1∧e.1 < e.2∧e.2 < a+m
 | 0,a,e,h=>by simp [Qld] at h
 | m+1,a,e,h=>by
   rcases List.mem_append.1 h with h | h
   · have:=Qut a m (a+1) e h;omega
   · have:=Qrv m (a+1) e h;omega
theorem Jc9 (n a:Nat) (hn:n≤1000):∀ (m b:Nat) (acc:List (Int×Int)),b+m=n→acc.length+m≤2000000 →
 wp tb (.loop Jeu) { T:=[(0,I n),(3,O2 acc),(4,I a),(5,I b)],loc:=[],M:=[] }
  (fun ex st=>ex=.exit 2∧st={ T:=[(0,I n),(3,O2 (acc++row a b m)),(4,I a),(5,I n),(16,Bo false)],loc:=[],M:=[] }):=by
 intro m
 induction m with
 | zero =>
   intro b acc hb hl
   have h3:b=n:=hb
   subst h3
   refine wW ?_
   repeat (first|apply wA|apply wS|refine wr (by simp;with_reducible rfl) ?_|refine wq (by simp;with_reducible rfl) ?_|refine wt (by simpa) ?_|refine wf (by simpa) ?_|refine xt (by simpa) ?_|refine xf (by simpa) ?_|apply wB|apply Qaa|refine wX ?_|refine wY ?_|refine wR ?_|refine wK ?_|refine wE ?_)
   simp [row]
 | succ m ih =>
   intro b acc hb hl
   have h1:(b:Int) < n:=by omega
   have w1:IntKind.i64.wrap ((b:Int)+1)=((b+1:Nat):Int):=Qbe (by omega)
   refine wW ?_
   repeat (first|apply wA|apply wS|refine wr (by simp [h1,w1,show acc.length≤274877906943 by omega];with_reducible rfl) ?_|refine wq (by simp [h1,w1,show acc.length≤274877906943 by omega];with_reducible rfl) ?_|refine wt (by simpa [h1,w1,show acc.length≤274877906943 by omega]) ?_|refine wf (by simpa [h1,w1,show acc.length≤274877906943 by omega]) ?_|refine xt (by simpa [h1,w1,show acc.length≤274877906943 by omega]) ?_|refine xf (by simpa [h1,w1,show acc.length≤274877906943 by omega]) ?_|apply wB|apply Qaa|refine wX ?_|refine wY ?_|refine wR ?_|refine wK ?_|refine wE ?_)
   have:=ih (b+1) (acc++[((a:Int),(b:Int))]) (by omega) (by simp;omega)
   simp only [List.append_assoc,List.cons_append,List.nil_append] at this
   simp [row]
   exact this
theorem Qrl (n:Nat) (hn:n≤1000):Ev tb Qty [] [I n] [] ⟨O2 (prs n),[],[],[]⟩:=by
 have loop:∀ (m a:Nat) (acc:List (Int×Int)),a+m=n→acc.length+m * m≤2000000 →
  wp tb (.loop Qu5) { T:=[(0,I n),(3,O2 acc),(4,I a)],loc:=[],M:=[] }
  (fun ex st=>ex=.exit 0∧st={ T:=[(0,I n),(3,O2 (acc++Qld a m)),(4,I n),(9,Bo false)],loc:=[],M:=[] }):=by
  intro m
  induction m with
  | zero =>
    intro a acc ha hl
    have h3:a=n:=ha
    subst h3
    refine wW ?_
    repeat (first|apply wA|apply wS|refine wr (by simp;with_reducible rfl) ?_|refine wq (by simp;with_reducible rfl) ?_|refine wt (by simpa) ?_|refine wf (by simpa) ?_|refine xt (by simpa) ?_|refine xf (by simpa) ?_|apply wB|apply Qaa|refine wX ?_|refine wY ?_|refine wR ?_|refine wK ?_|refine wE ?_)
    simp [Qld]
  | succ m ih =>
    intro a acc ha hl
    have h1:(a:Int) < n:=by omega
    have w1:IntKind.i64.wrap ((a:Int)+1)=((a+1:Nat):Int):=Qbe (by omega)
    have e:(m+1) * (m+1)=m * m+2 * m+1:=by rw [Nat.add_mul,Nat.mul_add];omega
    refine wW ?_
    repeat (first|apply wA|apply wS|refine wr (by simp [h1,w1];with_reducible rfl) ?_|refine wq (by simp [h1,w1];with_reducible rfl) ?_|refine wt (by simpa [h1,w1]) ?_|refine wf (by simpa [h1,w1]) ?_|refine xt (by simpa [h1,w1]) ?_|refine xf (by simpa [h1,w1]) ?_|apply wB|apply Qaa|refine wX ?_|refine wY ?_|refine wR ?_|refine wK ?_|refine wE ?_)
    refine Qal (Jc9 n a hn m (a+1) acc (by omega) (by omega)) ?_
    rintro ex st ⟨rfl,rfl⟩
    simp only [if_true]
    repeat (first|apply wA|apply wS|refine wr (by simp [h1,w1];with_reducible rfl) ?_|refine wq (by simp [h1,w1];with_reducible rfl) ?_|refine wt (by simpa [h1,w1]) ?_|refine wf (by simpa [h1,w1]) ?_|refine xt (by simpa [h1,w1]) ?_|refine xf (by simpa [h1,w1]) ?_|apply wB|apply Qaa|refine wX ?_|refine wY ?_|refine wR ?_|refine wK ?_|refine wE ?_)
    have:=ih (a+1) (acc++row a (a+1) m) (by omega) (by simp [Qma];omega)
    simp only [List.append_assoc] at this
    exact this
 have hnn:n * n≤1000 * 1000:=Nat.mul_le_mul hn hn
 refine cW zt138 rfl ?_
 repeat (first|apply wA|apply wS|refine wr (by simp;with_reducible rfl) ?_|refine wq (by simp;with_reducible rfl) ?_|refine wt (by simpa) ?_|refine wf (by simpa) ?_|refine xt (by simpa) ?_|refine xf (by simpa) ?_|apply wB|apply Qaa|refine wX ?_|refine wY ?_|refine wR ?_|refine wK ?_|refine wE ?_)
 refine Qal (loop n 0 [] (by omega) (by simp;omega)) ?_
 rintro ex st ⟨rfl,rfl⟩
 simp only [if_true]
 repeat (first|apply wA|apply wS|refine wr (by simp;with_reducible rfl) ?_|refine wq (by simp;with_reducible rfl) ?_|refine wt (by simpa) ?_|refine wf (by simpa) ?_|refine xt (by simpa) ?_|refine xf (by simpa) ?_|apply wB|apply Qaa|refine wX ?_|refine wY ?_|refine wR ?_|refine wK ?_|refine wE ?_)
 simp [Jcz,prs]
abbrev Gr (n:Int) (es:List (Int×Int)) (c:Bool:=false):IV:=.agg [I n,L2 es c]
abbrev OG (n:Int) (es:List (Int×Int)):IV:=.agg [I n,O2 es]
def isE (a b:Int) (e:Int×Int):Bool:=decide (e.1=a) && decide (e.2=b) || decide (e.1=b) && decide (e.2=a)
def has (es:List (Int×Int)) (a b:Int):Bool:=es.any (isE a b)
theorem Qfs (n:Int) (es:List (Int×Int)) (c:Bool) (a b:Int) (hl:es.length≤100000) :
 Ev tb Qjh [] [Gr n es c,I a,I b] [] ⟨Bo (has es a b),[],[],[]⟩:=by
 have loop:∀ (m i:Nat) (B:Qae),i+m=es.length→wp tb (.loop Je0) { T:=[(1,I a),(2,I b),(3,.bptr 0 0 0),(7,I i)],loc:=[I n,L2 es c]::B,M:=[] }
  (fun ex st=>(ex=.exit 0∧has (es.drop i) a b=false∧∃ B',st={ T:=[(1,I a),(2,I b),(3,.bptr 0 0 0),(7,I es.length),(13,Bo false)],loc:=[I n,L2 es c]::B',M:=[] }) ∨
    ex=.ret∧has (es.drop i) a b=true∧∃ B',st={ T:=[(6,Bo true)],loc:=[I n,L2 es c]::B',M:=[] }):=by
  intro m
  induction m with
  | zero =>
    intro i B hi
    have h3:i=es.length:=hi
    subst h3
    refine wW ?_
    repeat (first|apply wA|apply wS|refine wr (by simp;with_reducible rfl) ?_|refine wq (by simp;with_reducible rfl) ?_|refine wt (by simpa) ?_|refine wf (by simpa) ?_|refine xt (by simpa) ?_|refine xf (by simpa) ?_|apply wB|apply Qaa|refine wX ?_|refine wY ?_|refine wR ?_|refine wK ?_|refine wE ?_)
    refine .inl ⟨rfl,by simp [has],_,rfl⟩
  | succ m ih =>
    intro i B hi
    have hi2:i < es.length:=by omega
    have w1:IntKind.i64.wrap ((i:Int)+1)=((i+1:Nat):Int):=Qbe (by omega)
    have hd:es.drop i=es[i]::es.drop (i+1):=List.drop_eq_getElem_cons hi2
    refine wW ?_
    repeat (first|apply wA|apply wS|refine wr (by simp [hi2,w1];with_reducible rfl) ?_|refine wq (by simp [hi2,w1];with_reducible rfl) ?_|refine wt (by simpa [hi2,w1]) ?_|refine wf (by simpa [hi2,w1]) ?_|refine xt (by simpa [hi2,w1]) ?_|refine xf (by simpa [hi2,w1]) ?_|apply wB|apply Qaa|refine wX ?_|refine wY ?_|refine wR ?_|refine wK ?_|refine wE ?_)
    have hh:∀ (x:Int×Int) r,has (x::r) a b=(isE a b x || has r a b):=fun _ _=>rfl
    rw [hd,hh]
    generalize es[i]=e
    obtain ⟨p,q⟩:=e
    have hn:=ih (i+1) (B++[[I p,I q]]) (by omega)
    have key:∃ st1,Qag (Qcb tb) { T:=[(1,I a),(2,I b),(3,.bptr 0 0 0),(7,I i),(8,.bptr 0 (B.length+1) 0)],loc:=[I n,L2 es c]::(B++[[I p,I q]]),M:=[] }
     (match Qig with | .reg ops _ _=>ops | _=>[])=some st1 ∧
     st1.cut [1,2,3,7,42]={ T:=[(1,I a),(2,I b),(3,.bptr 0 0 0),(7,I i),(42,Bo (isE a b (p,q)))],loc:=[I n,L2 es c]::(B++[[I p,I q]]),M:=[] }:=by
     by_cases h1:p=a
     · subst h1
       by_cases h2:q=b
       · subst h2
         exact ⟨_,by simp [Qig];with_reducible rfl,by simp [isE]⟩
       · by_cases h3:p=b
         · subst h3
           exact ⟨_,by simp [Qig,h2];with_reducible rfl,by simp [isE,h2]⟩
         · exact ⟨_,by simp [Qig,h2,h3];with_reducible rfl,by simp [isE,h2,h3]⟩
     · by_cases h3:p=b
       · subst h3
         by_cases h4:q=a
         · subst h4
           exact ⟨_,by simp [Qig,h1];with_reducible rfl,by simp [isE,h1]⟩
         · exact ⟨_,by simp [Qig,h1,h4];with_reducible rfl,by simp [isE,h1,h4]⟩
       · exact ⟨_,by simp [Qig,h1,h3];with_reducible rfl,by simp [isE,h1,h3]⟩
    obtain ⟨st1,k1,k2⟩:=key
    refine Qf2 k1 k2 ?_
    cases hx:isE a b (p,q) with
    | true =>
      repeat (first|apply wA|apply wS|refine wr (by simp;with_reducible rfl) ?_|refine wq (by simp;with_reducible rfl) ?_|refine wt (by simpa) ?_|refine wf (by simpa) ?_|refine xt (by simpa) ?_|refine xf (by simpa) ?_|apply wB|apply Qaa|refine wX ?_|refine wY ?_|refine wR ?_|refine wK ?_|refine wE ?_)
      exact .inr ⟨rfl,by simp,_,rfl⟩
    | false =>
      repeat (first|apply wA|apply wS|refine wr (by simp [w1];with_reducible rfl) ?_|refine wq (by simp [w1];with_reducible rfl) ?_|refine wt (by simpa [w1]) ?_|refine wf (by simpa [w1]) ?_|refine xt (by simpa [w1]) ?_|refine xf (by simpa [w1]) ?_|apply wB|apply Qaa|refine wX ?_|refine wY ?_|refine wR ?_|refine wK ?_|refine wE ?_)
      rw [Bool.false_or]
      exact hn
 refine cW zt130 rfl ?_
 repeat (first|apply wA|apply wS|refine wr (by simp;with_reducible rfl) ?_|refine wq (by simp;with_reducible rfl) ?_|refine wt (by simpa) ?_|refine wf (by simpa) ?_|refine xt (by simpa) ?_|refine xf (by simpa) ?_|apply wB|apply Qaa|refine wX ?_|refine wY ?_|refine wR ?_|refine wK ?_|refine wE ?_)
 refine Qal (loop es.length 0 [] (by simp)) ?_
 rintro ex st (⟨rfl,h,B',rfl⟩ | ⟨rfl,h,B',rfl⟩)
 · simp only [if_true]
   repeat (first|apply wA|apply wS|refine wr (by simp;with_reducible rfl) ?_|refine wq (by simp;with_reducible rfl) ?_|refine wt (by simpa) ?_|refine wf (by simpa) ?_|refine xt (by simpa) ?_|refine xf (by simpa) ?_|apply wB|apply Qaa|refine wX ?_|refine wY ?_|refine wR ?_|refine wK ?_|refine wE ?_)
   simp only [List.drop_zero] at h
   simp [Qvx,h]
 · simp only [List.drop_zero] at h
   simp [Qvx,h]
def Jbr (n:Nat) (es:List (Int×Int)):List (Int×Int):=(prs n).filter fun e=>!has es e.1 e.2
theorem Qiu {α} {p:α→Bool} {xs:List α} {i:Nat} (h:i < xs.length):(xs.take (i+1)).filter p=(xs.take i).filter p++(if p xs[i] then [xs[i]] else []):=by
 rw [List.take_succ_eq_append_getElem h,List.filter_append]
 congr 1
 simp [List.filter_cons]
theorem Qha (n:Nat) (hn:n≤100) (es:List (Int×Int)) (c:Bool) (hl:es.length≤100000) :
 Ev tb Qv7 [] [Gr n es c] [] ⟨OG n (Jbr n es),[],[],[]⟩:=by
 have e1:=Qab (Qrl n (by omega))
 have e2:=fun a b=>Qab (Qfs n es c a b hl)
 have hpl:(prs n).length≤100000:=by
  have:=Qi8 n 0
  have h2:n * n≤100 * 100:=Nat.mul_le_mul hn hn
  simp only [prs];omega
 have loop:∀ (m i:Nat),i+m=(prs n).length→wp tb (.loop Jed) { T:=[(1,.bptr 0 0 0),(2,.bptr 0 1 0),(3,.bptr 0 2 0),(4,O2 (prs n)),(5,I i)],loc:=[[I n,L2 es c],[I 0,.lst 0 [] true],[I n,O2 (((prs n).take i).filter fun e=>!has es e.1 e.2)]],M:=[] }
  (fun ex st=>ex=.exit 0∧st={ T:=[(1,.bptr 0 0 0),(2,.bptr 0 1 0),(3,.bptr 0 2 0),(4,O2 (prs n)),(5,I (prs n).length),(16,Bo false)],loc:=[[I n,L2 es c],[I 0,.lst 0 [] true],[I n,O2 (Jbr n es)]],M:=[] }):=by
  intro m
  induction m with
  | zero =>
    intro i hi
    have h3:i=(prs n).length:=hi
    subst h3
    refine wW ?_
    repeat (first|apply wA|apply wS|refine wr (by simp;with_reducible rfl) ?_|refine wq (by simp;with_reducible rfl) ?_|refine wt (by simpa) ?_|refine wf (by simpa) ?_|refine xt (by simpa) ?_|refine xf (by simpa) ?_|apply wB|apply Qaa|refine wX ?_|refine wY ?_|refine wR ?_|refine wK ?_|refine wE ?_)
    simp [Jbr]
  | succ m ih =>
    intro i hi
    have hi2:i < (prs n).length:=by omega
    have w1:IntKind.i64.wrap ((i:Int)+1)=((i+1:Nat):Int):=Qbe (by omega)
    have hn:=ih (i+1) (by omega)
    rw [Qiu hi2] at hn
    have hfl:(((prs n).take i).filter fun e=>!has es e.1 e.2).length≤100000:=by
     have h1:=List.length_filter_le (fun e:Int×Int=>!has es e.1 e.2) ((prs n).take i)
     simp at h1;omega
    generalize (((prs n).take i).filter fun e=>!has es e.1 e.2)=acc at hn hfl
    cases hx:has es (prs n)[i].1 (prs n)[i].2 with
    | true =>
      rw [hx] at hn
      simp at hn
      refine wW ?_
      repeat (first|apply wA|apply wS|refine wr (by simp [e2,hi2,hx,w1];with_reducible rfl) ?_|refine wq (by simp [e2,hi2,hx,w1];with_reducible rfl) ?_|refine wt (by simpa [e2,hi2,hx,w1]) ?_|refine wf (by simpa [e2,hi2,hx,w1]) ?_|refine xt (by simpa [e2,hi2,hx,w1]) ?_|refine xf (by simpa [e2,hi2,hx,w1]) ?_|apply wB|apply Qaa|refine wX ?_|refine wY ?_|refine wR ?_|refine wK ?_|refine wE ?_)
      exact hn
    | false =>
      rw [hx] at hn
      simp at hn
      refine wW ?_
      repeat (first|apply wA|apply wS|refine wr (by simp [e2,hi2,hx,w1,show acc.length≤274877906943 by omega];with_reducible rfl) ?_|refine wq (by simp [e2,hi2,hx,w1,show acc.length≤274877906943 by omega];with_reducible rfl) ?_|refine wt (by simpa [e2,hi2,hx,w1,show acc.length≤274877906943 by omega]) ?_|refine wf (by simpa [e2,hi2,hx,w1,show acc.length≤274877906943 by omega]) ?_|refine xt (by simpa [e2,hi2,hx,w1,show acc.length≤274877906943 by omega]) ?_|refine xf (by simpa [e2,hi2,hx,w1,show acc.length≤274877906943 by omega]) ?_|apply wB|apply Qaa|refine wX ?_|refine wY ?_|refine wR ?_|refine wK ?_|refine wE ?_)
      have hb:acc.length≤274877906943:=by omega
      refine Qm3 (by simp [hi2,hb];with_reducible rfl) (by simp;with_reducible rfl) ?_ ?_
      · intro p hp
        simp only [List.mem_cons,List.not_mem_nil,or_false] at hp
        subst hp
        exact ⟨_,by simp [hi2,hb];with_reducible rfl,by simp⟩
      repeat (first|apply wA|apply wS|refine wr (by simp [w1];with_reducible rfl) ?_|refine wq (by simp [w1];with_reducible rfl) ?_|refine wt (by simpa [w1]) ?_|refine wf (by simpa [w1]) ?_|refine xt (by simpa [w1]) ?_|refine xf (by simpa [w1]) ?_|apply wB|apply Qaa|refine wX ?_|refine wY ?_|refine wR ?_|refine wK ?_|refine wE ?_)
      exact hn
 refine cW zt122 rfl ?_
 repeat (first|apply wA|apply wS|refine wr (by simp [e1];with_reducible rfl) ?_|refine wq (by simp [e1];with_reducible rfl) ?_|refine wt (by simpa [e1]) ?_|refine wf (by simpa [e1]) ?_|refine xt (by simpa [e1]) ?_|refine xf (by simpa [e1]) ?_|apply wB|apply Qaa|refine wX ?_|refine wY ?_|refine wR ?_|refine wK ?_|refine wE ?_)
 have:=loop (prs n).length 0 (by simp)
 simp at this
 refine Qal this ?_
 rintro ex st ⟨rfl,rfl⟩
 simp only [if_true]
 repeat (first|apply wA|apply wS|refine wr (by simp;with_reducible rfl) ?_|refine wq (by simp;with_reducible rfl) ?_|refine wt (by simpa) ?_|refine wf (by simpa) ?_|refine xt (by simpa) ?_|refine xf (by simpa) ?_|apply wB|apply Qaa|refine wX ?_|refine wY ?_|refine wR ?_|refine wK ?_|refine wE ?_)
 simp [Ja1]
end Go.Idl
namespace Go.Idl
open Go
theorem Qel {f:Lab} {fn:Qbl} (hf:tb f=some fn) {lent:List Nat} {args:List IV} {M:List Qae} (hl:lent.all fn.keep.contains=true) {P:Ret→Prop}
 (h:wp tb fn.body { T:=args.zipIdx.map fun (v,i)=>(i,v),loc:=[],M:=M } fun ex st=>(ex=.normal ∨ ex=.ret)∧∃ r,P r∧Qk5 fn lent st=some r):∃ r,P r∧Ev tb f lent args M r:=by
 obtain ⟨ex,st',⟨h1,r,hP,h2⟩,-,back⟩:=Qbh h
 exact ⟨r,hP,cW hf hl (back _ ⟨h1,h2⟩)⟩
theorem Qm4 {α} {acc xs:List α} {i:Nat} (h:i < xs.length) (hs:acc.Sublist (xs.take i)):(acc++[xs[i]]).Sublist (xs.take (i+1)):=by
 rw [List.take_succ_eq_append_getElem h]
 exact hs.append (List.Sublist.refl _)
theorem Qm2 {α} {acc xs:List α} {i:Nat} (hs:acc.Sublist (xs.take i)):acc.Sublist (xs.take (i+1)) :=
 hs.trans (List.take_sublist_take_left (by omega))
end Go.Idl
namespace Go.Idl
theorem Jzo {B:Int} (hB:0≤B):∀ {xs:List Int},(∀ x ∈ xs,0≤x∧x≤B)→0≤xs.sum∧xs.sum≤B * xs.length
 | [],_=>by simp
 | x::r,h=>by
   have h1:=h x (by simp)
   have h2:=Jzo hB (xs:=r) (fun y hy=>h y (by simp [hy]))
   have e:B * ((x::r).length:Int)=B * r.length+B:=by
    rw [List.length_cons,Int.natCast_add,Int.mul_add];simp
   rw [List.sum_cons,e]
   omega
def least (xs:List Int):Int:=xs.foldl (fun n x=>min n x) 0
end Go.Idl
namespace Go.Idl
open Go
abbrev Z:IV:=.lst 0 [] true
def Few (xs:List Int):Prop:=xs.length≤7∧∀ x ∈ xs,0≤x∧x≤6
theorem Few.small {xs:List Int} (h:Few xs):Jdo xs:=by
 refine ⟨by have:=h.1;omega,fun k=>?_⟩
 have h1:=Jzo (B:=6) (by omega) (xs:=xs.take k) (fun x hx=>h.2 x (List.mem_of_mem_take hx))
 have h2:(xs.take k).length≤7:=by have:=h.1;simp;omega
 omega
theorem Few.take {xs:List Int} (h:Few xs) (k:Nat):Few (xs.take k):=⟨by have:=h.1;simp;omega,fun x hx=>h.2 x (List.mem_of_mem_take hx)⟩
theorem Few.drop {xs:List Int} (h:Few xs) (k:Nat):Few (xs.drop k):=⟨by have:=h.1;simp;omega,fun x hx=>h.2 x (List.mem_of_mem_drop hx)⟩
theorem Few.fall {xs:List Int} (h:Few xs):Few (fall xs):=⟨by rw [Jda];exact h.1,fun x hx=>h.2 x (Jdj.1 hx)⟩
theorem Few.sum {xs:List Int} (h:Few xs):0≤xs.sum∧xs.sum≤42:=by
 have h1:=Jzo (B:=6) (by omega) h.2
 have:=h.1
 omega
def mapR (n:Nat) (g:Nat→Int):List Int:=(List.range n).map g
@[simp] theorem Jxy (n:Nat):List.replicate n [IV.sc (.int .i64 0)]=Qdd (List.replicate n 0):=by simp [Qdd]
theorem Jtc (a b:Int):(if b < a then b else a)=min a b:=by split <;> omega
end Go.Idl
namespace Go.Idl
open Go
def Qo8 (o:List Int) (i:Nat):List Int:=o.set i (o.getD i 0+1)
def Qiy (o:List Int) (es:List (Int×Int)):List Int:=es.foldl (fun o e=>Qo8 (Qo8 o e.1.toNat) e.2.toNat) o
def Qco (n:Nat) (es:List (Int×Int)):List Int:=Qiy (List.replicate n 0) es
def Qh6 (n:Nat) (es:List (Int×Int)):Prop:=∀ e ∈ es,0≤e.1∧e.1 < n∧0≤e.2∧e.2 < n
theorem Qhb (o:List Int) (i:Nat):(Qo8 o i).length=o.length:=by simp [Qo8]
theorem Qws {o:List Int} {i:Nat} (h:i < o.length):Qo8 o i=o.set i (o[i]+1):=by
 simp [Qo8,List.getD_eq_getElem?_getD,List.getElem?_eq_getElem h]
theorem Qk9 {o:List Int} {i:Nat} {B:Int} (h:∀ x ∈ o,0≤x∧x≤B) (hB:0≤B):∀ x ∈ Qo8 o i,0≤x∧x≤B+1:=by
 intro x hx
 rcases List.mem_or_eq_of_mem_set hx with hx | rfl
 · have:=h x hx;omega
 · rw [List.getD_eq_getElem?_getD]
   cases he:o[i]? with
   | none=>simp;omega
   | some y=>have:=h y (List.mem_of_getElem? he);simp;omega
theorem Qd8:∀ (es:List (Int×Int)) (o:List Int),(Qiy o es).length=o.length
 | [],o=>rfl
 | e::es,o=>by simp only [Qiy,List.foldl_cons];rw [← Qiy,Qd8 es];simp [Qhb]
theorem Jep {n:Nat} {es:List (Int×Int)} (h:es.Sublist (prs n)):Qh6 n es:=by
 intro e he
 have:=Qrv n 0 e (h.mem he)
 omega
theorem Qx9 {n:Nat} (hn:n≤7) {es:List (Int×Int)} (h:es.Sublist (prs n)):es.length≤49:=by
 have h1:=h.length_le
 have:=Qi8 n 0
 have h2:n * n≤7 * 7:=Nat.mul_le_mul hn hn
 simp only [prs] at h1;omega
def Low (B:Int) (d:List Int):Prop:=∀ x ∈ d,-B≤x∧x≤B
theorem Low.set {B:Int} {d:List Int} (h:Low B d) {i:Nat} {x:Int} (hx:-B≤x∧x≤B):Low B (d.set i x):=by
 intro y hy
 rcases List.mem_or_eq_of_mem_set hy with hy | rfl
 · exact h y hy
 · exact hx
theorem Low.app {B:Int} {d:List Int} (h:Low B d) {x:Int} (hx:-B≤x∧x≤B):Low B (d++[x]):=by
 intro y hy
 rcases List.mem_append.1 hy with hy | hy
 · exact h y hy
 · simp at hy;subst hy;exact hx
theorem Low.mono {B C:Int} {d:List Int} (h:Low B d) (hc:B≤C):Low C d:=fun x hx=>by have:=h x hx;omega
theorem Jps (a b:Int):(if a < b then b else a)=max a b:=by split <;> omega
end Go.Idl
namespace Go.Idl
def Qrd {α:Type} (lt:α→α→Bool) (x:α):List α→List α→List α
 | [],B=>x::B
 | a::r,B=>if lt x a then Qrd lt x r (a::B) else r.reverse++a::x::B
def Qni {α:Type} (lt:α→α→Bool):List α→List α→List α
 | S,[]=>S
 | S,x::r=>Qni lt (Qrd lt x S.reverse []) r
theorem Qfo {α:Type} (lt:α→α→Bool) (x:α):∀ (r B:List α),(Qrd lt x r B).Perm (r.reverse++x::B)
 | [],B=>.refl _
 | a::r,B=>by
   unfold Qrd
   split
   · refine (Qfo lt x r (a::B)).trans ?_
     rw [List.reverse_cons,List.append_assoc]
     exact List.Perm.append_left _ (.swap _ _ _)
   · rw [List.reverse_cons,List.append_assoc]
     exact .refl _
theorem Qmb {α:Type} (lt:α→α→Bool) (x:α) (S:List α):(Qrd lt x S.reverse []).length=S.length+1:=by
 have:=(Qfo lt x S.reverse []).length_eq
 simpa using this
abbrev Srt {α:Type} (lt:α→α→Bool) (l:List α):Prop:=l.Pairwise fun a b=>lt b a=false
theorem Qr0 {α:Type} {lt:α→α→Bool} (ht:∀ a b c,lt b a=false→lt c b=false→lt c a=false) (ha:∀ a b,lt a b=true→lt b a=false) (x:α):∀ (r B:List α),Srt lt (r.reverse++B)→(∀ b ∈ B,lt x b=true)→Srt lt (Qrd lt x r B)
 | [],B,h,hb=>List.pairwise_cons.2 ⟨fun b hb'=>ha _ _ (hb b hb'),by simpa using h⟩
 | a::r,B,h,hb=>by
   rw [List.reverse_cons,List.append_assoc] at h
   unfold Qrd
   split
   · rename_i hx
     refine Qr0 ht ha x r (a::B) h fun b hb'=>?_
     rcases List.mem_cons.1 hb' with rfl | hb'
     · exact hx
     · exact hb b hb'
   · rename_i hx
     have hx:lt x a=false:=by simpa using hx
     obtain ⟨h1,h2,h3⟩:=List.pairwise_append.1 (show Srt lt (r.reverse++a::B) from h)
     have h2:=List.pairwise_cons.1 h2
     refine List.pairwise_append.2 ⟨h1,?_,fun p hp q hq=>?_⟩
     · refine List.pairwise_cons.2 ⟨fun q hq=>?_,List.pairwise_cons.2 ⟨fun b hb'=>ha _ _ (hb b hb'),h2.2⟩⟩
       rcases List.mem_cons.1 hq with rfl | hq
       · exact hx
       · exact h2.1 q hq
     · have h4:=h3 p hp a (by simp)
       rcases List.mem_cons.1 hq with rfl | hq
       · exact h4
       · rcases List.mem_cons.1 hq with rfl | hq
         · exact ht _ _ _ h4 hx
         · exact h3 p hp q (by simp [hq])
theorem Qpu {α:Type} {lt:α→α→Bool} (ht:∀ a b c,lt b a=false→lt c b=false→lt c a=false) (ha:∀ a b,lt a b=true→lt b a=false):∀ (r S:List α),Srt lt S→Srt lt (Qni lt S r)∧(Qni lt S r).Perm (S++r)
 | [],S,h=>⟨h,by simp [Qni]⟩
 | x::r,S,h=>by
   obtain ⟨h1,h2⟩:=Qpu ht ha r (Qrd lt x S.reverse []) (Qr0 ht ha x _ _ (by simpa using h) (by simp))
   refine ⟨h1,h2.trans ?_⟩
   have:=Qfo lt x S.reverse []
   rw [List.reverse_reverse] at this
   refine (this.append_right r).trans ?_
   rw [List.append_assoc];exact .refl _
theorem Qnq {α:Type} (lt:α→α→Bool):∀ (r S:List α),(Qni lt S r).Perm (S++r)
 | [],S=>by simp [Qni]
 | x::r,S=>by
   refine (Qnq lt r _).trans ?_
   have:=Qfo lt x S.reverse []
   rw [List.reverse_reverse] at this
   refine (this.append_right r).trans ?_
   rw [List.append_assoc];exact .refl _
end Go.Idl
namespace Go.Idl
open Go
abbrev vE (x:Int×Int):IV:=.agg [I x.1,I x.2]
theorem Qbr {α:Type} {A Z:List α} {a x:α}:(A++a::x::Z)[A.length+1]? = some x:=by
 rw [List.getElem?_append_right (by omega)];simp
theorem Qbs {α:Type} {A Z:List α} {a:α}:(A++a::Z)[A.length]? = some a:=by
 rw [List.getElem?_append_right (by omega)];simp
theorem Qcc {α:Type} {A Z:List α} {a x:α}:((A++a::x::Z).set (A.length+1) a).set A.length x=A++x::a::Z:=by
 rw [List.set_append_right _ _ (by omega),List.set_append_right _ _ (by omega)]
 simp
def Jb2 {α:Type} (v:α→IV) (F:Lab) (caps:List IV) (lt:α→α→Bool) (D:α→Prop) (M:List Qae):Prop :=
 ∀ x y,D x→D y→∃ k:Int,decide (k < 0)=lt x y∧Ev tb F [] (v x::v y::caps) (M++[[]]) ⟨I k,[],M++[[]],[]⟩
theorem icle (F:Lab) (caps:List IV) (lt:(Int×Int)→(Int×Int)→Bool) (D:(Int×Int)→Prop) (M:List Qae) (hc:Jb2 vE F caps lt D M) (P:List (Int×Int)) (n i:Int) (x:(Int×Int)) (rest:List (Int×Int)):∀ (k:Nat) (A B:List (Int×Int)),A.length=k→P.length+k+B.length+rest.length≤2000000→D x→(∀ a ∈ A,D a) →
 wp tb (.loop Jet) { T:=[(0,O2 ((P++A)++x::(B++rest))),(1,I P.length),(2,I n),(3,.fn F caps),(8,I i),(9,I (P.length+k:Nat))],loc:=[],M:=M }
  (fun ex st=>ex=.exit 2∧∃ k':Int,st={ T:=[(0,O2 (P++(Qrd lt x A.reverse B++rest))),(1,I P.length),(2,I n),(3,.fn F caps),(8,I i),(9,I k'),(34,Bo false)],loc:=[],M:=M }):=by
 intro k
 induction k with
 | zero =>
   intro A B hA hl hx hD
   have:A=[]:=List.length_eq_zero_iff.1 hA
   subst this
   refine wW ?_
   repeat (first|apply wA|apply wS|refine wr (by simp;with_reducible rfl) ?_|refine wq (by simp;with_reducible rfl) ?_|refine wt (by simpa) ?_|refine wf (by simpa) ?_|refine xt (by simpa) ?_|refine xf (by simpa) ?_|apply wB|apply Qaa|refine wX ?_|refine wY ?_|refine wR ?_|refine wK ?_|refine wE ?_)
   exact ⟨rfl,_,by simp [Qrd];rfl⟩
 | succ k ih =>
   intro A B hA hl hx hD
   obtain ⟨A',a,rfl⟩:∃ A' a,A=A'++[a]:=⟨A.dropLast,A.getLast (by intro h;subst h;simp at hA),(List.dropLast_concat_getLast _).symm⟩
   have hA':A'.length=k:=by simpa using hA
   subst hA'
   obtain ⟨c,hc1,hc2⟩:=hc x a hx (hD a (by simp))
   have e1:=Qab hc2
   have hPl:(P++A').length=P.length+A'.length:=by simp
   obtain ⟨Q,hQ⟩:∃ Q,Q=P++A':=⟨_,rfl⟩
   have hQl:P.length+A'.length=Q.length:=by rw [hQ];simp
   have hre:P++(A'++[a])++x::(B++rest)=Q++a::x::(B++rest):=by rw [hQ];simp
   rw [hre]
   have hk:((P.length+(A'.length+1):Nat):Int)=(Q.length:Int)+1:=by omega
   rw [hk]
   have w1:IntKind.i64.wrap (Q.length:Int)=(Q.length:Int):=Qaj (by omega) (by omega)
   have w2:(P.length:Int) < (Q.length:Int)+1:=by omega
   by_cases hx0:c < 0
   · have hlt:lt x a=true:=by rw [← hc1];exact decide_eq_true hx0
     have:=ih A' (a::B) rfl (by simp;omega) hx (fun b hb=>hD b (by simp [hb]))
     rw [show P++A'++x::(a::B++rest)=Q++x::(a::(B++rest)) by rw [hQ];simp,hQl] at this
     refine wW ?_
     repeat (first|apply wA|apply wS|refine wr (by simp [e1,hx0,w1,w2,Qbs,Qbr,Qcc];with_reducible rfl) ?_|refine wq (by simp [e1,hx0,w1,w2,Qbs,Qbr,Qcc];with_reducible rfl) ?_|refine wt (by simpa [e1,hx0,w1,w2,Qbs,Qbr,Qcc]) ?_|refine wf (by simpa [e1,hx0,w1,w2,Qbs,Qbr,Qcc]) ?_|refine xt (by simpa [e1,hx0,w1,w2,Qbs,Qbr,Qcc]) ?_|refine xf (by simpa [e1,hx0,w1,w2,Qbs,Qbr,Qcc]) ?_|apply wB|apply Qaa|refine wX ?_|refine wY ?_|refine wR ?_|refine wK ?_|refine wE ?_)
     simp only [List.reverse_append,List.reverse_cons,List.reverse_nil,List.nil_append,List.cons_append]
     simp only [Qrd,hlt,if_true]
     exact this
   · have hlt:lt x a=false:=by rw [← hc1];exact decide_eq_false hx0
     refine wW ?_
     repeat (first|apply wA|apply wS|refine wr (by simp [e1,hx0,w1,w2,Qbs,Qbr,Qcc];with_reducible rfl) ?_|refine wq (by simp [e1,hx0,w1,w2,Qbs,Qbr,Qcc];with_reducible rfl) ?_|refine wt (by simpa [e1,hx0,w1,w2,Qbs,Qbr,Qcc]) ?_|refine wf (by simpa [e1,hx0,w1,w2,Qbs,Qbr,Qcc]) ?_|refine xt (by simpa [e1,hx0,w1,w2,Qbs,Qbr,Qcc]) ?_|refine xf (by simpa [e1,hx0,w1,w2,Qbs,Qbr,Qcc]) ?_|apply wB|apply Qaa|refine wX ?_|refine wY ?_|refine wR ?_|refine wK ?_|refine wE ?_)
     refine ⟨rfl,(Q.length:Int)+1,?_⟩
     simp only [List.reverse_append,List.reverse_cons,List.reverse_nil,List.nil_append,List.cons_append]
     simp only [Qrd,hlt,Bool.false_eq_true,if_false,List.reverse_reverse]
     rw [hQ]
     simp
theorem isoe (F:Lab) (caps:List IV) (lt:(Int×Int)→(Int×Int)→Bool) (D:(Int×Int)→Prop) (M:List Qae) (hc:Jb2 vE F caps lt D M) (P Q:List (Int×Int)) (n:Int):∀ (r S:List (Int×Int)),n=(P.length+S.length+r.length:Nat)→P.length+S.length+r.length+Q.length≤900000→(∀ x ∈ S,D x)→(∀ x ∈ r,D x) →
 wp tb (.loop Jd6) { T:=[(0,O2 (P++(S++(r++Q)))),(1,I P.length),(2,I n),(3,.fn F caps),(8,I (P.length+S.length:Nat))],loc:=[],M:=M }
  (fun ex st=>ex=.exit 0∧∃ k':Int,st={ T:=[(0,O2 (P++(Qni lt S r++Q))),(1,I P.length),(2,I n),(3,.fn F caps),(8,I k'),(14,Bo false)],loc:=[],M:=M }):=by
 intro r
 induction r with
 | nil =>
   intro S hn hl hS hr
   have h1:¬ ((P.length:Int)+(S.length:Int)) < n:=by simp at hn;omega
   refine wW ?_
   repeat (first|apply wA|apply wS|refine wr (by simp [h1];with_reducible rfl) ?_|refine wq (by simp [h1];with_reducible rfl) ?_|refine wt (by simpa [h1]) ?_|refine wf (by simpa [h1]) ?_|refine xt (by simpa [h1]) ?_|refine xf (by simpa [h1]) ?_|apply wB|apply Qaa|refine wX ?_|refine wY ?_|refine wR ?_|refine wK ?_|refine wE ?_)
   exact ⟨rfl,_,by simp [Qni];rfl⟩
 | cons x r ih =>
   intro S hn hl hS hr
   simp only [List.length_cons] at hn hl
   have h1:(P.length:Int)+(S.length:Int) < n:=by omega
   have w1:IntKind.i64.wrap ((P.length:Int)+(S.length:Int)+1)=(P.length:Int)+(S.length:Int)+1:=by rw [Qaj (by omega) (by omega)]
   have hin:=icle F caps lt D M hc P n ((P.length:Int)+S.length) x (r++Q) S.length S [] rfl (by simp;omega) (hr x (by simp)) hS
   rw [show P++S++x::([]++(r++Q))=P++(S++(x::r++Q)) by simp,show ((P.length+S.length:Nat):Int)=(P.length:Int)+S.length by omega] at hin
   have hn2:=ih (Qrd lt x S.reverse []) (by rw [Qmb];omega) (by rw [Qmb];omega) (fun y hy=>by
    have:=(Qfo lt x S.reverse []).mem_iff.1 hy
    simp only [List.reverse_reverse,List.mem_append,List.mem_cons,List.not_mem_nil,or_false] at this
    rcases this with h | rfl
    · exact hS y h
    · exact hr y (by simp)) (fun y hy=>hr y (by simp [hy]))
   rw [Qmb,show ((P.length+(S.length+1):Nat):Int)=(P.length:Int)+S.length+1 by omega] at hn2
   rw [show ((P.length+S.length:Nat):Int)=(P.length:Int)+S.length by omega]
   refine wW ?_
   repeat (first|apply wA|apply wS|refine wr (by simp [h1,w1];with_reducible rfl) ?_|refine wq (by simp [h1,w1];with_reducible rfl) ?_|refine wt (by simpa [h1,w1]) ?_|refine wf (by simpa [h1,w1]) ?_|refine xt (by simpa [h1,w1]) ?_|refine xf (by simpa [h1,w1]) ?_|apply wB|apply Qaa|refine wX ?_|refine wY ?_|refine wR ?_|refine wK ?_|refine wE ?_)
   refine Qal hin ?_
   rintro ex st ⟨rfl,k',rfl⟩
   simp only [if_true]
   repeat (first|apply wA|apply wS|refine wr (by simp [h1,w1];with_reducible rfl) ?_|refine wq (by simp [h1,w1];with_reducible rfl) ?_|refine wt (by simpa [h1,w1]) ?_|refine wf (by simpa [h1,w1]) ?_|refine xt (by simpa [h1,w1]) ?_|refine xf (by simpa [h1,w1]) ?_|apply wB|apply Qaa|refine wX ?_|refine wY ?_|refine wR ?_|refine wK ?_|refine wE ?_)
   exact hn2
theorem Jdy (F:Lab) (caps:List IV) (lt:(Int×Int)→(Int×Int)→Bool) (D:(Int×Int)→Prop) (M:List Qae) (hc:Jb2 vE F caps lt D M) (P Q seg:List (Int×Int)) (hl:P.length+seg.length+Q.length≤800000) (hD:∀ x ∈ seg,D x) :
 Ev tb Qt7 [0] [O2 (P++(seg++Q)),I P.length,I (P.length+seg.length:Nat),.fn F caps] M ⟨.tup [],[O2 (P++(Qni lt [] seg++Q))],M,[]⟩:=by
 have w1:IntKind.i64.wrap ((P.length:Int)+1)=(P.length:Int)+1:=by rw [Qaj (by omega) (by omega)]
 cases seg with
 | nil =>
   have h1:¬ (P.length:Int)+1 < ((P.length+([]:List (Int×Int)).length:Nat):Int):=by simp;omega
   simp only [List.length_nil,Nat.add_zero] at h1 ⊢
   refine cW Jxa rfl ?_
   repeat (first|apply wA|apply wS|refine wr (by simp [w1];with_reducible rfl) ?_|refine wq (by simp [w1];with_reducible rfl) ?_|refine wt (by simpa [w1]) ?_|refine wf (by simpa [w1]) ?_|refine xt (by simpa [w1]) ?_|refine xf (by simpa [w1]) ?_|apply wB|apply Qaa|refine wX ?_|refine wY ?_|refine wR ?_|refine wK ?_|refine wE ?_)
   refine wW ?_
   repeat (first|apply wA|apply wS|refine wr (by simp [h1];with_reducible rfl) ?_|refine wq (by simp [h1];with_reducible rfl) ?_|refine wt (by simpa [h1]) ?_|refine wf (by simpa [h1]) ?_|refine xt (by simpa [h1]) ?_|refine xf (by simpa [h1]) ?_|apply wB|apply Qaa|refine wX ?_|refine wY ?_|refine wR ?_|refine wK ?_|refine wE ?_)
   simp [Qxn,Qni]
 | cons x r =>
   have:=isoe F caps lt D M hc P Q (P.length+(x::r).length:Nat) r [x] (by simp;omega) (by simp at hl ⊢;omega) (fun y hy=>by simp at hy;subst hy;exact hD _ (by simp)) (fun y hy=>hD y (by simp [hy]))
   rw [show P++([x]++(r++Q))=P++(x::r++Q) by simp,show ((P.length+[x].length:Nat):Int)=(P.length:Int)+1 by simp] at this
   have hs:Qni lt [x] r=Qni lt [] (x::r):=by simp [Qni,Qrd]
   rw [hs] at this
   generalize ((P.length+(x::r).length:Nat):Int)=n at *
   refine cW Jxa rfl ?_
   repeat (first|apply wA|apply wS|refine wr (by simp [w1];with_reducible rfl) ?_|refine wq (by simp [w1];with_reducible rfl) ?_|refine wt (by simpa [w1]) ?_|refine wf (by simpa [w1]) ?_|refine xt (by simpa [w1]) ?_|refine xf (by simpa [w1]) ?_|apply wB|apply Qaa|refine wX ?_|refine wY ?_|refine wR ?_|refine wK ?_|refine wE ?_)
   refine Qal this ?_
   rintro ex st ⟨rfl,k',rfl⟩
   simp [Qxn]
end Go.Idl
namespace Go.Idl
open Go
@[simp] theorem get_mid {α:Type} (A bs:List α) (x:α):(A++x::bs)[A.length]? = some x:=by simp
@[simp] theorem Jf2 {α:Type} (A bs:List α) (x y:α):(A++x::bs).set A.length y=A++y::bs:=by
  rw [List.set_append_right _ _ (Nat.le_refl _)];simp
@[simp] theorem Jye {α:Type} (A:List α) (x y:α):(A++[x]).set A.length y=A++[y]:=Jf2 A [] x y
theorem Qgx (code:List Int) (c:Bool) (hc:Qe6 code) (cnt:Nat) (hn:cnt≤2000000) (n:Int) (hn2:n≤2000000) (A bs:Qae) (Ms:List Qae) :
 ∃ v:Nat,(1≤n→(v:Int) < n)∧Ev tb Qgh [] [.bptr 0 A.length 0,I n] ((A++R code c cnt::bs)::Ms) ⟨I v,[],(A++R code c ((cnt+1:Nat):Int)::bs)::Ms,[]⟩:=by
 have w1:IntKind.i64.wrap ((cnt:Int)+1)=((cnt+1:Nat):Int):=Qbe (by omega)
 by_cases h1:n < 1
 · refine ⟨0,by omega,?_⟩
   refine cW Jck rfl ?_
   repeat (first|apply wA|apply wS|refine wr (by simp [w1,h1];with_reducible rfl) ?_|refine wq (by simp [w1,h1];with_reducible rfl) ?_|refine wt (by simpa [w1,h1]) ?_|refine wf (by simpa [w1,h1]) ?_|refine xt (by simpa [w1,h1]) ?_|refine xf (by simpa [w1,h1]) ?_|apply wB|apply Qaa|refine wX ?_|refine wY ?_|refine wR ?_|refine wK ?_|refine wE ?_)
   simp [Qqu]
 by_cases h2:code=[]
 · subst h2
   refine ⟨0,by omega,?_⟩
   refine cW Jck rfl ?_
   repeat (first|apply wA|apply wS|refine wr (by simp [w1,h1];with_reducible rfl) ?_|refine wq (by simp [w1,h1];with_reducible rfl) ?_|refine wt (by simpa [w1,h1]) ?_|refine wf (by simpa [w1,h1]) ?_|refine xt (by simpa [w1,h1]) ?_|refine xf (by simpa [w1,h1]) ?_|apply wB|apply Qaa|refine wX ?_|refine wY ?_|refine wR ?_|refine wK ?_|refine wE ?_)
   simp [Qqu]
 have h2':¬ (code.length:Int)=0:=by
  have:code.length ≠ 0:=fun h=>h2 (List.length_eq_zero_iff.1 h)
  omega
 have w2:IntKind.i64.wrap (cnt:Int)=(cnt:Int):=Jd0 (by omega)
 have hn0:¬ n=0:=by omega
 by_cases h3:cnt < code.length
 · have hb:=hc.2 code[cnt] (List.getElem_mem h3)
   have w3:IntKind.i64.wrap code[cnt]=code[cnt]:=Qaj (by omega) (by omega)
   have hr:=Qla hb.1 (n:=n) (by omega)
   obtain ⟨v,hv⟩:=Int.eq_ofNat_of_zero_le hr.1
   rw [hv] at hr
   refine ⟨v,fun _=>hr.2,?_⟩
   refine cW Jck rfl ?_
   repeat (first|apply wA|apply wS|refine wr (by simp [w1,w2,h1,h2,h2',h3,w3,hn0,hv];with_reducible rfl) ?_|refine wq (by simp [w1,w2,h1,h2,h2',h3,w3,hn0,hv];with_reducible rfl) ?_|refine wt (by simpa [w1,w2,h1,h2,h2',h3,w3,hn0,hv]) ?_|refine wf (by simpa [w1,w2,h1,h2,h2',h3,w3,hn0,hv]) ?_|refine xt (by simpa [w1,w2,h1,h2,h2',h3,w3,hn0,hv]) ?_|refine xf (by simpa [w1,w2,h1,h2,h2',h3,w3,hn0,hv]) ?_|apply wB|apply Qaa|refine wX ?_|refine wY ?_|refine wR ?_|refine wK ?_|refine wE ?_)
   simp [Qqu]
 have hl0:0 < code.length:=by omega
 have hlen:=hc.1
 obtain ⟨i1,hi1,m1⟩:∃ i1:Nat,i1 < code.length∧(cnt:Int).tmod (code.length:Int)=(i1:Int) :=
  ⟨cnt % code.length,Nat.mod_lt _ hl0,rfl⟩
 obtain ⟨i2,hi2,m2⟩:∃ i2:Nat,i2 < code.length∧((cnt:Int) * 7+3).tmod (code.length:Int)=(i2:Int) :=
  ⟨(cnt * 7+3) % code.length,Nat.mod_lt _ hl0,rfl⟩
 obtain ⟨q,hq,m3⟩:∃ q:Nat,q≤cnt∧(cnt:Int).tdiv (code.length:Int)=(q:Int) :=
  ⟨cnt / code.length,Nat.div_le_self _ _,rfl⟩
 have hb1:=hc.2 code[i1] (List.getElem_mem hi1)
 have hb2:=hc.2 code[i2] (List.getElem_mem hi2)
 generalize hx1:code[i1]=b1 at hb1
 generalize hx2:code[i2]=b2 at hb2
 have v1:IntKind.i64.wrap b1=b1:=Qaj (by omega) (by omega)
 have v2:IntKind.i64.wrap b2=b2:=Qaj (by omega) (by omega)
 have v3:IntKind.i64.wrap (b1 * 131)=b1 * 131:=Qaj (by omega) (by omega)
 have v4:IntKind.i64.wrap (b2 * 1117)=b2 * 1117:=Qaj (by omega) (by omega)
 have v5:IntKind.i64.wrap (b1 * 131+b2 * 1117)=b1 * 131+b2 * 1117:=Qaj (by omega) (by omega)
 have v6:IntKind.i64.wrap ((cnt:Int) * 7)=(cnt:Int) * 7:=Qaj (by omega) (by omega)
 have v7:IntKind.i64.wrap ((cnt:Int) * 7+3)=(cnt:Int) * 7+3:=Qaj (by omega) (by omega)
 have v8:IntKind.i64.wrap ((cnt:Int) * 29)=(cnt:Int) * 29:=Qaj (by omega) (by omega)
 have v9:IntKind.i64.wrap (q:Int)=(q:Int):=Qaj (by omega) (by omega)
 have v10:IntKind.i64.wrap ((q:Int) * 53)=(q:Int) * 53:=Qaj (by omega) (by omega)
 have v11:IntKind.i64.wrap (b1 * 131+b2 * 1117+(cnt:Int) * 29)=b1 * 131+b2 * 1117+(cnt:Int) * 29:=Qaj (by omega) (by omega)
 obtain ⟨x,hx,ex⟩:∃ x:Nat,x < 2 ^ 40∧b1 * 131+b2 * 1117+(cnt:Int) * 29+(q:Int) * 53=(x:Int) :=
  ⟨(b1 * 131+b2 * 1117+(cnt:Int) * 29+(q:Int) * 53).toNat,by omega,by omega⟩
 have v12:IntKind.i64.wrap (x:Int)=(x:Int):=Qaj (by omega) (by omega)
 obtain ⟨y,hy,ey⟩:∃ y:Nat,y < 2 ^ 40∧(x:Int).tdiv 64=(y:Int):=⟨x / 64,by omega,rfl⟩
 have ey2:(x:Int) / 64=(y:Int):=ey
 have v13:IntKind.i64.wrap (y:Int)=(y:Int):=Qaj (by omega) (by omega)
 obtain ⟨z,hz,ez⟩:=Jk7 x y hx hy
 have hr:=Qla (x:=(z:Int)) (by omega) (n:=n) (by omega)
 obtain ⟨v,hv⟩:=Int.eq_ofNat_of_zero_le hr.1
 rw [hv] at hr
 refine ⟨v,fun _=>hr.2,?_⟩
 refine cW Jck rfl ?_
 repeat (first|apply wA|apply wS|refine wr (by simp [w1,w2,h1,h2,h2',h3,hn0,m1,m2,m3,hi1,hi2,hx1,hx2,v1,v2,v3,v4,v5,v6,v7,v8,v9,v10,v11,ex,v12,ey,ey2,v13,ez,hv];with_reducible rfl) ?_|refine wq (by simp [w1,w2,h1,h2,h2',h3,hn0,m1,m2,m3,hi1,hi2,hx1,hx2,v1,v2,v3,v4,v5,v6,v7,v8,v9,v10,v11,ex,v12,ey,ey2,v13,ez,hv];with_reducible rfl) ?_|refine wt (by simpa [w1,w2,h1,h2,h2',h3,hn0,m1,m2,m3,hi1,hi2,hx1,hx2,v1,v2,v3,v4,v5,v6,v7,v8,v9,v10,v11,ex,v12,ey,ey2,v13,ez,hv]) ?_|refine wf (by simpa [w1,w2,h1,h2,h2',h3,hn0,m1,m2,m3,hi1,hi2,hx1,hx2,v1,v2,v3,v4,v5,v6,v7,v8,v9,v10,v11,ex,v12,ey,ey2,v13,ez,hv]) ?_|refine xt (by simpa [w1,w2,h1,h2,h2',h3,hn0,m1,m2,m3,hi1,hi2,hx1,hx2,v1,v2,v3,v4,v5,v6,v7,v8,v9,v10,v11,ex,v12,ey,ey2,v13,ez,hv]) ?_|refine xf (by simpa [w1,w2,h1,h2,h2',h3,hn0,m1,m2,m3,hi1,hi2,hx1,hx2,v1,v2,v3,v4,v5,v6,v7,v8,v9,v10,v11,ex,v12,ey,ey2,v13,ez,hv]) ?_|apply wB|apply Qaa|refine wX ?_|refine wY ?_|refine wR ?_|refine wK ?_|refine wE ?_)
 simp [Qqu]
theorem Jgy (code:List Int) (c:Bool) (hc:Qe6 code) (cnt:Nat) (hn:cnt≤2000000) (xs:List Int) (d:Bool) (hl:0 < xs.length∧xs.length≤1000) (A bs:Qae) (Ms:List Qae) :
 ∃ x:Int,x ∈ xs∧Ev tb Qmm [] [.bptr 0 A.length 0,L xs d] ((A++R code c cnt::bs)::Ms) ⟨I x,[],(A++R code c ((cnt+1:Nat):Int)::bs)::Ms,[]⟩:=by
 obtain ⟨v,hv,e⟩:=Qgx code c hc cnt hn (xs.length:Int) (by omega) A bs (Ms++[[]])
 have hv:=hv (by omega)
 have hv2:v < xs.length:=by omega
 have e1:=Qab e
 refine ⟨xs[v],List.getElem_mem hv2,?_⟩
 refine cW zt139 rfl ?_
 repeat (first|apply wA|apply wS|refine wr (by simp [e1,hv2];with_reducible rfl) ?_|refine wq (by simp [e1,hv2];with_reducible rfl) ?_|refine wt (by simpa [e1,hv2]) ?_|refine wf (by simpa [e1,hv2]) ?_|refine xt (by simpa [e1,hv2]) ?_|refine xf (by simpa [e1,hv2]) ?_|apply wB|apply Qaa|refine wX ?_|refine wY ?_|refine wR ?_|refine wK ?_|refine wE ?_)
 simp [Jbn]
theorem Qia (code:List Int) (c:Bool) (hc:Qe6 code) (cnt:Nat) (hn:cnt≤100000) (n:Nat) (hn7:n≤7) (A bs:Qae) (Ms:List Qae) :
 ∃ (es:List (Int×Int)) (k:Nat),es.Sublist (prs n)∧k≤cnt+100 ∧
   Ev tb Qo9 [] [.bptr 0 A.length 0,I n] ((A++R code c cnt::bs)::Ms) ⟨OG n es,[],(A++R code c k::bs)::Ms,[]⟩:=by
 have e1:=Qab (Qrl n (by omega))
 have hpl:(prs n).length≤49:=by
  have:=Qi8 n 0
  have h2:n * n≤7 * 7:=Nat.mul_le_mul hn7 hn7
  simp only [prs];omega
 have loop:∀ (m i k:Nat) (acc:List (Int×Int)) (most:Nat),most≤10→i+m=(prs n).length→k≤cnt+1+i→acc.Sublist ((prs n).take i) →
  wp tb (.loop Je6) { T:=[(0,.bptr 0 A.length 0),(4,.bptr (Ms.length+1) 0 0),(5,.bptr (Ms.length+1) 1 0),(6,O2 (prs n)),(7,I most),(8,I i)],loc:=[[I 0,.lst 0 [] true],[I n,O2 acc]],M:=(A++R code c k::bs)::Ms }
  (fun ex st=>ex=.exit 0∧∃ (es:List (Int×Int)) (k':Nat),es.Sublist (prs n)∧k'≤cnt+60∧st={ T:=[(0,.bptr 0 A.length 0),(4,.bptr (Ms.length+1) 0 0),(5,.bptr (Ms.length+1) 1 0),(6,O2 (prs n)),(7,I most),(8,I (prs n).length),(20,Bo false)],loc:=[[I 0,.lst 0 [] true],[I n,O2 es]],M:=(A++R code c k'::bs)::Ms }):=by
  intro m
  induction m with
  | zero =>
    intro i k acc most hm hi hk hs
    have h3:i=(prs n).length:=hi
    subst h3
    refine wW ?_
    repeat (first|apply wA|apply wS|refine wr (by simp;with_reducible rfl) ?_|refine wq (by simp;with_reducible rfl) ?_|refine wt (by simpa) ?_|refine wf (by simpa) ?_|refine xt (by simpa) ?_|refine xf (by simpa) ?_|apply wB|apply Qaa|refine wX ?_|refine wY ?_|refine wR ?_|refine wK ?_|refine wE ?_)
    exact ⟨rfl,acc,k,by simpa using hs,by omega,rfl⟩
  | succ m ih =>
    intro i k acc most hm hi hk hs
    have hi2:i < (prs n).length:=by omega
    have w1:IntKind.i64.wrap ((i:Int)+1)=((i+1:Nat):Int):=Qbe (by omega)
    obtain ⟨v,-,ep⟩:=Qgx code c hc k (by omega) (most:Int) (by omega) A bs (Ms++[[[I 0,.lst 0 [] true],[I n,O2 acc]]])
    have e2:=Qab ep
    have hal:acc.length≤49:=by have:=hs.length_le;simp at this;omega
    have hb:acc.length≤274877906943:=by omega
    by_cases hv:v=0
    · subst hv
      have hn:=ih (i+1) (k+1) (acc++[(prs n)[i]]) most hm (by omega) (by omega) (Qm4 hi2 hs)
      refine wW ?_
      repeat (first|apply wA|apply wS|refine wr (by simp [e2,hi2];with_reducible rfl) ?_|refine wq (by simp [e2,hi2];with_reducible rfl) ?_|refine wt (by simpa [e2,hi2]) ?_|refine wf (by simpa [e2,hi2]) ?_|refine xt (by simpa [e2,hi2]) ?_|refine xf (by simpa [e2,hi2]) ?_|apply wB|apply Qaa|refine wX ?_|refine wY ?_|refine wR ?_|refine wK ?_|refine wE ?_)
      refine Qm3 (by simp [hi2,hb];with_reducible rfl) (by simp;with_reducible rfl) ?_ ?_
      · intro p hp
        simp only [List.mem_cons,List.not_mem_nil,or_false] at hp
        subst hp
        exact ⟨_,by simp [hi2,hb];with_reducible rfl,by simp⟩
      repeat (first|apply wA|apply wS|refine wr (by simp [w1];with_reducible rfl) ?_|refine wq (by simp [w1];with_reducible rfl) ?_|refine wt (by simpa [w1]) ?_|refine wf (by simpa [w1]) ?_|refine xt (by simpa [w1]) ?_|refine xf (by simpa [w1]) ?_|apply wB|apply Qaa|refine wX ?_|refine wY ?_|refine wR ?_|refine wK ?_|refine wE ?_)
      exact hn
    · have hn:=ih (i+1) (k+1) acc most hm (by omega) (by omega) (Qm2 hs)
      have hv2:¬ (v:Int)=0:=by omega
      refine wW ?_
      repeat (first|apply wA|apply wS|refine wr (by simp [e2,hi2,hv,hv2,w1];with_reducible rfl) ?_|refine wq (by simp [e2,hi2,hv,hv2,w1];with_reducible rfl) ?_|refine wt (by simpa [e2,hi2,hv,hv2,w1]) ?_|refine wf (by simpa [e2,hi2,hv,hv2,w1]) ?_|refine xt (by simpa [e2,hi2,hv,hv2,w1]) ?_|refine xf (by simpa [e2,hi2,hv,hv2,w1]) ?_|apply wB|apply Qaa|refine wX ?_|refine wY ?_|refine wR ?_|refine wK ?_|refine wE ?_)
      exact hn
 obtain ⟨v,hv,ep⟩:=Qgx code c hc cnt (by omega) 3 (by omega) A bs (Ms++[[[I 0,.lst 0 [] true],[I n,.own 2 []]]])
 have hv:=hv (by omega)
 have e2:=Qab ep
 have w0:IntKind.i64.wrap (2+(v:Int))=((2+v:Nat):Int):=by rw [Qaj (by omega) (by omega)];omega
 suffices h:∃ r,(∃ (es:List (Int×Int)) (k:Nat),es.Sublist (prs n)∧k≤cnt+100∧r=⟨OG n es,[],(A++R code c k::bs)::Ms,[]⟩)∧Ev tb Qo9 [] [.bptr 0 A.length 0,I n] ((A++R code c cnt::bs)::Ms) r by
  obtain ⟨r,⟨es,k,h1,h2,rfl⟩,h3⟩:=h
  exact ⟨es,k,h1,h2,h3⟩
 refine Qel Jzu rfl ?_
 repeat (first|apply wA|apply wS|refine wr (by simp [e1,e2,w0];with_reducible rfl) ?_|refine wq (by simp [e1,e2,w0];with_reducible rfl) ?_|refine wt (by simpa [e1,e2,w0]) ?_|refine wf (by simpa [e1,e2,w0]) ?_|refine xt (by simpa [e1,e2,w0]) ?_|refine xf (by simpa [e1,e2,w0]) ?_|apply wB|apply Qaa|refine wX ?_|refine wY ?_|refine wR ?_|refine wK ?_|refine wE ?_)
 have hlp:=loop (prs n).length 0 (cnt+1) [] (2+v) (by omega) (by simp) (by omega) (by simp)
 simp at hlp
 refine Qal hlp ?_
 rintro ex st ⟨rfl,es,hs,k,hk,rfl⟩
 simp only [if_true]
 obtain ⟨v2,-,ep2⟩:=Qgx code c hc k (by omega) 4 (by omega) A bs (Ms++[[[I 0,.lst 0 [] true],[I n,O2 es]]])
 have e3:=Qab ep2
 have hel:es.length≤100000:=by have:=hs.length_le;omega
 have e4:=Qab (Qha n (by omega) es false hel)
 by_cases hv2:v2=0
 · subst hv2
   repeat (first|apply wA|apply wS|refine wr (by simp [e3,e4];with_reducible rfl) ?_|refine wq (by simp [e3,e4];with_reducible rfl) ?_|refine wt (by simpa [e3,e4]) ?_|refine wf (by simpa [e3,e4]) ?_|refine xt (by simpa [e3,e4]) ?_|refine xf (by simpa [e3,e4]) ?_|apply wB|apply Qaa|refine wX ?_|refine wY ?_|refine wR ?_|refine wK ?_|refine wE ?_)
   refine ⟨.inr rfl,_,⟨Jbr n es,k+1,List.filter_sublist,by omega,rfl⟩,?_⟩
   simp [Qyo]
 · have hv3:¬ (v2:Int)=0:=by omega
   repeat (first|apply wA|apply wS|refine wr (by simp [e3,e4,hv2,hv3];with_reducible rfl) ?_|refine wq (by simp [e3,e4,hv2,hv3];with_reducible rfl) ?_|refine wt (by simpa [e3,e4,hv2,hv3]) ?_|refine wf (by simpa [e3,e4,hv2,hv3]) ?_|refine xt (by simpa [e3,e4,hv2,hv3]) ?_|refine xf (by simpa [e3,e4,hv2,hv3]) ?_|apply wB|apply Qaa|refine wX ?_|refine wY ?_|refine wR ?_|refine wK ?_|refine wE ?_)
   refine ⟨.inr rfl,_,⟨es,k+1,hs,by omega,rfl⟩,?_⟩
   simp [Qyo]
theorem Qzf (code:List Int) (c:Bool) (hc:Qe6 code) (cnt:Nat) (hn:cnt≤2000000) (n:Int) (hn2:n≤2000000) (A bs:Qae) (Ms:List Qae) :
 ∃ v k:Nat,(1≤n→(v:Int) < n)∧k≤cnt+1∧Qcb tb Qgh [] [.bptr 0 A.length 0,I n] ((A++R code c cnt::bs)::Ms)=some ⟨I v,[],(A++R code c k::bs)::Ms,[]⟩:=by
 obtain ⟨v,h,e⟩:=Qgx code c hc cnt hn n hn2 A bs Ms
 exact ⟨v,cnt+1,h,by omega,Qab e⟩
theorem Jyk (code:List Int) (c:Bool) (hc:Qe6 code) (cnt:Nat) (hn:cnt≤2000000) (xs:List Int) (hl:0 < xs.length∧xs.length≤1000) (A bs:Qae) (Ms:List Qae) :
 ∃ (x:Int) (k:Nat),x ∈ xs∧k≤cnt+1∧Qcb tb Qmm [] [.bptr 0 A.length 0,.lst 1 (Qdd xs) false] ((A++R code c cnt::bs)::Ms)=some ⟨I x,[],(A++R code c k::bs)::Ms,[]⟩:=by
 obtain ⟨v,h,e⟩:=Jgy code c hc cnt hn xs false hl A bs Ms
 exact ⟨v,cnt+1,h,by omega,Qab e⟩
theorem Qnb (code:List Int) (c:Bool) (hc:Qe6 code) (cnt:Nat) (hn:cnt≤90000) (A bs:Qae) (Ms:List Qae) :
 ∃ (n:Nat) (es:List (Int×Int)) (k:Nat),n≤7∧es.Sublist (prs n)∧k≤cnt+101 ∧
   Ev tb Qyq [] [.bptr 0 A.length 0] ((A++R code c cnt::bs)::Ms) ⟨OG n es,[],(A++R code c k::bs)::Ms,[]⟩:=by
 obtain ⟨x,k1,hx,hk1,e1⟩:=Jyk code c hc cnt (by omega) [5,4,6,3,5,2,7,1,0] (by simp) A bs (Ms++[[[I 0,.lst 0 [] true]]])
 obtain ⟨n,rfl,hn7⟩:∃ n:Nat,x=(n:Int)∧n≤7:=by
  simp at hx
  exact ⟨x.toNat,by omega,by omega⟩
 obtain ⟨es,k,hs,hk,ea⟩:=Qia code c hc k1 (by omega) n hn7 A bs (Ms++[[[I 0,.lst 0 [] true]]])
 have e2:=Qab ea
 refine ⟨n,es,k,hn7,hs,by omega,?_⟩
 refine cW zt129 rfl ?_
 refine wr (by simp;with_reducible rfl) ?_
 refine wr (by simp [e1,e2];with_reducible rfl) ?_
 repeat (first|apply wA|apply wS|refine wr (by simp;with_reducible rfl) ?_|refine wq (by simp;with_reducible rfl) ?_|refine wt (by simpa) ?_|refine wf (by simpa) ?_|refine xt (by simpa) ?_|refine xf (by simpa) ?_|apply wB|apply Qaa|refine wX ?_|refine wY ?_|refine wR ?_|refine wK ?_|refine wE ?_)
 simp [Jbd]
end Go.Idl
namespace Go.Idl
open Go
def comp (d:List Int):List Int:=(List.range d.length).map fun k=>(d.length:Int) - 1 - d.getD k 0
theorem Qyz {code:List Int} (h:∀ x ∈ code,0≤x∧x≤255):Qe6 (code.take 2000):=⟨by simp;omega,fun x hx=>h x (List.mem_of_mem_take hx)⟩
end Go.Idl
namespace Go.Idl
abbrev tops (xs:List Int) (k:Nat):Int:=((fall xs).take k).sum
end Go.Idl
namespace Go.Idl
open Go
def ahead (x y:List Int) (i m:Nat):Bool:=(List.range m).all fun j=>decide ((y.take (i+j+1)).sum≤(x.take (i+j+1)).sum)
end Go.Idl
namespace Go.Idl
open Go
def Fit (es:List (Int×Int)):Prop:=∀ e ∈ es,-9223372036854775808≤e.1∧e.1 < 9223372036854775808∧-9223372036854775808≤e.2∧e.2 < 9223372036854775808
def Qao (a b:Int×Int):Bool:=decide (a.1 < b.1) || (decide (a.1=b.1) && decide (a.2 < b.2))
def Qnf (a b:Int×Int):Int:=if a.1=b.1 then a.2 - b.2 else a.1 - b.1
theorem Qb4 (a b:Int×Int):(decide (Qnf a b < 0))=Qao a b:=by
 unfold Qnf Qao
 rw [Bool.eq_iff_iff]
 simp only [decide_eq_true_eq,Bool.or_eq_true,Qba]
 split <;> omega
theorem Qe8 (a b:Int×Int) (ha:0≤a.1∧a.1 < 9223372036854775808∧0≤a.2∧a.2 < 9223372036854775808) (hb:0≤b.1∧b.1 < 9223372036854775808∧0≤b.2∧b.2 < 9223372036854775808) (M:List Qae) :
 Ev tb Jal [] [.agg [I a.1,I a.2],.agg [I b.1,I b.2]] M ⟨I (Qnf a b),[],M,[]⟩:=by
 have w1:IntKind.i64.wrap (a.1 - b.1)=a.1 - b.1:=Qaj (by omega) (by omega)
 have w2:IntKind.i64.wrap (a.2 - b.2)=a.2 - b.2:=Qaj (by omega) (by omega)
 by_cases h:a.1=b.1
 · refine cW zt32 rfl ?_
   repeat (first|apply wA|apply wS|refine wr (by simp [h,w2];with_reducible rfl) ?_|refine wq (by simp [h,w2];with_reducible rfl) ?_|refine wt (by simpa [h,w2]) ?_|refine wf (by simpa [h,w2]) ?_|refine xt (by simpa [h,w2]) ?_|refine xf (by simpa [h,w2]) ?_|apply wB|apply Qaa|refine wX ?_|refine wY ?_|refine wR ?_|refine wK ?_|refine wE ?_)
   simp [Js2,Qnf,h]
 · have h2:(a.1 != b.1)=true:=by simp [h]
   refine cW zt32 rfl ?_
   repeat (first|apply wA|apply wS|refine wr (by simp [h,h2,w1];with_reducible rfl) ?_|refine wq (by simp [h,h2,w1];with_reducible rfl) ?_|refine wt (by simpa [h,h2,w1]) ?_|refine wf (by simpa [h,h2,w1]) ?_|refine xt (by simpa [h,h2,w1]) ?_|refine xf (by simpa [h,h2,w1]) ?_|apply wB|apply Qaa|refine wX ?_|refine wY ?_|refine wR ?_|refine wK ?_|refine wE ?_)
   simp [Js2,Qnf,h]
theorem Qim (a b:Int×Int):Ev tb Qs2 [] [.agg [I a.1,I a.2],.agg [I b.1,I b.2]] [] ⟨Bo (Qao a b),[],[],[]⟩:=by
 by_cases h1:a.1 < b.1
 · refine cW Jiq rfl ?_
   repeat (first|apply wA|apply wS|refine wr (by simp [h1];with_reducible rfl) ?_|refine wq (by simp [h1];with_reducible rfl) ?_|refine wt (by simpa [h1]) ?_|refine wf (by simpa [h1]) ?_|refine xt (by simpa [h1]) ?_|refine xf (by simpa [h1]) ?_|apply wB|apply Qaa|refine wX ?_|refine wY ?_|refine wR ?_|refine wK ?_|refine wE ?_)
   simp [Qt1,Qao,h1]
 · by_cases h2:a.1=b.1
   · refine cW Jiq rfl ?_
     repeat (first|apply wA|apply wS|refine wr (by simp [h1,h2];with_reducible rfl) ?_|refine wq (by simp [h1,h2];with_reducible rfl) ?_|refine wt (by simpa [h1,h2]) ?_|refine wf (by simpa [h1,h2]) ?_|refine xt (by simpa [h1,h2]) ?_|refine xf (by simpa [h1,h2]) ?_|apply wB|apply Qaa|refine wX ?_|refine wY ?_|refine wR ?_|refine wK ?_|refine wE ?_)
     simp [Qt1,Qao,h1,h2]
   · refine cW Jiq rfl ?_
     repeat (first|apply wA|apply wS|refine wr (by simp [h1,h2];with_reducible rfl) ?_|refine wq (by simp [h1,h2];with_reducible rfl) ?_|refine wt (by simpa [h1,h2]) ?_|refine wf (by simpa [h1,h2]) ?_|refine xt (by simpa [h1,h2]) ?_|refine xf (by simpa [h1,h2]) ?_|apply wB|apply Qaa|refine wX ?_|refine wY ?_|refine wR ?_|refine wK ?_|refine wE ?_)
     simp [Qt1,Qao,h1,h2]
def okE (n:Int) (e:Int×Int):Bool:=decide (0≤e.1) && (decide (e.1 < e.2) && decide (e.2 < n))
def vEs (n:Int):Option (Int×Int)→List (Int×Int)→Bool
 | _,[]=>true
 | none,e::r=>okE n e && vEs n (some e) r
 | some q,e::r=>okE n e && (Qao q e && vEs n (some e) r)
def Qac (n:Int) (es:List (Int×Int)):Bool:=vEs n none es && (decide (0≤n) && decide (n≤7))
theorem Fit.at {es:List (Int×Int)} (h:Fit es) {i:Nat} (hi:i < es.length):-9223372036854775808≤es[i].1∧es[i].1 < 9223372036854775808∧-9223372036854775808≤es[i].2∧es[i].2 < 9223372036854775808:=h _ (List.getElem_mem hi)
theorem Jp1 (n:Int) (es:List (Int×Int)) (c:Bool) (hf:Fit es) (hl:es.length≤100000000):∀ (m i:Nat) (p:Option (Int×Int)) (bs:Qae),i+m=es.length →
 (i=0∧p=none ∨ ∃ j,∃ h:j < es.length,i=j+1∧p=some es[j]∧0≤es[j].1∧0≤es[j].2) →
 wp tb (.loop Jtp) { T:=[(1,.bptr 0 0 0),(6,L2 es c),(7,I es.length),(8,I i)],loc:=[I n,L2 es c]::bs,M:=[] }
  (fun ex st=>(vEs n p (es.drop i)=true∧ex=.exit 0∧∃ bs',st={ T:=[(1,.bptr 0 0 0),(6,L2 es c),(7,I es.length),(8,I es.length),(9,Bo false)],loc:=[I n,L2 es c]::bs',M:=[] }) ∨
    (vEs n p (es.drop i)=false∧ex=.ret∧∃ bs',st={ T:=[(2,Bo false)],loc:=[I n,L2 es c]::bs',M:=[] })):=by
 intro m
 induction m with
 | zero =>
   intro i p bs hi hp
   have h3:i=es.length:=hi
   subst h3
   refine wW ?_
   repeat (first|apply wA|apply wS|refine wr (by simp;with_reducible rfl) ?_|refine wq (by simp;with_reducible rfl) ?_|refine wt (by simpa) ?_|refine wf (by simpa) ?_|refine xt (by simpa) ?_|refine xf (by simpa) ?_|apply wB|apply Qaa|refine wX ?_|refine wY ?_|refine wR ?_|refine wK ?_|refine wE ?_)
   exact .inl ⟨by simp [vEs],rfl,bs,rfl⟩
 | succ m ih =>
   intro i p bs hi hp
   have hi2:i < es.length:=by omega
   have hd:es.drop i=es[i]::es.drop (i+1):=List.drop_eq_getElem_cons hi2
   have hfe:=hf.at hi2
   have w1:IntKind.i64.wrap ((i:Int)+1)=((i+1:Nat):Int):=Qbe (by omega)
   have bad:okE n es[i]=false→vEs n p (es.drop i)=false:=fun h=>by
    rw [hd];cases p <;> simp [vEs,h]
   by_cases h1:es[i].1 < 0
   · have hb:=bad (by simp [okE];omega)
     refine wW ?_
     repeat (first|apply wA|apply wS|refine wr (by simp [hi2,h1];with_reducible rfl) ?_|refine wq (by simp [hi2,h1];with_reducible rfl) ?_|refine wt (by simpa [hi2,h1]) ?_|refine wf (by simpa [hi2,h1]) ?_|refine xt (by simpa [hi2,h1]) ?_|refine xf (by simpa [hi2,h1]) ?_|apply wB|apply Qaa|refine wX ?_|refine wY ?_|refine wR ?_|refine wK ?_|refine wE ?_)
     exact .inr ⟨hb,rfl,_,rfl⟩
   by_cases h2:es[i].2≤es[i].1
   · have hb:=bad (by simp [okE];omega)
     refine wW ?_
     repeat (first|apply wA|apply wS|refine wr (by simp [hi2,h1,h2];with_reducible rfl) ?_|refine wq (by simp [hi2,h1,h2];with_reducible rfl) ?_|refine wt (by simpa [hi2,h1,h2]) ?_|refine wf (by simpa [hi2,h1,h2]) ?_|refine xt (by simpa [hi2,h1,h2]) ?_|refine xf (by simpa [hi2,h1,h2]) ?_|apply wB|apply Qaa|refine wX ?_|refine wY ?_|refine wR ?_|refine wK ?_|refine wE ?_)
     exact .inr ⟨hb,rfl,_,rfl⟩
   by_cases h3:n≤es[i].2
   · have hb:=bad (by simp [okE];omega)
     refine wW ?_
     repeat (first|apply wA|apply wS|refine wr (by simp [hi2,h1,h2,h3];with_reducible rfl) ?_|refine wq (by simp [hi2,h1,h2,h3];with_reducible rfl) ?_|refine wt (by simpa [hi2,h1,h2,h3]) ?_|refine wf (by simpa [hi2,h1,h2,h3]) ?_|refine xt (by simpa [hi2,h1,h2,h3]) ?_|refine xf (by simpa [hi2,h1,h2,h3]) ?_|apply wB|apply Qaa|refine wX ?_|refine wY ?_|refine wR ?_|refine wK ?_|refine wE ?_)
     exact .inr ⟨hb,rfl,_,rfl⟩
   have hok:okE n es[i]=true:=by simp [okE];omega
   rcases hp with ⟨rfl,rfl⟩ | ⟨j,hj,rfl,rfl,q1,q2⟩
   · have hn:=ih 1 (some es[0]) (bs++[[I es[0].1,I es[0].2]]) (by omega) (.inr ⟨0,hi2,rfl,rfl,by omega,by omega⟩)
     rw [hd]
     simp only [vEs,hok,Bool.true_and]
     refine wW ?_
     repeat (first|apply wA|apply wS|refine wr (by simp [hi2,h1,h2,h3,show IntKind.i64.wrap (1:Int)=1 from rfl];with_reducible rfl) ?_|refine wq (by simp [hi2,h1,h2,h3,show IntKind.i64.wrap (1:Int)=1 from rfl];with_reducible rfl) ?_|refine wt (by simpa [hi2,h1,h2,h3,show IntKind.i64.wrap (1:Int)=1 from rfl]) ?_|refine wf (by simpa [hi2,h1,h2,h3,show IntKind.i64.wrap (1:Int)=1 from rfl]) ?_|refine xt (by simpa [hi2,h1,h2,h3,show IntKind.i64.wrap (1:Int)=1 from rfl]) ?_|refine xf (by simpa [hi2,h1,h2,h3,show IntKind.i64.wrap (1:Int)=1 from rfl]) ?_|apply wB|apply Qaa|refine wX ?_|refine wY ?_|refine wR ?_|refine wK ?_|refine wE ?_)
     exact hn
   · have hfj:=hf.at hj
     have w2:IntKind.i64.wrap (j:Int)=(j:Int):=Jd0 (by omega)
     have hj0:(0:Int) < (j:Int)+1:=by omega
     have hj1:(j:Int)+1 < (es.length:Int):=by omega
     have w3:IntKind.i64.wrap ((j:Int)+1+1)=((j+1+1:Nat):Int):=by rw [Qaj (by omega) (by omega)];omega
     have e1:=Qab (Qe8 es[j] es[j+1] ⟨q1,hfj.2.1,q2,hfj.2.2.2⟩ ⟨by omega,by omega,by omega,by omega⟩ [])
     have hcb:=Qb4 es[j] es[j+1]
     rw [hd]
     simp only [vEs,hok,Bool.true_and,← hcb]
     by_cases h4:0≤Qnf es[j] es[j+1]
     · have h5:decide (Qnf es[j] es[j+1] < 0)=false:=decide_eq_false (by omega)
       rw [h5]
       refine wW ?_
       repeat (first|apply wA|apply wS|refine wr (by simp [hi2,hj,h1,h2,h3,w2,hj0,hj1,e1,h4];with_reducible rfl) ?_|refine wq (by simp [hi2,hj,h1,h2,h3,w2,hj0,hj1,e1,h4];with_reducible rfl) ?_|refine wt (by simpa [hi2,hj,h1,h2,h3,w2,hj0,hj1,e1,h4]) ?_|refine wf (by simpa [hi2,hj,h1,h2,h3,w2,hj0,hj1,e1,h4]) ?_|refine xt (by simpa [hi2,hj,h1,h2,h3,w2,hj0,hj1,e1,h4]) ?_|refine xf (by simpa [hi2,hj,h1,h2,h3,w2,hj0,hj1,e1,h4]) ?_|apply wB|apply Qaa|refine wX ?_|refine wY ?_|refine wR ?_|refine wK ?_|refine wE ?_)
       exact .inr ⟨rfl,rfl,_,rfl⟩
     · have h5:decide (Qnf es[j] es[j+1] < 0)=true:=decide_eq_true (by omega)
       rw [h5]
       have hn:=ih (j+1+1) (some es[j+1]) (bs++[[I es[j+1].1,I es[j+1].2]]) (by omega) (.inr ⟨j+1,hi2,rfl,rfl,by omega,by omega⟩)
       simp only [Bool.true_and]
       refine wW ?_
       repeat (first|apply wA|apply wS|refine wr (by simp [hi2,hj,h1,h2,h3,w3,w2,hj0,hj1,e1,h4];with_reducible rfl) ?_|refine wq (by simp [hi2,hj,h1,h2,h3,w3,w2,hj0,hj1,e1,h4];with_reducible rfl) ?_|refine wt (by simpa [hi2,hj,h1,h2,h3,w3,w2,hj0,hj1,e1,h4]) ?_|refine wf (by simpa [hi2,hj,h1,h2,h3,w3,w2,hj0,hj1,e1,h4]) ?_|refine xt (by simpa [hi2,hj,h1,h2,h3,w3,w2,hj0,hj1,e1,h4]) ?_|refine xf (by simpa [hi2,hj,h1,h2,h3,w3,w2,hj0,hj1,e1,h4]) ?_|apply wB|apply Qaa|refine wX ?_|refine wY ?_|refine wR ?_|refine wK ?_|refine wE ?_)
       exact hn
theorem Qbb (n:Int) (es:List (Int×Int)) (c:Bool) (hf:Fit es) (hl:es.length≤100000000):Ev tb Qy2 [] [Gr n es c] [] ⟨Bo (Qac n es),[],[],[]⟩:=by
 have e1:=Qab (ev_in n 0 7)
 have hlo:=Jp1 n es c hf hl es.length 0 none [] (by simp) (.inl ⟨rfl,rfl⟩)
 refine cW zt26 rfl ?_
 repeat (first|apply wA|apply wS|refine wr (by simp;with_reducible rfl) ?_|refine wq (by simp;with_reducible rfl) ?_|refine wt (by simpa) ?_|refine wf (by simpa) ?_|refine xt (by simpa) ?_|refine xf (by simpa) ?_|apply wB|apply Qaa|refine wX ?_|refine wY ?_|refine wR ?_|refine wK ?_|refine wE ?_)
 refine Qal hlo ?_
 rintro ex st (⟨hv,rfl,bs,rfl⟩ | ⟨hv,rfl,bs,rfl⟩)
 · try simp only [if_true]
   repeat (first|apply wA|apply wS|refine wr (by simp [e1];with_reducible rfl) ?_|refine wq (by simp [e1];with_reducible rfl) ?_|refine wt (by simpa [e1]) ?_|refine wf (by simpa [e1]) ?_|refine xt (by simpa [e1]) ?_|refine xf (by simpa [e1]) ?_|apply wB|apply Qaa|refine wX ?_|refine wY ?_|refine wR ?_|refine wK ?_|refine wE ?_)
   simp only [List.drop_zero] at hv
   simp [Jta,Qac,hv]
 · simp only [List.drop_zero] at hv
   simp [Jta,Qac,hv]
theorem Jg6 (n:Int) (es:List (Int×Int)) (c:Bool) (hl:es.length≤100000000):∀ (m i:Nat) (p:Option (Int×Int)) (bs:Qae),i+m=es.length →
 (i=0∧p=none ∨ ∃ j,∃ h:j < es.length,i=j+1∧p=some es[j]) →
 wp tb (.loop Jeb) { T:=[(1,.bptr 0 0 0),(3,I i)],loc:=[I n,L2 es c]::bs,M:=[] }
  (fun ex st=>(vEs n p (es.drop i)=true∧ex=.exit 0∧∃ bs',st={ T:=[(1,.bptr 0 0 0),(3,I es.length),(9,Bo false)],loc:=[I n,L2 es c]::bs',M:=[] }) ∨
    (vEs n p (es.drop i)=false∧ex=.ret∧∃ bs',st={ T:=[(2,Bo false)],loc:=[I n,L2 es c]::bs',M:=[] })):=by
 intro m
 induction m with
 | zero =>
   intro i p bs hi hp
   have h3:i=es.length:=hi
   subst h3
   refine wW ?_
   repeat (first|apply wA|apply wS|refine wr (by simp;with_reducible rfl) ?_|refine wq (by simp;with_reducible rfl) ?_|refine wt (by simpa) ?_|refine wf (by simpa) ?_|refine xt (by simpa) ?_|refine xf (by simpa) ?_|apply wB|apply Qaa|refine wX ?_|refine wY ?_|refine wR ?_|refine wK ?_|refine wE ?_)
   exact .inl ⟨by simp [vEs],rfl,bs,rfl⟩
 | succ m ih =>
   intro i p bs hi hp
   have hi2:i < es.length:=by omega
   have hd:es.drop i=es[i]::es.drop (i+1):=List.drop_eq_getElem_cons hi2
   have w1:IntKind.i64.wrap ((i:Int)+1)=((i+1:Nat):Int):=Qbe (by omega)
   have bad:okE n es[i]=false→vEs n p (es.drop i)=false:=fun h=>by
    rw [hd];cases p <;> simp [vEs,h]
   by_cases h1:es[i].1 < 0
   · have hb:=bad (by simp [okE];omega)
     refine wW ?_
     repeat (first|apply wA|apply wS|refine wr (by simp [hi2,h1];with_reducible rfl) ?_|refine wq (by simp [hi2,h1];with_reducible rfl) ?_|refine wt (by simpa [hi2,h1]) ?_|refine wf (by simpa [hi2,h1]) ?_|refine xt (by simpa [hi2,h1]) ?_|refine xf (by simpa [hi2,h1]) ?_|apply wB|apply Qaa|refine wX ?_|refine wY ?_|refine wR ?_|refine wK ?_|refine wE ?_)
     exact .inr ⟨hb,rfl,_,rfl⟩
   by_cases h2:es[i].2≤es[i].1
   · have hb:=bad (by simp [okE];omega)
     refine wW ?_
     repeat (first|apply wA|apply wS|refine wr (by simp [hi2,h1,h2];with_reducible rfl) ?_|refine wq (by simp [hi2,h1,h2];with_reducible rfl) ?_|refine wt (by simpa [hi2,h1,h2]) ?_|refine wf (by simpa [hi2,h1,h2]) ?_|refine xt (by simpa [hi2,h1,h2]) ?_|refine xf (by simpa [hi2,h1,h2]) ?_|apply wB|apply Qaa|refine wX ?_|refine wY ?_|refine wR ?_|refine wK ?_|refine wE ?_)
     exact .inr ⟨hb,rfl,_,rfl⟩
   by_cases h3:n≤es[i].2
   · have hb:=bad (by simp [okE];omega)
     refine wW ?_
     repeat (first|apply wA|apply wS|refine wr (by simp [hi2,h1,h2,h3];with_reducible rfl) ?_|refine wq (by simp [hi2,h1,h2,h3];with_reducible rfl) ?_|refine wt (by simpa [hi2,h1,h2,h3]) ?_|refine wf (by simpa [hi2,h1,h2,h3]) ?_|refine xt (by simpa [hi2,h1,h2,h3]) ?_|refine xf (by simpa [hi2,h1,h2,h3]) ?_|apply wB|apply Qaa|refine wX ?_|refine wY ?_|refine wR ?_|refine wK ?_|refine wE ?_)
     exact .inr ⟨hb,rfl,_,rfl⟩
   have hok:okE n es[i]=true:=by simp [okE];omega
   rcases hp with ⟨rfl,rfl⟩ | ⟨j,hj,rfl,rfl⟩
   · have hn:=ih 1 (some es[0]) (bs++[[I es[0].1,I es[0].2]]) (by omega) (.inr ⟨0,hi2,rfl,rfl⟩)
     rw [hd]
     simp only [vEs,hok,Bool.true_and]
     refine wW ?_
     repeat (first|apply wA|apply wS|refine wr (by simp [hi2,h1,h2,h3,show IntKind.i64.wrap (1:Int)=1 from rfl];with_reducible rfl) ?_|refine wq (by simp [hi2,h1,h2,h3,show IntKind.i64.wrap (1:Int)=1 from rfl];with_reducible rfl) ?_|refine wt (by simpa [hi2,h1,h2,h3,show IntKind.i64.wrap (1:Int)=1 from rfl]) ?_|refine wf (by simpa [hi2,h1,h2,h3,show IntKind.i64.wrap (1:Int)=1 from rfl]) ?_|refine xt (by simpa [hi2,h1,h2,h3,show IntKind.i64.wrap (1:Int)=1 from rfl]) ?_|refine xf (by simpa [hi2,h1,h2,h3,show IntKind.i64.wrap (1:Int)=1 from rfl]) ?_|apply wB|apply Qaa|refine wX ?_|refine wY ?_|refine wR ?_|refine wK ?_|refine wE ?_)
     exact hn
   · have w2:IntKind.i64.wrap (j:Int)=(j:Int):=Jd0 (by omega)
     have hj0:(0:Int) < (j:Int)+1:=by omega
     have hj1:(j:Int)+1 < (es.length:Int):=by omega
     have w3:IntKind.i64.wrap ((j:Int)+1+1)=((j+1+1:Nat):Int):=by rw [Qaj (by omega) (by omega)];omega
     have e1:=Qab (Qim es[j] es[j+1])
     rw [hd]
     simp only [vEs,hok,Bool.true_and]
     cases h4:Qao es[j] es[j+1] with
     | false =>
       refine wW ?_
       repeat (first|apply wA|apply wS|refine wr (by simp [hi2,hj,h1,h2,h3,w2,hj0,hj1,e1,h4];with_reducible rfl) ?_|refine wq (by simp [hi2,hj,h1,h2,h3,w2,hj0,hj1,e1,h4];with_reducible rfl) ?_|refine wt (by simpa [hi2,hj,h1,h2,h3,w2,hj0,hj1,e1,h4]) ?_|refine wf (by simpa [hi2,hj,h1,h2,h3,w2,hj0,hj1,e1,h4]) ?_|refine xt (by simpa [hi2,hj,h1,h2,h3,w2,hj0,hj1,e1,h4]) ?_|refine xf (by simpa [hi2,hj,h1,h2,h3,w2,hj0,hj1,e1,h4]) ?_|apply wB|apply Qaa|refine wX ?_|refine wY ?_|refine wR ?_|refine wK ?_|refine wE ?_)
       exact .inr ⟨rfl,rfl,_,rfl⟩
     | true =>
       have hn:=ih (j+1+1) (some es[j+1]) (bs++[[I es[j+1].1,I es[j+1].2]]) (by omega) (.inr ⟨j+1,hi2,rfl,rfl⟩)
       simp only [Bool.true_and]
       refine wW ?_
       repeat (first|apply wA|apply wS|refine wr (by simp [hi2,hj,h1,h2,h3,w3,w2,hj0,hj1,e1,h4];with_reducible rfl) ?_|refine wq (by simp [hi2,hj,h1,h2,h3,w3,w2,hj0,hj1,e1,h4];with_reducible rfl) ?_|refine wt (by simpa [hi2,hj,h1,h2,h3,w3,w2,hj0,hj1,e1,h4]) ?_|refine wf (by simpa [hi2,hj,h1,h2,h3,w3,w2,hj0,hj1,e1,h4]) ?_|refine xt (by simpa [hi2,hj,h1,h2,h3,w3,w2,hj0,hj1,e1,h4]) ?_|refine xf (by simpa [hi2,hj,h1,h2,h3,w3,w2,hj0,hj1,e1,h4]) ?_|apply wB|apply Qaa|refine wX ?_|refine wY ?_|refine wR ?_|refine wK ?_|refine wE ?_)
       exact hn
theorem Qcr (n:Int) (es:List (Int×Int)) (c:Bool) (hl:es.length≤100000000):Ev tb Qpl [] [Gr n es c] [] ⟨Bo (Qac n es),[],[],[]⟩:=by
 have e1:=Qab (Qtw n 0 7)
 have hlo:=Jg6 n es c hl es.length 0 none [] (by simp) (.inl ⟨rfl,rfl⟩)
 refine cW zt145 rfl ?_
 repeat (first|apply wA|apply wS|refine wr (by simp;with_reducible rfl) ?_|refine wq (by simp;with_reducible rfl) ?_|refine wt (by simpa) ?_|refine wf (by simpa) ?_|refine xt (by simpa) ?_|refine xf (by simpa) ?_|apply wB|apply Qaa|refine wX ?_|refine wY ?_|refine wR ?_|refine wK ?_|refine wE ?_)
 refine Qal hlo ?_
 rintro ex st (⟨hv,rfl,bs,rfl⟩ | ⟨hv,rfl,bs,rfl⟩)
 · try simp only [if_true]
   repeat (first|apply wA|apply wS|refine wr (by simp [e1];with_reducible rfl) ?_|refine wq (by simp [e1];with_reducible rfl) ?_|refine wt (by simpa [e1]) ?_|refine wf (by simpa [e1]) ?_|refine xt (by simpa [e1]) ?_|refine xf (by simpa [e1]) ?_|apply wB|apply Qaa|refine wX ?_|refine wY ?_|refine wR ?_|refine wK ?_|refine wE ?_)
   simp only [List.drop_zero] at hv
   simp [Qym,Qac,hv]
 · simp only [List.drop_zero] at hv
   simp [Qym,Qac,hv]
end Go.Idl
namespace Go.Idl
structure Seg {α:Type} (X X':List α) (a b:Nat):Prop where
 perm:X'.Perm X
 out:∀ k,k < a ∨ b≤k→X'[k]? = X[k]?
theorem Seg.len {α:Type} {X X':List α} {a b:Nat} (h:Seg X X' a b):X'.length=X.length:=h.perm.length_eq
theorem Seg.refl {α:Type} (X:List α) (a b:Nat):Seg X X a b:=⟨.refl _,fun _ _=>rfl⟩
theorem Seg.trans {α:Type} {X Y Z:List α} {a b:Nat} (h:Seg X Y a b) (k:Seg Y Z a b):Seg X Z a b:=⟨k.perm.trans h.perm,fun i hi=>(k.out i hi).trans (h.out i hi)⟩
theorem Seg.mono {α:Type} {X Y:List α} {a b a' b':Nat} (h:Seg X Y a b) (h1:a'≤a) (h2:b≤b'):Seg X Y a' b':=⟨h.perm,fun i hi=>h.out i (by omega)⟩
theorem Seg.nodup {α:Type} {X Y:List α} {a b:Nat} (h:Seg X Y a b) (hn:X.Nodup):Y.Nodup:=h.perm.nodup_iff.2 hn
def Qej {α:Type} (X:List α) (i j:Nat) (hi:i < X.length) (hj:j < X.length):List α:=(X.set i X[j]).set j X[i]
theorem Qnr {α:Type} (X:List α) (i j:Nat) (hi hj):(Qej X i j hi hj).length=X.length:=by simp [Qej]
theorem Qc9 {α:Type} (X:List α) (i j:Nat) (hi:i < X.length) (hj:j < X.length) (k:Nat):(Qej X i j hi hj)[k]? = if k=j then some X[i] else if k=i then some X[j] else X[k]?:=by
 rw [Qej,List.getElem?_set,List.getElem?_set]
 by_cases h1:k=j
 · subst h1;simp [hj]
 · by_cases h2:k=i
   · subst h2;simp [hi,h1,Ne.symm h1]
   · simp [h1,h2,Ne.symm h1,Ne.symm h2]
theorem Qs4 {α:Type} (X:List α) (i j:Nat) (hi:i < X.length) (hj:j < X.length):(Qej X i j hi hj).Perm X:=by
 exact List.set_set_perm hi hj
theorem Qfe {α:Type} (X:List α) (i j a b:Nat) (hi:i < X.length) (hj:j < X.length) (h1:a≤i∧i < b) (h2:a≤j∧j < b):Seg X (Qej X i j hi hj) a b :=
 ⟨Qs4 X i j hi hj,fun k hk=>by rw [Qc9,if_neg (by omega),if_neg (by omega)]⟩
theorem Seg.back {α:Type} {X Y:List α} {a b:Nat} (h:Seg X Y a b) (hn:X.Nodup) {k:Nat} (hk:a≤k∧k < b) {e:α} (he:Y[k]? = some e):∃ l,(a≤l∧l < b)∧X[l]? = some e:=by
 have hm:e ∈ X:=h.perm.mem_iff.1 (List.mem_of_getElem? he)
 obtain ⟨l,hl,rfl⟩:=List.getElem_of_mem hm
 by_cases hlb:a≤l∧l < b
 · exact ⟨l,hlb,List.getElem?_eq_getElem hl⟩
 · have h1:=h.out l (by omega)
   rw [List.getElem?_eq_getElem hl] at h1
   have hny:=h.nodup hn
   have hkl:k < Y.length:=(List.getElem?_eq_some_iff.1 he).1
   have hll:l < Y.length:=by rw [h.len];exact hl
   have h2:=(List.getElem?_eq_some_iff.1 he).2
   have h3:=(List.getElem?_eq_some_iff.1 h1).2
   have h4:k=l:=(List.getElem_inj hny).1 (h2.trans h3.symm)
   omega
end Go.Idl
namespace Go.Idl
open Go
def DE (x:Int×Int):Prop:=0≤x.1∧x.1 < 9223372036854775808∧0≤x.2∧x.2 < 9223372036854775808
abbrev fcE:IV:=.fn Jal []
theorem Qff {a b:Int×Int} (ha:DE a) (hb:DE b) (M:List Qae):Ev tb Jal [] [.agg [I a.1,I a.2],.agg [I b.1,I b.2]] M ⟨I (Qnf a b),[],M,[]⟩:=Qe8 a b ha hb M
theorem Qy6 (X:List (Int×Int)) (hX:∀ x ∈ X,DE x) (i j s:Nat) (hi:i < X.length) (hj:j < X.length) (hs:s≤1000) (Ms Es:List Qae) :
 Ev tb Qnz [0] [O2 X,I i,I j,.bptr Ms.length 0 0,fcE] (Ms++[[I s]]::Es)
  ⟨.tup (if Qao X[j] X[i] then [I j,I i] else [I i,I j]),[O2 X],Ms++[[I (if Qao X[j] X[i] then s+1 else s:Nat)]]::Es,[]⟩:=by
 have hb:=Qb4 X[j] X[i]
 have e1:=fun M=>Qab (Qff (hX _ (List.getElem_mem hj)) (hX _ (List.getElem_mem hi)) M)
 have w1:IntKind.i64.wrap ((s:Int)+1)=(s:Int)+1:=Qaj (by omega) (by omega)
 have hln:Ms.length+(Es.length+1+1)=Ms.length+(Es.length+1)+1:=by omega
 rw [← hb]
 by_cases hc:Qnf X[j] X[i] < 0
 · refine cW Juu rfl ?_
   repeat (first|apply wA|apply wS|refine wr (by simp [hi,hj,e1,hc,w1,hln];with_reducible rfl) ?_|refine wq (by simp [hi,hj,e1,hc,w1,hln];with_reducible rfl) ?_|refine wt (by simpa [hi,hj,e1,hc,w1,hln]) ?_|refine wf (by simpa [hi,hj,e1,hc,w1,hln]) ?_|refine xt (by simpa [hi,hj,e1,hc,w1,hln]) ?_|refine xf (by simpa [hi,hj,e1,hc,w1,hln]) ?_|apply wB|apply Qaa|refine wX ?_|refine wY ?_|refine wR ?_|refine wK ?_|refine wE ?_)
   simp [Qyn,hc]
 · refine cW Juu rfl ?_
   repeat (first|apply wA|apply wS|refine wr (by simp [hi,hj,e1,hc,w1,hln];with_reducible rfl) ?_|refine wq (by simp [hi,hj,e1,hc,w1,hln];with_reducible rfl) ?_|refine wt (by simpa [hi,hj,e1,hc,w1,hln]) ?_|refine wf (by simpa [hi,hj,e1,hc,w1,hln]) ?_|refine xt (by simpa [hi,hj,e1,hc,w1,hln]) ?_|refine xf (by simpa [hi,hj,e1,hc,w1,hln]) ?_|apply wB|apply Qaa|refine wX ?_|refine wY ?_|refine wR ?_|refine wK ?_|refine wE ?_)
   simp [Qyn,hc]
theorem Qb2 {a b:Int×Int} (h:a ≠ b):Qao a b=true ∨ Qao b a=true:=by
 simp only [Qao,Bool.or_eq_true,Qba,decide_eq_true_eq]
 have:¬ (a.1=b.1∧a.2=b.2):=fun h2=>h (Prod.ext h2.1 h2.2)
 omega
theorem Qen {a b:Int×Int} (h:Qao a b=true):Qao b a=false:=by
 rw [← Bool.not_eq_true]
 simp only [Qao,Bool.or_eq_true,Qba,decide_eq_true_eq] at *
 omega
theorem Qqi (X:List (Int×Int)) (hX:∀ x ∈ X,DE x) (hn:X.Nodup) (i j s:Nat) (hi:i < X.length) (hj:j < X.length) (hij:i ≠ j) (hs:s≤1000) (Ms Es:List Qae) :
 ∃ a b s':Nat,((a=i∧b=j) ∨ (a=j∧b=i))∧s'≤s+1∧(∀ ha hb,Qao (X[a]'ha) (X[b]'hb)=true) ∧
   Qcb tb Qnz [0] [O2 X,I i,I j,.bptr Ms.length 0 0,fcE] (Ms++[[I s]]::Es)=some ⟨.tup [I a,I b],[O2 X],Ms++[[I s']]::Es,[]⟩:=by
 have e:=Qab (Qy6 X hX i j s hi hj hs Ms Es)
 have hne:X[i] ≠ X[j]:=fun h=>hij ((List.getElem_inj hn).1 h)
 cases hb:Qao X[j] X[i] with
 | true =>
   rw [hb] at e
   exact ⟨j,i,s+1,.inr ⟨rfl,rfl⟩,by omega,fun _ _=>hb,e⟩
 | false =>
   rw [hb] at e
   refine ⟨i,j,s,.inl ⟨rfl,rfl⟩,by omega,fun _ _=>?_,e⟩
   rcases Qb2 hne with h | h
   · exact h
   · rw [hb] at h;cases h
theorem Qzi (X:List (Int×Int)) (hX:∀ x ∈ X,DE x) (hn:X.Nodup) (i j k s:Nat) (hi:i < X.length) (hj:j < X.length) (hk:k < X.length) (hij:i ≠ j) (hik:i ≠ k) (hjk:j ≠ k) (hs:s≤900) (Ms Es:List Qae) :
 ∃ m s':Nat,s'≤s+3∧(m=i ∨ m=j ∨ m=k)∧(∃ p,(p=i ∨ p=j ∨ p=k)∧∀ h1 h2,Qao (X[p]'h1) (X[m]'h2)=true)∧(∃ p,(p=i ∨ p=j ∨ p=k)∧∀ h1 h2,Qao (X[m]'h1) (X[p]'h2)=true) ∧
   Ev tb Jaf [0] [O2 X,I i,I j,I k,.bptr Ms.length 0 0,fcE] (Ms++[[I s]]::Es) ⟨I m,[O2 X],Ms++[[I s']]::Es,[]⟩:=by
 obtain ⟨a1,b1,s1,h1,k1,o1,e1⟩:=Qqi X hX hn i j s hi hj hij (by omega) Ms (Es++[[]])
 have ha1:a1 < X.length:=by omega
 have hb1:b1 < X.length:=by omega
 obtain ⟨b2,c2,s2,h2,k2,o2,e2⟩:=Qqi X hX hn b1 k s1 hb1 hk (by omega) (by omega) Ms (Es++[[]])
 have hb2:b2 < X.length:=by omega
 have hc2:c2 < X.length:=by omega
 obtain ⟨a3,b3,s3,h3,k3,o3,e3⟩:=Qqi X hX hn a1 b2 s2 ha1 hb2 (by omega) (by omega) Ms (Es++[[]])
 have ha3:a3 < X.length:=by omega
 have hb3:b3 < X.length:=by omega
 refine ⟨b3,s3,by omega,by omega,⟨a3,by omega,fun _ _=>o3 ha3 hb3⟩,?_,?_⟩
 · rcases h3 with ⟨_,rfl⟩ | ⟨_,rfl⟩
   · exact ⟨c2,by omega,fun _ _=>o2 hb2 hc2⟩
   · exact ⟨b1,by omega,fun _ _=>o1 ha1 hb1⟩
 · have hln:Ms.length+(Es.length+1+1)=Ms.length+(Es.length+1)+1:=by omega
   refine cW Jyz rfl ?_
   repeat (first|apply wA|apply wS|refine wr (by simp [e1,e2,e3,hln];with_reducible rfl) ?_|refine wq (by simp [e1,e2,e3,hln];with_reducible rfl) ?_|refine wt (by simpa [e1,e2,e3,hln]) ?_|refine wf (by simpa [e1,e2,e3,hln]) ?_|refine xt (by simpa [e1,e2,e3,hln]) ?_|refine xf (by simpa [e1,e2,e3,hln]) ?_|apply wB|apply Qaa|refine wX ?_|refine wY ?_|refine wR ?_|refine wK ?_|refine wE ?_)
   simp [Jc4]
set_option maxHeartbeats 2000000 in
theorem Qk0 (X:List (Int×Int)) (hX:∀ x ∈ X,DE x) (hn:X.Nodup) (hl:X.length≤2000000) (a n:Nat) (hab:a+n≤X.length) (h13:13≤n) (h49:n≤49) (M:List Qae) :
 ∃ (m:Nat) (hint:Int),(a≤m∧m < a+n)∧(hint=0 ∨ hint=1)∧(∃ p,(a≤p∧p < a+n)∧∀ h1 h2,Qao (X[p]'h1) (X[m]'h2)=true)∧(∃ p,(a≤p∧p < a+n)∧∀ h1 h2,Qao (X[m]'h1) (X[p]'h2)=true) ∧
   Ev tb Qyc [0] [O2 X,I a,I ((a:Int)+n),fcE] M ⟨.tup [I m,I hint],[O2 X],M,[]⟩:=by
 obtain ⟨q,hq⟩:∃ q,q=n / 4:=⟨_,rfl⟩
 have hq1:3≤q∧q * 3 < n:=by omega
 obtain ⟨m,s',h1,h2,⟨p1,h3,h4⟩,⟨p2,h5,h6⟩,e⟩:=Qzi X hX hn (a+q) (a+q * 2) (a+q * 3) 0 (by omega) (by omega) (by omega) (by omega) (by omega) (by omega) (by omega) M []
 have e1:=Qab e
 have t1:(n:Int).tdiv 4=(q:Int):=by rw [Int.tdiv_eq_ediv_of_nonneg (by omega)];omega
 have w0:IntKind.i64.wrap (n:Int)=(n:Int):=Qaj (by omega) (by omega)
 have w00:(a:Int)+n - a=n:=by omega
 have w1:IntKind.i64.wrap (q:Int)=(q:Int):=Qaj (by omega) (by omega)
 have w2:IntKind.i64.wrap ((q:Int) * 2)=(q:Int) * 2:=Qaj (by omega) (by omega)
 have w3:IntKind.i64.wrap ((q:Int) * 3)=(q:Int) * 3:=Qaj (by omega) (by omega)
 have w4:IntKind.i64.wrap ((a:Int)+q)=(a:Int)+q:=Qaj (by omega) (by omega)
 have w5:IntKind.i64.wrap ((a:Int)+q * 2)=(a:Int)+q * 2:=Qaj (by omega) (by omega)
 have w6:IntKind.i64.wrap ((a:Int)+q * 3)=(a:Int)+q * 3:=Qaj (by omega) (by omega)
 have g1:(8:Int)≤n:=by omega
 have g1':8≤n:=by omega
 have g2:¬ (50:Int)≤n:=by omega
 have g2':¬ 50≤n:=by omega
 rw [show ((a+q:Nat):Int)=(a:Int)+q by omega,show ((a+q * 2:Nat):Int)=(a:Int)+q * 2 by omega,show ((a+q * 3:Nat):Int)=(a:Int)+q * 3 by omega,show ((0:Nat):Int)=0 from rfl] at e1
 by_cases hs0:s'=0
 · subst hs0
   refine ⟨m,1,by omega,.inr rfl,⟨p1,by omega,h4⟩,⟨p2,by omega,h6⟩,?_⟩
   refine cW Jpp rfl ?_
   repeat (first|apply wA|apply wS|refine wr (by simp [e1,t1,w00,w0,w1,w2,w3,w4,w5,w6,g1,g2,g1',g2'];with_reducible rfl) ?_|refine wq (by simp [e1,t1,w00,w0,w1,w2,w3,w4,w5,w6,g1,g2,g1',g2'];with_reducible rfl) ?_|refine wt (by simpa [e1,t1,w00,w0,w1,w2,w3,w4,w5,w6,g1,g2,g1',g2']) ?_|refine wf (by simpa [e1,t1,w00,w0,w1,w2,w3,w4,w5,w6,g1,g2,g1',g2']) ?_|refine xt (by simpa [e1,t1,w00,w0,w1,w2,w3,w4,w5,w6,g1,g2,g1',g2']) ?_|refine xf (by simpa [e1,t1,w00,w0,w1,w2,w3,w4,w5,w6,g1,g2,g1',g2']) ?_|apply wB|apply Qaa|refine wX ?_|refine wY ?_|refine wR ?_|refine wK ?_|refine wE ?_)
   simp [Qus]
 · have hs1:¬ (s':Int)=0:=by omega
   have hs2:¬ (s':Int)=12:=by omega
   have hs3:¬ s'=12:=by omega
   refine ⟨m,0,by omega,.inl rfl,⟨p1,by omega,h4⟩,⟨p2,by omega,h6⟩,?_⟩
   refine cW Jpp rfl ?_
   repeat (first|apply wA|apply wS|refine wr (by simp [e1,t1,w00,w0,w1,w2,w3,w4,w5,w6,g1,g2,g1',g2',hs0,hs1,hs2,hs3];with_reducible rfl) ?_|refine wq (by simp [e1,t1,w00,w0,w1,w2,w3,w4,w5,w6,g1,g2,g1',g2',hs0,hs1,hs2,hs3];with_reducible rfl) ?_|refine wt (by simpa [e1,t1,w00,w0,w1,w2,w3,w4,w5,w6,g1,g2,g1',g2',hs0,hs1,hs2,hs3]) ?_|refine wf (by simpa [e1,t1,w00,w0,w1,w2,w3,w4,w5,w6,g1,g2,g1',g2',hs0,hs1,hs2,hs3]) ?_|refine xt (by simpa [e1,t1,w00,w0,w1,w2,w3,w4,w5,w6,g1,g2,g1',g2',hs0,hs1,hs2,hs3]) ?_|refine xf (by simpa [e1,t1,w00,w0,w1,w2,w3,w4,w5,w6,g1,g2,g1',g2',hs0,hs1,hs2,hs3]) ?_|apply wB|apply Qaa|refine wX ?_|refine wY ?_|refine wR ?_|refine wK ?_|refine wE ?_)
   simp [Qus]
end Go.Idl
namespace Go.Idl
open Go
def Qhj (X:List (Int×Int)) (lo hi:Nat) (x:Int×Int):Prop:=∀ k e,lo≤k→k < hi→X[k]? = some e→Qao e x=true
def Qet (X:List (Int×Int)) (lo hi:Nat) (x:Int×Int):Prop:=∀ k e,lo≤k→k < hi→X[k]? = some e→Qao e x=false
theorem Qet.cons {X:List (Int×Int)} {lo hi:Nat} {x:Int×Int} (h:Qet X (lo+1) hi x) (hl:lo < X.length) (hb:Qao X[lo] x=false):Qet X lo hi x:=fun k e h1 h2 he=>by
 by_cases hk:k=lo
 · subst hk
   rw [List.getElem?_eq_getElem hl] at he
   cases he;exact hb
 · exact h k e (by omega) h2 he
theorem Jhb (X:List (Int×Int)) (hX:∀ x ∈ X,DE x) (hl:X.length≤2000000) (a j:Nat) (ha:a < X.length) (hj:j < X.length) (M:List Qae):∀ (m i:Nat),i+m=j+1 →
 wp tb (.loop Je4) { T:=[(0,O2 X),(1,I a),(4,fcE),(12,I i),(13,I j)],loc:=[],M:=M }
  (fun ex st=>ex=.exit 0∧∃ i':Nat,(i≤i'∧i'≤j+1∧Qhj X i i' X[a]∧(∀ h:i'≤j,Qao (X[i']'(by omega)) X[a]=false)) ∧
    st={ T:=[(0,O2 X),(1,I a),(4,fcE),(12,I i'),(13,I j),(47,Bo false)],loc:=[],M:=M }):=by
 intro m
 induction m with
 | zero =>
   intro i hi
   have h1:¬ i≤j:=by omega
   have h2:¬ (i:Int)≤j:=by omega
   refine wW ?_
   repeat (first|apply wA|apply wS|refine wr (by simp [h1,h2];with_reducible rfl) ?_|refine wq (by simp [h1,h2];with_reducible rfl) ?_|refine wt (by simpa [h1,h2]) ?_|refine wf (by simpa [h1,h2]) ?_|refine xt (by simpa [h1,h2]) ?_|refine xf (by simpa [h1,h2]) ?_|apply wB|apply Qaa|refine wX ?_|refine wY ?_|refine wR ?_|refine wK ?_|refine wE ?_)
   exact ⟨rfl,i,⟨Nat.le_refl _,by omega,fun k e k1 k2 _=>by omega,fun h=>absurd h h1⟩,rfl⟩
 | succ m ih =>
   intro i hi
   have h1:i≤j:=by omega
   have h2:(i:Int)≤j:=by omega
   have hi2:i < X.length:=by omega
   have w1:IntKind.i64.wrap ((i:Int)+1)=((i+1:Nat):Int):=Qbe (by omega)
   have hb:=Qb4 X[i] X[a]
   have e1:=fun M=>Qab (Qff (hX _ (List.getElem_mem hi2)) (hX _ (List.getElem_mem ha)) M)
   by_cases hc:Qnf X[i] X[a] < 0
   · have hbt:Qao X[i] X[a]=true:=by rw [← hb];exact decide_eq_true hc
     refine wW ?_
     repeat (first|apply wA|apply wS|refine wr (by simp [h1,h2,hi2,ha,e1,hc,w1];with_reducible rfl) ?_|refine wq (by simp [h1,h2,hi2,ha,e1,hc,w1];with_reducible rfl) ?_|refine wt (by simpa [h1,h2,hi2,ha,e1,hc,w1]) ?_|refine wf (by simpa [h1,h2,hi2,ha,e1,hc,w1]) ?_|refine xt (by simpa [h1,h2,hi2,ha,e1,hc,w1]) ?_|refine xf (by simpa [h1,h2,hi2,ha,e1,hc,w1]) ?_|apply wB|apply Qaa|refine wX ?_|refine wY ?_|refine wR ?_|refine wK ?_|refine wE ?_)
     refine Qal (ih (i+1) (by omega)) ?_
     rintro ex st ⟨rfl,i',⟨k1,k2,k3,k4⟩,rfl⟩
     refine ⟨rfl,i',⟨by omega,k2,fun k e q1 q2 q3=>?_,k4⟩,rfl⟩
     by_cases hk:k=i
     · subst hk
       rw [List.getElem?_eq_getElem hi2] at q3
       cases q3;exact hbt
     · exact k3 k e (by omega) q2 q3
   · have hbt:Qao X[i] X[a]=false:=by rw [← hb];exact decide_eq_false hc
     refine wW ?_
     repeat (first|apply wA|apply wS|refine wr (by simp [h1,h2,hi2,ha,e1,hc,w1];with_reducible rfl) ?_|refine wq (by simp [h1,h2,hi2,ha,e1,hc,w1];with_reducible rfl) ?_|refine wt (by simpa [h1,h2,hi2,ha,e1,hc,w1]) ?_|refine wf (by simpa [h1,h2,hi2,ha,e1,hc,w1]) ?_|refine xt (by simpa [h1,h2,hi2,ha,e1,hc,w1]) ?_|refine xf (by simpa [h1,h2,hi2,ha,e1,hc,w1]) ?_|apply wB|apply Qaa|refine wX ?_|refine wY ?_|refine wR ?_|refine wK ?_|refine wE ?_)
     exact ⟨rfl,i,⟨Nat.le_refl _,by omega,fun k e k1 k2 _=>by omega,fun _=>hbt⟩,rfl⟩
theorem Qw1 (X:List (Int×Int)) (hX:∀ x ∈ X,DE x) (hl:X.length≤2000000) (a j:Nat) (ha:a < X.length) (hj:j < X.length) (M:List Qae):∀ (m i:Nat),i+m=j+1 →
 wp tb (.loop Qvu) { T:=[(0,O2 X),(1,I a),(4,fcE),(12,I i),(13,I j)],loc:=[],M:=M }
  (fun ex st=>ex=.exit 6∧∃ i':Nat,(i≤i'∧i'≤j+1∧Qhj X i i' X[a]∧(∀ h:i'≤j,Qao (X[i']'(by omega)) X[a]=false)) ∧
    st={ T:=[(0,O2 X),(1,I a),(4,fcE),(12,I i'),(13,I j),(120,Bo false)],loc:=[],M:=M }):=by
 intro m
 induction m with
 | zero =>
   intro i hi
   have h1:¬ i≤j:=by omega
   have h2:¬ (i:Int)≤j:=by omega
   refine wW ?_
   repeat (first|apply wA|apply wS|refine wr (by simp [h1,h2];with_reducible rfl) ?_|refine wq (by simp [h1,h2];with_reducible rfl) ?_|refine wt (by simpa [h1,h2]) ?_|refine wf (by simpa [h1,h2]) ?_|refine xt (by simpa [h1,h2]) ?_|refine xf (by simpa [h1,h2]) ?_|apply wB|apply Qaa|refine wX ?_|refine wY ?_|refine wR ?_|refine wK ?_|refine wE ?_)
   exact ⟨rfl,i,⟨Nat.le_refl _,by omega,fun k e k1 k2 _=>by omega,fun h=>absurd h h1⟩,rfl⟩
 | succ m ih =>
   intro i hi
   have h1:i≤j:=by omega
   have h2:(i:Int)≤j:=by omega
   have hi2:i < X.length:=by omega
   have w1:IntKind.i64.wrap ((i:Int)+1)=((i+1:Nat):Int):=Qbe (by omega)
   have hb:=Qb4 X[i] X[a]
   have e1:=fun M=>Qab (Qff (hX _ (List.getElem_mem hi2)) (hX _ (List.getElem_mem ha)) M)
   by_cases hc:Qnf X[i] X[a] < 0
   · have hbt:Qao X[i] X[a]=true:=by rw [← hb];exact decide_eq_true hc
     refine wW ?_
     repeat (first|apply wA|apply wS|refine wr (by simp [h1,h2,hi2,ha,e1,hc,w1];with_reducible rfl) ?_|refine wq (by simp [h1,h2,hi2,ha,e1,hc,w1];with_reducible rfl) ?_|refine wt (by simpa [h1,h2,hi2,ha,e1,hc,w1]) ?_|refine wf (by simpa [h1,h2,hi2,ha,e1,hc,w1]) ?_|refine xt (by simpa [h1,h2,hi2,ha,e1,hc,w1]) ?_|refine xf (by simpa [h1,h2,hi2,ha,e1,hc,w1]) ?_|apply wB|apply Qaa|refine wX ?_|refine wY ?_|refine wR ?_|refine wK ?_|refine wE ?_)
     refine Qal (ih (i+1) (by omega)) ?_
     rintro ex st ⟨rfl,i',⟨k1,k2,k3,k4⟩,rfl⟩
     refine ⟨rfl,i',⟨by omega,k2,fun k e q1 q2 q3=>?_,k4⟩,rfl⟩
     by_cases hk:k=i
     · subst hk
       rw [List.getElem?_eq_getElem hi2] at q3
       cases q3;exact hbt
     · exact k3 k e (by omega) q2 q3
   · have hbt:Qao X[i] X[a]=false:=by rw [← hb];exact decide_eq_false hc
     refine wW ?_
     repeat (first|apply wA|apply wS|refine wr (by simp [h1,h2,hi2,ha,e1,hc,w1];with_reducible rfl) ?_|refine wq (by simp [h1,h2,hi2,ha,e1,hc,w1];with_reducible rfl) ?_|refine wt (by simpa [h1,h2,hi2,ha,e1,hc,w1]) ?_|refine wf (by simpa [h1,h2,hi2,ha,e1,hc,w1]) ?_|refine xt (by simpa [h1,h2,hi2,ha,e1,hc,w1]) ?_|refine xf (by simpa [h1,h2,hi2,ha,e1,hc,w1]) ?_|apply wB|apply Qaa|refine wX ?_|refine wY ?_|refine wR ?_|refine wK ?_|refine wE ?_)
     exact ⟨rfl,i,⟨Nat.le_refl _,by omega,fun k e k1 k2 _=>by omega,fun _=>hbt⟩,rfl⟩
theorem Jfa (X:List (Int×Int)) (hX:∀ x ∈ X,DE x) (hl:X.length≤2000000) (a i:Nat) (ha:a < X.length) (h0:0 < i) (M:List Qae):∀ (m j:Nat) (f:Bool),i+m=j+1→j < X.length →
 wp tb (.loop Jec) { T:=[(0,O2 X),(1,I a),(4,fcE),(12,I i),(13,I j)]++(if f then [(47,Bo false)] else []),loc:=[],M:=M }
  (fun ex st=>ex=.exit 2∧∃ j':Nat,(j'≤j∧i≤j'+1∧Qet X (j'+1) (j+1) X[a]∧(i≤j'→∃ h:j' < X.length,Qao X[j'] X[a]=true)) ∧
    st={ T:=[(0,O2 X),(1,I a),(4,fcE),(12,I i),(13,I j'),(66,Bo false)],loc:=[],M:=M }):=by
 intro m
 induction m with
 | zero =>
   intro j f hj hjl
   have h1:¬ i≤j:=by omega
   have h2:¬ (i:Int)≤j:=by omega
   cases f
   all_goals
    simp only [if_true,if_false,Bool.false_eq_true,List.append_nil,List.cons_append,List.nil_append]
    refine wW ?_
    repeat (first|apply wA|apply wS|refine wr (by simp [h1,h2];with_reducible rfl) ?_|refine wq (by simp [h1,h2];with_reducible rfl) ?_|refine wt (by simpa [h1,h2]) ?_|refine wf (by simpa [h1,h2]) ?_|refine xt (by simpa [h1,h2]) ?_|refine xf (by simpa [h1,h2]) ?_|apply wB|apply Qaa|refine wX ?_|refine wY ?_|refine wR ?_|refine wK ?_|refine wE ?_)
    exact ⟨rfl,j,⟨Nat.le_refl _,by omega,fun k e k1 k2 _=>by omega,fun h=>absurd h h1⟩,rfl⟩
 | succ m ih =>
   intro j f hj hjl
   have h1:i≤j:=by omega
   have h2:(i:Int)≤j:=by omega
   obtain ⟨q,rfl⟩:∃ q,j=q+1:=⟨j - 1,by omega⟩
   have w1:IntKind.i64.wrap (q:Int)=(q:Int):=Qaj (by omega) (by omega)
   have hb:=Qb4 X[q+1] X[a]
   have e1:=fun M=>Qab (Qff (hX _ (List.getElem_mem hjl)) (hX _ (List.getElem_mem ha)) M)
   have h3:(i:Int)≤(q:Int)+1:=by omega
   cases f
   all_goals
    simp only [if_true,if_false,Bool.false_eq_true,List.append_nil,List.cons_append,List.nil_append]
    by_cases hc:Qnf X[q+1] X[a] < 0
    · have hbt:Qao X[q+1] X[a]=true:=by rw [← hb];exact decide_eq_true hc
      refine wW ?_
      repeat (first|apply wA|apply wS|refine wr (by simp [h1,h2,h3,hjl,ha,e1,hc,w1];with_reducible rfl) ?_|refine wq (by simp [h1,h2,h3,hjl,ha,e1,hc,w1];with_reducible rfl) ?_|refine wt (by simpa [h1,h2,h3,hjl,ha,e1,hc,w1]) ?_|refine wf (by simpa [h1,h2,h3,hjl,ha,e1,hc,w1]) ?_|refine xt (by simpa [h1,h2,h3,hjl,ha,e1,hc,w1]) ?_|refine xf (by simpa [h1,h2,h3,hjl,ha,e1,hc,w1]) ?_|apply wB|apply Qaa|refine wX ?_|refine wY ?_|refine wR ?_|refine wK ?_|refine wE ?_)
      exact ⟨rfl,q+1,⟨Nat.le_refl _,by omega,fun k e k1 k2 _=>by omega,fun _=>⟨hjl,hbt⟩⟩,rfl⟩
    · have hbt:Qao X[q+1] X[a]=false:=by rw [← hb];exact decide_eq_false hc
      refine wW ?_
      repeat (first|apply wA|apply wS|refine wr (by simp [h1,h2,h3,hjl,ha,e1,hc,w1];with_reducible rfl) ?_|refine wq (by simp [h1,h2,h3,hjl,ha,e1,hc,w1];with_reducible rfl) ?_|refine wt (by simpa [h1,h2,h3,hjl,ha,e1,hc,w1]) ?_|refine wf (by simpa [h1,h2,h3,hjl,ha,e1,hc,w1]) ?_|refine xt (by simpa [h1,h2,h3,hjl,ha,e1,hc,w1]) ?_|refine xf (by simpa [h1,h2,h3,hjl,ha,e1,hc,w1]) ?_|apply wB|apply Qaa|refine wX ?_|refine wY ?_|refine wR ?_|refine wK ?_|refine wE ?_)
      refine Qal ((by simpa using ih q false (by omega) (by omega))) ?_
      rintro ex st ⟨rfl,j',⟨k1,k2,k3,k4⟩,rfl⟩
      refine ⟨rfl,j',⟨by omega,k2,fun k e q1 q2 q3=>?_,k4⟩,rfl⟩
      by_cases hk:k=q+1
      · subst hk
        rw [List.getElem?_eq_getElem hjl] at q3
        cases q3;exact hbt
      · exact k3 k e q1 (by omega) q3
theorem Qy0 (X:List (Int×Int)) (hX:∀ x ∈ X,DE x) (hl:X.length≤2000000) (a i:Nat) (ha:a < X.length) (h0:0 < i) (M:List Qae):∀ (m j:Nat) (f:Bool),i+m=j+1→j < X.length →
 wp tb (.loop Qvf) { T:=[(0,O2 X),(1,I a),(4,fcE),(12,I i),(13,I j)]++(if f then [(120,Bo false)] else []),loc:=[],M:=M }
  (fun ex st=>ex=.exit 8∧∃ j':Nat,(j'≤j∧i≤j'+1∧Qet X (j'+1) (j+1) X[a]∧(i≤j'→∃ h:j' < X.length,Qao X[j'] X[a]=true)) ∧
    st={ T:=[(0,O2 X),(1,I a),(4,fcE),(12,I i),(13,I j'),(139,Bo false)],loc:=[],M:=M }):=by
 intro m
 induction m with
 | zero =>
   intro j f hj hjl
   have h1:¬ i≤j:=by omega
   have h2:¬ (i:Int)≤j:=by omega
   cases f
   all_goals
    simp only [if_true,if_false,Bool.false_eq_true,List.append_nil,List.cons_append,List.nil_append]
    refine wW ?_
    repeat (first|apply wA|apply wS|refine wr (by simp [h1,h2];with_reducible rfl) ?_|refine wq (by simp [h1,h2];with_reducible rfl) ?_|refine wt (by simpa [h1,h2]) ?_|refine wf (by simpa [h1,h2]) ?_|refine xt (by simpa [h1,h2]) ?_|refine xf (by simpa [h1,h2]) ?_|apply wB|apply Qaa|refine wX ?_|refine wY ?_|refine wR ?_|refine wK ?_|refine wE ?_)
    exact ⟨rfl,j,⟨Nat.le_refl _,by omega,fun k e k1 k2 _=>by omega,fun h=>absurd h h1⟩,rfl⟩
 | succ m ih =>
   intro j f hj hjl
   have h1:i≤j:=by omega
   have h2:(i:Int)≤j:=by omega
   obtain ⟨q,rfl⟩:∃ q,j=q+1:=⟨j - 1,by omega⟩
   have w1:IntKind.i64.wrap (q:Int)=(q:Int):=Qaj (by omega) (by omega)
   have hb:=Qb4 X[q+1] X[a]
   have e1:=fun M=>Qab (Qff (hX _ (List.getElem_mem hjl)) (hX _ (List.getElem_mem ha)) M)
   have h3:(i:Int)≤(q:Int)+1:=by omega
   cases f
   all_goals
    simp only [if_true,if_false,Bool.false_eq_true,List.append_nil,List.cons_append,List.nil_append]
    by_cases hc:Qnf X[q+1] X[a] < 0
    · have hbt:Qao X[q+1] X[a]=true:=by rw [← hb];exact decide_eq_true hc
      refine wW ?_
      repeat (first|apply wA|apply wS|refine wr (by simp [h1,h2,h3,hjl,ha,e1,hc,w1];with_reducible rfl) ?_|refine wq (by simp [h1,h2,h3,hjl,ha,e1,hc,w1];with_reducible rfl) ?_|refine wt (by simpa [h1,h2,h3,hjl,ha,e1,hc,w1]) ?_|refine wf (by simpa [h1,h2,h3,hjl,ha,e1,hc,w1]) ?_|refine xt (by simpa [h1,h2,h3,hjl,ha,e1,hc,w1]) ?_|refine xf (by simpa [h1,h2,h3,hjl,ha,e1,hc,w1]) ?_|apply wB|apply Qaa|refine wX ?_|refine wY ?_|refine wR ?_|refine wK ?_|refine wE ?_)
      exact ⟨rfl,q+1,⟨Nat.le_refl _,by omega,fun k e k1 k2 _=>by omega,fun _=>⟨hjl,hbt⟩⟩,rfl⟩
    · have hbt:Qao X[q+1] X[a]=false:=by rw [← hb];exact decide_eq_false hc
      refine wW ?_
      repeat (first|apply wA|apply wS|refine wr (by simp [h1,h2,h3,hjl,ha,e1,hc,w1];with_reducible rfl) ?_|refine wq (by simp [h1,h2,h3,hjl,ha,e1,hc,w1];with_reducible rfl) ?_|refine wt (by simpa [h1,h2,h3,hjl,ha,e1,hc,w1]) ?_|refine wf (by simpa [h1,h2,h3,hjl,ha,e1,hc,w1]) ?_|refine xt (by simpa [h1,h2,h3,hjl,ha,e1,hc,w1]) ?_|refine xf (by simpa [h1,h2,h3,hjl,ha,e1,hc,w1]) ?_|apply wB|apply Qaa|refine wX ?_|refine wY ?_|refine wR ?_|refine wK ?_|refine wE ?_)
      refine Qal ((by simpa using ih q false (by omega) (by omega))) ?_
      rintro ex st ⟨rfl,j',⟨k1,k2,k3,k4⟩,rfl⟩
      refine ⟨rfl,j',⟨by omega,k2,fun k e q1 q2 q3=>?_,k4⟩,rfl⟩
      by_cases hk:k=q+1
      · subst hk
        rw [List.getElem?_eq_getElem hjl] at q3
        cases q3;exact hbt
      · exact k3 k e q1 (by omega) q3
structure Qrz (X0 X:List (Int×Int)) (a b i j:Nat) (x:Int×Int):Prop where
 seg:Seg X0 X a b
 piv:X[a]? = some x
 lo:Qhj X (a+1) i x
 hi:Qet X (j+1) b x
 ai:a+1≤i
 ij:i≤j+1
 jb:j < b
 bl:b≤X.length
theorem Qrz.al {X0 X a b i j x} (h:Qrz X0 X a b i j x):a < X.length:=(List.getElem?_eq_some_iff.1 h.piv).1
theorem Qrz.xa {X0 X a b i j x} (h:Qrz X0 X a b i j x):X[a]'h.al=x:=(List.getElem?_eq_some_iff.1 h.piv).2
theorem Qrz.swap {X0 X a b i j x} (h:Qrz X0 X a b i j x) (hi:i < X.length) (hj:j < X.length) (hij:i≤j) (h1:Qao X[i] x=false) (h2:Qao X[j] x=true) :
 ∃ q,j=q+1∧i < j∧Qrz X0 (Qej X i j hi hj) a b (i+1) q x:=by
 have hne:i ≠ j:=by rintro rfl;rw [h1] at h2;cases h2
 have hb:=h.bl
 have hjb:=h.jb
 have hai:=h.ai
 refine ⟨j - 1,by omega,by omega,h.seg.trans (Qfe X i j a b hi hj (by omega) (by omega)),?_,?_,?_,by omega,by omega,by omega,by rw [Qnr];exact hb⟩
 · rw [Qc9,if_neg (by omega),if_neg (by omega)];exact h.piv
 · intro k e k1 k2 he
   rw [Qc9,if_neg (by omega)] at he
   by_cases hk:k=i
   · rw [if_pos hk] at he
     cases he;exact h2
   · rw [if_neg hk] at he
     exact h.lo k e k1 (by omega) he
 · intro k e k1 k2 he
   rw [Qc9] at he
   by_cases hk:k=j
   · rw [if_pos hk] at he
     cases he;exact h1
   · rw [if_neg hk,if_neg (by omega)] at he
     exact h.hi k e (by omega) k2 he
theorem Jbg (X0:List (Int×Int)) (hX0:∀ x ∈ X0,DE x) (hl:X0.length≤2000000) (a b:Nat) (x:Int×Int) (M:List Qae):∀ (m:Nat) (X:List (Int×Int)) (i j:Nat),j+1≤i+m→Qrz X0 X a b i j x →
 wp tb (.loop Qwk) { T:=[(0,O2 X),(1,I a),(4,fcE),(12,I i),(13,I j)],loc:=[],M:=M }
  (fun ex st=>ex=.exit 4∧∃ (X':List (Int×Int)) (j':Nat),Qrz X0 X' a b (j'+1) j' x∧st={ T:=[(0,O2 X'),(1,I a),(4,fcE),(12,I (j'+1:Nat)),(13,I j'),(144,Bo true)],loc:=[],M:=M }):=by
 intro m
 induction m with
 | zero =>
   intro X i j hm h
   have hij:=h.ij
   have hi:i=j+1:=by omega
   subst hi
   have hXl:=h.seg.len
   have hX:∀ y ∈ X,DE y:=fun y hy=>hX0 y (h.seg.perm.mem_iff.1 hy)
   have hjl:j < X.length:=by have:=h.jb;have:=h.bl;omega
   have hA:=Qw1 X hX (by omega) a j h.al hjl M 0 (j+1) (by omega)
   have hB:=Qy0 X hX (by omega) a (j+1) h.al (by omega) M 0 j true (by omega) hjl
   have g1:((j+1:Nat):Int) > (j:Int):=by omega
   refine wW ?_
   repeat (first|apply wA|apply wS|refine wr (by simp;with_reducible rfl) ?_|refine wq (by simp;with_reducible rfl) ?_|refine wt (by simpa) ?_|refine wf (by simpa) ?_|refine xt (by simpa) ?_|refine xf (by simpa) ?_|apply wB|apply Qaa|refine wX ?_|refine wY ?_|refine wR ?_|refine wK ?_|refine wE ?_)
   refine Qal hA ?_
   rintro ex st ⟨rfl,i',⟨k1,k2,-,-⟩,rfl⟩
   have:i'=j+1:=by omega
   subst this
   simp only [if_true]
   repeat (first|apply wA|apply wS|refine wr (by simp;with_reducible rfl) ?_|refine wq (by simp;with_reducible rfl) ?_|refine wt (by simpa) ?_|refine wf (by simpa) ?_|refine xt (by simpa) ?_|refine xf (by simpa) ?_|apply wB|apply Qaa|refine wX ?_|refine wY ?_|refine wR ?_|refine wK ?_|refine wE ?_)
   refine Qal hB ?_
   rintro ex st ⟨rfl,j',⟨k1,k2,-,-⟩,rfl⟩
   have:j'=j:=by omega
   subst this
   simp only [if_true]
   have g2:(j':Int) < (j':Int)+1:=by omega
   repeat (first|apply wA|apply wS|refine wr (by simp [g2];with_reducible rfl) ?_|refine wq (by simp [g2];with_reducible rfl) ?_|refine wt (by simpa [g2]) ?_|refine wf (by simpa [g2]) ?_|refine xt (by simpa [g2]) ?_|refine xf (by simpa [g2]) ?_|apply wB|apply Qaa|refine wX ?_|refine wY ?_|refine wR ?_|refine wK ?_|refine wE ?_)
   exact ⟨rfl,X,j',h,rfl⟩
 | succ m ih =>
   intro X i j hm h
   have hXl:=h.seg.len
   have hX:∀ y ∈ X,DE y:=fun y hy=>hX0 y (h.seg.perm.mem_iff.1 hy)
   have hjb:=h.jb
   have hbl:=h.bl
   have hai:=h.ai
   have hjl:j < X.length:=by omega
   have hxa:=h.xa
   obtain ⟨mm,hmm⟩:∃ mm,i+mm=j+1:=⟨j+1 - i,by have:=h.ij;omega⟩
   have hA:=Qw1 X hX (by omega) a j h.al hjl M mm i hmm
   rw [hxa] at hA
   refine wW ?_
   repeat (first|apply wA|apply wS|refine wr (by simp;with_reducible rfl) ?_|refine wq (by simp;with_reducible rfl) ?_|refine wt (by simpa) ?_|refine wf (by simpa) ?_|refine xt (by simpa) ?_|refine xf (by simpa) ?_|apply wB|apply Qaa|refine wX ?_|refine wY ?_|refine wR ?_|refine wK ?_|refine wE ?_)
   refine Qal hA ?_
   rintro ex st ⟨rfl,i',⟨k1,k2,k3,k4⟩,rfl⟩
   simp only [if_true]
   obtain ⟨m2,hm2⟩:∃ m2,i'+m2=j+1:=⟨j+1 - i',by omega⟩
   have hB:=Qy0 X hX (by omega) a i' h.al (by omega) M m2 j true hm2 hjl
   rw [hxa] at hB
   repeat (first|apply wA|apply wS|refine wr (by simp;with_reducible rfl) ?_|refine wq (by simp;with_reducible rfl) ?_|refine wt (by simpa) ?_|refine wf (by simpa) ?_|refine xt (by simpa) ?_|refine xf (by simpa) ?_|apply wB|apply Qaa|refine wX ?_|refine wY ?_|refine wR ?_|refine wK ?_|refine wE ?_)
   refine Qal hB ?_
   rintro ex st ⟨rfl,j',⟨q1,q2,q3,q4⟩,rfl⟩
   simp only [if_true]
   have h':Qrz X0 X a b i' j' x:=⟨h.seg,h.piv,fun k e a1 a2 a3=>by
    by_cases hk:k < i
    · exact h.lo k e a1 hk a3
    · exact k3 k e (by omega) a2 a3,fun k e a1 a2 a3=>by
    by_cases hk:j < k
    · exact h.hi k e (by omega) a2 a3
    · exact q3 k e a1 (by omega) a3,by omega,by omega,by omega,by omega⟩
   by_cases hij:i'≤j'
   · obtain ⟨hjl',hb2⟩:=q4 hij
     have hil':i' < X.length:=by omega
     obtain ⟨q,rfl,hlt,hP⟩:=h'.swap hil' hjl' hij (k4 (by omega)) hb2
     have g1:¬ ((q+1:Nat):Int) < (i':Int):=by omega
     have g2:¬ (q:Int)+1 < (i':Int):=by omega
     have w1:IntKind.i64.wrap ((i':Int)+1)=((i'+1:Nat):Int):=Qbe (by omega)
     have w2:IntKind.i64.wrap (q:Int)=(q:Int):=Qaj (by omega) (by omega)
     have hn:=ih (Qej X i' (q+1) hil' hjl') (i'+1) q (by omega) hP
     repeat (first|apply wA|apply wS|refine wr (by simp [g1,g2,hil',hjl',w1,w2];with_reducible rfl) ?_|refine wq (by simp [g1,g2,hil',hjl',w1,w2];with_reducible rfl) ?_|refine wt (by simpa [g1,g2,hil',hjl',w1,w2]) ?_|refine wf (by simpa [g1,g2,hil',hjl',w1,w2]) ?_|refine xt (by simpa [g1,g2,hil',hjl',w1,w2]) ?_|refine xf (by simpa [g1,g2,hil',hjl',w1,w2]) ?_|apply wB|apply Qaa|refine wX ?_|refine wY ?_|refine wR ?_|refine wK ?_|refine wE ?_)
     exact hn
   · have hi3:i'=j'+1:=by omega
     subst hi3
     have g2:(j':Int) < (j':Int)+1:=by omega
     repeat (first|apply wA|apply wS|refine wr (by simp [g2];with_reducible rfl) ?_|refine wq (by simp [g2];with_reducible rfl) ?_|refine wt (by simpa [g2]) ?_|refine wf (by simpa [g2]) ?_|refine xt (by simpa [g2]) ?_|refine xf (by simpa [g2]) ?_|apply wB|apply Qaa|refine wX ?_|refine wY ?_|refine wR ?_|refine wK ?_|refine wE ?_)
     exact ⟨rfl,X,j',h',rfl⟩
theorem Qrz.fin {X0 X a b j x} (h:Qrz X0 X a b (j+1) j x) (hj:j < X.length):Seg X0 (Qej X j a hj h.al) a b∧(Qej X j a hj h.al)[j]? = some x∧Qhj (Qej X j a hj h.al) a j x∧Qet (Qej X j a hj h.al) (j+1) b x:=by
 have hb:=h.bl
 have hjb:=h.jb
 have hai:=h.ai
 have hxa:=h.xa
 refine ⟨h.seg.trans (Qfe X j a a b hj h.al (by omega) (by omega)),?_,fun k e k1 k2 he=>?_,fun k e k1 k2 he=>?_⟩
 · rw [Qc9]
   by_cases hja:j=a
   · subst hja;rw [if_pos rfl,hxa]
   · rw [if_neg hja,if_pos rfl,hxa]
 · rw [Qc9] at he
   by_cases hka:k=a
   · rw [if_pos hka] at he
     cases he
     exact h.lo j _ (by omega) (by omega) (List.getElem?_eq_getElem hj)
   · rw [if_neg hka,if_neg (by omega)] at he
     exact h.lo k e (by omega) (by omega) he
 · rw [Qc9,if_neg (by omega),if_neg (by omega)] at he
   exact h.hi k e k1 k2 he
theorem Qnv (X:List (Int×Int)) (hX:∀ x ∈ X,DE x) (hl:X.length≤2000000) (a n p:Nat) (hn:2≤n) (hab:a+n≤X.length) (hp:a≤p∧p < a+n) (M:List Qae) :
 ∃ (X':List (Int×Int)) (mid:Nat) (t:Bool),Seg X X' a (a+n)∧(a≤mid∧mid < a+n)∧X'[mid]? = X[p]?∧(∀ x,X[p]? = some x→Qhj X' a mid x∧Qet X' (mid+1) (a+n) x) ∧
   Ev tb Quk [0] [O2 X,I a,I ((a:Int)+n),I p,fcE] M ⟨.tup [I mid,Bo t],[O2 X'],M,[]⟩:=by
 have hpl:p < X.length:=by omega
 have hal:a < X.length:=by omega
 obtain ⟨x,hx⟩:∃ x,x=X[p]:=⟨_,rfl⟩
 obtain ⟨j0,hj0⟩:∃ j0,j0=a+n - 1:=⟨_,rfl⟩
 have hP1:Qrz X (Qej X a p hal hpl) a (a+n) (a+1) j0 x:=by
  refine ⟨Qfe X a p a (a+n) hal hpl (by omega) (by omega),?_,fun k e k1 k2 _=>by omega,fun k e k1 k2 _=>by omega,by omega,by omega,by omega,by rw [Qnr];exact hab⟩
  rw [Qc9]
  by_cases hap:a=p
  · subst hap;rw [if_pos rfl,hx]
  · rw [if_neg hap,if_pos rfl,hx]
 have hXp:X[p]? = some x:=by rw [hx];exact List.getElem?_eq_getElem hpl
 rw [hXp]
 obtain ⟨X1,hX1⟩:∃ X1,X1=Qej X a p hal hpl:=⟨_,rfl⟩
 have hsw:(X.set a X[p]).set p X[a]=X1:=hX1.symm
 rw [← hX1] at hP1
 have hX1l:X1.length=X.length:=hP1.seg.len
 have hD1:∀ y ∈ X1,DE y:=fun y hy=>hX y (hP1.seg.perm.mem_iff.1 hy)
 have hj1:j0 < X1.length:=by omega
 have hal1:=hP1.al
 have hxa:=hP1.xa
 have w1:IntKind.i64.wrap ((a:Int)+1)=((a+1:Nat):Int):=Qbe (by omega)
 have w2:IntKind.i64.wrap ((a:Int)+n - 1)=(j0:Int):=by rw [Qaj (by omega) (by omega)];omega
 suffices hh:∃ r,(∃ (X':List (Int×Int)) (mid:Nat) (t:Bool),Seg X X' a (a+n)∧(a≤mid∧mid < a+n)∧X'[mid]? = some x∧(Qhj X' a mid x∧Qet X' (mid+1) (a+n) x)∧r=⟨.tup [I mid,Bo t],[O2 X'],M,[]⟩) ∧
  Ev tb Quk [0] [O2 X,I a,I ((a:Int)+n),I p,fcE] M r by
  obtain ⟨r,⟨X',mid,t,q1,q2,q3,q4,rfl⟩,q5⟩:=hh
  exact ⟨X',mid,t,q1,q2,q3,fun y hy=>by cases hy;exact q4,q5⟩
 refine Qel Jy7 rfl ?_
 have hA:=Jhb X1 hD1 (by omega) a j0 hal1 hj1 M (j0 - a) (a+1) (by omega)
 rw [hxa] at hA
 repeat (first|apply wA|apply wS|refine wr (by simp [hpl,hal,hsw,w1,w2];with_reducible rfl) ?_|refine wq (by simp [hpl,hal,hsw,w1,w2];with_reducible rfl) ?_|refine wt (by simpa [hpl,hal,hsw,w1,w2]) ?_|refine wf (by simpa [hpl,hal,hsw,w1,w2]) ?_|refine xt (by simpa [hpl,hal,hsw,w1,w2]) ?_|refine xf (by simpa [hpl,hal,hsw,w1,w2]) ?_|apply wB|apply Qaa|refine wX ?_|refine wY ?_|refine wR ?_|refine wK ?_|refine wE ?_)
 refine Qal hA ?_
 rintro ex st ⟨rfl,i',⟨k1,k2,k3,k4⟩,rfl⟩
 simp only [if_true]
 have hB:=Jfa X1 hD1 (by omega) a i' hal1 (by omega) M (j0+1 - i') j0 true (by omega) hj1
 rw [hxa] at hB
 repeat (first|apply wA|apply wS|refine wr (by simp;with_reducible rfl) ?_|refine wq (by simp;with_reducible rfl) ?_|refine wt (by simpa) ?_|refine wf (by simpa) ?_|refine xt (by simpa) ?_|refine xf (by simpa) ?_|apply wB|apply Qaa|refine wX ?_|refine wY ?_|refine wR ?_|refine wK ?_|refine wE ?_)
 refine Qal hB ?_
 rintro ex st ⟨rfl,j',⟨q1,q2,q3,q4⟩,rfl⟩
 simp only [if_true]
 have h':Qrz X X1 a (a+n) i' j' x:=⟨hP1.seg,hP1.piv,k3,fun k e a1 a2 a3=>q3 k e a1 (by omega) a3,by omega,by omega,by omega,by omega⟩
 have hjl':j' < X1.length:=by omega
 by_cases hij:i'≤j'
 · obtain ⟨_,hb2⟩:=q4 hij
   have hil':i' < X1.length:=by omega
   obtain ⟨q,rfl,hlt,hP⟩:=h'.swap hil' hjl' hij (k4 (by omega)) hb2
   have g2:¬ (q:Int)+1 < (i':Int):=by omega
   have w3:IntKind.i64.wrap ((i':Int)+1)=((i'+1:Nat):Int):=Qbe (by omega)
   have w4:IntKind.i64.wrap (q:Int)=(q:Int):=Qaj (by omega) (by omega)
   repeat (first|apply wA|apply wS|refine wr (by simp [g2,hil',hjl',w3,w4];with_reducible rfl) ?_|refine wq (by simp [g2,hil',hjl',w3,w4];with_reducible rfl) ?_|refine wt (by simpa [g2,hil',hjl',w3,w4]) ?_|refine wf (by simpa [g2,hil',hjl',w3,w4]) ?_|refine xt (by simpa [g2,hil',hjl',w3,w4]) ?_|refine xf (by simpa [g2,hil',hjl',w3,w4]) ?_|apply wB|apply Qaa|refine wX ?_|refine wY ?_|refine wR ?_|refine wK ?_|refine wE ?_)
   refine Qal (Jbg X hX hl a (a+n) x M (q+1) (Qej X1 i' (q+1) hil' hjl') (i'+1) q (by omega) hP) ?_
   rintro ex st ⟨rfl,X2,j2,hP2,rfl⟩
   simp only [if_true]
   have hj2:j2 < X2.length:=by have:=hP2.jb;have:=hP2.bl;omega
   have hal2:=hP2.al
   obtain ⟨f1,f2,f3,f4⟩:=hP2.fin hj2
   obtain ⟨X3,hX3⟩:∃ X3,X3=Qej X2 j2 a hj2 hal2:=⟨_,rfl⟩
   have hsw3:(X2.set j2 X2[a]).set a X2[j2]=X3:=hX3.symm
   rw [← hX3] at f1 f2 f3 f4
   repeat (first|apply wA|apply wS|refine wr (by simp [hj2,hal2,hsw3];with_reducible rfl) ?_|refine wq (by simp [hj2,hal2,hsw3];with_reducible rfl) ?_|refine wt (by simpa [hj2,hal2,hsw3]) ?_|refine wf (by simpa [hj2,hal2,hsw3]) ?_|refine xt (by simpa [hj2,hal2,hsw3]) ?_|refine xf (by simpa [hj2,hal2,hsw3]) ?_|apply wB|apply Qaa|refine wX ?_|refine wY ?_|refine wR ?_|refine wK ?_|refine wE ?_)
   refine ⟨.inr rfl,_,⟨X3,j2,false,f1,⟨by have:=hP2.ai;omega,hP2.jb⟩,f2,⟨f3,f4⟩,rfl⟩,?_⟩
   simp [Qzg]
 · have hi3:i'=j'+1:=by omega
   subst hi3
   have g2:(j':Int) < (j':Int)+1:=by omega
   obtain ⟨f1,f2,f3,f4⟩:=h'.fin hjl'
   obtain ⟨X3,hX3⟩:∃ X3,X3=Qej X1 j' a hjl' hal1:=⟨_,rfl⟩
   have hsw3:(X1.set j' X1[a]).set a X1[j']=X3:=hX3.symm
   rw [← hX3] at f1 f2 f3 f4
   repeat (first|apply wA|apply wS|refine wr (by simp [g2,hjl',hal1,hsw3];with_reducible rfl) ?_|refine wq (by simp [g2,hjl',hal1,hsw3];with_reducible rfl) ?_|refine wt (by simpa [g2,hjl',hal1,hsw3]) ?_|refine wf (by simpa [g2,hjl',hal1,hsw3]) ?_|refine xt (by simpa [g2,hjl',hal1,hsw3]) ?_|refine xf (by simpa [g2,hjl',hal1,hsw3]) ?_|apply wB|apply Qaa|refine wX ?_|refine wY ?_|refine wR ?_|refine wK ?_|refine wE ?_)
   refine ⟨.inr rfl,_,⟨X3,j',true,f1,⟨by omega,by omega⟩,f2,⟨f3,f4⟩,rfl⟩,?_⟩
   simp [Qzg]
end Go.Idl
namespace Go.Idl
open Go
abbrev U (n:Int):IV:=.sc (.int .u64 n)
def wU (n:Int):Int:=IntKind.u64.wrap n
def Qv5 (a b:Int):Int:=wU (BitVec.ofInt 64 a ^^^ BitVec.ofInt 64 b).toNat
def Jpv (a b:Int):Int:=wU (BitVec.ofInt 64 a &&& BitVec.ofInt 64 b).toNat
theorem Jhk (a b:Int):binOp .xor 0 (.int .u64 a) (.int .u64 b)=.pure (.int .u64 (Qv5 a b)):=rfl
theorem b_and (a b:Int):binOp .and 0 (.int .u64 a) (.int .u64 b)=.pure (.int .u64 (Jpv a b)):=rfl
theorem Jgn (a:Int):binOp .shl 0 (.int .u64 a) (.int .u64 13)=.pure (.int .u64 (wU (a * 2 ^ 13))):=rfl
theorem Jj1 (a:Int):binOp .shl 0 (.int .u64 a) (.int .u64 17)=.pure (.int .u64 (wU (a * 2 ^ 17))):=rfl
theorem Jw6 (a:Int):binOp .shr 0 (.int .u64 a) (.int .u64 7)=.pure (.int .u64 (a.fdiv (2 ^ 7))):=rfl
theorem Jz6 (n:Int):wU n=n % 18446744073709551616:=rfl
theorem Jj4 {a b:Int} (h0:0≤b) (h1:b < 18446744073709551616):0≤Jpv a b∧Jpv a b≤b:=by
 have h2:(BitVec.ofInt 64 a &&& BitVec.ofInt 64 b).toNat≤(BitVec.ofInt 64 b).toNat:=by
  rw [BitVec.toNat_and];exact Nat.and_le_right
 have h3:(BitVec.ofInt 64 b).toNat=b.toNat:=by
  rw [BitVec.toNat_ofInt];congr 1;exact Int.emod_eq_of_lt h0 h1
 rw [h3] at h2
 rw [Jpv,Jz6]
 generalize (BitVec.ofInt 64 a &&& BitVec.ofInt 64 b).toNat=z at *
 omega
theorem Jir (s:Int) (Ms Es:List Qae):∃ s':Int,Ev tb Qwl [] [.bptr Ms.length 0 0] (Ms++[[U s]]::Es) ⟨U s',[],Ms++[[U s']]::Es,[]⟩:=by
 refine ⟨Qv5 (Qv5 (Qv5 s (wU (s * 2 ^ 13))) ((Qv5 s (wU (s * 2 ^ 13))).fdiv (2 ^ 7))) (wU (Qv5 (Qv5 s (wU (s * 2 ^ 13))) ((Qv5 s (wU (s * 2 ^ 13))).fdiv (2 ^ 7)) * 2 ^ 17)),?_⟩
 have x1:=Jhk s (wU (s * 2 ^ 13))
 have x0:=Jgn s
 generalize wU (s * 2 ^ 13)=a at *
 generalize Qv5 s a=b at *
 have y0:=Jw6 b
 generalize b.fdiv (2 ^ 7)=c at *
 have y1:=Jhk b c
 generalize Qv5 b c=d at *
 have z0:=Jj1 d
 generalize wU (d * 2 ^ 17)=e at *
 have z1:=Jhk d e
 generalize Qv5 d e=f at *
 refine cW zt106 rfl ?_
 repeat (first|apply wA|apply wS|refine wr (by simp [x0,x1,y0,y1,z0,z1];with_reducible rfl) ?_|refine wq (by simp [x0,x1,y0,y1,z0,z1];with_reducible rfl) ?_|refine wt (by simpa [x0,x1,y0,y1,z0,z1]) ?_|refine wf (by simpa [x0,x1,y0,y1,z0,z1]) ?_|refine xt (by simpa [x0,x1,y0,y1,z0,z1]) ?_|refine xf (by simpa [x0,x1,y0,y1,z0,z1]) ?_|apply wB|apply Qaa|refine wX ?_|refine wY ?_|refine wR ?_|refine wK ?_|refine wE ?_)
 simp [Jay]
theorem len_k (cf:CF) (n:Int) (m:Nat) (g:ByteArray) (b:UInt8) (k:Nat) (hw:IntKind.u8.wrap n=(m:Int)) (hb:g[m]? = some b) (hk:b.toNat=k) :
 ∃ st,Qag cf { T:=[(0,.sc (.int .u64 n)),(2,I 0),(14,Bo false)],loc:=[],M:=[] } [⟨some 19,none,.mv (.t 2)⟩,⟨some 20,none,.mv (.t 0)⟩,⟨some 21,none,.conv .u8 (.t 20)⟩,⟨some 22,none,.idxs (.c (.string g)) (.t 21)⟩,⟨some 23,none,.conv .i64 (.t 22)⟩,⟨some 24,none,.bin .add (.t 19) (.t 23)⟩,⟨some 2,none,.asg (.t 24)⟩]=some st∧st.cut [2]={ T:=[(2,I k)],loc:=[],M:=[] }:=by
 subst hk
 have hbl:b.toNat < 256:=b.toNat_lt
 have w1:IntKind.i64.wrap (b.toNat:Int)=(b.toNat:Int):=Qaj (by omega) (by omega)
 refine ⟨_,by simp [hw,hb];rfl,by simp [w1]⟩
def Qul (n:Nat):Nat:=if n≤0 then 0 else if n≤1 then 1 else if n≤3 then 2 else if n≤7 then 3 else if n≤15 then 4 else 5
set_option maxRecDepth 100000 in
set_option maxHeartbeats 4000000 in
theorem Qv2 (n:Nat) (hn:n≤21):Ev tb Jqa [] [.sc (.int .u64 n)] [] ⟨I (Qul n),[],[],[]⟩:=by
 have cs:n=0 ∨ n=1 ∨ n=2 ∨ n=3 ∨ n=4 ∨ n=5 ∨ n=6 ∨ n=7 ∨ n=8 ∨ n=9 ∨ n=10 ∨ n=11 ∨ n=12 ∨ n=13 ∨ n=14 ∨ n=15 ∨ n=16 ∨ n=17 ∨ n=18 ∨ n=19 ∨ n=20 ∨ n=21:=by omega
 have w8:IntKind.u8.wrap (n:Int)=(n:Int):=by
  rcases cs with rfl | rfl | rfl | rfl | rfl | rfl | rfl | rfl | rfl | rfl | rfl | rfl | rfl | rfl | rfl | rfl | rfl | rfl | rfl | rfl | rfl | rfl <;> rfl
 have key:∃ st,Qag (Qcb tb) { T:=[(0,.sc (.int .u64 n)),(2,I 0),(14,Bo false)],loc:=[],M:=[] } (match Je2 with | .reg ops _ _=>ops | _=>[])=some st∧st.cut [2]={ T:=[(2,I (Qul n))],loc:=[],M:=[] }:=by
  rcases cs with rfl | rfl | rfl | rfl | rfl | rfl | rfl | rfl | rfl | rfl | rfl | rfl | rfl | rfl | rfl | rfl | rfl | rfl | rfl | rfl | rfl | rfl
  all_goals
   exact len_k (Qcb tb) _ _ _ _ _ w8 rfl rfl
 obtain ⟨st,h1,h2⟩:=key
 have g1:¬ (4294967296:Int)≤n:=by omega
 have g2:¬ (65536:Int)≤n:=by omega
 have g3:¬ (256:Int)≤n:=by omega
 refine cW zt68 rfl ?_
 iterate 4 ((first|apply wA|skip);refine Qf2 (by simp [g1,g2,g3];rfl) (by simp;rfl) ?_;(first|refine Qqb (t:=false) (by simp) (by simp) (fun _=>?_)|skip);(first|apply wS|skip))
 refine Qf2 h1 h2 ?_
 refine wR ?_
 simp [Jyl]
theorem Qvi (n:Nat) (hn:n≤21):Ev tb Jkz [] [.sc (.int .u64 n)] [] ⟨I (Qul n),[],[],[]⟩:=by
 have e1:=Qab (Qv2 n hn)
 refine cW zt66 rfl ?_
 repeat (first|apply wA|apply wS|refine wr (by simp [e1];with_reducible rfl) ?_|refine wq (by simp [e1];with_reducible rfl) ?_|refine wt (by simpa [e1]) ?_|refine wf (by simpa [e1]) ?_|refine xt (by simpa [e1]) ?_|refine xf (by simpa [e1]) ?_|apply wB|apply Qaa|refine wX ?_|refine wY ?_|refine wR ?_|refine wK ?_|refine wE ?_)
 simp [Jx9]
def npo (n:Nat):Int:=if n≤15 then 16 else 32
theorem Jrh (n:Nat) (h1:13≤n) (h2:n≤21):Ev tb Jth [] [I n] [] ⟨U (npo n),[],[],[]⟩:=by
 have e1:=Qab (Qvi n h2)
 have w1:=@Jf1 n (by omega)
 by_cases h:n≤15
 · rw [show Qul n=4 by rw [Qul,if_neg (by omega),if_neg (by omega),if_neg (by omega),if_neg (by omega),if_pos h],show ((4:Nat):Int)=4 from rfl] at e1
   have s1:binOp .shl 0 (.int .u64 1) (.int .i64 4)=.pure (.int .u64 16):=rfl
   rw [npo,if_pos h]
   refine cW zt91 rfl ?_
   repeat (first|apply wA|apply wS|refine wr (by simp [e1,w1,s1];with_reducible rfl) ?_|refine wq (by simp [e1,w1,s1];with_reducible rfl) ?_|refine wt (by simpa [e1,w1,s1]) ?_|refine wf (by simpa [e1,w1,s1]) ?_|refine xt (by simpa [e1,w1,s1]) ?_|refine xf (by simpa [e1,w1,s1]) ?_|apply wB|apply Qaa|refine wX ?_|refine wY ?_|refine wR ?_|refine wK ?_|refine wE ?_)
   simp [Jwh]
   try rfl
 · rw [show Qul n=5 by rw [Qul,if_neg (by omega),if_neg (by omega),if_neg (by omega),if_neg (by omega),if_neg h],show ((5:Nat):Int)=5 from rfl] at e1
   have s1:binOp .shl 0 (.int .u64 1) (.int .i64 5)=.pure (.int .u64 32):=rfl
   rw [npo,if_neg h]
   refine cW zt91 rfl ?_
   repeat (first|apply wA|apply wS|refine wr (by simp [e1,w1,s1];with_reducible rfl) ?_|refine wq (by simp [e1,w1,s1];with_reducible rfl) ?_|refine wt (by simpa [e1,w1,s1]) ?_|refine wf (by simpa [e1,w1,s1]) ?_|refine xt (by simpa [e1,w1,s1]) ?_|refine xf (by simpa [e1,w1,s1]) ?_|apply wB|apply Qaa|refine wX ?_|refine wY ?_|refine wR ?_|refine wK ?_|refine wE ?_)
   simp [Jwh]
   try rfl
set_option maxHeartbeats 2000000 in
theorem Jkb (X0:List (Int×Int)) (hX0:X0.length≤2000000) (a n q:Nat) (hq:q=n / 4) (h13:13≤n) (h21:n≤21) (hab:a+n≤X0.length) (M:List Qae):∀ (m:Nat) (X:List (Int×Int)) (k:Nat) (s:Int),k+m=a+q * 2+2→a≤k→Seg X0 X a (a+n) →
 wp tb (.loop Qy7) { T:=[(0,O2 X),(1,I a),(8,I n),(9,.bptr M.length 0 0),(10,U (npo n)),(11,I k)],loc:=[[U s]],M:=M }
  (fun ex st=>ex=.exit 0∧∃ (X':List (Int×Int)) (s':Int) (k':Nat),Seg X0 X' a (a+n)∧st={ T:=[(0,O2 X'),(1,I a),(8,I n),(9,.bptr M.length 0 0),(10,U (npo n)),(11,I k'),(35,Bo false)],loc:=[[U s']],M:=M }):=by
 have t1:(n:Int).tdiv 4=(q:Int):=by rw [Int.tdiv_eq_ediv_of_nonneg (by omega)];omega
 have w1:IntKind.i64.wrap (q:Int)=(q:Int):=Qaj (by omega) (by omega)
 have w2:IntKind.i64.wrap ((q:Int) * 2)=(q:Int) * 2:=Qaj (by omega) (by omega)
 have w3:IntKind.i64.wrap ((a:Int)+q * 2)=(a:Int)+q * 2:=Qaj (by omega) (by omega)
 have w4:IntKind.i64.wrap ((a:Int)+q * 2+1)=(a:Int)+q * 2+1:=Qaj (by omega) (by omega)
 intro m
 induction m with
 | zero =>
   intro X k s hk ha hS
   have g1:¬ (k:Int)≤(a:Int)+q * 2+1:=by omega
   refine wW ?_
   repeat (first|apply wA|apply wS|refine wr (by simp [t1,w1,w2,w3,w4,g1];with_reducible rfl) ?_|refine wq (by simp [t1,w1,w2,w3,w4,g1];with_reducible rfl) ?_|refine wt (by simpa [t1,w1,w2,w3,w4,g1]) ?_|refine wf (by simpa [t1,w1,w2,w3,w4,g1]) ?_|refine xt (by simpa [t1,w1,w2,w3,w4,g1]) ?_|refine xf (by simpa [t1,w1,w2,w3,w4,g1]) ?_|apply wB|apply Qaa|refine wX ?_|refine wY ?_|refine wR ?_|refine wK ?_|refine wE ?_)
   exact ⟨rfl,X,s,k,hS,rfl⟩
 | succ m ih =>
   intro X k s hk ha hS
   have hXl:=hS.len
   have g1:(k:Int)≤(a:Int)+q * 2+1:=by omega
   have hkl:k < X.length:=by omega
   obtain ⟨s',hs'⟩:=Jir s M []
   have e1:=Qab hs'
   have hnp:npo n=16∧n≤15 ∨ npo n=32∧16≤n:=by
    rw [npo];split <;> omega
   have wU1:IntKind.u64.wrap (npo n - 1)=npo n - 1:=by
    rcases hnp with ⟨h,_⟩ | ⟨h,_⟩ <;> rw [h] <;> rfl
   have hand:=Jj4 (a:=s') (b:=npo n - 1) (by omega) (by omega)
   have a1:=b_and s' (npo n - 1)
   generalize Jpv s' (npo n - 1)=o at *
   obtain ⟨o,rfl⟩:=Int.eq_ofNat_of_zero_le hand.1
   have w5:IntKind.i64.wrap (o:Int)=(o:Int):=Qaj (by omega) (by omega)
   have w6:IntKind.i64.wrap ((k:Int)+1)=((k+1:Nat):Int):=Qbe (by omega)
   by_cases ho:(n:Int)≤o
   · have ho':n≤o:=by omega
     obtain ⟨p,hp⟩:∃ p,p=o - n:=⟨_,rfl⟩
     have w7:IntKind.i64.wrap ((o:Int) - n)=(p:Int):=by rw [Qaj (by omega) (by omega)];omega
     have w8:IntKind.i64.wrap ((a:Int)+p)=(a:Int)+p:=Qaj (by omega) (by omega)
     have hno:Qb8 (I ((a:Int)+p))=some (a+p):=Qfh (n:=a+p)
     have hpl:a+p < X.length:=by omega
     have hS2:=hS.trans (Qfe X k (a+p) a (a+n) hkl hpl (by omega) (by omega))
     have hn:=ih (Qej X k (a+p) hkl hpl) (k+1) s' (by omega) (by omega) hS2
     refine wW ?_
     repeat (first|apply wA|apply wS|refine wr (by simp [t1,w1,w2,w3,w4,g1,e1,wU1,a1,w5,ho,ho',w7,w8,hno,hkl,hpl,w6];with_reducible rfl) ?_|refine wq (by simp [t1,w1,w2,w3,w4,g1,e1,wU1,a1,w5,ho,ho',w7,w8,hno,hkl,hpl,w6];with_reducible rfl) ?_|refine wt (by simpa [t1,w1,w2,w3,w4,g1,e1,wU1,a1,w5,ho,ho',w7,w8,hno,hkl,hpl,w6]) ?_|refine wf (by simpa [t1,w1,w2,w3,w4,g1,e1,wU1,a1,w5,ho,ho',w7,w8,hno,hkl,hpl,w6]) ?_|refine xt (by simpa [t1,w1,w2,w3,w4,g1,e1,wU1,a1,w5,ho,ho',w7,w8,hno,hkl,hpl,w6]) ?_|refine xf (by simpa [t1,w1,w2,w3,w4,g1,e1,wU1,a1,w5,ho,ho',w7,w8,hno,hkl,hpl,w6]) ?_|apply wB|apply Qaa|refine wX ?_|refine wY ?_|refine wR ?_|refine wK ?_|refine wE ?_)
     exact hn
   · have ho':¬ n≤o:=by omega
     have w8:IntKind.i64.wrap ((a:Int)+o)=(a:Int)+o:=Qaj (by omega) (by omega)
     have hno:Qb8 (I ((a:Int)+o))=some (a+o):=Qfh (n:=a+o)
     have hpl:a+o < X.length:=by omega
     have hS2:=hS.trans (Qfe X k (a+o) a (a+n) hkl hpl (by omega) (by omega))
     have hn:=ih (Qej X k (a+o) hkl hpl) (k+1) s' (by omega) (by omega) hS2
     refine wW ?_
     repeat (first|apply wA|apply wS|refine wr (by simp [t1,w1,w2,w3,w4,g1,e1,wU1,a1,w5,ho,ho',w8,hno,hkl,hpl,w6];with_reducible rfl) ?_|refine wq (by simp [t1,w1,w2,w3,w4,g1,e1,wU1,a1,w5,ho,ho',w8,hno,hkl,hpl,w6];with_reducible rfl) ?_|refine wt (by simpa [t1,w1,w2,w3,w4,g1,e1,wU1,a1,w5,ho,ho',w8,hno,hkl,hpl,w6]) ?_|refine wf (by simpa [t1,w1,w2,w3,w4,g1,e1,wU1,a1,w5,ho,ho',w8,hno,hkl,hpl,w6]) ?_|refine xt (by simpa [t1,w1,w2,w3,w4,g1,e1,wU1,a1,w5,ho,ho',w8,hno,hkl,hpl,w6]) ?_|refine xf (by simpa [t1,w1,w2,w3,w4,g1,e1,wU1,a1,w5,ho,ho',w8,hno,hkl,hpl,w6]) ?_|apply wB|apply Qaa|refine wX ?_|refine wY ?_|refine wR ?_|refine wK ?_|refine wE ?_)
     exact hn
set_option maxHeartbeats 2000000 in
theorem Qi0 (X:List (Int×Int)) (hl:X.length≤2000000) (a n:Nat) (h13:13≤n) (h21:n≤21) (hab:a+n≤X.length) (M:List Qae) :
 ∃ X':List (Int×Int),Seg X X' a (a+n)∧Ev tb Quf [0] [O2 X,I a,I ((a:Int)+n),fcE] M ⟨.tup [],[O2 X'],M,[]⟩:=by
 obtain ⟨q,hq⟩:∃ q,q=n / 4:=⟨_,rfl⟩
 have t1:(n:Int).tdiv 4=(q:Int):=by rw [Int.tdiv_eq_ediv_of_nonneg (by omega)];omega
 have w00:(a:Int)+n - a=n:=by omega
 have w0:IntKind.i64.wrap (n:Int)=(n:Int):=Qaj (by omega) (by omega)
 have w1:IntKind.i64.wrap (q:Int)=(q:Int):=Qaj (by omega) (by omega)
 have w2:IntKind.i64.wrap ((q:Int) * 2)=(q:Int) * 2:=Qaj (by omega) (by omega)
 have w3:IntKind.i64.wrap ((a:Int)+q * 2)=(a:Int)+q * 2:=Qaj (by omega) (by omega)
 have w4:IntKind.i64.wrap ((a:Int)+q * 2 - 1)=((a+q * 2 - 1:Nat):Int):=by rw [Qaj (by omega) (by omega)];omega
 have wu:=@Jf1 n (by omega)
 have g1:(8:Int)≤n:=by omega
 have g1':8≤n:=by omega
 have e1:=Qab (Jrh n h13 h21)
 have hlo:=Jkb X hl a n q hq h13 h21 hab M 3 X (a+q * 2 - 1) n (by omega) (by omega) (Seg.refl X a (a+n))
 generalize a+q * 2 - 1=k0 at *
 suffices hh:∃ r,(∃ X':List (Int×Int),Seg X X' a (a+n)∧r=⟨.tup [],[O2 X'],M,[]⟩)∧Ev tb Quf [0] [O2 X,I a,I ((a:Int)+n),fcE] M r by
  obtain ⟨r,⟨X',q1,rfl⟩,q2⟩:=hh
  exact ⟨X',q1,q2⟩
 refine Qel zt274 rfl ?_
 repeat (first|apply wA|apply wS|refine wr (by simp [t1,w00,w0,w1,w2,w3,w4,wu,g1,g1',e1];with_reducible rfl) ?_|refine wq (by simp [t1,w00,w0,w1,w2,w3,w4,wu,g1,g1',e1];with_reducible rfl) ?_|refine wt (by simpa [t1,w00,w0,w1,w2,w3,w4,wu,g1,g1',e1]) ?_|refine wf (by simpa [t1,w00,w0,w1,w2,w3,w4,wu,g1,g1',e1]) ?_|refine xt (by simpa [t1,w00,w0,w1,w2,w3,w4,wu,g1,g1',e1]) ?_|refine xf (by simpa [t1,w00,w0,w1,w2,w3,w4,wu,g1,g1',e1]) ?_|apply wB|apply Qaa|refine wX ?_|refine wY ?_|refine wR ?_|refine wK ?_|refine wE ?_)
 refine Qal hlo ?_
 rintro ex st ⟨rfl,X',s',k',hS,rfl⟩
 try simp only [if_true]
 repeat (first|apply wA|apply wS|refine wr (by simp;with_reducible rfl) ?_|refine wq (by simp;with_reducible rfl) ?_|refine wt (by simpa) ?_|refine wf (by simpa) ?_|refine xt (by simpa) ?_|refine xf (by simpa) ?_|apply wB|apply Qaa|refine wX ?_|refine wY ?_|refine wR ?_|refine wK ?_|refine wE ?_)
 refine ⟨by simp,_,⟨X',hS,rfl⟩,?_⟩
 simp [Jc0]
theorem Jfw (X:List (Int×Int)) (hX:∀ x ∈ X,DE x) (hl:X.length≤2000000) (a b:Nat) (hab:a < b) (hb:b≤X.length) (M:List Qae):∀ (m i:Nat) (f:Bool),i+m=b→a < i →
 wp tb (.loop Jee) { T:=[(0,O2 X),(1,I a),(2,I b),(3,fcE),(9,I i),(10,I 0)]++(if f then [(16,Bo true)] else []),loc:=[],M:=M }
  (fun ex st=>ex=.exit 2∧∃ i':Nat,(i≤i'∧i'≤b∧(∀ k,i≤k→k < i'→∀ h1 h2,Qao (X[k]'h1) (X[k - 1]'h2)=false))∧st={ T:=[(0,O2 X),(1,I a),(2,I b),(3,fcE),(9,I i'),(10,I 0),(36,Bo false)],loc:=[],M:=M }):=by
 intro m
 induction m with
 | zero =>
   intro i f hi ha
   have g1:¬ i < b:=by omega
   have g1':¬ (i:Int) < b:=by omega
   cases f
   all_goals
    simp only [if_true,if_false,Bool.false_eq_true,List.append_nil,List.cons_append,List.nil_append]
    refine wW ?_
    repeat (first|apply wA|apply wS|refine wr (by simp [g1,g1'];with_reducible rfl) ?_|refine wq (by simp [g1,g1'];with_reducible rfl) ?_|refine wt (by simpa [g1,g1']) ?_|refine wf (by simpa [g1,g1']) ?_|refine xt (by simpa [g1,g1']) ?_|refine xf (by simpa [g1,g1']) ?_|apply wB|apply Qaa|refine wX ?_|refine wY ?_|refine wR ?_|refine wK ?_|refine wE ?_)
    exact ⟨rfl,i,⟨Nat.le_refl _,by omega,fun k k1 k2=>by omega⟩,rfl⟩
 | succ m ih =>
   intro i f hi ha
   obtain ⟨p,rfl⟩:∃ p,i=p+1:=⟨i - 1,by omega⟩
   have hil:p+1 < X.length:=by omega
   have hpl:p < X.length:=by omega
   have g1:p+1 < b:=by omega
   have g1':(p:Int)+1 < b:=by omega
   have w1:IntKind.i64.wrap (p:Int)=(p:Int):=Qaj (by omega) (by omega)
   have w2:IntKind.i64.wrap ((p:Int)+1+1)=((p+1+1:Nat):Int):=by rw [Qaj (by omega) (by omega)];omega
   have hbl:=Qb4 X[p+1] X[p]
   have e1:=fun M=>Qab (Qff (hX _ (List.getElem_mem hil)) (hX _ (List.getElem_mem hpl)) M)
   cases f
   all_goals
    simp only [if_true,if_false,Bool.false_eq_true,List.append_nil,List.cons_append,List.nil_append]
    by_cases hc:Qnf X[p+1] X[p] < 0
    · refine wW ?_
      repeat (first|apply wA|apply wS|refine wr (by simp [g1,g1',hil,hpl,w1,e1,hc,w2];with_reducible rfl) ?_|refine wq (by simp [g1,g1',hil,hpl,w1,e1,hc,w2];with_reducible rfl) ?_|refine wt (by simpa [g1,g1',hil,hpl,w1,e1,hc,w2]) ?_|refine wf (by simpa [g1,g1',hil,hpl,w1,e1,hc,w2]) ?_|refine xt (by simpa [g1,g1',hil,hpl,w1,e1,hc,w2]) ?_|refine xf (by simpa [g1,g1',hil,hpl,w1,e1,hc,w2]) ?_|apply wB|apply Qaa|refine wX ?_|refine wY ?_|refine wR ?_|refine wK ?_|refine wE ?_)
      exact ⟨rfl,p+1,⟨Nat.le_refl _,by omega,fun k k1 k2=>by omega⟩,rfl⟩
    · have hbt:Qao X[p+1] X[p]=false:=by rw [← hbl];exact decide_eq_false hc
      refine wW ?_
      repeat (first|apply wA|apply wS|refine wr (by simp [g1,g1',hil,hpl,w1,e1,hc,w2];with_reducible rfl) ?_|refine wq (by simp [g1,g1',hil,hpl,w1,e1,hc,w2];with_reducible rfl) ?_|refine wt (by simpa [g1,g1',hil,hpl,w1,e1,hc,w2]) ?_|refine wf (by simpa [g1,g1',hil,hpl,w1,e1,hc,w2]) ?_|refine xt (by simpa [g1,g1',hil,hpl,w1,e1,hc,w2]) ?_|refine xf (by simpa [g1,g1',hil,hpl,w1,e1,hc,w2]) ?_|apply wB|apply Qaa|refine wX ?_|refine wY ?_|refine wR ?_|refine wK ?_|refine wE ?_)
      refine Qal (by simpa using ih (p+1+1) false (by omega) (by omega)) ?_
      rintro ex st ⟨rfl,i',⟨k1,k2,k3⟩,rfl⟩
      refine ⟨rfl,i',⟨by omega,k2,fun k q1 q2 h1 h2=>?_⟩,rfl⟩
      by_cases hk:k=p+1
      · subst hk;exact hbt
      · exact k3 k (by omega) q2 h1 h2
theorem Qlw (X:List (Int×Int)) (hX:∀ x ∈ X,DE x) (hl:X.length≤2000000) (a n:Nat) (h1:1≤n) (h49:n≤49) (hab:a+n≤X.length) (M:List Qae) :
 ∃ t:Bool,(t=true→∀ k,a < k→k < a+n→∀ h1 h2,Qao (X[k]'h1) (X[k - 1]'h2)=false)∧Ev tb Qua [0] [O2 X,I a,I ((a:Int)+n),fcE] M ⟨Bo t,[O2 X],M,[]⟩:=by
 have w00:(a:Int)+n - a=n:=by omega
 have w0:IntKind.i64.wrap (n:Int)=(n:Int):=Qaj (by omega) (by omega)
 have w1:IntKind.i64.wrap ((a:Int)+1)=((a+1:Nat):Int):=Qbe (by omega)
 have g1:(n:Int) < 50:=by omega
 have g1':n < 50:=by omega
 suffices hh:∃ r,(∃ t:Bool,(t=true→∀ k,a < k→k < a+n→∀ h1 h2,Qao (X[k]'h1) (X[k - 1]'h2)=false)∧r=⟨Bo t,[O2 X],M,[]⟩)∧Ev tb Qua [0] [O2 X,I a,I ((a:Int)+n),fcE] M r by
  obtain ⟨r,⟨t,q1,rfl⟩,q2⟩:=hh
  exact ⟨t,q1,q2⟩
 have hlo:=Jfw X hX hl a (a+n) (by omega) hab M (n - 1) (a+1) true (by omega) (by omega)
 rw [show ((a+n:Nat):Int)=(a:Int)+n by omega] at hlo
 refine Qel Jzx rfl ?_
 repeat (first|apply wA|apply wS|refine wr (by simp [w1];with_reducible rfl) ?_|refine wq (by simp [w1];with_reducible rfl) ?_|refine wt (by simpa [w1]) ?_|refine wf (by simpa [w1]) ?_|refine xt (by simpa [w1]) ?_|refine xf (by simpa [w1]) ?_|apply wB|apply Qaa|refine wX ?_|refine wY ?_|refine wR ?_|refine wK ?_|refine wE ?_)
 refine wW ?_
 repeat (first|apply wA|apply wS|refine wr (by simp;with_reducible rfl) ?_|refine wq (by simp;with_reducible rfl) ?_|refine wt (by simpa) ?_|refine wf (by simpa) ?_|refine xt (by simpa) ?_|refine xf (by simpa) ?_|apply wB|apply Qaa|refine wX ?_|refine wY ?_|refine wR ?_|refine wK ?_|refine wE ?_)
 refine Qal hlo ?_
 rintro ex st ⟨rfl,i',⟨k1,k2,k3⟩,rfl⟩
 try simp only [if_true]
 by_cases hi:i'=a+n
 · have g2:((i':Nat):Int)=(a:Int)+n:=by omega
   repeat (first|apply wA|apply wS|refine wr (by simp [g2];with_reducible rfl) ?_|refine wq (by simp [g2];with_reducible rfl) ?_|refine wt (by simpa [g2]) ?_|refine wf (by simpa [g2]) ?_|refine xt (by simpa [g2]) ?_|refine xf (by simpa [g2]) ?_|apply wB|apply Qaa|refine wX ?_|refine wY ?_|refine wR ?_|refine wK ?_|refine wE ?_)
   refine ⟨.inr rfl,_,⟨true,fun _ k q1 q2=>k3 k (by omega) (by omega),rfl⟩,?_⟩
   simp [Qy8]
 · have g2:¬ ((i':Nat):Int)=(a:Int)+n:=by omega
   repeat (first|apply wA|apply wS|refine wr (by simp [g2,w00,w0,g1,g1'];with_reducible rfl) ?_|refine wq (by simp [g2,w00,w0,g1,g1'];with_reducible rfl) ?_|refine wt (by simpa [g2,w00,w0,g1,g1']) ?_|refine wf (by simpa [g2,w00,w0,g1,g1']) ?_|refine xt (by simpa [g2,w00,w0,g1,g1']) ?_|refine xf (by simpa [g2,w00,w0,g1,g1']) ?_|apply wB|apply Qaa|refine wX ?_|refine wY ?_|refine wR ?_|refine wK ?_|refine wE ?_)
   refine ⟨.inr rfl,_,⟨false,(fun h=>nomatch h),rfl⟩,?_⟩
   simp [Qy8]
end Go.Idl
namespace Go.Idl
open Go
def nl2:List (Int×Int)→IV
 | []=>Z
 | e::es=>O2 (e::es)
@[simp] theorem Je9:nl2 []=Z:=rfl
@[simp] theorem Jyd (e:Int×Int) (es:List (Int×Int)):nl2 (e::es)=O2 (e::es):=rfl
theorem Jf3 (acc:List (Int×Int)) (e:Int×Int):nl2 (acc++[e])=O2 (acc++[e]):=by
 cases acc <;> rfl
theorem Qlr (a b:Int) (M:List Qae):Ev tb Jbh [] [I a,I b] M ⟨.agg [I (min a b),I (max a b)],[],M,[]⟩:=by
 have h1:(if b < a then b else a)=min a b:=Jtc a b
 have h2:(if a < b then b else a)=max a b:=Jps a b
 refine cW zt36 rfl ?_
 repeat (first|apply wA|apply wS|refine wr (by simp;with_reducible rfl) ?_|refine wq (by simp;with_reducible rfl) ?_|refine wt (by simpa) ?_|refine wf (by simpa) ?_|refine xt (by simpa) ?_|refine xf (by simpa) ?_|apply wB|apply Qaa|refine wX ?_|refine wY ?_|refine wR ?_|refine wK ?_|refine wE ?_)
 simp [Jxu,h1,h2]
theorem Qp3 (n a:Nat) (hn:n≤1000):∀ (m b:Nat) (acc:List (Int×Int)),b+m=n→acc.length+m≤2000000 →
 wp tb (.loop Jex) { T:=[(0,I n),(3,nl2 acc),(4,I a),(5,I b),(6,I n),(7,I a)],loc:=[],M:=[] }
  (fun ex st=>ex=.exit 2∧st={ T:=[(0,I n),(3,nl2 (acc++row a b m)),(4,I a),(5,I n),(6,I n),(7,I a),(14,Bo false)],loc:=[],M:=[] }):=by
 intro m
 induction m with
 | zero =>
   intro b acc hb hl
   have h3:b=n:=hb
   subst h3
   refine wW ?_
   cases acc with
   | nil =>
     repeat (first|apply wA|apply wS|refine wr (by simp;with_reducible rfl) ?_|refine wq (by simp;with_reducible rfl) ?_|refine wt (by simpa) ?_|refine wf (by simpa) ?_|refine xt (by simpa) ?_|refine xf (by simpa) ?_|apply wB|apply Qaa|refine wX ?_|refine wY ?_|refine wR ?_|refine wK ?_|refine wE ?_)
     exact ⟨rfl,by simp [row]⟩
   | cons e acc =>
     repeat (first|apply wA|apply wS|refine wr (by simp;with_reducible rfl) ?_|refine wq (by simp;with_reducible rfl) ?_|refine wt (by simpa) ?_|refine wf (by simpa) ?_|refine xt (by simpa) ?_|refine xf (by simpa) ?_|apply wB|apply Qaa|refine wX ?_|refine wY ?_|refine wR ?_|refine wK ?_|refine wE ?_)
     exact ⟨rfl,by simp [row]⟩
 | succ m ih =>
   intro b acc hb hl
   have hi2:b < n:=by omega
   have w1:IntKind.i64.wrap ((b:Int)+1)=((b+1:Nat):Int):=Qbe (by omega)
   have hn':=ih (b+1) (acc++[((a:Int),(b:Int))]) (by omega) (by simp;omega)
   rw [Jf3] at hn'
   have hrow:acc++row a b (m+1)=(acc++[((a:Int),(b:Int))])++row a (b+1) m:=by simp [row]
   rw [hrow]
   have hl2:acc.length+1≤274877906944:=by omega
   cases acc with
   | nil =>
     refine wW ?_
     repeat (first|apply wA|apply wS|refine wr (by simp [hi2,w1];with_reducible rfl) ?_|refine wq (by simp [hi2,w1];with_reducible rfl) ?_|refine wt (by simpa [hi2,w1]) ?_|refine wf (by simpa [hi2,w1]) ?_|refine xt (by simpa [hi2,w1]) ?_|refine xf (by simpa [hi2,w1]) ?_|apply wB|apply Qaa|refine wX ?_|refine wY ?_|refine wR ?_|refine wK ?_|refine wE ?_)
     exact hn'
   | cons e acc =>
     have ht:(e::acc).take (acc.length+1)=e::acc:=by rw [List.take_of_length_le (by simp)]
     have hl3:acc.length+1+1≤274877906944:=by simp at hl2;omega
     refine wW ?_
     repeat (first|apply wA|apply wS|refine wr (by simp [hi2,w1,hl3,ht];with_reducible rfl) ?_|refine wq (by simp [hi2,w1,hl3,ht];with_reducible rfl) ?_|refine wt (by simpa [hi2,w1,hl3,ht]) ?_|refine wf (by simpa [hi2,w1,hl3,ht]) ?_|refine xt (by simpa [hi2,w1,hl3,ht]) ?_|refine xf (by simpa [hi2,w1,hl3,ht]) ?_|apply wB|apply Qaa|refine wX ?_|refine wY ?_|refine wR ?_|refine wK ?_|refine wE ?_)
     exact hn'
theorem Qgm (n:Nat) (hn:n≤1000):Ev tb Qxf [] [I n] [] ⟨nl2 (prs n),[],[],[]⟩:=by
 have loop:∀ (m a:Nat) (acc:List (Int×Int)),a+m=n→acc.length+m * 1001≤1500000→wp tb (.loop Qy9) { T:=[(0,I n),(3,nl2 acc),(6,I n),(7,I a)],loc:=[],M:=[] }
  (fun ex st=>ex=.exit 0∧st={ T:=[(0,I n),(3,nl2 (acc++Qld a m)),(6,I n),(7,I n),(8,Bo false)],loc:=[],M:=[] }):=by
  intro m
  induction m with
  | zero =>
    intro a acc ha hl
    have h3:a=n:=ha
    subst h3
    refine wW ?_
    cases acc with
    | nil =>
      repeat (first|apply wA|apply wS|refine wr (by simp;with_reducible rfl) ?_|refine wq (by simp;with_reducible rfl) ?_|refine wt (by simpa) ?_|refine wf (by simpa) ?_|refine xt (by simpa) ?_|refine xf (by simpa) ?_|apply wB|apply Qaa|refine wX ?_|refine wY ?_|refine wR ?_|refine wK ?_|refine wE ?_)
      exact ⟨rfl,by simp [Qld]⟩
    | cons e acc =>
      repeat (first|apply wA|apply wS|refine wr (by simp;with_reducible rfl) ?_|refine wq (by simp;with_reducible rfl) ?_|refine wt (by simpa) ?_|refine wf (by simpa) ?_|refine xt (by simpa) ?_|refine xf (by simpa) ?_|apply wB|apply Qaa|refine wX ?_|refine wY ?_|refine wR ?_|refine wK ?_|refine wE ?_)
      exact ⟨rfl,by simp [Qld]⟩
  | succ m ih =>
    intro a acc ha hl
    have hi2:a < n:=by omega
    have w1:IntKind.i64.wrap ((a:Int)+1)=((a+1:Nat):Int):=Qbe (by omega)
    have hin:=Qp3 n a hn m (a+1) acc (by omega) (by omega)
    have hout:=ih (a+1) (acc++row a (a+1) m) (by omega) (by rw [List.length_append,Qma,Nat.succ_mul] at *;omega)
    have hr:acc++Qld a (m+1)=(acc++row a (a+1) m)++Qld (a+1) m:=by simp [Qld]
    rw [hr]
    generalize acc++row a (a+1) m=acc2 at *
    refine wW ?_
    cases acc with
    | nil =>
      repeat (first|apply wA|apply wS|refine wr (by simp [hi2,w1];with_reducible rfl) ?_|refine wq (by simp [hi2,w1];with_reducible rfl) ?_|refine wt (by simpa [hi2,w1]) ?_|refine wf (by simpa [hi2,w1]) ?_|refine xt (by simpa [hi2,w1]) ?_|refine xf (by simpa [hi2,w1]) ?_|apply wB|apply Qaa|refine wX ?_|refine wY ?_|refine wR ?_|refine wK ?_|refine wE ?_)
      refine Qal hin ?_
      rintro ex st ⟨rfl,rfl⟩
      try simp only [if_true]
      cases acc2 <;>
      repeat (first|apply wA|apply wS|refine wr (by simp [w1];with_reducible rfl) ?_|refine wq (by simp [w1];with_reducible rfl) ?_|refine wt (by simpa [w1]) ?_|refine wf (by simpa [w1]) ?_|refine xt (by simpa [w1]) ?_|refine xf (by simpa [w1]) ?_|apply wB|apply Qaa|refine wX ?_|refine wY ?_|refine wR ?_|refine wK ?_|refine wE ?_)
      · exact hout
      · exact hout
    | cons e acc =>
      repeat (first|apply wA|apply wS|refine wr (by simp [hi2,w1];with_reducible rfl) ?_|refine wq (by simp [hi2,w1];with_reducible rfl) ?_|refine wt (by simpa [hi2,w1]) ?_|refine wf (by simpa [hi2,w1]) ?_|refine xt (by simpa [hi2,w1]) ?_|refine xf (by simpa [hi2,w1]) ?_|apply wB|apply Qaa|refine wX ?_|refine wY ?_|refine wR ?_|refine wK ?_|refine wE ?_)
      refine Qal hin ?_
      rintro ex st ⟨rfl,rfl⟩
      try simp only [if_true]
      cases acc2 <;>
      repeat (first|apply wA|apply wS|refine wr (by simp [w1];with_reducible rfl) ?_|refine wq (by simp [w1];with_reducible rfl) ?_|refine wt (by simpa [w1]) ?_|refine wf (by simpa [w1]) ?_|refine xt (by simpa [w1]) ?_|refine xf (by simpa [w1]) ?_|apply wB|apply Qaa|refine wX ?_|refine wY ?_|refine wR ?_|refine wK ?_|refine wE ?_)
      · exact hout
      · exact hout
 refine cW Jz8 rfl ?_
 repeat (first|apply wA|apply wS|refine wr (by simp;with_reducible rfl) ?_|refine wq (by simp;with_reducible rfl) ?_|refine wt (by simpa) ?_|refine wf (by simpa) ?_|refine xt (by simpa) ?_|refine xf (by simpa) ?_|apply wB|apply Qaa|refine wX ?_|refine wY ?_|refine wR ?_|refine wK ?_|refine wE ?_)
 refine Qal (loop n 0 [] (by simp) (by simp;omega)) ?_
 rintro ex st ⟨rfl,rfl⟩
 try simp only [if_true]
 rw [List.nil_append,← prs]
 cases hp:prs n <;>
 repeat (first|apply wA|apply wS|refine wr (by simp;with_reducible rfl) ?_|refine wq (by simp;with_reducible rfl) ?_|refine wt (by simpa) ?_|refine wf (by simpa) ?_|refine xt (by simpa) ?_|refine xf (by simpa) ?_|apply wB|apply Qaa|refine wX ?_|refine wY ?_|refine wR ?_|refine wK ?_|refine wE ?_)
 · simp [Qxy]
 · simp [Qxy]
end Go.Idl
namespace Go.Idl
open Go
def Jah (e:Int×Int):Int→List (Int×Int)→Int
 | _,[]=>-1
 | i,x::r=>if x=e then i else Jah e (i+1) r
theorem Qvz (e:Int×Int):∀ (xs:List (Int×Int)) (i:Int),0≤i→(decide (0≤Jah e i xs)=xs.any fun x=>decide (x=e))
 | [],i,h=>by simp [Jah]
 | x::r,i,h=>by
   unfold Jah
   by_cases hp:x=e
   · simp [hp,h]
   · simp [hp];simpa using Qvz e r (i+1) (by omega)
theorem Qxp (e0:Nat) (es:List (Int×Int)) (c:Bool) (e:Int×Int) (he0:e0=2 ∨ es=[]) (hl:es.length≤100000000) (M:List Qae) :
 Ev tb Qwp [] [.lst e0 (eds es) c,.agg [I e.1,I e.2]] M ⟨I (Jah e 0 es),[],M,[]⟩:=by
 have loop:∀ (m i:Nat),i+m=es.length→wp tb (.loop Jem) { T:=[(0,.lst e0 (eds es) c),(3,.bptr M.length 0 0),(7,I es.length),(8,I i)],loc:=[[I e.1,I e.2]],M:=M }
  (fun ex st=>(ex=.exit 0∧Jah e i (es.drop i)=-1∧st={ T:=[(0,.lst e0 (eds es) c),(3,.bptr M.length 0 0),(7,I es.length),(8,I es.length),(9,Bo false)],loc:=[[I e.1,I e.2]],M:=M }) ∨
    (ex=.ret∧st={ T:=[(4,I (Jah e i (es.drop i)))],loc:=[[I e.1,I e.2]],M:=M })):=by
  intro m
  induction m with
  | zero =>
    intro i hi
    have h3:i=es.length:=hi
    subst h3
    refine wW ?_
    repeat (first|apply wA|apply wS|refine wr (by simp;with_reducible rfl) ?_|refine wq (by simp;with_reducible rfl) ?_|refine wt (by simpa) ?_|refine wf (by simpa) ?_|refine xt (by simpa) ?_|refine xf (by simpa) ?_|apply wB|apply Qaa|refine wX ?_|refine wY ?_|refine wR ?_|refine wK ?_|refine wE ?_)
    exact .inl ⟨rfl,by simp [Jah],rfl⟩
  | succ m ih =>
    intro i hi
    have hi2:i < es.length:=by omega
    have he:e0=2:=by
     rcases he0 with h | h
     · exact h
     · rw [h] at hi2;simp at hi2
    subst he
    have hd:es.drop i=es[i]::es.drop (i+1):=List.drop_eq_getElem_cons hi2
    have w1:IntKind.i64.wrap ((i:Int)+1)=((i+1:Nat):Int):=Qbe (by omega)
    rw [hd]
    by_cases hq:es[i]=e
    · have h1:e.1=es[i].1:=by rw [hq]
      have h2:e.2=es[i].2:=by rw [hq]
      refine wW ?_
      repeat (first|apply wA|apply wS|refine wr (by simp [hi2,h1,h2,w1];with_reducible rfl) ?_|refine wq (by simp [hi2,h1,h2,w1];with_reducible rfl) ?_|refine wt (by simpa [hi2,h1,h2,w1]) ?_|refine wf (by simpa [hi2,h1,h2,w1]) ?_|refine xt (by simpa [hi2,h1,h2,w1]) ?_|refine xf (by simpa [hi2,h1,h2,w1]) ?_|apply wB|apply Qaa|refine wX ?_|refine wY ?_|refine wR ?_|refine wK ?_|refine wE ?_)
      exact .inr ⟨rfl,by simp [Jah,hq]⟩
    · have h3:(e.1 == es[i].1 && e.2 == es[i].2)=false:=by
       rw [← Bool.not_eq_true,Qba,beq_iff_eq,beq_iff_eq]
       rintro ⟨h1,h2⟩
       exact hq (by ext <;> simp [h1,h2])
      have hn:=ih (i+1) (by omega)
      simp only [Jah,hq,if_false]
      refine wW ?_
      repeat (first|apply wA|apply wS|refine wr (by simp [hi2,h3,w1];with_reducible rfl) ?_|refine wq (by simp [hi2,h3,w1];with_reducible rfl) ?_|refine wt (by simpa [hi2,h3,w1]) ?_|refine wf (by simpa [hi2,h3,w1]) ?_|refine xt (by simpa [hi2,h3,w1]) ?_|refine xf (by simpa [hi2,h3,w1]) ?_|apply wB|apply Qaa|refine wX ?_|refine wY ?_|refine wR ?_|refine wK ?_|refine wE ?_)
      exact hn
 refine cW zt269 rfl ?_
 repeat (first|apply wA|apply wS|refine wr (by simp;with_reducible rfl) ?_|refine wq (by simp;with_reducible rfl) ?_|refine wt (by simpa) ?_|refine wf (by simpa) ?_|refine xt (by simpa) ?_|refine xf (by simpa) ?_|apply wB|apply Qaa|refine wX ?_|refine wY ?_|refine wR ?_|refine wK ?_|refine wE ?_)
 refine Qal (loop es.length 0 (by simp)) ?_
 rintro ex st (⟨rfl,h,rfl⟩ | ⟨rfl,rfl⟩)
 · try simp only [if_true]
   repeat (first|apply wA|apply wS|refine wr (by simp;with_reducible rfl) ?_|refine wq (by simp;with_reducible rfl) ?_|refine wt (by simpa) ?_|refine wf (by simpa) ?_|refine xt (by simpa) ?_|refine xf (by simpa) ?_|apply wB|apply Qaa|refine wX ?_|refine wY ?_|refine wR ?_|refine wK ?_|refine wE ?_)
   simp only [List.drop_zero] at h
   simp [Qwu]
   exact h.symm
 · simp [Qwu]
theorem Qn7 (e0:Nat) (es:List (Int×Int)) (c:Bool) (e:Int×Int) (he0:e0=2 ∨ es=[]) (hl:es.length≤100000000) (M:List Qae) :
 Ev tb Qyj [] [.lst e0 (eds es) c,.agg [I e.1,I e.2]] M ⟨Bo (es.any fun x=>decide (x=e)),[],M,[]⟩:=by
 have e1:=Qab (Qxp e0 es c e he0 hl [])
 have h:=Qvz e es 0 (by omega)
 refine cW zt263 rfl ?_
 repeat (first|apply wA|apply wS|refine wr (by simp [e1];with_reducible rfl) ?_|refine wq (by simp [e1];with_reducible rfl) ?_|refine wt (by simpa [e1]) ?_|refine wf (by simpa [e1]) ?_|refine xt (by simpa [e1]) ?_|refine xf (by simpa [e1]) ?_|apply wB|apply Qaa|refine wX ?_|refine wY ?_|refine wR ?_|refine wK ?_|refine wE ?_)
 simp [Jde,h]
def Qi9 (es:List (Int×Int)) (a b:Int):Bool:=es.any fun x=>decide (x=(min a b,max a b))
theorem Qxw (n:Int) (e0:Nat) (es:List (Int×Int)) (c:Bool) (a b:Int) (he0:e0=2 ∨ es=[]) (hl:es.length≤100000000) (M:List Qae) :
 Ev tb Qkz [] [.agg [I n,.lst e0 (eds es) c],I a,I b] M ⟨Bo (Qi9 es a b),[],M,[]⟩:=by
 have e1:=Qab (Qlr a b [])
 have e2:=Qab (Qn7 e0 es c (min a b,max a b) he0 hl [])
 refine cW zt171 rfl ?_
 repeat (first|apply wA|apply wS|refine wr (by simp;with_reducible rfl) ?_|refine wq (by simp;with_reducible rfl) ?_|refine wt (by simpa) ?_|refine wf (by simpa) ?_|refine xt (by simpa) ?_|refine xf (by simpa) ?_|apply wB|apply Qaa|refine wX ?_|refine wY ?_|refine wR ?_|refine wK ?_|refine wE ?_)
 refine Qdt (by simp [e1,e2];with_reducible rfl) (by simp;with_reducible rfl) ?_ ?_
 · intro p hp
   simp only [List.mem_cons,List.not_mem_nil,or_false] at hp
   subst hp
   exact ⟨_,by simp [e1,e2];with_reducible rfl,by simp⟩
 repeat (first|apply wA|apply wS|refine wr (by simp;with_reducible rfl) ?_|refine wq (by simp;with_reducible rfl) ?_|refine wt (by simpa) ?_|refine wf (by simpa) ?_|refine xt (by simpa) ?_|refine xf (by simpa) ?_|apply wB|apply Qaa|refine wX ?_|refine wY ?_|refine wR ?_|refine wK ?_|refine wE ?_)
 simp [Jdc,Qi9]
theorem Jap (xs:List (Int×Int)):Ev tb Qzk [] [O2 xs] [] ⟨O2 xs,[],[],[]⟩:=by
 refine cW zt258 rfl ?_
 repeat (first|apply wA|apply wS|refine wr (by simp;with_reducible rfl) ?_|refine wq (by simp;with_reducible rfl) ?_|refine wt (by simpa) ?_|refine wf (by simpa) ?_|refine xt (by simpa) ?_|refine xf (by simpa) ?_|apply wB|apply Qaa|refine wX ?_|refine wY ?_|refine wR ?_|refine wK ?_|refine wE ?_)
 simp [Jb1]
end Go.Idl
namespace Go.Idl
open Go
theorem Qis (n:Nat) (es:List (Int×Int)) (c:Bool) (hn:n≤1000) (hl:es.length≤1000) (he:Qh6 n es) :
 Ev tb zl9 [] [Gr n es c] [] ⟨O (Qco n es),[],[],[]⟩:=by
 have loop:∀ (m i:Nat) (out:List Int) (bs:Qae),i+m=es.length→out.length=n→(∀ x ∈ out,0≤x∧x≤2 * i) →
  wp tb (.loop z9l8) { T:=[(1,.bptr 0 0 0),(3,O out),(10,L2 es c),(11,I es.length),(12,I i)],loc:=[I n,L2 es c]::bs,M:=[] }
  (fun ex st=>ex=.exit 0∧∃ bs',st={ T:=[(1,.bptr 0 0 0),(3,O (Qiy out (es.drop i))),(10,L2 es c),(11,I es.length),(12,I es.length),(13,Bo false)],loc:=[I n,L2 es c]::bs',M:=[] }):=by
  intro m
  induction m with
  | zero =>
    intro i out bs hi ho hb
    have h3:i=es.length:=hi
    subst h3
    refine wW ?_
    repeat (first|apply wA|apply wS|refine wr (by simp;with_reducible rfl) ?_|refine wq (by simp;with_reducible rfl) ?_|refine wt (by simpa) ?_|refine wf (by simpa) ?_|refine xt (by simpa) ?_|refine xf (by simpa) ?_|apply wB|apply Qaa|refine wX ?_|refine wY ?_|refine wR ?_|refine wK ?_|refine wE ?_)
    exact ⟨rfl,bs,by simp [Qiy]⟩
  | succ m ih =>
    intro i out bs hi ho hb
    have hi2:i < es.length:=by omega
    have w1:IntKind.i64.wrap ((i:Int)+1)=((i+1:Nat):Int):=Qbe (by omega)
    have hd:es.drop i=es[i]::es.drop (i+1):=List.drop_eq_getElem_cons hi2
    have hei:=he es[i] (List.getElem_mem hi2)
    obtain ⟨p,q,hpq,hp,hq⟩:∃ p q:Nat,es[i]=((p:Int),(q:Int))∧p < n∧q < n:=⟨es[i].1.toNat,es[i].2.toNat,by ext <;> simp <;> omega,by omega,by omega⟩
    rw [hd,hpq]
    have hpo:p < out.length:=by omega
    have hx:=hb out[p] (List.getElem_mem hpo)
    have w2:IntKind.i64.wrap (out[p]+1)=out[p]+1:=Qaj (by omega) (by omega)
    have e1:=Qws hpo
    have b1:=Qk9 (i:=p) hb (by omega)
    have l1:=Qhb out p
    have hstep:Qiy out (((p:Int),(q:Int))::es.drop (i+1))=Qiy (Qo8 (Qo8 out p) q) (es.drop (i+1)):=rfl
    rw [hstep]
    refine wW ?_
    repeat (first|apply wA|apply wS|refine wr (by simp [hi2,hpq];with_reducible rfl) ?_|refine wq (by simp [hi2,hpq];with_reducible rfl) ?_|refine wt (by simpa [hi2,hpq]) ?_|refine wf (by simpa [hi2,hpq]) ?_|refine xt (by simpa [hi2,hpq]) ?_|refine xf (by simpa [hi2,hpq]) ?_|apply wB|apply Qaa|refine wX ?_|refine wY ?_|refine wR ?_|refine wK ?_|refine wE ?_)
    refine wr (by simp [hi2,hpq,hpo,w2,← e1];with_reducible rfl) ?_
    generalize Qo8 out p=out1 at *
    have hqo:q < out1.length:=by omega
    have hx2:=b1 out1[q] (List.getElem_mem hqo)
    have w3:IntKind.i64.wrap (out1[q]+1)=out1[q]+1:=Qaj (by omega) (by omega)
    have e2:=Qws hqo
    have b2:=Qk9 (i:=q) b1 (by omega)
    have l2:=Qhb out1 q
    refine wq (by simp [hi2,hpq,hqo,w3,← e2];with_reducible rfl) ?_
    repeat (first|apply wA|apply wS|refine wr (by simp [w1];with_reducible rfl) ?_|refine wq (by simp [w1];with_reducible rfl) ?_|refine wt (by simpa [w1]) ?_|refine wf (by simpa [w1]) ?_|refine xt (by simpa [w1]) ?_|refine xf (by simpa [w1]) ?_|apply wB|apply Qaa|refine wX ?_|refine wY ?_|refine wR ?_|refine wK ?_|refine wE ?_)
    exact ih (i+1) (Qo8 out1 q) _ (by omega) (by omega) (fun x hx=>by have:=b2 x hx;omega)
 refine cW zt9 rfl ?_
 repeat (first|apply wA|apply wS|refine wr (by simp [show n≤274877906944 by omega];with_reducible rfl) ?_|refine wq (by simp [show n≤274877906944 by omega];with_reducible rfl) ?_|refine wt (by simpa [show n≤274877906944 by omega]) ?_|refine wf (by simpa [show n≤274877906944 by omega]) ?_|refine xt (by simpa [show n≤274877906944 by omega]) ?_|refine xf (by simpa [show n≤274877906944 by omega]) ?_|apply wB|apply Qaa|refine wX ?_|refine wY ?_|refine wR ?_|refine wK ?_|refine wE ?_)
 have:=loop es.length 0 (List.replicate n 0) [] (by simp) (by simp) (by intro x hx;have:=List.eq_of_mem_replicate hx;subst this;simp)
 simp at this
 refine Qal this ?_
 rintro ex st ⟨rfl,bs,rfl⟩
 try simp only [if_true]
 repeat (first|apply wA|apply wS|refine wr (by simp;with_reducible rfl) ?_|refine wq (by simp;with_reducible rfl) ?_|refine wt (by simpa) ?_|refine wf (by simpa) ?_|refine xt (by simpa) ?_|refine xf (by simpa) ?_|apply wB|apply Qaa|refine wX ?_|refine wY ?_|refine wR ?_|refine wK ?_|refine wE ?_)
 simp [zi9,Qco]
theorem Qxg (n:Int):∀ (p:Option (Int×Int)) (es:List (Int×Int)),vEs n p es=true→∀ e ∈ es,okE n e=true
 | _,[],_=>by simp
 | none,e::r,h=>by
   simp only [vEs,Qba] at h
   intro x hx
   rcases List.mem_cons.1 hx with rfl | hx
   · exact h.1
   · exact Qxg n _ r h.2 x hx
 | some q,e::r,h=>by
   simp only [vEs,Qba] at h
   intro x hx
   rcases List.mem_cons.1 hx with rfl | hx
   · exact h.1
   · exact Qxg n _ r h.2.2 x hx
theorem Qse {n:Int} {es:List (Int×Int)} (h:Qac n es=true):∀ e ∈ es,0≤e.1∧e.1 < e.2∧e.2 < n:=by
 simp only [Qac,Qba] at h
 intro e he
 have:=Qxg n none es h.1 e he
 simpa [okE] using this
theorem vG_in {n:Nat} {es:List (Int×Int)} (h:Qac n es=true):Qh6 n es:=fun e he=>by
 have:=Qse h e he;omega
theorem vG_n {n:Int} {es:List (Int×Int)} (h:Qac n es=true):0≤n∧n≤7:=by
 simp only [Qac,Qba,decide_eq_true_eq] at h;omega
theorem Qec (n:Nat) (es:List (Int×Int)) (c:Bool) (hf:Fit es) (hl:es.length≤1000) (hv:Qac n es=true):Ev tb Qta [] [Gr n es c] [] ⟨O (Qco n es),[],[],[]⟩:=by
 have hn:=(vG_n hv).2
 have e1:=Qab (Qbb n es c hf (by omega))
 have e2:=Qab (Qis n es c (by omega) hl (vG_in hv))
 refine cW Jzw rfl ?_
 repeat (first|apply wA|apply wS|refine wr (by simp [e1,e2,hv];with_reducible rfl) ?_|refine wq (by simp [e1,e2,hv];with_reducible rfl) ?_|refine wt (by simpa [e1,e2,hv]) ?_|refine wf (by simpa [e1,e2,hv]) ?_|refine xt (by simpa [e1,e2,hv]) ?_|refine xf (by simpa [e1,e2,hv]) ?_|apply wB|apply Qaa|refine wX ?_|refine wY ?_|refine wR ?_|refine wK ?_|refine wE ?_)
 simp [Jds]
end Go.Idl
namespace Go.Idl
def S {α:Type} (l:List α) (f:α→Int):Int:=(l.map f).sum
@[simp] theorem S_nil {α:Type} (f:α→Int):S [] f=0:=rfl
@[simp] theorem Qic {α:Type} (a:α) (l:List α) (f:α→Int):S (a::l) f=f a+S l f:=by simp [S]
theorem Jyx {α:Type} (l k:List α) (f:α→Int):S (l++k) f=S l f+S k f:=by simp [S]
theorem Jd9 {α:Type} {l k:List α} (h:l.Perm k) (f:α→Int):S l f=S k f:=Jcu (h.map f)
theorem Jsb {α:Type} (l:List α):S l (fun _=>0)=0:=by
 induction l with
 | nil=>rfl
 | cons a l ih=>simp [ih]
theorem S_le {α:Type} {l:List α} {f g:α→Int} (h:∀ a ∈ l,f a≤g a):S l f≤S l g:=by
 induction l with
 | nil=>simp
 | cons a l ih =>
   have h1:=h a (by simp)
   have h2:=ih fun b hb=>h b (by simp [hb])
   simp only [Qic];omega
theorem Jbo {α:Type} {l:List α} {f:α→Int} (h:∀ a ∈ l,0≤f a):0≤S l f:=by
 have:=S_le (l:=l) (f:=fun _=>0) h
 rwa [Jsb] at this
theorem Jbp {α:Type} (l:List α) (p:α→Bool) (f:α→Int):S (l.filter p) f+S (l.filter fun a=>!p a) f=S l f:=by
 induction l with
 | nil=>rfl
 | cons a l ih =>
   cases hp:p a with
   | true=>simp only [List.filter_cons,hp,if_true,Bool.not_true,Bool.false_eq_true,if_false,Qic];omega
   | false=>simp only [List.filter_cons,hp,if_true,Bool.not_false,Bool.false_eq_true,if_false,Qic];omega
theorem Qgs (a b:Int×Int):Qao a b=true ↔ a.1 < b.1 ∨ (a.1=b.1∧a.2 < b.2):=by simp [Qao]
theorem Qds {a b c:Int×Int} (h:Qao a b=true) (k:Qao b c=true):Qao a c=true:=by
 rw [Qgs] at *;omega
theorem Qhe {a b:Int×Int} (h:Qao a b=true):a ≠ b:=by
 rintro rfl;rw [Qgs] at h;omega
abbrev PW (es:List (Int×Int)):Prop:=es.Pairwise fun a b=>Qao a b=true
theorem Qu7 (n:Int):∀ (p:Option (Int×Int)) (es:List (Int×Int)),vEs n p es=true→PW es∧(∀ q,p=some q→∀ e ∈ es,Qao q e=true)
 | p,[],_=>⟨.nil,by simp⟩
 | none,e::r,h=>by
   simp only [vEs,Qba] at h
   obtain ⟨h1,h2⟩:=Qu7 n (some e) r h.2
   exact ⟨List.pairwise_cons.2 ⟨h2 e rfl,h1⟩,by simp⟩
 | some q,e::r,h=>by
   simp only [vEs,Qba] at h
   obtain ⟨h1,h2⟩:=Qu7 n (some e) r h.2.2
   refine ⟨List.pairwise_cons.2 ⟨h2 e rfl,h1⟩,fun q' hq' x hx=>?_⟩
   cases hq'
   rcases List.mem_cons.1 hx with rfl | hx
   · exact h.2.1
   · exact Qds h.2.1 (h2 e rfl x hx)
theorem Qyy (n:Int):∀ (p:Option (Int×Int)) (es:List (Int×Int)),PW es→(∀ q,p=some q→∀ e ∈ es,Qao q e=true)→(∀ e ∈ es,okE n e=true)→vEs n p es=true
 | p,[],_,_,_=>by cases p <;> rfl
 | none,e::r,h,_,ho=>by
   have h':=List.pairwise_cons.1 h
   simp only [vEs,Qba]
   exact ⟨ho e (by simp),Qyy n (some e) r h'.2 (fun q hq x hx=>by cases hq;exact h'.1 x hx) fun x hx=>ho x (by simp [hx])⟩
 | some q,e::r,h,hq,ho=>by
   have h':=List.pairwise_cons.1 h
   simp only [vEs,Qba]
   exact ⟨ho e (by simp),hq q rfl e (by simp),Qyy n (some e) r h'.2 (fun q hq x hx=>by cases hq;exact h'.1 x hx) fun x hx=>ho x (by simp [hx])⟩
theorem Qep (a:Nat):∀ (m b:Nat) (e:Int×Int),e ∈ row a b m ↔ e.1=a∧(b:Int)≤e.2∧e.2 < b+m
 | 0,b,e=>by simp [row] <;> omega
 | m+1,b,e=>by
   rw [row,List.mem_cons,Qep a m (b+1) e]
   constructor
   · rintro (rfl | h)
     · simp;omega
     · omega
   · intro h
     by_cases h2:e.2=b
     · exact .inl (Prod.ext h.1 h2)
     · exact .inr (by omega)
theorem Qe9:∀ (m a:Nat) (e:Int×Int),e ∈ Qld a m ↔ (a:Int)≤e.1∧e.1 < e.2∧e.2 < a+m
 | 0,a,e=>by simp [Qld];omega
 | m+1,a,e=>by
   rw [Qld,List.mem_append,Qep,Qe9 m (a+1) e]
   omega
theorem Qay {n:Nat} {e:Int×Int}:e ∈ prs n ↔ 0≤e.1∧e.1 < e.2∧e.2 < n:=by
 rw [prs,Qe9];omega
theorem Jd4 (a:Nat):∀ (m b:Nat),PW (row a b m)
 | 0,b=>.nil
 | m+1,b=>by
   rw [row]
   refine List.pairwise_cons.2 ⟨fun e he=>?_,Jd4 a m (b+1)⟩
   rw [Qep] at he
   rw [Qgs];simp only;omega
theorem Qu6:∀ (m a:Nat),PW (Qld a m)
 | 0,a=>.nil
 | m+1,a=>by
   rw [Qld]
   refine List.pairwise_append.2 ⟨Jd4 a m (a+1),Qu6 m (a+1),fun x hx y hy=>?_⟩
   rw [Qep] at hx
   rw [Qe9] at hy
   rw [Qgs];omega
theorem Qsk (n:Nat):PW (prs n):=Qu6 n 0
theorem Qgf {es:List (Int×Int)} (h:PW es):es.Nodup:=h.imp fun h=>Qhe h
theorem Qif {xs ys:List (Int×Int)} (hx:PW xs) (hy:PW ys) (h:∀ e,e ∈ xs ↔ e ∈ ys):xs=ys:=by
 refine List.Perm.eq_of_pairwise (le:=fun a b=>Qao a b=true) (fun a b _ _ h1 h2=>absurd (Qds h1 h2) (fun h=>Qhe h rfl)) hx hy ?_
 exact (List.perm_ext_iff_of_nodup (Qgf hx) (Qgf hy)).2 h
theorem Qaz {n:Nat} {es:List (Int×Int)}:Qac n es=true ↔ PW es∧(∀ e ∈ es,e ∈ prs n)∧n≤7:=by
 constructor
 · intro h
   have h1:=vG_n h
   have h2:=Qse h
   simp only [Qac,Qba] at h
   exact ⟨(Qu7 n none es h.1).1,fun e he=>Qay.2 (h2 e he),by omega⟩
 · rintro ⟨h1,h2,h3⟩
   simp only [Qac,Qba,decide_eq_true_eq]
   refine ⟨Qyy n none es h1 (by simp) fun e he=>?_,by omega,by omega⟩
   have:=Qay.1 (h2 e he)
   simp only [okE,Qba,decide_eq_true_eq];omega
theorem Qwm {n:Nat} {es:List (Int×Int)} (h:Qac n es=true):es=(prs n).filter fun e=>decide (e ∈ es):=by
 obtain ⟨h1,h2,h3⟩:=Qaz.1 h
 refine Qif h1 ((Qsk n).filter _) fun e=>?_
 rw [List.mem_filter,decide_eq_true_eq]
 exact ⟨fun he=>⟨h2 e he,he⟩,fun he=>he.2⟩
theorem Qn1 {n:Nat} {es:List (Int×Int)} (h:Qac n es=true):es.Sublist (prs n):=by
 rw [Qwm h];exact List.filter_sublist
theorem Ja0 {n:Nat} {es:List (Int×Int)} {e:Int×Int} (he:e ∈ prs n):Qi9 es e.1 e.2=decide (e ∈ es):=by
 have:=Qay.1 he
 have h1:(min e.1 e.2,max e.1 e.2)=e:=Prod.ext (by simp;omega) (by simp;omega)
 rw [Qi9,h1,Bool.eq_iff_iff,List.any_eq_true,decide_eq_true_eq]
 exact ⟨fun ⟨x,hx,h⟩=>by rw [decide_eq_true_eq] at h;rw [← h];exact hx,fun h=>⟨e,h,by simp⟩⟩
def inc (v:Nat) (e:Int×Int):Int:=(if e.1=v then 1 else 0)+(if e.2=v then 1 else 0)
def deg (es:List (Int×Int)) (v:Nat):Int:=S es (inc v)
theorem Qsm {o:List Int} {i v:Nat} (hv:v < o.length):(Qo8 o i).getD v 0=o.getD v 0+(if i=v then 1 else 0):=by
 rw [Qo8,List.getD_eq_getElem?_getD,List.getElem?_set]
 by_cases h:i=v
 · subst h;simp [hv,List.getD_eq_getElem?_getD]
 · simp [h,List.getD_eq_getElem?_getD]
theorem Qn4 {n:Nat}:∀ (es:List (Int×Int)) (o:List Int),(∀ e ∈ es,0≤e.1∧0≤e.2)→∀ v,v < o.length→(Qiy o es).getD v 0=o.getD v 0+deg es v
 | [],o,_,v,_=>by simp [Qiy,deg]
 | e::es,o,h,v,hv=>by
   have h1:=h e (by simp)
   have:=Qn4 (n:=n) es (Qo8 (Qo8 o e.1.toNat) e.2.toNat) (fun x hx=>h x (by simp [hx])) v (by simp [Qhb];exact hv)
   rw [show Qiy o (e::es)=Qiy (Qo8 (Qo8 o e.1.toNat) e.2.toNat) es from rfl,this,Qsm (by rw [Qhb];exact hv),Qsm hv,deg,deg,Qic]
   have c1:(e.1.toNat=v)=(e.1=(v:Int)):=by rw [eq_iff_iff];omega
   have c2:(e.2.toNat=v)=(e.2=(v:Int)):=by rw [eq_iff_iff];omega
   simp only [inc,c1,c2]
   omega
theorem Qhn {n:Nat} {es:List (Int×Int)} (h:Qh6 n es):Qco n es=(List.range n).map (deg es):=by
 have hl:(Qco n es).length=n:=by rw [Qco,Qd8];simp
 refine List.ext_getElem (by simp [hl]) fun v h1 h2=>?_
 have:=Qn4 (n:=n) es (List.replicate n 0) (fun e he=>by have:=h e he;omega) v (by simp;omega)
 rw [← Qco,List.getD_eq_getElem?_getD,List.getElem?_eq_getElem h1] at this
 simp only [Option.getD_some] at this
 rw [this]
 simp [List.getD_eq_getElem?_getD]
 rw [List.getElem?_eq_getElem (by simp;omega)];simp
end Go.Idl
namespace Go.Idl
open Go
def Qdf (X:List (Int×Int)) (a b:Nat):Prop:=∀ k l e f,a≤k→k < l→l < b→X[k]? = some e→X[l]? = some f→Qao e f=true
def Qiw (X:List (Int×Int)) (a mid b:Nat):Prop:=∀ k l e f,a≤k→k < mid→mid≤l→l < b→X[k]? = some e→X[l]? = some f→Qao e f=true
theorem Qrj {X Y:List (Int×Int)} {a mid b:Nat} (hn:X.Nodup) (h1:Qdf X a mid) (hc:Qiw X a mid b) (hs:Seg X Y mid b) (h2:Qdf Y mid b):Qdf Y a b:=by
 intro k l e f hk hkl hl he hf
 by_cases h:mid≤k
 · exact h2 k l e f h hkl hl he hf
 · have he':X[k]? = some e:=by rw [← hs.out k (by omega)];exact he
   by_cases h':mid≤l
   · obtain ⟨l',hl',hf'⟩:=hs.back hn ⟨h',hl⟩ hf
     exact hc k l' e f hk (by omega) (by omega) (by omega) he' hf'
   · have hf':X[l]? = some f:=by rw [← hs.out l (by omega)];exact hf
     exact h1 k l e f hk hkl (by omega) he' hf'
theorem Qou {X Y:List (Int×Int)} {a mid b:Nat} (hn:X.Nodup) (h1:Qdf X mid b) (hc:Qiw X a mid b) (hs:Seg X Y a mid) (h2:Qdf Y a mid):Qdf Y a b:=by
 intro k l e f hk hkl hl he hf
 by_cases h:l < mid
 · exact h2 k l e f hk hkl h he hf
 · have hf':X[l]? = some f:=by rw [← hs.out l (by omega)];exact hf
   by_cases h':k < mid
   · obtain ⟨k',hk',he'⟩:=hs.back hn ⟨hk,h'⟩ he
     exact hc k' l e f (by omega) (by omega) (by omega) hl he' hf'
   · have he':X[k]? = some e:=by rw [← hs.out k (by omega)];exact he
     exact h1 k l e f (by omega) hkl hl he' hf'
theorem Qr4 (a b c:Int×Int) (h1:Qao b a=false) (h2:Qao c b=false):Qao c a=false:=by
 rw [← Bool.not_eq_true] at *
 simp only [Qao,Bool.or_eq_true,Qba,decide_eq_true_eq] at *
 omega
theorem Jb3 (X:List (Int×Int)) (hX:∀ x ∈ X,DE x) (hn:X.Nodup) (hl:X.length≤700000) (a n:Nat) (hab:a+n≤X.length) (M:List Qae) :
 ∃ X':List (Int×Int),Seg X X' a (a+n)∧Qdf X' a (a+n)∧Ev tb Qt7 [0] [O2 X,I a,I ((a:Int)+n),fcE] M ⟨.tup [],[O2 X'],M,[]⟩:=by
 have hc:Jb2 vE Jal [] Qao DE M:=fun x y hx hy=>⟨Qnf x y,Qb4 x y,Qff hx hy _⟩
 obtain ⟨P,hP⟩:∃ P,P=X.take a:=⟨_,rfl⟩
 obtain ⟨S,hS⟩:∃ S,S=(X.drop a).take n:=⟨_,rfl⟩
 obtain ⟨Q,hQ⟩:∃ Q,Q=X.drop (a+n):=⟨_,rfl⟩
 have hXe:X=P++(S++Q):=by
  rw [hP,hS,hQ,← List.drop_drop,List.take_append_drop,List.take_append_drop]
 have hPl:P.length=a:=by rw [hP,List.length_take];omega
 have hSl:S.length=n:=by rw [hS,List.length_take,List.length_drop];omega
 have hsrt:=Qpu (lt:=Qao) Qr4 (fun a b h=>Qen h) S [] .nil
 have hsp:=hsrt.2
 rw [List.nil_append] at hsp
 have hTl:(Qni Qao [] S).length=n:=by rw [hsp.length_eq,hSl]
 have hp:(P++(Qni Qao [] S++Q)).Perm X:=by
  rw [hXe];exact List.Perm.append_left P (hsp.append_right Q)
 refine ⟨P++(Qni Qao [] S++Q),⟨hp,fun k hk=>?_⟩,?_,?_⟩
 · rw [hXe]
   rcases hk with hk | hk
   · rw [List.getElem?_append_left (by omega),List.getElem?_append_left (by omega)]
   · rw [List.getElem?_append_right (by omega),List.getElem?_append_right (by omega),List.getElem?_append_right (by omega),List.getElem?_append_right (by omega),hTl,hSl]
 · intro k l e f hk hkl hlb he hf
   have hny:(P++(Qni Qao [] S++Q)).Nodup:=hp.nodup_iff.2 hn
   have hne:e ≠ f:=by
    rintro rfl
    obtain ⟨h1,h2⟩:=List.getElem?_eq_some_iff.1 he
    obtain ⟨h3,h4⟩:=List.getElem?_eq_some_iff.1 hf
    have:=(List.getElem_inj hny).1 (h2.trans h4.symm)
    omega
   rw [List.getElem?_append_right (by omega),List.getElem?_append_left (by omega)] at he hf
   obtain ⟨h1,h2⟩:=List.getElem?_eq_some_iff.1 he
   obtain ⟨h3,h4⟩:=List.getElem?_eq_some_iff.1 hf
   have:=List.pairwise_iff_getElem.1 hsrt.1 _ _ h1 h3 (by omega)
   rw [h2,h4] at this
   rcases Qb2 hne with h | h
   · exact h
   · rw [this] at h;cases h
 · have e:=Jdy Jal [] Qao DE M hc P Q S (by rw [hXe] at hl;simp at hl;omega) (fun x hx=>hX x (by rw [hXe];simp [hx]))
   rw [← hXe,hPl,hSl,show ((a+n:Nat):Int)=(a:Int)+n by omega] at e
   exact e
def Qr9 (n:Nat) (lim:Nat) (M:List Qae):Prop:=∀ (n' a':Nat) (X:List (Int×Int)),n'+2≤n→(∀ x ∈ X,DE x)→X.Nodup→X.length≤700000→a'+n'≤X.length→(a'=0 ∨ ∀ k e f,a'≤k→k < a'+n'→X[a' - 1]? = some e→X[k]? = some f→Qao e f=true) →
 ∃ X':List (Int×Int),Seg X X' a' (a'+n')∧Qdf X' a' (a'+n')∧Qcb tb Qm7 [0] [O2 X,I a',I ((a':Int)+n'),I lim,fcE] M=some ⟨.tup [],[O2 X'],M,[]⟩
abbrev cD:IC:=(.seq Qxe (.seq Quz (.seq Qwx (.seq Qxr (.seq Qx3 (.cond (.t 125) (.seq Qwg (.seq Qya Qw5)) (.seq Qzd (.seq Quw Qv4))))))))
set_option maxHeartbeats 2000000 in
theorem pdq_D (X:List (Int×Int)) (hX:∀ x ∈ X,DE x) (hn:X.Nodup) (hl:X.length≤700000) (a n m lim:Nat) (h13:13≤n) (h21:n≤21) (hab:a+n≤X.length) (hm:a≤m∧m < a+n) (M:List Qae) (hrec:Qr9 n lim (M++[[]]))
 (h0:a=0 ∨ ∀ k e f,a≤k→k < a+n→X[a - 1]? = some e→X[k]? = some f→Qao e f=true)
 (p1:∃ p,(a≤p∧p < a+n)∧∀ h1 h2,Qao (X[p]'h1) (X[m]'h2)=true) (p2:∃ p,(a≤p∧p < a+n)∧∀ h1 h2,Qao (X[m]'h1) (X[p]'h2)=true)
 (bal part:Bool) (Q:Ex→St→Prop)
 (hL:∀ (X3:List (Int×Int)) (mid:Nat) (bal part:Bool),a < mid→mid+1 < a+n→Seg X X3 a (a+n)→Qdf X3 a (mid+1)→Qiw X3 a (mid+1) (a+n) →
   Q .normal { T:=[(0,O2 X3),(1,I (mid+1:Nat)),(2,I ((a:Int)+n)),(3,I lim),(4,fcE),(10,Bo bal),(11,Bo part)],loc:=[],M:=M })
 (hR:∀ (X3:List (Int×Int)) (mid:Nat) (bal part:Bool),a < mid→mid+1 < a+n→Seg X X3 a (a+n)→Qdf X3 mid (a+n)→Qiw X3 a mid (a+n) →
   Q .normal { T:=[(0,O2 X3),(1,I a),(2,I mid),(3,I lim),(4,fcE),(10,Bo bal),(11,Bo part)],loc:=[],M:=M }) :
 wp tb cD { T:=[(0,O2 X),(1,I a),(2,I ((a:Int)+n)),(3,I lim),(4,fcE),(10,Bo bal),(11,Bo part),(12,I n),(13,I m),(97,Bo false)],loc:=[],M:=M } Q:=by
 obtain ⟨X2,mid,t,hS,hmid,hpv,hcut,hE⟩:=Qnv X hX (by omega) a n m (by omega) hab hm (M++[[]])
 have e1:=Qab hE
 have hml:m < X.length:=by omega
 rw [List.getElem?_eq_getElem hml] at hpv hcut
 obtain ⟨hlo,hhi⟩:=hcut _ rfl
 have hl2:=hS.len
 have hn2:=hS.nodup hn
 have hX2:∀ x ∈ X2,DE x:=fun x hx=>hX x (hS.perm.mem_iff.1 hx)
 obtain ⟨p,hp,hp1⟩:=p1
 obtain ⟨q,hq,hq1⟩:=p2
 have hpl:p < X.length:=by omega
 have hql:q < X.length:=by omega
 have hp1:=hp1 hpl hml
 have hq1:=hq1 hml hql
 have whereIs:∀ r,(a≤r∧r < a+n)→∀ hr:r < X.length,∃ r',(a≤r'∧r' < a+n)∧X2[r']? = some X[r]:=fun r hr hrl=>by
  have hm2:X[r] ∈ X2:=hS.perm.mem_iff.2 (List.getElem_mem hrl)
  obtain ⟨r',hr',he⟩:=List.getElem_of_mem hm2
  refine ⟨r',?_,by rw [List.getElem?_eq_getElem hr',he]⟩
  refine Classical.byContradiction fun hno=>?_
  have h1:=hS.out r' (by omega)
  rw [List.getElem?_eq_getElem hr',he] at h1
  obtain ⟨h2,h3⟩:=List.getElem?_eq_some_iff.1 h1.symm
  have:=(List.getElem_inj hn).1 h3
  omega
 obtain ⟨p',hp',hpe⟩:=whereIs p hp hpl
 obtain ⟨q',hq',hqe⟩:=whereIs q hq hql
 have hamid:a < mid:=by
  refine Classical.byContradiction fun hno=>?_
  have hma:mid=a:=by omega
  by_cases hpm:p'=mid
  · rw [hpm,hpv] at hpe
    exact Qhe hp1 (Option.some.inj hpe).symm
  · have:=hhi p' _ (by omega) hp'.2 hpe
    rw [hp1] at this;cases this
 have hmidb:mid+1 < a+n:=by
  refine Classical.byContradiction fun hno=>?_
  have hma:mid+1=a+n:=by omega
  by_cases hpm:q'=mid
  · rw [hpm,hpv] at hqe
    exact Qhe hq1 (Option.some.inj hqe)
  · have:=hlo q' _ hq'.1 (by omega) hqe
    rw [Qen hq1] at this;cases this
 have hhi':∀ k e,mid < k→k < a+n→X2[k]? = some e→Qao X[m] e=true:=fun k e k1 k2 he=>by
  have h1:=hhi k e (by omega) k2 he
  have hne:X[m] ≠ e:=by
   rintro rfl
   obtain ⟨h2,h3⟩:=List.getElem?_eq_some_iff.1 he
   obtain ⟨h4,h5⟩:=List.getElem?_eq_some_iff.1 hpv
   have:=(List.getElem_inj hn2).1 (h3.trans h5.symm)
   omega
  rcases Qb2 hne with h | h
  · exact h
  · rw [h1] at h;cases h
 have hcutm:Qiw X2 a mid (a+n):=fun k l e f k1 k2 k3 k4 he hf=>by
  have h1:=hlo k e k1 k2 he
  by_cases hlm:l=mid
  · rw [hlm,hpv] at hf;cases hf;exact h1
  · exact Qds h1 (hhi' l f (by omega) k4 hf)
 have hcutm':Qiw X2 a (mid+1) (a+n):=fun k l e f k1 k2 k3 k4 he hf=>by
  by_cases hkm:k=mid
  · rw [hkm,hpv] at he;cases he;exact hhi' l f (by omega) k4 hf
  · exact hcutm k l e f k1 (by omega) (by omega) k4 he hf
 obtain ⟨n1,hn1⟩:∃ n1,mid=a+n1:=⟨mid - a,by omega⟩
 obtain ⟨n2,hn2'⟩:∃ n2,n=n1+1+n2:=⟨n - (n1+1),by omega⟩
 have w1:IntKind.i64.wrap ((mid:Int) - a)=(n1:Int):=by rw [Qaj (by omega) (by omega)];omega
 have w2:IntKind.i64.wrap ((a:Int)+n - mid)=((n2+1:Nat):Int):=by rw [Qaj (by omega) (by omega)];omega
 have t1:(n:Int).tdiv 8=((n / 8:Nat):Int):=by rw [Int.tdiv_eq_ediv_of_nonneg (by omega)];rfl
 obtain ⟨th,hth⟩:∃ th,th=n / 8:=⟨_,rfl⟩
 rw [← hth] at t1
 have w3:IntKind.i64.wrap (th:Int)=(th:Int):=Qaj (by omega) (by omega)
 have w4:IntKind.i64.wrap ((mid:Int)+1)=(mid:Int)+1:=Qaj (by omega) (by omega)
 by_cases hc:(n1:Int) < ((n2+1:Nat):Int)
 · obtain ⟨X3,hS3,hsr,e2⟩:=hrec n1 a X2 (by omega) hX2 hn2 (by omega) (by omega) (by
    rcases h0 with h0 | h0
    · exact .inl h0
    · by_cases ha:a=0
      · exact .inl ha
      · refine .inr fun k e f k1 k2 he hf=>?_
        rw [hS.out (a - 1) (by omega)] at he
        obtain ⟨k',hk',hf'⟩:=hS.back hn ⟨k1,by omega⟩ hf
        exact h0 k' e f hk'.1 hk'.2 he hf')
   rw [show (a:Int)+n1=(mid:Int) by omega] at e2
   have hfin:=hL X3 mid (decide (th≤n1)) t hamid hmidb (hS.trans (hS3.mono (Nat.le_refl _) (by omega))) (Qou hn2 (fun k l e f k1 k2 k3=>by omega) (fun k l e f k1 k2 k3 k4=>hcutm k l e f k1 (by omega) k3 (by omega)) (by rw [← hn1] at hS3;exact hS3) (by rw [← hn1] at hsr;exact hsr)) (fun k l e f k1 k2 k3 k4 he hf=>by
    have hf':X2[l]? = some f:=by rw [← hS3.out l (by omega)];exact hf
    by_cases hkm:k=mid
    · have he':X2[k]? = some e:=by rw [← hS3.out k (by omega)];exact he
      exact hcutm' k l e f k1 k2 k3 k4 he' hf'
    · obtain ⟨k',hk',he'⟩:=hS3.back hn2 ⟨k1,by omega⟩ he
      exact hcutm' k' l e f hk'.1 (by omega) k3 k4 he' hf')
   rw [show ((mid+1:Nat):Int)=(mid:Int)+1 by omega] at hfin
   rw [show ((n2+1:Nat):Int)=(n2:Int)+1 by omega] at hc w2
   repeat (first|apply wA|apply wS|refine wr (by simp [e1,e2,w1,w2,w3,w4,t1,hc];with_reducible rfl) ?_|refine wq (by simp [e1,e2,w1,w2,w3,w4,t1,hc];with_reducible rfl) ?_|refine wt (by simpa [e1,e2,w1,w2,w3,w4,t1,hc]) ?_|refine wf (by simpa [e1,e2,w1,w2,w3,w4,t1,hc]) ?_|refine xt (by simpa [e1,e2,w1,w2,w3,w4,t1,hc]) ?_|refine xf (by simpa [e1,e2,w1,w2,w3,w4,t1,hc]) ?_|apply wB|apply Qaa|refine wX ?_|refine wY ?_|refine wR ?_|refine wK ?_|refine wE ?_)
   exact hfin
 · obtain ⟨X3,hS3,hsr,e2⟩:=hrec n2 (mid+1) X2 (by omega) hX2 hn2 (by omega) (by omega) (.inr fun k e f k1 k2 he hf=>by
    rw [Nat.add_sub_cancel,hpv] at he
    cases he
    exact hhi' k f (by omega) (by omega) hf)
   rw [show ((mid+1:Nat):Int)+n2=(a:Int)+n by omega,show ((mid+1:Nat):Int)=(mid:Int)+1 by omega] at e2
   have hS3':Seg X2 X3 (mid+1) (a+n):=by rw [show mid+1+n2=a+n by omega] at hS3;exact hS3
   have hsr':Qdf X3 (mid+1) (a+n):=by rw [show mid+1+n2=a+n by omega] at hsr;exact hsr
   have hfin:=hR X3 mid (decide ((th:Int)≤(n2:Int)+1)) t hamid hmidb (hS.trans (hS3'.mono (by omega) (Nat.le_refl _))) (Qrj hn2 (mid:=mid+1) (fun k l e f k1 k2 k3=>by omega) (fun k l e f k1 k2 k3 k4=>hcutm' k l e f (by omega) k2 k3 k4) hS3' hsr') (fun k l e f k1 k2 k3 k4 he hf=>by
    have he':X2[k]? = some e:=by rw [← hS3'.out k (by omega)];exact he
    by_cases hlm:l=mid
    · have hf':X2[l]? = some f:=by rw [← hS3'.out l (by omega)];exact hf
      exact hcutm k l e f k1 k2 k3 k4 he' hf'
    · obtain ⟨l',hl',hf'⟩:=hS3'.back hn2 ⟨by omega,k4⟩ hf
      exact hcutm k l' e f k1 k2 (by omega) hl'.2 he' hf')
   rw [show ((n2+1:Nat):Int)=(n2:Int)+1 by omega] at hc w2
   repeat (first|apply wA|apply wS|refine wr (by simp [e1,e2,w1,w2,w3,w4,t1,hc];with_reducible rfl) ?_|refine wq (by simp [e1,e2,w1,w2,w3,w4,t1,hc];with_reducible rfl) ?_|refine wt (by simpa [e1,e2,w1,w2,w3,w4,t1,hc]) ?_|refine wf (by simpa [e1,e2,w1,w2,w3,w4,t1,hc]) ?_|refine xt (by simpa [e1,e2,w1,w2,w3,w4,t1,hc]) ?_|refine xf (by simpa [e1,e2,w1,w2,w3,w4,t1,hc]) ?_|apply wB|apply Qaa|refine wX ?_|refine wY ?_|refine wR ?_|refine wK ?_|refine wE ?_)
   exact hfin
end Go.Idl
namespace Go.Idl
open Go
abbrev cB':IC:=(.seq (.seq Jad (.cond (.t 56) (.seq Jac (.seq Qvk Qwz)) .skip)) (.seq (.seq Qzr (.cond (.t 75) (.seq Qvm (.cond (.t 80) .ret .skip)) .skip)) (.seq (.seq Qxz (.cond (.t 97) (.seq Jag (.seq Qzs (.exit 1))) .skip)) cD)))
abbrev cB:IC:=.seq Qun cB'
theorem Qx4 {X:List (Int×Int)} {a b:Nat} (hn:X.Nodup) (h:∀ k,a < k→k < b→∀ h1 h2,Qao (X[k]'h1) (X[k - 1]'h2)=false):Qdf X a b:=by
 have key:∀ (d k:Nat) (e f:Int×Int),a≤k→k+d+1 < b→X[k]? = some e→X[k+d+1]? = some f→Qao e f=true:=by
  intro d
  induction d with
  | zero =>
    intro k e f hk hb he hf
    obtain ⟨h1,h2⟩:=List.getElem?_eq_some_iff.1 he
    obtain ⟨h3,h4⟩:=List.getElem?_eq_some_iff.1 hf
    have h5:=h (k+0+1) (by omega) hb h3 (by simpa using h1)
    simp only [Nat.add_zero,Nat.add_sub_cancel] at h5 h4
    rw [h4,h2] at h5
    have hne:e ≠ f:=by
     rintro rfl
     have:=(List.getElem_inj hn).1 (h2.trans h4.symm)
     omega
    rcases Qb2 hne with q | q
    · exact q
    · rw [h5] at q;cases q
  | succ d ih =>
    intro k e f hk hb he hf
    have h3:=(List.getElem?_eq_some_iff.1 hf).1
    have hg:k+d+1 < X.length:=by omega
    have q1:=ih k e X[k+d+1] hk (by omega) he (List.getElem?_eq_getElem hg)
    obtain ⟨h3,h4⟩:=List.getElem?_eq_some_iff.1 hf
    have h5:=h (k+(d+1)+1) (by omega) hb h3 (by omega)
    have hi:k+(d+1)+1 - 1=k+d+1:=by omega
    simp only [hi] at h5
    rw [h4] at h5
    have hne:X[k+d+1] ≠ f:=by
     intro he2
     have:=(List.getElem_inj hn).1 (he2.trans h4.symm)
     omega
    rcases Qb2 hne with q | q
    · exact Qds q1 q
    · rw [h5] at q;cases q
 intro k l e f hk hkl hl he hf
 obtain ⟨d,rfl⟩:∃ d,l=k+d+1:=⟨l - k - 1,by omega⟩
 exact key d k e f hk hl he hf
set_option maxHeartbeats 8000000 in
theorem Jty (X:List (Int×Int)) (hX:∀ x ∈ X,DE x) (hn:X.Nodup) (hl:X.length≤700000) (a n lim:Nat) (h13:13≤n) (h21:n≤21) (hab:a+n≤X.length) (M:List Qae) (hrec:Qr9 n lim (M++[[]]))
 (h0:a=0 ∨ ∀ k e f,a≤k→k < a+n→X[a - 1]? = some e→X[k]? = some f→Qao e f=true)
 (bal part:Bool) (Q:Ex→St→Prop) (m:Nat) (hint:Int) (hm:a≤m∧m < a+n) (hh:hint=0 ∨ hint=1)
 (p1:∃ p,(a≤p∧p < a+n)∧∀ h1 h2,Qao (X[p]'h1) (X[m]'h2)=true) (p2:∃ p,(a≤p∧p < a+n)∧∀ h1 h2,Qao (X[m]'h1) (X[p]'h2)=true)
 (hS:∀ m:Nat,Qdf X a (a+n)→Q .ret { T:=[(0,O2 X),(1,I a),(2,I ((a:Int)+n)),(3,I lim),(4,fcE),(10,Bo bal),(11,Bo part),(12,I n),(13,I m),(80,Bo true)],loc:=[],M:=M })
 (hL:∀ (X3:List (Int×Int)) (mid:Nat) (bal part:Bool),a < mid→mid+1 < a+n→Seg X X3 a (a+n)→Qdf X3 a (mid+1)→Qiw X3 a (mid+1) (a+n) →
   Q .normal { T:=[(0,O2 X3),(1,I (mid+1:Nat)),(2,I ((a:Int)+n)),(3,I lim),(4,fcE),(10,Bo bal),(11,Bo part)],loc:=[],M:=M })
 (hR:∀ (X3:List (Int×Int)) (mid:Nat) (bal part:Bool),a < mid→mid+1 < a+n→Seg X X3 a (a+n)→Qdf X3 mid (a+n)→Qiw X3 a mid (a+n) →
   Q .normal { T:=[(0,O2 X3),(1,I a),(2,I mid),(3,I lim),(4,fcE),(10,Bo bal),(11,Bo part)],loc:=[],M:=M }) :
 wp tb cB' { T:=[(0,O2 X),(1,I a),(2,I ((a:Int)+n)),(3,I lim),(4,fcE),(10,Bo bal),(11,Bo part),(12,I n),(13,I m),(14,I hint)],loc:=[],M:=M } Q:=by
 obtain ⟨t,ht,hE2⟩:=Qlw X hX (by omega) a n (by omega) (by omega) hab (M++[[]])
 have e2:=Qab hE2
 have hml:m < X.length:=by omega
 have hD:=pdq_D X hX hn hl a n m lim h13 h21 hab hm M hrec h0 p1 p2 bal part Q hL hR
 have key:∀ (hq:a=0 ∨ ∃ a0,∃ h:a0 < X.length,a=a0+1∧Qnf X[a0] X[m] < 0),True:=fun _=>trivial
 have hq:a=0 ∨ ∃ a0,∃ h:a0 < X.length,a=a0+1∧Qnf X[a0] X[m] < 0:=by
  rcases h0 with h0 | h0
  · exact .inl h0
  · by_cases ha:a=0
    · exact .inl ha
    · refine .inr ⟨a - 1,by omega,by omega,?_⟩
      have:=h0 m X[a - 1] X[m] hm.1 hm.2 (List.getElem?_eq_getElem (by omega)) (List.getElem?_eq_getElem hml)
      rw [← Qb4] at this
      exact of_decide_eq_true this
 clear key
 have hto:X.take X.length=X:=List.take_of_length_le (Nat.le_refl _)
 rcases hq with ha | ⟨a0,ha0,ha,hcm⟩
 · have g1:¬ (0:Int) < (a:Int):=by omega
   have g1':¬ 0 < a:=by omega
   clear ha
   rcases hh with rfl | rfl
   · cases bal <;> cases part
     all_goals
      repeat (first|apply wA|apply wS|refine wr (by simp [hml,g1,g1'];with_reducible rfl) ?_|refine wq (by simp [hml,g1,g1'];with_reducible rfl) ?_|refine wt (by simpa [hml,g1,g1']) ?_|refine wf (by simpa [hml,g1,g1']) ?_|refine xt (by simpa [hml,g1,g1']) ?_|refine xf (by simpa [hml,g1,g1']) ?_|apply wB|apply Qaa|refine wX ?_|refine wY ?_|refine wR ?_|refine wK ?_|refine wE ?_)
      exact hD
   · cases bal <;> cases part
     rotate_right 1
     · cases t with
       | true =>
         have hs:=hS m (Qx4 hn (ht rfl))
         repeat (first|apply wA|apply wS|refine wr (by simp [e2,hml,g1,g1'];with_reducible rfl) ?_|refine wq (by simp [e2,hml,g1,g1'];with_reducible rfl) ?_|refine wt (by simpa [e2,hml,g1,g1']) ?_|refine wf (by simpa [e2,hml,g1,g1']) ?_|refine xt (by simpa [e2,hml,g1,g1']) ?_|refine xf (by simpa [e2,hml,g1,g1']) ?_|apply wB|apply Qaa|refine wX ?_|refine wY ?_|refine wR ?_|refine wK ?_|refine wE ?_)
         exact hs
       | false =>
         repeat (first|apply wA|apply wS|refine wr (by simp [e2,hml,g1,g1'];with_reducible rfl) ?_|refine wq (by simp [e2,hml,g1,g1'];with_reducible rfl) ?_|refine wt (by simpa [e2,hml,g1,g1']) ?_|refine wf (by simpa [e2,hml,g1,g1']) ?_|refine xt (by simpa [e2,hml,g1,g1']) ?_|refine xf (by simpa [e2,hml,g1,g1']) ?_|apply wB|apply Qaa|refine wX ?_|refine wY ?_|refine wR ?_|refine wK ?_|refine wE ?_)
         exact hD
     all_goals
      repeat (first|apply wA|apply wS|refine wr (by simp [hml,g1,g1'];with_reducible rfl) ?_|refine wq (by simp [hml,g1,g1'];with_reducible rfl) ?_|refine wt (by simpa [hml,g1,g1']) ?_|refine wf (by simpa [hml,g1,g1']) ?_|refine xt (by simpa [hml,g1,g1']) ?_|refine xf (by simpa [hml,g1,g1']) ?_|apply wB|apply Qaa|refine wX ?_|refine wY ?_|refine wR ?_|refine wK ?_|refine wE ?_)
      exact hD
 · have e3:=fun M=>Qab (Qff (hX _ (List.getElem_mem ha0)) (hX _ (List.getElem_mem hml)) M)
   have w1:IntKind.i64.wrap ((a:Int) - 1)=(a0:Int):=by rw [Qaj (by omega) (by omega)];omega
   have g1:(0:Int) < (a:Int):=by omega
   have g1':0 < a:=by omega
   rcases hh with rfl | rfl
   · cases bal <;> cases part
     all_goals
      repeat (first|apply wA|apply wS|refine wr (by simp [e3,hml,ha0,w1,g1,g1',hcm];with_reducible rfl) ?_|refine wq (by simp [e3,hml,ha0,w1,g1,g1',hcm];with_reducible rfl) ?_|refine wt (by simpa [e3,hml,ha0,w1,g1,g1',hcm]) ?_|refine wf (by simpa [e3,hml,ha0,w1,g1,g1',hcm]) ?_|refine xt (by simpa [e3,hml,ha0,w1,g1,g1',hcm]) ?_|refine xf (by simpa [e3,hml,ha0,w1,g1,g1',hcm]) ?_|apply wB|apply Qaa|refine wX ?_|refine wY ?_|refine wR ?_|refine wK ?_|refine wE ?_)
      exact hD
   · cases bal <;> cases part
     rotate_right 1
     · cases t with
       | true =>
         have hs:=hS m (Qx4 hn (ht rfl))
         repeat (first|apply wA|apply wS|refine wr (by simp [e2,e3,hml,ha0,w1,g1,g1',hcm];with_reducible rfl) ?_|refine wq (by simp [e2,e3,hml,ha0,w1,g1,g1',hcm];with_reducible rfl) ?_|refine wt (by simpa [e2,e3,hml,ha0,w1,g1,g1',hcm]) ?_|refine wf (by simpa [e2,e3,hml,ha0,w1,g1,g1',hcm]) ?_|refine xt (by simpa [e2,e3,hml,ha0,w1,g1,g1',hcm]) ?_|refine xf (by simpa [e2,e3,hml,ha0,w1,g1,g1',hcm]) ?_|apply wB|apply Qaa|refine wX ?_|refine wY ?_|refine wR ?_|refine wK ?_|refine wE ?_)
         exact hs
       | false =>
         repeat (first|apply wA|apply wS|refine wr (by simp [e2,e3,hml,ha0,w1,g1,g1',hcm];with_reducible rfl) ?_|refine wq (by simp [e2,e3,hml,ha0,w1,g1,g1',hcm];with_reducible rfl) ?_|refine wt (by simpa [e2,e3,hml,ha0,w1,g1,g1',hcm]) ?_|refine wf (by simpa [e2,e3,hml,ha0,w1,g1,g1',hcm]) ?_|refine xt (by simpa [e2,e3,hml,ha0,w1,g1,g1',hcm]) ?_|refine xf (by simpa [e2,e3,hml,ha0,w1,g1,g1',hcm]) ?_|apply wB|apply Qaa|refine wX ?_|refine wY ?_|refine wR ?_|refine wK ?_|refine wE ?_)
         exact hD
     all_goals
      repeat (first|apply wA|apply wS|refine wr (by simp [e3,hml,ha0,w1,g1,g1',hcm];with_reducible rfl) ?_|refine wq (by simp [e3,hml,ha0,w1,g1,g1',hcm];with_reducible rfl) ?_|refine wt (by simpa [e3,hml,ha0,w1,g1,g1',hcm]) ?_|refine wf (by simpa [e3,hml,ha0,w1,g1,g1',hcm]) ?_|refine xt (by simpa [e3,hml,ha0,w1,g1,g1',hcm]) ?_|refine xf (by simpa [e3,hml,ha0,w1,g1,g1',hcm]) ?_|apply wB|apply Qaa|refine wX ?_|refine wY ?_|refine wR ?_|refine wK ?_|refine wE ?_)
      exact hD
set_option maxHeartbeats 2000000 in
theorem Jsy (X:List (Int×Int)) (hX:∀ x ∈ X,DE x) (hn:X.Nodup) (hl:X.length≤700000) (a n lim:Nat) (h13:13≤n) (h21:n≤21) (hab:a+n≤X.length) (M:List Qae) (hrec:Qr9 n lim (M++[[]]))
 (h0:a=0 ∨ ∀ k e f,a≤k→k < a+n→X[a - 1]? = some e→X[k]? = some f→Qao e f=true)
 (bal part:Bool) (Q:Ex→St→Prop) (f:Bool)
 (hS:∀ m:Nat,Qdf X a (a+n)→Q .ret { T:=[(0,O2 X),(1,I a),(2,I ((a:Int)+n)),(3,I lim),(4,fcE),(10,Bo bal),(11,Bo part),(12,I n),(13,I m),(80,Bo true)],loc:=[],M:=M })
 (hL:∀ (X3:List (Int×Int)) (mid:Nat) (bal part:Bool),a < mid→mid+1 < a+n→Seg X X3 a (a+n)→Qdf X3 a (mid+1)→Qiw X3 a (mid+1) (a+n) →
   Q .normal { T:=[(0,O2 X3),(1,I (mid+1:Nat)),(2,I ((a:Int)+n)),(3,I lim),(4,fcE),(10,Bo bal),(11,Bo part)],loc:=[],M:=M })
 (hR:∀ (X3:List (Int×Int)) (mid:Nat) (bal part:Bool),a < mid→mid+1 < a+n→Seg X X3 a (a+n)→Qdf X3 mid (a+n)→Qiw X3 a mid (a+n) →
   Q .normal { T:=[(0,O2 X3),(1,I a),(2,I mid),(3,I lim),(4,fcE),(10,Bo bal),(11,Bo part)],loc:=[],M:=M }) :
 wp tb cB { T:=[(0,O2 X),(1,I a),(2,I ((a:Int)+n)),(3,I lim),(4,fcE),(10,Bo bal),(11,Bo part),(12,I n)]++(if f then [(39,Bo false)] else []),loc:=[],M:=M } Q:=by
 obtain ⟨m,hint,hm,hh,p1,p2,hE⟩:=Qk0 X hX hn (by omega) a n hab h13 (by omega) (M++[[]])
 have e1:=Qab hE
 have hB:=Jty X hX hn hl a n lim h13 h21 hab M hrec h0 bal part Q m hint hm hh p1 p2 hS hL hR
 cases f
 all_goals
  simp only [if_true,if_false,Bool.false_eq_true,List.append_nil,List.cons_append,List.nil_append]
  refine wr (by simp [e1];with_reducible rfl) ?_
  exact hB
end Go.Idl
