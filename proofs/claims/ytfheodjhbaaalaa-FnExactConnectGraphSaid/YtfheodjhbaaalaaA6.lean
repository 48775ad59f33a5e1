/- Part 6 of a proof by an ideal interpreter of the code: its definitions and lemmas. Conditions: none. -/
import Derived.KernelRfl
import Derived.Test.YtfheodjhbaaalaaA5
set_option linter.all false
set_option linter.unusedVariables false
set_option linter.unusedSimpArgs false
namespace Go.Idl
open Go
theorem ev_in (n lo hi:Int):Ev tb zl38 [] [I n,I lo,I hi] [] ⟨Bo (decide (lo≤n) && decide (n≤hi)),[],[],[]⟩:=by
  refine call_of_wp zt38 rfl ?_
  refine wp_rs (by simp;rfl) (by simp;rfl) ?_
  by_cases h:lo≤n
  · refine wp_rs (by simp [h];rfl) (by simp;rfl) ?_
    refine wp_ret' ?_
    simp [h,zi38]
  · refine wp_rs (by simp [h];rfl) (by simp;rfl) ?_
    refine wp_ret' ?_
    simp [h,zi38]
theorem ev_inRange (n lo hi:Int):Ev tb zl132 [] [I n,I lo,I hi] [] ⟨Bo (decide (lo≤n) && decide (n≤hi)),[],[],[]⟩:=by
  refine call_of_wp zt132 rfl ?_
  refine wp_rs (by simp;rfl) (by simp;rfl) ?_
  by_cases h:lo≤n
  · refine wp_rs (by simp [h];rfl) (by simp;rfl) ?_
    refine wp_ret' ?_
    simp [h,zi132]
  · refine wp_rs (by simp [h];rfl) (by simp;rfl) ?_
    refine wp_ret' ?_
    simp [h,zi132]
def SmallSum (xs:List Int):Prop:=xs.length≤2000000∧∀ k,-4611686018427387904≤(xs.take k).sum∧(xs.take k).sum≤4611686018427387904
theorem ev_Clip (xs:List Int):Ev tb zl70 [] [.own 1 (ints xs)] [] ⟨.own 1 (ints xs),[],[],[]⟩:=by
  refine call_of_wp zt70 rfl ?_
  refine wp_rs (by simp;rfl) (by simp;rfl) ?_
  refine wp_rs (by simp;rfl) (by simp;rfl) ?_
  refine wp_ret' ?_
  simp [zi70]
end Go.Idl
namespace Go.Idl
def insD (x:Int):List Int→List Int
  | []=>[x]
  | y::ys=>if x≤y then y::insD x ys else x::y::ys
def fall (xs:List Int):List Int:=xs.foldl (fun out x=>insD x out) []
abbrev Desc (xs:List Int):Prop:=xs.Pairwise (fun a b=>b≤a)
theorem insD_perm (x:Int) (ys:List Int):(insD x ys).Perm (x::ys):=by
  induction ys with
  | nil=>exact .refl _
  | cons y ys ih =>
    unfold insD
    split
    · exact (ih.cons y).trans (.swap x y ys)
    · exact .refl _
theorem insD_desc (x:Int) (ys:List Int) (h:Desc ys):Desc (insD x ys):=by
  induction ys with
  | nil=>simp [insD]
  | cons y ys ih =>
    unfold insD
    have h:=List.pairwise_cons.1 h
    split
    · refine List.pairwise_cons.2 ⟨fun a ha=>?_,ih h.2⟩
      rcases List.mem_cons.1 ((insD_perm x ys).mem_iff.1 ha) with rfl | ha
      · assumption
      · exact h.1 a ha
    · rename_i hx
      refine List.pairwise_cons.2 ⟨fun a ha=>?_,List.pairwise_cons.2 h⟩
      rcases List.mem_cons.1 ha with rfl | ha
      · omega
      · have:=h.1 a ha;omega
theorem fall_aux (xs:List Int):∀ ys,Desc ys→Desc (xs.foldl (fun out x=>insD x out) ys)∧(xs.foldl (fun out x=>insD x out) ys).Perm (xs++ys):=by
  induction xs with
  | nil=>intro ys h;exact ⟨h,.refl _⟩
  | cons x xs ih =>
    intro ys h
    obtain ⟨h1,h2⟩:=ih (insD x ys) (insD_desc x ys h)
    refine ⟨h1,h2.trans ?_⟩
    exact ((insD_perm x ys).append_left xs).trans List.perm_middle
theorem fall_perm (xs:List Int):(fall xs).Perm xs:=by simpa [fall] using (fall_aux xs [] .nil).2
theorem fall_len (xs:List Int):(fall xs).length=xs.length:=(fall_perm xs).length_eq
theorem perm_sum {xs ys:List Int} (h:xs.Perm ys):xs.sum=ys.sum:=by
  induction h with
  | nil=>rfl
  | cons x _ ih=>simp [ih]
  | swap x y l=>simp;omega
  | trans _ _ h1 h2=>exact h1.trans h2
theorem fall_mem {xs:List Int} {x:Int}:x ∈ fall xs ↔ x ∈ xs:=(fall_perm xs).mem_iff
end Go.Idl
namespace Go.Idl
open Go
abbrev L (xs:List Int) (c:Bool:=false):IV:=.lst 1 (ints xs) c
abbrev O (xs:List Int):IV:=.own 1 (ints xs)
theorem wrapU {n:Nat} (h:n < 2000000):IntKind.u64.wrap (n:Int)=(n:Int):=by
  have e1:(2:Int) ^ IntKind.u64.bits=18446744073709551616:=by decide
  have e3:IntKind.u64.signed=false:=rfl
  unfold IntKind.wrap
  rw [e1,e3]
  simp
  omega
end Go.Idl
namespace Go.Idl
open Go
theorem drop_get {xs:List Int} {i m:Nat} (h:i+(m+1)=xs.length):∃ h:i < xs.length,xs.drop i=xs[i]::xs.drop (i+1)∧xs[i] ∈ xs:=by
  have hi:i < xs.length:=by omega
  exact ⟨hi,List.drop_eq_getElem_cons hi,List.getElem_mem hi⟩
theorem drop_end {xs:List Int} {i:Nat} (h:i+0=xs.length):xs[i]? = none∧xs.drop i=[]:=by
  have:i=xs.length:=by omega
  subst this
  simp
end Go.Idl
namespace Go.Idl
open Go
def valid (d:List Int):Bool:=decide (d.length≤7) && d.all fun x=>decide (0≤x) && decide (x < d.length)
end Go.Idl
namespace Go.Idl
open Go
def bytes (xs:List Int):List (List IV):=xs.map fun n=>[.sc (.int .u8 n)]
@[simp] theorem bytes_len (xs:List Int):(bytes xs).length=xs.length:=by simp [bytes]
@[simp] theorem bytes_take (xs:List Int) (n:Nat):(bytes xs).take n=bytes (xs.take n):=by simp [bytes,List.map_take]
@[simp] theorem bytes_get? (xs:List Int) (i:Nat):(bytes xs)[i]? = xs[i]?.map fun n=>[IV.sc (.int .u8 n)]:=by simp [bytes]
@[simp] theorem bytes_get (xs:List Int) (i:Nat) (h:i < (bytes xs).length):(bytes xs)[i]=[IV.sc (.int .u8 (xs[i]'(by simpa [bytes] using h)))]:=by simp [bytes]
@[simp] theorem bytes_emp (xs:List Int):(bytes xs).isEmpty=xs.isEmpty:=by cases xs <;> rfl
@[simp] theorem bytes_all1 (xs:List Int):((bytes xs).all fun x=>x.all IV.plain1)=true:=by
  induction xs with
  | nil=>rfl
  | cons x xs ih=>simp only [bytes,List.map_cons,List.all_cons] at *;rw [ih];rfl
@[simp] theorem bytes_all2 (xs:List Int):((bytes xs).all fun x=>x.all IV.isData)=true:=by
  induction xs with
  | nil=>rfl
  | cons x xs ih=>simp only [bytes,List.map_cons,List.all_cons] at *;rw [ih];rfl
@[simp] theorem bytes_noLst (xs:List Int):noLstLL (bytes xs)=true:=by
  induction xs with
  | nil=>rfl
  | cons x xs ih=>simp only [bytes,List.map_cons,noLstLL,noLstL,noLstV] at *;rw [ih];rfl
abbrev R (code:List Int) (c:Bool) (n:Int):List IV:=[.lst 1 (bytes code) c,I n]
end Go.Idl
namespace Go.Idl
open Go
def eds (xs:List (Int×Int)):List (List IV):=xs.map fun e=>[I e.1,I e.2]
abbrev L2 (xs:List (Int×Int)) (c:Bool:=false):IV:=.lst 2 (eds xs) c
abbrev O2 (xs:List (Int×Int)):IV:=.own 2 (eds xs)
@[simp] theorem eds_len (xs:List (Int×Int)):(eds xs).length=xs.length:=by simp [eds]
@[simp] theorem eds_nil:eds []=[]:=rfl
@[simp] theorem eds_take (xs:List (Int×Int)) (n:Nat):(eds xs).take n=eds (xs.take n):=by simp [eds,List.map_take]
@[simp] theorem eds_drop (xs:List (Int×Int)) (n:Nat):(eds xs).drop n=eds (xs.drop n):=by simp [eds,List.map_drop]
@[simp] theorem eds_app (xs ys:List (Int×Int)):eds xs++eds ys=eds (xs++ys):=by simp [eds]
@[simp] theorem eds_one (xs:List (Int×Int)) (a b:Int):eds xs++[[IV.sc (.int .i64 a),IV.sc (.int .i64 b)]]=eds (xs++[(a,b)]):=by simp [eds]
@[simp] theorem eds_get? (xs:List (Int×Int)) (i:Nat):(eds xs)[i]? = xs[i]?.map fun e=>[IV.sc (.int .i64 e.1),IV.sc (.int .i64 e.2)]:=by simp [eds]
@[simp] theorem eds_get (xs:List (Int×Int)) (i:Nat) (h:i < (eds xs).length):(eds xs)[i]=[IV.sc (.int .i64 (xs[i]'(by simpa [eds] using h)).1),IV.sc (.int .i64 (xs[i]'(by simpa [eds] using h)).2)]:=by simp [eds]
@[simp] theorem eds_emp (xs:List (Int×Int)):(eds xs).isEmpty=xs.isEmpty:=by cases xs <;> rfl
@[simp] theorem eds_set (xs:List (Int×Int)) (i:Nat) (a b:Int):(eds xs).set i [IV.sc (.int .i64 a),IV.sc (.int .i64 b)]=eds (xs.set i (a,b)):=by
  simp [eds,List.map_set]
@[simp] theorem eds_all1 (xs:List (Int×Int)):((eds xs).all fun x=>x.all IV.plain1)=true:=by
  induction xs with
  | nil=>rfl
  | cons x xs ih=>simp only [eds,List.map_cons,List.all_cons] at *;rw [ih];rfl
@[simp] theorem eds_all2 (xs:List (Int×Int)):((eds xs).all fun x=>x.all IV.isData)=true:=by
  induction xs with
  | nil=>rfl
  | cons x xs ih=>simp only [eds,List.map_cons,List.all_cons] at *;rw [ih];rfl
@[simp] theorem eds_noLst (xs:List (Int×Int)):noLstLL (eds xs)=true:=by
  induction xs with
  | nil=>rfl
  | cons x xs ih=>simp only [eds,List.map_cons,noLstLL,noLstL,noLstV] at *;rw [ih];rfl
@[simp] theorem frz_eds (xs:List (Int×Int)):frzLL (eds xs)=eds xs:=by
  induction xs with
  | nil=>rfl
  | cons x xs ih=>simp only [eds,List.map_cons,frzLL,frzL,frzV] at *;rw [ih]
def row (a b:Nat):Nat→List (Int×Int)
  | 0=>[]
  | m+1=>((a:Int),(b:Int))::row a (b+1) m
def prsF (a:Nat):Nat→List (Int×Int)
  | 0=>[]
  | m+1=>row a (a+1) m++prsF (a+1) m
def prs (n:Nat):List (Int×Int):=prsF 0 n
abbrev Gr (n:Int) (es:List (Int×Int)) (c:Bool:=false):IV:=.agg [I n,L2 es c]
abbrev OG (n:Int) (es:List (Int×Int)):IV:=.agg [I n,O2 es]
def isE (a b:Int) (e:Int×Int):Bool:=decide (e.1=a) && decide (e.2=b) || decide (e.1=b) && decide (e.2=a)
def has (es:List (Int×Int)) (a b:Int):Bool:=es.any (isE a b)
end Go.Idl
namespace Go.Idl
open Go
theorem call_ex {f:Lab} {fn:IFun} (hf:tb f=some fn) {lent:List Nat} {args:List IV} {M:List Boxes} (hl:lent.all fn.keep.contains=true) {P:Ret→Prop}
    (h:wp tb fn.body { T:=args.zipIdx.map fun (v,i)=>(i,v),loc:=[],M:=M } fun ex st=>(ex=.normal ∨ ex=.ret)∧∃ r,P r∧finish fn lent st=some r):∃ r,P r∧Ev tb f lent args M r:=by
  obtain ⟨ex,st',⟨h1,r,hP,h2⟩,-,back⟩:=wp_sound h
  exact ⟨r,hP,call_of_wp hf hl (back _ ⟨h1,h2⟩)⟩
end Go.Idl
namespace Go.Idl
theorem sumB {B:Int} (hB:0≤B):∀ {xs:List Int},(∀ x ∈ xs,0≤x∧x≤B)→0≤xs.sum∧xs.sum≤B * xs.length
  | [],_=>by simp
  | x::r,h=>by
    have h1:=h x (by simp)
    have h2:=sumB hB (xs:=r) (fun y hy=>h y (by simp [hy]))
    have e:B * ((x::r).length:Int)=B * r.length+B:=by
      rw [List.length_cons,Int.natCast_add,Int.mul_add];simp
    rw [List.sum_cons,e]
    omega
def slk (s:List Int) (k:Nat):Int:=(k:Int) * ((k:Int) - 1) - (s.take k).sum+((s.drop k).map fun x:Int=>min x (k:Int)).sum
def slacks (d:List Int):List Int:=(List.range d.length).map fun i=>slk (fall d) (i+1)
def least (xs:List Int):Int:=xs.foldl (fun n x=>min n x) 0
end Go.Idl
namespace Go.Idl
open Go
abbrev Z:IV:=.lst 0 [] true
def Few (xs:List Int):Prop:=xs.length≤7∧∀ x ∈ xs,0≤x∧x≤6
theorem Few.small {xs:List Int} (h:Few xs):SmallSum xs:=by
  refine ⟨by have:=h.1;omega,fun k=>?_⟩
  have h1:=sumB (B:=6) (by omega) (xs:=xs.take k) (fun x hx=>h.2 x (List.mem_of_mem_take hx))
  have h2:(xs.take k).length≤7:=by have:=h.1;simp;omega
  omega
theorem Few.take {xs:List Int} (h:Few xs) (k:Nat):Few (xs.take k):=⟨by have:=h.1;simp;omega,fun x hx=>h.2 x (List.mem_of_mem_take hx)⟩
theorem Few.drop {xs:List Int} (h:Few xs) (k:Nat):Few (xs.drop k):=⟨by have:=h.1;simp;omega,fun x hx=>h.2 x (List.mem_of_mem_drop hx)⟩
theorem Few.fall {xs:List Int} (h:Few xs):Few (fall xs):=⟨by rw [fall_len];exact h.1,fun x hx=>h.2 x (fall_mem.1 hx)⟩
theorem Few.sum {xs:List Int} (h:Few xs):0≤xs.sum∧xs.sum≤42:=by
  have h1:=sumB (B:=6) (by omega) h.2
  have:=h.1
  omega
def mapR (n:Nat) (g:Nat→Int):List Int:=(List.range n).map g
@[simp] theorem ints_rep (n:Nat):List.replicate n [IV.sc (.int .i64 0)]=ints (List.replicate n 0):=by simp [ints]
theorem min_if (a b:Int):(if b < a then b else a)=min a b:=by split <;> omega
def graphic (d:List Int):Bool:=valid d && decide (d.sum % 2=0) && (slacks d).all fun x=>decide (0≤x)
end Go.Idl
namespace Go.Idl
open Go
def bump (o:List Int) (i:Nat):List Int:=o.set i (o.getD i 0+1)
def dfold (o:List Int) (es:List (Int×Int)):List Int:=es.foldl (fun o e=>bump (bump o e.1.toNat) e.2.toNat) o
def degs (n:Nat) (es:List (Int×Int)):List Int:=dfold (List.replicate n 0) es
def EdgesIn (n:Nat) (es:List (Int×Int)):Prop:=∀ e ∈ es,0≤e.1∧e.1 < n∧0≤e.2∧e.2 < n
theorem bump_len (o:List Int) (i:Nat):(bump o i).length=o.length:=by simp [bump]
theorem dfold_len:∀ (es:List (Int×Int)) (o:List Int),(dfold o es).length=o.length
  | [],o=>rfl
  | e::es,o=>by simp only [dfold,List.foldl_cons];rw [← dfold,dfold_len es];simp [bump_len]
def Low (B:Int) (d:List Int):Prop:=∀ x ∈ d,-B≤x∧x≤B
theorem Low.set {B:Int} {d:List Int} (h:Low B d) {i:Nat} {x:Int} (hx:-B≤x∧x≤B):Low B (d.set i x):=by
  intro y hy
  rcases List.mem_or_eq_of_mem_set hy with hy | rfl
  · exact h y hy
  · exact hx
theorem Low.app {B:Int} {d:List Int} (h:Low B d) {x:Int} (hx:-B≤x∧x≤B):Low B (d++[x]):=by
  intro y hy
  rcases List.mem_append.1 hy with hy | hy
  · exact h y hy
  · simp at hy;subst hy;exact hx
theorem Low.mono {B C:Int} {d:List Int} (h:Low B d) (hc:B≤C):Low C d:=fun x hx=>by have:=h x hx;omega
theorem max_if (a b:Int):(if a < b then b else a)=max a b:=by split <;> omega
end Go.Idl
namespace Go.Idl
def insC {α:Type} (lt:α→α→Bool) (x:α):List α→List α→List α
  | [],B=>x::B
  | a::r,B=>if lt x a then insC lt x r (a::B) else r.reverse++a::x::B
def srtC {α:Type} (lt:α→α→Bool):List α→List α→List α
  | S,[]=>S
  | S,x::r=>srtC lt (insC lt x S.reverse []) r
theorem insC_perm {α:Type} (lt:α→α→Bool) (x:α):∀ (r B:List α),(insC lt x r B).Perm (r.reverse++x::B)
  | [],B=>.refl _
  | a::r,B=>by
    unfold insC
    split
    · refine (insC_perm lt x r (a::B)).trans ?_
      rw [List.reverse_cons,List.append_assoc]
      exact List.Perm.append_left _ (.swap _ _ _)
    · rw [List.reverse_cons,List.append_assoc]
      exact .refl _
theorem insC_len {α:Type} (lt:α→α→Bool) (x:α) (S:List α):(insC lt x S.reverse []).length=S.length+1:=by
  have:=(insC_perm lt x S.reverse []).length_eq
  simpa using this
abbrev Srt {α:Type} (lt:α→α→Bool) (l:List α):Prop:=l.Pairwise fun a b=>lt b a=false
theorem insC_srt {α:Type} {lt:α→α→Bool} (ht:∀ a b c,lt b a=false→lt c b=false→lt c a=false) (ha:∀ a b,lt a b=true→lt b a=false) (x:α):∀ (r B:List α),Srt lt (r.reverse++B)→(∀ b ∈ B,lt x b=true)→Srt lt (insC lt x r B)
  | [],B,h,hb=>List.pairwise_cons.2 ⟨fun b hb'=>ha _ _ (hb b hb'),by simpa using h⟩
  | a::r,B,h,hb=>by
    rw [List.reverse_cons,List.append_assoc] at h
    unfold insC
    split
    · rename_i hx
      refine insC_srt ht ha x r (a::B) h fun b hb'=>?_
      rcases List.mem_cons.1 hb' with rfl | hb'
      · exact hx
      · exact hb b hb'
    · rename_i hx
      have hx:lt x a=false:=by simpa using hx
      obtain ⟨h1,h2,h3⟩:=List.pairwise_append.1 (show Srt lt (r.reverse++a::B) from h)
      have h2:=List.pairwise_cons.1 h2
      refine List.pairwise_append.2 ⟨h1,?_,fun p hp q hq=>?_⟩
      · refine List.pairwise_cons.2 ⟨fun q hq=>?_,List.pairwise_cons.2 ⟨fun b hb'=>ha _ _ (hb b hb'),h2.2⟩⟩
        rcases List.mem_cons.1 hq with rfl | hq
        · exact hx
        · exact h2.1 q hq
      · have h4:=h3 p hp a (by simp)
        rcases List.mem_cons.1 hq with rfl | hq
        · exact h4
        · rcases List.mem_cons.1 hq with rfl | hq
          · exact ht _ _ _ h4 hx
          · exact h3 p hp q (by simp [hq])
theorem srtC_ok {α:Type} {lt:α→α→Bool} (ht:∀ a b c,lt b a=false→lt c b=false→lt c a=false) (ha:∀ a b,lt a b=true→lt b a=false):∀ (r S:List α),Srt lt S→Srt lt (srtC lt S r)∧(srtC lt S r).Perm (S++r)
  | [],S,h=>⟨h,by simp [srtC]⟩
  | x::r,S,h=>by
    obtain ⟨h1,h2⟩:=srtC_ok ht ha r (insC lt x S.reverse []) (insC_srt ht ha x _ _ (by simpa using h) (by simp))
    refine ⟨h1,h2.trans ?_⟩
    have:=insC_perm lt x S.reverse []
    rw [List.reverse_reverse] at this
    refine (this.append_right r).trans ?_
    rw [List.append_assoc];exact .refl _
theorem srtC_perm {α:Type} (lt:α→α→Bool):∀ (r S:List α),(srtC lt S r).Perm (S++r)
  | [],S=>by simp [srtC]
  | x::r,S=>by
    refine (srtC_perm lt r _).trans ?_
    have:=insC_perm lt x S.reverse []
    rw [List.reverse_reverse] at this
    refine (this.append_right r).trans ?_
    rw [List.append_assoc];exact .refl _
end Go.Idl
namespace Go.Idl
open Go
abbrev vE (x:Int×Int):IV:=.agg [I x.1,I x.2]
theorem appc_get1 {α:Type} {A Z:List α} {a x:α}:(A++a::x::Z)[A.length+1]? = some x:=by
  rw [List.getElem?_append_right (by omega)];simp
theorem appc_get0 {α:Type} {A Z:List α} {a:α}:(A++a::Z)[A.length]? = some a:=by
  rw [List.getElem?_append_right (by omega)];simp
theorem appc_set {α:Type} {A Z:List α} {a x:α}:((A++a::x::Z).set (A.length+1) a).set A.length x=A++x::a::Z:=by
  rw [List.set_append_right _ _ (by omega),List.set_append_right _ _ (by omega)]
  simp
def CmpOK {α:Type} (v:α→IV) (F:Lab) (caps:List IV) (lt:α→α→Bool) (D:α→Prop) (M:List Boxes):Prop :=
  ∀ x y,D x→D y→∃ k:Int,decide (k < 0)=lt x y∧Ev tb F [] (v x::v y::caps) (M++[[]]) ⟨I k,[],M++[[]],[]⟩
theorem icle (F:Lab) (caps:List IV) (lt:(Int×Int)→(Int×Int)→Bool) (D:(Int×Int)→Prop) (M:List Boxes) (hc:CmpOK vE F caps lt D M) (P:List (Int×Int)) (n i:Int) (x:(Int×Int)) (rest:List (Int×Int)):∀ (k:Nat) (A B:List (Int×Int)),A.length=k→P.length+k+B.length+rest.length≤2000000→D x→(∀ a ∈ A,D a) →
    wp tb (.loop z277l6) { T:=[(0,O2 ((P++A)++x::(B++rest))),(1,I P.length),(2,I n),(3,.fn F caps),(8,I i),(9,I (P.length+k:Nat))],loc:=[],M:=M }
      (fun ex st=>ex=.exit 2∧∃ k':Int,st={ T:=[(0,O2 (P++(insC lt x A.reverse B++rest))),(1,I P.length),(2,I n),(3,.fn F caps),(8,I i),(9,I k'),(34,Bo false)],loc:=[],M:=M }):=by
  intro k
  induction k with
  | zero =>
    intro A B hA hl hx hD
    have:A=[]:=List.length_eq_zero_iff.1 hA
    subst this
    refine wp_loop ?_
    repeat (first|apply wp_as|apply wp_ss|refine wr (by simp;with_reducible rfl) ?_|refine wq (by simp;with_reducible rfl) ?_|refine wt (by simpa) ?_|refine wf (by simpa) ?_|refine xt (by simpa) ?_|refine xf (by simpa) ?_|apply wp_bs|apply wp_b|refine wp_sr ?_|refine wp_sx ?_|refine wp_ret' ?_|refine wp_skip' ?_|refine wp_exit' ?_)
    exact ⟨rfl,_,by simp [insC];rfl⟩
  | succ k ih =>
    intro A B hA hl hx hD
    obtain ⟨A',a,rfl⟩:∃ A' a,A=A'++[a]:=⟨A.dropLast,A.getLast (by intro h;subst h;simp at hA),(List.dropLast_concat_getLast _).symm⟩
    have hA':A'.length=k:=by simpa using hA
    subst hA'
    obtain ⟨c,hc1,hc2⟩:=hc x a hx (hD a (by simp))
    have e1:=ev_lim hc2
    have hPl:(P++A').length=P.length+A'.length:=by simp
    obtain ⟨Q,hQ⟩:∃ Q,Q=P++A':=⟨_,rfl⟩
    have hQl:P.length+A'.length=Q.length:=by rw [hQ];simp
    have hre:P++(A'++[a])++x::(B++rest)=Q++a::x::(B++rest):=by rw [hQ];simp
    rw [hre]
    have hk:((P.length+(A'.length+1):Nat):Int)=(Q.length:Int)+1:=by omega
    rw [hk]
    have w1:IntKind.i64.wrap (Q.length:Int)=(Q.length:Int):=wrap64 (by omega) (by omega)
    have w2:(P.length:Int) < (Q.length:Int)+1:=by omega
    by_cases hx0:c < 0
    · have hlt:lt x a=true:=by rw [← hc1];exact decide_eq_true hx0
      have:=ih A' (a::B) rfl (by simp;omega) hx (fun b hb=>hD b (by simp [hb]))
      rw [show P++A'++x::(a::B++rest)=Q++x::(a::(B++rest)) by rw [hQ];simp,hQl] at this
      refine wp_loop ?_
      repeat (first|apply wp_as|apply wp_ss|refine wr (by simp [e1,hx0,w1,w2,appc_get0,appc_get1,appc_set];with_reducible rfl) ?_|refine wq (by simp [e1,hx0,w1,w2,appc_get0,appc_get1,appc_set];with_reducible rfl) ?_|refine wt (by simpa [e1,hx0,w1,w2,appc_get0,appc_get1,appc_set]) ?_|refine wf (by simpa [e1,hx0,w1,w2,appc_get0,appc_get1,appc_set]) ?_|refine xt (by simpa [e1,hx0,w1,w2,appc_get0,appc_get1,appc_set]) ?_|refine xf (by simpa [e1,hx0,w1,w2,appc_get0,appc_get1,appc_set]) ?_|apply wp_bs|apply wp_b|refine wp_sr ?_|refine wp_sx ?_|refine wp_ret' ?_|refine wp_skip' ?_|refine wp_exit' ?_)
      simp only [List.reverse_append,List.reverse_cons,List.reverse_nil,List.nil_append,List.cons_append]
      simp only [insC,hlt,if_true]
      exact this
    · have hlt:lt x a=false:=by rw [← hc1];exact decide_eq_false hx0
      refine wp_loop ?_
      repeat (first|apply wp_as|apply wp_ss|refine wr (by simp [e1,hx0,w1,w2,appc_get0,appc_get1,appc_set];with_reducible rfl) ?_|refine wq (by simp [e1,hx0,w1,w2,appc_get0,appc_get1,appc_set];with_reducible rfl) ?_|refine wt (by simpa [e1,hx0,w1,w2,appc_get0,appc_get1,appc_set]) ?_|refine wf (by simpa [e1,hx0,w1,w2,appc_get0,appc_get1,appc_set]) ?_|refine xt (by simpa [e1,hx0,w1,w2,appc_get0,appc_get1,appc_set]) ?_|refine xf (by simpa [e1,hx0,w1,w2,appc_get0,appc_get1,appc_set]) ?_|apply wp_bs|apply wp_b|refine wp_sr ?_|refine wp_sx ?_|refine wp_ret' ?_|refine wp_skip' ?_|refine wp_exit' ?_)
      refine ⟨rfl,(Q.length:Int)+1,?_⟩
      simp only [List.reverse_append,List.reverse_cons,List.reverse_nil,List.nil_append,List.cons_append]
      simp only [insC,hlt,Bool.false_eq_true,if_false,List.reverse_reverse]
      rw [hQ]
      simp
theorem isoe (F:Lab) (caps:List IV) (lt:(Int×Int)→(Int×Int)→Bool) (D:(Int×Int)→Prop) (M:List Boxes) (hc:CmpOK vE F caps lt D M) (P Q:List (Int×Int)) (n:Int):∀ (r S:List (Int×Int)),n=(P.length+S.length+r.length:Nat)→P.length+S.length+r.length+Q.length≤900000→(∀ x ∈ S,D x)→(∀ x ∈ r,D x) →
    wp tb (.loop z277l8) { T:=[(0,O2 (P++(S++(r++Q)))),(1,I P.length),(2,I n),(3,.fn F caps),(8,I (P.length+S.length:Nat))],loc:=[],M:=M }
      (fun ex st=>ex=.exit 0∧∃ k':Int,st={ T:=[(0,O2 (P++(srtC lt S r++Q))),(1,I P.length),(2,I n),(3,.fn F caps),(8,I k'),(14,Bo false)],loc:=[],M:=M }):=by
  intro r
  induction r with
  | nil =>
    intro S hn hl hS hr
    have h1:¬ ((P.length:Int)+(S.length:Int)) < n:=by simp at hn;omega
    refine wp_loop ?_
    repeat (first|apply wp_as|apply wp_ss|refine wr (by simp [h1];with_reducible rfl) ?_|refine wq (by simp [h1];with_reducible rfl) ?_|refine wt (by simpa [h1]) ?_|refine wf (by simpa [h1]) ?_|refine xt (by simpa [h1]) ?_|refine xf (by simpa [h1]) ?_|apply wp_bs|apply wp_b|refine wp_sr ?_|refine wp_sx ?_|refine wp_ret' ?_|refine wp_skip' ?_|refine wp_exit' ?_)
    exact ⟨rfl,_,by simp [srtC];rfl⟩
  | cons x r ih =>
    intro S hn hl hS hr
    simp only [List.length_cons] at hn hl
    have h1:(P.length:Int)+(S.length:Int) < n:=by omega
    have w1:IntKind.i64.wrap ((P.length:Int)+(S.length:Int)+1)=(P.length:Int)+(S.length:Int)+1:=by rw [wrap64 (by omega) (by omega)]
    have hin:=icle F caps lt D M hc P n ((P.length:Int)+S.length) x (r++Q) S.length S [] rfl (by simp;omega) (hr x (by simp)) hS
    rw [show P++S++x::([]++(r++Q))=P++(S++(x::r++Q)) by simp,show ((P.length+S.length:Nat):Int)=(P.length:Int)+S.length by omega] at hin
    have hn2:=ih (insC lt x S.reverse []) (by rw [insC_len];omega) (by rw [insC_len];omega) (fun y hy=>by
      have:=(insC_perm lt x S.reverse []).mem_iff.1 hy
      simp only [List.reverse_reverse,List.mem_append,List.mem_cons,List.not_mem_nil,or_false] at this
      rcases this with h | rfl
      · exact hS y h
      · exact hr y (by simp)) (fun y hy=>hr y (by simp [hy]))
    rw [insC_len,show ((P.length+(S.length+1):Nat):Int)=(P.length:Int)+S.length+1 by omega] at hn2
    rw [show ((P.length+S.length:Nat):Int)=(P.length:Int)+S.length by omega]
    refine wp_loop ?_
    repeat (first|apply wp_as|apply wp_ss|refine wr (by simp [h1,w1];with_reducible rfl) ?_|refine wq (by simp [h1,w1];with_reducible rfl) ?_|refine wt (by simpa [h1,w1]) ?_|refine wf (by simpa [h1,w1]) ?_|refine xt (by simpa [h1,w1]) ?_|refine xf (by simpa [h1,w1]) ?_|apply wp_bs|apply wp_b|refine wp_sr ?_|refine wp_sx ?_|refine wp_ret' ?_|refine wp_skip' ?_|refine wp_exit' ?_)
    refine wp_imp hin ?_
    rintro ex st ⟨rfl,k',rfl⟩
    simp only [if_true]
    repeat (first|apply wp_as|apply wp_ss|refine wr (by simp [h1,w1];with_reducible rfl) ?_|refine wq (by simp [h1,w1];with_reducible rfl) ?_|refine wt (by simpa [h1,w1]) ?_|refine wf (by simpa [h1,w1]) ?_|refine xt (by simpa [h1,w1]) ?_|refine xf (by simpa [h1,w1]) ?_|apply wp_bs|apply wp_b|refine wp_sr ?_|refine wp_sx ?_|refine wp_ret' ?_|refine wp_skip' ?_|refine wp_exit' ?_)
    exact hn2
theorem ev_insCe (F:Lab) (caps:List IV) (lt:(Int×Int)→(Int×Int)→Bool) (D:(Int×Int)→Prop) (M:List Boxes) (hc:CmpOK vE F caps lt D M) (P Q seg:List (Int×Int)) (hl:P.length+seg.length+Q.length≤800000) (hD:∀ x ∈ seg,D x) :
    Ev tb zl277 [0] [O2 (P++(seg++Q)),I P.length,I (P.length+seg.length:Nat),.fn F caps] M ⟨.tup [],[O2 (P++(srtC lt [] seg++Q))],M,[]⟩:=by
  have w1:IntKind.i64.wrap ((P.length:Int)+1)=(P.length:Int)+1:=by rw [wrap64 (by omega) (by omega)]
  cases seg with
  | nil =>
    have h1:¬ (P.length:Int)+1 < ((P.length+([]:List (Int×Int)).length:Nat):Int):=by simp;omega
    simp only [List.length_nil,Nat.add_zero] at h1 ⊢
    refine call_of_wp zt277 rfl ?_
    repeat (first|apply wp_as|apply wp_ss|refine wr (by simp [w1];with_reducible rfl) ?_|refine wq (by simp [w1];with_reducible rfl) ?_|refine wt (by simpa [w1]) ?_|refine wf (by simpa [w1]) ?_|refine xt (by simpa [w1]) ?_|refine xf (by simpa [w1]) ?_|apply wp_bs|apply wp_b|refine wp_sr ?_|refine wp_sx ?_|refine wp_ret' ?_|refine wp_skip' ?_|refine wp_exit' ?_)
    refine wp_loop ?_
    repeat (first|apply wp_as|apply wp_ss|refine wr (by simp [h1];with_reducible rfl) ?_|refine wq (by simp [h1];with_reducible rfl) ?_|refine wt (by simpa [h1]) ?_|refine wf (by simpa [h1]) ?_|refine xt (by simpa [h1]) ?_|refine xf (by simpa [h1]) ?_|apply wp_bs|apply wp_b|refine wp_sr ?_|refine wp_sx ?_|refine wp_ret' ?_|refine wp_skip' ?_|refine wp_exit' ?_)
    simp [zi277,srtC]
  | cons x r =>
    have:=isoe F caps lt D M hc P Q (P.length+(x::r).length:Nat) r [x] (by simp;omega) (by simp at hl ⊢;omega) (fun y hy=>by simp at hy;subst hy;exact hD _ (by simp)) (fun y hy=>hD y (by simp [hy]))
    rw [show P++([x]++(r++Q))=P++(x::r++Q) by simp,show ((P.length+[x].length:Nat):Int)=(P.length:Int)+1 by simp] at this
    have hs:srtC lt [x] r=srtC lt [] (x::r):=by simp [srtC,insC]
    rw [hs] at this
    generalize ((P.length+(x::r).length:Nat):Int)=n at *
    refine call_of_wp zt277 rfl ?_
    repeat (first|apply wp_as|apply wp_ss|refine wr (by simp [w1];with_reducible rfl) ?_|refine wq (by simp [w1];with_reducible rfl) ?_|refine wt (by simpa [w1]) ?_|refine wf (by simpa [w1]) ?_|refine xt (by simpa [w1]) ?_|refine xf (by simpa [w1]) ?_|apply wp_bs|apply wp_b|refine wp_sr ?_|refine wp_sx ?_|refine wp_ret' ?_|refine wp_skip' ?_|refine wp_exit' ?_)
    refine wp_imp this ?_
    rintro ex st ⟨rfl,k',rfl⟩
    simp [zi277]
end Go.Idl
namespace Go.Idl
open Go
@[simp] theorem get_mid {α:Type} (A bs:List α) (x:α):(A++x::bs)[A.length]? = some x:=by simp
@[simp] theorem set_mid {α:Type} (A bs:List α) (x y:α):(A++x::bs).set A.length y=A++y::bs:=by
  rw [List.set_append_right _ _ (Nat.le_refl _)];simp
@[simp] theorem set_last {α:Type} (A:List α) (x y:α):(A++[x]).set A.length y=A++[y]:=set_mid A [] x y
end Go.Idl
namespace Go.Idl
open Go
def comp (d:List Int):List Int:=(List.range d.length).map fun k=>(d.length:Int) - 1 - d.getD k 0
end Go.Idl
namespace Go.Idl
open Go
def ahead (x y:List Int) (i m:Nat):Bool:=(List.range m).all fun j=>decide ((y.take (i+j+1)).sum≤(x.take (i+j+1)).sum)
end Go.Idl
namespace Go.Idl
open Go
def Fit (es:List (Int×Int)):Prop:=∀ e ∈ es,-9223372036854775808≤e.1∧e.1 < 9223372036854775808∧-9223372036854775808≤e.2∧e.2 < 9223372036854775808
def below (a b:Int×Int):Bool:=decide (a.1 < b.1) || (decide (a.1=b.1) && decide (a.2 < b.2))
def cmpE (a b:Int×Int):Int:=if a.1=b.1 then a.2 - b.2 else a.1 - b.1
theorem cmpE_below (a b:Int×Int):(decide (cmpE a b < 0))=below a b:=by
  unfold cmpE below
  rw [Bool.eq_iff_iff]
  simp only [decide_eq_true_eq,Bool.or_eq_true,Bool.and_eq_true]
  split <;> omega
theorem ev_compareEdges (a b:Int×Int) (ha:0≤a.1∧a.1 < 9223372036854775808∧0≤a.2∧a.2 < 9223372036854775808) (hb:0≤b.1∧b.1 < 9223372036854775808∧0≤b.2∧b.2 < 9223372036854775808) (M:List Boxes) :
    Ev tb zl32 [] [.agg [I a.1,I a.2],.agg [I b.1,I b.2]] M ⟨I (cmpE a b),[],M,[]⟩:=by
  have w1:IntKind.i64.wrap (a.1 - b.1)=a.1 - b.1:=wrap64 (by omega) (by omega)
  have w2:IntKind.i64.wrap (a.2 - b.2)=a.2 - b.2:=wrap64 (by omega) (by omega)
  by_cases h:a.1=b.1
  · refine call_of_wp zt32 rfl ?_
    repeat (first|apply wp_as|apply wp_ss|refine wr (by simp [h,w2];with_reducible rfl) ?_|refine wq (by simp [h,w2];with_reducible rfl) ?_|refine wt (by simpa [h,w2]) ?_|refine wf (by simpa [h,w2]) ?_|refine xt (by simpa [h,w2]) ?_|refine xf (by simpa [h,w2]) ?_|apply wp_bs|apply wp_b|refine wp_sr ?_|refine wp_sx ?_|refine wp_ret' ?_|refine wp_skip' ?_|refine wp_exit' ?_)
    simp [zi32,cmpE,h]
  · have h2:(a.1 != b.1)=true:=by simp [h]
    refine call_of_wp zt32 rfl ?_
    repeat (first|apply wp_as|apply wp_ss|refine wr (by simp [h,h2,w1];with_reducible rfl) ?_|refine wq (by simp [h,h2,w1];with_reducible rfl) ?_|refine wt (by simpa [h,h2,w1]) ?_|refine wf (by simpa [h,h2,w1]) ?_|refine xt (by simpa [h,h2,w1]) ?_|refine xf (by simpa [h,h2,w1]) ?_|apply wp_bs|apply wp_b|refine wp_sr ?_|refine wp_sx ?_|refine wp_ret' ?_|refine wp_skip' ?_|refine wp_exit' ?_)
    simp [zi32,cmpE,h]
theorem ev_edgeBelow (a b:Int×Int):Ev tb zl126 [] [.agg [I a.1,I a.2],.agg [I b.1,I b.2]] [] ⟨Bo (below a b),[],[],[]⟩:=by
  by_cases h1:a.1 < b.1
  · refine call_of_wp zt126 rfl ?_
    repeat (first|apply wp_as|apply wp_ss|refine wr (by simp [h1];with_reducible rfl) ?_|refine wq (by simp [h1];with_reducible rfl) ?_|refine wt (by simpa [h1]) ?_|refine wf (by simpa [h1]) ?_|refine xt (by simpa [h1]) ?_|refine xf (by simpa [h1]) ?_|apply wp_bs|apply wp_b|refine wp_sr ?_|refine wp_sx ?_|refine wp_ret' ?_|refine wp_skip' ?_|refine wp_exit' ?_)
    simp [zi126,below,h1]
  · by_cases h2:a.1=b.1
    · refine call_of_wp zt126 rfl ?_
      repeat (first|apply wp_as|apply wp_ss|refine wr (by simp [h1,h2];with_reducible rfl) ?_|refine wq (by simp [h1,h2];with_reducible rfl) ?_|refine wt (by simpa [h1,h2]) ?_|refine wf (by simpa [h1,h2]) ?_|refine xt (by simpa [h1,h2]) ?_|refine xf (by simpa [h1,h2]) ?_|apply wp_bs|apply wp_b|refine wp_sr ?_|refine wp_sx ?_|refine wp_ret' ?_|refine wp_skip' ?_|refine wp_exit' ?_)
      simp [zi126,below,h1,h2]
    · refine call_of_wp zt126 rfl ?_
      repeat (first|apply wp_as|apply wp_ss|refine wr (by simp [h1,h2];with_reducible rfl) ?_|refine wq (by simp [h1,h2];with_reducible rfl) ?_|refine wt (by simpa [h1,h2]) ?_|refine wf (by simpa [h1,h2]) ?_|refine xt (by simpa [h1,h2]) ?_|refine xf (by simpa [h1,h2]) ?_|apply wp_bs|apply wp_b|refine wp_sr ?_|refine wp_sx ?_|refine wp_ret' ?_|refine wp_skip' ?_|refine wp_exit' ?_)
      simp [zi126,below,h1,h2]
def okE (n:Int) (e:Int×Int):Bool:=decide (0≤e.1) && (decide (e.1 < e.2) && decide (e.2 < n))
def vEs (n:Int):Option (Int×Int)→List (Int×Int)→Bool
  | _,[]=>true
  | none,e::r=>okE n e && vEs n (some e) r
  | some q,e::r=>okE n e && (below q e && vEs n (some e) r)
def vGraph (n:Int) (es:List (Int×Int)):Bool:=vEs n none es && (decide (0≤n) && decide (n≤7))
theorem Fit.at {es:List (Int×Int)} (h:Fit es) {i:Nat} (hi:i < es.length):-9223372036854775808≤es[i].1∧es[i].1 < 9223372036854775808∧-9223372036854775808≤es[i].2∧es[i].2 < 9223372036854775808:=h _ (List.getElem_mem hi)
theorem validl (n:Int) (es:List (Int×Int)) (c:Bool) (hf:Fit es) (hl:es.length≤100000000):∀ (m i:Nat) (p:Option (Int×Int)) (bs:Boxes),i+m=es.length →
    (i=0∧p=none ∨ ∃ j,∃ h:j < es.length,i=j+1∧p=some es[j]∧0≤es[j].1∧0≤es[j].2) →
    wp tb (.loop z26l7) { T:=[(1,.bptr 0 0 0),(6,L2 es c),(7,I es.length),(8,I i)],loc:=[I n,L2 es c]::bs,M:=[] }
      (fun ex st=>(vEs n p (es.drop i)=true∧ex=.exit 0∧∃ bs',st={ T:=[(1,.bptr 0 0 0),(6,L2 es c),(7,I es.length),(8,I es.length),(9,Bo false)],loc:=[I n,L2 es c]::bs',M:=[] }) ∨
        (vEs n p (es.drop i)=false∧ex=.ret∧∃ bs',st={ T:=[(2,Bo false)],loc:=[I n,L2 es c]::bs',M:=[] })):=by
  intro m
  induction m with
  | zero =>
    intro i p bs hi hp
    have h3:i=es.length:=hi
    subst h3
    refine wp_loop ?_
    repeat (first|apply wp_as|apply wp_ss|refine wr (by simp;with_reducible rfl) ?_|refine wq (by simp;with_reducible rfl) ?_|refine wt (by simpa) ?_|refine wf (by simpa) ?_|refine xt (by simpa) ?_|refine xf (by simpa) ?_|apply wp_bs|apply wp_b|refine wp_sr ?_|refine wp_sx ?_|refine wp_ret' ?_|refine wp_skip' ?_|refine wp_exit' ?_)
    exact .inl ⟨by simp [vEs],rfl,bs,rfl⟩
  | succ m ih =>
    intro i p bs hi hp
    have hi2:i < es.length:=by omega
    have hd:es.drop i=es[i]::es.drop (i+1):=List.drop_eq_getElem_cons hi2
    have hfe:=hf.at hi2
    have w1:IntKind.i64.wrap ((i:Int)+1)=((i+1:Nat):Int):=wrapS (by omega)
    have bad:okE n es[i]=false→vEs n p (es.drop i)=false:=fun h=>by
      rw [hd];cases p <;> simp [vEs,h]
    by_cases h1:es[i].1 < 0
    · have hb:=bad (by simp [okE];omega)
      refine wp_loop ?_
      repeat (first|apply wp_as|apply wp_ss|refine wr (by simp [hi2,h1];with_reducible rfl) ?_|refine wq (by simp [hi2,h1];with_reducible rfl) ?_|refine wt (by simpa [hi2,h1]) ?_|refine wf (by simpa [hi2,h1]) ?_|refine xt (by simpa [hi2,h1]) ?_|refine xf (by simpa [hi2,h1]) ?_|apply wp_bs|apply wp_b|refine wp_sr ?_|refine wp_sx ?_|refine wp_ret' ?_|refine wp_skip' ?_|refine wp_exit' ?_)
      exact .inr ⟨hb,rfl,_,rfl⟩
    by_cases h2:es[i].2≤es[i].1
    · have hb:=bad (by simp [okE];omega)
      refine wp_loop ?_
      repeat (first|apply wp_as|apply wp_ss|refine wr (by simp [hi2,h1,h2];with_reducible rfl) ?_|refine wq (by simp [hi2,h1,h2];with_reducible rfl) ?_|refine wt (by simpa [hi2,h1,h2]) ?_|refine wf (by simpa [hi2,h1,h2]) ?_|refine xt (by simpa [hi2,h1,h2]) ?_|refine xf (by simpa [hi2,h1,h2]) ?_|apply wp_bs|apply wp_b|refine wp_sr ?_|refine wp_sx ?_|refine wp_ret' ?_|refine wp_skip' ?_|refine wp_exit' ?_)
      exact .inr ⟨hb,rfl,_,rfl⟩
    by_cases h3:n≤es[i].2
    · have hb:=bad (by simp [okE];omega)
      refine wp_loop ?_
      repeat (first|apply wp_as|apply wp_ss|refine wr (by simp [hi2,h1,h2,h3];with_reducible rfl) ?_|refine wq (by simp [hi2,h1,h2,h3];with_reducible rfl) ?_|refine wt (by simpa [hi2,h1,h2,h3]) ?_|refine wf (by simpa [hi2,h1,h2,h3]) ?_|refine xt (by simpa [hi2,h1,h2,h3]) ?_|refine xf (by simpa [hi2,h1,h2,h3]) ?_|apply wp_bs|apply wp_b|refine wp_sr ?_|refine wp_sx ?_|refine wp_ret' ?_|refine wp_skip' ?_|refine wp_exit' ?_)
      exact .inr ⟨hb,rfl,_,rfl⟩
    have hok:okE n es[i]=true:=by simp [okE];omega
    rcases hp with ⟨rfl,rfl⟩ | ⟨j,hj,rfl,rfl,q1,q2⟩
    · have hn:=ih 1 (some es[0]) (bs++[[I es[0].1,I es[0].2]]) (by omega) (.inr ⟨0,hi2,rfl,rfl,by omega,by omega⟩)
      rw [hd]
      simp only [vEs,hok,Bool.true_and]
      refine wp_loop ?_
      repeat (first|apply wp_as|apply wp_ss|refine wr (by simp [hi2,h1,h2,h3,show IntKind.i64.wrap (1:Int)=1 from rfl];with_reducible rfl) ?_|refine wq (by simp [hi2,h1,h2,h3,show IntKind.i64.wrap (1:Int)=1 from rfl];with_reducible rfl) ?_|refine wt (by simpa [hi2,h1,h2,h3,show IntKind.i64.wrap (1:Int)=1 from rfl]) ?_|refine wf (by simpa [hi2,h1,h2,h3,show IntKind.i64.wrap (1:Int)=1 from rfl]) ?_|refine xt (by simpa [hi2,h1,h2,h3,show IntKind.i64.wrap (1:Int)=1 from rfl]) ?_|refine xf (by simpa [hi2,h1,h2,h3,show IntKind.i64.wrap (1:Int)=1 from rfl]) ?_|apply wp_bs|apply wp_b|refine wp_sr ?_|refine wp_sx ?_|refine wp_ret' ?_|refine wp_skip' ?_|refine wp_exit' ?_)
      exact hn
    · have hfj:=hf.at hj
      have w2:IntKind.i64.wrap (j:Int)=(j:Int):=wrapN (by omega)
      have hj0:(0:Int) < (j:Int)+1:=by omega
      have hj1:(j:Int)+1 < (es.length:Int):=by omega
      have w3:IntKind.i64.wrap ((j:Int)+1+1)=((j+1+1:Nat):Int):=by rw [wrap64 (by omega) (by omega)];omega
      have e1:=ev_lim (ev_compareEdges es[j] es[j+1] ⟨q1,hfj.2.1,q2,hfj.2.2.2⟩ ⟨by omega,by omega,by omega,by omega⟩ [])
      have hcb:=cmpE_below es[j] es[j+1]
      rw [hd]
      simp only [vEs,hok,Bool.true_and,← hcb]
      by_cases h4:0≤cmpE es[j] es[j+1]
      · have h5:decide (cmpE es[j] es[j+1] < 0)=false:=decide_eq_false (by omega)
        rw [h5]
        refine wp_loop ?_
        repeat (first|apply wp_as|apply wp_ss|refine wr (by simp [hi2,hj,h1,h2,h3,w2,hj0,hj1,e1,h4];with_reducible rfl) ?_|refine wq (by simp [hi2,hj,h1,h2,h3,w2,hj0,hj1,e1,h4];with_reducible rfl) ?_|refine wt (by simpa [hi2,hj,h1,h2,h3,w2,hj0,hj1,e1,h4]) ?_|refine wf (by simpa [hi2,hj,h1,h2,h3,w2,hj0,hj1,e1,h4]) ?_|refine xt (by simpa [hi2,hj,h1,h2,h3,w2,hj0,hj1,e1,h4]) ?_|refine xf (by simpa [hi2,hj,h1,h2,h3,w2,hj0,hj1,e1,h4]) ?_|apply wp_bs|apply wp_b|refine wp_sr ?_|refine wp_sx ?_|refine wp_ret' ?_|refine wp_skip' ?_|refine wp_exit' ?_)
        exact .inr ⟨rfl,rfl,_,rfl⟩
      · have h5:decide (cmpE es[j] es[j+1] < 0)=true:=decide_eq_true (by omega)
        rw [h5]
        have hn:=ih (j+1+1) (some es[j+1]) (bs++[[I es[j+1].1,I es[j+1].2]]) (by omega) (.inr ⟨j+1,hi2,rfl,rfl,by omega,by omega⟩)
        simp only [Bool.true_and]
        refine wp_loop ?_
        repeat (first|apply wp_as|apply wp_ss|refine wr (by simp [hi2,hj,h1,h2,h3,w3,w2,hj0,hj1,e1,h4];with_reducible rfl) ?_|refine wq (by simp [hi2,hj,h1,h2,h3,w3,w2,hj0,hj1,e1,h4];with_reducible rfl) ?_|refine wt (by simpa [hi2,hj,h1,h2,h3,w3,w2,hj0,hj1,e1,h4]) ?_|refine wf (by simpa [hi2,hj,h1,h2,h3,w3,w2,hj0,hj1,e1,h4]) ?_|refine xt (by simpa [hi2,hj,h1,h2,h3,w3,w2,hj0,hj1,e1,h4]) ?_|refine xf (by simpa [hi2,hj,h1,h2,h3,w3,w2,hj0,hj1,e1,h4]) ?_|apply wp_bs|apply wp_b|refine wp_sr ?_|refine wp_sx ?_|refine wp_ret' ?_|refine wp_skip' ?_|refine wp_exit' ?_)
        exact hn
theorem ev_ValidGraph (n:Int) (es:List (Int×Int)) (c:Bool) (hf:Fit es) (hl:es.length≤100000000):Ev tb zl26 [] [Gr n es c] [] ⟨Bo (vGraph n es),[],[],[]⟩:=by
  have e1:=ev_lim (ev_in n 0 7)
  have hlo:=validl n es c hf hl es.length 0 none [] (by simp) (.inl ⟨rfl,rfl⟩)
  refine call_of_wp zt26 rfl ?_
  repeat (first|apply wp_as|apply wp_ss|refine wr (by simp;with_reducible rfl) ?_|refine wq (by simp;with_reducible rfl) ?_|refine wt (by simpa) ?_|refine wf (by simpa) ?_|refine xt (by simpa) ?_|refine xf (by simpa) ?_|apply wp_bs|apply wp_b|refine wp_sr ?_|refine wp_sx ?_|refine wp_ret' ?_|refine wp_skip' ?_|refine wp_exit' ?_)
  refine wp_imp hlo ?_
  rintro ex st (⟨hv,rfl,bs,rfl⟩ | ⟨hv,rfl,bs,rfl⟩)
  · try simp only [if_true]
    repeat (first|apply wp_as|apply wp_ss|refine wr (by simp [e1];with_reducible rfl) ?_|refine wq (by simp [e1];with_reducible rfl) ?_|refine wt (by simpa [e1]) ?_|refine wf (by simpa [e1]) ?_|refine xt (by simpa [e1]) ?_|refine xf (by simpa [e1]) ?_|apply wp_bs|apply wp_b|refine wp_sr ?_|refine wp_sx ?_|refine wp_ret' ?_|refine wp_skip' ?_|refine wp_exit' ?_)
    simp only [List.drop_zero] at hv
    simp [zi26,vGraph,hv]
  · simp only [List.drop_zero] at hv
    simp [zi26,vGraph,hv]
theorem svalidl (n:Int) (es:List (Int×Int)) (c:Bool) (hl:es.length≤100000000):∀ (m i:Nat) (p:Option (Int×Int)) (bs:Boxes),i+m=es.length →
    (i=0∧p=none ∨ ∃ j,∃ h:j < es.length,i=j+1∧p=some es[j]) →
    wp tb (.loop z145l7) { T:=[(1,.bptr 0 0 0),(3,I i)],loc:=[I n,L2 es c]::bs,M:=[] }
      (fun ex st=>(vEs n p (es.drop i)=true∧ex=.exit 0∧∃ bs',st={ T:=[(1,.bptr 0 0 0),(3,I es.length),(9,Bo false)],loc:=[I n,L2 es c]::bs',M:=[] }) ∨
        (vEs n p (es.drop i)=false∧ex=.ret∧∃ bs',st={ T:=[(2,Bo false)],loc:=[I n,L2 es c]::bs',M:=[] })):=by
  intro m
  induction m with
  | zero =>
    intro i p bs hi hp
    have h3:i=es.length:=hi
    subst h3
    refine wp_loop ?_
    repeat (first|apply wp_as|apply wp_ss|refine wr (by simp;with_reducible rfl) ?_|refine wq (by simp;with_reducible rfl) ?_|refine wt (by simpa) ?_|refine wf (by simpa) ?_|refine xt (by simpa) ?_|refine xf (by simpa) ?_|apply wp_bs|apply wp_b|refine wp_sr ?_|refine wp_sx ?_|refine wp_ret' ?_|refine wp_skip' ?_|refine wp_exit' ?_)
    exact .inl ⟨by simp [vEs],rfl,bs,rfl⟩
  | succ m ih =>
    intro i p bs hi hp
    have hi2:i < es.length:=by omega
    have hd:es.drop i=es[i]::es.drop (i+1):=List.drop_eq_getElem_cons hi2
    have w1:IntKind.i64.wrap ((i:Int)+1)=((i+1:Nat):Int):=wrapS (by omega)
    have bad:okE n es[i]=false→vEs n p (es.drop i)=false:=fun h=>by
      rw [hd];cases p <;> simp [vEs,h]
    by_cases h1:es[i].1 < 0
    · have hb:=bad (by simp [okE];omega)
      refine wp_loop ?_
      repeat (first|apply wp_as|apply wp_ss|refine wr (by simp [hi2,h1];with_reducible rfl) ?_|refine wq (by simp [hi2,h1];with_reducible rfl) ?_|refine wt (by simpa [hi2,h1]) ?_|refine wf (by simpa [hi2,h1]) ?_|refine xt (by simpa [hi2,h1]) ?_|refine xf (by simpa [hi2,h1]) ?_|apply wp_bs|apply wp_b|refine wp_sr ?_|refine wp_sx ?_|refine wp_ret' ?_|refine wp_skip' ?_|refine wp_exit' ?_)
      exact .inr ⟨hb,rfl,_,rfl⟩
    by_cases h2:es[i].2≤es[i].1
    · have hb:=bad (by simp [okE];omega)
      refine wp_loop ?_
      repeat (first|apply wp_as|apply wp_ss|refine wr (by simp [hi2,h1,h2];with_reducible rfl) ?_|refine wq (by simp [hi2,h1,h2];with_reducible rfl) ?_|refine wt (by simpa [hi2,h1,h2]) ?_|refine wf (by simpa [hi2,h1,h2]) ?_|refine xt (by simpa [hi2,h1,h2]) ?_|refine xf (by simpa [hi2,h1,h2]) ?_|apply wp_bs|apply wp_b|refine wp_sr ?_|refine wp_sx ?_|refine wp_ret' ?_|refine wp_skip' ?_|refine wp_exit' ?_)
      exact .inr ⟨hb,rfl,_,rfl⟩
    by_cases h3:n≤es[i].2
    · have hb:=bad (by simp [okE];omega)
      refine wp_loop ?_
      repeat (first|apply wp_as|apply wp_ss|refine wr (by simp [hi2,h1,h2,h3];with_reducible rfl) ?_|refine wq (by simp [hi2,h1,h2,h3];with_reducible rfl) ?_|refine wt (by simpa [hi2,h1,h2,h3]) ?_|refine wf (by simpa [hi2,h1,h2,h3]) ?_|refine xt (by simpa [hi2,h1,h2,h3]) ?_|refine xf (by simpa [hi2,h1,h2,h3]) ?_|apply wp_bs|apply wp_b|refine wp_sr ?_|refine wp_sx ?_|refine wp_ret' ?_|refine wp_skip' ?_|refine wp_exit' ?_)
      exact .inr ⟨hb,rfl,_,rfl⟩
    have hok:okE n es[i]=true:=by simp [okE];omega
    rcases hp with ⟨rfl,rfl⟩ | ⟨j,hj,rfl,rfl⟩
    · have hn:=ih 1 (some es[0]) (bs++[[I es[0].1,I es[0].2]]) (by omega) (.inr ⟨0,hi2,rfl,rfl⟩)
      rw [hd]
      simp only [vEs,hok,Bool.true_and]
      refine wp_loop ?_
      repeat (first|apply wp_as|apply wp_ss|refine wr (by simp [hi2,h1,h2,h3,show IntKind.i64.wrap (1:Int)=1 from rfl];with_reducible rfl) ?_|refine wq (by simp [hi2,h1,h2,h3,show IntKind.i64.wrap (1:Int)=1 from rfl];with_reducible rfl) ?_|refine wt (by simpa [hi2,h1,h2,h3,show IntKind.i64.wrap (1:Int)=1 from rfl]) ?_|refine wf (by simpa [hi2,h1,h2,h3,show IntKind.i64.wrap (1:Int)=1 from rfl]) ?_|refine xt (by simpa [hi2,h1,h2,h3,show IntKind.i64.wrap (1:Int)=1 from rfl]) ?_|refine xf (by simpa [hi2,h1,h2,h3,show IntKind.i64.wrap (1:Int)=1 from rfl]) ?_|apply wp_bs|apply wp_b|refine wp_sr ?_|refine wp_sx ?_|refine wp_ret' ?_|refine wp_skip' ?_|refine wp_exit' ?_)
      exact hn
    · have w2:IntKind.i64.wrap (j:Int)=(j:Int):=wrapN (by omega)
      have hj0:(0:Int) < (j:Int)+1:=by omega
      have hj1:(j:Int)+1 < (es.length:Int):=by omega
      have w3:IntKind.i64.wrap ((j:Int)+1+1)=((j+1+1:Nat):Int):=by rw [wrap64 (by omega) (by omega)];omega
      have e1:=ev_lim (ev_edgeBelow es[j] es[j+1])
      rw [hd]
      simp only [vEs,hok,Bool.true_and]
      cases h4:below es[j] es[j+1] with
      | false =>
        refine wp_loop ?_
        repeat (first|apply wp_as|apply wp_ss|refine wr (by simp [hi2,hj,h1,h2,h3,w2,hj0,hj1,e1,h4];with_reducible rfl) ?_|refine wq (by simp [hi2,hj,h1,h2,h3,w2,hj0,hj1,e1,h4];with_reducible rfl) ?_|refine wt (by simpa [hi2,hj,h1,h2,h3,w2,hj0,hj1,e1,h4]) ?_|refine wf (by simpa [hi2,hj,h1,h2,h3,w2,hj0,hj1,e1,h4]) ?_|refine xt (by simpa [hi2,hj,h1,h2,h3,w2,hj0,hj1,e1,h4]) ?_|refine xf (by simpa [hi2,hj,h1,h2,h3,w2,hj0,hj1,e1,h4]) ?_|apply wp_bs|apply wp_b|refine wp_sr ?_|refine wp_sx ?_|refine wp_ret' ?_|refine wp_skip' ?_|refine wp_exit' ?_)
        exact .inr ⟨rfl,rfl,_,rfl⟩
      | true =>
        have hn:=ih (j+1+1) (some es[j+1]) (bs++[[I es[j+1].1,I es[j+1].2]]) (by omega) (.inr ⟨j+1,hi2,rfl,rfl⟩)
        simp only [Bool.true_and]
        refine wp_loop ?_
        repeat (first|apply wp_as|apply wp_ss|refine wr (by simp [hi2,hj,h1,h2,h3,w3,w2,hj0,hj1,e1,h4];with_reducible rfl) ?_|refine wq (by simp [hi2,hj,h1,h2,h3,w3,w2,hj0,hj1,e1,h4];with_reducible rfl) ?_|refine wt (by simpa [hi2,hj,h1,h2,h3,w3,w2,hj0,hj1,e1,h4]) ?_|refine wf (by simpa [hi2,hj,h1,h2,h3,w3,w2,hj0,hj1,e1,h4]) ?_|refine xt (by simpa [hi2,hj,h1,h2,h3,w3,w2,hj0,hj1,e1,h4]) ?_|refine xf (by simpa [hi2,hj,h1,h2,h3,w3,w2,hj0,hj1,e1,h4]) ?_|apply wp_bs|apply wp_b|refine wp_sr ?_|refine wp_sx ?_|refine wp_ret' ?_|refine wp_skip' ?_|refine wp_exit' ?_)
        exact hn
theorem ev_validGraph (n:Int) (es:List (Int×Int)) (c:Bool) (hl:es.length≤100000000):Ev tb zl145 [] [Gr n es c] [] ⟨Bo (vGraph n es),[],[],[]⟩:=by
  have e1:=ev_lim (ev_inRange n 0 7)
  have hlo:=svalidl n es c hl es.length 0 none [] (by simp) (.inl ⟨rfl,rfl⟩)
  refine call_of_wp zt145 rfl ?_
  repeat (first|apply wp_as|apply wp_ss|refine wr (by simp;with_reducible rfl) ?_|refine wq (by simp;with_reducible rfl) ?_|refine wt (by simpa) ?_|refine wf (by simpa) ?_|refine xt (by simpa) ?_|refine xf (by simpa) ?_|apply wp_bs|apply wp_b|refine wp_sr ?_|refine wp_sx ?_|refine wp_ret' ?_|refine wp_skip' ?_|refine wp_exit' ?_)
  refine wp_imp hlo ?_
  rintro ex st (⟨hv,rfl,bs,rfl⟩ | ⟨hv,rfl,bs,rfl⟩)
  · try simp only [if_true]
    repeat (first|apply wp_as|apply wp_ss|refine wr (by simp [e1];with_reducible rfl) ?_|refine wq (by simp [e1];with_reducible rfl) ?_|refine wt (by simpa [e1]) ?_|refine wf (by simpa [e1]) ?_|refine xt (by simpa [e1]) ?_|refine xf (by simpa [e1]) ?_|apply wp_bs|apply wp_b|refine wp_sr ?_|refine wp_sx ?_|refine wp_ret' ?_|refine wp_skip' ?_|refine wp_exit' ?_)
    simp only [List.drop_zero] at hv
    simp [zi145,vGraph,hv]
  · simp only [List.drop_zero] at hv
    simp [zi145,vGraph,hv]
end Go.Idl
namespace Go.Idl
structure Seg {α:Type} (X X':List α) (a b:Nat):Prop where
  perm:X'.Perm X
  out:∀ k,k < a ∨ b≤k→X'[k]? = X[k]?
theorem Seg.len {α:Type} {X X':List α} {a b:Nat} (h:Seg X X' a b):X'.length=X.length:=h.perm.length_eq
theorem Seg.refl {α:Type} (X:List α) (a b:Nat):Seg X X a b:=⟨.refl _,fun _ _=>rfl⟩
theorem Seg.trans {α:Type} {X Y Z:List α} {a b:Nat} (h:Seg X Y a b) (k:Seg Y Z a b):Seg X Z a b:=⟨k.perm.trans h.perm,fun i hi=>(k.out i hi).trans (h.out i hi)⟩
theorem Seg.mono {α:Type} {X Y:List α} {a b a' b':Nat} (h:Seg X Y a b) (h1:a'≤a) (h2:b≤b'):Seg X Y a' b':=⟨h.perm,fun i hi=>h.out i (by omega)⟩
theorem Seg.nodup {α:Type} {X Y:List α} {a b:Nat} (h:Seg X Y a b) (hn:X.Nodup):Y.Nodup:=h.perm.nodup_iff.2 hn
def swapL {α:Type} (X:List α) (i j:Nat) (hi:i < X.length) (hj:j < X.length):List α:=(X.set i X[j]).set j X[i]
theorem swapL_len {α:Type} (X:List α) (i j:Nat) (hi hj):(swapL X i j hi hj).length=X.length:=by simp [swapL]
theorem swapL_get {α:Type} (X:List α) (i j:Nat) (hi:i < X.length) (hj:j < X.length) (k:Nat):(swapL X i j hi hj)[k]? = if k=j then some X[i] else if k=i then some X[j] else X[k]?:=by
  rw [swapL,List.getElem?_set,List.getElem?_set]
  by_cases h1:k=j
  · subst h1;simp [hj]
  · by_cases h2:k=i
    · subst h2;simp [hi,h1,Ne.symm h1]
    · simp [h1,h2,Ne.symm h1,Ne.symm h2]
theorem swapL_perm {α:Type} (X:List α) (i j:Nat) (hi:i < X.length) (hj:j < X.length):(swapL X i j hi hj).Perm X:=by
  exact List.set_set_perm hi hj
theorem swapL_seg {α:Type} (X:List α) (i j a b:Nat) (hi:i < X.length) (hj:j < X.length) (h1:a≤i∧i < b) (h2:a≤j∧j < b):Seg X (swapL X i j hi hj) a b :=
  ⟨swapL_perm X i j hi hj,fun k hk=>by rw [swapL_get,if_neg (by omega),if_neg (by omega)]⟩
theorem Seg.back {α:Type} {X Y:List α} {a b:Nat} (h:Seg X Y a b) (hn:X.Nodup) {k:Nat} (hk:a≤k∧k < b) {e:α} (he:Y[k]? = some e):∃ l,(a≤l∧l < b)∧X[l]? = some e:=by
  have hm:e ∈ X:=h.perm.mem_iff.1 (List.mem_of_getElem? he)
  obtain ⟨l,hl,rfl⟩:=List.getElem_of_mem hm
  by_cases hlb:a≤l∧l < b
  · exact ⟨l,hlb,List.getElem?_eq_getElem hl⟩
  · have h1:=h.out l (by omega)
    rw [List.getElem?_eq_getElem hl] at h1
    have hny:=h.nodup hn
    have hkl:k < Y.length:=(List.getElem?_eq_some_iff.1 he).1
    have hll:l < Y.length:=by rw [h.len];exact hl
    have h2:=(List.getElem?_eq_some_iff.1 he).2
    have h3:=(List.getElem?_eq_some_iff.1 h1).2
    have h4:k=l:=(List.getElem_inj hny).1 (h2.trans h3.symm)
    omega
end Go.Idl
namespace Go.Idl
open Go
def DE (x:Int×Int):Prop:=0≤x.1∧x.1 < 9223372036854775808∧0≤x.2∧x.2 < 9223372036854775808
abbrev fcE:IV:=.fn zl32 []
theorem ev_cmpE {a b:Int×Int} (ha:DE a) (hb:DE b) (M:List Boxes):Ev tb zl32 [] [.agg [I a.1,I a.2],.agg [I b.1,I b.2]] M ⟨I (cmpE a b),[],M,[]⟩:=ev_compareEdges a b ha hb M
theorem ev_order2 (X:List (Int×Int)) (hX:∀ x ∈ X,DE x) (i j s:Nat) (hi:i < X.length) (hj:j < X.length) (hs:s≤1000) (Ms Es:List Boxes) :
    Ev tb zl456 [0] [O2 X,I i,I j,.bptr Ms.length 0 0,fcE] (Ms++[[I s]]::Es)
      ⟨.tup (if below X[j] X[i] then [I j,I i] else [I i,I j]),[O2 X],Ms++[[I (if below X[j] X[i] then s+1 else s:Nat)]]::Es,[]⟩:=by
  have hb:=cmpE_below X[j] X[i]
  have e1:=fun M=>ev_lim (ev_cmpE (hX _ (List.getElem_mem hj)) (hX _ (List.getElem_mem hi)) M)
  have w1:IntKind.i64.wrap ((s:Int)+1)=(s:Int)+1:=wrap64 (by omega) (by omega)
  have hln:Ms.length+(Es.length+1+1)=Ms.length+(Es.length+1)+1:=by omega
  rw [← hb]
  by_cases hc:cmpE X[j] X[i] < 0
  · refine call_of_wp zt456 rfl ?_
    repeat (first|apply wp_as|apply wp_ss|refine wr (by simp [hi,hj,e1,hc,w1,hln];with_reducible rfl) ?_|refine wq (by simp [hi,hj,e1,hc,w1,hln];with_reducible rfl) ?_|refine wt (by simpa [hi,hj,e1,hc,w1,hln]) ?_|refine wf (by simpa [hi,hj,e1,hc,w1,hln]) ?_|refine xt (by simpa [hi,hj,e1,hc,w1,hln]) ?_|refine xf (by simpa [hi,hj,e1,hc,w1,hln]) ?_|apply wp_bs|apply wp_b|refine wp_sr ?_|refine wp_sx ?_|refine wp_ret' ?_|refine wp_skip' ?_|refine wp_exit' ?_)
    simp [zi456,hc]
  · refine call_of_wp zt456 rfl ?_
    repeat (first|apply wp_as|apply wp_ss|refine wr (by simp [hi,hj,e1,hc,w1,hln];with_reducible rfl) ?_|refine wq (by simp [hi,hj,e1,hc,w1,hln];with_reducible rfl) ?_|refine wt (by simpa [hi,hj,e1,hc,w1,hln]) ?_|refine wf (by simpa [hi,hj,e1,hc,w1,hln]) ?_|refine xt (by simpa [hi,hj,e1,hc,w1,hln]) ?_|refine xf (by simpa [hi,hj,e1,hc,w1,hln]) ?_|apply wp_bs|apply wp_b|refine wp_sr ?_|refine wp_sx ?_|refine wp_ret' ?_|refine wp_skip' ?_|refine wp_exit' ?_)
    simp [zi456,hc]
theorem below_total {a b:Int×Int} (h:a ≠ b):below a b=true ∨ below b a=true:=by
  simp only [below,Bool.or_eq_true,Bool.and_eq_true,decide_eq_true_eq]
  have:¬ (a.1=b.1∧a.2=b.2):=fun h2=>h (Prod.ext h2.1 h2.2)
  omega
theorem below_asymm {a b:Int×Int} (h:below a b=true):below b a=false:=by
  rw [← Bool.not_eq_true]
  simp only [below,Bool.or_eq_true,Bool.and_eq_true,decide_eq_true_eq] at *
  omega
theorem order2' (X:List (Int×Int)) (hX:∀ x ∈ X,DE x) (hn:X.Nodup) (i j s:Nat) (hi:i < X.length) (hj:j < X.length) (hij:i ≠ j) (hs:s≤1000) (Ms Es:List Boxes) :
    ∃ a b s':Nat,((a=i∧b=j) ∨ (a=j∧b=i))∧s'≤s+1∧(∀ ha hb,below (X[a]'ha) (X[b]'hb)=true) ∧
      limF tb zl456 [0] [O2 X,I i,I j,.bptr Ms.length 0 0,fcE] (Ms++[[I s]]::Es)=some ⟨.tup [I a,I b],[O2 X],Ms++[[I s']]::Es,[]⟩:=by
  have e:=ev_lim (ev_order2 X hX i j s hi hj hs Ms Es)
  have hne:X[i] ≠ X[j]:=fun h=>hij ((List.getElem_inj hn).1 h)
  cases hb:below X[j] X[i] with
  | true =>
    rw [hb] at e
    exact ⟨j,i,s+1,.inr ⟨rfl,rfl⟩,by omega,fun _ _=>hb,e⟩
  | false =>
    rw [hb] at e
    refine ⟨i,j,s,.inl ⟨rfl,rfl⟩,by omega,fun _ _=>?_,e⟩
    rcases below_total hne with h | h
    · exact h
    · rw [hb] at h;cases h
theorem ev_median (X:List (Int×Int)) (hX:∀ x ∈ X,DE x) (hn:X.Nodup) (i j k s:Nat) (hi:i < X.length) (hj:j < X.length) (hk:k < X.length) (hij:i ≠ j) (hik:i ≠ k) (hjk:j ≠ k) (hs:s≤900) (Ms Es:List Boxes) :
    ∃ m s':Nat,s'≤s+3∧(m=i ∨ m=j ∨ m=k)∧(∃ p,(p=i ∨ p=j ∨ p=k)∧∀ h1 h2,below (X[p]'h1) (X[m]'h2)=true)∧(∃ p,(p=i ∨ p=j ∨ p=k)∧∀ h1 h2,below (X[m]'h1) (X[p]'h2)=true) ∧
      Ev tb zl454 [0] [O2 X,I i,I j,I k,.bptr Ms.length 0 0,fcE] (Ms++[[I s]]::Es) ⟨I m,[O2 X],Ms++[[I s']]::Es,[]⟩:=by
  obtain ⟨a1,b1,s1,h1,k1,o1,e1⟩:=order2' X hX hn i j s hi hj hij (by omega) Ms (Es++[[]])
  have ha1:a1 < X.length:=by omega
  have hb1:b1 < X.length:=by omega
  obtain ⟨b2,c2,s2,h2,k2,o2,e2⟩:=order2' X hX hn b1 k s1 hb1 hk (by omega) (by omega) Ms (Es++[[]])
  have hb2:b2 < X.length:=by omega
  have hc2:c2 < X.length:=by omega
  obtain ⟨a3,b3,s3,h3,k3,o3,e3⟩:=order2' X hX hn a1 b2 s2 ha1 hb2 (by omega) (by omega) Ms (Es++[[]])
  have ha3:a3 < X.length:=by omega
  have hb3:b3 < X.length:=by omega
  refine ⟨b3,s3,by omega,by omega,⟨a3,by omega,fun _ _=>o3 ha3 hb3⟩,?_,?_⟩
  · rcases h3 with ⟨_,rfl⟩ | ⟨_,rfl⟩
    · exact ⟨c2,by omega,fun _ _=>o2 hb2 hc2⟩
    · exact ⟨b1,by omega,fun _ _=>o1 ha1 hb1⟩
  · have hln:Ms.length+(Es.length+1+1)=Ms.length+(Es.length+1)+1:=by omega
    refine call_of_wp zt454 rfl ?_
    repeat (first|apply wp_as|apply wp_ss|refine wr (by simp [e1,e2,e3,hln];with_reducible rfl) ?_|refine wq (by simp [e1,e2,e3,hln];with_reducible rfl) ?_|refine wt (by simpa [e1,e2,e3,hln]) ?_|refine wf (by simpa [e1,e2,e3,hln]) ?_|refine xt (by simpa [e1,e2,e3,hln]) ?_|refine xf (by simpa [e1,e2,e3,hln]) ?_|apply wp_bs|apply wp_b|refine wp_sr ?_|refine wp_sx ?_|refine wp_ret' ?_|refine wp_skip' ?_|refine wp_exit' ?_)
    simp [zi454]
set_option maxHeartbeats 2000000 in
theorem ev_choosePivot (X:List (Int×Int)) (hX:∀ x ∈ X,DE x) (hn:X.Nodup) (hl:X.length≤2000000) (a n:Nat) (hab:a+n≤X.length) (h13:13≤n) (h49:n≤49) (M:List Boxes) :
    ∃ (m:Nat) (hint:Int),(a≤m∧m < a+n)∧(hint=0 ∨ hint=1)∧(∃ p,(a≤p∧p < a+n)∧∀ h1 h2,below (X[p]'h1) (X[m]'h2)=true)∧(∃ p,(a≤p∧p < a+n)∧∀ h1 h2,below (X[m]'h1) (X[p]'h2)=true) ∧
      Ev tb zl450 [0] [O2 X,I a,I ((a:Int)+n),fcE] M ⟨.tup [I m,I hint],[O2 X],M,[]⟩:=by
  obtain ⟨q,hq⟩:∃ q,q=n / 4:=⟨_,rfl⟩
  have hq1:3≤q∧q * 3 < n:=by omega
  obtain ⟨m,s',h1,h2,⟨p1,h3,h4⟩,⟨p2,h5,h6⟩,e⟩:=ev_median X hX hn (a+q) (a+q * 2) (a+q * 3) 0 (by omega) (by omega) (by omega) (by omega) (by omega) (by omega) (by omega) M []
  have e1:=ev_lim e
  have t1:(n:Int).tdiv 4=(q:Int):=by rw [Int.tdiv_eq_ediv_of_nonneg (by omega)];omega
  have w0:IntKind.i64.wrap (n:Int)=(n:Int):=wrap64 (by omega) (by omega)
  have w00:(a:Int)+n - a=n:=by omega
  have w1:IntKind.i64.wrap (q:Int)=(q:Int):=wrap64 (by omega) (by omega)
  have w2:IntKind.i64.wrap ((q:Int) * 2)=(q:Int) * 2:=wrap64 (by omega) (by omega)
  have w3:IntKind.i64.wrap ((q:Int) * 3)=(q:Int) * 3:=wrap64 (by omega) (by omega)
  have w4:IntKind.i64.wrap ((a:Int)+q)=(a:Int)+q:=wrap64 (by omega) (by omega)
  have w5:IntKind.i64.wrap ((a:Int)+q * 2)=(a:Int)+q * 2:=wrap64 (by omega) (by omega)
  have w6:IntKind.i64.wrap ((a:Int)+q * 3)=(a:Int)+q * 3:=wrap64 (by omega) (by omega)
  have g1:(8:Int)≤n:=by omega
  have g1':8≤n:=by omega
  have g2:¬ (50:Int)≤n:=by omega
  have g2':¬ 50≤n:=by omega
  rw [show ((a+q:Nat):Int)=(a:Int)+q by omega,show ((a+q * 2:Nat):Int)=(a:Int)+q * 2 by omega,show ((a+q * 3:Nat):Int)=(a:Int)+q * 3 by omega,show ((0:Nat):Int)=0 from rfl] at e1
  by_cases hs0:s'=0
  · subst hs0
    refine ⟨m,1,by omega,.inr rfl,⟨p1,by omega,h4⟩,⟨p2,by omega,h6⟩,?_⟩
    refine call_of_wp zt450 rfl ?_
    repeat (first|apply wp_as|apply wp_ss|refine wr (by simp [e1,t1,w00,w0,w1,w2,w3,w4,w5,w6,g1,g2,g1',g2'];with_reducible rfl) ?_|refine wq (by simp [e1,t1,w00,w0,w1,w2,w3,w4,w5,w6,g1,g2,g1',g2'];with_reducible rfl) ?_|refine wt (by simpa [e1,t1,w00,w0,w1,w2,w3,w4,w5,w6,g1,g2,g1',g2']) ?_|refine wf (by simpa [e1,t1,w00,w0,w1,w2,w3,w4,w5,w6,g1,g2,g1',g2']) ?_|refine xt (by simpa [e1,t1,w00,w0,w1,w2,w3,w4,w5,w6,g1,g2,g1',g2']) ?_|refine xf (by simpa [e1,t1,w00,w0,w1,w2,w3,w4,w5,w6,g1,g2,g1',g2']) ?_|apply wp_bs|apply wp_b|refine wp_sr ?_|refine wp_sx ?_|refine wp_ret' ?_|refine wp_skip' ?_|refine wp_exit' ?_)
    simp [zi450]
  · have hs1:¬ (s':Int)=0:=by omega
    have hs2:¬ (s':Int)=12:=by omega
    have hs3:¬ s'=12:=by omega
    refine ⟨m,0,by omega,.inl rfl,⟨p1,by omega,h4⟩,⟨p2,by omega,h6⟩,?_⟩
    refine call_of_wp zt450 rfl ?_
    repeat (first|apply wp_as|apply wp_ss|refine wr (by simp [e1,t1,w00,w0,w1,w2,w3,w4,w5,w6,g1,g2,g1',g2',hs0,hs1,hs2,hs3];with_reducible rfl) ?_|refine wq (by simp [e1,t1,w00,w0,w1,w2,w3,w4,w5,w6,g1,g2,g1',g2',hs0,hs1,hs2,hs3];with_reducible rfl) ?_|refine wt (by simpa [e1,t1,w00,w0,w1,w2,w3,w4,w5,w6,g1,g2,g1',g2',hs0,hs1,hs2,hs3]) ?_|refine wf (by simpa [e1,t1,w00,w0,w1,w2,w3,w4,w5,w6,g1,g2,g1',g2',hs0,hs1,hs2,hs3]) ?_|refine xt (by simpa [e1,t1,w00,w0,w1,w2,w3,w4,w5,w6,g1,g2,g1',g2',hs0,hs1,hs2,hs3]) ?_|refine xf (by simpa [e1,t1,w00,w0,w1,w2,w3,w4,w5,w6,g1,g2,g1',g2',hs0,hs1,hs2,hs3]) ?_|apply wp_bs|apply wp_b|refine wp_sr ?_|refine wp_sx ?_|refine wp_ret' ?_|refine wp_skip' ?_|refine wp_exit' ?_)
    simp [zi450]
end Go.Idl
namespace Go.Idl
open Go
def BelowOn (X:List (Int×Int)) (lo hi:Nat) (x:Int×Int):Prop:=∀ k e,lo≤k→k < hi→X[k]? = some e→below e x=true
def AboveOn (X:List (Int×Int)) (lo hi:Nat) (x:Int×Int):Prop:=∀ k e,lo≤k→k < hi→X[k]? = some e→below e x=false
theorem AboveOn.cons {X:List (Int×Int)} {lo hi:Nat} {x:Int×Int} (h:AboveOn X (lo+1) hi x) (hl:lo < X.length) (hb:below X[lo] x=false):AboveOn X lo hi x:=fun k e h1 h2 he=>by
  by_cases hk:k=lo
  · subst hk
    rw [List.getElem?_eq_getElem hl] at he
    cases he;exact hb
  · exact h k e (by omega) h2 he
theorem part_ia (X:List (Int×Int)) (hX:∀ x ∈ X,DE x) (hl:X.length≤2000000) (a j:Nat) (ha:a < X.length) (hj:j < X.length) (M:List Boxes):∀ (m i:Nat),i+m=j+1 →
    wp tb (.loop z283l5) { T:=[(0,O2 X),(1,I a),(4,fcE),(12,I i),(13,I j)],loc:=[],M:=M }
      (fun ex st=>ex=.exit 0∧∃ i':Nat,(i≤i'∧i'≤j+1∧BelowOn X i i' X[a]∧(∀ h:i'≤j,below (X[i']'(by omega)) X[a]=false)) ∧
        st={ T:=[(0,O2 X),(1,I a),(4,fcE),(12,I i'),(13,I j),(47,Bo false)],loc:=[],M:=M }):=by
  intro m
  induction m with
  | zero =>
    intro i hi
    have h1:¬ i≤j:=by omega
    have h2:¬ (i:Int)≤j:=by omega
    refine wp_loop ?_
    repeat (first|apply wp_as|apply wp_ss|refine wr (by simp [h1,h2];with_reducible rfl) ?_|refine wq (by simp [h1,h2];with_reducible rfl) ?_|refine wt (by simpa [h1,h2]) ?_|refine wf (by simpa [h1,h2]) ?_|refine xt (by simpa [h1,h2]) ?_|refine xf (by simpa [h1,h2]) ?_|apply wp_bs|apply wp_b|refine wp_sr ?_|refine wp_sx ?_|refine wp_ret' ?_|refine wp_skip' ?_|refine wp_exit' ?_)
    exact ⟨rfl,i,⟨Nat.le_refl _,by omega,fun k e k1 k2 _=>by omega,fun h=>absurd h h1⟩,rfl⟩
  | succ m ih =>
    intro i hi
    have h1:i≤j:=by omega
    have h2:(i:Int)≤j:=by omega
    have hi2:i < X.length:=by omega
    have w1:IntKind.i64.wrap ((i:Int)+1)=((i+1:Nat):Int):=wrapS (by omega)
    have hb:=cmpE_below X[i] X[a]
    have e1:=fun M=>ev_lim (ev_cmpE (hX _ (List.getElem_mem hi2)) (hX _ (List.getElem_mem ha)) M)
    by_cases hc:cmpE X[i] X[a] < 0
    · have hbt:below X[i] X[a]=true:=by rw [← hb];exact decide_eq_true hc
      refine wp_loop ?_
      repeat (first|apply wp_as|apply wp_ss|refine wr (by simp [h1,h2,hi2,ha,e1,hc,w1];with_reducible rfl) ?_|refine wq (by simp [h1,h2,hi2,ha,e1,hc,w1];with_reducible rfl) ?_|refine wt (by simpa [h1,h2,hi2,ha,e1,hc,w1]) ?_|refine wf (by simpa [h1,h2,hi2,ha,e1,hc,w1]) ?_|refine xt (by simpa [h1,h2,hi2,ha,e1,hc,w1]) ?_|refine xf (by simpa [h1,h2,hi2,ha,e1,hc,w1]) ?_|apply wp_bs|apply wp_b|refine wp_sr ?_|refine wp_sx ?_|refine wp_ret' ?_|refine wp_skip' ?_|refine wp_exit' ?_)
      refine wp_imp (ih (i+1) (by omega)) ?_
      rintro ex st ⟨rfl,i',⟨k1,k2,k3,k4⟩,rfl⟩
      refine ⟨rfl,i',⟨by omega,k2,fun k e q1 q2 q3=>?_,k4⟩,rfl⟩
      by_cases hk:k=i
      · subst hk
        rw [List.getElem?_eq_getElem hi2] at q3
        cases q3;exact hbt
      · exact k3 k e (by omega) q2 q3
    · have hbt:below X[i] X[a]=false:=by rw [← hb];exact decide_eq_false hc
      refine wp_loop ?_
      repeat (first|apply wp_as|apply wp_ss|refine wr (by simp [h1,h2,hi2,ha,e1,hc,w1];with_reducible rfl) ?_|refine wq (by simp [h1,h2,hi2,ha,e1,hc,w1];with_reducible rfl) ?_|refine wt (by simpa [h1,h2,hi2,ha,e1,hc,w1]) ?_|refine wf (by simpa [h1,h2,hi2,ha,e1,hc,w1]) ?_|refine xt (by simpa [h1,h2,hi2,ha,e1,hc,w1]) ?_|refine xf (by simpa [h1,h2,hi2,ha,e1,hc,w1]) ?_|apply wp_bs|apply wp_b|refine wp_sr ?_|refine wp_sx ?_|refine wp_ret' ?_|refine wp_skip' ?_|refine wp_exit' ?_)
      exact ⟨rfl,i,⟨Nat.le_refl _,by omega,fun k e k1 k2 _=>by omega,fun _=>hbt⟩,rfl⟩
theorem part_ib (X:List (Int×Int)) (hX:∀ x ∈ X,DE x) (hl:X.length≤2000000) (a j:Nat) (ha:a < X.length) (hj:j < X.length) (M:List Boxes):∀ (m i:Nat),i+m=j+1 →
    wp tb (.loop z283l17) { T:=[(0,O2 X),(1,I a),(4,fcE),(12,I i),(13,I j)],loc:=[],M:=M }
      (fun ex st=>ex=.exit 6∧∃ i':Nat,(i≤i'∧i'≤j+1∧BelowOn X i i' X[a]∧(∀ h:i'≤j,below (X[i']'(by omega)) X[a]=false)) ∧
        st={ T:=[(0,O2 X),(1,I a),(4,fcE),(12,I i'),(13,I j),(120,Bo false)],loc:=[],M:=M }):=by
  intro m
  induction m with
  | zero =>
    intro i hi
    have h1:¬ i≤j:=by omega
    have h2:¬ (i:Int)≤j:=by omega
    refine wp_loop ?_
    repeat (first|apply wp_as|apply wp_ss|refine wr (by simp [h1,h2];with_reducible rfl) ?_|refine wq (by simp [h1,h2];with_reducible rfl) ?_|refine wt (by simpa [h1,h2]) ?_|refine wf (by simpa [h1,h2]) ?_|refine xt (by simpa [h1,h2]) ?_|refine xf (by simpa [h1,h2]) ?_|apply wp_bs|apply wp_b|refine wp_sr ?_|refine wp_sx ?_|refine wp_ret' ?_|refine wp_skip' ?_|refine wp_exit' ?_)
    exact ⟨rfl,i,⟨Nat.le_refl _,by omega,fun k e k1 k2 _=>by omega,fun h=>absurd h h1⟩,rfl⟩
  | succ m ih =>
    intro i hi
    have h1:i≤j:=by omega
    have h2:(i:Int)≤j:=by omega
    have hi2:i < X.length:=by omega
    have w1:IntKind.i64.wrap ((i:Int)+1)=((i+1:Nat):Int):=wrapS (by omega)
    have hb:=cmpE_below X[i] X[a]
    have e1:=fun M=>ev_lim (ev_cmpE (hX _ (List.getElem_mem hi2)) (hX _ (List.getElem_mem ha)) M)
    by_cases hc:cmpE X[i] X[a] < 0
    · have hbt:below X[i] X[a]=true:=by rw [← hb];exact decide_eq_true hc
      refine wp_loop ?_
      repeat (first|apply wp_as|apply wp_ss|refine wr (by simp [h1,h2,hi2,ha,e1,hc,w1];with_reducible rfl) ?_|refine wq (by simp [h1,h2,hi2,ha,e1,hc,w1];with_reducible rfl) ?_|refine wt (by simpa [h1,h2,hi2,ha,e1,hc,w1]) ?_|refine wf (by simpa [h1,h2,hi2,ha,e1,hc,w1]) ?_|refine xt (by simpa [h1,h2,hi2,ha,e1,hc,w1]) ?_|refine xf (by simpa [h1,h2,hi2,ha,e1,hc,w1]) ?_|apply wp_bs|apply wp_b|refine wp_sr ?_|refine wp_sx ?_|refine wp_ret' ?_|refine wp_skip' ?_|refine wp_exit' ?_)
      refine wp_imp (ih (i+1) (by omega)) ?_
      rintro ex st ⟨rfl,i',⟨k1,k2,k3,k4⟩,rfl⟩
      refine ⟨rfl,i',⟨by omega,k2,fun k e q1 q2 q3=>?_,k4⟩,rfl⟩
      by_cases hk:k=i
      · subst hk
        rw [List.getElem?_eq_getElem hi2] at q3
        cases q3;exact hbt
      · exact k3 k e (by omega) q2 q3
    · have hbt:below X[i] X[a]=false:=by rw [← hb];exact decide_eq_false hc
      refine wp_loop ?_
      repeat (first|apply wp_as|apply wp_ss|refine wr (by simp [h1,h2,hi2,ha,e1,hc,w1];with_reducible rfl) ?_|refine wq (by simp [h1,h2,hi2,ha,e1,hc,w1];with_reducible rfl) ?_|refine wt (by simpa [h1,h2,hi2,ha,e1,hc,w1]) ?_|refine wf (by simpa [h1,h2,hi2,ha,e1,hc,w1]) ?_|refine xt (by simpa [h1,h2,hi2,ha,e1,hc,w1]) ?_|refine xf (by simpa [h1,h2,hi2,ha,e1,hc,w1]) ?_|apply wp_bs|apply wp_b|refine wp_sr ?_|refine wp_sx ?_|refine wp_ret' ?_|refine wp_skip' ?_|refine wp_exit' ?_)
      exact ⟨rfl,i,⟨Nat.le_refl _,by omega,fun k e k1 k2 _=>by omega,fun _=>hbt⟩,rfl⟩
theorem part_ja (X:List (Int×Int)) (hX:∀ x ∈ X,DE x) (hl:X.length≤2000000) (a i:Nat) (ha:a < X.length) (h0:0 < i) (M:List Boxes):∀ (m j:Nat) (f:Bool),i+m=j+1→j < X.length →
    wp tb (.loop z283l8) { T:=[(0,O2 X),(1,I a),(4,fcE),(12,I i),(13,I j)]++(if f then [(47,Bo false)] else []),loc:=[],M:=M }
      (fun ex st=>ex=.exit 2∧∃ j':Nat,(j'≤j∧i≤j'+1∧AboveOn X (j'+1) (j+1) X[a]∧(i≤j'→∃ h:j' < X.length,below X[j'] X[a]=true)) ∧
        st={ T:=[(0,O2 X),(1,I a),(4,fcE),(12,I i),(13,I j'),(66,Bo false)],loc:=[],M:=M }):=by
  intro m
  induction m with
  | zero =>
    intro j f hj hjl
    have h1:¬ i≤j:=by omega
    have h2:¬ (i:Int)≤j:=by omega
    cases f
    all_goals
      simp only [if_true,if_false,Bool.false_eq_true,List.append_nil,List.cons_append,List.nil_append]
      refine wp_loop ?_
      repeat (first|apply wp_as|apply wp_ss|refine wr (by simp [h1,h2];with_reducible rfl) ?_|refine wq (by simp [h1,h2];with_reducible rfl) ?_|refine wt (by simpa [h1,h2]) ?_|refine wf (by simpa [h1,h2]) ?_|refine xt (by simpa [h1,h2]) ?_|refine xf (by simpa [h1,h2]) ?_|apply wp_bs|apply wp_b|refine wp_sr ?_|refine wp_sx ?_|refine wp_ret' ?_|refine wp_skip' ?_|refine wp_exit' ?_)
      exact ⟨rfl,j,⟨Nat.le_refl _,by omega,fun k e k1 k2 _=>by omega,fun h=>absurd h h1⟩,rfl⟩
  | succ m ih =>
    intro j f hj hjl
    have h1:i≤j:=by omega
    have h2:(i:Int)≤j:=by omega
    obtain ⟨q,rfl⟩:∃ q,j=q+1:=⟨j - 1,by omega⟩
    have w1:IntKind.i64.wrap (q:Int)=(q:Int):=wrap64 (by omega) (by omega)
    have hb:=cmpE_below X[q+1] X[a]
    have e1:=fun M=>ev_lim (ev_cmpE (hX _ (List.getElem_mem hjl)) (hX _ (List.getElem_mem ha)) M)
    have h3:(i:Int)≤(q:Int)+1:=by omega
    cases f
    all_goals
      simp only [if_true,if_false,Bool.false_eq_true,List.append_nil,List.cons_append,List.nil_append]
      by_cases hc:cmpE X[q+1] X[a] < 0
      · have hbt:below X[q+1] X[a]=true:=by rw [← hb];exact decide_eq_true hc
        refine wp_loop ?_
        repeat (first|apply wp_as|apply wp_ss|refine wr (by simp [h1,h2,h3,hjl,ha,e1,hc,w1];with_reducible rfl) ?_|refine wq (by simp [h1,h2,h3,hjl,ha,e1,hc,w1];with_reducible rfl) ?_|refine wt (by simpa [h1,h2,h3,hjl,ha,e1,hc,w1]) ?_|refine wf (by simpa [h1,h2,h3,hjl,ha,e1,hc,w1]) ?_|refine xt (by simpa [h1,h2,h3,hjl,ha,e1,hc,w1]) ?_|refine xf (by simpa [h1,h2,h3,hjl,ha,e1,hc,w1]) ?_|apply wp_bs|apply wp_b|refine wp_sr ?_|refine wp_sx ?_|refine wp_ret' ?_|refine wp_skip' ?_|refine wp_exit' ?_)
        exact ⟨rfl,q+1,⟨Nat.le_refl _,by omega,fun k e k1 k2 _=>by omega,fun _=>⟨hjl,hbt⟩⟩,rfl⟩
      · have hbt:below X[q+1] X[a]=false:=by rw [← hb];exact decide_eq_false hc
        refine wp_loop ?_
        repeat (first|apply wp_as|apply wp_ss|refine wr (by simp [h1,h2,h3,hjl,ha,e1,hc,w1];with_reducible rfl) ?_|refine wq (by simp [h1,h2,h3,hjl,ha,e1,hc,w1];with_reducible rfl) ?_|refine wt (by simpa [h1,h2,h3,hjl,ha,e1,hc,w1]) ?_|refine wf (by simpa [h1,h2,h3,hjl,ha,e1,hc,w1]) ?_|refine xt (by simpa [h1,h2,h3,hjl,ha,e1,hc,w1]) ?_|refine xf (by simpa [h1,h2,h3,hjl,ha,e1,hc,w1]) ?_|apply wp_bs|apply wp_b|refine wp_sr ?_|refine wp_sx ?_|refine wp_ret' ?_|refine wp_skip' ?_|refine wp_exit' ?_)
        refine wp_imp ((by simpa using ih q false (by omega) (by omega))) ?_
        rintro ex st ⟨rfl,j',⟨k1,k2,k3,k4⟩,rfl⟩
        refine ⟨rfl,j',⟨by omega,k2,fun k e q1 q2 q3=>?_,k4⟩,rfl⟩
        by_cases hk:k=q+1
        · subst hk
          rw [List.getElem?_eq_getElem hjl] at q3
          cases q3;exact hbt
        · exact k3 k e q1 (by omega) q3
theorem part_jb (X:List (Int×Int)) (hX:∀ x ∈ X,DE x) (hl:X.length≤2000000) (a i:Nat) (ha:a < X.length) (h0:0 < i) (M:List Boxes):∀ (m j:Nat) (f:Bool),i+m=j+1→j < X.length →
    wp tb (.loop z283l20) { T:=[(0,O2 X),(1,I a),(4,fcE),(12,I i),(13,I j)]++(if f then [(120,Bo false)] else []),loc:=[],M:=M }
      (fun ex st=>ex=.exit 8∧∃ j':Nat,(j'≤j∧i≤j'+1∧AboveOn X (j'+1) (j+1) X[a]∧(i≤j'→∃ h:j' < X.length,below X[j'] X[a]=true)) ∧
        st={ T:=[(0,O2 X),(1,I a),(4,fcE),(12,I i),(13,I j'),(139,Bo false)],loc:=[],M:=M }):=by
  intro m
  induction m with
  | zero =>
    intro j f hj hjl
    have h1:¬ i≤j:=by omega
    have h2:¬ (i:Int)≤j:=by omega
    cases f
    all_goals
      simp only [if_true,if_false,Bool.false_eq_true,List.append_nil,List.cons_append,List.nil_append]
      refine wp_loop ?_
      repeat (first|apply wp_as|apply wp_ss|refine wr (by simp [h1,h2];with_reducible rfl) ?_|refine wq (by simp [h1,h2];with_reducible rfl) ?_|refine wt (by simpa [h1,h2]) ?_|refine wf (by simpa [h1,h2]) ?_|refine xt (by simpa [h1,h2]) ?_|refine xf (by simpa [h1,h2]) ?_|apply wp_bs|apply wp_b|refine wp_sr ?_|refine wp_sx ?_|refine wp_ret' ?_|refine wp_skip' ?_|refine wp_exit' ?_)
      exact ⟨rfl,j,⟨Nat.le_refl _,by omega,fun k e k1 k2 _=>by omega,fun h=>absurd h h1⟩,rfl⟩
  | succ m ih =>
    intro j f hj hjl
    have h1:i≤j:=by omega
    have h2:(i:Int)≤j:=by omega
    obtain ⟨q,rfl⟩:∃ q,j=q+1:=⟨j - 1,by omega⟩
    have w1:IntKind.i64.wrap (q:Int)=(q:Int):=wrap64 (by omega) (by omega)
    have hb:=cmpE_below X[q+1] X[a]
    have e1:=fun M=>ev_lim (ev_cmpE (hX _ (List.getElem_mem hjl)) (hX _ (List.getElem_mem ha)) M)
    have h3:(i:Int)≤(q:Int)+1:=by omega
    cases f
    all_goals
      simp only [if_true,if_false,Bool.false_eq_true,List.append_nil,List.cons_append,List.nil_append]
      by_cases hc:cmpE X[q+1] X[a] < 0
      · have hbt:below X[q+1] X[a]=true:=by rw [← hb];exact decide_eq_true hc
        refine wp_loop ?_
        repeat (first|apply wp_as|apply wp_ss|refine wr (by simp [h1,h2,h3,hjl,ha,e1,hc,w1];with_reducible rfl) ?_|refine wq (by simp [h1,h2,h3,hjl,ha,e1,hc,w1];with_reducible rfl) ?_|refine wt (by simpa [h1,h2,h3,hjl,ha,e1,hc,w1]) ?_|refine wf (by simpa [h1,h2,h3,hjl,ha,e1,hc,w1]) ?_|refine xt (by simpa [h1,h2,h3,hjl,ha,e1,hc,w1]) ?_|refine xf (by simpa [h1,h2,h3,hjl,ha,e1,hc,w1]) ?_|apply wp_bs|apply wp_b|refine wp_sr ?_|refine wp_sx ?_|refine wp_ret' ?_|refine wp_skip' ?_|refine wp_exit' ?_)
        exact ⟨rfl,q+1,⟨Nat.le_refl _,by omega,fun k e k1 k2 _=>by omega,fun _=>⟨hjl,hbt⟩⟩,rfl⟩
      · have hbt:below X[q+1] X[a]=false:=by rw [← hb];exact decide_eq_false hc
        refine wp_loop ?_
        repeat (first|apply wp_as|apply wp_ss|refine wr (by simp [h1,h2,h3,hjl,ha,e1,hc,w1];with_reducible rfl) ?_|refine wq (by simp [h1,h2,h3,hjl,ha,e1,hc,w1];with_reducible rfl) ?_|refine wt (by simpa [h1,h2,h3,hjl,ha,e1,hc,w1]) ?_|refine wf (by simpa [h1,h2,h3,hjl,ha,e1,hc,w1]) ?_|refine xt (by simpa [h1,h2,h3,hjl,ha,e1,hc,w1]) ?_|refine xf (by simpa [h1,h2,h3,hjl,ha,e1,hc,w1]) ?_|apply wp_bs|apply wp_b|refine wp_sr ?_|refine wp_sx ?_|refine wp_ret' ?_|refine wp_skip' ?_|refine wp_exit' ?_)
        refine wp_imp ((by simpa using ih q false (by omega) (by omega))) ?_
        rintro ex st ⟨rfl,j',⟨k1,k2,k3,k4⟩,rfl⟩
        refine ⟨rfl,j',⟨by omega,k2,fun k e q1 q2 q3=>?_,k4⟩,rfl⟩
        by_cases hk:k=q+1
        · subst hk
          rw [List.getElem?_eq_getElem hjl] at q3
          cases q3;exact hbt
        · exact k3 k e q1 (by omega) q3
structure PInv (X0 X:List (Int×Int)) (a b i j:Nat) (x:Int×Int):Prop where
  seg:Seg X0 X a b
  piv:X[a]? = some x
  lo:BelowOn X (a+1) i x
  hi:AboveOn X (j+1) b x
  ai:a+1≤i
  ij:i≤j+1
  jb:j < b
  bl:b≤X.length
theorem PInv.al {X0 X a b i j x} (h:PInv X0 X a b i j x):a < X.length:=(List.getElem?_eq_some_iff.1 h.piv).1
theorem PInv.xa {X0 X a b i j x} (h:PInv X0 X a b i j x):X[a]'h.al=x:=(List.getElem?_eq_some_iff.1 h.piv).2
theorem PInv.swap {X0 X a b i j x} (h:PInv X0 X a b i j x) (hi:i < X.length) (hj:j < X.length) (hij:i≤j) (h1:below X[i] x=false) (h2:below X[j] x=true) :
    ∃ q,j=q+1∧i < j∧PInv X0 (swapL X i j hi hj) a b (i+1) q x:=by
  have hne:i ≠ j:=by rintro rfl;rw [h1] at h2;cases h2
  have hb:=h.bl
  have hjb:=h.jb
  have hai:=h.ai
  refine ⟨j - 1,by omega,by omega,h.seg.trans (swapL_seg X i j a b hi hj (by omega) (by omega)),?_,?_,?_,by omega,by omega,by omega,by rw [swapL_len];exact hb⟩
  · rw [swapL_get,if_neg (by omega),if_neg (by omega)];exact h.piv
  · intro k e k1 k2 he
    rw [swapL_get,if_neg (by omega)] at he
    by_cases hk:k=i
    · rw [if_pos hk] at he
      cases he;exact h2
    · rw [if_neg hk] at he
      exact h.lo k e k1 (by omega) he
  · intro k e k1 k2 he
    rw [swapL_get] at he
    by_cases hk:k=j
    · rw [if_pos hk] at he
      cases he;exact h1
    · rw [if_neg hk,if_neg (by omega)] at he
      exact h.hi k e (by omega) k2 he
theorem part_out (X0:List (Int×Int)) (hX0:∀ x ∈ X0,DE x) (hl:X0.length≤2000000) (a b:Nat) (x:Int×Int) (M:List Boxes):∀ (m:Nat) (X:List (Int×Int)) (i j:Nat),j+1≤i+m→PInv X0 X a b i j x →
    wp tb (.loop z283l25) { T:=[(0,O2 X),(1,I a),(4,fcE),(12,I i),(13,I j)],loc:=[],M:=M }
      (fun ex st=>ex=.exit 4∧∃ (X':List (Int×Int)) (j':Nat),PInv X0 X' a b (j'+1) j' x∧st={ T:=[(0,O2 X'),(1,I a),(4,fcE),(12,I (j'+1:Nat)),(13,I j'),(144,Bo true)],loc:=[],M:=M }):=by
  intro m
  induction m with
  | zero =>
    intro X i j hm h
    have hij:=h.ij
    have hi:i=j+1:=by omega
    subst hi
    have hXl:=h.seg.len
    have hX:∀ y ∈ X,DE y:=fun y hy=>hX0 y (h.seg.perm.mem_iff.1 hy)
    have hjl:j < X.length:=by have:=h.jb;have:=h.bl;omega
    have hA:=part_ib X hX (by omega) a j h.al hjl M 0 (j+1) (by omega)
    have hB:=part_jb X hX (by omega) a (j+1) h.al (by omega) M 0 j true (by omega) hjl
    have g1:((j+1:Nat):Int) > (j:Int):=by omega
    refine wp_loop ?_
    repeat (first|apply wp_as|apply wp_ss|refine wr (by simp;with_reducible rfl) ?_|refine wq (by simp;with_reducible rfl) ?_|refine wt (by simpa) ?_|refine wf (by simpa) ?_|refine xt (by simpa) ?_|refine xf (by simpa) ?_|apply wp_bs|apply wp_b|refine wp_sr ?_|refine wp_sx ?_|refine wp_ret' ?_|refine wp_skip' ?_|refine wp_exit' ?_)
    refine wp_imp hA ?_
    rintro ex st ⟨rfl,i',⟨k1,k2,-,-⟩,rfl⟩
    have:i'=j+1:=by omega
    subst this
    simp only [if_true]
    repeat (first|apply wp_as|apply wp_ss|refine wr (by simp;with_reducible rfl) ?_|refine wq (by simp;with_reducible rfl) ?_|refine wt (by simpa) ?_|refine wf (by simpa) ?_|refine xt (by simpa) ?_|refine xf (by simpa) ?_|apply wp_bs|apply wp_b|refine wp_sr ?_|refine wp_sx ?_|refine wp_ret' ?_|refine wp_skip' ?_|refine wp_exit' ?_)
    refine wp_imp hB ?_
    rintro ex st ⟨rfl,j',⟨k1,k2,-,-⟩,rfl⟩
    have:j'=j:=by omega
    subst this
    simp only [if_true]
    have g2:(j':Int) < (j':Int)+1:=by omega
    repeat (first|apply wp_as|apply wp_ss|refine wr (by simp [g2];with_reducible rfl) ?_|refine wq (by simp [g2];with_reducible rfl) ?_|refine wt (by simpa [g2]) ?_|refine wf (by simpa [g2]) ?_|refine xt (by simpa [g2]) ?_|refine xf (by simpa [g2]) ?_|apply wp_bs|apply wp_b|refine wp_sr ?_|refine wp_sx ?_|refine wp_ret' ?_|refine wp_skip' ?_|refine wp_exit' ?_)
    exact ⟨rfl,X,j',h,rfl⟩
  | succ m ih =>
    intro X i j hm h
    have hXl:=h.seg.len
    have hX:∀ y ∈ X,DE y:=fun y hy=>hX0 y (h.seg.perm.mem_iff.1 hy)
    have hjb:=h.jb
    have hbl:=h.bl
    have hai:=h.ai
    have hjl:j < X.length:=by omega
    have hxa:=h.xa
    obtain ⟨mm,hmm⟩:∃ mm,i+mm=j+1:=⟨j+1 - i,by have:=h.ij;omega⟩
    have hA:=part_ib X hX (by omega) a j h.al hjl M mm i hmm
    rw [hxa] at hA
    refine wp_loop ?_
    repeat (first|apply wp_as|apply wp_ss|refine wr (by simp;with_reducible rfl) ?_|refine wq (by simp;with_reducible rfl) ?_|refine wt (by simpa) ?_|refine wf (by simpa) ?_|refine xt (by simpa) ?_|refine xf (by simpa) ?_|apply wp_bs|apply wp_b|refine wp_sr ?_|refine wp_sx ?_|refine wp_ret' ?_|refine wp_skip' ?_|refine wp_exit' ?_)
    refine wp_imp hA ?_
    rintro ex st ⟨rfl,i',⟨k1,k2,k3,k4⟩,rfl⟩
    simp only [if_true]
    obtain ⟨m2,hm2⟩:∃ m2,i'+m2=j+1:=⟨j+1 - i',by omega⟩
    have hB:=part_jb X hX (by omega) a i' h.al (by omega) M m2 j true hm2 hjl
    rw [hxa] at hB
    repeat (first|apply wp_as|apply wp_ss|refine wr (by simp;with_reducible rfl) ?_|refine wq (by simp;with_reducible rfl) ?_|refine wt (by simpa) ?_|refine wf (by simpa) ?_|refine xt (by simpa) ?_|refine xf (by simpa) ?_|apply wp_bs|apply wp_b|refine wp_sr ?_|refine wp_sx ?_|refine wp_ret' ?_|refine wp_skip' ?_|refine wp_exit' ?_)
    refine wp_imp hB ?_
    rintro ex st ⟨rfl,j',⟨q1,q2,q3,q4⟩,rfl⟩
    simp only [if_true]
    have h':PInv X0 X a b i' j' x:=⟨h.seg,h.piv,fun k e a1 a2 a3=>by
      by_cases hk:k < i
      · exact h.lo k e a1 hk a3
      · exact k3 k e (by omega) a2 a3,fun k e a1 a2 a3=>by
      by_cases hk:j < k
      · exact h.hi k e (by omega) a2 a3
      · exact q3 k e a1 (by omega) a3,by omega,by omega,by omega,by omega⟩
    by_cases hij:i'≤j'
    · obtain ⟨hjl',hb2⟩:=q4 hij
      have hil':i' < X.length:=by omega
      obtain ⟨q,rfl,hlt,hP⟩:=h'.swap hil' hjl' hij (k4 (by omega)) hb2
      have g1:¬ ((q+1:Nat):Int) < (i':Int):=by omega
      have g2:¬ (q:Int)+1 < (i':Int):=by omega
      have w1:IntKind.i64.wrap ((i':Int)+1)=((i'+1:Nat):Int):=wrapS (by omega)
      have w2:IntKind.i64.wrap (q:Int)=(q:Int):=wrap64 (by omega) (by omega)
      have hn:=ih (swapL X i' (q+1) hil' hjl') (i'+1) q (by omega) hP
      repeat (first|apply wp_as|apply wp_ss|refine wr (by simp [g1,g2,hil',hjl',w1,w2];with_reducible rfl) ?_|refine wq (by simp [g1,g2,hil',hjl',w1,w2];with_reducible rfl) ?_|refine wt (by simpa [g1,g2,hil',hjl',w1,w2]) ?_|refine wf (by simpa [g1,g2,hil',hjl',w1,w2]) ?_|refine xt (by simpa [g1,g2,hil',hjl',w1,w2]) ?_|refine xf (by simpa [g1,g2,hil',hjl',w1,w2]) ?_|apply wp_bs|apply wp_b|refine wp_sr ?_|refine wp_sx ?_|refine wp_ret' ?_|refine wp_skip' ?_|refine wp_exit' ?_)
      exact hn
    · have hi3:i'=j'+1:=by omega
      subst hi3
      have g2:(j':Int) < (j':Int)+1:=by omega
      repeat (first|apply wp_as|apply wp_ss|refine wr (by simp [g2];with_reducible rfl) ?_|refine wq (by simp [g2];with_reducible rfl) ?_|refine wt (by simpa [g2]) ?_|refine wf (by simpa [g2]) ?_|refine xt (by simpa [g2]) ?_|refine xf (by simpa [g2]) ?_|apply wp_bs|apply wp_b|refine wp_sr ?_|refine wp_sx ?_|refine wp_ret' ?_|refine wp_skip' ?_|refine wp_exit' ?_)
      exact ⟨rfl,X,j',h',rfl⟩
theorem PInv.fin {X0 X a b j x} (h:PInv X0 X a b (j+1) j x) (hj:j < X.length):Seg X0 (swapL X j a hj h.al) a b∧(swapL X j a hj h.al)[j]? = some x∧BelowOn (swapL X j a hj h.al) a j x∧AboveOn (swapL X j a hj h.al) (j+1) b x:=by
  have hb:=h.bl
  have hjb:=h.jb
  have hai:=h.ai
  have hxa:=h.xa
  refine ⟨h.seg.trans (swapL_seg X j a a b hj h.al (by omega) (by omega)),?_,fun k e k1 k2 he=>?_,fun k e k1 k2 he=>?_⟩
  · rw [swapL_get]
    by_cases hja:j=a
    · subst hja;rw [if_pos rfl,hxa]
    · rw [if_neg hja,if_pos rfl,hxa]
  · rw [swapL_get] at he
    by_cases hka:k=a
    · rw [if_pos hka] at he
      cases he
      exact h.lo j _ (by omega) (by omega) (List.getElem?_eq_getElem hj)
    · rw [if_neg hka,if_neg (by omega)] at he
      exact h.lo k e (by omega) (by omega) he
  · rw [swapL_get,if_neg (by omega),if_neg (by omega)] at he
    exact h.hi k e k1 k2 he
theorem ev_partition (X:List (Int×Int)) (hX:∀ x ∈ X,DE x) (hl:X.length≤2000000) (a n p:Nat) (hn:2≤n) (hab:a+n≤X.length) (hp:a≤p∧p < a+n) (M:List Boxes) :
    ∃ (X':List (Int×Int)) (mid:Nat) (t:Bool),Seg X X' a (a+n)∧(a≤mid∧mid < a+n)∧X'[mid]? = X[p]?∧(∀ x,X[p]? = some x→BelowOn X' a mid x∧AboveOn X' (mid+1) (a+n) x) ∧
      Ev tb zl283 [0] [O2 X,I a,I ((a:Int)+n),I p,fcE] M ⟨.tup [I mid,Bo t],[O2 X'],M,[]⟩:=by
  have hpl:p < X.length:=by omega
  have hal:a < X.length:=by omega
  obtain ⟨x,hx⟩:∃ x,x=X[p]:=⟨_,rfl⟩
  obtain ⟨j0,hj0⟩:∃ j0,j0=a+n - 1:=⟨_,rfl⟩
  have hP1:PInv X (swapL X a p hal hpl) a (a+n) (a+1) j0 x:=by
    refine ⟨swapL_seg X a p a (a+n) hal hpl (by omega) (by omega),?_,fun k e k1 k2 _=>by omega,fun k e k1 k2 _=>by omega,by omega,by omega,by omega,by rw [swapL_len];exact hab⟩
    rw [swapL_get]
    by_cases hap:a=p
    · subst hap;rw [if_pos rfl,hx]
    · rw [if_neg hap,if_pos rfl,hx]
  have hXp:X[p]? = some x:=by rw [hx];exact List.getElem?_eq_getElem hpl
  rw [hXp]
  obtain ⟨X1,hX1⟩:∃ X1,X1=swapL X a p hal hpl:=⟨_,rfl⟩
  have hsw:(X.set a X[p]).set p X[a]=X1:=hX1.symm
  rw [← hX1] at hP1
  have hX1l:X1.length=X.length:=hP1.seg.len
  have hD1:∀ y ∈ X1,DE y:=fun y hy=>hX y (hP1.seg.perm.mem_iff.1 hy)
  have hj1:j0 < X1.length:=by omega
  have hal1:=hP1.al
  have hxa:=hP1.xa
  have w1:IntKind.i64.wrap ((a:Int)+1)=((a+1:Nat):Int):=wrapS (by omega)
  have w2:IntKind.i64.wrap ((a:Int)+n - 1)=(j0:Int):=by rw [wrap64 (by omega) (by omega)];omega
  suffices hh:∃ r,(∃ (X':List (Int×Int)) (mid:Nat) (t:Bool),Seg X X' a (a+n)∧(a≤mid∧mid < a+n)∧X'[mid]? = some x∧(BelowOn X' a mid x∧AboveOn X' (mid+1) (a+n) x)∧r=⟨.tup [I mid,Bo t],[O2 X'],M,[]⟩) ∧
      Ev tb zl283 [0] [O2 X,I a,I ((a:Int)+n),I p,fcE] M r by
    obtain ⟨r,⟨X',mid,t,q1,q2,q3,q4,rfl⟩,q5⟩:=hh
    exact ⟨X',mid,t,q1,q2,q3,fun y hy=>by cases hy;exact q4,q5⟩
  refine call_ex zt283 rfl ?_
  have hA:=part_ia X1 hD1 (by omega) a j0 hal1 hj1 M (j0 - a) (a+1) (by omega)
  rw [hxa] at hA
  repeat (first|apply wp_as|apply wp_ss|refine wr (by simp [hpl,hal,hsw,w1,w2];with_reducible rfl) ?_|refine wq (by simp [hpl,hal,hsw,w1,w2];with_reducible rfl) ?_|refine wt (by simpa [hpl,hal,hsw,w1,w2]) ?_|refine wf (by simpa [hpl,hal,hsw,w1,w2]) ?_|refine xt (by simpa [hpl,hal,hsw,w1,w2]) ?_|refine xf (by simpa [hpl,hal,hsw,w1,w2]) ?_|apply wp_bs|apply wp_b|refine wp_sr ?_|refine wp_sx ?_|refine wp_ret' ?_|refine wp_skip' ?_|refine wp_exit' ?_)
  refine wp_imp hA ?_
  rintro ex st ⟨rfl,i',⟨k1,k2,k3,k4⟩,rfl⟩
  simp only [if_true]
  have hB:=part_ja X1 hD1 (by omega) a i' hal1 (by omega) M (j0+1 - i') j0 true (by omega) hj1
  rw [hxa] at hB
  repeat (first|apply wp_as|apply wp_ss|refine wr (by simp;with_reducible rfl) ?_|refine wq (by simp;with_reducible rfl) ?_|refine wt (by simpa) ?_|refine wf (by simpa) ?_|refine xt (by simpa) ?_|refine xf (by simpa) ?_|apply wp_bs|apply wp_b|refine wp_sr ?_|refine wp_sx ?_|refine wp_ret' ?_|refine wp_skip' ?_|refine wp_exit' ?_)
  refine wp_imp hB ?_
  rintro ex st ⟨rfl,j',⟨q1,q2,q3,q4⟩,rfl⟩
  simp only [if_true]
  have h':PInv X X1 a (a+n) i' j' x:=⟨hP1.seg,hP1.piv,k3,fun k e a1 a2 a3=>q3 k e a1 (by omega) a3,by omega,by omega,by omega,by omega⟩
  have hjl':j' < X1.length:=by omega
  by_cases hij:i'≤j'
  · obtain ⟨_,hb2⟩:=q4 hij
    have hil':i' < X1.length:=by omega
    obtain ⟨q,rfl,hlt,hP⟩:=h'.swap hil' hjl' hij (k4 (by omega)) hb2
    have g2:¬ (q:Int)+1 < (i':Int):=by omega
    have w3:IntKind.i64.wrap ((i':Int)+1)=((i'+1:Nat):Int):=wrapS (by omega)
    have w4:IntKind.i64.wrap (q:Int)=(q:Int):=wrap64 (by omega) (by omega)
    repeat (first|apply wp_as|apply wp_ss|refine wr (by simp [g2,hil',hjl',w3,w4];with_reducible rfl) ?_|refine wq (by simp [g2,hil',hjl',w3,w4];with_reducible rfl) ?_|refine wt (by simpa [g2,hil',hjl',w3,w4]) ?_|refine wf (by simpa [g2,hil',hjl',w3,w4]) ?_|refine xt (by simpa [g2,hil',hjl',w3,w4]) ?_|refine xf (by simpa [g2,hil',hjl',w3,w4]) ?_|apply wp_bs|apply wp_b|refine wp_sr ?_|refine wp_sx ?_|refine wp_ret' ?_|refine wp_skip' ?_|refine wp_exit' ?_)
    refine wp_imp (part_out X hX hl a (a+n) x M (q+1) (swapL X1 i' (q+1) hil' hjl') (i'+1) q (by omega) hP) ?_
    rintro ex st ⟨rfl,X2,j2,hP2,rfl⟩
    simp only [if_true]
    have hj2:j2 < X2.length:=by have:=hP2.jb;have:=hP2.bl;omega
    have hal2:=hP2.al
    obtain ⟨f1,f2,f3,f4⟩:=hP2.fin hj2
    obtain ⟨X3,hX3⟩:∃ X3,X3=swapL X2 j2 a hj2 hal2:=⟨_,rfl⟩
    have hsw3:(X2.set j2 X2[a]).set a X2[j2]=X3:=hX3.symm
    rw [← hX3] at f1 f2 f3 f4
    repeat (first|apply wp_as|apply wp_ss|refine wr (by simp [hj2,hal2,hsw3];with_reducible rfl) ?_|refine wq (by simp [hj2,hal2,hsw3];with_reducible rfl) ?_|refine wt (by simpa [hj2,hal2,hsw3]) ?_|refine wf (by simpa [hj2,hal2,hsw3]) ?_|refine xt (by simpa [hj2,hal2,hsw3]) ?_|refine xf (by simpa [hj2,hal2,hsw3]) ?_|apply wp_bs|apply wp_b|refine wp_sr ?_|refine wp_sx ?_|refine wp_ret' ?_|refine wp_skip' ?_|refine wp_exit' ?_)
    refine ⟨.inr rfl,_,⟨X3,j2,false,f1,⟨by have:=hP2.ai;omega,hP2.jb⟩,f2,⟨f3,f4⟩,rfl⟩,?_⟩
    simp [zi283]
  · have hi3:i'=j'+1:=by omega
    subst hi3
    have g2:(j':Int) < (j':Int)+1:=by omega
    obtain ⟨f1,f2,f3,f4⟩:=h'.fin hjl'
    obtain ⟨X3,hX3⟩:∃ X3,X3=swapL X1 j' a hjl' hal1:=⟨_,rfl⟩
    have hsw3:(X1.set j' X1[a]).set a X1[j']=X3:=hX3.symm
    rw [← hX3] at f1 f2 f3 f4
    repeat (first|apply wp_as|apply wp_ss|refine wr (by simp [g2,hjl',hal1,hsw3];with_reducible rfl) ?_|refine wq (by simp [g2,hjl',hal1,hsw3];with_reducible rfl) ?_|refine wt (by simpa [g2,hjl',hal1,hsw3]) ?_|refine wf (by simpa [g2,hjl',hal1,hsw3]) ?_|refine xt (by simpa [g2,hjl',hal1,hsw3]) ?_|refine xf (by simpa [g2,hjl',hal1,hsw3]) ?_|apply wp_bs|apply wp_b|refine wp_sr ?_|refine wp_sx ?_|refine wp_ret' ?_|refine wp_skip' ?_|refine wp_exit' ?_)
    refine ⟨.inr rfl,_,⟨X3,j',true,f1,⟨by omega,by omega⟩,f2,⟨f3,f4⟩,rfl⟩,?_⟩
    simp [zi283]
end Go.Idl
namespace Go.Idl
open Go
abbrev U (n:Int):IV:=.sc (.int .u64 n)
def wU (n:Int):Int:=IntKind.u64.wrap n
def xorU (a b:Int):Int:=wU (BitVec.ofInt 64 a ^^^ BitVec.ofInt 64 b).toNat
def andU (a b:Int):Int:=wU (BitVec.ofInt 64 a &&& BitVec.ofInt 64 b).toNat
theorem b_xor (a b:Int):binOp .xor 0 (.int .u64 a) (.int .u64 b)=.pure (.int .u64 (xorU a b)):=rfl
theorem b_and (a b:Int):binOp .and 0 (.int .u64 a) (.int .u64 b)=.pure (.int .u64 (andU a b)):=rfl
theorem b_shl13 (a:Int):binOp .shl 0 (.int .u64 a) (.int .u64 13)=.pure (.int .u64 (wU (a * 2 ^ 13))):=rfl
theorem b_shl17 (a:Int):binOp .shl 0 (.int .u64 a) (.int .u64 17)=.pure (.int .u64 (wU (a * 2 ^ 17))):=rfl
theorem b_shr7 (a:Int):binOp .shr 0 (.int .u64 a) (.int .u64 7)=.pure (.int .u64 (a.fdiv (2 ^ 7))):=rfl
theorem wU_eq (n:Int):wU n=n % 18446744073709551616:=rfl
theorem andU_le {a b:Int} (h0:0≤b) (h1:b < 18446744073709551616):0≤andU a b∧andU a b≤b:=by
  have h2:(BitVec.ofInt 64 a &&& BitVec.ofInt 64 b).toNat≤(BitVec.ofInt 64 b).toNat:=by
    rw [BitVec.toNat_and];exact Nat.and_le_right
  have h3:(BitVec.ofInt 64 b).toNat=b.toNat:=by
    rw [BitVec.toNat_ofInt];congr 1;exact Int.emod_eq_of_lt h0 h1
  rw [h3] at h2
  rw [andU,wU_eq]
  generalize (BitVec.ofInt 64 a &&& BitVec.ofInt 64 b).toNat=z at *
  omega
theorem ev_Next (s:Int) (Ms Es:List Boxes):∃ s':Int,Ev tb zl106 [] [.bptr Ms.length 0 0] (Ms++[[U s]]::Es) ⟨U s',[],Ms++[[U s']]::Es,[]⟩:=by
  refine ⟨xorU (xorU (xorU s (wU (s * 2 ^ 13))) ((xorU s (wU (s * 2 ^ 13))).fdiv (2 ^ 7))) (wU (xorU (xorU s (wU (s * 2 ^ 13))) ((xorU s (wU (s * 2 ^ 13))).fdiv (2 ^ 7)) * 2 ^ 17)),?_⟩
  have x1:=b_xor s (wU (s * 2 ^ 13))
  have x0:=b_shl13 s
  generalize wU (s * 2 ^ 13)=a at *
  generalize xorU s a=b at *
  have y0:=b_shr7 b
  generalize b.fdiv (2 ^ 7)=c at *
  have y1:=b_xor b c
  generalize xorU b c=d at *
  have z0:=b_shl17 d
  generalize wU (d * 2 ^ 17)=e at *
  have z1:=b_xor d e
  generalize xorU d e=f at *
  refine call_of_wp zt106 rfl ?_
  repeat (first|apply wp_as|apply wp_ss|refine wr (by simp [x0,x1,y0,y1,z0,z1];with_reducible rfl) ?_|refine wq (by simp [x0,x1,y0,y1,z0,z1];with_reducible rfl) ?_|refine wt (by simpa [x0,x1,y0,y1,z0,z1]) ?_|refine wf (by simpa [x0,x1,y0,y1,z0,z1]) ?_|refine xt (by simpa [x0,x1,y0,y1,z0,z1]) ?_|refine xf (by simpa [x0,x1,y0,y1,z0,z1]) ?_|apply wp_bs|apply wp_b|refine wp_sr ?_|refine wp_sx ?_|refine wp_ret' ?_|refine wp_skip' ?_|refine wp_exit' ?_)
  simp [zi106]
theorem len_k (cf:CF) (n:Int) (m:Nat) (g:ByteArray) (b:UInt8) (k:Nat) (hw:IntKind.u8.wrap n=(m:Int)) (hb:g[m]? = some b) (hk:b.toNat=k) :
    ∃ st,execOps cf { T:=[(0,.sc (.int .u64 n)),(2,I 0),(14,Bo false)],loc:=[],M:=[] } [⟨some 19,none,.mv (.t 2)⟩,⟨some 20,none,.mv (.t 0)⟩,⟨some 21,none,.conv .u8 (.t 20)⟩,⟨some 22,none,.idxs (.c (.string g)) (.t 21)⟩,⟨some 23,none,.conv .i64 (.t 22)⟩,⟨some 24,none,.bin .add (.t 19) (.t 23)⟩,⟨some 2,none,.asg (.t 24)⟩]=some st∧st.cut [2]={ T:=[(2,I k)],loc:=[],M:=[] }:=by
  subst hk
  have hbl:b.toNat < 256:=b.toNat_lt
  have w1:IntKind.i64.wrap (b.toNat:Int)=(b.toNat:Int):=wrap64 (by omega) (by omega)
  refine ⟨_,by simp [hw,hb];rfl,by simp [w1]⟩
def lenB (n:Nat):Nat:=if n≤0 then 0 else if n≤1 then 1 else if n≤3 then 2 else if n≤7 then 3 else if n≤15 then 4 else 5
set_option maxRecDepth 100000 in
set_option maxHeartbeats 4000000 in
theorem ev_Len64k (n:Nat) (hn:n≤21):Ev tb zl68 [] [.sc (.int .u64 n)] [] ⟨I (lenB n),[],[],[]⟩:=by
  have cs:n=0 ∨ n=1 ∨ n=2 ∨ n=3 ∨ n=4 ∨ n=5 ∨ n=6 ∨ n=7 ∨ n=8 ∨ n=9 ∨ n=10 ∨ n=11 ∨ n=12 ∨ n=13 ∨ n=14 ∨ n=15 ∨ n=16 ∨ n=17 ∨ n=18 ∨ n=19 ∨ n=20 ∨ n=21:=by omega
  have w8:IntKind.u8.wrap (n:Int)=(n:Int):=by
    rcases cs with rfl | rfl | rfl | rfl | rfl | rfl | rfl | rfl | rfl | rfl | rfl | rfl | rfl | rfl | rfl | rfl | rfl | rfl | rfl | rfl | rfl | rfl <;> rfl
  have key:∃ st,execOps (limF tb) { T:=[(0,.sc (.int .u64 n)),(2,I 0),(14,Bo false)],loc:=[],M:=[] } (match z68r10 with | .reg ops _ _=>ops | _=>[])=some st∧st.cut [2]={ T:=[(2,I (lenB n))],loc:=[],M:=[] }:=by
    rcases cs with rfl | rfl | rfl | rfl | rfl | rfl | rfl | rfl | rfl | rfl | rfl | rfl | rfl | rfl | rfl | rfl | rfl | rfl | rfl | rfl | rfl | rfl
    all_goals
      exact len_k (limF tb) _ _ _ _ _ w8 rfl rfl
  obtain ⟨st,h1,h2⟩:=key
  have g1:¬ (4294967296:Int)≤n:=by omega
  have g2:¬ (65536:Int)≤n:=by omega
  have g3:¬ (256:Int)≤n:=by omega
  refine call_of_wp zt68 rfl ?_
  iterate 4 ((first|refine wp_as ?_|skip);refine wp_rs (by simp [g1,g2,g3];rfl) (by simp;rfl) ?_;(first|refine wp_ct (t:=false) (by simp) (by simp) (fun _=>?_)|skip);(first|refine wp_ss ?_|skip))
  refine wp_rs h1 h2 ?_
  refine wp_ret' ?_
  simp [zi68]
theorem ev_Lenk (n:Nat) (hn:n≤21):Ev tb zl66 [] [.sc (.int .u64 n)] [] ⟨I (lenB n),[],[],[]⟩:=by
  have e1:=ev_lim (ev_Len64k n hn)
  refine call_of_wp zt66 rfl ?_
  repeat (first|apply wp_as|apply wp_ss|refine wr (by simp [e1];with_reducible rfl) ?_|refine wq (by simp [e1];with_reducible rfl) ?_|refine wt (by simpa [e1]) ?_|refine wf (by simpa [e1]) ?_|refine xt (by simpa [e1]) ?_|refine xf (by simpa [e1]) ?_|apply wp_bs|apply wp_b|refine wp_sr ?_|refine wp_sx ?_|refine wp_ret' ?_|refine wp_skip' ?_|refine wp_exit' ?_)
  simp [zi66]
def npo (n:Nat):Int:=if n≤15 then 16 else 32
theorem ev_npo (n:Nat) (h1:13≤n) (h2:n≤21):Ev tb zl91 [] [I n] [] ⟨U (npo n),[],[],[]⟩:=by
  have e1:=ev_lim (ev_Lenk n h2)
  have w1:=@wrapU n (by omega)
  by_cases h:n≤15
  · rw [show lenB n=4 by rw [lenB,if_neg (by omega),if_neg (by omega),if_neg (by omega),if_neg (by omega),if_pos h],show ((4:Nat):Int)=4 from rfl] at e1
    have s1:binOp .shl 0 (.int .u64 1) (.int .i64 4)=.pure (.int .u64 16):=rfl
    rw [npo,if_pos h]
    refine call_of_wp zt91 rfl ?_
    repeat (first|apply wp_as|apply wp_ss|refine wr (by simp [e1,w1,s1];with_reducible rfl) ?_|refine wq (by simp [e1,w1,s1];with_reducible rfl) ?_|refine wt (by simpa [e1,w1,s1]) ?_|refine wf (by simpa [e1,w1,s1]) ?_|refine xt (by simpa [e1,w1,s1]) ?_|refine xf (by simpa [e1,w1,s1]) ?_|apply wp_bs|apply wp_b|refine wp_sr ?_|refine wp_sx ?_|refine wp_ret' ?_|refine wp_skip' ?_|refine wp_exit' ?_)
    simp [zi91]
    try rfl
  · rw [show lenB n=5 by rw [lenB,if_neg (by omega),if_neg (by omega),if_neg (by omega),if_neg (by omega),if_neg h],show ((5:Nat):Int)=5 from rfl] at e1
    have s1:binOp .shl 0 (.int .u64 1) (.int .i64 5)=.pure (.int .u64 32):=rfl
    rw [npo,if_neg h]
    refine call_of_wp zt91 rfl ?_
    repeat (first|apply wp_as|apply wp_ss|refine wr (by simp [e1,w1,s1];with_reducible rfl) ?_|refine wq (by simp [e1,w1,s1];with_reducible rfl) ?_|refine wt (by simpa [e1,w1,s1]) ?_|refine wf (by simpa [e1,w1,s1]) ?_|refine xt (by simpa [e1,w1,s1]) ?_|refine xf (by simpa [e1,w1,s1]) ?_|apply wp_bs|apply wp_b|refine wp_sr ?_|refine wp_sx ?_|refine wp_ret' ?_|refine wp_skip' ?_|refine wp_exit' ?_)
    simp [zi91]
    try rfl
set_option maxHeartbeats 2000000 in
theorem bp_loop (X0:List (Int×Int)) (hX0:X0.length≤2000000) (a n q:Nat) (hq:q=n / 4) (h13:13≤n) (h21:n≤21) (hab:a+n≤X0.length) (M:List Boxes):∀ (m:Nat) (X:List (Int×Int)) (k:Nat) (s:Int),k+m=a+q * 2+2→a≤k→Seg X0 X a (a+n) →
    wp tb (.loop z274l11) { T:=[(0,O2 X),(1,I a),(8,I n),(9,.bptr M.length 0 0),(10,U (npo n)),(11,I k)],loc:=[[U s]],M:=M }
      (fun ex st=>ex=.exit 0∧∃ (X':List (Int×Int)) (s':Int) (k':Nat),Seg X0 X' a (a+n)∧st={ T:=[(0,O2 X'),(1,I a),(8,I n),(9,.bptr M.length 0 0),(10,U (npo n)),(11,I k'),(35,Bo false)],loc:=[[U s']],M:=M }):=by
  have t1:(n:Int).tdiv 4=(q:Int):=by rw [Int.tdiv_eq_ediv_of_nonneg (by omega)];omega
  have w1:IntKind.i64.wrap (q:Int)=(q:Int):=wrap64 (by omega) (by omega)
  have w2:IntKind.i64.wrap ((q:Int) * 2)=(q:Int) * 2:=wrap64 (by omega) (by omega)
  have w3:IntKind.i64.wrap ((a:Int)+q * 2)=(a:Int)+q * 2:=wrap64 (by omega) (by omega)
  have w4:IntKind.i64.wrap ((a:Int)+q * 2+1)=(a:Int)+q * 2+1:=wrap64 (by omega) (by omega)
  intro m
  induction m with
  | zero =>
    intro X k s hk ha hS
    have g1:¬ (k:Int)≤(a:Int)+q * 2+1:=by omega
    refine wp_loop ?_
    repeat (first|apply wp_as|apply wp_ss|refine wr (by simp [t1,w1,w2,w3,w4,g1];with_reducible rfl) ?_|refine wq (by simp [t1,w1,w2,w3,w4,g1];with_reducible rfl) ?_|refine wt (by simpa [t1,w1,w2,w3,w4,g1]) ?_|refine wf (by simpa [t1,w1,w2,w3,w4,g1]) ?_|refine xt (by simpa [t1,w1,w2,w3,w4,g1]) ?_|refine xf (by simpa [t1,w1,w2,w3,w4,g1]) ?_|apply wp_bs|apply wp_b|refine wp_sr ?_|refine wp_sx ?_|refine wp_ret' ?_|refine wp_skip' ?_|refine wp_exit' ?_)
    exact ⟨rfl,X,s,k,hS,rfl⟩
  | succ m ih =>
    intro X k s hk ha hS
    have hXl:=hS.len
    have g1:(k:Int)≤(a:Int)+q * 2+1:=by omega
    have hkl:k < X.length:=by omega
    obtain ⟨s',hs'⟩:=ev_Next s M []
    have e1:=ev_lim hs'
    have hnp:npo n=16∧n≤15 ∨ npo n=32∧16≤n:=by
      rw [npo];split <;> omega
    have wU1:IntKind.u64.wrap (npo n - 1)=npo n - 1:=by
      rcases hnp with ⟨h,_⟩ | ⟨h,_⟩ <;> rw [h] <;> rfl
    have hand:=andU_le (a:=s') (b:=npo n - 1) (by omega) (by omega)
    have a1:=b_and s' (npo n - 1)
    generalize andU s' (npo n - 1)=o at *
    obtain ⟨o,rfl⟩:=Int.eq_ofNat_of_zero_le hand.1
    have w5:IntKind.i64.wrap (o:Int)=(o:Int):=wrap64 (by omega) (by omega)
    have w6:IntKind.i64.wrap ((k:Int)+1)=((k+1:Nat):Int):=wrapS (by omega)
    by_cases ho:(n:Int)≤o
    · have ho':n≤o:=by omega
      obtain ⟨p,hp⟩:∃ p,p=o - n:=⟨_,rfl⟩
      have w7:IntKind.i64.wrap ((o:Int) - n)=(p:Int):=by rw [wrap64 (by omega) (by omega)];omega
      have w8:IntKind.i64.wrap ((a:Int)+p)=(a:Int)+p:=wrap64 (by omega) (by omega)
      have hno:natOf (I ((a:Int)+p))=some (a+p):=natOf_nat (n:=a+p)
      have hpl:a+p < X.length:=by omega
      have hS2:=hS.trans (swapL_seg X k (a+p) a (a+n) hkl hpl (by omega) (by omega))
      have hn:=ih (swapL X k (a+p) hkl hpl) (k+1) s' (by omega) (by omega) hS2
      refine wp_loop ?_
      repeat (first|apply wp_as|apply wp_ss|refine wr (by simp [t1,w1,w2,w3,w4,g1,e1,wU1,a1,w5,ho,ho',w7,w8,hno,hkl,hpl,w6];with_reducible rfl) ?_|refine wq (by simp [t1,w1,w2,w3,w4,g1,e1,wU1,a1,w5,ho,ho',w7,w8,hno,hkl,hpl,w6];with_reducible rfl) ?_|refine wt (by simpa [t1,w1,w2,w3,w4,g1,e1,wU1,a1,w5,ho,ho',w7,w8,hno,hkl,hpl,w6]) ?_|refine wf (by simpa [t1,w1,w2,w3,w4,g1,e1,wU1,a1,w5,ho,ho',w7,w8,hno,hkl,hpl,w6]) ?_|refine xt (by simpa [t1,w1,w2,w3,w4,g1,e1,wU1,a1,w5,ho,ho',w7,w8,hno,hkl,hpl,w6]) ?_|refine xf (by simpa [t1,w1,w2,w3,w4,g1,e1,wU1,a1,w5,ho,ho',w7,w8,hno,hkl,hpl,w6]) ?_|apply wp_bs|apply wp_b|refine wp_sr ?_|refine wp_sx ?_|refine wp_ret' ?_|refine wp_skip' ?_|refine wp_exit' ?_)
      exact hn
    · have ho':¬ n≤o:=by omega
      have w8:IntKind.i64.wrap ((a:Int)+o)=(a:Int)+o:=wrap64 (by omega) (by omega)
      have hno:natOf (I ((a:Int)+o))=some (a+o):=natOf_nat (n:=a+o)
      have hpl:a+o < X.length:=by omega
      have hS2:=hS.trans (swapL_seg X k (a+o) a (a+n) hkl hpl (by omega) (by omega))
      have hn:=ih (swapL X k (a+o) hkl hpl) (k+1) s' (by omega) (by omega) hS2
      refine wp_loop ?_
      repeat (first|apply wp_as|apply wp_ss|refine wr (by simp [t1,w1,w2,w3,w4,g1,e1,wU1,a1,w5,ho,ho',w8,hno,hkl,hpl,w6];with_reducible rfl) ?_|refine wq (by simp [t1,w1,w2,w3,w4,g1,e1,wU1,a1,w5,ho,ho',w8,hno,hkl,hpl,w6];with_reducible rfl) ?_|refine wt (by simpa [t1,w1,w2,w3,w4,g1,e1,wU1,a1,w5,ho,ho',w8,hno,hkl,hpl,w6]) ?_|refine wf (by simpa [t1,w1,w2,w3,w4,g1,e1,wU1,a1,w5,ho,ho',w8,hno,hkl,hpl,w6]) ?_|refine xt (by simpa [t1,w1,w2,w3,w4,g1,e1,wU1,a1,w5,ho,ho',w8,hno,hkl,hpl,w6]) ?_|refine xf (by simpa [t1,w1,w2,w3,w4,g1,e1,wU1,a1,w5,ho,ho',w8,hno,hkl,hpl,w6]) ?_|apply wp_bs|apply wp_b|refine wp_sr ?_|refine wp_sx ?_|refine wp_ret' ?_|refine wp_skip' ?_|refine wp_exit' ?_)
      exact hn
set_option maxHeartbeats 2000000 in
theorem ev_breakPatterns (X:List (Int×Int)) (hl:X.length≤2000000) (a n:Nat) (h13:13≤n) (h21:n≤21) (hab:a+n≤X.length) (M:List Boxes) :
    ∃ X':List (Int×Int),Seg X X' a (a+n)∧Ev tb zl274 [0] [O2 X,I a,I ((a:Int)+n),fcE] M ⟨.tup [],[O2 X'],M,[]⟩:=by
  obtain ⟨q,hq⟩:∃ q,q=n / 4:=⟨_,rfl⟩
  have t1:(n:Int).tdiv 4=(q:Int):=by rw [Int.tdiv_eq_ediv_of_nonneg (by omega)];omega
  have w00:(a:Int)+n - a=n:=by omega
  have w0:IntKind.i64.wrap (n:Int)=(n:Int):=wrap64 (by omega) (by omega)
  have w1:IntKind.i64.wrap (q:Int)=(q:Int):=wrap64 (by omega) (by omega)
  have w2:IntKind.i64.wrap ((q:Int) * 2)=(q:Int) * 2:=wrap64 (by omega) (by omega)
  have w3:IntKind.i64.wrap ((a:Int)+q * 2)=(a:Int)+q * 2:=wrap64 (by omega) (by omega)
  have w4:IntKind.i64.wrap ((a:Int)+q * 2 - 1)=((a+q * 2 - 1:Nat):Int):=by rw [wrap64 (by omega) (by omega)];omega
  have wu:=@wrapU n (by omega)
  have g1:(8:Int)≤n:=by omega
  have g1':8≤n:=by omega
  have e1:=ev_lim (ev_npo n h13 h21)
  have hlo:=bp_loop X hl a n q hq h13 h21 hab M 3 X (a+q * 2 - 1) n (by omega) (by omega) (Seg.refl X a (a+n))
  generalize a+q * 2 - 1=k0 at *
  suffices hh:∃ r,(∃ X':List (Int×Int),Seg X X' a (a+n)∧r=⟨.tup [],[O2 X'],M,[]⟩)∧Ev tb zl274 [0] [O2 X,I a,I ((a:Int)+n),fcE] M r by
    obtain ⟨r,⟨X',q1,rfl⟩,q2⟩:=hh
    exact ⟨X',q1,q2⟩
  refine call_ex zt274 rfl ?_
  repeat (first|apply wp_as|apply wp_ss|refine wr (by simp [t1,w00,w0,w1,w2,w3,w4,wu,g1,g1',e1];with_reducible rfl) ?_|refine wq (by simp [t1,w00,w0,w1,w2,w3,w4,wu,g1,g1',e1];with_reducible rfl) ?_|refine wt (by simpa [t1,w00,w0,w1,w2,w3,w4,wu,g1,g1',e1]) ?_|refine wf (by simpa [t1,w00,w0,w1,w2,w3,w4,wu,g1,g1',e1]) ?_|refine xt (by simpa [t1,w00,w0,w1,w2,w3,w4,wu,g1,g1',e1]) ?_|refine xf (by simpa [t1,w00,w0,w1,w2,w3,w4,wu,g1,g1',e1]) ?_|apply wp_bs|apply wp_b|refine wp_sr ?_|refine wp_sx ?_|refine wp_ret' ?_|refine wp_skip' ?_|refine wp_exit' ?_)
  refine wp_imp hlo ?_
  rintro ex st ⟨rfl,X',s',k',hS,rfl⟩
  try simp only [if_true]
  repeat (first|apply wp_as|apply wp_ss|refine wr (by simp;with_reducible rfl) ?_|refine wq (by simp;with_reducible rfl) ?_|refine wt (by simpa) ?_|refine wf (by simpa) ?_|refine xt (by simpa) ?_|refine xf (by simpa) ?_|apply wp_bs|apply wp_b|refine wp_sr ?_|refine wp_sx ?_|refine wp_ret' ?_|refine wp_skip' ?_|refine wp_exit' ?_)
  refine ⟨by simp,_,⟨X',hS,rfl⟩,?_⟩
  simp [zi274]
theorem pi_loop (X:List (Int×Int)) (hX:∀ x ∈ X,DE x) (hl:X.length≤2000000) (a b:Nat) (hab:a < b) (hb:b≤X.length) (M:List Boxes):∀ (m i:Nat) (f:Bool),i+m=b→a < i →
    wp tb (.loop z282l6) { T:=[(0,O2 X),(1,I a),(2,I b),(3,fcE),(9,I i),(10,I 0)]++(if f then [(16,Bo true)] else []),loc:=[],M:=M }
      (fun ex st=>ex=.exit 2∧∃ i':Nat,(i≤i'∧i'≤b∧(∀ k,i≤k→k < i'→∀ h1 h2,below (X[k]'h1) (X[k - 1]'h2)=false))∧st={ T:=[(0,O2 X),(1,I a),(2,I b),(3,fcE),(9,I i'),(10,I 0),(36,Bo false)],loc:=[],M:=M }):=by
  intro m
  induction m with
  | zero =>
    intro i f hi ha
    have g1:¬ i < b:=by omega
    have g1':¬ (i:Int) < b:=by omega
    cases f
    all_goals
      simp only [if_true,if_false,Bool.false_eq_true,List.append_nil,List.cons_append,List.nil_append]
      refine wp_loop ?_
      repeat (first|apply wp_as|apply wp_ss|refine wr (by simp [g1,g1'];with_reducible rfl) ?_|refine wq (by simp [g1,g1'];with_reducible rfl) ?_|refine wt (by simpa [g1,g1']) ?_|refine wf (by simpa [g1,g1']) ?_|refine xt (by simpa [g1,g1']) ?_|refine xf (by simpa [g1,g1']) ?_|apply wp_bs|apply wp_b|refine wp_sr ?_|refine wp_sx ?_|refine wp_ret' ?_|refine wp_skip' ?_|refine wp_exit' ?_)
      exact ⟨rfl,i,⟨Nat.le_refl _,by omega,fun k k1 k2=>by omega⟩,rfl⟩
  | succ m ih =>
    intro i f hi ha
    obtain ⟨p,rfl⟩:∃ p,i=p+1:=⟨i - 1,by omega⟩
    have hil:p+1 < X.length:=by omega
    have hpl:p < X.length:=by omega
    have g1:p+1 < b:=by omega
    have g1':(p:Int)+1 < b:=by omega
    have w1:IntKind.i64.wrap (p:Int)=(p:Int):=wrap64 (by omega) (by omega)
    have w2:IntKind.i64.wrap ((p:Int)+1+1)=((p+1+1:Nat):Int):=by rw [wrap64 (by omega) (by omega)];omega
    have hbl:=cmpE_below X[p+1] X[p]
    have e1:=fun M=>ev_lim (ev_cmpE (hX _ (List.getElem_mem hil)) (hX _ (List.getElem_mem hpl)) M)
    cases f
    all_goals
      simp only [if_true,if_false,Bool.false_eq_true,List.append_nil,List.cons_append,List.nil_append]
      by_cases hc:cmpE X[p+1] X[p] < 0
      · refine wp_loop ?_
        repeat (first|apply wp_as|apply wp_ss|refine wr (by simp [g1,g1',hil,hpl,w1,e1,hc,w2];with_reducible rfl) ?_|refine wq (by simp [g1,g1',hil,hpl,w1,e1,hc,w2];with_reducible rfl) ?_|refine wt (by simpa [g1,g1',hil,hpl,w1,e1,hc,w2]) ?_|refine wf (by simpa [g1,g1',hil,hpl,w1,e1,hc,w2]) ?_|refine xt (by simpa [g1,g1',hil,hpl,w1,e1,hc,w2]) ?_|refine xf (by simpa [g1,g1',hil,hpl,w1,e1,hc,w2]) ?_|apply wp_bs|apply wp_b|refine wp_sr ?_|refine wp_sx ?_|refine wp_ret' ?_|refine wp_skip' ?_|refine wp_exit' ?_)
        exact ⟨rfl,p+1,⟨Nat.le_refl _,by omega,fun k k1 k2=>by omega⟩,rfl⟩
      · have hbt:below X[p+1] X[p]=false:=by rw [← hbl];exact decide_eq_false hc
        refine wp_loop ?_
        repeat (first|apply wp_as|apply wp_ss|refine wr (by simp [g1,g1',hil,hpl,w1,e1,hc,w2];with_reducible rfl) ?_|refine wq (by simp [g1,g1',hil,hpl,w1,e1,hc,w2];with_reducible rfl) ?_|refine wt (by simpa [g1,g1',hil,hpl,w1,e1,hc,w2]) ?_|refine wf (by simpa [g1,g1',hil,hpl,w1,e1,hc,w2]) ?_|refine xt (by simpa [g1,g1',hil,hpl,w1,e1,hc,w2]) ?_|refine xf (by simpa [g1,g1',hil,hpl,w1,e1,hc,w2]) ?_|apply wp_bs|apply wp_b|refine wp_sr ?_|refine wp_sx ?_|refine wp_ret' ?_|refine wp_skip' ?_|refine wp_exit' ?_)
        refine wp_imp (by simpa using ih (p+1+1) false (by omega) (by omega)) ?_
        rintro ex st ⟨rfl,i',⟨k1,k2,k3⟩,rfl⟩
        refine ⟨rfl,i',⟨by omega,k2,fun k q1 q2 h1 h2=>?_⟩,rfl⟩
        by_cases hk:k=p+1
        · subst hk;exact hbt
        · exact k3 k (by omega) q2 h1 h2
theorem ev_partialIns (X:List (Int×Int)) (hX:∀ x ∈ X,DE x) (hl:X.length≤2000000) (a n:Nat) (h1:1≤n) (h49:n≤49) (hab:a+n≤X.length) (M:List Boxes) :
    ∃ t:Bool,(t=true→∀ k,a < k→k < a+n→∀ h1 h2,below (X[k]'h1) (X[k - 1]'h2)=false)∧Ev tb zl282 [0] [O2 X,I a,I ((a:Int)+n),fcE] M ⟨Bo t,[O2 X],M,[]⟩:=by
  have w00:(a:Int)+n - a=n:=by omega
  have w0:IntKind.i64.wrap (n:Int)=(n:Int):=wrap64 (by omega) (by omega)
  have w1:IntKind.i64.wrap ((a:Int)+1)=((a+1:Nat):Int):=wrapS (by omega)
  have g1:(n:Int) < 50:=by omega
  have g1':n < 50:=by omega
  suffices hh:∃ r,(∃ t:Bool,(t=true→∀ k,a < k→k < a+n→∀ h1 h2,below (X[k]'h1) (X[k - 1]'h2)=false)∧r=⟨Bo t,[O2 X],M,[]⟩)∧Ev tb zl282 [0] [O2 X,I a,I ((a:Int)+n),fcE] M r by
    obtain ⟨r,⟨t,q1,rfl⟩,q2⟩:=hh
    exact ⟨t,q1,q2⟩
  have hlo:=pi_loop X hX hl a (a+n) (by omega) hab M (n - 1) (a+1) true (by omega) (by omega)
  rw [show ((a+n:Nat):Int)=(a:Int)+n by omega] at hlo
  refine call_ex zt282 rfl ?_
  repeat (first|apply wp_as|apply wp_ss|refine wr (by simp [w1];with_reducible rfl) ?_|refine wq (by simp [w1];with_reducible rfl) ?_|refine wt (by simpa [w1]) ?_|refine wf (by simpa [w1]) ?_|refine xt (by simpa [w1]) ?_|refine xf (by simpa [w1]) ?_|apply wp_bs|apply wp_b|refine wp_sr ?_|refine wp_sx ?_|refine wp_ret' ?_|refine wp_skip' ?_|refine wp_exit' ?_)
  refine wp_loop ?_
  repeat (first|apply wp_as|apply wp_ss|refine wr (by simp;with_reducible rfl) ?_|refine wq (by simp;with_reducible rfl) ?_|refine wt (by simpa) ?_|refine wf (by simpa) ?_|refine xt (by simpa) ?_|refine xf (by simpa) ?_|apply wp_bs|apply wp_b|refine wp_sr ?_|refine wp_sx ?_|refine wp_ret' ?_|refine wp_skip' ?_|refine wp_exit' ?_)
  refine wp_imp hlo ?_
  rintro ex st ⟨rfl,i',⟨k1,k2,k3⟩,rfl⟩
  try simp only [if_true]
  by_cases hi:i'=a+n
  · have g2:((i':Nat):Int)=(a:Int)+n:=by omega
    repeat (first|apply wp_as|apply wp_ss|refine wr (by simp [g2];with_reducible rfl) ?_|refine wq (by simp [g2];with_reducible rfl) ?_|refine wt (by simpa [g2]) ?_|refine wf (by simpa [g2]) ?_|refine xt (by simpa [g2]) ?_|refine xf (by simpa [g2]) ?_|apply wp_bs|apply wp_b|refine wp_sr ?_|refine wp_sx ?_|refine wp_ret' ?_|refine wp_skip' ?_|refine wp_exit' ?_)
    refine ⟨.inr rfl,_,⟨true,fun _ k q1 q2=>k3 k (by omega) (by omega),rfl⟩,?_⟩
    simp [zi282]
  · have g2:¬ ((i':Nat):Int)=(a:Int)+n:=by omega
    repeat (first|apply wp_as|apply wp_ss|refine wr (by simp [g2,w00,w0,g1,g1'];with_reducible rfl) ?_|refine wq (by simp [g2,w00,w0,g1,g1'];with_reducible rfl) ?_|refine wt (by simpa [g2,w00,w0,g1,g1']) ?_|refine wf (by simpa [g2,w00,w0,g1,g1']) ?_|refine xt (by simpa [g2,w00,w0,g1,g1']) ?_|refine xf (by simpa [g2,w00,w0,g1,g1']) ?_|apply wp_bs|apply wp_b|refine wp_sr ?_|refine wp_sx ?_|refine wp_ret' ?_|refine wp_skip' ?_|refine wp_exit' ?_)
    refine ⟨.inr rfl,_,⟨false,(fun h=>nomatch h),rfl⟩,?_⟩
    simp [zi282]
end Go.Idl
namespace Go.Idl
open Go
def nl2:List (Int×Int)→IV
  | []=>Z
  | e::es=>O2 (e::es)
@[simp] theorem nl2_nil:nl2 []=Z:=rfl
@[simp] theorem nl2_cons (e:Int×Int) (es:List (Int×Int)):nl2 (e::es)=O2 (e::es):=rfl
theorem ev_edge (a b:Int) (M:List Boxes):Ev tb zl36 [] [I a,I b] M ⟨.agg [I (min a b),I (max a b)],[],M,[]⟩:=by
  have h1:(if b < a then b else a)=min a b:=min_if a b
  have h2:(if a < b then b else a)=max a b:=max_if a b
  refine call_of_wp zt36 rfl ?_
  repeat (first|apply wp_as|apply wp_ss|refine wr (by simp;with_reducible rfl) ?_|refine wq (by simp;with_reducible rfl) ?_|refine wt (by simpa) ?_|refine wf (by simpa) ?_|refine xt (by simpa) ?_|refine xf (by simpa) ?_|apply wp_bs|apply wp_b|refine wp_sr ?_|refine wp_sx ?_|refine wp_ret' ?_|refine wp_skip' ?_|refine wp_exit' ?_)
  simp [zi36,h1,h2]
end Go.Idl
namespace Go.Idl
open Go
def idx2 (e:Int×Int):Int→List (Int×Int)→Int
  | _,[]=>-1
  | i,x::r=>if x=e then i else idx2 e (i+1) r
theorem idx2_ge (e:Int×Int):∀ (xs:List (Int×Int)) (i:Int),0≤i→(decide (0≤idx2 e i xs)=xs.any fun x=>decide (x=e))
  | [],i,h=>by simp [idx2]
  | x::r,i,h=>by
    unfold idx2
    by_cases hp:x=e
    · simp [hp,h]
    · simp [hp];simpa using idx2_ge e r (i+1) (by omega)
theorem ev_Index2 (e0:Nat) (es:List (Int×Int)) (c:Bool) (e:Int×Int) (he0:e0=2 ∨ es=[]) (hl:es.length≤100000000) (M:List Boxes) :
    Ev tb zl269 [] [.lst e0 (eds es) c,.agg [I e.1,I e.2]] M ⟨I (idx2 e 0 es),[],M,[]⟩:=by
  have loop:∀ (m i:Nat),i+m=es.length→wp tb (.loop z269l7) { T:=[(0,.lst e0 (eds es) c),(3,.bptr M.length 0 0),(7,I es.length),(8,I i)],loc:=[[I e.1,I e.2]],M:=M }
      (fun ex st=>(ex=.exit 0∧idx2 e i (es.drop i)=-1∧st={ T:=[(0,.lst e0 (eds es) c),(3,.bptr M.length 0 0),(7,I es.length),(8,I es.length),(9,Bo false)],loc:=[[I e.1,I e.2]],M:=M }) ∨
        (ex=.ret∧st={ T:=[(4,I (idx2 e i (es.drop i)))],loc:=[[I e.1,I e.2]],M:=M })):=by
    intro m
    induction m with
    | zero =>
      intro i hi
      have h3:i=es.length:=hi
      subst h3
      refine wp_loop ?_
      repeat (first|apply wp_as|apply wp_ss|refine wr (by simp;with_reducible rfl) ?_|refine wq (by simp;with_reducible rfl) ?_|refine wt (by simpa) ?_|refine wf (by simpa) ?_|refine xt (by simpa) ?_|refine xf (by simpa) ?_|apply wp_bs|apply wp_b|refine wp_sr ?_|refine wp_sx ?_|refine wp_ret' ?_|refine wp_skip' ?_|refine wp_exit' ?_)
      exact .inl ⟨rfl,by simp [idx2],rfl⟩
    | succ m ih =>
      intro i hi
      have hi2:i < es.length:=by omega
      have he:e0=2:=by
        rcases he0 with h | h
        · exact h
        · rw [h] at hi2;simp at hi2
      subst he
      have hd:es.drop i=es[i]::es.drop (i+1):=List.drop_eq_getElem_cons hi2
      have w1:IntKind.i64.wrap ((i:Int)+1)=((i+1:Nat):Int):=wrapS (by omega)
      rw [hd]
      by_cases hq:es[i]=e
      · have h1:e.1=es[i].1:=by rw [hq]
        have h2:e.2=es[i].2:=by rw [hq]
        refine wp_loop ?_
        repeat (first|apply wp_as|apply wp_ss|refine wr (by simp [hi2,h1,h2,w1];with_reducible rfl) ?_|refine wq (by simp [hi2,h1,h2,w1];with_reducible rfl) ?_|refine wt (by simpa [hi2,h1,h2,w1]) ?_|refine wf (by simpa [hi2,h1,h2,w1]) ?_|refine xt (by simpa [hi2,h1,h2,w1]) ?_|refine xf (by simpa [hi2,h1,h2,w1]) ?_|apply wp_bs|apply wp_b|refine wp_sr ?_|refine wp_sx ?_|refine wp_ret' ?_|refine wp_skip' ?_|refine wp_exit' ?_)
        exact .inr ⟨rfl,by simp [idx2,hq]⟩
      · have h3:(e.1 == es[i].1 && e.2 == es[i].2)=false:=by
          rw [← Bool.not_eq_true,Bool.and_eq_true,beq_iff_eq,beq_iff_eq]
          rintro ⟨h1,h2⟩
          exact hq (by ext <;> simp [h1,h2])
        have hn:=ih (i+1) (by omega)
        simp only [idx2,hq,if_false]
        refine wp_loop ?_
        repeat (first|apply wp_as|apply wp_ss|refine wr (by simp [hi2,h3,w1];with_reducible rfl) ?_|refine wq (by simp [hi2,h3,w1];with_reducible rfl) ?_|refine wt (by simpa [hi2,h3,w1]) ?_|refine wf (by simpa [hi2,h3,w1]) ?_|refine xt (by simpa [hi2,h3,w1]) ?_|refine xf (by simpa [hi2,h3,w1]) ?_|apply wp_bs|apply wp_b|refine wp_sr ?_|refine wp_sx ?_|refine wp_ret' ?_|refine wp_skip' ?_|refine wp_exit' ?_)
        exact hn
  refine call_of_wp zt269 rfl ?_
  repeat (first|apply wp_as|apply wp_ss|refine wr (by simp;with_reducible rfl) ?_|refine wq (by simp;with_reducible rfl) ?_|refine wt (by simpa) ?_|refine wf (by simpa) ?_|refine xt (by simpa) ?_|refine xf (by simpa) ?_|apply wp_bs|apply wp_b|refine wp_sr ?_|refine wp_sx ?_|refine wp_ret' ?_|refine wp_skip' ?_|refine wp_exit' ?_)
  refine wp_imp (loop es.length 0 (by simp)) ?_
  rintro ex st (⟨rfl,h,rfl⟩ | ⟨rfl,rfl⟩)
  · try simp only [if_true]
    repeat (first|apply wp_as|apply wp_ss|refine wr (by simp;with_reducible rfl) ?_|refine wq (by simp;with_reducible rfl) ?_|refine wt (by simpa) ?_|refine wf (by simpa) ?_|refine xt (by simpa) ?_|refine xf (by simpa) ?_|apply wp_bs|apply wp_b|refine wp_sr ?_|refine wp_sx ?_|refine wp_ret' ?_|refine wp_skip' ?_|refine wp_exit' ?_)
    simp only [List.drop_zero] at h
    simp [zi269]
    exact h.symm
  · simp [zi269]
theorem ev_Contains2 (e0:Nat) (es:List (Int×Int)) (c:Bool) (e:Int×Int) (he0:e0=2 ∨ es=[]) (hl:es.length≤100000000) (M:List Boxes) :
    Ev tb zl263 [] [.lst e0 (eds es) c,.agg [I e.1,I e.2]] M ⟨Bo (es.any fun x=>decide (x=e)),[],M,[]⟩:=by
  have e1:=ev_lim (ev_Index2 e0 es c e he0 hl [])
  have h:=idx2_ge e es 0 (by omega)
  refine call_of_wp zt263 rfl ?_
  repeat (first|apply wp_as|apply wp_ss|refine wr (by simp [e1];with_reducible rfl) ?_|refine wq (by simp [e1];with_reducible rfl) ?_|refine wt (by simpa [e1]) ?_|refine wf (by simpa [e1]) ?_|refine xt (by simpa [e1]) ?_|refine xf (by simpa [e1]) ?_|apply wp_bs|apply wp_b|refine wp_sr ?_|refine wp_sx ?_|refine wp_ret' ?_|refine wp_skip' ?_|refine wp_exit' ?_)
  simp [zi263,h]
def hasM (es:List (Int×Int)) (a b:Int):Bool:=es.any fun x=>decide (x=(min a b,max a b))
theorem ev_has (n:Int) (e0:Nat) (es:List (Int×Int)) (c:Bool) (a b:Int) (he0:e0=2 ∨ es=[]) (hl:es.length≤100000000) (M:List Boxes) :
    Ev tb zl171 [] [.agg [I n,.lst e0 (eds es) c],I a,I b] M ⟨Bo (hasM es a b),[],M,[]⟩:=by
  have e1:=ev_lim (ev_edge a b [])
  have e2:=ev_lim (ev_Contains2 e0 es c (min a b,max a b) he0 hl [])
  refine call_of_wp zt171 rfl ?_
  repeat (first|apply wp_as|apply wp_ss|refine wr (by simp;with_reducible rfl) ?_|refine wq (by simp;with_reducible rfl) ?_|refine wt (by simpa) ?_|refine wf (by simpa) ?_|refine xt (by simpa) ?_|refine xf (by simpa) ?_|apply wp_bs|apply wp_b|refine wp_sr ?_|refine wp_sx ?_|refine wp_ret' ?_|refine wp_skip' ?_|refine wp_exit' ?_)
  refine wp_ra (by simp [e1,e2];with_reducible rfl) (by simp;with_reducible rfl) ?_ ?_
  · intro p hp
    simp only [List.mem_cons,List.not_mem_nil,or_false] at hp
    subst hp
    exact ⟨_,by simp [e1,e2];with_reducible rfl,by simp⟩
  repeat (first|apply wp_as|apply wp_ss|refine wr (by simp;with_reducible rfl) ?_|refine wq (by simp;with_reducible rfl) ?_|refine wt (by simpa) ?_|refine wf (by simpa) ?_|refine xt (by simpa) ?_|refine xf (by simpa) ?_|apply wp_bs|apply wp_b|refine wp_sr ?_|refine wp_sx ?_|refine wp_ret' ?_|refine wp_skip' ?_|refine wp_exit' ?_)
  simp [zi171,hasM]
theorem ev_Clip2 (xs:List (Int×Int)):Ev tb zl258 [] [O2 xs] [] ⟨O2 xs,[],[],[]⟩:=by
  refine call_of_wp zt258 rfl ?_
  repeat (first|apply wp_as|apply wp_ss|refine wr (by simp;with_reducible rfl) ?_|refine wq (by simp;with_reducible rfl) ?_|refine wt (by simpa) ?_|refine wf (by simpa) ?_|refine xt (by simpa) ?_|refine xf (by simpa) ?_|apply wp_bs|apply wp_b|refine wp_sr ?_|refine wp_sx ?_|refine wp_ret' ?_|refine wp_skip' ?_|refine wp_exit' ?_)
  simp [zi258]
end Go.Idl
namespace Go.Idl
open Go
theorem vEs_in (n:Int):∀ (p:Option (Int×Int)) (es:List (Int×Int)),vEs n p es=true→∀ e ∈ es,okE n e=true
  | _,[],_=>by simp
  | none,e::r,h=>by
    simp only [vEs,Bool.and_eq_true] at h
    intro x hx
    rcases List.mem_cons.1 hx with rfl | hx
    · exact h.1
    · exact vEs_in n _ r h.2 x hx
  | some q,e::r,h=>by
    simp only [vEs,Bool.and_eq_true] at h
    intro x hx
    rcases List.mem_cons.1 hx with rfl | hx
    · exact h.1
    · exact vEs_in n _ r h.2.2 x hx
theorem vG_edges {n:Int} {es:List (Int×Int)} (h:vGraph n es=true):∀ e ∈ es,0≤e.1∧e.1 < e.2∧e.2 < n:=by
  simp only [vGraph,Bool.and_eq_true] at h
  intro e he
  have:=vEs_in n none es h.1 e he
  simpa [okE] using this
theorem vG_n {n:Int} {es:List (Int×Int)} (h:vGraph n es=true):0≤n∧n≤7:=by
  simp only [vGraph,Bool.and_eq_true,decide_eq_true_eq] at h;omega
end Go.Idl
namespace Go.Idl
def S {α:Type} (l:List α) (f:α→Int):Int:=(l.map f).sum
@[simp] theorem S_nil {α:Type} (f:α→Int):S [] f=0:=rfl
@[simp] theorem S_cons {α:Type} (a:α) (l:List α) (f:α→Int):S (a::l) f=f a+S l f:=by simp [S]
theorem S_app {α:Type} (l k:List α) (f:α→Int):S (l++k) f=S l f+S k f:=by simp [S]
theorem S_perm {α:Type} {l k:List α} (h:l.Perm k) (f:α→Int):S l f=S k f:=perm_sum (h.map f)
theorem S_add {α:Type} (l:List α) (f g:α→Int):S l (fun a=>f a+g a)=S l f+S l g:=by
  induction l with
  | nil=>rfl
  | cons a l ih=>simp only [S_cons,ih];omega
theorem S_zero {α:Type} (l:List α):S l (fun _=>0)=0:=by
  induction l with
  | nil=>rfl
  | cons a l ih=>simp [ih]
theorem S_const {α:Type} (l:List α) (c:Int):S l (fun _=>c)=l.length * c:=by
  induction l with
  | nil=>simp
  | cons a l ih=>rw [S_cons,ih,List.length_cons,Int.natCast_add,Int.add_mul];simp;omega
theorem S_congr {α:Type} {l:List α} {f g:α→Int} (h:∀ a ∈ l,f a=g a):S l f=S l g:=by
  induction l with
  | nil=>rfl
  | cons a l ih=>rw [S_cons,S_cons,h a (by simp),ih fun b hb=>h b (by simp [hb])]
theorem S_le {α:Type} {l:List α} {f g:α→Int} (h:∀ a ∈ l,f a≤g a):S l f≤S l g:=by
  induction l with
  | nil=>simp
  | cons a l ih =>
    have h1:=h a (by simp)
    have h2:=ih fun b hb=>h b (by simp [hb])
    simp only [S_cons];omega
theorem S_swap {α β:Type} (l:List α) (k:List β) (f:α→β→Int):S l (fun a=>S k (f a))=S k (fun b=>S l (fun a=>f a b)):=by
  induction l with
  | nil=>simp [S_zero]
  | cons a l ih=>simp only [S_cons,S_add,ih]
theorem S_nonneg {α:Type} {l:List α} {f:α→Int} (h:∀ a ∈ l,0≤f a):0≤S l f:=by
  have:=S_le (l:=l) (f:=fun _=>0) h
  rwa [S_zero] at this
theorem S_filter {α:Type} (l:List α) (p:α→Bool) (f:α→Int):S (l.filter p) f+S (l.filter fun a=>!p a) f=S l f:=by
  induction l with
  | nil=>rfl
  | cons a l ih =>
    cases hp:p a with
    | true=>simp only [List.filter_cons,hp,if_true,Bool.not_true,Bool.false_eq_true,if_false,S_cons];omega
    | false=>simp only [List.filter_cons,hp,if_true,Bool.not_false,Bool.false_eq_true,if_false,S_cons];omega
theorem S_one {α:Type} [DecidableEq α] {l:List α} (h:l.Nodup) (x:α):S l (fun a=>if x=a then 1 else 0)=if x ∈ l then 1 else 0:=by
  induction l with
  | nil=>simp
  | cons a l ih =>
    have h':=List.nodup_cons.1 h
    rw [S_cons,ih h'.2]
    by_cases hx:x=a
    · subst hx;simp [h'.1]
    · simp [hx]
theorem below_iff (a b:Int×Int):below a b=true ↔ a.1 < b.1 ∨ (a.1=b.1∧a.2 < b.2):=by simp [below]
theorem below_trans {a b c:Int×Int} (h:below a b=true) (k:below b c=true):below a c=true:=by
  rw [below_iff] at *;omega
theorem below_ne {a b:Int×Int} (h:below a b=true):a ≠ b:=by
  rintro rfl;rw [below_iff] at h;omega
abbrev PW (es:List (Int×Int)):Prop:=es.Pairwise fun a b=>below a b=true
theorem vEs_pw (n:Int):∀ (p:Option (Int×Int)) (es:List (Int×Int)),vEs n p es=true→PW es∧(∀ q,p=some q→∀ e ∈ es,below q e=true)
  | p,[],_=>⟨.nil,by simp⟩
  | none,e::r,h=>by
    simp only [vEs,Bool.and_eq_true] at h
    obtain ⟨h1,h2⟩:=vEs_pw n (some e) r h.2
    exact ⟨List.pairwise_cons.2 ⟨h2 e rfl,h1⟩,by simp⟩
  | some q,e::r,h=>by
    simp only [vEs,Bool.and_eq_true] at h
    obtain ⟨h1,h2⟩:=vEs_pw n (some e) r h.2.2
    refine ⟨List.pairwise_cons.2 ⟨h2 e rfl,h1⟩,fun q' hq' x hx=>?_⟩
    cases hq'
    rcases List.mem_cons.1 hx with rfl | hx
    · exact h.2.1
    · exact below_trans h.2.1 (h2 e rfl x hx)
theorem pw_vEs (n:Int):∀ (p:Option (Int×Int)) (es:List (Int×Int)),PW es→(∀ q,p=some q→∀ e ∈ es,below q e=true)→(∀ e ∈ es,okE n e=true)→vEs n p es=true
  | p,[],_,_,_=>by cases p <;> rfl
  | none,e::r,h,_,ho=>by
    have h':=List.pairwise_cons.1 h
    simp only [vEs,Bool.and_eq_true]
    exact ⟨ho e (by simp),pw_vEs n (some e) r h'.2 (fun q hq x hx=>by cases hq;exact h'.1 x hx) fun x hx=>ho x (by simp [hx])⟩
  | some q,e::r,h,hq,ho=>by
    have h':=List.pairwise_cons.1 h
    simp only [vEs,Bool.and_eq_true]
    exact ⟨ho e (by simp),hq q rfl e (by simp),pw_vEs n (some e) r h'.2 (fun q hq x hx=>by cases hq;exact h'.1 x hx) fun x hx=>ho x (by simp [hx])⟩
theorem row_mem_iff (a:Nat):∀ (m b:Nat) (e:Int×Int),e ∈ row a b m ↔ e.1=a∧(b:Int)≤e.2∧e.2 < b+m
  | 0,b,e=>by simp [row] <;> omega
  | m+1,b,e=>by
    rw [row,List.mem_cons,row_mem_iff a m (b+1) e]
    constructor
    · rintro (rfl | h)
      · simp;omega
      · omega
    · intro h
      by_cases h2:e.2=b
      · exact .inl (Prod.ext h.1 h2)
      · exact .inr (by omega)
theorem prsF_mem_iff:∀ (m a:Nat) (e:Int×Int),e ∈ prsF a m ↔ (a:Int)≤e.1∧e.1 < e.2∧e.2 < a+m
  | 0,a,e=>by simp [prsF];omega
  | m+1,a,e=>by
    rw [prsF,List.mem_append,row_mem_iff,prsF_mem_iff m (a+1) e]
    omega
theorem mem_prs {n:Nat} {e:Int×Int}:e ∈ prs n ↔ 0≤e.1∧e.1 < e.2∧e.2 < n:=by
  rw [prs,prsF_mem_iff];omega
theorem row_pw (a:Nat):∀ (m b:Nat),PW (row a b m)
  | 0,b=>.nil
  | m+1,b=>by
    rw [row]
    refine List.pairwise_cons.2 ⟨fun e he=>?_,row_pw a m (b+1)⟩
    rw [row_mem_iff] at he
    rw [below_iff];simp only;omega
theorem prsF_pw:∀ (m a:Nat),PW (prsF a m)
  | 0,a=>.nil
  | m+1,a=>by
    rw [prsF]
    refine List.pairwise_append.2 ⟨row_pw a m (a+1),prsF_pw m (a+1),fun x hx y hy=>?_⟩
    rw [row_mem_iff] at hx
    rw [prsF_mem_iff] at hy
    rw [below_iff];omega
theorem prs_pw (n:Nat):PW (prs n):=prsF_pw n 0
theorem pw_nodup {es:List (Int×Int)} (h:PW es):es.Nodup:=h.imp fun h=>below_ne h
theorem pw_ext {xs ys:List (Int×Int)} (hx:PW xs) (hy:PW ys) (h:∀ e,e ∈ xs ↔ e ∈ ys):xs=ys:=by
  refine List.Perm.eq_of_pairwise (le:=fun a b=>below a b=true) (fun a b _ _ h1 h2=>absurd (below_trans h1 h2) (fun h=>below_ne h rfl)) hx hy ?_
  exact (List.perm_ext_iff_of_nodup (pw_nodup hx) (pw_nodup hy)).2 h
theorem vG_iff {n:Nat} {es:List (Int×Int)}:vGraph n es=true ↔ PW es∧(∀ e ∈ es,e ∈ prs n)∧n≤7:=by
  constructor
  · intro h
    have h1:=vG_n h
    have h2:=vG_edges h
    simp only [vGraph,Bool.and_eq_true] at h
    exact ⟨(vEs_pw n none es h.1).1,fun e he=>mem_prs.2 (h2 e he),by omega⟩
  · rintro ⟨h1,h2,h3⟩
    simp only [vGraph,Bool.and_eq_true,decide_eq_true_eq]
    refine ⟨pw_vEs n none es h1 (by simp) fun e he=>?_,by omega,by omega⟩
    have:=mem_prs.1 (h2 e he)
    simp only [okE,Bool.and_eq_true,decide_eq_true_eq];omega
theorem vG_filter {n:Nat} {es:List (Int×Int)} (h:vGraph n es=true):es=(prs n).filter fun e=>decide (e ∈ es):=by
  obtain ⟨h1,h2,h3⟩:=vG_iff.1 h
  refine pw_ext h1 ((prs_pw n).filter _) fun e=>?_
  rw [List.mem_filter,decide_eq_true_eq]
  exact ⟨fun he=>⟨h2 e he,he⟩,fun he=>he.2⟩
theorem vG_sub {n:Nat} {es:List (Int×Int)} (h:vGraph n es=true):es.Sublist (prs n):=by
  rw [vG_filter h];exact List.filter_sublist
def inc (v:Nat) (e:Int×Int):Int:=(if e.1=v then 1 else 0)+(if e.2=v then 1 else 0)
def deg (es:List (Int×Int)) (v:Nat):Int:=S es (inc v)
theorem bump_get {o:List Int} {i v:Nat} (hv:v < o.length):(bump o i).getD v 0=o.getD v 0+(if i=v then 1 else 0):=by
  rw [bump,List.getD_eq_getElem?_getD,List.getElem?_set]
  by_cases h:i=v
  · subst h;simp [hv,List.getD_eq_getElem?_getD]
  · simp [h,List.getD_eq_getElem?_getD]
theorem dfold_get {n:Nat}:∀ (es:List (Int×Int)) (o:List Int),(∀ e ∈ es,0≤e.1∧0≤e.2)→∀ v,v < o.length→(dfold o es).getD v 0=o.getD v 0+deg es v
  | [],o,_,v,_=>by simp [dfold,deg]
  | e::es,o,h,v,hv=>by
    have h1:=h e (by simp)
    have:=dfold_get (n:=n) es (bump (bump o e.1.toNat) e.2.toNat) (fun x hx=>h x (by simp [hx])) v (by simp [bump_len];exact hv)
    rw [show dfold o (e::es)=dfold (bump (bump o e.1.toNat) e.2.toNat) es from rfl,this,bump_get (by rw [bump_len];exact hv),bump_get hv,deg,deg,S_cons]
    have c1:(e.1.toNat=v)=(e.1=(v:Int)):=by rw [eq_iff_iff];omega
    have c2:(e.2.toNat=v)=(e.2=(v:Int)):=by rw [eq_iff_iff];omega
    simp only [inc,c1,c2]
    omega
theorem degs_eq {n:Nat} {es:List (Int×Int)} (h:EdgesIn n es):degs n es=(List.range n).map (deg es):=by
  have hl:(degs n es).length=n:=by rw [degs,dfold_len];simp
  refine List.ext_getElem (by simp [hl]) fun v h1 h2=>?_
  have:=dfold_get (n:=n) es (List.replicate n 0) (fun e he=>by have:=h e he;omega) v (by simp;omega)
  rw [← degs,List.getD_eq_getElem?_getD,List.getElem?_eq_getElem h1] at this
  simp only [Option.getD_some] at this
  rw [this]
  simp [List.getD_eq_getElem?_getD]
  rw [List.getElem?_eq_getElem (by simp;omega)];simp
theorem S_inc {n:Nat} {e:Int×Int} (h:e ∈ prs n) {l:List Nat} (hl:l.Perm (List.range n)):S l (fun v=>inc v e)=2:=by
  have h0:=mem_prs.1 h
  have key:∀ x:Int,0≤x→x < n→S l (fun v=>if x=(v:Int) then 1 else 0)=1:=by
    intro x hx hxn
    obtain ⟨k,rfl⟩:=Int.eq_ofNat_of_zero_le hx
    have:∀ v ∈ l,(if (k:Int)=(v:Int) then (1:Int) else 0)=if k=v then 1 else 0:=fun v _=>by simp only [Int.ofNat_inj]
    rw [S_congr this,S_one (hl.nodup_iff.2 List.nodup_range),if_pos (hl.mem_iff.2 (List.mem_range.2 (by omega)))]
  simp only [inc]
  rw [S_add,key _ (by omega) (by omega),key _ (by omega) (by omega)]
  rfl
theorem degs_sum {n:Nat} {es:List (Int×Int)} (h:∀ e ∈ es,e ∈ prs n):(degs n es).sum=2 * es.length:=by
  rw [degs_eq fun e he=>by have:=mem_prs.1 (h e he);omega]
  show S (List.range n) (fun v=>S es (fun e=>inc v e))=_
  rw [S_swap,S_congr (g:=fun _=>2) fun e he=>S_inc (h e he) (.refl _),S_const]
  omega
end Go.Idl
namespace Go.Idl
open Go
def SrtOn (X:List (Int×Int)) (a b:Nat):Prop:=∀ k l e f,a≤k→k < l→l < b→X[k]? = some e→X[l]? = some f→below e f=true
def CutOn (X:List (Int×Int)) (a mid b:Nat):Prop:=∀ k l e f,a≤k→k < mid→mid≤l→l < b→X[k]? = some e→X[l]? = some f→below e f=true
theorem srt_join {X Y:List (Int×Int)} {a mid b:Nat} (hn:X.Nodup) (h1:SrtOn X a mid) (hc:CutOn X a mid b) (hs:Seg X Y mid b) (h2:SrtOn Y mid b):SrtOn Y a b:=by
  intro k l e f hk hkl hl he hf
  by_cases h:mid≤k
  · exact h2 k l e f h hkl hl he hf
  · have he':X[k]? = some e:=by rw [← hs.out k (by omega)];exact he
    by_cases h':mid≤l
    · obtain ⟨l',hl',hf'⟩:=hs.back hn ⟨h',hl⟩ hf
      exact hc k l' e f hk (by omega) (by omega) (by omega) he' hf'
    · have hf':X[l]? = some f:=by rw [← hs.out l (by omega)];exact hf
      exact h1 k l e f hk hkl (by omega) he' hf'
theorem srt_join' {X Y:List (Int×Int)} {a mid b:Nat} (hn:X.Nodup) (h1:SrtOn X mid b) (hc:CutOn X a mid b) (hs:Seg X Y a mid) (h2:SrtOn Y a mid):SrtOn Y a b:=by
  intro k l e f hk hkl hl he hf
  by_cases h:l < mid
  · exact h2 k l e f hk hkl h he hf
  · have hf':X[l]? = some f:=by rw [← hs.out l (by omega)];exact hf
    by_cases h':k < mid
    · obtain ⟨k',hk',he'⟩:=hs.back hn ⟨hk,h'⟩ he
      exact hc k' l e f (by omega) (by omega) (by omega) hl he' hf'
    · have he':X[k]? = some e:=by rw [← hs.out k (by omega)];exact he
      exact h1 k l e f (by omega) hkl hl he' hf'
theorem below_ht (a b c:Int×Int) (h1:below b a=false) (h2:below c b=false):below c a=false:=by
  rw [← Bool.not_eq_true] at *
  simp only [below,Bool.or_eq_true,Bool.and_eq_true,decide_eq_true_eq] at *
  omega
theorem ins_part (X:List (Int×Int)) (hX:∀ x ∈ X,DE x) (hn:X.Nodup) (hl:X.length≤700000) (a n:Nat) (hab:a+n≤X.length) (M:List Boxes) :
    ∃ X':List (Int×Int),Seg X X' a (a+n)∧SrtOn X' a (a+n)∧Ev tb zl277 [0] [O2 X,I a,I ((a:Int)+n),fcE] M ⟨.tup [],[O2 X'],M,[]⟩:=by
  have hc:CmpOK vE zl32 [] below DE M:=fun x y hx hy=>⟨cmpE x y,cmpE_below x y,ev_cmpE hx hy _⟩
  obtain ⟨P,hP⟩:∃ P,P=X.take a:=⟨_,rfl⟩
  obtain ⟨S,hS⟩:∃ S,S=(X.drop a).take n:=⟨_,rfl⟩
  obtain ⟨Q,hQ⟩:∃ Q,Q=X.drop (a+n):=⟨_,rfl⟩
  have hXe:X=P++(S++Q):=by
    rw [hP,hS,hQ,← List.drop_drop,List.take_append_drop,List.take_append_drop]
  have hPl:P.length=a:=by rw [hP,List.length_take];omega
  have hSl:S.length=n:=by rw [hS,List.length_take,List.length_drop];omega
  have hsrt:=srtC_ok (lt:=below) below_ht (fun a b h=>below_asymm h) S [] .nil
  have hsp:=hsrt.2
  rw [List.nil_append] at hsp
  have hTl:(srtC below [] S).length=n:=by rw [hsp.length_eq,hSl]
  have hp:(P++(srtC below [] S++Q)).Perm X:=by
    rw [hXe];exact List.Perm.append_left P (hsp.append_right Q)
  refine ⟨P++(srtC below [] S++Q),⟨hp,fun k hk=>?_⟩,?_,?_⟩
  · rw [hXe]
    rcases hk with hk | hk
    · rw [List.getElem?_append_left (by omega),List.getElem?_append_left (by omega)]
    · rw [List.getElem?_append_right (by omega),List.getElem?_append_right (by omega),List.getElem?_append_right (by omega),List.getElem?_append_right (by omega),hTl,hSl]
  · intro k l e f hk hkl hlb he hf
    have hny:(P++(srtC below [] S++Q)).Nodup:=hp.nodup_iff.2 hn
    have hne:e ≠ f:=by
      rintro rfl
      obtain ⟨h1,h2⟩:=List.getElem?_eq_some_iff.1 he
      obtain ⟨h3,h4⟩:=List.getElem?_eq_some_iff.1 hf
      have:=(List.getElem_inj hny).1 (h2.trans h4.symm)
      omega
    rw [List.getElem?_append_right (by omega),List.getElem?_append_left (by omega)] at he hf
    obtain ⟨h1,h2⟩:=List.getElem?_eq_some_iff.1 he
    obtain ⟨h3,h4⟩:=List.getElem?_eq_some_iff.1 hf
    have:=List.pairwise_iff_getElem.1 hsrt.1 _ _ h1 h3 (by omega)
    rw [h2,h4] at this
    rcases below_total hne with h | h
    · exact h
    · rw [this] at h;cases h
  · have e:=ev_insCe zl32 [] below DE M hc P Q S (by rw [hXe] at hl;simp at hl;omega) (fun x hx=>hX x (by rw [hXe];simp [hx]))
    rw [← hXe,hPl,hSl,show ((a+n:Nat):Int)=(a:Int)+n by omega] at e
    exact e
def PdqRec (n:Nat) (lim:Nat) (M:List Boxes):Prop:=∀ (n' a':Nat) (X:List (Int×Int)),n'+2≤n→(∀ x ∈ X,DE x)→X.Nodup→X.length≤700000→a'+n'≤X.length→(a'=0 ∨ ∀ k e f,a'≤k→k < a'+n'→X[a' - 1]? = some e→X[k]? = some f→below e f=true) →
  ∃ X':List (Int×Int),Seg X X' a' (a'+n')∧SrtOn X' a' (a'+n')∧limF tb zl285 [0] [O2 X,I a',I ((a':Int)+n'),I lim,fcE] M=some ⟨.tup [],[O2 X'],M,[]⟩
abbrev cD:IC:=(.seq z285r20 (.seq z285r21 (.seq z285r22 (.seq z285r23 (.seq z285r24 (.cond (.t 125) (.seq z285r25 (.seq z285r26 z285r27)) (.seq z285r28 (.seq z285r29 z285r30))))))))
set_option maxHeartbeats 2000000 in
theorem pdq_D (X:List (Int×Int)) (hX:∀ x ∈ X,DE x) (hn:X.Nodup) (hl:X.length≤700000) (a n m lim:Nat) (h13:13≤n) (h21:n≤21) (hab:a+n≤X.length) (hm:a≤m∧m < a+n) (M:List Boxes) (hrec:PdqRec n lim (M++[[]]))
    (h0:a=0 ∨ ∀ k e f,a≤k→k < a+n→X[a - 1]? = some e→X[k]? = some f→below e f=true)
    (p1:∃ p,(a≤p∧p < a+n)∧∀ h1 h2,below (X[p]'h1) (X[m]'h2)=true) (p2:∃ p,(a≤p∧p < a+n)∧∀ h1 h2,below (X[m]'h1) (X[p]'h2)=true)
    (bal part:Bool) (Q:Ex→St→Prop)
    (hL:∀ (X3:List (Int×Int)) (mid:Nat) (bal part:Bool),a < mid→mid+1 < a+n→Seg X X3 a (a+n)→SrtOn X3 a (mid+1)→CutOn X3 a (mid+1) (a+n) →
      Q .normal { T:=[(0,O2 X3),(1,I (mid+1:Nat)),(2,I ((a:Int)+n)),(3,I lim),(4,fcE),(10,Bo bal),(11,Bo part)],loc:=[],M:=M })
    (hR:∀ (X3:List (Int×Int)) (mid:Nat) (bal part:Bool),a < mid→mid+1 < a+n→Seg X X3 a (a+n)→SrtOn X3 mid (a+n)→CutOn X3 a mid (a+n) →
      Q .normal { T:=[(0,O2 X3),(1,I a),(2,I mid),(3,I lim),(4,fcE),(10,Bo bal),(11,Bo part)],loc:=[],M:=M }) :
    wp tb cD { T:=[(0,O2 X),(1,I a),(2,I ((a:Int)+n)),(3,I lim),(4,fcE),(10,Bo bal),(11,Bo part),(12,I n),(13,I m),(97,Bo false)],loc:=[],M:=M } Q:=by
  obtain ⟨X2,mid,t,hS,hmid,hpv,hcut,hE⟩:=ev_partition X hX (by omega) a n m (by omega) hab hm (M++[[]])
  have e1:=ev_lim hE
  have hml:m < X.length:=by omega
  rw [List.getElem?_eq_getElem hml] at hpv hcut
  obtain ⟨hlo,hhi⟩:=hcut _ rfl
  have hl2:=hS.len
  have hn2:=hS.nodup hn
  have hX2:∀ x ∈ X2,DE x:=fun x hx=>hX x (hS.perm.mem_iff.1 hx)
  obtain ⟨p,hp,hp1⟩:=p1
  obtain ⟨q,hq,hq1⟩:=p2
  have hpl:p < X.length:=by omega
  have hql:q < X.length:=by omega
  have hp1:=hp1 hpl hml
  have hq1:=hq1 hml hql
  have whereIs:∀ r,(a≤r∧r < a+n)→∀ hr:r < X.length,∃ r',(a≤r'∧r' < a+n)∧X2[r']? = some X[r]:=fun r hr hrl=>by
    have hm2:X[r] ∈ X2:=hS.perm.mem_iff.2 (List.getElem_mem hrl)
    obtain ⟨r',hr',he⟩:=List.getElem_of_mem hm2
    refine ⟨r',?_,by rw [List.getElem?_eq_getElem hr',he]⟩
    refine Classical.byContradiction fun hno=>?_
    have h1:=hS.out r' (by omega)
    rw [List.getElem?_eq_getElem hr',he] at h1
    obtain ⟨h2,h3⟩:=List.getElem?_eq_some_iff.1 h1.symm
    have:=(List.getElem_inj hn).1 h3
    omega
  obtain ⟨p',hp',hpe⟩:=whereIs p hp hpl
  obtain ⟨q',hq',hqe⟩:=whereIs q hq hql
  have hamid:a < mid:=by
    refine Classical.byContradiction fun hno=>?_
    have hma:mid=a:=by omega
    by_cases hpm:p'=mid
    · rw [hpm,hpv] at hpe
      exact below_ne hp1 (Option.some.inj hpe).symm
    · have:=hhi p' _ (by omega) hp'.2 hpe
      rw [hp1] at this;cases this
  have hmidb:mid+1 < a+n:=by
    refine Classical.byContradiction fun hno=>?_
    have hma:mid+1=a+n:=by omega
    by_cases hpm:q'=mid
    · rw [hpm,hpv] at hqe
      exact below_ne hq1 (Option.some.inj hqe)
    · have:=hlo q' _ hq'.1 (by omega) hqe
      rw [below_asymm hq1] at this;cases this
  have hhi':∀ k e,mid < k→k < a+n→X2[k]? = some e→below X[m] e=true:=fun k e k1 k2 he=>by
    have h1:=hhi k e (by omega) k2 he
    have hne:X[m] ≠ e:=by
      rintro rfl
      obtain ⟨h2,h3⟩:=List.getElem?_eq_some_iff.1 he
      obtain ⟨h4,h5⟩:=List.getElem?_eq_some_iff.1 hpv
      have:=(List.getElem_inj hn2).1 (h3.trans h5.symm)
      omega
    rcases below_total hne with h | h
    · exact h
    · rw [h1] at h;cases h
  have hcutm:CutOn X2 a mid (a+n):=fun k l e f k1 k2 k3 k4 he hf=>by
    have h1:=hlo k e k1 k2 he
    by_cases hlm:l=mid
    · rw [hlm,hpv] at hf;cases hf;exact h1
    · exact below_trans h1 (hhi' l f (by omega) k4 hf)
  have hcutm':CutOn X2 a (mid+1) (a+n):=fun k l e f k1 k2 k3 k4 he hf=>by
    by_cases hkm:k=mid
    · rw [hkm,hpv] at he;cases he;exact hhi' l f (by omega) k4 hf
    · exact hcutm k l e f k1 (by omega) (by omega) k4 he hf
  obtain ⟨n1,hn1⟩:∃ n1,mid=a+n1:=⟨mid - a,by omega⟩
  obtain ⟨n2,hn2'⟩:∃ n2,n=n1+1+n2:=⟨n - (n1+1),by omega⟩
  have w1:IntKind.i64.wrap ((mid:Int) - a)=(n1:Int):=by rw [wrap64 (by omega) (by omega)];omega
  have w2:IntKind.i64.wrap ((a:Int)+n - mid)=((n2+1:Nat):Int):=by rw [wrap64 (by omega) (by omega)];omega
  have t1:(n:Int).tdiv 8=((n / 8:Nat):Int):=by rw [Int.tdiv_eq_ediv_of_nonneg (by omega)];rfl
  obtain ⟨th,hth⟩:∃ th,th=n / 8:=⟨_,rfl⟩
  rw [← hth] at t1
  have w3:IntKind.i64.wrap (th:Int)=(th:Int):=wrap64 (by omega) (by omega)
  have w4:IntKind.i64.wrap ((mid:Int)+1)=(mid:Int)+1:=wrap64 (by omega) (by omega)
  by_cases hc:(n1:Int) < ((n2+1:Nat):Int)
  · obtain ⟨X3,hS3,hsr,e2⟩:=hrec n1 a X2 (by omega) hX2 hn2 (by omega) (by omega) (by
      rcases h0 with h0 | h0
      · exact .inl h0
      · by_cases ha:a=0
        · exact .inl ha
        · refine .inr fun k e f k1 k2 he hf=>?_
          rw [hS.out (a - 1) (by omega)] at he
          obtain ⟨k',hk',hf'⟩:=hS.back hn ⟨k1,by omega⟩ hf
          exact h0 k' e f hk'.1 hk'.2 he hf')
    rw [show (a:Int)+n1=(mid:Int) by omega] at e2
    have hfin:=hL X3 mid (decide (th≤n1)) t hamid hmidb (hS.trans (hS3.mono (Nat.le_refl _) (by omega))) (srt_join' hn2 (fun k l e f k1 k2 k3=>by omega) (fun k l e f k1 k2 k3 k4=>hcutm k l e f k1 (by omega) k3 (by omega)) (by rw [← hn1] at hS3;exact hS3) (by rw [← hn1] at hsr;exact hsr)) (fun k l e f k1 k2 k3 k4 he hf=>by
      have hf':X2[l]? = some f:=by rw [← hS3.out l (by omega)];exact hf
      by_cases hkm:k=mid
      · have he':X2[k]? = some e:=by rw [← hS3.out k (by omega)];exact he
        exact hcutm' k l e f k1 k2 k3 k4 he' hf'
      · obtain ⟨k',hk',he'⟩:=hS3.back hn2 ⟨k1,by omega⟩ he
        exact hcutm' k' l e f hk'.1 (by omega) k3 k4 he' hf')
    rw [show ((mid+1:Nat):Int)=(mid:Int)+1 by omega] at hfin
    rw [show ((n2+1:Nat):Int)=(n2:Int)+1 by omega] at hc w2
    repeat (first|apply wp_as|apply wp_ss|refine wr (by simp [e1,e2,w1,w2,w3,w4,t1,hc];with_reducible rfl) ?_|refine wq (by simp [e1,e2,w1,w2,w3,w4,t1,hc];with_reducible rfl) ?_|refine wt (by simpa [e1,e2,w1,w2,w3,w4,t1,hc]) ?_|refine wf (by simpa [e1,e2,w1,w2,w3,w4,t1,hc]) ?_|refine xt (by simpa [e1,e2,w1,w2,w3,w4,t1,hc]) ?_|refine xf (by simpa [e1,e2,w1,w2,w3,w4,t1,hc]) ?_|apply wp_bs|apply wp_b|refine wp_sr ?_|refine wp_sx ?_|refine wp_ret' ?_|refine wp_skip' ?_|refine wp_exit' ?_)
    exact hfin
  · obtain ⟨X3,hS3,hsr,e2⟩:=hrec n2 (mid+1) X2 (by omega) hX2 hn2 (by omega) (by omega) (.inr fun k e f k1 k2 he hf=>by
      rw [Nat.add_sub_cancel,hpv] at he
      cases he
      exact hhi' k f (by omega) (by omega) hf)
    rw [show ((mid+1:Nat):Int)+n2=(a:Int)+n by omega,show ((mid+1:Nat):Int)=(mid:Int)+1 by omega] at e2
    have hS3':Seg X2 X3 (mid+1) (a+n):=by rw [show mid+1+n2=a+n by omega] at hS3;exact hS3
    have hsr':SrtOn X3 (mid+1) (a+n):=by rw [show mid+1+n2=a+n by omega] at hsr;exact hsr
    have hfin:=hR X3 mid (decide ((th:Int)≤(n2:Int)+1)) t hamid hmidb (hS.trans (hS3'.mono (by omega) (Nat.le_refl _))) (srt_join hn2 (mid:=mid+1) (fun k l e f k1 k2 k3=>by omega) (fun k l e f k1 k2 k3 k4=>hcutm' k l e f (by omega) k2 k3 k4) hS3' hsr') (fun k l e f k1 k2 k3 k4 he hf=>by
      have he':X2[k]? = some e:=by rw [← hS3'.out k (by omega)];exact he
      by_cases hlm:l=mid
      · have hf':X2[l]? = some f:=by rw [← hS3'.out l (by omega)];exact hf
        exact hcutm k l e f k1 k2 k3 k4 he' hf'
      · obtain ⟨l',hl',hf'⟩:=hS3'.back hn2 ⟨by omega,k4⟩ hf
        exact hcutm k l' e f k1 k2 (by omega) hl'.2 he' hf')
    rw [show ((n2+1:Nat):Int)=(n2:Int)+1 by omega] at hc w2
    repeat (first|apply wp_as|apply wp_ss|refine wr (by simp [e1,e2,w1,w2,w3,w4,t1,hc];with_reducible rfl) ?_|refine wq (by simp [e1,e2,w1,w2,w3,w4,t1,hc];with_reducible rfl) ?_|refine wt (by simpa [e1,e2,w1,w2,w3,w4,t1,hc]) ?_|refine wf (by simpa [e1,e2,w1,w2,w3,w4,t1,hc]) ?_|refine xt (by simpa [e1,e2,w1,w2,w3,w4,t1,hc]) ?_|refine xf (by simpa [e1,e2,w1,w2,w3,w4,t1,hc]) ?_|apply wp_bs|apply wp_b|refine wp_sr ?_|refine wp_sx ?_|refine wp_ret' ?_|refine wp_skip' ?_|refine wp_exit' ?_)
    exact hfin
end Go.Idl
namespace Go.Idl
open Go
abbrev cB':IC:=(.seq (.seq z285r11 (.cond (.t 56) (.seq z285r12 (.seq z285r13 z285r14)) .skip)) (.seq (.seq z285r15 (.cond (.t 75) (.seq z285r16 (.cond (.t 80) .ret .skip)) .skip)) (.seq (.seq z285r17 (.cond (.t 97) (.seq z285r18 (.seq z285r19 (.exit 1))) .skip)) cD)))
abbrev cB:IC:=.seq z285r10 cB'
theorem srt_adj {X:List (Int×Int)} {a b:Nat} (hn:X.Nodup) (h:∀ k,a < k→k < b→∀ h1 h2,below (X[k]'h1) (X[k - 1]'h2)=false):SrtOn X a b:=by
  have key:∀ (d k:Nat) (e f:Int×Int),a≤k→k+d+1 < b→X[k]? = some e→X[k+d+1]? = some f→below e f=true:=by
    intro d
    induction d with
    | zero =>
      intro k e f hk hb he hf
      obtain ⟨h1,h2⟩:=List.getElem?_eq_some_iff.1 he
      obtain ⟨h3,h4⟩:=List.getElem?_eq_some_iff.1 hf
      have h5:=h (k+0+1) (by omega) hb h3 (by simpa using h1)
      simp only [Nat.add_zero,Nat.add_sub_cancel] at h5 h4
      rw [h4,h2] at h5
      have hne:e ≠ f:=by
        rintro rfl
        have:=(List.getElem_inj hn).1 (h2.trans h4.symm)
        omega
      rcases below_total hne with q | q
      · exact q
      · rw [h5] at q;cases q
    | succ d ih =>
      intro k e f hk hb he hf
      have h3:=(List.getElem?_eq_some_iff.1 hf).1
      have hg:k+d+1 < X.length:=by omega
      have q1:=ih k e X[k+d+1] hk (by omega) he (List.getElem?_eq_getElem hg)
      obtain ⟨h3,h4⟩:=List.getElem?_eq_some_iff.1 hf
      have h5:=h (k+(d+1)+1) (by omega) hb h3 (by omega)
      have hi:k+(d+1)+1 - 1=k+d+1:=by omega
      simp only [hi] at h5
      rw [h4] at h5
      have hne:X[k+d+1] ≠ f:=by
        intro he2
        have:=(List.getElem_inj hn).1 (he2.trans h4.symm)
        omega
      rcases below_total hne with q | q
      · exact below_trans q1 q
      · rw [h5] at q;cases q
  intro k l e f hk hkl hl he hf
  obtain ⟨d,rfl⟩:∃ d,l=k+d+1:=⟨l - k - 1,by omega⟩
  exact key d k e f hk hl he hf
set_option maxHeartbeats 8000000 in
theorem pdq_B' (X:List (Int×Int)) (hX:∀ x ∈ X,DE x) (hn:X.Nodup) (hl:X.length≤700000) (a n lim:Nat) (h13:13≤n) (h21:n≤21) (hab:a+n≤X.length) (M:List Boxes) (hrec:PdqRec n lim (M++[[]]))
    (h0:a=0 ∨ ∀ k e f,a≤k→k < a+n→X[a - 1]? = some e→X[k]? = some f→below e f=true)
    (bal part:Bool) (Q:Ex→St→Prop) (m:Nat) (hint:Int) (hm:a≤m∧m < a+n) (hh:hint=0 ∨ hint=1)
    (p1:∃ p,(a≤p∧p < a+n)∧∀ h1 h2,below (X[p]'h1) (X[m]'h2)=true) (p2:∃ p,(a≤p∧p < a+n)∧∀ h1 h2,below (X[m]'h1) (X[p]'h2)=true)
    (hS:∀ m:Nat,SrtOn X a (a+n)→Q .ret { T:=[(0,O2 X),(1,I a),(2,I ((a:Int)+n)),(3,I lim),(4,fcE),(10,Bo bal),(11,Bo part),(12,I n),(13,I m),(80,Bo true)],loc:=[],M:=M })
    (hL:∀ (X3:List (Int×Int)) (mid:Nat) (bal part:Bool),a < mid→mid+1 < a+n→Seg X X3 a (a+n)→SrtOn X3 a (mid+1)→CutOn X3 a (mid+1) (a+n) →
      Q .normal { T:=[(0,O2 X3),(1,I (mid+1:Nat)),(2,I ((a:Int)+n)),(3,I lim),(4,fcE),(10,Bo bal),(11,Bo part)],loc:=[],M:=M })
    (hR:∀ (X3:List (Int×Int)) (mid:Nat) (bal part:Bool),a < mid→mid+1 < a+n→Seg X X3 a (a+n)→SrtOn X3 mid (a+n)→CutOn X3 a mid (a+n) →
      Q .normal { T:=[(0,O2 X3),(1,I a),(2,I mid),(3,I lim),(4,fcE),(10,Bo bal),(11,Bo part)],loc:=[],M:=M }) :
    wp tb cB' { T:=[(0,O2 X),(1,I a),(2,I ((a:Int)+n)),(3,I lim),(4,fcE),(10,Bo bal),(11,Bo part),(12,I n),(13,I m),(14,I hint)],loc:=[],M:=M } Q:=by
  obtain ⟨t,ht,hE2⟩:=ev_partialIns X hX (by omega) a n (by omega) (by omega) hab (M++[[]])
  have e2:=ev_lim hE2
  have hml:m < X.length:=by omega
  have hD:=pdq_D X hX hn hl a n m lim h13 h21 hab hm M hrec h0 p1 p2 bal part Q hL hR
  have key:∀ (hq:a=0 ∨ ∃ a0,∃ h:a0 < X.length,a=a0+1∧cmpE X[a0] X[m] < 0),True:=fun _=>trivial
  have hq:a=0 ∨ ∃ a0,∃ h:a0 < X.length,a=a0+1∧cmpE X[a0] X[m] < 0:=by
    rcases h0 with h0 | h0
    · exact .inl h0
    · by_cases ha:a=0
      · exact .inl ha
      · refine .inr ⟨a - 1,by omega,by omega,?_⟩
        have:=h0 m X[a - 1] X[m] hm.1 hm.2 (List.getElem?_eq_getElem (by omega)) (List.getElem?_eq_getElem hml)
        rw [← cmpE_below] at this
        exact of_decide_eq_true this
  clear key
  have hto:X.take X.length=X:=List.take_of_length_le (Nat.le_refl _)
  rcases hq with ha | ⟨a0,ha0,ha,hcm⟩
  · have g1:¬ (0:Int) < (a:Int):=by omega
    have g1':¬ 0 < a:=by omega
    clear ha
    rcases hh with rfl | rfl
    · cases bal <;> cases part
      all_goals
        repeat (first|apply wp_as|apply wp_ss|refine wr (by simp [hml,g1,g1'];with_reducible rfl) ?_|refine wq (by simp [hml,g1,g1'];with_reducible rfl) ?_|refine wt (by simpa [hml,g1,g1']) ?_|refine wf (by simpa [hml,g1,g1']) ?_|refine xt (by simpa [hml,g1,g1']) ?_|refine xf (by simpa [hml,g1,g1']) ?_|apply wp_bs|apply wp_b|refine wp_sr ?_|refine wp_sx ?_|refine wp_ret' ?_|refine wp_skip' ?_|refine wp_exit' ?_)
        exact hD
    · cases bal <;> cases part
      rotate_right 1
      · cases t with
        | true =>
          have hs:=hS m (srt_adj hn (ht rfl))
          repeat (first|apply wp_as|apply wp_ss|refine wr (by simp [e2,hml,g1,g1'];with_reducible rfl) ?_|refine wq (by simp [e2,hml,g1,g1'];with_reducible rfl) ?_|refine wt (by simpa [e2,hml,g1,g1']) ?_|refine wf (by simpa [e2,hml,g1,g1']) ?_|refine xt (by simpa [e2,hml,g1,g1']) ?_|refine xf (by simpa [e2,hml,g1,g1']) ?_|apply wp_bs|apply wp_b|refine wp_sr ?_|refine wp_sx ?_|refine wp_ret' ?_|refine wp_skip' ?_|refine wp_exit' ?_)
          exact hs
        | false =>
          repeat (first|apply wp_as|apply wp_ss|refine wr (by simp [e2,hml,g1,g1'];with_reducible rfl) ?_|refine wq (by simp [e2,hml,g1,g1'];with_reducible rfl) ?_|refine wt (by simpa [e2,hml,g1,g1']) ?_|refine wf (by simpa [e2,hml,g1,g1']) ?_|refine xt (by simpa [e2,hml,g1,g1']) ?_|refine xf (by simpa [e2,hml,g1,g1']) ?_|apply wp_bs|apply wp_b|refine wp_sr ?_|refine wp_sx ?_|refine wp_ret' ?_|refine wp_skip' ?_|refine wp_exit' ?_)
          exact hD
      all_goals
        repeat (first|apply wp_as|apply wp_ss|refine wr (by simp [hml,g1,g1'];with_reducible rfl) ?_|refine wq (by simp [hml,g1,g1'];with_reducible rfl) ?_|refine wt (by simpa [hml,g1,g1']) ?_|refine wf (by simpa [hml,g1,g1']) ?_|refine xt (by simpa [hml,g1,g1']) ?_|refine xf (by simpa [hml,g1,g1']) ?_|apply wp_bs|apply wp_b|refine wp_sr ?_|refine wp_sx ?_|refine wp_ret' ?_|refine wp_skip' ?_|refine wp_exit' ?_)
        exact hD
  · have e3:=fun M=>ev_lim (ev_cmpE (hX _ (List.getElem_mem ha0)) (hX _ (List.getElem_mem hml)) M)
    have w1:IntKind.i64.wrap ((a:Int) - 1)=(a0:Int):=by rw [wrap64 (by omega) (by omega)];omega
    have g1:(0:Int) < (a:Int):=by omega
    have g1':0 < a:=by omega
    rcases hh with rfl | rfl
    · cases bal <;> cases part
      all_goals
        repeat (first|apply wp_as|apply wp_ss|refine wr (by simp [e3,hml,ha0,w1,g1,g1',hcm];with_reducible rfl) ?_|refine wq (by simp [e3,hml,ha0,w1,g1,g1',hcm];with_reducible rfl) ?_|refine wt (by simpa [e3,hml,ha0,w1,g1,g1',hcm]) ?_|refine wf (by simpa [e3,hml,ha0,w1,g1,g1',hcm]) ?_|refine xt (by simpa [e3,hml,ha0,w1,g1,g1',hcm]) ?_|refine xf (by simpa [e3,hml,ha0,w1,g1,g1',hcm]) ?_|apply wp_bs|apply wp_b|refine wp_sr ?_|refine wp_sx ?_|refine wp_ret' ?_|refine wp_skip' ?_|refine wp_exit' ?_)
        exact hD
    · cases bal <;> cases part
      rotate_right 1
      · cases t with
        | true =>
          have hs:=hS m (srt_adj hn (ht rfl))
          repeat (first|apply wp_as|apply wp_ss|refine wr (by simp [e2,e3,hml,ha0,w1,g1,g1',hcm];with_reducible rfl) ?_|refine wq (by simp [e2,e3,hml,ha0,w1,g1,g1',hcm];with_reducible rfl) ?_|refine wt (by simpa [e2,e3,hml,ha0,w1,g1,g1',hcm]) ?_|refine wf (by simpa [e2,e3,hml,ha0,w1,g1,g1',hcm]) ?_|refine xt (by simpa [e2,e3,hml,ha0,w1,g1,g1',hcm]) ?_|refine xf (by simpa [e2,e3,hml,ha0,w1,g1,g1',hcm]) ?_|apply wp_bs|apply wp_b|refine wp_sr ?_|refine wp_sx ?_|refine wp_ret' ?_|refine wp_skip' ?_|refine wp_exit' ?_)
          exact hs
        | false =>
          repeat (first|apply wp_as|apply wp_ss|refine wr (by simp [e2,e3,hml,ha0,w1,g1,g1',hcm];with_reducible rfl) ?_|refine wq (by simp [e2,e3,hml,ha0,w1,g1,g1',hcm];with_reducible rfl) ?_|refine wt (by simpa [e2,e3,hml,ha0,w1,g1,g1',hcm]) ?_|refine wf (by simpa [e2,e3,hml,ha0,w1,g1,g1',hcm]) ?_|refine xt (by simpa [e2,e3,hml,ha0,w1,g1,g1',hcm]) ?_|refine xf (by simpa [e2,e3,hml,ha0,w1,g1,g1',hcm]) ?_|apply wp_bs|apply wp_b|refine wp_sr ?_|refine wp_sx ?_|refine wp_ret' ?_|refine wp_skip' ?_|refine wp_exit' ?_)
          exact hD
      all_goals
        repeat (first|apply wp_as|apply wp_ss|refine wr (by simp [e3,hml,ha0,w1,g1,g1',hcm];with_reducible rfl) ?_|refine wq (by simp [e3,hml,ha0,w1,g1,g1',hcm];with_reducible rfl) ?_|refine wt (by simpa [e3,hml,ha0,w1,g1,g1',hcm]) ?_|refine wf (by simpa [e3,hml,ha0,w1,g1,g1',hcm]) ?_|refine xt (by simpa [e3,hml,ha0,w1,g1,g1',hcm]) ?_|refine xf (by simpa [e3,hml,ha0,w1,g1,g1',hcm]) ?_|apply wp_bs|apply wp_b|refine wp_sr ?_|refine wp_sx ?_|refine wp_ret' ?_|refine wp_skip' ?_|refine wp_exit' ?_)
        exact hD
set_option maxHeartbeats 2000000 in
theorem pdq_B (X:List (Int×Int)) (hX:∀ x ∈ X,DE x) (hn:X.Nodup) (hl:X.length≤700000) (a n lim:Nat) (h13:13≤n) (h21:n≤21) (hab:a+n≤X.length) (M:List Boxes) (hrec:PdqRec n lim (M++[[]]))
    (h0:a=0 ∨ ∀ k e f,a≤k→k < a+n→X[a - 1]? = some e→X[k]? = some f→below e f=true)
    (bal part:Bool) (Q:Ex→St→Prop) (f:Bool)
    (hS:∀ m:Nat,SrtOn X a (a+n)→Q .ret { T:=[(0,O2 X),(1,I a),(2,I ((a:Int)+n)),(3,I lim),(4,fcE),(10,Bo bal),(11,Bo part),(12,I n),(13,I m),(80,Bo true)],loc:=[],M:=M })
    (hL:∀ (X3:List (Int×Int)) (mid:Nat) (bal part:Bool),a < mid→mid+1 < a+n→Seg X X3 a (a+n)→SrtOn X3 a (mid+1)→CutOn X3 a (mid+1) (a+n) →
      Q .normal { T:=[(0,O2 X3),(1,I (mid+1:Nat)),(2,I ((a:Int)+n)),(3,I lim),(4,fcE),(10,Bo bal),(11,Bo part)],loc:=[],M:=M })
    (hR:∀ (X3:List (Int×Int)) (mid:Nat) (bal part:Bool),a < mid→mid+1 < a+n→Seg X X3 a (a+n)→SrtOn X3 mid (a+n)→CutOn X3 a mid (a+n) →
      Q .normal { T:=[(0,O2 X3),(1,I a),(2,I mid),(3,I lim),(4,fcE),(10,Bo bal),(11,Bo part)],loc:=[],M:=M }) :
    wp tb cB { T:=[(0,O2 X),(1,I a),(2,I ((a:Int)+n)),(3,I lim),(4,fcE),(10,Bo bal),(11,Bo part),(12,I n)]++(if f then [(39,Bo false)] else []),loc:=[],M:=M } Q:=by
  obtain ⟨m,hint,hm,hh,p1,p2,hE⟩:=ev_choosePivot X hX hn (by omega) a n hab h13 (by omega) (M++[[]])
  have e1:=ev_lim hE
  have hB:=pdq_B' X hX hn hl a n lim h13 h21 hab M hrec h0 bal part Q m hint hm hh p1 p2 hS hL hR
  cases f
  all_goals
    simp only [if_true,if_false,Bool.false_eq_true,List.append_nil,List.cons_append,List.nil_append]
    refine wr (by simp [e1];with_reducible rfl) ?_
    exact hB
end Go.Idl
namespace Go.Idl
open Go
def pot (n:Nat):Nat:=if n≤12 then 0 else (n - 11) / 2
theorem pdq_call {X:List (Int×Int)} {a n lim:Nat} {M:List Boxes}
    (h:wp tb (.loop z285l31) { T:=[(0,O2 X),(1,I a),(2,I ((a:Int)+n)),(3,I lim),(4,fcE),(10,Bo true),(11,Bo true)],loc:=[],M:=M }
      (fun ex st=>ex=.ret∧∃ X':List (Int×Int),Seg X X' a (a+n)∧SrtOn X' a (a+n)∧finish zi285 [0] st=some ⟨.tup [],[O2 X'],M,[]⟩)) :
    ∃ X':List (Int×Int),Seg X X' a (a+n)∧SrtOn X' a (a+n)∧Ev tb zl285 [0] [O2 X,I a,I ((a:Int)+n),I lim,fcE] M ⟨.tup [],[O2 X'],M,[]⟩:=by
  suffices hh:∃ r,(∃ X':List (Int×Int),Seg X X' a (a+n)∧SrtOn X' a (a+n)∧r=⟨.tup [],[O2 X'],M,[]⟩)∧Ev tb zl285 [0] [O2 X,I a,I ((a:Int)+n),I lim,fcE] M r by
    obtain ⟨r,⟨X',q1,q2,rfl⟩,q3⟩:=hh
    exact ⟨X',q1,q2,q3⟩
  refine call_ex zt285 rfl ?_
  repeat (first|apply wp_as|apply wp_ss|refine wr (by simp;with_reducible rfl) ?_|refine wq (by simp;with_reducible rfl) ?_|refine wt (by simpa) ?_|refine wf (by simpa) ?_|refine xt (by simpa) ?_|refine xf (by simpa) ?_|apply wp_bs|apply wp_b|refine wp_sr ?_|refine wp_sx ?_|refine wp_ret' ?_|refine wp_skip' ?_|refine wp_exit' ?_)
  refine wp_imp h ?_
  rintro ex st ⟨rfl,X',q1,q2,q3⟩
  exact ⟨.inr rfl,_,⟨X',q1,q2,rfl⟩,q3⟩
abbrev PdqPost (X:List (Int×Int)) (a n:Nat) (M:List Boxes) (ex:Ex) (st:St):Prop :=
  ex=.ret∧∃ X':List (Int×Int),Seg X X' a (a+n)∧SrtOn X' a (a+n)∧finish zi285 [0] st=some ⟨.tup [],[O2 X'],M,[]⟩
theorem pdq_few (n:Nat) (h12:n≤12) (X:List (Int×Int)) (a lim:Nat) (bal part:Bool) (M:List Boxes) (hX:∀ x ∈ X,DE x) (hnd:X.Nodup) (hl:X.length≤700000) (hab:a+n≤X.length) :
    wp tb (.loop z285l31) { T:=[(0,O2 X),(1,I a),(2,I ((a:Int)+n)),(3,I lim),(4,fcE),(10,Bo bal),(11,Bo part)],loc:=[],M:=M } (PdqPost X a n M):=by
  obtain ⟨X',hS,hs,hE⟩:=ins_part X hX hnd hl a n hab (M++[[]])
  have e1:=ev_lim hE
  have w00:(a:Int)+(n:Int) - a=n:=by omega
  have w0:IntKind.i64.wrap (n:Int)=(n:Int):=wrap64 (by omega) (by omega)
  have g1:(n:Int)≤12:=by omega
  refine wp_loop ?_
  repeat (first|apply wp_as|apply wp_ss|refine wr (by simp [w00,w0,g1,h12,e1];with_reducible rfl) ?_|refine wq (by simp [w00,w0,g1,h12,e1];with_reducible rfl) ?_|refine wt (by simpa [w00,w0,g1,h12,e1]) ?_|refine wf (by simpa [w00,w0,g1,h12,e1]) ?_|refine xt (by simpa [w00,w0,g1,h12,e1]) ?_|refine xf (by simpa [w00,w0,g1,h12,e1]) ?_|apply wp_bs|apply wp_b|refine wp_sr ?_|refine wp_sx ?_|refine wp_ret' ?_|refine wp_skip' ?_|refine wp_exit' ?_)
  refine ⟨rfl,X',hS,hs,?_⟩
  simp [zi285]
set_option maxHeartbeats 4000000 in
theorem pdq_main:∀ (N n:Nat),n≤N→n≤21→∀ (X:List (Int×Int)) (a lim:Nat) (bal part:Bool) (M:List Boxes),(∀ x ∈ X,DE x)→X.Nodup→X.length≤700000→a+n≤X.length→pot n≤lim→lim≤1000 →
    (a=0 ∨ ∀ k e f,a≤k→k < a+n→X[a - 1]? = some e→X[k]? = some f→below e f=true) →
    wp tb (.loop z285l31) { T:=[(0,O2 X),(1,I a),(2,I ((a:Int)+n)),(3,I lim),(4,fcE),(10,Bo bal),(11,Bo part)],loc:=[],M:=M } (PdqPost X a n M):=by
  intro N
  induction N with
  | zero =>
    intro n hn h21 X a lim bal part M hX hnd hl hab hpot hlim h0
    exact pdq_few n (by omega) X a lim bal part M hX hnd hl hab
  | succ N ih =>
    intro n hn h21 X a lim bal part M hX hnd hl hab hpot hlim h0
    by_cases h12:n≤12
    · exact pdq_few n h12 X a lim bal part M hX hnd hl hab
    have hp1:pot n=(n - 11) / 2:=by rw [pot,if_neg h12]
    have hlim1:1≤lim:=by omega
    have hpm:∀ n',n'+2≤n→pot n'≤lim - 1:=fun n' h=>by
      rw [pot];split <;> omega
    have hrec:∀ lim',lim - 1≤lim'→lim'≤1000→∀ M,PdqRec n lim' M:=fun lim' h1 h2 M n' a' X hn' hX hnd hl hab h0=>by
      obtain ⟨X',q1,q2,q3⟩:=pdq_call (ih n' (by omega) (by omega) X a' lim' true true M hX hnd hl hab (by have:=hpm n' hn';omega) h2 h0)
      exact ⟨X',q1,q2,ev_lim q3⟩
    have w00:(a:Int)+(n:Int) - a=n:=by omega
    have w0:IntKind.i64.wrap (n:Int)=(n:Int):=wrap64 (by omega) (by omega)
    have g1:¬ (n:Int)≤12:=by omega
    have g2:¬ (lim:Int)=0:=by omega
    have g2':¬ lim=0:=by omega
    have fin:∀ (X1:List (Int×Int)) (lim1:Nat),Seg X X1 a (a+n)→lim - 1≤lim1→lim1≤1000 →
        (∀ (X3:List (Int×Int)) (mid:Nat) (bal part:Bool),a < mid→mid+1 < a+n→Seg X1 X3 a (a+n)→SrtOn X3 a (mid+1)→CutOn X3 a (mid+1) (a+n) →
          wp tb (.loop z285l31) { T:=[(0,O2 X3),(1,I (mid+1:Nat)),(2,I ((a:Int)+n)),(3,I lim1),(4,fcE),(10,Bo bal),(11,Bo part)],loc:=[],M:=M } (PdqPost X a n M)) ∧
        (∀ (X3:List (Int×Int)) (mid:Nat) (bal part:Bool),a < mid→mid+1 < a+n→Seg X1 X3 a (a+n)→SrtOn X3 mid (a+n)→CutOn X3 a mid (a+n) →
          wp tb (.loop z285l31) { T:=[(0,O2 X3),(1,I a),(2,I mid),(3,I lim1),(4,fcE),(10,Bo bal),(11,Bo part)],loc:=[],M:=M } (PdqPost X a n M)):=by
      intro X1 lim1 hS1 hl1 hl2
      refine ⟨fun X3 mid bal part h1 h2 hS3 hs hc=>?_,fun X3 mid bal part h1 h2 hS3 hs hc=>?_⟩
      · have hS:=hS1.trans hS3
        have hle:=hS.len
        obtain ⟨n2,hn2⟩:∃ n2,a+n=mid+1+n2:=⟨a+n - (mid+1),by omega⟩
        have:=ih n2 (by omega) (by omega) X3 (mid+1) lim1 bal part M (fun x hx=>hX x (hS.perm.mem_iff.1 hx)) (hS.nodup hnd) (by omega) (by omega) (by have:=hpm n2 (by omega);omega) hl2 (.inr fun k e f k1 k2 he hf=>by
          rw [Nat.add_sub_cancel] at he
          exact hc mid k e f (by omega) (by omega) k1 (by omega) he hf)
        rw [show ((mid+1:Nat):Int)+(n2:Int)=(a:Int)+n by omega] at this
        refine wp_imp this ?_
        rintro ex st ⟨rfl,X',q1,q2,q3⟩
        rw [← hn2] at q1 q2
        exact ⟨rfl,X',hS.trans (q1.mono (by omega) (Nat.le_refl _)),srt_join (hS.nodup hnd) hs hc q1 q2,q3⟩
      · have hS:=hS1.trans hS3
        have hle:=hS.len
        obtain ⟨n1,hn1⟩:∃ n1,mid=a+n1:=⟨mid - a,by omega⟩
        have:=ih n1 (by omega) (by omega) X3 a lim1 bal part M (fun x hx=>hX x (hS.perm.mem_iff.1 hx)) (hS.nodup hnd) (by omega) (by omega) (by have:=hpm n1 (by omega);omega) hl2 (by
          rcases h0 with h0 | h0
          · exact .inl h0
          · by_cases ha:a=0
            · exact .inl ha
            · refine .inr fun k e f k1 k2 he hf=>?_
              rw [hS.out (a - 1) (by omega)] at he
              obtain ⟨k',hk',hf'⟩:=hS.back hnd ⟨k1,by omega⟩ hf
              exact h0 k' e f hk'.1 hk'.2 he hf')
        rw [show (a:Int)+(n1:Int)=(mid:Int) by omega] at this
        refine wp_imp this ?_
        rintro ex st ⟨rfl,X',q1,q2,q3⟩
        rw [← hn1] at q1 q2
        exact ⟨rfl,X',hS.trans (q1.mono (Nat.le_refl _) (by omega)),srt_join' (hS.nodup hnd) hs hc q1 q2,q3⟩
    cases bal with
    | true =>
      obtain ⟨fL,fR⟩:=fin X lim (Seg.refl X a (a+n)) (by omega) hlim
      refine wp_loop ?_
      iterate 10 (first|apply wp_as|apply wp_ss|refine wr (by simp [w00,w0,g1,h12,g2,g2'];with_reducible rfl) ?_|refine wq (by simp [w00,w0,g1,h12,g2,g2'];with_reducible rfl) ?_|refine wt (by simpa [w00,w0,g1,h12,g2,g2']) ?_|refine wf (by simpa [w00,w0,g1,h12,g2,g2']) ?_|refine xt (by simpa [w00,w0,g1,h12,g2,g2']) ?_|refine xf (by simpa [w00,w0,g1,h12,g2,g2']) ?_|apply wp_bs|apply wp_b|refine wp_sr ?_|refine wp_sx ?_|refine wp_ret' ?_|refine wp_skip' ?_|refine wp_exit' ?_)
      refine wp_skip' ?_
      refine pdq_B X hX hnd hl a n lim (by omega) h21 hab M (hrec lim (by omega) hlim _) h0 true part _ true ?_ ?_ ?_
      · intro m hs
        refine ⟨rfl,X,Seg.refl X a (a+n),hs,?_⟩
        simp [zi285]
      · intro X3 mid bal part h1 h2 h3 h4 h5
        exact fL X3 mid bal part h1 h2 h3 h4 h5
      · intro X3 mid bal part h1 h2 h3 h4 h5
        exact fR X3 mid bal part h1 h2 h3 h4 h5
    | false =>
      obtain ⟨X1,hS1,hE⟩:=ev_breakPatterns X (by omega) a n (by omega) h21 hab (M++[[]])
      have e1:=ev_lim hE
      obtain ⟨lim1,hlim2⟩:∃ lim1,lim=lim1+1:=⟨lim - 1,by omega⟩
      have hle:=hS1.len
      have w1:IntKind.i64.wrap ((lim:Int) - 1)=(lim1:Int):=by rw [wrap64 (by omega) (by omega)];omega
      obtain ⟨fL,fR⟩:=fin X1 lim1 hS1 (by omega) (by omega)
      refine wp_loop ?_
      iterate 12 (first|apply wp_as|apply wp_ss|refine wr (by simp [w00,w0,g1,h12,g2,g2',e1,w1];with_reducible rfl) ?_|refine wq (by simp [w00,w0,g1,h12,g2,g2',e1,w1];with_reducible rfl) ?_|refine wt (by simpa [w00,w0,g1,h12,g2,g2',e1,w1]) ?_|refine wf (by simpa [w00,w0,g1,h12,g2,g2',e1,w1]) ?_|refine xt (by simpa [w00,w0,g1,h12,g2,g2',e1,w1]) ?_|refine xf (by simpa [w00,w0,g1,h12,g2,g2',e1,w1]) ?_|apply wp_bs|apply wp_b|refine wp_sr ?_|refine wp_sx ?_|refine wp_ret' ?_|refine wp_skip' ?_|refine wp_exit' ?_)
      refine pdq_B X1 (fun x hx=>hX x (hS1.perm.mem_iff.1 hx)) (hS1.nodup hnd) (by omega) a n lim1 (by omega) h21 (by omega) M (hrec lim1 (by omega) (by omega) _) ?_ false part _ false ?_ ?_ ?_
      · rcases h0 with h0 | h0
        · exact .inl h0
        · by_cases ha:a=0
          · exact .inl ha
          · refine .inr fun k e f k1 k2 he hf=>?_
            rw [hS1.out (a - 1) (by omega)] at he
            obtain ⟨k',hk',hf'⟩:=hS1.back hnd ⟨k1,k2⟩ hf
            exact h0 k' e f hk'.1 hk'.2 he hf'
      · intro m hs
        refine ⟨rfl,X1,hS1,hs,?_⟩
        simp [zi285]
      · intro X3 mid bal part h1 h2 h3 h4 h5
        exact fL X3 mid bal part h1 h2 h3 h4 h5
      · intro X3 mid bal part h1 h2 h3 h4 h5
        exact fR X3 mid bal part h1 h2 h3 h4 h5
theorem ev_SortFunc_ex (X:List (Int×Int)) (hX:∀ x ∈ X,DE x) (hn:X.Nodup) (h21:X.length≤21) (M:List Boxes) :
    ∃ X':List (Int×Int),X'.Perm X∧SrtOn X' 0 X.length∧Ev tb zl272 [0] [O2 X,fcE] M ⟨.tup [],[O2 X'],M,[]⟩:=by
  have hb:lenB X.length≤1000:=by unfold lenB;(repeat' split) <;> omega
  have hp:pot X.length≤lenB X.length:=by
    unfold pot lenB
    (repeat' split) <;> omega
  obtain ⟨X',hS,hs,hE⟩:=pdq_call (pdq_main X.length X.length (Nat.le_refl _) h21 X 0 (lenB X.length) true true (M++[[]]) hX hn (by omega) (by omega) hp hb (.inl rfl))
  have e1:=ev_lim hE
  have e2:=ev_lim (ev_Lenk X.length h21)
  have w1:=@wrapU X.length (by omega)
  rw [show ((0:Nat):Int)=0 from rfl,Int.zero_add] at e1
  rw [Nat.zero_add] at hs
  refine ⟨X',hS.perm,hs,?_⟩
  refine call_of_wp zt272 rfl ?_
  repeat (first|apply wp_as|apply wp_ss|refine wr (by simp [e1,e2,w1];with_reducible rfl) ?_|refine wq (by simp [e1,e2,w1];with_reducible rfl) ?_|refine wt (by simpa [e1,e2,w1]) ?_|refine wf (by simpa [e1,e2,w1]) ?_|refine xt (by simpa [e1,e2,w1]) ?_|refine xf (by simpa [e1,e2,w1]) ?_|apply wp_bs|apply wp_b|refine wp_sr ?_|refine wp_sx ?_|refine wp_ret' ?_|refine wp_skip' ?_|refine wp_exit' ?_)
  simp [zi272]
def srtE (X:List (Int×Int)):List (Int×Int):=srtC below [] X
theorem srtE_pw {X:List (Int×Int)} (hn:X.Nodup):PW (srtE X):=by
  obtain ⟨h1,h2⟩:=srtC_ok (lt:=below) below_ht (fun a b h=>below_asymm h) X [] .nil
  have hnd:(srtE X).Nodup:=h2.nodup_iff.2 (by simpa using hn)
  refine (h1.and hnd).imp fun {a b} h=>?_
  rcases below_total h.2 with q | q
  · exact q
  · rw [h.1] at q;cases q
theorem srtE_perm (X:List (Int×Int)):(srtE X).Perm X:=by
  have:=srtC_perm below X []
  rwa [List.nil_append] at this
theorem ev_SortFunc (X:List (Int×Int)) (hX:∀ x ∈ X,DE x) (hn:X.Nodup) (h21:X.length≤21) (M:List Boxes) :
    Ev tb zl272 [0] [O2 X,fcE] M ⟨.tup [],[O2 (srtE X)],M,[]⟩:=by
  obtain ⟨X',hp,hs,hE⟩:=ev_SortFunc_ex X hX hn h21 M
  have hl:=hp.length_eq
  have hpw:PW X':=List.pairwise_iff_getElem.2 fun i j hi hj hij=>hs i j _ _ (by omega) hij (by omega) (List.getElem?_eq_getElem hi) (List.getElem?_eq_getElem hj)
  have:X'=srtE X:=pw_ext hpw (srtE_pw hn) fun e=>by rw [hp.mem_iff,(srtE_perm X).mem_iff]
  rw [← this];exact hE
end Go.Idl
namespace Go.Idl
open Go
def decAt (o:List Int) (i:Nat):List Int:=o.set i (o.getD i 0 - 1)
def subs:List (Int×Int)→List Int→List (Int×Int)→List (List (Int×Int))
  | [],left,chosen=>if left.all (fun x=>decide (x=0)) then [chosen] else []
  | e::r,left,chosen =>
    (if 0 < left.getD e.1.toNat 0∧0 < left.getD e.2.toNat 0 then subs r (decAt (decAt left e.1.toNat) e.2.toNat) (chosen++[e]) else [])++subs r left chosen
theorem ev_Clone2 (e0:Nat) (es:List (Int×Int)) (c:Bool) (he0:e0=2 ∨ es=[]) (hl:es.length≤2000000):Ev tb zl261 [] [.lst e0 (eds es) c] [] ⟨O2 es,[],[],[]⟩:=by
  rcases he0 with rfl | rfl
  · refine call_of_wp zt261 rfl ?_
    refine wp_rs (by simp;rfl) (by simp;rfl) ?_
    refine wp_nil2 (b:=es.isEmpty) (by simp [z261r1];rfl) (by simp) ?_ ?_ ?_ (ex:=.ret) (st':={ T:=[(2,.own 2 (eds es))],loc:=[],M:=[] })
    · refine wp_ct (t:=false) (by simp) (by simp) fun _=>wp_ss ?_
      refine wp_rs (by simp [show es.length≤274877906944 by omega];rfl) (by simp;rfl) ?_
      refine wp_ret' ?_
      simp
    · intro he
      have:es=[]:=by simpa using he
      subst this
      refine wp_ct (t:=true) (by simp) (fun _=>wp_as ?_) (by simp)
      refine wp_rs (by simp;rfl) (by simp;rfl) ?_
      refine wp_sr ?_
      simp
    · simp [zi261]
  · refine call_of_wp zt261 rfl ?_
    refine wp_rs (by simp;rfl) (by simp;rfl) ?_
    refine wp_nil2 (b:=([]:List (Int×Int)).isEmpty) (by simp [z261r1];rfl) (by simp) ?_ ?_ ?_ (ex:=.ret) (st':={ T:=[(2,.own 2 (eds ([]:List (Int×Int))))],loc:=[],M:=[] })
    · refine wp_ct (t:=false) (by simp) (by simp) fun _=>wp_ss ?_
      refine wp_rs (by simp;rfl) (by simp;rfl) ?_
      refine wp_ret' ?_
      simp
    · intro he
      refine wp_ct (t:=true) (by simp) (fun _=>wp_as ?_) (by simp)
      refine wp_rs (by simp;rfl) (by simp;rfl) ?_
      refine wp_sr ?_
      simp
    · simp [zi261]
theorem ev_clone2 (e0:Nat) (es:List (Int×Int)) (c:Bool) (he0:e0=2 ∨ es=[]) (hl:es.length≤2000000):Ev tb zl204 [] [.lst e0 (eds es) c] [] ⟨O2 es,[],[],[]⟩:=by
  have e1:=ev_lim (ev_Clone2 e0 es c he0 hl)
  have e2:=ev_lim (ev_Clip2 es)
  refine call_of_wp zt204 rfl ?_
  repeat (first|apply wp_as|apply wp_ss|refine wr (by simp [e1,e2];with_reducible rfl) ?_|refine wq (by simp [e1,e2];with_reducible rfl) ?_|refine wt (by simpa [e1,e2]) ?_|refine wf (by simpa [e1,e2]) ?_|refine xt (by simpa [e1,e2]) ?_|refine xf (by simpa [e1,e2]) ?_|apply wp_bs|apply wp_b|refine wp_sr ?_|refine wp_sx ?_|refine wp_ret' ?_|refine wp_skip' ?_|refine wp_exit' ?_)
  simp [zi204]
end Go.Idl
namespace Go.Idl
open Go
theorem ev_made (n:Int) (e0:Nat) (es:List (Int×Int)) (c:Bool) (he0:e0=2 ∨ es=[]) (hX:∀ x ∈ es,DE x) (hn:es.Nodup) (h21:es.length≤21) :
    Ev tb zl214 [] [I n,.lst e0 (eds es) c] [] ⟨OG n (srtE es),[],[],[]⟩:=by
  have e1:=ev_lim (ev_clone2 e0 es c he0 (by omega))
  have e2:=ev_lim (ev_SortFunc es hX hn h21 [[[I 0,Z]]])
  refine call_of_wp zt214 rfl ?_
  repeat (first|apply wp_as|apply wp_ss|refine wr (by simp [e1,e2];with_reducible rfl) ?_|refine wq (by simp [e1,e2];with_reducible rfl) ?_|refine wt (by simpa [e1,e2]) ?_|refine wf (by simpa [e1,e2]) ?_|refine xt (by simpa [e1,e2]) ?_|refine xf (by simpa [e1,e2]) ?_|apply wp_bs|apply wp_b|refine wp_sr ?_|refine wp_sx ?_|refine wp_ret' ?_|refine wp_skip' ?_|refine wp_exit' ?_)
  simp [zi214]
end Go.Idl
namespace Go.Idl
open Go
def idxE (p:Int×Int→Bool) (i:Int):List (Int×Int)→Int
  | []=>-1
  | x::xs=>if p x then i else idxE p (i+1) xs
theorem ev_IndexFuncEL (xs:List (Int×Int)) (F:Lab) (caps:List IV) (M:List Boxes) (p:Int×Int→Bool) (hl:xs.length≤2000000)
    (hp:∀ x ∈ xs,Ev tb F [] (.agg [I x.1,I x.2]::caps) (M++[[]]) ⟨Bo (p x),[],M++[[]],[]⟩) :
    Ev tb zl448 [0] [O2 xs,.fn F caps] M ⟨I (idxE p 0 xs),[O2 xs],M,[]⟩:=by
  have loop:∀ (m i:Nat),i+m=xs.length→wp tb (.loop z448l7) { T:=[(0,O2 xs),(1,.fn F caps),(7,I xs.length),(8,I i)],loc:=[],M:=M }
      (fun ex st=>(ex=.exit 0∧idxE p i (xs.drop i)=-1∧st={ T:=[(0,O2 xs),(1,.fn F caps),(7,I xs.length),(8,I xs.length),(9,Bo false)],loc:=[],M:=M }) ∨
        ex=.ret∧st={ T:=[(0,O2 xs),(4,I (idxE p i (xs.drop i)))],loc:=[],M:=M }):=by
    intro m
    induction m with
    | zero =>
      intro i hi
      have h2:xs.drop i=[]:=List.drop_of_length_le (by omega)
      have h3:i=xs.length:=hi
      subst h3
      refine wp_loop ?_
      repeat (first|apply wp_as|apply wp_ss|refine wr (by simp;with_reducible rfl) ?_|refine wq (by simp;with_reducible rfl) ?_|refine wt (by simpa) ?_|refine wf (by simpa) ?_|refine xt (by simpa) ?_|refine xf (by simpa) ?_|apply wp_bs|apply wp_b|refine wp_sr ?_|refine wp_sx ?_|refine wp_ret' ?_|refine wp_skip' ?_|refine wp_exit' ?_)
      refine .inl ⟨rfl,by rw [h2];rfl,rfl⟩
    | succ m ih =>
      intro i hi
      have hi2:i < xs.length:=by omega
      have h2:xs.drop i=xs[i]::xs.drop (i+1):=List.drop_eq_getElem_cons hi2
      have e1:=ev_lim (hp _ (List.getElem_mem hi2))
      have w1:IntKind.i64.wrap ((i:Int)+1)=((i+1:Nat):Int):=wrapS (by omega)
      have gx:(eds xs)[i]'(by simpa using hi2)=[I xs[i].1,I xs[i].2]:=by simp [eds]
      rw [h2]
      cases hpx:p xs[i] with
      | true =>
        refine wp_loop ?_
        repeat (first|apply wp_as|apply wp_ss|refine wr (by simp [e1,hi2,w1,hpx,gx];with_reducible rfl) ?_|refine wq (by simp [e1,hi2,w1,hpx,gx];with_reducible rfl) ?_|refine wt (by simpa [e1,hi2,w1,hpx,gx]) ?_|refine wf (by simpa [e1,hi2,w1,hpx,gx]) ?_|refine xt (by simpa [e1,hi2,w1,hpx,gx]) ?_|refine xf (by simpa [e1,hi2,w1,hpx,gx]) ?_|apply wp_bs|apply wp_b|refine wp_sr ?_|refine wp_sx ?_|refine wp_ret' ?_|refine wp_skip' ?_|refine wp_exit' ?_)
        refine .inr ⟨rfl,by simp [idxE,hpx]⟩
      | false =>
        refine wp_loop ?_
        repeat (first|apply wp_as|apply wp_ss|refine wr (by simp [e1,hi2,w1,hpx,gx];with_reducible rfl) ?_|refine wq (by simp [e1,hi2,w1,hpx,gx];with_reducible rfl) ?_|refine wt (by simpa [e1,hi2,w1,hpx,gx]) ?_|refine wf (by simpa [e1,hi2,w1,hpx,gx]) ?_|refine xt (by simpa [e1,hi2,w1,hpx,gx]) ?_|refine xf (by simpa [e1,hi2,w1,hpx,gx]) ?_|apply wp_bs|apply wp_b|refine wp_sr ?_|refine wp_sx ?_|refine wp_ret' ?_|refine wp_skip' ?_|refine wp_exit' ?_)
        have:=ih (i+1) (by omega)
        simp only [idxE,hpx] at this ⊢
        exact this
  refine call_of_wp zt448 rfl ?_
  repeat (first|apply wp_as|apply wp_ss|refine wr (by simp;with_reducible rfl) ?_|refine wq (by simp;with_reducible rfl) ?_|refine wt (by simpa) ?_|refine wf (by simpa) ?_|refine xt (by simpa) ?_|refine xf (by simpa) ?_|apply wp_bs|apply wp_b|refine wp_sr ?_|refine wp_sx ?_|refine wp_ret' ?_|refine wp_skip' ?_|refine wp_exit' ?_)
  refine wp_imp (loop xs.length 0 (by simp)) ?_
  rintro ex st (⟨rfl,h,rfl⟩ | ⟨rfl,rfl⟩)
  · simp only [if_true]
    repeat (first|apply wp_as|apply wp_ss|refine wr (by simp;with_reducible rfl) ?_|refine wq (by simp;with_reducible rfl) ?_|refine wt (by simpa) ?_|refine wf (by simpa) ?_|refine xt (by simpa) ?_|refine xf (by simpa) ?_|apply wp_bs|apply wp_b|refine wp_sr ?_|refine wp_sx ?_|refine wp_ret' ?_|refine wp_skip' ?_|refine wp_exit' ?_)
    simp at h
    simp [zi448,h]
  · simp [zi448]
theorem idxE_spec (p:Int×Int→Bool):∀ (xs:List (Int×Int)) (i:Nat),(idxE p i xs=-1∧∀ x ∈ xs,p x=false) ∨ ∃ k:Nat,∃ h:k < xs.length,idxE p i xs=((i+k:Nat):Int)∧p xs[k]=true∧∀ x ∈ xs.take k,p x=false
  | [],i=>.inl ⟨rfl,by simp⟩
  | x::r,i=>by
    cases hp:p x with
    | true=>exact .inr ⟨0,by simp,by simp [idxE,hp],hp,by simp⟩
    | false =>
      rcases idxE_spec p r (i+1) with ⟨h1,h2⟩ | ⟨k,hk,h1,h2,h3⟩
      · refine .inl ⟨?_,fun y hy=>?_⟩
        · simp only [idxE,hp,Bool.false_eq_true,if_false];exact h1
        · rcases List.mem_cons.1 hy with rfl | hy
          · exact hp
          · exact h2 y hy
      · refine .inr ⟨k+1,by simp;exact hk,?_,h2,fun y hy=>?_⟩
        · simp only [idxE,hp,Bool.false_eq_true,if_false]
          rw [show ((i:Int)+1)=((i+1:Nat):Int) by omega,h1];omega
        · rw [List.take_succ_cons] at hy
          rcases List.mem_cons.1 hy with rfl | hy
          · exact hp
          · exact h3 y hy
theorem delE_loop (xs:List (Int×Int)) (F:Lab) (caps:List IV) (M:List Boxes) (p:Int×Int→Bool) (hl:xs.length≤2000000)
    (hp:∀ bs,∀ x ∈ xs,Ev tb F [] (.agg [I x.1,I x.2]::caps) (M++[bs]) ⟨Bo (p x),[],M++[bs],[]⟩):∀ (m j i:Nat) (s:List (Int×Int)) (bs:Boxes),j+m=xs.length→i < j→s.length=xs.length→s.take i=(xs.take j).filter (fun x=>!p x)→s.drop j=xs.drop j →
    wp tb (.loop z265l11) { T:=[(0,O2 s),(1,.fn F caps),(5,I i),(6,I j)],loc:=bs,M:=M }
      (fun ex st=>ex=.exit 0∧∃ (i:Nat) (s:List (Int×Int)) (bs:Boxes),(i < xs.length∧s.length=xs.length∧s.take i=xs.filter (fun x=>!p x))∧st={ T:=[(0,O2 s),(1,.fn F caps),(5,I i),(6,I xs.length),(19,Bo false)],loc:=bs,M:=M }):=by
  intro m
  induction m with
  | zero =>
    intro j i s bs hj hij hs h1 h2
    have h3:j=xs.length:=hj
    subst h3
    rw [List.take_length] at h1
    refine wp_loop ?_
    repeat (first|apply wp_as|apply wp_ss|refine wr (by simp [hs];with_reducible rfl) ?_|refine wq (by simp [hs];with_reducible rfl) ?_|refine wt (by simpa [hs]) ?_|refine wf (by simpa [hs]) ?_|refine xt (by simpa [hs]) ?_|refine xf (by simpa [hs]) ?_|apply wp_bs|apply wp_b|refine wp_sr ?_|refine wp_sx ?_|refine wp_ret' ?_|refine wp_skip' ?_|refine wp_exit' ?_)
    exact ⟨rfl,i,s,bs,⟨hij,hs,h1⟩,rfl⟩
  | succ m ih =>
    intro j i s bs hj hij hs h1 h2
    have hjl:j < xs.length:=by omega
    have hjs:j < s.length:=by omega
    have hil:i < s.length:=by omega
    have hil':i < xs.length:=by omega
    have hsj:s[j]=xs[j]:=by
      have h3:s.drop j=s[j]::s.drop (j+1):=List.drop_eq_getElem_cons hjs
      have h4:xs.drop j=xs[j]::xs.drop (j+1):=List.drop_eq_getElem_cons hjl
      rw [h3,h4] at h2
      exact (List.cons.inj h2).1
    have hd2:s.drop (j+1)=xs.drop (j+1):=by
      have h3:s.drop j=s[j]::s.drop (j+1):=List.drop_eq_getElem_cons hjs
      have h4:xs.drop j=xs[j]::xs.drop (j+1):=List.drop_eq_getElem_cons hjl
      rw [h3,h4] at h2
      exact (List.cons.inj h2).2
    have gx:(eds s)[j]'(by simpa using hjs)=[I xs[j].1,I xs[j].2]:=by simp [eds,hsj]
    have e1:=fun bs=>ev_lim (hp bs _ (List.getElem_mem hjl))
    have w1:IntKind.i64.wrap ((j:Int)+1)=((j+1:Nat):Int):=wrapS (by omega)
    have w2:IntKind.i64.wrap ((i:Int)+1)=((i+1:Nat):Int):=wrapS (by omega)
    have ht:(xs.take (j+1)).filter (fun x=>!p x)=(xs.take j).filter (fun x=>!p x)++(if p xs[j] then [] else [xs[j]]):=by
      rw [List.take_succ_eq_append_getElem hjl,List.filter_append,List.filter_cons,List.filter_nil]
      cases p xs[j] <;> rfl
    cases hpx:p xs[j] with
    | true =>
      rw [hpx,if_pos rfl,List.append_nil] at ht
      have hn:=fun bs=>ih (j+1) i s bs (by omega) (by omega) hs (by rw [ht];exact h1) hd2
      refine wp_loop ?_
      repeat (first|apply wp_as|apply wp_ss|refine wr (by simp [hs,hjl,hjs,gx,e1,hpx,w1];with_reducible rfl) ?_|refine wq (by simp [hs,hjl,hjs,gx,e1,hpx,w1];with_reducible rfl) ?_|refine wt (by simpa [hs,hjl,hjs,gx,e1,hpx,w1]) ?_|refine wf (by simpa [hs,hjl,hjs,gx,e1,hpx,w1]) ?_|refine xt (by simpa [hs,hjl,hjs,gx,e1,hpx,w1]) ?_|refine xf (by simpa [hs,hjl,hjs,gx,e1,hpx,w1]) ?_|apply wp_bs|apply wp_b|refine wp_sr ?_|refine wp_sx ?_|refine wp_ret' ?_|refine wp_skip' ?_|refine wp_exit' ?_)
      exact hn _
    | false =>
      rw [hpx,if_neg (by simp)] at ht
      have hn:=fun bs=>ih (j+1) (i+1) (s.set i xs[j]) bs (by omega) (by omega) (by simpa using hs) (by
        rw [ht,← h1,List.take_succ_eq_append_getElem (by simpa using hil),List.take_set_of_le (Nat.le_refl _),List.getElem_set_self]) (by
        rw [List.drop_set_of_lt (by omega)];exact hd2)
      refine wp_loop ?_
      repeat (first|apply wp_as|apply wp_ss|refine wr (by simp [hs,hjl,hjs,gx,e1,hpx,w1,w2,hil,hil',eds_set];with_reducible rfl) ?_|refine wq (by simp [hs,hjl,hjs,gx,e1,hpx,w1,w2,hil,hil',eds_set];with_reducible rfl) ?_|refine wt (by simpa [hs,hjl,hjs,gx,e1,hpx,w1,w2,hil,hil',eds_set]) ?_|refine wf (by simpa [hs,hjl,hjs,gx,e1,hpx,w1,w2,hil,hil',eds_set]) ?_|refine xt (by simpa [hs,hjl,hjs,gx,e1,hpx,w1,w2,hil,hil',eds_set]) ?_|refine xf (by simpa [hs,hjl,hjs,gx,e1,hpx,w1,w2,hil,hil',eds_set]) ?_|apply wp_bs|apply wp_b|refine wp_sr ?_|refine wp_sx ?_|refine wp_ret' ?_|refine wp_skip' ?_|refine wp_exit' ?_)
      exact hn _
theorem eds_isSc (xs:List (Int×Int)):((eds xs).all fun x=>x.all IV.isSc)=true:=by
  induction xs with
  | nil=>rfl
  | cons x xs ih=>simp only [eds,List.map_cons,List.all_cons] at *;rw [ih];rfl
theorem ev_DeleteFuncE (xs:List (Int×Int)) (F:Lab) (caps:List IV) (M:List Boxes) (p:Int×Int→Bool) (hl:xs.length≤2000000)
    (hp:∀ bs M' x,x ∈ xs→Ev tb F [] (.agg [I x.1,I x.2]::caps) (M++[bs]++M') ⟨Bo (p x),[],M++[bs]++M',[]⟩) :
    Ev tb zl265 [] [O2 xs,.fn F caps] M ⟨O2 (xs.filter fun x=>!p x),[],M,[]⟩:=by
  have e1:=ev_lim (ev_IndexFuncEL xs F caps (M++[[]]) p hl (fun x hx=>hp [] [[]] x hx))
  rcases idxE_spec p xs 0 with ⟨h1,h2⟩ | ⟨k,hk,h1,h2,h3⟩
  · rw [show ((0:Nat):Int)=0 from rfl] at h1
    rw [h1] at e1
    have hf:(xs.filter fun x=>!p x)=xs:=List.filter_eq_self.2 fun x hx=>by rw [h2 x hx];rfl
    rw [hf]
    refine call_of_wp zt265 rfl ?_
    repeat (first|apply wp_as|apply wp_ss|refine wr (by simp [e1];with_reducible rfl) ?_|refine wq (by simp [e1];with_reducible rfl) ?_|refine wt (by simpa [e1]) ?_|refine wf (by simpa [e1]) ?_|refine xt (by simpa [e1]) ?_|refine xf (by simpa [e1]) ?_|apply wp_bs|apply wp_b|refine wp_sr ?_|refine wp_sx ?_|refine wp_ret' ?_|refine wp_skip' ?_|refine wp_exit' ?_)
    simp [zi265]
  · rw [show ((0:Nat):Int)=0 from rfl,Nat.zero_add] at h1
    rw [h1] at e1
    have hk0:¬ (k:Int)=-1:=by omega
    have w1:IntKind.i64.wrap ((k:Int)+1)=((k+1:Nat):Int):=wrapS (by omega)
    have hlo:=delE_loop xs F caps M p hl (fun bs x hx=>by simpa using hp bs [] x hx) (xs.length - (k+1)) (k+1) k xs [] (by omega) (by omega) rfl (by
      rw [List.take_succ_eq_append_getElem hk,List.filter_append,List.filter_cons,h2]
      simp only [Bool.not_true,Bool.false_eq_true,if_false,List.filter_nil,List.append_nil]
      exact (List.filter_eq_self.2 fun x hx=>by rw [h3 x hx];rfl).symm) rfl
    refine call_of_wp zt265 rfl ?_
    repeat (first|apply wp_as|apply wp_ss|refine wr (by simp [e1,hk0,w1];with_reducible rfl) ?_|refine wq (by simp [e1,hk0,w1];with_reducible rfl) ?_|refine wt (by simpa [e1,hk0,w1]) ?_|refine wf (by simpa [e1,hk0,w1]) ?_|refine xt (by simpa [e1,hk0,w1]) ?_|refine xf (by simpa [e1,hk0,w1]) ?_|apply wp_bs|apply wp_b|refine wp_sr ?_|refine wp_sx ?_|refine wp_ret' ?_|refine wp_skip' ?_|refine wp_exit' ?_)
    refine wp_imp hlo ?_
    rintro ex st ⟨rfl,i,s,bs,⟨k1,k2,k3⟩,rfl⟩
    simp only [if_true]
    have hil:i≤xs.length:=by omega
    have hz:s.drop xs.length=[]:=List.drop_of_length_le (by omega)
    have hti:(s.take i).length=i:=by simp;omega
    have hfl:(xs.filter fun x=>!p x).length=i:=by rw [← k3];exact hti
    generalize (xs.filter fun x=>!p x)=G at *
    have htk:∀ Z:List (List IV),(eds G++Z).take i=eds G:=fun Z=>by
      rw [List.take_append_of_le_length (by rw [eds_len];omega),List.take_of_length_le (by rw [eds_len];omega)]
    repeat (first|apply wp_as|apply wp_ss|refine wr (by simp [k2,hil,↓eds_isSc,hz,k3,hti,hfl,htk];with_reducible rfl) ?_|refine wq (by simp [k2,hil,↓eds_isSc,hz,k3,hti,hfl,htk];with_reducible rfl) ?_|refine wt (by simpa [k2,hil,↓eds_isSc,hz,k3,hti,hfl,htk]) ?_|refine wf (by simpa [k2,hil,↓eds_isSc,hz,k3,hti,hfl,htk]) ?_|refine xt (by simpa [k2,hil,↓eds_isSc,hz,k3,hti,hfl,htk]) ?_|refine xf (by simpa [k2,hil,↓eds_isSc,hz,k3,hti,hfl,htk]) ?_|apply wp_bs|apply wp_b|refine wp_sr ?_|refine wp_sx ?_|refine wp_ret' ?_|refine wp_skip' ?_|refine wp_exit' ?_)
    simp [zi265]
end Go.Idl
namespace Go.Idl
open Go
def idxB (n:Nat) (but:Int):List Int:=((List.range n).map fun v:Nat=>(v:Int)).filter fun v=>decide (v ≠ but)
def nlI:List Int→IV
  | []=>Z
  | x::r=>O (x::r)
theorem ev_indices (n:Nat) (but:Int) (hn:n≤1000):Ev tb zl212 [] [I n,I but] [] ⟨nlI (idxB n but),[],[],[]⟩:=by
  have loop:∀ (m i:Nat),i+m=n→wp tb (.loop z212l8) { T:=[(1,I but),(5,nlI (idxB i but)),(7,I n),(8,I i)],loc:=[],M:=[] }
      (fun ex st=>ex=.exit 0∧st={ T:=[(1,I but),(5,nlI (idxB n but)),(7,I n),(8,I n),(9,Bo false)],loc:=[],M:=[] }):=by
    intro m
    induction m with
    | zero =>
      intro i hi
      have h3:i=n:=hi
      subst h3
      cases idxB i but with
      | nil =>
        simp only [nlI]
        refine wp_loop ?_
        repeat (first|apply wp_as|apply wp_ss|refine wr (by simp;with_reducible rfl) ?_|refine wq (by simp;with_reducible rfl) ?_|refine wt (by simpa) ?_|refine wf (by simpa) ?_|refine xt (by simpa) ?_|refine xf (by simpa) ?_|apply wp_bs|apply wp_b|refine wp_sr ?_|refine wp_sx ?_|refine wp_ret' ?_|refine wp_skip' ?_|refine wp_exit' ?_)
        exact ⟨rfl,rfl⟩
      | cons x r =>
        simp only [nlI]
        refine wp_loop ?_
        repeat (first|apply wp_as|apply wp_ss|refine wr (by simp;with_reducible rfl) ?_|refine wq (by simp;with_reducible rfl) ?_|refine wt (by simpa) ?_|refine wf (by simpa) ?_|refine xt (by simpa) ?_|refine xf (by simpa) ?_|apply wp_bs|apply wp_b|refine wp_sr ?_|refine wp_sx ?_|refine wp_ret' ?_|refine wp_skip' ?_|refine wp_exit' ?_)
        exact ⟨rfl,rfl⟩
    | succ m ih =>
      intro i hi
      have hi2:i < n:=by omega
      have w2:IntKind.i64.wrap ((i:Int)+1)=((i+1:Nat):Int):=wrapS (by omega)
      have hn2:=ih (i+1) (by omega)
      have hs:idxB (i+1) but=idxB i but++if (i:Int)=but then [] else [(i:Int)]:=by
        simp only [idxB,List.range_succ,List.map_append,List.map_cons,List.map_nil,List.filter_append,List.filter_cons,List.filter_nil]
        congr 1
        by_cases h:(i:Int)=but <;> simp [h]
      rw [hs] at hn2
      have hal:(idxB i but).length≤i:=Nat.le_trans (List.length_filter_le _ _) (by simp)
      generalize idxB i but=A at *
      by_cases hb:but=(i:Int)
      · subst hb
        rw [if_pos rfl,List.append_nil] at hn2
        cases A with
        | nil =>
          rw [show nlI []=Z from rfl] at hn2 ⊢
          refine wp_loop ?_
          repeat (first|apply wp_as|apply wp_ss|refine wr (by simp [hi2,w2];with_reducible rfl) ?_|refine wq (by simp [hi2,w2];with_reducible rfl) ?_|refine wt (by simpa [hi2,w2]) ?_|refine wf (by simpa [hi2,w2]) ?_|refine xt (by simpa [hi2,w2]) ?_|refine xf (by simpa [hi2,w2]) ?_|apply wp_bs|apply wp_b|refine wp_sr ?_|refine wp_sx ?_|refine wp_ret' ?_|refine wp_skip' ?_|refine wp_exit' ?_)
          exact hn2
        | cons x r =>
          rw [show nlI (x::r)=O (x::r) from rfl] at hn2 ⊢
          refine wp_loop ?_
          repeat (first|apply wp_as|apply wp_ss|refine wr (by simp [hi2,w2];with_reducible rfl) ?_|refine wq (by simp [hi2,w2];with_reducible rfl) ?_|refine wt (by simpa [hi2,w2]) ?_|refine wf (by simpa [hi2,w2]) ?_|refine xt (by simpa [hi2,w2]) ?_|refine xf (by simpa [hi2,w2]) ?_|apply wp_bs|apply wp_b|refine wp_sr ?_|refine wp_sx ?_|refine wp_ret' ?_|refine wp_skip' ?_|refine wp_exit' ?_)
          exact hn2
      · have hb':¬ (i:Int)=but:=fun h=>hb h.symm
        rw [if_neg hb'] at hn2
        cases A with
        | nil =>
          rw [List.nil_append,show nlI [(i:Int)]=O [(i:Int)] from rfl] at hn2
          rw [show nlI []=Z from rfl]
          refine wp_loop ?_
          repeat (first|apply wp_as|apply wp_ss|refine wr (by simp [hi2,w2,hb'];with_reducible rfl) ?_|refine wq (by simp [hi2,w2,hb'];with_reducible rfl) ?_|refine wt (by simpa [hi2,w2,hb']) ?_|refine wf (by simpa [hi2,w2,hb']) ?_|refine xt (by simpa [hi2,w2,hb']) ?_|refine xf (by simpa [hi2,w2,hb']) ?_|apply wp_bs|apply wp_b|refine wp_sr ?_|refine wp_sx ?_|refine wp_ret' ?_|refine wp_skip' ?_|refine wp_exit' ?_)
          exact hn2
        | cons x r =>
          rw [show nlI (x::r++[(i:Int)])=O (x::r++[(i:Int)]) from rfl] at hn2
          rw [show nlI (x::r)=O (x::r) from rfl]
          have hal1:r.length+1+1≤274877906944:=by simp at hal;omega
          have hat:(x::r).take (r.length+1)=x::r:=List.take_of_length_le (by simp)
          refine wp_loop ?_
          repeat (first|apply wp_as|apply wp_ss|refine wr (by simp [hi2,w2,hb',hal1,hat];with_reducible rfl) ?_|refine wq (by simp [hi2,w2,hb',hal1,hat];with_reducible rfl) ?_|refine wt (by simpa [hi2,w2,hb',hal1,hat]) ?_|refine wf (by simpa [hi2,w2,hb',hal1,hat]) ?_|refine xt (by simpa [hi2,w2,hb',hal1,hat]) ?_|refine xf (by simpa [hi2,w2,hb',hal1,hat]) ?_|apply wp_bs|apply wp_b|refine wp_sr ?_|refine wp_sx ?_|refine wp_ret' ?_|refine wp_skip' ?_|refine wp_exit' ?_)
          exact hn2
  refine call_of_wp zt212 rfl ?_
  repeat (first|apply wp_as|apply wp_ss|refine wr (by simp;with_reducible rfl) ?_|refine wq (by simp;with_reducible rfl) ?_|refine wt (by simpa) ?_|refine wf (by simpa) ?_|refine xt (by simpa) ?_|refine xf (by simpa) ?_|apply wp_bs|apply wp_b|refine wp_sr ?_|refine wp_sx ?_|refine wp_ret' ?_|refine wp_skip' ?_|refine wp_exit' ?_)
  refine wp_imp (loop n 0 (by simp)) ?_
  rintro ex st ⟨rfl,rfl⟩
  try simp only [if_true]
  cases idxB n but with
  | nil =>
    simp only [nlI]
    repeat (first|apply wp_as|apply wp_ss|refine wr (by simp;with_reducible rfl) ?_|refine wq (by simp;with_reducible rfl) ?_|refine wt (by simpa) ?_|refine wf (by simpa) ?_|refine xt (by simpa) ?_|refine xf (by simpa) ?_|apply wp_bs|apply wp_b|refine wp_sr ?_|refine wp_sx ?_|refine wp_ret' ?_|refine wp_skip' ?_|refine wp_exit' ?_)
    simp [zi212]
  | cons x r =>
    simp only [nlI]
    repeat (first|apply wp_as|apply wp_ss|refine wr (by simp;with_reducible rfl) ?_|refine wq (by simp;with_reducible rfl) ?_|refine wt (by simpa) ?_|refine wf (by simpa) ?_|refine xt (by simpa) ?_|refine xf (by simpa) ?_|apply wp_bs|apply wp_b|refine wp_sr ?_|refine wp_sx ?_|refine wp_ret' ?_|refine wp_skip' ?_|refine wp_exit' ?_)
    simp [zi212]
end Go.Idl
namespace Go.Idl
open Go
theorem idxB_all (n:Nat):idxB n (-1)=(List.range n).map fun v:Nat=>(v:Int):=by
  rw [idxB]
  refine List.filter_eq_self.2 fun x hx=>?_
  obtain ⟨v,_,rfl⟩:=List.mem_map.1 hx
  simp
end Go.Idl
namespace Go.Idl
open Go
def apart (a b c d:Int):Bool:=decide (a ≠ b) && decide (a ≠ c) && decide (a ≠ d) && decide (b ≠ c) && decide (b ≠ d) && decide (c ≠ d)
abbrev Sw (a b c d:Int):IV:=.agg [I a,I b,I c,I d]
set_option maxHeartbeats 4000000 in
theorem ev_apart (a b c d:Int) (M:List Boxes):Ev tb zl411 [] [Sw a b c d] M ⟨Bo (apart a b c d),[],M,[]⟩:=by
  by_cases h1:a=b
  · subst h1
    refine call_of_wp zt411 rfl ?_
    repeat (first|apply wp_as|apply wp_ss|refine wr (by simp;with_reducible rfl) ?_|refine wq (by simp;with_reducible rfl) ?_|refine wt (by simpa) ?_|refine wf (by simpa) ?_|refine xt (by simpa) ?_|refine xf (by simpa) ?_|apply wp_bs|apply wp_b|refine wp_sr ?_|refine wp_sx ?_|refine wp_ret' ?_|refine wp_skip' ?_|refine wp_exit' ?_)
    simp [zi411,apart]
  by_cases h2:a=c
  · subst h2
    refine call_of_wp zt411 rfl ?_
    repeat (first|apply wp_as|apply wp_ss|refine wr (by simp [h1];with_reducible rfl) ?_|refine wq (by simp [h1];with_reducible rfl) ?_|refine wt (by simpa [h1]) ?_|refine wf (by simpa [h1]) ?_|refine xt (by simpa [h1]) ?_|refine xf (by simpa [h1]) ?_|apply wp_bs|apply wp_b|refine wp_sr ?_|refine wp_sx ?_|refine wp_ret' ?_|refine wp_skip' ?_|refine wp_exit' ?_)
    simp [zi411,apart,h1]
  by_cases h3:a=d
  · subst h3
    refine call_of_wp zt411 rfl ?_
    repeat (first|apply wp_as|apply wp_ss|refine wr (by simp [h1,h2];with_reducible rfl) ?_|refine wq (by simp [h1,h2];with_reducible rfl) ?_|refine wt (by simpa [h1,h2]) ?_|refine wf (by simpa [h1,h2]) ?_|refine xt (by simpa [h1,h2]) ?_|refine xf (by simpa [h1,h2]) ?_|apply wp_bs|apply wp_b|refine wp_sr ?_|refine wp_sx ?_|refine wp_ret' ?_|refine wp_skip' ?_|refine wp_exit' ?_)
    simp [zi411,apart,h1,h2]
  by_cases h4:b=c
  · subst h4
    refine call_of_wp zt411 rfl ?_
    repeat (first|apply wp_as|apply wp_ss|refine wr (by simp [h1,h2,h3];with_reducible rfl) ?_|refine wq (by simp [h1,h2,h3];with_reducible rfl) ?_|refine wt (by simpa [h1,h2,h3]) ?_|refine wf (by simpa [h1,h2,h3]) ?_|refine xt (by simpa [h1,h2,h3]) ?_|refine xf (by simpa [h1,h2,h3]) ?_|apply wp_bs|apply wp_b|refine wp_sr ?_|refine wp_sx ?_|refine wp_ret' ?_|refine wp_skip' ?_|refine wp_exit' ?_)
    simp [zi411,apart,h1,h2,h3]
  by_cases h5:b=d
  · subst h5
    refine call_of_wp zt411 rfl ?_
    repeat (first|apply wp_as|apply wp_ss|refine wr (by simp [h1,h2,h3,h4];with_reducible rfl) ?_|refine wq (by simp [h1,h2,h3,h4];with_reducible rfl) ?_|refine wt (by simpa [h1,h2,h3,h4]) ?_|refine wf (by simpa [h1,h2,h3,h4]) ?_|refine xt (by simpa [h1,h2,h3,h4]) ?_|refine xf (by simpa [h1,h2,h3,h4]) ?_|apply wp_bs|apply wp_b|refine wp_sr ?_|refine wp_sx ?_|refine wp_ret' ?_|refine wp_skip' ?_|refine wp_exit' ?_)
    simp [zi411,apart,h1,h2,h3,h4]
  by_cases h6:c=d
  · subst h6
    refine call_of_wp zt411 rfl ?_
    repeat (first|apply wp_as|apply wp_ss|refine wr (by simp [h1,h2,h3,h4,h5];with_reducible rfl) ?_|refine wq (by simp [h1,h2,h3,h4,h5];with_reducible rfl) ?_|refine wt (by simpa [h1,h2,h3,h4,h5]) ?_|refine wf (by simpa [h1,h2,h3,h4,h5]) ?_|refine xt (by simpa [h1,h2,h3,h4,h5]) ?_|refine xf (by simpa [h1,h2,h3,h4,h5]) ?_|apply wp_bs|apply wp_b|refine wp_sr ?_|refine wp_sx ?_|refine wp_ret' ?_|refine wp_skip' ?_|refine wp_exit' ?_)
    simp [zi411,apart,h1,h2,h3,h4,h5]
  refine call_of_wp zt411 rfl ?_
  repeat (first|apply wp_as|apply wp_ss|refine wr (by simp [h1,h2,h3,h4,h5,h6];with_reducible rfl) ?_|refine wq (by simp [h1,h2,h3,h4,h5,h6];with_reducible rfl) ?_|refine wt (by simpa [h1,h2,h3,h4,h5,h6]) ?_|refine wf (by simpa [h1,h2,h3,h4,h5,h6]) ?_|refine xt (by simpa [h1,h2,h3,h4,h5,h6]) ?_|refine xf (by simpa [h1,h2,h3,h4,h5,h6]) ?_|apply wp_bs|apply wp_b|refine wp_sr ?_|refine wp_sx ?_|refine wp_ret' ?_|refine wp_skip' ?_|refine wp_exit' ?_)
  simp [zi411,apart,h1,h2,h3,h4,h5,h6]
def gone (a b c d:Int) (x:Int×Int):Bool:=decide (x=(min a b,max a b)) || decide (x=(min c d,max c d))
set_option maxHeartbeats 4000000 in
theorem ev_change_F1 (x:Int×Int) (a b c d:Int) (B:Boxes) (k:Nat) (hB:B[k]? = some [I a,I b,I c,I d]) (Ms:List Boxes):Ev tb zl410 [] [.agg [I x.1,I x.2],.bptr 0 k 0] (B::Ms) ⟨Bo (gone a b c d x),[],B::Ms,[]⟩:=by
  have e1:=fun M=>ev_lim (ev_edge a b M)
  have e2:=fun M=>ev_lim (ev_edge c d M)
  obtain ⟨x1,x2⟩:=x
  have hg:gone a b c d (x1,x2)=(decide (x1=min a b) && decide (x2=max a b) || decide (x1=min c d) && decide (x2=max c d)):=by
    simp [gone]
  rw [hg]
  generalize min a b=p at *
  generalize max a b=q at *
  generalize min c d=r at *
  generalize max c d=s at *
  by_cases h1:x1=p
  · subst h1
    by_cases h2:x2=q
    · subst h2
      refine call_of_wp zt410 rfl ?_
      repeat (first|apply wp_as|apply wp_ss|refine wr (by simp [e1,e2,hB];with_reducible rfl) ?_|refine wq (by simp [e1,e2,hB];with_reducible rfl) ?_|refine wt (by simpa [e1,e2,hB]) ?_|refine wf (by simpa [e1,e2,hB]) ?_|refine xt (by simpa [e1,e2,hB]) ?_|refine xf (by simpa [e1,e2,hB]) ?_|apply wp_bs|apply wp_b|refine wp_sr ?_|refine wp_sx ?_|refine wp_ret' ?_|refine wp_skip' ?_|refine wp_exit' ?_)
      refine wp_ra (by simp [e1,e2,hB];with_reducible rfl) (by simp;with_reducible rfl) ?_ ?_
      · intro p hp
        simp only [List.mem_cons,List.not_mem_nil,or_false] at hp
        rcases hp with rfl | rfl | rfl
        · exact ⟨_,by simp [e1,e2,hB];with_reducible rfl,by simp⟩
        · exact ⟨_,by simp [e1,e2,hB];with_reducible rfl,by simp⟩
        · exact ⟨_,by simp [e1,e2,hB];with_reducible rfl,by simp⟩
      repeat (first|apply wp_as|apply wp_ss|refine wr (by simp;with_reducible rfl) ?_|refine wq (by simp;with_reducible rfl) ?_|refine wt (by simpa) ?_|refine wf (by simpa) ?_|refine xt (by simpa) ?_|refine xf (by simpa) ?_|apply wp_bs|apply wp_b|refine wp_sr ?_|refine wp_sx ?_|refine wp_ret' ?_|refine wp_skip' ?_|refine wp_exit' ?_)
      simp [zi410]
    · by_cases h3:x1=r
      · subst h3
        by_cases h4:x2=s
        · subst h4
          refine call_of_wp zt410 rfl ?_
          repeat (first|apply wp_as|apply wp_ss|refine wr (by simp [e1,e2,hB,h2];with_reducible rfl) ?_|refine wq (by simp [e1,e2,hB,h2];with_reducible rfl) ?_|refine wt (by simpa [e1,e2,hB,h2]) ?_|refine wf (by simpa [e1,e2,hB,h2]) ?_|refine xt (by simpa [e1,e2,hB,h2]) ?_|refine xf (by simpa [e1,e2,hB,h2]) ?_|apply wp_bs|apply wp_b|refine wp_sr ?_|refine wp_sx ?_|refine wp_ret' ?_|refine wp_skip' ?_|refine wp_exit' ?_)
          refine wp_ra (by simp [e1,e2,hB,h2];with_reducible rfl) (by simp;with_reducible rfl) ?_ ?_
          · intro p hp
            simp only [List.mem_cons,List.not_mem_nil,or_false] at hp
            rcases hp with rfl | rfl | rfl
            · exact ⟨_,by simp [e1,e2,hB,h2];with_reducible rfl,by simp⟩
            · exact ⟨_,by simp [e1,e2,hB,h2];with_reducible rfl,by simp⟩
            · exact ⟨_,by simp [e1,e2,hB,h2];with_reducible rfl,by simp⟩
          repeat (first|apply wp_as|apply wp_ss|refine wr (by simp;with_reducible rfl) ?_|refine wq (by simp;with_reducible rfl) ?_|refine wt (by simpa) ?_|refine wf (by simpa) ?_|refine xt (by simpa) ?_|refine xf (by simpa) ?_|apply wp_bs|apply wp_b|refine wp_sr ?_|refine wp_sx ?_|refine wp_ret' ?_|refine wp_skip' ?_|refine wp_exit' ?_)
          simp [zi410,h2]
        · refine call_of_wp zt410 rfl ?_
          repeat (first|apply wp_as|apply wp_ss|refine wr (by simp [e1,e2,hB,h2,h4];with_reducible rfl) ?_|refine wq (by simp [e1,e2,hB,h2,h4];with_reducible rfl) ?_|refine wt (by simpa [e1,e2,hB,h2,h4]) ?_|refine wf (by simpa [e1,e2,hB,h2,h4]) ?_|refine xt (by simpa [e1,e2,hB,h2,h4]) ?_|refine xf (by simpa [e1,e2,hB,h2,h4]) ?_|apply wp_bs|apply wp_b|refine wp_sr ?_|refine wp_sx ?_|refine wp_ret' ?_|refine wp_skip' ?_|refine wp_exit' ?_)
          refine wp_ra (by simp [e1,e2,hB,h2,h4];with_reducible rfl) (by simp;with_reducible rfl) ?_ ?_
          · intro p hp
            simp only [List.mem_cons,List.not_mem_nil,or_false] at hp
            rcases hp with rfl | rfl | rfl
            · exact ⟨_,by simp [e1,e2,hB,h2,h4];with_reducible rfl,by simp⟩
            · exact ⟨_,by simp [e1,e2,hB,h2,h4];with_reducible rfl,by simp⟩
            · exact ⟨_,by simp [e1,e2,hB,h2,h4];with_reducible rfl,by simp⟩
          repeat (first|apply wp_as|apply wp_ss|refine wr (by simp;with_reducible rfl) ?_|refine wq (by simp;with_reducible rfl) ?_|refine wt (by simpa) ?_|refine wf (by simpa) ?_|refine xt (by simpa) ?_|refine xf (by simpa) ?_|apply wp_bs|apply wp_b|refine wp_sr ?_|refine wp_sx ?_|refine wp_ret' ?_|refine wp_skip' ?_|refine wp_exit' ?_)
          simp [zi410,h2,h4]
      · refine call_of_wp zt410 rfl ?_
        repeat (first|apply wp_as|apply wp_ss|refine wr (by simp [e1,e2,hB,h2,h3];with_reducible rfl) ?_|refine wq (by simp [e1,e2,hB,h2,h3];with_reducible rfl) ?_|refine wt (by simpa [e1,e2,hB,h2,h3]) ?_|refine wf (by simpa [e1,e2,hB,h2,h3]) ?_|refine xt (by simpa [e1,e2,hB,h2,h3]) ?_|refine xf (by simpa [e1,e2,hB,h2,h3]) ?_|apply wp_bs|apply wp_b|refine wp_sr ?_|refine wp_sx ?_|refine wp_ret' ?_|refine wp_skip' ?_|refine wp_exit' ?_)
        refine wp_ra (by simp [e1,e2,hB,h2,h3];with_reducible rfl) (by simp;with_reducible rfl) ?_ ?_
        · intro p hp
          simp only [List.mem_cons,List.not_mem_nil,or_false] at hp
          rcases hp with rfl | rfl | rfl
          · exact ⟨_,by simp [e1,e2,hB,h2,h3];with_reducible rfl,by simp⟩
          · exact ⟨_,by simp [e1,e2,hB,h2,h3];with_reducible rfl,by simp⟩
          · exact ⟨_,by simp [e1,e2,hB,h2,h3];with_reducible rfl,by simp⟩
        repeat (first|apply wp_as|apply wp_ss|refine wr (by simp;with_reducible rfl) ?_|refine wq (by simp;with_reducible rfl) ?_|refine wt (by simpa) ?_|refine wf (by simpa) ?_|refine xt (by simpa) ?_|refine xf (by simpa) ?_|apply wp_bs|apply wp_b|refine wp_sr ?_|refine wp_sx ?_|refine wp_ret' ?_|refine wp_skip' ?_|refine wp_exit' ?_)
        simp [zi410,h2,h3]
  · by_cases h3:x1=r
    · subst h3
      by_cases h4:x2=s
      · subst h4
        refine call_of_wp zt410 rfl ?_
        repeat (first|apply wp_as|apply wp_ss|refine wr (by simp [e1,e2,hB,h1];with_reducible rfl) ?_|refine wq (by simp [e1,e2,hB,h1];with_reducible rfl) ?_|refine wt (by simpa [e1,e2,hB,h1]) ?_|refine wf (by simpa [e1,e2,hB,h1]) ?_|refine xt (by simpa [e1,e2,hB,h1]) ?_|refine xf (by simpa [e1,e2,hB,h1]) ?_|apply wp_bs|apply wp_b|refine wp_sr ?_|refine wp_sx ?_|refine wp_ret' ?_|refine wp_skip' ?_|refine wp_exit' ?_)
        refine wp_ra (by simp [e1,e2,hB,h1];with_reducible rfl) (by simp;with_reducible rfl) ?_ ?_
        · intro p hp
          simp only [List.mem_cons,List.not_mem_nil,or_false] at hp
          rcases hp with rfl | rfl | rfl
          · exact ⟨_,by simp [e1,e2,hB,h1];with_reducible rfl,by simp⟩
          · exact ⟨_,by simp [e1,e2,hB,h1];with_reducible rfl,by simp⟩
          · exact ⟨_,by simp [e1,e2,hB,h1];with_reducible rfl,by simp⟩
        repeat (first|apply wp_as|apply wp_ss|refine wr (by simp;with_reducible rfl) ?_|refine wq (by simp;with_reducible rfl) ?_|refine wt (by simpa) ?_|refine wf (by simpa) ?_|refine xt (by simpa) ?_|refine xf (by simpa) ?_|apply wp_bs|apply wp_b|refine wp_sr ?_|refine wp_sx ?_|refine wp_ret' ?_|refine wp_skip' ?_|refine wp_exit' ?_)
        simp [zi410,h1]
      · refine call_of_wp zt410 rfl ?_
        repeat (first|apply wp_as|apply wp_ss|refine wr (by simp [e1,e2,hB,h1,h4];with_reducible rfl) ?_|refine wq (by simp [e1,e2,hB,h1,h4];with_reducible rfl) ?_|refine wt (by simpa [e1,e2,hB,h1,h4]) ?_|refine wf (by simpa [e1,e2,hB,h1,h4]) ?_|refine xt (by simpa [e1,e2,hB,h1,h4]) ?_|refine xf (by simpa [e1,e2,hB,h1,h4]) ?_|apply wp_bs|apply wp_b|refine wp_sr ?_|refine wp_sx ?_|refine wp_ret' ?_|refine wp_skip' ?_|refine wp_exit' ?_)
        refine wp_ra (by simp [e1,e2,hB,h1,h4];with_reducible rfl) (by simp;with_reducible rfl) ?_ ?_
        · intro p hp
          simp only [List.mem_cons,List.not_mem_nil,or_false] at hp
          rcases hp with rfl | rfl | rfl
          · exact ⟨_,by simp [e1,e2,hB,h1,h4];with_reducible rfl,by simp⟩
          · exact ⟨_,by simp [e1,e2,hB,h1,h4];with_reducible rfl,by simp⟩
          · exact ⟨_,by simp [e1,e2,hB,h1,h4];with_reducible rfl,by simp⟩
        repeat (first|apply wp_as|apply wp_ss|refine wr (by simp;with_reducible rfl) ?_|refine wq (by simp;with_reducible rfl) ?_|refine wt (by simpa) ?_|refine wf (by simpa) ?_|refine xt (by simpa) ?_|refine xf (by simpa) ?_|apply wp_bs|apply wp_b|refine wp_sr ?_|refine wp_sx ?_|refine wp_ret' ?_|refine wp_skip' ?_|refine wp_exit' ?_)
        simp [zi410,h1,h4]
    · refine call_of_wp zt410 rfl ?_
      repeat (first|apply wp_as|apply wp_ss|refine wr (by simp [e1,e2,hB,h1,h3];with_reducible rfl) ?_|refine wq (by simp [e1,e2,hB,h1,h3];with_reducible rfl) ?_|refine wt (by simpa [e1,e2,hB,h1,h3]) ?_|refine wf (by simpa [e1,e2,hB,h1,h3]) ?_|refine xt (by simpa [e1,e2,hB,h1,h3]) ?_|refine xf (by simpa [e1,e2,hB,h1,h3]) ?_|apply wp_bs|apply wp_b|refine wp_sr ?_|refine wp_sx ?_|refine wp_ret' ?_|refine wp_skip' ?_|refine wp_exit' ?_)
      refine wp_ra (by simp [e1,e2,hB,h1,h3];with_reducible rfl) (by simp;with_reducible rfl) ?_ ?_
      · intro p hp
        simp only [List.mem_cons,List.not_mem_nil,or_false] at hp
        rcases hp with rfl | rfl | rfl
        · exact ⟨_,by simp [e1,e2,hB,h1,h3];with_reducible rfl,by simp⟩
        · exact ⟨_,by simp [e1,e2,hB,h1,h3];with_reducible rfl,by simp⟩
        · exact ⟨_,by simp [e1,e2,hB,h1,h3];with_reducible rfl,by simp⟩
      repeat (first|apply wp_as|apply wp_ss|refine wr (by simp;with_reducible rfl) ?_|refine wq (by simp;with_reducible rfl) ?_|refine wt (by simpa) ?_|refine wf (by simpa) ?_|refine xt (by simpa) ?_|refine xf (by simpa) ?_|apply wp_bs|apply wp_b|refine wp_sr ?_|refine wp_sx ?_|refine wp_ret' ?_|refine wp_skip' ?_|refine wp_exit' ?_)
      simp [zi410,h1,h3]
end Go.Idl
namespace Go.Idl
open Go
def swX (es:List (Int×Int)) (a b c d:Int):List (Int×Int):=es.filter (fun x=>!gone a b c d x)++[(min a c,max a c),(min b d,max b d)]
def sw (es:List (Int×Int)) (a b c d:Int):List (Int×Int):=srtE (swX es a b c d)
def mayI (es:List (Int×Int)) (a b c d:Int):Bool:=apart a b c d && hasM es a b && hasM es c d && !hasM es a c && !hasM es b d
theorem hasM_iff {es:List (Int×Int)} {a b:Int}:hasM es a b=true ↔ (min a b,max a b) ∈ es:=by
  simp [hasM]
theorem hasM_no {es:List (Int×Int)} {a b:Int}:hasM es a b=false ↔ (min a b,max a b) ∉ es:=by
  rw [← hasM_iff];simp
theorem mayI_iff {es:List (Int×Int)} {a b c d:Int}:mayI es a b c d=true ↔ (a ≠ b∧a ≠ c∧a ≠ d∧b ≠ c∧b ≠ d∧c ≠ d)∧(min a b,max a b) ∈ es∧(min c d,max c d) ∈ es∧(min a c,max a c) ∉ es∧(min b d,max b d) ∉ es:=by
  rw [mayI]
  simp only [Bool.and_eq_true,Bool.not_eq_true',apart,decide_eq_true_eq,hasM_iff,hasM_no,and_assoc]
theorem vG21 {n:Nat} (hn:n≤7) {es:List (Int×Int)} (h:vGraph n es=true):es.length≤21:=by
  have h1:=(vG_sub h).length_le
  have h2:∀ n,n≤7→(prs n).length≤21:=by decide +kernel
  have:=h2 _ hn
  omega
theorem swX_ok {n:Nat} {es:List (Int×Int)} {a b c d:Int} (h:vGraph n es=true) (hm:mayI es a b c d=true) :
    (swX es a b c d).Nodup∧(∀ e ∈ swX es a b c d,e ∈ prs n)∧vGraph n (sw es a b c d)=true∧(swX es a b c d).length≤21:=by
  obtain ⟨h1,h2,h3⟩:=vG_iff.1 h
  obtain ⟨⟨k1,k2,k3,k4,k5,k6⟩,m1,m2,m3,m4⟩:=mayI_iff.1 hm
  have p1:=mem_prs.1 (h2 _ m1)
  have p2:=mem_prs.1 (h2 _ m2)
  have hn:(swX es a b c d).Nodup:=by
    refine List.nodup_append.2 ⟨(pw_nodup h1).filter _,?_,?_⟩
    · simp only [List.nodup_cons,List.mem_singleton,List.not_mem_nil,not_false_eq_true,List.nodup_nil,and_true,Prod.mk.injEq]
      omega
    · intro x hx y hy hxy
      subst hxy
      have hx:=(List.mem_filter.1 hx).1
      simp only [List.mem_cons,List.not_mem_nil,or_false] at hy
      rcases hy with rfl | rfl
      · exact m3 hx
      · exact m4 hx
  have hp:∀ e ∈ swX es a b c d,e ∈ prs n:=fun e he=>by
    rcases List.mem_append.1 he with he | he
    · exact h2 _ (List.mem_filter.1 he).1
    · simp only [List.mem_cons,List.not_mem_nil,or_false] at he
      simp only at p1 p2
      rcases he with rfl | rfl
      · exact mem_prs.2 (by simp only;omega)
      · exact mem_prs.2 (by simp only;omega)
  have hv:vGraph n (sw es a b c d)=true:=vG_iff.2 ⟨srtE_pw hn,fun e he=>hp e ((srtE_perm _).mem_iff.1 he),h3⟩
  refine ⟨hn,hp,hv,?_⟩
  have:=vG21 h3 hv
  rw [sw,(srtE_perm _).length_eq] at this
  exact this
abbrev OS (n:Nat) (es:List (Int×Int)) (a b c d:Int):IV:=if mayI es a b c d then .tup [OG n (sw es a b c d),Bo true] else .tup [.agg [I 0,Z],Bo false]
set_option maxHeartbeats 4000000 in
theorem ev_change (n:Nat) (es:List (Int×Int)) (cc:Bool) (a b c d:Int) (hv:vGraph n es=true):Ev tb zl167 [] [Gr n es cc,Sw a b c d] [] ⟨OS n es a b c d,[],[],[]⟩:=by
  have hn7:=(vG_iff.1 hv).2.2
  have h21:=vG21 hn7 hv
  have ea:=fun M=>ev_lim (ev_apart a b c d M)
  have eh:=fun c' a b M=>ev_lim (ev_has n 2 es c' a b (.inl rfl) (by omega) M)
  cases h1:apart a b c d with
  | false =>
    have hm:mayI es a b c d=false:=by simp [mayI,h1]
    rw [OS,hm]
    refine call_of_wp zt167 rfl ?_
    repeat (first|apply wp_as|apply wp_ss|refine wr (by simp [ea,eh,h1];with_reducible rfl) ?_|refine wq (by simp [ea,eh,h1];with_reducible rfl) ?_|refine wt (by simpa [ea,eh,h1]) ?_|refine wf (by simpa [ea,eh,h1]) ?_|refine xt (by simpa [ea,eh,h1]) ?_|refine xf (by simpa [ea,eh,h1]) ?_|apply wp_bs|apply wp_b|refine wp_sr ?_|refine wp_sx ?_|refine wp_ret' ?_|refine wp_skip' ?_|refine wp_exit' ?_)
    simp [zi167]
  | true =>
  cases h2:hasM es a b with
  | false =>
    have hm:mayI es a b c d=false:=by simp [mayI,h2]
    rw [OS,hm]
    refine call_of_wp zt167 rfl ?_
    repeat (first|apply wp_as|apply wp_ss|refine wr (by simp [ea,eh,h1,h2];with_reducible rfl) ?_|refine wq (by simp [ea,eh,h1,h2];with_reducible rfl) ?_|refine wt (by simpa [ea,eh,h1,h2]) ?_|refine wf (by simpa [ea,eh,h1,h2]) ?_|refine xt (by simpa [ea,eh,h1,h2]) ?_|refine xf (by simpa [ea,eh,h1,h2]) ?_|apply wp_bs|apply wp_b|refine wp_sr ?_|refine wp_sx ?_|refine wp_ret' ?_|refine wp_skip' ?_|refine wp_exit' ?_)
    simp [zi167]
  | true =>
  cases h3:hasM es c d with
  | false =>
    have hm:mayI es a b c d=false:=by simp [mayI,h3]
    rw [OS,hm]
    refine call_of_wp zt167 rfl ?_
    repeat (first|apply wp_as|apply wp_ss|refine wr (by simp [ea,eh,h1,h2,h3];with_reducible rfl) ?_|refine wq (by simp [ea,eh,h1,h2,h3];with_reducible rfl) ?_|refine wt (by simpa [ea,eh,h1,h2,h3]) ?_|refine wf (by simpa [ea,eh,h1,h2,h3]) ?_|refine xt (by simpa [ea,eh,h1,h2,h3]) ?_|refine xf (by simpa [ea,eh,h1,h2,h3]) ?_|apply wp_bs|apply wp_b|refine wp_sr ?_|refine wp_sx ?_|refine wp_ret' ?_|refine wp_skip' ?_|refine wp_exit' ?_)
    simp [zi167]
  | true =>
  cases h4:hasM es a c with
  | true =>
    have hm:mayI es a b c d=false:=by simp [mayI,h4]
    rw [OS,hm]
    refine call_of_wp zt167 rfl ?_
    repeat (first|apply wp_as|apply wp_ss|refine wr (by simp [ea,eh,h1,h2,h3,h4];with_reducible rfl) ?_|refine wq (by simp [ea,eh,h1,h2,h3,h4];with_reducible rfl) ?_|refine wt (by simpa [ea,eh,h1,h2,h3,h4]) ?_|refine wf (by simpa [ea,eh,h1,h2,h3,h4]) ?_|refine xt (by simpa [ea,eh,h1,h2,h3,h4]) ?_|refine xf (by simpa [ea,eh,h1,h2,h3,h4]) ?_|apply wp_bs|apply wp_b|refine wp_sr ?_|refine wp_sx ?_|refine wp_ret' ?_|refine wp_skip' ?_|refine wp_exit' ?_)
    simp [zi167]
  | false =>
  cases h5:hasM es b d with
  | true =>
    have hm:mayI es a b c d=false:=by simp [mayI,h5]
    rw [OS,hm]
    refine call_of_wp zt167 rfl ?_
    repeat (first|apply wp_as|apply wp_ss|refine wr (by simp [ea,eh,h1,h2,h3,h4,h5];with_reducible rfl) ?_|refine wq (by simp [ea,eh,h1,h2,h3,h4,h5];with_reducible rfl) ?_|refine wt (by simpa [ea,eh,h1,h2,h3,h4,h5]) ?_|refine wf (by simpa [ea,eh,h1,h2,h3,h4,h5]) ?_|refine xt (by simpa [ea,eh,h1,h2,h3,h4,h5]) ?_|refine xf (by simpa [ea,eh,h1,h2,h3,h4,h5]) ?_|apply wp_bs|apply wp_b|refine wp_sr ?_|refine wp_sx ?_|refine wp_ret' ?_|refine wp_skip' ?_|refine wp_exit' ?_)
    simp [zi167]
  | false =>
  have hm:mayI es a b c d=true:=by simp [mayI,h1,h2,h3,h4,h5]
  obtain ⟨q1,q2,q3,q4⟩:=swX_ok hv hm
  rw [OS,hm]
  have ec:=fun c'=>ev_lim (ev_Clone2 2 es c' (.inl rfl) (by omega))
  have ed:=ev_lim (ev_DeleteFuncE es zl410 [.bptr 0 1 0] [[[I n,L2 es cc],[I a,I b,I c,I d],[I 0,Z]]] (gone a b c d) (by omega) (fun bs M' x _=>ev_change_F1 x a b c d _ 1 rfl _))
  have ee:=fun a b M=>ev_lim (ev_edge a b M)
  have em:=fun c'=>ev_lim (ev_made n 2 (swX es a b c d) c' (.inl rfl) (fun x hx=>by have:=mem_prs.1 (q2 x hx);simp only [DE];omega) q1 q4)
  have hf:Fit (sw es a b c d):=fun e he=>by have:=mem_prs.1 ((vG_iff.1 q3).2.1 e he);omega
  have hl:(sw es a b c d).length≤21:=vG21 hn7 q3
  have ev:=fun c'=>ev_lim (ev_ValidGraph n (sw es a b c d) c' hf (by omega))
  rw [q3] at ev
  rw [show srtE (swX es a b c d)=sw es a b c d from rfl] at em
  simp only [swX] at em
  have hG:(es.filter (fun x=>!gone a b c d x)).length≤274877906942:=by have:=List.length_filter_le (fun x=>!gone a b c d x) es;omega
  generalize sw es a b c d=R at *
  generalize es.filter (fun x=>!gone a b c d x)=G at *
  have hT:frzLL (List.take (G.length+2) (eds G++[[I (min a c),I (max a c)],[I (min b d),I (max b d)]]))=eds (G++[(min a c,max a c),(min b d,max b d)]):=by
    rw [List.take_of_length_le (by simp),← frz_eds (G++[(min a c,max a c),(min b d,max b d)]),← eds_app]
    rfl
  refine call_of_wp zt167 rfl ?_
  repeat (first|apply wp_as|apply wp_ss|refine wr (by simp [ea,eh,h1,h2,h3,h4,h5,ec,ed];with_reducible rfl) ?_|refine wq (by simp [ea,eh,h1,h2,h3,h4,h5,ec,ed];with_reducible rfl) ?_|refine wt (by simpa [ea,eh,h1,h2,h3,h4,h5,ec,ed]) ?_|refine wf (by simpa [ea,eh,h1,h2,h3,h4,h5,ec,ed]) ?_|refine xt (by simpa [ea,eh,h1,h2,h3,h4,h5,ec,ed]) ?_|refine xf (by simpa [ea,eh,h1,h2,h3,h4,h5,ec,ed]) ?_|apply wp_bs|apply wp_b|refine wp_sr ?_|refine wp_sx ?_|refine wp_ret' ?_|refine wp_skip' ?_|refine wp_exit' ?_)
  refine wp_rds rfl (by simp [ee,em,hG,hT];with_reducible rfl) (by simp;with_reducible rfl) ?_ ?_
  · intro p hp
    simp only [List.mem_cons,List.not_mem_nil,or_false] at hp
    rcases hp with rfl | rfl | rfl | rfl | rfl | rfl | rfl | rfl | rfl | rfl | rfl
    · exact ⟨_,by simp [ee,em,hG,hT];with_reducible rfl,by simp⟩
    · exact ⟨_,by simp [ee,em,hG,hT];with_reducible rfl,by simp⟩
    · exact ⟨_,by simp [ee,em,hG,hT];with_reducible rfl,by simp⟩
    · exact ⟨_,by simp [ee,em,hG,hT];with_reducible rfl,by simp⟩
    · exact ⟨_,by simp [ee,em,hG,hT];with_reducible rfl,by simp⟩
    · exact ⟨_,by simp [ee,em,hG,hT];with_reducible rfl,by simp⟩
    · exact ⟨_,by simp [ee,em,hG,hT];with_reducible rfl,by simp⟩
    · exact ⟨_,by simp [ee,em,hG,hT];with_reducible rfl,by simp⟩
    · exact ⟨_,by simp [ee,em,hG,hT];with_reducible rfl,by simp⟩
    · exact ⟨_,by simp [ee,em,hG,hT];with_reducible rfl,by simp⟩
    · exact ⟨_,by simp [ee,em,hG,hT];with_reducible rfl,by simp⟩
  repeat (first|apply wp_as|apply wp_ss|refine wr (by simp [ev];with_reducible rfl) ?_|refine wq (by simp [ev];with_reducible rfl) ?_|refine wt (by simpa [ev]) ?_|refine wf (by simpa [ev]) ?_|refine xt (by simpa [ev]) ?_|refine xf (by simpa [ev]) ?_|apply wp_bs|apply wp_b|refine wp_sr ?_|refine wp_sx ?_|refine wp_ret' ?_|refine wp_skip' ?_|refine wp_exit' ?_)
  refine wp_ra (by simp [ev];with_reducible rfl) (by simp;with_reducible rfl) ?_ ?_
  · intro p hp
    simp only [List.mem_cons,List.not_mem_nil,or_false] at hp
    subst hp
    exact ⟨_,by simp [ev];with_reducible rfl,by simp⟩
  repeat (first|apply wp_as|apply wp_ss|refine wr (by simp;with_reducible rfl) ?_|refine wq (by simp;with_reducible rfl) ?_|refine wt (by simpa) ?_|refine wf (by simpa) ?_|refine xt (by simpa) ?_|refine xf (by simpa) ?_|apply wp_bs|apply wp_b|refine wp_sr ?_|refine wp_sx ?_|refine wp_ret' ?_|refine wp_skip' ?_|refine wp_exit' ?_)
  simp [zi167]
end Go.Idl
