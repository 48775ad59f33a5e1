/- Part 6 of a proof by an ideal interpreter of the code: its definitions and lemmas. Conditions: none. -/
import Derived.KernelRfl
import Derived.Test.YtpbpoajmibfliaaA5
set_option linter.all false
set_option linter.unusedVariables false
set_option linter.unusedSimpArgs false
namespace Go.Idl
open Go
theorem ev_in (n lo hi:Int):Ev tb zl38 [] [I n,I lo,I hi] [] ⟨Bo (decide (lo≤n) && decide (n≤hi)),[],[],[]⟩:=by
  refine call_of_wp zt38 rfl ?_
  refine wp_rs (by simp;rfl) (by simp;rfl) ?_
  by_cases h:lo≤n
  · refine wp_rs (by simp [h];rfl) (by simp;rfl) ?_
    refine wp_ret' ?_
    simp [h,zi38]
  · refine wp_rs (by simp [h];rfl) (by simp;rfl) ?_
    refine wp_ret' ?_
    simp [h,zi38]
theorem ev_inRange (n lo hi:Int):Ev tb zl132 [] [I n,I lo,I hi] [] ⟨Bo (decide (lo≤n) && decide (n≤hi)),[],[],[]⟩:=by
  refine call_of_wp zt132 rfl ?_
  refine wp_rs (by simp;rfl) (by simp;rfl) ?_
  by_cases h:lo≤n
  · refine wp_rs (by simp [h];rfl) (by simp;rfl) ?_
    refine wp_ret' ?_
    simp [h,zi132]
  · refine wp_rs (by simp [h];rfl) (by simp;rfl) ?_
    refine wp_ret' ?_
    simp [h,zi132]
def SmallSum (xs:List Int):Prop:=xs.length≤2000000∧∀ k,-4611686018427387904≤(xs.take k).sum∧(xs.take k).sum≤4611686018427387904
theorem ev_Clip (xs:List Int):Ev tb zl70 [] [.own 1 (ints xs)] [] ⟨.own 1 (ints xs),[],[],[]⟩:=by
  refine call_of_wp zt70 rfl ?_
  refine wp_rs (by simp;rfl) (by simp;rfl) ?_
  refine wp_rs (by simp;rfl) (by simp;rfl) ?_
  refine wp_ret' ?_
  simp [zi70]
theorem ev_Clone (xs:List Int) (c:Bool) (hl:xs.length≤2000000):Ev tb zl71 [] [.lst 1 (ints xs) c] [] ⟨.own 1 (ints xs),[],[],[]⟩:=by
  refine call_of_wp zt71 rfl ?_
  refine wp_rs (by simp;rfl) (by simp;rfl) ?_
  refine wp_nil2 (b:=xs.isEmpty) (by simp [z71r1];rfl) (by simp) ?_ ?_ ?_ (ex:=.ret) (st':={ T:=[(2,.own 1 (ints xs))],loc:=[],M:=[] })
  · refine wp_ct (t:=false) (by simp) (by simp) fun _=>wp_ss ?_
    refine wp_rs (by simp [show xs.length≤274877906944 by omega];rfl) (by simp;rfl) ?_
    refine wp_ret' ?_
    simp
  · intro he
    have:xs=[]:=by simpa using he
    subst this
    refine wp_ct (t:=true) (by simp) (fun _=>wp_as ?_) (by simp)
    refine wp_rs (by simp;rfl) (by simp;rfl) ?_
    refine wp_sr ?_
    simp
  · simp [zi71]
theorem ev_clone (xs:List Int) (c:Bool) (hl:xs.length≤2000000) :
    Ev tb zl31 [] [.lst 1 (ints xs) c] [] ⟨.own 1 (ints xs),[],[],[]⟩:=by
  have e1:=ev_lim (ev_Clone xs c hl)
  have e2:=ev_lim (ev_Clip xs)
  refine call_of_wp zt31 rfl ?_
  refine wp_rs (by simp;rfl) (by simp;rfl) ?_
  refine wp_rs (by simp [e1,e2];rfl) (by simp;rfl) ?_
  refine wp_ret' ?_
  simp [zi31]
end Go.Idl
namespace Go.Idl
def insD (x:Int):List Int→List Int
  | []=>[x]
  | y::ys=>if x≤y then y::insD x ys else x::y::ys
def fall (xs:List Int):List Int:=xs.foldl (fun out x=>insD x out) []
abbrev Desc (xs:List Int):Prop:=xs.Pairwise (fun a b=>b≤a)
theorem insD_perm (x:Int) (ys:List Int):(insD x ys).Perm (x::ys):=by
  induction ys with
  | nil=>exact .refl _
  | cons y ys ih =>
    unfold insD
    split
    · exact (ih.cons y).trans (.swap x y ys)
    · exact .refl _
theorem insD_desc (x:Int) (ys:List Int) (h:Desc ys):Desc (insD x ys):=by
  induction ys with
  | nil=>simp [insD]
  | cons y ys ih =>
    unfold insD
    have h:=List.pairwise_cons.1 h
    split
    · refine List.pairwise_cons.2 ⟨fun a ha=>?_,ih h.2⟩
      rcases List.mem_cons.1 ((insD_perm x ys).mem_iff.1 ha) with rfl | ha
      · assumption
      · exact h.1 a ha
    · rename_i hx
      refine List.pairwise_cons.2 ⟨fun a ha=>?_,List.pairwise_cons.2 h⟩
      rcases List.mem_cons.1 ha with rfl | ha
      · omega
      · have:=h.1 a ha;omega
theorem fall_aux (xs:List Int):∀ ys,Desc ys→Desc (xs.foldl (fun out x=>insD x out) ys)∧(xs.foldl (fun out x=>insD x out) ys).Perm (xs++ys):=by
  induction xs with
  | nil=>intro ys h;exact ⟨h,.refl _⟩
  | cons x xs ih =>
    intro ys h
    obtain ⟨h1,h2⟩:=ih (insD x ys) (insD_desc x ys h)
    refine ⟨h1,h2.trans ?_⟩
    exact ((insD_perm x ys).append_left xs).trans List.perm_middle
theorem fall_desc (xs:List Int):Desc (fall xs):=(fall_aux xs [] .nil).1
theorem fall_perm (xs:List Int):(fall xs).Perm xs:=by simpa [fall] using (fall_aux xs [] .nil).2
theorem fall_len (xs:List Int):(fall xs).length=xs.length:=(fall_perm xs).length_eq
theorem perm_sum {xs ys:List Int} (h:xs.Perm ys):xs.sum=ys.sum:=by
  induction h with
  | nil=>rfl
  | cons x _ ih=>simp [ih]
  | swap x y l=>simp;omega
  | trans _ _ h1 h2=>exact h1.trans h2
theorem fall_sum (xs:List Int):(fall xs).sum=xs.sum:=perm_sum (fall_perm xs)
theorem fall_mem {xs:List Int} {x:Int}:x ∈ fall xs ↔ x ∈ xs:=(fall_perm xs).mem_iff
end Go.Idl
namespace Go.Idl
open Go
abbrev L (xs:List Int) (c:Bool:=false):IV:=.lst 1 (ints xs) c
abbrev O (xs:List Int):IV:=.own 1 (ints xs)
theorem wrapU {n:Nat} (h:n < 2000000):IntKind.u64.wrap (n:Int)=(n:Int):=by
  have e1:(2:Int) ^ IntKind.u64.bits=18446744073709551616:=by decide
  have e3:IntKind.u64.signed=false:=rfl
  unfold IntKind.wrap
  rw [e1,e3]
  simp
  omega
end Go.Idl
namespace Go.Idl
open Go
def valid (d:List Int):Bool:=decide (d.length≤7) && d.all fun x=>decide (0≤x) && decide (x < d.length)
end Go.Idl
namespace Go.Idl
open Go
def bytes (xs:List Int):List (List IV):=xs.map fun n=>[.sc (.int .u8 n)]
@[simp] theorem bytes_len (xs:List Int):(bytes xs).length=xs.length:=by simp [bytes]
@[simp] theorem bytes_take (xs:List Int) (n:Nat):(bytes xs).take n=bytes (xs.take n):=by simp [bytes,List.map_take]
@[simp] theorem bytes_get? (xs:List Int) (i:Nat):(bytes xs)[i]? = xs[i]?.map fun n=>[IV.sc (.int .u8 n)]:=by simp [bytes]
@[simp] theorem bytes_get (xs:List Int) (i:Nat) (h:i < (bytes xs).length):(bytes xs)[i]=[IV.sc (.int .u8 (xs[i]'(by simpa [bytes] using h)))]:=by simp [bytes]
@[simp] theorem bytes_emp (xs:List Int):(bytes xs).isEmpty=xs.isEmpty:=by cases xs <;> rfl
@[simp] theorem bytes_all1 (xs:List Int):((bytes xs).all fun x=>x.all IV.plain1)=true:=by
  induction xs with
  | nil=>rfl
  | cons x xs ih=>simp only [bytes,List.map_cons,List.all_cons] at *;rw [ih];rfl
@[simp] theorem bytes_all2 (xs:List Int):((bytes xs).all fun x=>x.all IV.isData)=true:=by
  induction xs with
  | nil=>rfl
  | cons x xs ih=>simp only [bytes,List.map_cons,List.all_cons] at *;rw [ih];rfl
@[simp] theorem bytes_noLst (xs:List Int):noLstLL (bytes xs)=true:=by
  induction xs with
  | nil=>rfl
  | cons x xs ih=>simp only [bytes,List.map_cons,noLstLL,noLstL,noLstV] at *;rw [ih];rfl
abbrev R (code:List Int) (c:Bool) (n:Int):List IV:=[.lst 1 (bytes code) c,I n]
end Go.Idl
namespace Go.Idl
open Go
def eds (xs:List (Int×Int)):List (List IV):=xs.map fun e=>[I e.1,I e.2]
abbrev L2 (xs:List (Int×Int)) (c:Bool:=false):IV:=.lst 2 (eds xs) c
abbrev O2 (xs:List (Int×Int)):IV:=.own 2 (eds xs)
@[simp] theorem eds_len (xs:List (Int×Int)):(eds xs).length=xs.length:=by simp [eds]
@[simp] theorem eds_nil:eds []=[]:=rfl
@[simp] theorem eds_take (xs:List (Int×Int)) (n:Nat):(eds xs).take n=eds (xs.take n):=by simp [eds,List.map_take]
@[simp] theorem eds_drop (xs:List (Int×Int)) (n:Nat):(eds xs).drop n=eds (xs.drop n):=by simp [eds,List.map_drop]
@[simp] theorem eds_app (xs ys:List (Int×Int)):eds xs++eds ys=eds (xs++ys):=by simp [eds]
@[simp] theorem eds_one (xs:List (Int×Int)) (a b:Int):eds xs++[[IV.sc (.int .i64 a),IV.sc (.int .i64 b)]]=eds (xs++[(a,b)]):=by simp [eds]
@[simp] theorem eds_get? (xs:List (Int×Int)) (i:Nat):(eds xs)[i]? = xs[i]?.map fun e=>[IV.sc (.int .i64 e.1),IV.sc (.int .i64 e.2)]:=by simp [eds]
@[simp] theorem eds_get (xs:List (Int×Int)) (i:Nat) (h:i < (eds xs).length):(eds xs)[i]=[IV.sc (.int .i64 (xs[i]'(by simpa [eds] using h)).1),IV.sc (.int .i64 (xs[i]'(by simpa [eds] using h)).2)]:=by simp [eds]
@[simp] theorem eds_emp (xs:List (Int×Int)):(eds xs).isEmpty=xs.isEmpty:=by cases xs <;> rfl
@[simp] theorem eds_set (xs:List (Int×Int)) (i:Nat) (a b:Int):(eds xs).set i [IV.sc (.int .i64 a),IV.sc (.int .i64 b)]=eds (xs.set i (a,b)):=by
  simp [eds,List.map_set]
@[simp] theorem eds_all1 (xs:List (Int×Int)):((eds xs).all fun x=>x.all IV.plain1)=true:=by
  induction xs with
  | nil=>rfl
  | cons x xs ih=>simp only [eds,List.map_cons,List.all_cons] at *;rw [ih];rfl
@[simp] theorem eds_all2 (xs:List (Int×Int)):((eds xs).all fun x=>x.all IV.isData)=true:=by
  induction xs with
  | nil=>rfl
  | cons x xs ih=>simp only [eds,List.map_cons,List.all_cons] at *;rw [ih];rfl
@[simp] theorem eds_noLst (xs:List (Int×Int)):noLstLL (eds xs)=true:=by
  induction xs with
  | nil=>rfl
  | cons x xs ih=>simp only [eds,List.map_cons,noLstLL,noLstL,noLstV] at *;rw [ih];rfl
@[simp] theorem frz_eds (xs:List (Int×Int)):frzLL (eds xs)=eds xs:=by
  induction xs with
  | nil=>rfl
  | cons x xs ih=>simp only [eds,List.map_cons,frzLL,frzL,frzV] at *;rw [ih]
def row (a b:Nat):Nat→List (Int×Int)
  | 0=>[]
  | m+1=>((a:Int),(b:Int))::row a (b+1) m
def prsF (a:Nat):Nat→List (Int×Int)
  | 0=>[]
  | m+1=>row a (a+1) m++prsF (a+1) m
def prs (n:Nat):List (Int×Int):=prsF 0 n
abbrev Gr (n:Int) (es:List (Int×Int)) (c:Bool:=false):IV:=.agg [I n,L2 es c]
abbrev OG (n:Int) (es:List (Int×Int)):IV:=.agg [I n,O2 es]
def isE (a b:Int) (e:Int×Int):Bool:=decide (e.1=a) && decide (e.2=b) || decide (e.1=b) && decide (e.2=a)
def has (es:List (Int×Int)) (a b:Int):Bool:=es.any (isE a b)
end Go.Idl
namespace Go.Idl
theorem sumB {B:Int} (hB:0≤B):∀ {xs:List Int},(∀ x ∈ xs,0≤x∧x≤B)→0≤xs.sum∧xs.sum≤B * xs.length
  | [],_=>by simp
  | x::r,h=>by
    have h1:=h x (by simp)
    have h2:=sumB hB (xs:=r) (fun y hy=>h y (by simp [hy]))
    have e:B * ((x::r).length:Int)=B * r.length+B:=by
      rw [List.length_cons,Int.natCast_add,Int.mul_add];simp
    rw [List.sum_cons,e]
    omega
def slk (s:List Int) (k:Nat):Int:=(k:Int) * ((k:Int) - 1) - (s.take k).sum+((s.drop k).map fun x:Int=>min x (k:Int)).sum
def slacks (d:List Int):List Int:=(List.range d.length).map fun i=>slk (fall d) (i+1)
def least (xs:List Int):Int:=xs.foldl (fun n x=>min n x) 0
end Go.Idl
namespace Go.Idl
open Go
abbrev Z:IV:=.lst 0 [] true
def Few (xs:List Int):Prop:=xs.length≤7∧∀ x ∈ xs,0≤x∧x≤6
theorem valid_few {xs:List Int} (h:valid xs=true):Few xs:=by
  simp only [valid,Bool.and_eq_true,decide_eq_true_eq,List.all_eq_true] at h
  refine ⟨h.1,fun x hx=>?_⟩
  have:=h.2 x hx
  omega
theorem valid_mem {xs:List Int} (h:valid xs=true):∀ x ∈ xs,0≤x∧x < xs.length:=by
  simp only [valid,Bool.and_eq_true,decide_eq_true_eq,List.all_eq_true] at h
  exact h.2
theorem Few.small {xs:List Int} (h:Few xs):SmallSum xs:=by
  refine ⟨by have:=h.1;omega,fun k=>?_⟩
  have h1:=sumB (B:=6) (by omega) (xs:=xs.take k) (fun x hx=>h.2 x (List.mem_of_mem_take hx))
  have h2:(xs.take k).length≤7:=by have:=h.1;simp;omega
  omega
theorem Few.take {xs:List Int} (h:Few xs) (k:Nat):Few (xs.take k):=⟨by have:=h.1;simp;omega,fun x hx=>h.2 x (List.mem_of_mem_take hx)⟩
theorem Few.drop {xs:List Int} (h:Few xs) (k:Nat):Few (xs.drop k):=⟨by have:=h.1;simp;omega,fun x hx=>h.2 x (List.mem_of_mem_drop hx)⟩
theorem Few.fall {xs:List Int} (h:Few xs):Few (fall xs):=⟨by rw [fall_len];exact h.1,fun x hx=>h.2 x (fall_mem.1 hx)⟩
theorem Few.sum {xs:List Int} (h:Few xs):0≤xs.sum∧xs.sum≤42:=by
  have h1:=sumB (B:=6) (by omega) h.2
  have:=h.1
  omega
def mapR (n:Nat) (g:Nat→Int):List Int:=(List.range n).map g
@[simp] theorem ints_rep (n:Nat):List.replicate n [IV.sc (.int .i64 0)]=ints (List.replicate n 0):=by simp [ints]
def graphic (d:List Int):Bool:=valid d && decide (d.sum % 2=0) && (slacks d).all fun x=>decide (0≤x)
end Go.Idl
namespace Go.Idl
open Go
def bump (o:List Int) (i:Nat):List Int:=o.set i (o.getD i 0+1)
def dfold (o:List Int) (es:List (Int×Int)):List Int:=es.foldl (fun o e=>bump (bump o e.1.toNat) e.2.toNat) o
def degs (n:Nat) (es:List (Int×Int)):List Int:=dfold (List.replicate n 0) es
def EdgesIn (n:Nat) (es:List (Int×Int)):Prop:=∀ e ∈ es,0≤e.1∧e.1 < n∧0≤e.2∧e.2 < n
theorem bump_len (o:List Int) (i:Nat):(bump o i).length=o.length:=by simp [bump]
theorem bump_eq {o:List Int} {i:Nat} (h:i < o.length):bump o i=o.set i (o[i]+1):=by
  simp [bump,List.getD_eq_getElem?_getD,List.getElem?_eq_getElem h]
theorem bump_bound {o:List Int} {i:Nat} {B:Int} (h:∀ x ∈ o,0≤x∧x≤B) (hB:0≤B):∀ x ∈ bump o i,0≤x∧x≤B+1:=by
  intro x hx
  rcases List.mem_or_eq_of_mem_set hx with hx | rfl
  · have:=h x hx;omega
  · rw [List.getD_eq_getElem?_getD]
    cases he:o[i]? with
    | none=>simp;omega
    | some y=>have:=h y (List.mem_of_getElem? he);simp;omega
theorem dfold_len:∀ (es:List (Int×Int)) (o:List Int),(dfold o es).length=o.length
  | [],o=>rfl
  | e::es,o=>by simp only [dfold,List.foldl_cons];rw [← dfold,dfold_len es];simp [bump_len]
theorem ev_degrees (n:Nat) (es:List (Int×Int)) (c:Bool) (hn:n≤1000) (hl:es.length≤1000) (he:EdgesIn n es) :
    Ev tb zl125 [] [Gr n es c] [] ⟨O (degs n es),[],[],[]⟩:=by
  have loop:∀ (m i:Nat) (out:List Int),i+m=es.length→out.length=n→(∀ x ∈ out,0≤x∧x≤2 * i) →
      wp tb (.loop z125l7) { T:=[(1,.bptr 0 0 0),(3,O out),(4,I i)],loc:=[[I n,L2 es c]],M:=[] }
      (fun ex st=>ex=.exit 0∧st={ T:=[(1,.bptr 0 0 0),(3,O (dfold out (es.drop i))),(4,I es.length),(12,Bo false)],loc:=[[I n,L2 es c]],M:=[] }):=by
    intro m
    induction m with
    | zero =>
      intro i out hi ho hb
      have h3:i=es.length:=hi
      subst h3
      refine wp_loop ?_
      repeat (first|apply wp_as|apply wp_ss|refine wr (by simp;with_reducible rfl) ?_|refine wq (by simp;with_reducible rfl) ?_|refine wt (by simpa) ?_|refine wf (by simpa) ?_|refine xt (by simpa) ?_|refine xf (by simpa) ?_|apply wp_bs|apply wp_b|refine wp_sr ?_|refine wp_sx ?_|refine wp_ret' ?_|refine wp_skip' ?_|refine wp_exit' ?_)
      simp [dfold]
    | succ m ih =>
      intro i out hi ho hb
      have hi2:i < es.length:=by omega
      have w1:IntKind.i64.wrap ((i:Int)+1)=((i+1:Nat):Int):=wrapS (by omega)
      have hd:es.drop i=es[i]::es.drop (i+1):=List.drop_eq_getElem_cons hi2
      have hei:=he es[i] (List.getElem_mem hi2)
      obtain ⟨p,q,hpq,hp,hq⟩:∃ p q:Nat,es[i]=((p:Int),(q:Int))∧p < n∧q < n:=⟨es[i].1.toNat,es[i].2.toNat,by ext <;> simp <;> omega,by omega,by omega⟩
      rw [hd,hpq]
      have hpo:p < out.length:=by omega
      have hx:=hb out[p] (List.getElem_mem hpo)
      have w2:IntKind.i64.wrap (out[p]+1)=out[p]+1:=wrap64 (by omega) (by omega)
      have e1:=bump_eq hpo
      have b1:=bump_bound (i:=p) hb (by omega)
      have l1:=bump_len out p
      have hstep:dfold out (((p:Int),(q:Int))::es.drop (i+1))=dfold (bump (bump out p) q) (es.drop (i+1)):=rfl
      rw [hstep]
      refine wp_loop ?_
      refine wp_as (wp_rs (by simp;with_reducible rfl) (by simp;with_reducible rfl) ?_)
      refine wp_ct (t:=true) (by simp [hi2]) (fun _=>wp_ss ?_) (by simp)
      refine wp_bs ?_
      refine wr (by simp [hi2,hpq,hpo,w2,← e1];with_reducible rfl) ?_
      generalize bump out p=out1 at *
      have hqo:q < out1.length:=by omega
      have hx2:=b1 out1[q] (List.getElem_mem hqo)
      have w3:IntKind.i64.wrap (out1[q]+1)=out1[q]+1:=wrap64 (by omega) (by omega)
      have e2:=bump_eq hqo
      have b2:=bump_bound (i:=q) b1 (by omega)
      have l2:=bump_len out1 q
      refine wq (by simp [hi2,hpq,hqo,w3,← e2];with_reducible rfl) ?_
      repeat (first|apply wp_as|apply wp_ss|refine wr (by simp [w1];with_reducible rfl) ?_|refine wq (by simp [w1];with_reducible rfl) ?_|refine wt (by simpa [w1]) ?_|refine wf (by simpa [w1]) ?_|refine xt (by simpa [w1]) ?_|refine xf (by simpa [w1]) ?_|apply wp_bs|apply wp_b|refine wp_sr ?_|refine wp_sx ?_|refine wp_ret' ?_|refine wp_skip' ?_|refine wp_exit' ?_)
      exact ih (i+1) (bump out1 q) (by omega) (by omega) (fun x hx=>by have:=b2 x hx;omega)
  refine call_of_wp zt125 rfl ?_
  repeat (first|apply wp_as|apply wp_ss|refine wr (by simp [show n≤274877906944 by omega];with_reducible rfl) ?_|refine wq (by simp [show n≤274877906944 by omega];with_reducible rfl) ?_|refine wt (by simpa [show n≤274877906944 by omega]) ?_|refine wf (by simpa [show n≤274877906944 by omega]) ?_|refine xt (by simpa [show n≤274877906944 by omega]) ?_|refine xf (by simpa [show n≤274877906944 by omega]) ?_|apply wp_bs|apply wp_b|refine wp_sr ?_|refine wp_sx ?_|refine wp_ret' ?_|refine wp_skip' ?_|refine wp_exit' ?_)
  have:=loop es.length 0 (List.replicate n 0) (by simp) (by simp) (by intro x hx;have:=List.eq_of_mem_replicate hx;subst this;simp)
  simp at this
  refine wp_imp this ?_
  rintro ex st ⟨rfl,rfl⟩
  simp only [if_true]
  repeat (first|apply wp_as|apply wp_ss|refine wr (by simp;with_reducible rfl) ?_|refine wq (by simp;with_reducible rfl) ?_|refine wt (by simpa) ?_|refine wf (by simpa) ?_|refine xt (by simpa) ?_|refine xf (by simpa) ?_|apply wp_bs|apply wp_b|refine wp_sr ?_|refine wp_sx ?_|refine wp_ret' ?_|refine wp_skip' ?_|refine wp_exit' ?_)
  simp [zi125,degs]
def Low (B:Int) (d:List Int):Prop:=∀ x ∈ d,-B≤x∧x≤B
theorem Low.set {B:Int} {d:List Int} (h:Low B d) {i:Nat} {x:Int} (hx:-B≤x∧x≤B):Low B (d.set i x):=by
  intro y hy
  rcases List.mem_or_eq_of_mem_set hy with hy | rfl
  · exact h y hy
  · exact hx
theorem Low.app {B:Int} {d:List Int} (h:Low B d) {x:Int} (hx:-B≤x∧x≤B):Low B (d++[x]):=by
  intro y hy
  rcases List.mem_append.1 hy with hy | hy
  · exact h y hy
  · simp at hy;subst hy;exact hx
theorem Low.mono {B C:Int} {d:List Int} (h:Low B d) (hc:B≤C):Low C d:=fun x hx=>by have:=h x hx;omega
end Go.Idl
namespace Go.Idl
def insC {α:Type} (lt:α→α→Bool) (x:α):List α→List α→List α
  | [],B=>x::B
  | a::r,B=>if lt x a then insC lt x r (a::B) else r.reverse++a::x::B
def srtC {α:Type} (lt:α→α→Bool):List α→List α→List α
  | S,[]=>S
  | S,x::r=>srtC lt (insC lt x S.reverse []) r
theorem insC_perm {α:Type} (lt:α→α→Bool) (x:α):∀ (r B:List α),(insC lt x r B).Perm (r.reverse++x::B)
  | [],B=>.refl _
  | a::r,B=>by
    unfold insC
    split
    · refine (insC_perm lt x r (a::B)).trans ?_
      rw [List.reverse_cons,List.append_assoc]
      exact List.Perm.append_left _ (.swap _ _ _)
    · rw [List.reverse_cons,List.append_assoc]
      exact .refl _
theorem insC_len {α:Type} (lt:α→α→Bool) (x:α) (S:List α):(insC lt x S.reverse []).length=S.length+1:=by
  have:=(insC_perm lt x S.reverse []).length_eq
  simpa using this
abbrev Srt {α:Type} (lt:α→α→Bool) (l:List α):Prop:=l.Pairwise fun a b=>lt b a=false
theorem insC_srt {α:Type} {lt:α→α→Bool} (ht:∀ a b c,lt b a=false→lt c b=false→lt c a=false) (ha:∀ a b,lt a b=true→lt b a=false) (x:α):∀ (r B:List α),Srt lt (r.reverse++B)→(∀ b ∈ B,lt x b=true)→Srt lt (insC lt x r B)
  | [],B,h,hb=>List.pairwise_cons.2 ⟨fun b hb'=>ha _ _ (hb b hb'),by simpa using h⟩
  | a::r,B,h,hb=>by
    rw [List.reverse_cons,List.append_assoc] at h
    unfold insC
    split
    · rename_i hx
      refine insC_srt ht ha x r (a::B) h fun b hb'=>?_
      rcases List.mem_cons.1 hb' with rfl | hb'
      · exact hx
      · exact hb b hb'
    · rename_i hx
      have hx:lt x a=false:=by simpa using hx
      obtain ⟨h1,h2,h3⟩:=List.pairwise_append.1 (show Srt lt (r.reverse++a::B) from h)
      have h2:=List.pairwise_cons.1 h2
      refine List.pairwise_append.2 ⟨h1,?_,fun p hp q hq=>?_⟩
      · refine List.pairwise_cons.2 ⟨fun q hq=>?_,List.pairwise_cons.2 ⟨fun b hb'=>ha _ _ (hb b hb'),h2.2⟩⟩
        rcases List.mem_cons.1 hq with rfl | hq
        · exact hx
        · exact h2.1 q hq
      · have h4:=h3 p hp a (by simp)
        rcases List.mem_cons.1 hq with rfl | hq
        · exact h4
        · rcases List.mem_cons.1 hq with rfl | hq
          · exact ht _ _ _ h4 hx
          · exact h3 p hp q (by simp [hq])
theorem srtC_ok {α:Type} {lt:α→α→Bool} (ht:∀ a b c,lt b a=false→lt c b=false→lt c a=false) (ha:∀ a b,lt a b=true→lt b a=false):∀ (r S:List α),Srt lt S→Srt lt (srtC lt S r)∧(srtC lt S r).Perm (S++r)
  | [],S,h=>⟨h,by simp [srtC]⟩
  | x::r,S,h=>by
    obtain ⟨h1,h2⟩:=srtC_ok ht ha r (insC lt x S.reverse []) (insC_srt ht ha x _ _ (by simpa using h) (by simp))
    refine ⟨h1,h2.trans ?_⟩
    have:=insC_perm lt x S.reverse []
    rw [List.reverse_reverse] at this
    refine (this.append_right r).trans ?_
    rw [List.append_assoc];exact .refl _
end Go.Idl
namespace Go.Idl
open Go
theorem appc_get1 {α:Type} {A Z:List α} {a x:α}:(A++a::x::Z)[A.length+1]? = some x:=by
  rw [List.getElem?_append_right (by omega)];simp
theorem appc_get0 {α:Type} {A Z:List α} {a:α}:(A++a::Z)[A.length]? = some a:=by
  rw [List.getElem?_append_right (by omega)];simp
theorem appc_set {α:Type} {A Z:List α} {a x:α}:((A++a::x::Z).set (A.length+1) a).set A.length x=A++x::a::Z:=by
  rw [List.set_append_right _ _ (by omega),List.set_append_right _ _ (by omega)]
  simp
def CmpOK {α:Type} (v:α→IV) (F:Lab) (caps:List IV) (lt:α→α→Bool) (D:α→Prop) (M:List Boxes):Prop :=
  ∀ x y,D x→D y→∃ k:Int,decide (k < 0)=lt x y∧Ev tb F [] (v x::v y::caps) (M++[[]]) ⟨I k,[],M++[[]],[]⟩
end Go.Idl
namespace Go.Idl
open Go
abbrev O3 (xs:List (Int×Int×Int)):IV:=.own 3 (rowsJ xs)
abbrev vJ (x:Int×Int×Int):IV:=.agg [I x.1,I x.2.1,I x.2.2]
@[simp] theorem rowsJ_len (xs:List (Int×Int×Int)):(rowsJ xs).length=xs.length:=by simp [rowsJ]
@[simp] theorem rowsJ_nil:rowsJ []=[]:=rfl
@[simp] theorem rowsJ_app (xs ys:List (Int×Int×Int)):rowsJ xs++rowsJ ys=rowsJ (xs++ys):=by simp [rowsJ]
@[simp] theorem rowsJ_one (xs:List (Int×Int×Int)) (a b c:Int):rowsJ xs++[[IV.sc (.int .i64 a),IV.sc (.int .i64 b),IV.sc (.int .i64 c)]]=rowsJ (xs++[(a,b,c)]):=by simp [rowsJ]
@[simp] theorem rowsJ_get? (xs:List (Int×Int×Int)) (i:Nat):(rowsJ xs)[i]? = xs[i]?.map fun e=>[IV.sc (.int .i64 e.1),IV.sc (.int .i64 e.2.1),IV.sc (.int .i64 e.2.2)]:=by simp [rowsJ]
@[simp] theorem rowsJ_get (xs:List (Int×Int×Int)) (i:Nat) (h:i < (rowsJ xs).length):(rowsJ xs)[i]=[IV.sc (.int .i64 (xs[i]'(by simpa [rowsJ] using h)).1),IV.sc (.int .i64 (xs[i]'(by simpa [rowsJ] using h)).2.1),IV.sc (.int .i64 (xs[i]'(by simpa [rowsJ] using h)).2.2)]:=by simp [rowsJ]
@[simp] theorem rowsJ_emp (xs:List (Int×Int×Int)):(rowsJ xs).isEmpty=xs.isEmpty:=by cases xs <;> rfl
@[simp] theorem rowsJ_set (xs:List (Int×Int×Int)) (i:Nat) (a b c:Int):(rowsJ xs).set i [IV.sc (.int .i64 a),IV.sc (.int .i64 b),IV.sc (.int .i64 c)]=rowsJ (xs.set i (a,b,c)):=by
  simp [rowsJ,List.map_set]
@[simp] theorem rowsJ_take (xs:List (Int×Int×Int)) (n:Nat):(rowsJ xs).take n=rowsJ (xs.take n):=by simp [rowsJ,List.map_take]
@[simp] theorem rowsJ_drop (xs:List (Int×Int×Int)) (n:Nat):(rowsJ xs).drop n=rowsJ (xs.drop n):=by simp [rowsJ,List.map_drop]
@[simp] theorem rowsJ_all1 (xs:List (Int×Int×Int)):((rowsJ xs).all fun x=>x.all IV.plain1)=true:=by
  induction xs with
  | nil=>rfl
  | cons x xs ih=>simp only [rowsJ,List.map_cons,List.all_cons] at *;rw [ih];rfl
@[simp] theorem rowsJ_all2 (xs:List (Int×Int×Int)):((rowsJ xs).all fun x=>x.all IV.isData)=true:=by
  induction xs with
  | nil=>rfl
  | cons x xs ih=>simp only [rowsJ,List.map_cons,List.all_cons] at *;rw [ih];rfl
@[simp] theorem rowsJ_noLst (xs:List (Int×Int×Int)):noLstLL (rowsJ xs)=true:=by
  induction xs with
  | nil=>rfl
  | cons x xs ih=>simp only [rowsJ,List.map_cons,noLstLL,noLstL,noLstV] at *;rw [ih];rfl
@[simp] theorem frz_rowsJ (xs:List (Int×Int×Int)):frzLL (rowsJ xs)=rowsJ xs:=by
  induction xs with
  | nil=>rfl
  | cons x xs ih=>simp only [rowsJ,List.map_cons,frzLL,frzL,frzV] at *;rw [ih]
theorem iclj (F:Lab) (caps:List IV) (lt:(Int×Int×Int)→(Int×Int×Int)→Bool) (D:(Int×Int×Int)→Prop) (M:List Boxes) (hc:CmpOK vJ F caps lt D M) (P:List (Int×Int×Int)) (n i:Int) (x:(Int×Int×Int)) (rest:List (Int×Int×Int)):∀ (k:Nat) (A B:List (Int×Int×Int)),A.length=k→P.length+k+B.length+rest.length≤2000000→D x→(∀ a ∈ A,D a) →
    wp tb (.loop z85l6) { T:=[(0,O3 ((P++A)++x::(B++rest))),(1,I P.length),(2,I n),(3,.fn F caps),(8,I i),(9,I (P.length+k:Nat))],loc:=[],M:=M }
      (fun ex st=>ex=.exit 2∧∃ k':Int,st={ T:=[(0,O3 (P++(insC lt x A.reverse B++rest))),(1,I P.length),(2,I n),(3,.fn F caps),(8,I i),(9,I k'),(34,Bo false)],loc:=[],M:=M }):=by
  intro k
  induction k with
  | zero =>
    intro A B hA hl hx hD
    have:A=[]:=List.length_eq_zero_iff.1 hA
    subst this
    refine wp_loop ?_
    repeat (first|apply wp_as|apply wp_ss|refine wr (by simp;with_reducible rfl) ?_|refine wq (by simp;with_reducible rfl) ?_|refine wt (by simpa) ?_|refine wf (by simpa) ?_|refine xt (by simpa) ?_|refine xf (by simpa) ?_|apply wp_bs|apply wp_b|refine wp_sr ?_|refine wp_sx ?_|refine wp_ret' ?_|refine wp_skip' ?_|refine wp_exit' ?_)
    exact ⟨rfl,_,by simp [insC];rfl⟩
  | succ k ih =>
    intro A B hA hl hx hD
    obtain ⟨A',a,rfl⟩:∃ A' a,A=A'++[a]:=⟨A.dropLast,A.getLast (by intro h;subst h;simp at hA),(List.dropLast_concat_getLast _).symm⟩
    have hA':A'.length=k:=by simpa using hA
    subst hA'
    obtain ⟨c,hc1,hc2⟩:=hc x a hx (hD a (by simp))
    have e1:=ev_lim hc2
    have hPl:(P++A').length=P.length+A'.length:=by simp
    obtain ⟨Q,hQ⟩:∃ Q,Q=P++A':=⟨_,rfl⟩
    have hQl:P.length+A'.length=Q.length:=by rw [hQ];simp
    have hre:P++(A'++[a])++x::(B++rest)=Q++a::x::(B++rest):=by rw [hQ];simp
    rw [hre]
    have hk:((P.length+(A'.length+1):Nat):Int)=(Q.length:Int)+1:=by omega
    rw [hk]
    have w1:IntKind.i64.wrap (Q.length:Int)=(Q.length:Int):=wrap64 (by omega) (by omega)
    have w2:(P.length:Int) < (Q.length:Int)+1:=by omega
    by_cases hx0:c < 0
    · have hlt:lt x a=true:=by rw [← hc1];exact decide_eq_true hx0
      have:=ih A' (a::B) rfl (by simp;omega) hx (fun b hb=>hD b (by simp [hb]))
      rw [show P++A'++x::(a::B++rest)=Q++x::(a::(B++rest)) by rw [hQ];simp,hQl] at this
      refine wp_loop ?_
      repeat (first|apply wp_as|apply wp_ss|refine wr (by simp [e1,hx0,w1,w2,appc_get0,appc_get1,appc_set];with_reducible rfl) ?_|refine wq (by simp [e1,hx0,w1,w2,appc_get0,appc_get1,appc_set];with_reducible rfl) ?_|refine wt (by simpa [e1,hx0,w1,w2,appc_get0,appc_get1,appc_set]) ?_|refine wf (by simpa [e1,hx0,w1,w2,appc_get0,appc_get1,appc_set]) ?_|refine xt (by simpa [e1,hx0,w1,w2,appc_get0,appc_get1,appc_set]) ?_|refine xf (by simpa [e1,hx0,w1,w2,appc_get0,appc_get1,appc_set]) ?_|apply wp_bs|apply wp_b|refine wp_sr ?_|refine wp_sx ?_|refine wp_ret' ?_|refine wp_skip' ?_|refine wp_exit' ?_)
      simp only [List.reverse_append,List.reverse_cons,List.reverse_nil,List.nil_append,List.cons_append]
      simp only [insC,hlt,if_true]
      exact this
    · have hlt:lt x a=false:=by rw [← hc1];exact decide_eq_false hx0
      refine wp_loop ?_
      repeat (first|apply wp_as|apply wp_ss|refine wr (by simp [e1,hx0,w1,w2,appc_get0,appc_get1,appc_set];with_reducible rfl) ?_|refine wq (by simp [e1,hx0,w1,w2,appc_get0,appc_get1,appc_set];with_reducible rfl) ?_|refine wt (by simpa [e1,hx0,w1,w2,appc_get0,appc_get1,appc_set]) ?_|refine wf (by simpa [e1,hx0,w1,w2,appc_get0,appc_get1,appc_set]) ?_|refine xt (by simpa [e1,hx0,w1,w2,appc_get0,appc_get1,appc_set]) ?_|refine xf (by simpa [e1,hx0,w1,w2,appc_get0,appc_get1,appc_set]) ?_|apply wp_bs|apply wp_b|refine wp_sr ?_|refine wp_sx ?_|refine wp_ret' ?_|refine wp_skip' ?_|refine wp_exit' ?_)
      refine ⟨rfl,(Q.length:Int)+1,?_⟩
      simp only [List.reverse_append,List.reverse_cons,List.reverse_nil,List.nil_append,List.cons_append]
      simp only [insC,hlt,Bool.false_eq_true,if_false,List.reverse_reverse]
      rw [hQ]
      simp
theorem isoj (F:Lab) (caps:List IV) (lt:(Int×Int×Int)→(Int×Int×Int)→Bool) (D:(Int×Int×Int)→Prop) (M:List Boxes) (hc:CmpOK vJ F caps lt D M) (P Q:List (Int×Int×Int)) (n:Int):∀ (r S:List (Int×Int×Int)),n=(P.length+S.length+r.length:Nat)→P.length+S.length+r.length+Q.length≤900000→(∀ x ∈ S,D x)→(∀ x ∈ r,D x) →
    wp tb (.loop z85l8) { T:=[(0,O3 (P++(S++(r++Q)))),(1,I P.length),(2,I n),(3,.fn F caps),(8,I (P.length+S.length:Nat))],loc:=[],M:=M }
      (fun ex st=>ex=.exit 0∧∃ k':Int,st={ T:=[(0,O3 (P++(srtC lt S r++Q))),(1,I P.length),(2,I n),(3,.fn F caps),(8,I k'),(14,Bo false)],loc:=[],M:=M }):=by
  intro r
  induction r with
  | nil =>
    intro S hn hl hS hr
    have h1:¬ ((P.length:Int)+(S.length:Int)) < n:=by simp at hn;omega
    refine wp_loop ?_
    repeat (first|apply wp_as|apply wp_ss|refine wr (by simp [h1];with_reducible rfl) ?_|refine wq (by simp [h1];with_reducible rfl) ?_|refine wt (by simpa [h1]) ?_|refine wf (by simpa [h1]) ?_|refine xt (by simpa [h1]) ?_|refine xf (by simpa [h1]) ?_|apply wp_bs|apply wp_b|refine wp_sr ?_|refine wp_sx ?_|refine wp_ret' ?_|refine wp_skip' ?_|refine wp_exit' ?_)
    exact ⟨rfl,_,by simp [srtC];rfl⟩
  | cons x r ih =>
    intro S hn hl hS hr
    simp only [List.length_cons] at hn hl
    have h1:(P.length:Int)+(S.length:Int) < n:=by omega
    have w1:IntKind.i64.wrap ((P.length:Int)+(S.length:Int)+1)=(P.length:Int)+(S.length:Int)+1:=by rw [wrap64 (by omega) (by omega)]
    have hin:=iclj F caps lt D M hc P n ((P.length:Int)+S.length) x (r++Q) S.length S [] rfl (by simp;omega) (hr x (by simp)) hS
    rw [show P++S++x::([]++(r++Q))=P++(S++(x::r++Q)) by simp,show ((P.length+S.length:Nat):Int)=(P.length:Int)+S.length by omega] at hin
    have hn2:=ih (insC lt x S.reverse []) (by rw [insC_len];omega) (by rw [insC_len];omega) (fun y hy=>by
      have:=(insC_perm lt x S.reverse []).mem_iff.1 hy
      simp only [List.reverse_reverse,List.mem_append,List.mem_cons,List.not_mem_nil,or_false] at this
      rcases this with h | rfl
      · exact hS y h
      · exact hr y (by simp)) (fun y hy=>hr y (by simp [hy]))
    rw [insC_len,show ((P.length+(S.length+1):Nat):Int)=(P.length:Int)+S.length+1 by omega] at hn2
    rw [show ((P.length+S.length:Nat):Int)=(P.length:Int)+S.length by omega]
    refine wp_loop ?_
    repeat (first|apply wp_as|apply wp_ss|refine wr (by simp [h1,w1];with_reducible rfl) ?_|refine wq (by simp [h1,w1];with_reducible rfl) ?_|refine wt (by simpa [h1,w1]) ?_|refine wf (by simpa [h1,w1]) ?_|refine xt (by simpa [h1,w1]) ?_|refine xf (by simpa [h1,w1]) ?_|apply wp_bs|apply wp_b|refine wp_sr ?_|refine wp_sx ?_|refine wp_ret' ?_|refine wp_skip' ?_|refine wp_exit' ?_)
    refine wp_imp hin ?_
    rintro ex st ⟨rfl,k',rfl⟩
    simp only [if_true]
    repeat (first|apply wp_as|apply wp_ss|refine wr (by simp [h1,w1];with_reducible rfl) ?_|refine wq (by simp [h1,w1];with_reducible rfl) ?_|refine wt (by simpa [h1,w1]) ?_|refine wf (by simpa [h1,w1]) ?_|refine xt (by simpa [h1,w1]) ?_|refine xf (by simpa [h1,w1]) ?_|apply wp_bs|apply wp_b|refine wp_sr ?_|refine wp_sx ?_|refine wp_ret' ?_|refine wp_skip' ?_|refine wp_exit' ?_)
    exact hn2
theorem ev_insCj (F:Lab) (caps:List IV) (lt:(Int×Int×Int)→(Int×Int×Int)→Bool) (D:(Int×Int×Int)→Prop) (M:List Boxes) (hc:CmpOK vJ F caps lt D M) (P Q seg:List (Int×Int×Int)) (hl:P.length+seg.length+Q.length≤800000) (hD:∀ x ∈ seg,D x) :
    Ev tb zl85 [0] [O3 (P++(seg++Q)),I P.length,I (P.length+seg.length:Nat),.fn F caps] M ⟨.tup [],[O3 (P++(srtC lt [] seg++Q))],M,[]⟩:=by
  have w1:IntKind.i64.wrap ((P.length:Int)+1)=(P.length:Int)+1:=by rw [wrap64 (by omega) (by omega)]
  cases seg with
  | nil =>
    have h1:¬ (P.length:Int)+1 < ((P.length+([]:List (Int×Int×Int)).length:Nat):Int):=by simp;omega
    simp only [List.length_nil,Nat.add_zero] at h1 ⊢
    refine call_of_wp zt85 rfl ?_
    repeat (first|apply wp_as|apply wp_ss|refine wr (by simp [w1];with_reducible rfl) ?_|refine wq (by simp [w1];with_reducible rfl) ?_|refine wt (by simpa [w1]) ?_|refine wf (by simpa [w1]) ?_|refine xt (by simpa [w1]) ?_|refine xf (by simpa [w1]) ?_|apply wp_bs|apply wp_b|refine wp_sr ?_|refine wp_sx ?_|refine wp_ret' ?_|refine wp_skip' ?_|refine wp_exit' ?_)
    refine wp_loop ?_
    repeat (first|apply wp_as|apply wp_ss|refine wr (by simp [h1];with_reducible rfl) ?_|refine wq (by simp [h1];with_reducible rfl) ?_|refine wt (by simpa [h1]) ?_|refine wf (by simpa [h1]) ?_|refine xt (by simpa [h1]) ?_|refine xf (by simpa [h1]) ?_|apply wp_bs|apply wp_b|refine wp_sr ?_|refine wp_sx ?_|refine wp_ret' ?_|refine wp_skip' ?_|refine wp_exit' ?_)
    simp [zi85,srtC]
  | cons x r =>
    have:=isoj F caps lt D M hc P Q (P.length+(x::r).length:Nat) r [x] (by simp;omega) (by simp at hl ⊢;omega) (fun y hy=>by simp at hy;subst hy;exact hD _ (by simp)) (fun y hy=>hD y (by simp [hy]))
    rw [show P++([x]++(r++Q))=P++(x::r++Q) by simp,show ((P.length+[x].length:Nat):Int)=(P.length:Int)+1 by simp] at this
    have hs:srtC lt [x] r=srtC lt [] (x::r):=by simp [srtC,insC]
    rw [hs] at this
    generalize ((P.length+(x::r).length:Nat):Int)=n at *
    refine call_of_wp zt85 rfl ?_
    repeat (first|apply wp_as|apply wp_ss|refine wr (by simp [w1];with_reducible rfl) ?_|refine wq (by simp [w1];with_reducible rfl) ?_|refine wt (by simpa [w1]) ?_|refine wf (by simpa [w1]) ?_|refine xt (by simpa [w1]) ?_|refine xf (by simpa [w1]) ?_|apply wp_bs|apply wp_b|refine wp_sr ?_|refine wp_sx ?_|refine wp_ret' ?_|refine wp_skip' ?_|refine wp_exit' ?_)
    refine wp_imp this ?_
    rintro ex st ⟨rfl,k',rfl⟩
    simp [zi85]
theorem ev_isNaNm (n:Int) (M:List Boxes):Ev tb zl4 [] [I n] M ⟨Bo false,[],M,[]⟩:=by
  refine call_of_wp zt4 rfl ?_
  repeat (first|apply wp_as|apply wp_ss|refine wr (by simp;with_reducible rfl) ?_|refine wq (by simp;with_reducible rfl) ?_|refine wt (by simpa) ?_|refine wf (by simpa) ?_|refine xt (by simpa) ?_|refine xf (by simpa) ?_|apply wp_bs|apply wp_b|refine wp_sr ?_|refine wp_sx ?_|refine wp_ret' ?_|refine wp_skip' ?_|refine wp_exit' ?_)
  simp [zi4]
def cmpI (x y:Int):Int:=if x < y then -1 else if y < x then 1 else 0
theorem ev_cmpI (x y:Int) (M:List Boxes):Ev tb zl1 [] [I x,I y] M ⟨I (cmpI x y),[],M,[]⟩:=by
  have e1:=fun n M=>ev_lim (ev_isNaNm n M)
  unfold cmpI
  by_cases h1:x < y
  · rw [if_pos h1]
    refine call_of_wp zt1 rfl ?_
    repeat (first|apply wp_as|apply wp_ss|refine wr (by simp [e1,h1];with_reducible rfl) ?_|refine wq (by simp [e1,h1];with_reducible rfl) ?_|refine wt (by simpa [e1,h1]) ?_|refine wf (by simpa [e1,h1]) ?_|refine xt (by simpa [e1,h1]) ?_|refine xf (by simpa [e1,h1]) ?_|apply wp_bs|apply wp_b|refine wp_sr ?_|refine wp_sx ?_|refine wp_ret' ?_|refine wp_skip' ?_|refine wp_exit' ?_)
    simp [zi1]
  · rw [if_neg h1]
    by_cases h2:y < x
    · rw [if_pos h2]
      refine call_of_wp zt1 rfl ?_
      repeat (first|apply wp_as|apply wp_ss|refine wr (by simp [e1,h1,h2];with_reducible rfl) ?_|refine wq (by simp [e1,h1,h2];with_reducible rfl) ?_|refine wt (by simpa [e1,h1,h2]) ?_|refine wf (by simpa [e1,h1,h2]) ?_|refine xt (by simpa [e1,h1,h2]) ?_|refine xf (by simpa [e1,h1,h2]) ?_|apply wp_bs|apply wp_b|refine wp_sr ?_|refine wp_sx ?_|refine wp_ret' ?_|refine wp_skip' ?_|refine wp_exit' ?_)
      simp [zi1]
    · rw [if_neg h2]
      refine call_of_wp zt1 rfl ?_
      repeat (first|apply wp_as|apply wp_ss|refine wr (by simp [e1,h1,h2];with_reducible rfl) ?_|refine wq (by simp [e1,h1,h2];with_reducible rfl) ?_|refine wt (by simpa [e1,h1,h2]) ?_|refine wf (by simpa [e1,h1,h2]) ?_|refine xt (by simpa [e1,h1,h2]) ?_|refine xf (by simpa [e1,h1,h2]) ?_|apply wp_bs|apply wp_b|refine wp_sr ?_|refine wp_sx ?_|refine wp_ret' ?_|refine wp_skip' ?_|refine wp_exit' ?_)
      simp [zi1]
theorem ev_Or2 (a b:Int) (c:Bool) (M:List Boxes):Ev tb zl3 [] [.lst 1 [[I a],[I b]] c] M ⟨I (if a=0 then b else a),[],M,[]⟩:=by
  have w1:IntKind.i64.wrap 1=1:=wrap64 (by omega) (by omega)
  have w2:IntKind.i64.wrap 2=2:=wrap64 (by omega) (by omega)
  by_cases h1:a=0
  · rw [if_pos h1]
    by_cases h2:b=0
    · subst h1;subst h2
      refine call_of_wp zt3 rfl ?_
      repeat (first|apply wp_as|apply wp_ss|refine wr (by simp [w1,w2];with_reducible rfl) ?_|refine wq (by simp [w1,w2];with_reducible rfl) ?_|refine wt (by simpa [w1,w2]) ?_|refine wf (by simpa [w1,w2]) ?_|refine xt (by simpa [w1,w2]) ?_|refine xf (by simpa [w1,w2]) ?_|apply wp_bs|apply wp_b|refine wp_sr ?_|refine wp_sx ?_|refine wp_ret' ?_|refine wp_skip' ?_|refine wp_exit' ?_)
      refine wp_loop ?_
      repeat (first|apply wp_as|apply wp_ss|refine wr (by simp [w1,w2];with_reducible rfl) ?_|refine wq (by simp [w1,w2];with_reducible rfl) ?_|refine wt (by simpa [w1,w2]) ?_|refine wf (by simpa [w1,w2]) ?_|refine xt (by simpa [w1,w2]) ?_|refine xf (by simpa [w1,w2]) ?_|apply wp_bs|apply wp_b|refine wp_sr ?_|refine wp_sx ?_|refine wp_ret' ?_|refine wp_skip' ?_|refine wp_exit' ?_)
      refine wp_loop ?_
      repeat (first|apply wp_as|apply wp_ss|refine wr (by simp [w1,w2];with_reducible rfl) ?_|refine wq (by simp [w1,w2];with_reducible rfl) ?_|refine wt (by simpa [w1,w2]) ?_|refine wf (by simpa [w1,w2]) ?_|refine xt (by simpa [w1,w2]) ?_|refine xf (by simpa [w1,w2]) ?_|apply wp_bs|apply wp_b|refine wp_sr ?_|refine wp_sx ?_|refine wp_ret' ?_|refine wp_skip' ?_|refine wp_exit' ?_)
      refine wp_loop ?_
      repeat (first|apply wp_as|apply wp_ss|refine wr (by simp [w1,w2];with_reducible rfl) ?_|refine wq (by simp [w1,w2];with_reducible rfl) ?_|refine wt (by simpa [w1,w2]) ?_|refine wf (by simpa [w1,w2]) ?_|refine xt (by simpa [w1,w2]) ?_|refine xf (by simpa [w1,w2]) ?_|apply wp_bs|apply wp_b|refine wp_sr ?_|refine wp_sx ?_|refine wp_ret' ?_|refine wp_skip' ?_|refine wp_exit' ?_)
      simp [zi3]
    · subst h1
      refine call_of_wp zt3 rfl ?_
      repeat (first|apply wp_as|apply wp_ss|refine wr (by simp [w1,w2];with_reducible rfl) ?_|refine wq (by simp [w1,w2];with_reducible rfl) ?_|refine wt (by simpa [w1,w2]) ?_|refine wf (by simpa [w1,w2]) ?_|refine xt (by simpa [w1,w2]) ?_|refine xf (by simpa [w1,w2]) ?_|apply wp_bs|apply wp_b|refine wp_sr ?_|refine wp_sx ?_|refine wp_ret' ?_|refine wp_skip' ?_|refine wp_exit' ?_)
      refine wp_loop ?_
      repeat (first|apply wp_as|apply wp_ss|refine wr (by simp [w1,w2];with_reducible rfl) ?_|refine wq (by simp [w1,w2];with_reducible rfl) ?_|refine wt (by simpa [w1,w2]) ?_|refine wf (by simpa [w1,w2]) ?_|refine xt (by simpa [w1,w2]) ?_|refine xf (by simpa [w1,w2]) ?_|apply wp_bs|apply wp_b|refine wp_sr ?_|refine wp_sx ?_|refine wp_ret' ?_|refine wp_skip' ?_|refine wp_exit' ?_)
      refine wp_loop ?_
      repeat (first|apply wp_as|apply wp_ss|refine wr (by simp [h2,w1,w2];with_reducible rfl) ?_|refine wq (by simp [h2,w1,w2];with_reducible rfl) ?_|refine wt (by simpa [h2,w1,w2]) ?_|refine wf (by simpa [h2,w1,w2]) ?_|refine xt (by simpa [h2,w1,w2]) ?_|refine xf (by simpa [h2,w1,w2]) ?_|apply wp_bs|apply wp_b|refine wp_sr ?_|refine wp_sx ?_|refine wp_ret' ?_|refine wp_skip' ?_|refine wp_exit' ?_)
      simp [zi3]
  · rw [if_neg h1]
    refine call_of_wp zt3 rfl ?_
    repeat (first|apply wp_as|apply wp_ss|refine wr (by simp [w1,w2];with_reducible rfl) ?_|refine wq (by simp [w1,w2];with_reducible rfl) ?_|refine wt (by simpa [w1,w2]) ?_|refine wf (by simpa [w1,w2]) ?_|refine xt (by simpa [w1,w2]) ?_|refine xf (by simpa [w1,w2]) ?_|apply wp_bs|apply wp_b|refine wp_sr ?_|refine wp_sx ?_|refine wp_ret' ?_|refine wp_skip' ?_|refine wp_exit' ?_)
    refine wp_loop ?_
    repeat (first|apply wp_as|apply wp_ss|refine wr (by simp [h1,w1,w2];with_reducible rfl) ?_|refine wq (by simp [h1,w1,w2];with_reducible rfl) ?_|refine wt (by simpa [h1,w1,w2]) ?_|refine wf (by simpa [h1,w1,w2]) ?_|refine xt (by simpa [h1,w1,w2]) ?_|refine xf (by simpa [h1,w1,w2]) ?_|apply wp_bs|apply wp_b|refine wp_sr ?_|refine wp_sx ?_|refine wp_ret' ?_|refine wp_skip' ?_|refine wp_exit' ?_)
    simp [zi3]
def jlt (x y:Int×Int×Int):Bool:=decide (x.1 < y.1) || (decide (x.1=y.1) && decide (x.2.1 < y.2.1))
theorem ev_F1 (x y:Int×Int×Int) (M:List Boxes):Ev tb zl14 [] [vJ x,vJ y] M ⟨I (if cmpI x.1 y.1=0 then cmpI x.2.1 y.2.1 else cmpI x.1 y.1),[],M,[]⟩:=by
  have e1:=fun x y M=>ev_lim (ev_cmpI x y M)
  have e2:=fun a b c M=>ev_lim (ev_Or2 a b c M)
  have e3:∀ (a b:Int) (c:Bool) (M:List Boxes),limF tb zl3 [] [.lst 1 (ints [a,b]) c] M=some ⟨I (if a=0 then b else a),[],M,[]⟩:=e2
  refine call_of_wp zt14 rfl ?_
  repeat (first|apply wp_as|apply wp_ss|refine wr (by simp;with_reducible rfl) ?_|refine wq (by simp;with_reducible rfl) ?_|refine wt (by simpa) ?_|refine wf (by simpa) ?_|refine xt (by simpa) ?_|refine xf (by simpa) ?_|apply wp_bs|apply wp_b|refine wp_sr ?_|refine wp_sx ?_|refine wp_ret' ?_|refine wp_skip' ?_|refine wp_exit' ?_)
  refine wp_ra (by simp [e1,e2,e3];with_reducible rfl) (by simp;with_reducible rfl) ?_ ?_
  · intro p hp
    simp only [List.mem_cons,List.not_mem_nil,or_false] at hp
    rcases hp with rfl | rfl | rfl
    · exact ⟨_,by simp [e1,e2,e3];with_reducible rfl,by simp⟩
    · exact ⟨_,by simp [e1,e2,e3];with_reducible rfl,by simp⟩
    · exact ⟨_,by simp [e1,e2,e3];with_reducible rfl,by simp⟩
  repeat (first|apply wp_as|apply wp_ss|refine wr (by simp;with_reducible rfl) ?_|refine wq (by simp;with_reducible rfl) ?_|refine wt (by simpa) ?_|refine wf (by simpa) ?_|refine xt (by simpa) ?_|refine xf (by simpa) ?_|apply wp_bs|apply wp_b|refine wp_sr ?_|refine wp_sx ?_|refine wp_ret' ?_|refine wp_skip' ?_|refine wp_exit' ?_)
  simp [zi14]
abbrev fcJ:IV:=.fn zl14 []
theorem cmpOK_J (M:List Boxes):CmpOK vJ zl14 [] jlt (fun _=>True) M:=fun x y _ _=>by
  refine ⟨_,?_,ev_F1 x y _⟩
  unfold cmpI jlt
  by_cases h1:x.1 < y.1
  · simp [h1]
  · by_cases h2:y.1 < x.1
    · have h3:¬ x.1=y.1:=by omega
      simp [h1,h2,h3]
    · have h3:x.1=y.1:=by omega
      by_cases h4:x.2.1 < y.2.1
      · simp [h3,h4]
      · by_cases h5:y.2.1 < x.2.1 <;> simp [h3,h4,h5]
def srtJ (X:List (Int×Int×Int)):List (Int×Int×Int):=srtC jlt [] X
end Go.Idl
namespace Go.Idl
open Go
@[simp] theorem get_mid {α:Type} (A bs:List α) (x:α):(A++x::bs)[A.length]? = some x:=by simp
@[simp] theorem set_mid {α:Type} (A bs:List α) (x y:α):(A++x::bs).set A.length y=A++y::bs:=by
  rw [List.set_append_right _ _ (Nat.le_refl _)];simp
@[simp] theorem set_last {α:Type} (A:List α) (x y:α):(A++[x]).set A.length y=A++[y]:=set_mid A [] x y
end Go.Idl
namespace Go.Idl
open Go
def comp (d:List Int):List Int:=(List.range d.length).map fun k=>(d.length:Int) - 1 - d.getD k 0
def noneNeg (xs:List Int):Bool:=xs.all fun x=>decide (0≤x)
end Go.Idl
namespace Go.Idl
abbrev tops (xs:List Int) (k:Nat):Int:=((fall xs).take k).sum
theorem minsum_le (c:Int):∀ (l:List Int) (j:Nat),j≤l.length→(l.map fun x:Int=>min x c).sum≤c * j+(l.drop j).sum
  | [],0,_=>by simp
  | x::r,0,_=>by
    have:=minsum_le c r 0 (by simp)
    simp at this ⊢;omega
  | x::r,j+1,h=>by
    have:=minsum_le c r j (by simpa using h)
    rw [List.map_cons,List.sum_cons,List.drop_succ_cons,Int.natCast_add,Int.mul_add]
    omega
theorem min_same (c:Int):∀ (l:List Int),(∀ x ∈ l,x≤c)→(l.map fun x:Int=>min x c).sum=l.sum
  | [],_=>rfl
  | x::r,h=>by
    have h1:=h x (by simp)
    have h2:=min_same c r (fun y hy=>h y (by simp [hy]))
    simp [h2];omega
theorem minsum_eq (c:Int):∀ (l:List Int),Desc l→∃ j,j≤l.length∧(l.map fun x:Int=>min x c).sum=c * j+(l.drop j).sum
  | [],_=>⟨0,by simp,by simp⟩
  | x::r,h=>by
    have h':=List.pairwise_cons.1 h
    by_cases hx:c≤x
    · obtain ⟨j,h1,h2⟩:=minsum_eq c r h'.2
      refine ⟨j+1,by simpa using h1,?_⟩
      rw [List.map_cons,List.sum_cons,List.drop_succ_cons,Int.natCast_add,Int.mul_add,h2]
      omega
    · refine ⟨0,by simp,?_⟩
      rw [min_same c (x::r) (by
        intro y hy
        rcases List.mem_cons.1 hy with rfl | hy
        · omega
        · have:=h'.1 y hy;omega)]
      simp
theorem sum_take_drop (s:List Int) (k:Nat):(s.take k).sum+(s.drop k).sum=s.sum:=by
  rw [← List.sum_append,List.take_append_drop]
theorem slk_iff {s:List Int} (hs:Desc s):(∀ k,1≤k→k≤s.length→0≤slk s k) ↔
    ∀ k m,1≤k→k≤m→m≤s.length→(s.take k).sum+(s.take m).sum≤(k:Int) * ((m:Int) - 1)+s.sum:=by
  constructor
  · intro h k m h1 h2 h3
    have h0:=h k h1 (by omega)
    have h4:=minsum_le k (s.drop k) (m - k) (by simp;omega)
    rw [List.drop_drop,show k+(m - k)=m by omega] at h4
    have h5:=sum_take_drop s m
    unfold slk at h0
    have h6:((m - k:Nat):Int)=(m:Int) - k:=by omega
    rw [h6] at h4
    have e:(k:Int) * ((m:Int) - 1)=(k:Int) * ((k:Int) - 1)+(k:Int) * ((m:Int) - k):=by rw [← Int.mul_add];congr 1;omega
    omega
  · intro h k h1 h2
    obtain ⟨j,h3,h4⟩:=minsum_eq k (s.drop k) (hs.sublist (List.drop_sublist k s))
    rw [List.length_drop] at h3
    have h0:=h k (k+j) h1 (by omega) (by omega)
    rw [List.drop_drop] at h4
    have h5:=sum_take_drop s (k+j)
    unfold slk
    rw [h4]
    have e:(k:Int) * (((k+j:Nat):Int) - 1)=(k:Int) * ((k:Int) - 1)+(k:Int) * (j:Int):=by rw [← Int.mul_add];congr 1;omega
    omega
theorem graphic_iff (d:List Int):graphic d=true ↔ valid d=true∧d.sum % 2=0∧∀ k m,1≤k→k≤m→m≤d.length→tops d k+tops d m≤(k:Int) * ((m:Int) - 1)+d.sum:=by
  have h:=slk_iff (fall_desc d)
  rw [fall_len,fall_sum] at h
  simp only [graphic,Bool.and_eq_true,decide_eq_true_eq,List.all_eq_true,tops,← h,slacks,List.mem_map,List.mem_range,and_assoc]
  constructor
  · rintro ⟨h1,h2,h3⟩
    refine ⟨h1,h2,fun k hk hk2=>?_⟩
    exact h3 _ ⟨k - 1,by omega,by rw [show k - 1+1=k by omega]⟩
  · rintro ⟨h1,h2,h3⟩
    refine ⟨h1,h2,?_⟩
    rintro x ⟨i,hi,rfl⟩
    exact h3 (i+1) (by omega) (by omega)
end Go.Idl
namespace Go.Idl
open Go
def ahead (x y:List Int) (i m:Nat):Bool:=(List.range m).all fun j=>decide ((y.take (i+j+1)).sum≤(x.take (i+j+1)).sum)
end Go.Idl
namespace Go.Idl
open Go
def Fit (es:List (Int×Int)):Prop:=∀ e ∈ es,-9223372036854775808≤e.1∧e.1 < 9223372036854775808∧-9223372036854775808≤e.2∧e.2 < 9223372036854775808
def below (a b:Int×Int):Bool:=decide (a.1 < b.1) || (decide (a.1=b.1) && decide (a.2 < b.2))
def cmpE (a b:Int×Int):Int:=if a.1=b.1 then a.2 - b.2 else a.1 - b.1
theorem cmpE_below (a b:Int×Int):(decide (cmpE a b < 0))=below a b:=by
  unfold cmpE below
  rw [Bool.eq_iff_iff]
  simp only [decide_eq_true_eq,Bool.or_eq_true,Bool.and_eq_true]
  split <;> omega
theorem ev_compareEdges (a b:Int×Int) (ha:0≤a.1∧a.1 < 9223372036854775808∧0≤a.2∧a.2 < 9223372036854775808) (hb:0≤b.1∧b.1 < 9223372036854775808∧0≤b.2∧b.2 < 9223372036854775808) (M:List Boxes) :
    Ev tb zl32 [] [.agg [I a.1,I a.2],.agg [I b.1,I b.2]] M ⟨I (cmpE a b),[],M,[]⟩:=by
  have w1:IntKind.i64.wrap (a.1 - b.1)=a.1 - b.1:=wrap64 (by omega) (by omega)
  have w2:IntKind.i64.wrap (a.2 - b.2)=a.2 - b.2:=wrap64 (by omega) (by omega)
  by_cases h:a.1=b.1
  · refine call_of_wp zt32 rfl ?_
    repeat (first|apply wp_as|apply wp_ss|refine wr (by simp [h,w2];with_reducible rfl) ?_|refine wq (by simp [h,w2];with_reducible rfl) ?_|refine wt (by simpa [h,w2]) ?_|refine wf (by simpa [h,w2]) ?_|refine xt (by simpa [h,w2]) ?_|refine xf (by simpa [h,w2]) ?_|apply wp_bs|apply wp_b|refine wp_sr ?_|refine wp_sx ?_|refine wp_ret' ?_|refine wp_skip' ?_|refine wp_exit' ?_)
    simp [zi32,cmpE,h]
  · have h2:(a.1 != b.1)=true:=by simp [h]
    refine call_of_wp zt32 rfl ?_
    repeat (first|apply wp_as|apply wp_ss|refine wr (by simp [h,h2,w1];with_reducible rfl) ?_|refine wq (by simp [h,h2,w1];with_reducible rfl) ?_|refine wt (by simpa [h,h2,w1]) ?_|refine wf (by simpa [h,h2,w1]) ?_|refine xt (by simpa [h,h2,w1]) ?_|refine xf (by simpa [h,h2,w1]) ?_|apply wp_bs|apply wp_b|refine wp_sr ?_|refine wp_sx ?_|refine wp_ret' ?_|refine wp_skip' ?_|refine wp_exit' ?_)
    simp [zi32,cmpE,h]
theorem ev_edgeBelow (a b:Int×Int):Ev tb zl126 [] [.agg [I a.1,I a.2],.agg [I b.1,I b.2]] [] ⟨Bo (below a b),[],[],[]⟩:=by
  by_cases h1:a.1 < b.1
  · refine call_of_wp zt126 rfl ?_
    repeat (first|apply wp_as|apply wp_ss|refine wr (by simp [h1];with_reducible rfl) ?_|refine wq (by simp [h1];with_reducible rfl) ?_|refine wt (by simpa [h1]) ?_|refine wf (by simpa [h1]) ?_|refine xt (by simpa [h1]) ?_|refine xf (by simpa [h1]) ?_|apply wp_bs|apply wp_b|refine wp_sr ?_|refine wp_sx ?_|refine wp_ret' ?_|refine wp_skip' ?_|refine wp_exit' ?_)
    simp [zi126,below,h1]
  · by_cases h2:a.1=b.1
    · refine call_of_wp zt126 rfl ?_
      repeat (first|apply wp_as|apply wp_ss|refine wr (by simp [h1,h2];with_reducible rfl) ?_|refine wq (by simp [h1,h2];with_reducible rfl) ?_|refine wt (by simpa [h1,h2]) ?_|refine wf (by simpa [h1,h2]) ?_|refine xt (by simpa [h1,h2]) ?_|refine xf (by simpa [h1,h2]) ?_|apply wp_bs|apply wp_b|refine wp_sr ?_|refine wp_sx ?_|refine wp_ret' ?_|refine wp_skip' ?_|refine wp_exit' ?_)
      simp [zi126,below,h1,h2]
    · refine call_of_wp zt126 rfl ?_
      repeat (first|apply wp_as|apply wp_ss|refine wr (by simp [h1,h2];with_reducible rfl) ?_|refine wq (by simp [h1,h2];with_reducible rfl) ?_|refine wt (by simpa [h1,h2]) ?_|refine wf (by simpa [h1,h2]) ?_|refine xt (by simpa [h1,h2]) ?_|refine xf (by simpa [h1,h2]) ?_|apply wp_bs|apply wp_b|refine wp_sr ?_|refine wp_sx ?_|refine wp_ret' ?_|refine wp_skip' ?_|refine wp_exit' ?_)
      simp [zi126,below,h1,h2]
def okE (n:Int) (e:Int×Int):Bool:=decide (0≤e.1) && (decide (e.1 < e.2) && decide (e.2 < n))
def vEs (n:Int):Option (Int×Int)→List (Int×Int)→Bool
  | _,[]=>true
  | none,e::r=>okE n e && vEs n (some e) r
  | some q,e::r=>okE n e && (below q e && vEs n (some e) r)
def vGraph (n:Int) (es:List (Int×Int)):Bool:=vEs n none es && (decide (0≤n) && decide (n≤7))
theorem Fit.at {es:List (Int×Int)} (h:Fit es) {i:Nat} (hi:i < es.length):-9223372036854775808≤es[i].1∧es[i].1 < 9223372036854775808∧-9223372036854775808≤es[i].2∧es[i].2 < 9223372036854775808:=h _ (List.getElem_mem hi)
theorem validl (n:Int) (es:List (Int×Int)) (c:Bool) (hf:Fit es) (hl:es.length≤100000000):∀ (m i:Nat) (p:Option (Int×Int)) (bs:Boxes),i+m=es.length →
    (i=0∧p=none ∨ ∃ j,∃ h:j < es.length,i=j+1∧p=some es[j]∧0≤es[j].1∧0≤es[j].2) →
    wp tb (.loop z26l7) { T:=[(1,.bptr 0 0 0),(6,L2 es c),(7,I es.length),(8,I i)],loc:=[I n,L2 es c]::bs,M:=[] }
      (fun ex st=>(vEs n p (es.drop i)=true∧ex=.exit 0∧∃ bs',st={ T:=[(1,.bptr 0 0 0),(6,L2 es c),(7,I es.length),(8,I es.length),(9,Bo false)],loc:=[I n,L2 es c]::bs',M:=[] }) ∨
        (vEs n p (es.drop i)=false∧ex=.ret∧∃ bs',st={ T:=[(2,Bo false)],loc:=[I n,L2 es c]::bs',M:=[] })):=by
  intro m
  induction m with
  | zero =>
    intro i p bs hi hp
    have h3:i=es.length:=hi
    subst h3
    refine wp_loop ?_
    repeat (first|apply wp_as|apply wp_ss|refine wr (by simp;with_reducible rfl) ?_|refine wq (by simp;with_reducible rfl) ?_|refine wt (by simpa) ?_|refine wf (by simpa) ?_|refine xt (by simpa) ?_|refine xf (by simpa) ?_|apply wp_bs|apply wp_b|refine wp_sr ?_|refine wp_sx ?_|refine wp_ret' ?_|refine wp_skip' ?_|refine wp_exit' ?_)
    exact .inl ⟨by simp [vEs],rfl,bs,rfl⟩
  | succ m ih =>
    intro i p bs hi hp
    have hi2:i < es.length:=by omega
    have hd:es.drop i=es[i]::es.drop (i+1):=List.drop_eq_getElem_cons hi2
    have hfe:=hf.at hi2
    have w1:IntKind.i64.wrap ((i:Int)+1)=((i+1:Nat):Int):=wrapS (by omega)
    have bad:okE n es[i]=false→vEs n p (es.drop i)=false:=fun h=>by
      rw [hd];cases p <;> simp [vEs,h]
    by_cases h1:es[i].1 < 0
    · have hb:=bad (by simp [okE];omega)
      refine wp_loop ?_
      repeat (first|apply wp_as|apply wp_ss|refine wr (by simp [hi2,h1];with_reducible rfl) ?_|refine wq (by simp [hi2,h1];with_reducible rfl) ?_|refine wt (by simpa [hi2,h1]) ?_|refine wf (by simpa [hi2,h1]) ?_|refine xt (by simpa [hi2,h1]) ?_|refine xf (by simpa [hi2,h1]) ?_|apply wp_bs|apply wp_b|refine wp_sr ?_|refine wp_sx ?_|refine wp_ret' ?_|refine wp_skip' ?_|refine wp_exit' ?_)
      exact .inr ⟨hb,rfl,_,rfl⟩
    by_cases h2:es[i].2≤es[i].1
    · have hb:=bad (by simp [okE];omega)
      refine wp_loop ?_
      repeat (first|apply wp_as|apply wp_ss|refine wr (by simp [hi2,h1,h2];with_reducible rfl) ?_|refine wq (by simp [hi2,h1,h2];with_reducible rfl) ?_|refine wt (by simpa [hi2,h1,h2]) ?_|refine wf (by simpa [hi2,h1,h2]) ?_|refine xt (by simpa [hi2,h1,h2]) ?_|refine xf (by simpa [hi2,h1,h2]) ?_|apply wp_bs|apply wp_b|refine wp_sr ?_|refine wp_sx ?_|refine wp_ret' ?_|refine wp_skip' ?_|refine wp_exit' ?_)
      exact .inr ⟨hb,rfl,_,rfl⟩
    by_cases h3:n≤es[i].2
    · have hb:=bad (by simp [okE];omega)
      refine wp_loop ?_
      repeat (first|apply wp_as|apply wp_ss|refine wr (by simp [hi2,h1,h2,h3];with_reducible rfl) ?_|refine wq (by simp [hi2,h1,h2,h3];with_reducible rfl) ?_|refine wt (by simpa [hi2,h1,h2,h3]) ?_|refine wf (by simpa [hi2,h1,h2,h3]) ?_|refine xt (by simpa [hi2,h1,h2,h3]) ?_|refine xf (by simpa [hi2,h1,h2,h3]) ?_|apply wp_bs|apply wp_b|refine wp_sr ?_|refine wp_sx ?_|refine wp_ret' ?_|refine wp_skip' ?_|refine wp_exit' ?_)
      exact .inr ⟨hb,rfl,_,rfl⟩
    have hok:okE n es[i]=true:=by simp [okE];omega
    rcases hp with ⟨rfl,rfl⟩ | ⟨j,hj,rfl,rfl,q1,q2⟩
    · have hn:=ih 1 (some es[0]) (bs++[[I es[0].1,I es[0].2]]) (by omega) (.inr ⟨0,hi2,rfl,rfl,by omega,by omega⟩)
      rw [hd]
      simp only [vEs,hok,Bool.true_and]
      refine wp_loop ?_
      repeat (first|apply wp_as|apply wp_ss|refine wr (by simp [hi2,h1,h2,h3,show IntKind.i64.wrap (1:Int)=1 from rfl];with_reducible rfl) ?_|refine wq (by simp [hi2,h1,h2,h3,show IntKind.i64.wrap (1:Int)=1 from rfl];with_reducible rfl) ?_|refine wt (by simpa [hi2,h1,h2,h3,show IntKind.i64.wrap (1:Int)=1 from rfl]) ?_|refine wf (by simpa [hi2,h1,h2,h3,show IntKind.i64.wrap (1:Int)=1 from rfl]) ?_|refine xt (by simpa [hi2,h1,h2,h3,show IntKind.i64.wrap (1:Int)=1 from rfl]) ?_|refine xf (by simpa [hi2,h1,h2,h3,show IntKind.i64.wrap (1:Int)=1 from rfl]) ?_|apply wp_bs|apply wp_b|refine wp_sr ?_|refine wp_sx ?_|refine wp_ret' ?_|refine wp_skip' ?_|refine wp_exit' ?_)
      exact hn
    · have hfj:=hf.at hj
      have w2:IntKind.i64.wrap (j:Int)=(j:Int):=wrapN (by omega)
      have hj0:(0:Int) < (j:Int)+1:=by omega
      have hj1:(j:Int)+1 < (es.length:Int):=by omega
      have w3:IntKind.i64.wrap ((j:Int)+1+1)=((j+1+1:Nat):Int):=by rw [wrap64 (by omega) (by omega)];omega
      have e1:=ev_lim (ev_compareEdges es[j] es[j+1] ⟨q1,hfj.2.1,q2,hfj.2.2.2⟩ ⟨by omega,by omega,by omega,by omega⟩ [])
      have hcb:=cmpE_below es[j] es[j+1]
      rw [hd]
      simp only [vEs,hok,Bool.true_and,← hcb]
      by_cases h4:0≤cmpE es[j] es[j+1]
      · have h5:decide (cmpE es[j] es[j+1] < 0)=false:=decide_eq_false (by omega)
        rw [h5]
        refine wp_loop ?_
        repeat (first|apply wp_as|apply wp_ss|refine wr (by simp [hi2,hj,h1,h2,h3,w2,hj0,hj1,e1,h4];with_reducible rfl) ?_|refine wq (by simp [hi2,hj,h1,h2,h3,w2,hj0,hj1,e1,h4];with_reducible rfl) ?_|refine wt (by simpa [hi2,hj,h1,h2,h3,w2,hj0,hj1,e1,h4]) ?_|refine wf (by simpa [hi2,hj,h1,h2,h3,w2,hj0,hj1,e1,h4]) ?_|refine xt (by simpa [hi2,hj,h1,h2,h3,w2,hj0,hj1,e1,h4]) ?_|refine xf (by simpa [hi2,hj,h1,h2,h3,w2,hj0,hj1,e1,h4]) ?_|apply wp_bs|apply wp_b|refine wp_sr ?_|refine wp_sx ?_|refine wp_ret' ?_|refine wp_skip' ?_|refine wp_exit' ?_)
        exact .inr ⟨rfl,rfl,_,rfl⟩
      · have h5:decide (cmpE es[j] es[j+1] < 0)=true:=decide_eq_true (by omega)
        rw [h5]
        have hn:=ih (j+1+1) (some es[j+1]) (bs++[[I es[j+1].1,I es[j+1].2]]) (by omega) (.inr ⟨j+1,hi2,rfl,rfl,by omega,by omega⟩)
        simp only [Bool.true_and]
        refine wp_loop ?_
        repeat (first|apply wp_as|apply wp_ss|refine wr (by simp [hi2,hj,h1,h2,h3,w3,w2,hj0,hj1,e1,h4];with_reducible rfl) ?_|refine wq (by simp [hi2,hj,h1,h2,h3,w3,w2,hj0,hj1,e1,h4];with_reducible rfl) ?_|refine wt (by simpa [hi2,hj,h1,h2,h3,w3,w2,hj0,hj1,e1,h4]) ?_|refine wf (by simpa [hi2,hj,h1,h2,h3,w3,w2,hj0,hj1,e1,h4]) ?_|refine xt (by simpa [hi2,hj,h1,h2,h3,w3,w2,hj0,hj1,e1,h4]) ?_|refine xf (by simpa [hi2,hj,h1,h2,h3,w3,w2,hj0,hj1,e1,h4]) ?_|apply wp_bs|apply wp_b|refine wp_sr ?_|refine wp_sx ?_|refine wp_ret' ?_|refine wp_skip' ?_|refine wp_exit' ?_)
        exact hn
theorem ev_ValidGraph (n:Int) (es:List (Int×Int)) (c:Bool) (hf:Fit es) (hl:es.length≤100000000):Ev tb zl26 [] [Gr n es c] [] ⟨Bo (vGraph n es),[],[],[]⟩:=by
  have e1:=ev_lim (ev_in n 0 7)
  have hlo:=validl n es c hf hl es.length 0 none [] (by simp) (.inl ⟨rfl,rfl⟩)
  refine call_of_wp zt26 rfl ?_
  repeat (first|apply wp_as|apply wp_ss|refine wr (by simp;with_reducible rfl) ?_|refine wq (by simp;with_reducible rfl) ?_|refine wt (by simpa) ?_|refine wf (by simpa) ?_|refine xt (by simpa) ?_|refine xf (by simpa) ?_|apply wp_bs|apply wp_b|refine wp_sr ?_|refine wp_sx ?_|refine wp_ret' ?_|refine wp_skip' ?_|refine wp_exit' ?_)
  refine wp_imp hlo ?_
  rintro ex st (⟨hv,rfl,bs,rfl⟩ | ⟨hv,rfl,bs,rfl⟩)
  · try simp only [if_true]
    repeat (first|apply wp_as|apply wp_ss|refine wr (by simp [e1];with_reducible rfl) ?_|refine wq (by simp [e1];with_reducible rfl) ?_|refine wt (by simpa [e1]) ?_|refine wf (by simpa [e1]) ?_|refine xt (by simpa [e1]) ?_|refine xf (by simpa [e1]) ?_|apply wp_bs|apply wp_b|refine wp_sr ?_|refine wp_sx ?_|refine wp_ret' ?_|refine wp_skip' ?_|refine wp_exit' ?_)
    simp only [List.drop_zero] at hv
    simp [zi26,vGraph,hv]
  · simp only [List.drop_zero] at hv
    simp [zi26,vGraph,hv]
theorem svalidl (n:Int) (es:List (Int×Int)) (c:Bool) (hl:es.length≤100000000):∀ (m i:Nat) (p:Option (Int×Int)) (bs:Boxes),i+m=es.length →
    (i=0∧p=none ∨ ∃ j,∃ h:j < es.length,i=j+1∧p=some es[j]) →
    wp tb (.loop z145l7) { T:=[(1,.bptr 0 0 0),(3,I i)],loc:=[I n,L2 es c]::bs,M:=[] }
      (fun ex st=>(vEs n p (es.drop i)=true∧ex=.exit 0∧∃ bs',st={ T:=[(1,.bptr 0 0 0),(3,I es.length),(9,Bo false)],loc:=[I n,L2 es c]::bs',M:=[] }) ∨
        (vEs n p (es.drop i)=false∧ex=.ret∧∃ bs',st={ T:=[(2,Bo false)],loc:=[I n,L2 es c]::bs',M:=[] })):=by
  intro m
  induction m with
  | zero =>
    intro i p bs hi hp
    have h3:i=es.length:=hi
    subst h3
    refine wp_loop ?_
    repeat (first|apply wp_as|apply wp_ss|refine wr (by simp;with_reducible rfl) ?_|refine wq (by simp;with_reducible rfl) ?_|refine wt (by simpa) ?_|refine wf (by simpa) ?_|refine xt (by simpa) ?_|refine xf (by simpa) ?_|apply wp_bs|apply wp_b|refine wp_sr ?_|refine wp_sx ?_|refine wp_ret' ?_|refine wp_skip' ?_|refine wp_exit' ?_)
    exact .inl ⟨by simp [vEs],rfl,bs,rfl⟩
  | succ m ih =>
    intro i p bs hi hp
    have hi2:i < es.length:=by omega
    have hd:es.drop i=es[i]::es.drop (i+1):=List.drop_eq_getElem_cons hi2
    have w1:IntKind.i64.wrap ((i:Int)+1)=((i+1:Nat):Int):=wrapS (by omega)
    have bad:okE n es[i]=false→vEs n p (es.drop i)=false:=fun h=>by
      rw [hd];cases p <;> simp [vEs,h]
    by_cases h1:es[i].1 < 0
    · have hb:=bad (by simp [okE];omega)
      refine wp_loop ?_
      repeat (first|apply wp_as|apply wp_ss|refine wr (by simp [hi2,h1];with_reducible rfl) ?_|refine wq (by simp [hi2,h1];with_reducible rfl) ?_|refine wt (by simpa [hi2,h1]) ?_|refine wf (by simpa [hi2,h1]) ?_|refine xt (by simpa [hi2,h1]) ?_|refine xf (by simpa [hi2,h1]) ?_|apply wp_bs|apply wp_b|refine wp_sr ?_|refine wp_sx ?_|refine wp_ret' ?_|refine wp_skip' ?_|refine wp_exit' ?_)
      exact .inr ⟨hb,rfl,_,rfl⟩
    by_cases h2:es[i].2≤es[i].1
    · have hb:=bad (by simp [okE];omega)
      refine wp_loop ?_
      repeat (first|apply wp_as|apply wp_ss|refine wr (by simp [hi2,h1,h2];with_reducible rfl) ?_|refine wq (by simp [hi2,h1,h2];with_reducible rfl) ?_|refine wt (by simpa [hi2,h1,h2]) ?_|refine wf (by simpa [hi2,h1,h2]) ?_|refine xt (by simpa [hi2,h1,h2]) ?_|refine xf (by simpa [hi2,h1,h2]) ?_|apply wp_bs|apply wp_b|refine wp_sr ?_|refine wp_sx ?_|refine wp_ret' ?_|refine wp_skip' ?_|refine wp_exit' ?_)
      exact .inr ⟨hb,rfl,_,rfl⟩
    by_cases h3:n≤es[i].2
    · have hb:=bad (by simp [okE];omega)
      refine wp_loop ?_
      repeat (first|apply wp_as|apply wp_ss|refine wr (by simp [hi2,h1,h2,h3];with_reducible rfl) ?_|refine wq (by simp [hi2,h1,h2,h3];with_reducible rfl) ?_|refine wt (by simpa [hi2,h1,h2,h3]) ?_|refine wf (by simpa [hi2,h1,h2,h3]) ?_|refine xt (by simpa [hi2,h1,h2,h3]) ?_|refine xf (by simpa [hi2,h1,h2,h3]) ?_|apply wp_bs|apply wp_b|refine wp_sr ?_|refine wp_sx ?_|refine wp_ret' ?_|refine wp_skip' ?_|refine wp_exit' ?_)
      exact .inr ⟨hb,rfl,_,rfl⟩
    have hok:okE n es[i]=true:=by simp [okE];omega
    rcases hp with ⟨rfl,rfl⟩ | ⟨j,hj,rfl,rfl⟩
    · have hn:=ih 1 (some es[0]) (bs++[[I es[0].1,I es[0].2]]) (by omega) (.inr ⟨0,hi2,rfl,rfl⟩)
      rw [hd]
      simp only [vEs,hok,Bool.true_and]
      refine wp_loop ?_
      repeat (first|apply wp_as|apply wp_ss|refine wr (by simp [hi2,h1,h2,h3,show IntKind.i64.wrap (1:Int)=1 from rfl];with_reducible rfl) ?_|refine wq (by simp [hi2,h1,h2,h3,show IntKind.i64.wrap (1:Int)=1 from rfl];with_reducible rfl) ?_|refine wt (by simpa [hi2,h1,h2,h3,show IntKind.i64.wrap (1:Int)=1 from rfl]) ?_|refine wf (by simpa [hi2,h1,h2,h3,show IntKind.i64.wrap (1:Int)=1 from rfl]) ?_|refine xt (by simpa [hi2,h1,h2,h3,show IntKind.i64.wrap (1:Int)=1 from rfl]) ?_|refine xf (by simpa [hi2,h1,h2,h3,show IntKind.i64.wrap (1:Int)=1 from rfl]) ?_|apply wp_bs|apply wp_b|refine wp_sr ?_|refine wp_sx ?_|refine wp_ret' ?_|refine wp_skip' ?_|refine wp_exit' ?_)
      exact hn
    · have w2:IntKind.i64.wrap (j:Int)=(j:Int):=wrapN (by omega)
      have hj0:(0:Int) < (j:Int)+1:=by omega
      have hj1:(j:Int)+1 < (es.length:Int):=by omega
      have w3:IntKind.i64.wrap ((j:Int)+1+1)=((j+1+1:Nat):Int):=by rw [wrap64 (by omega) (by omega)];omega
      have e1:=ev_lim (ev_edgeBelow es[j] es[j+1])
      rw [hd]
      simp only [vEs,hok,Bool.true_and]
      cases h4:below es[j] es[j+1] with
      | false =>
        refine wp_loop ?_
        repeat (first|apply wp_as|apply wp_ss|refine wr (by simp [hi2,hj,h1,h2,h3,w2,hj0,hj1,e1,h4];with_reducible rfl) ?_|refine wq (by simp [hi2,hj,h1,h2,h3,w2,hj0,hj1,e1,h4];with_reducible rfl) ?_|refine wt (by simpa [hi2,hj,h1,h2,h3,w2,hj0,hj1,e1,h4]) ?_|refine wf (by simpa [hi2,hj,h1,h2,h3,w2,hj0,hj1,e1,h4]) ?_|refine xt (by simpa [hi2,hj,h1,h2,h3,w2,hj0,hj1,e1,h4]) ?_|refine xf (by simpa [hi2,hj,h1,h2,h3,w2,hj0,hj1,e1,h4]) ?_|apply wp_bs|apply wp_b|refine wp_sr ?_|refine wp_sx ?_|refine wp_ret' ?_|refine wp_skip' ?_|refine wp_exit' ?_)
        exact .inr ⟨rfl,rfl,_,rfl⟩
      | true =>
        have hn:=ih (j+1+1) (some es[j+1]) (bs++[[I es[j+1].1,I es[j+1].2]]) (by omega) (.inr ⟨j+1,hi2,rfl,rfl⟩)
        simp only [Bool.true_and]
        refine wp_loop ?_
        repeat (first|apply wp_as|apply wp_ss|refine wr (by simp [hi2,hj,h1,h2,h3,w3,w2,hj0,hj1,e1,h4];with_reducible rfl) ?_|refine wq (by simp [hi2,hj,h1,h2,h3,w3,w2,hj0,hj1,e1,h4];with_reducible rfl) ?_|refine wt (by simpa [hi2,hj,h1,h2,h3,w3,w2,hj0,hj1,e1,h4]) ?_|refine wf (by simpa [hi2,hj,h1,h2,h3,w3,w2,hj0,hj1,e1,h4]) ?_|refine xt (by simpa [hi2,hj,h1,h2,h3,w3,w2,hj0,hj1,e1,h4]) ?_|refine xf (by simpa [hi2,hj,h1,h2,h3,w3,w2,hj0,hj1,e1,h4]) ?_|apply wp_bs|apply wp_b|refine wp_sr ?_|refine wp_sx ?_|refine wp_ret' ?_|refine wp_skip' ?_|refine wp_exit' ?_)
        exact hn
theorem ev_validGraph (n:Int) (es:List (Int×Int)) (c:Bool) (hl:es.length≤100000000):Ev tb zl145 [] [Gr n es c] [] ⟨Bo (vGraph n es),[],[],[]⟩:=by
  have e1:=ev_lim (ev_inRange n 0 7)
  have hlo:=svalidl n es c hl es.length 0 none [] (by simp) (.inl ⟨rfl,rfl⟩)
  refine call_of_wp zt145 rfl ?_
  repeat (first|apply wp_as|apply wp_ss|refine wr (by simp;with_reducible rfl) ?_|refine wq (by simp;with_reducible rfl) ?_|refine wt (by simpa) ?_|refine wf (by simpa) ?_|refine xt (by simpa) ?_|refine xf (by simpa) ?_|apply wp_bs|apply wp_b|refine wp_sr ?_|refine wp_sx ?_|refine wp_ret' ?_|refine wp_skip' ?_|refine wp_exit' ?_)
  refine wp_imp hlo ?_
  rintro ex st (⟨hv,rfl,bs,rfl⟩ | ⟨hv,rfl,bs,rfl⟩)
  · try simp only [if_true]
    repeat (first|apply wp_as|apply wp_ss|refine wr (by simp [e1];with_reducible rfl) ?_|refine wq (by simp [e1];with_reducible rfl) ?_|refine wt (by simpa [e1]) ?_|refine wf (by simpa [e1]) ?_|refine xt (by simpa [e1]) ?_|refine xf (by simpa [e1]) ?_|apply wp_bs|apply wp_b|refine wp_sr ?_|refine wp_sx ?_|refine wp_ret' ?_|refine wp_skip' ?_|refine wp_exit' ?_)
    simp only [List.drop_zero] at hv
    simp [zi145,vGraph,hv]
  · simp only [List.drop_zero] at hv
    simp [zi145,vGraph,hv]
end Go.Idl
namespace Go.Idl
structure Seg {α:Type} (X X':List α) (a b:Nat):Prop where
  perm:X'.Perm X
  out:∀ k,k < a ∨ b≤k→X'[k]? = X[k]?
theorem Seg.len {α:Type} {X X':List α} {a b:Nat} (h:Seg X X' a b):X'.length=X.length:=h.perm.length_eq
theorem Seg.refl {α:Type} (X:List α) (a b:Nat):Seg X X a b:=⟨.refl _,fun _ _=>rfl⟩
theorem Seg.trans {α:Type} {X Y Z:List α} {a b:Nat} (h:Seg X Y a b) (k:Seg Y Z a b):Seg X Z a b:=⟨k.perm.trans h.perm,fun i hi=>(k.out i hi).trans (h.out i hi)⟩
theorem Seg.mono {α:Type} {X Y:List α} {a b a' b':Nat} (h:Seg X Y a b) (h1:a'≤a) (h2:b≤b'):Seg X Y a' b':=⟨h.perm,fun i hi=>h.out i (by omega)⟩
theorem Seg.nodup {α:Type} {X Y:List α} {a b:Nat} (h:Seg X Y a b) (hn:X.Nodup):Y.Nodup:=h.perm.nodup_iff.2 hn
def swapL {α:Type} (X:List α) (i j:Nat) (hi:i < X.length) (hj:j < X.length):List α:=(X.set i X[j]).set j X[i]
theorem swapL_len {α:Type} (X:List α) (i j:Nat) (hi hj):(swapL X i j hi hj).length=X.length:=by simp [swapL]
theorem swapL_get {α:Type} (X:List α) (i j:Nat) (hi:i < X.length) (hj:j < X.length) (k:Nat):(swapL X i j hi hj)[k]? = if k=j then some X[i] else if k=i then some X[j] else X[k]?:=by
  rw [swapL,List.getElem?_set,List.getElem?_set]
  by_cases h1:k=j
  · subst h1;simp [hj]
  · by_cases h2:k=i
    · subst h2;simp [hi,h1,Ne.symm h1]
    · simp [h1,h2,Ne.symm h1,Ne.symm h2]
theorem swapL_perm {α:Type} (X:List α) (i j:Nat) (hi:i < X.length) (hj:j < X.length):(swapL X i j hi hj).Perm X:=by
  exact List.set_set_perm hi hj
theorem swapL_seg {α:Type} (X:List α) (i j a b:Nat) (hi:i < X.length) (hj:j < X.length) (h1:a≤i∧i < b) (h2:a≤j∧j < b):Seg X (swapL X i j hi hj) a b :=
  ⟨swapL_perm X i j hi hj,fun k hk=>by rw [swapL_get,if_neg (by omega),if_neg (by omega)]⟩
theorem Seg.back {α:Type} {X Y:List α} {a b:Nat} (h:Seg X Y a b) (hn:X.Nodup) {k:Nat} (hk:a≤k∧k < b) {e:α} (he:Y[k]? = some e):∃ l,(a≤l∧l < b)∧X[l]? = some e:=by
  have hm:e ∈ X:=h.perm.mem_iff.1 (List.mem_of_getElem? he)
  obtain ⟨l,hl,rfl⟩:=List.getElem_of_mem hm
  by_cases hlb:a≤l∧l < b
  · exact ⟨l,hlb,List.getElem?_eq_getElem hl⟩
  · have h1:=h.out l (by omega)
    rw [List.getElem?_eq_getElem hl] at h1
    have hny:=h.nodup hn
    have hkl:k < Y.length:=(List.getElem?_eq_some_iff.1 he).1
    have hll:l < Y.length:=by rw [h.len];exact hl
    have h2:=(List.getElem?_eq_some_iff.1 he).2
    have h3:=(List.getElem?_eq_some_iff.1 h1).2
    have h4:k=l:=(List.getElem_inj hny).1 (h2.trans h3.symm)
    omega
end Go.Idl
namespace Go.Idl
open Go
theorem below_asymm {a b:Int×Int} (h:below a b=true):below b a=false:=by
  rw [← Bool.not_eq_true]
  simp only [below,Bool.or_eq_true,Bool.and_eq_true,decide_eq_true_eq] at *
  omega
end Go.Idl
namespace Go.Idl
open Go
def BelowOn (X:List (Int×Int)) (lo hi:Nat) (x:Int×Int):Prop:=∀ k e,lo≤k→k < hi→X[k]? = some e→below e x=true
def AboveOn (X:List (Int×Int)) (lo hi:Nat) (x:Int×Int):Prop:=∀ k e,lo≤k→k < hi→X[k]? = some e→below e x=false
theorem AboveOn.cons {X:List (Int×Int)} {lo hi:Nat} {x:Int×Int} (h:AboveOn X (lo+1) hi x) (hl:lo < X.length) (hb:below X[lo] x=false):AboveOn X lo hi x:=fun k e h1 h2 he=>by
  by_cases hk:k=lo
  · subst hk
    rw [List.getElem?_eq_getElem hl] at he
    cases he;exact hb
  · exact h k e (by omega) h2 he
structure PInv (X0 X:List (Int×Int)) (a b i j:Nat) (x:Int×Int):Prop where
  seg:Seg X0 X a b
  piv:X[a]? = some x
  lo:BelowOn X (a+1) i x
  hi:AboveOn X (j+1) b x
  ai:a+1≤i
  ij:i≤j+1
  jb:j < b
  bl:b≤X.length
theorem PInv.al {X0 X a b i j x} (h:PInv X0 X a b i j x):a < X.length:=(List.getElem?_eq_some_iff.1 h.piv).1
theorem PInv.xa {X0 X a b i j x} (h:PInv X0 X a b i j x):X[a]'h.al=x:=(List.getElem?_eq_some_iff.1 h.piv).2
theorem PInv.swap {X0 X a b i j x} (h:PInv X0 X a b i j x) (hi:i < X.length) (hj:j < X.length) (hij:i≤j) (h1:below X[i] x=false) (h2:below X[j] x=true) :
    ∃ q,j=q+1∧i < j∧PInv X0 (swapL X i j hi hj) a b (i+1) q x:=by
  have hne:i ≠ j:=by rintro rfl;rw [h1] at h2;cases h2
  have hb:=h.bl
  have hjb:=h.jb
  have hai:=h.ai
  refine ⟨j - 1,by omega,by omega,h.seg.trans (swapL_seg X i j a b hi hj (by omega) (by omega)),?_,?_,?_,by omega,by omega,by omega,by rw [swapL_len];exact hb⟩
  · rw [swapL_get,if_neg (by omega),if_neg (by omega)];exact h.piv
  · intro k e k1 k2 he
    rw [swapL_get,if_neg (by omega)] at he
    by_cases hk:k=i
    · rw [if_pos hk] at he
      cases he;exact h2
    · rw [if_neg hk] at he
      exact h.lo k e k1 (by omega) he
  · intro k e k1 k2 he
    rw [swapL_get] at he
    by_cases hk:k=j
    · rw [if_pos hk] at he
      cases he;exact h1
    · rw [if_neg hk,if_neg (by omega)] at he
      exact h.hi k e (by omega) k2 he
theorem PInv.fin {X0 X a b j x} (h:PInv X0 X a b (j+1) j x) (hj:j < X.length):Seg X0 (swapL X j a hj h.al) a b∧(swapL X j a hj h.al)[j]? = some x∧BelowOn (swapL X j a hj h.al) a j x∧AboveOn (swapL X j a hj h.al) (j+1) b x:=by
  have hb:=h.bl
  have hjb:=h.jb
  have hai:=h.ai
  have hxa:=h.xa
  refine ⟨h.seg.trans (swapL_seg X j a a b hj h.al (by omega) (by omega)),?_,fun k e k1 k2 he=>?_,fun k e k1 k2 he=>?_⟩
  · rw [swapL_get]
    by_cases hja:j=a
    · subst hja;rw [if_pos rfl,hxa]
    · rw [if_neg hja,if_pos rfl,hxa]
  · rw [swapL_get] at he
    by_cases hka:k=a
    · rw [if_pos hka] at he
      cases he
      exact h.lo j _ (by omega) (by omega) (List.getElem?_eq_getElem hj)
    · rw [if_neg hka,if_neg (by omega)] at he
      exact h.lo k e (by omega) (by omega) he
  · rw [swapL_get,if_neg (by omega),if_neg (by omega)] at he
    exact h.hi k e k1 k2 he
end Go.Idl
namespace Go.Idl
open Go
theorem len_k (cf:CF) (n:Int) (m:Nat) (g:ByteArray) (b:UInt8) (k:Nat) (hw:IntKind.u8.wrap n=(m:Int)) (hb:g[m]? = some b) (hk:b.toNat=k) :
    ∃ st,execOps cf { T:=[(0,.sc (.int .u64 n)),(2,I 0),(14,Bo false)],loc:=[],M:=[] } [⟨some 19,none,.mv (.t 2)⟩,⟨some 20,none,.mv (.t 0)⟩,⟨some 21,none,.conv .u8 (.t 20)⟩,⟨some 22,none,.idxs (.c (.string g)) (.t 21)⟩,⟨some 23,none,.conv .i64 (.t 22)⟩,⟨some 24,none,.bin .add (.t 19) (.t 23)⟩,⟨some 2,none,.asg (.t 24)⟩]=some st∧st.cut [2]={ T:=[(2,I k)],loc:=[],M:=[] }:=by
  subst hk
  have hbl:b.toNat < 256:=b.toNat_lt
  have w1:IntKind.i64.wrap (b.toNat:Int)=(b.toNat:Int):=wrap64 (by omega) (by omega)
  refine ⟨_,by simp [hw,hb];rfl,by simp [w1]⟩
def lenB (n:Nat):Nat:=if n≤0 then 0 else if n≤1 then 1 else if n≤3 then 2 else if n≤7 then 3 else if n≤15 then 4 else 5
set_option maxRecDepth 100000 in
set_option maxHeartbeats 4000000 in
theorem ev_Len64k (n:Nat) (hn:n≤21):Ev tb zl68 [] [.sc (.int .u64 n)] [] ⟨I (lenB n),[],[],[]⟩:=by
  have cs:n=0 ∨ n=1 ∨ n=2 ∨ n=3 ∨ n=4 ∨ n=5 ∨ n=6 ∨ n=7 ∨ n=8 ∨ n=9 ∨ n=10 ∨ n=11 ∨ n=12 ∨ n=13 ∨ n=14 ∨ n=15 ∨ n=16 ∨ n=17 ∨ n=18 ∨ n=19 ∨ n=20 ∨ n=21:=by omega
  have w8:IntKind.u8.wrap (n:Int)=(n:Int):=by
    rcases cs with rfl | rfl | rfl | rfl | rfl | rfl | rfl | rfl | rfl | rfl | rfl | rfl | rfl | rfl | rfl | rfl | rfl | rfl | rfl | rfl | rfl | rfl <;> rfl
  have key:∃ st,execOps (limF tb) { T:=[(0,.sc (.int .u64 n)),(2,I 0),(14,Bo false)],loc:=[],M:=[] } (match z68r10 with | .reg ops _ _=>ops | _=>[])=some st∧st.cut [2]={ T:=[(2,I (lenB n))],loc:=[],M:=[] }:=by
    rcases cs with rfl | rfl | rfl | rfl | rfl | rfl | rfl | rfl | rfl | rfl | rfl | rfl | rfl | rfl | rfl | rfl | rfl | rfl | rfl | rfl | rfl | rfl
    all_goals
      exact len_k (limF tb) _ _ _ _ _ w8 rfl rfl
  obtain ⟨st,h1,h2⟩:=key
  have g1:¬ (4294967296:Int)≤n:=by omega
  have g2:¬ (65536:Int)≤n:=by omega
  have g3:¬ (256:Int)≤n:=by omega
  refine call_of_wp zt68 rfl ?_
  iterate 4 ((first|refine wp_as ?_|skip);refine wp_rs (by simp [g1,g2,g3];rfl) (by simp;rfl) ?_;(first|refine wp_ct (t:=false) (by simp) (by simp) (fun _=>?_)|skip);(first|refine wp_ss ?_|skip))
  refine wp_rs h1 h2 ?_
  refine wp_ret' ?_
  simp [zi68]
theorem ev_Lenk (n:Nat) (hn:n≤21):Ev tb zl66 [] [.sc (.int .u64 n)] [] ⟨I (lenB n),[],[],[]⟩:=by
  have e1:=ev_lim (ev_Len64k n hn)
  refine call_of_wp zt66 rfl ?_
  repeat (first|apply wp_as|apply wp_ss|refine wr (by simp [e1];with_reducible rfl) ?_|refine wq (by simp [e1];with_reducible rfl) ?_|refine wt (by simpa [e1]) ?_|refine wf (by simpa [e1]) ?_|refine xt (by simpa [e1]) ?_|refine xf (by simpa [e1]) ?_|apply wp_bs|apply wp_b|refine wp_sr ?_|refine wp_sx ?_|refine wp_ret' ?_|refine wp_skip' ?_|refine wp_exit' ?_)
  simp [zi66]
end Go.Idl
namespace Go.Idl
open Go
theorem jlt_ht (a b c:Int×Int×Int) (h1:jlt b a=false) (h2:jlt c b=false):jlt c a=false:=by
  rw [← Bool.not_eq_true] at *
  simp only [jlt,Bool.or_eq_true,Bool.and_eq_true,decide_eq_true_eq] at *
  omega
theorem jlt_asymm {a b:Int×Int×Int} (h:jlt a b=true):jlt b a=false:=by
  rw [← Bool.not_eq_true]
  simp only [jlt,Bool.or_eq_true,Bool.and_eq_true,decide_eq_true_eq] at *
  omega
theorem pdqJ (X:List (Int×Int×Int)) (h12:X.length≤12) (lim:Nat) (M:List Boxes) :
    Ev tb zl100 [0] [O3 X,I 0,I X.length,I lim,fcJ] M ⟨.tup [],[O3 (srtJ X)],M,[]⟩:=by
  have hE:=ev_insCj zl14 [] jlt (fun _=>True) (M++[[]]) (cmpOK_J _) [] [] X (by simp;omega) (fun _ _=>trivial)
  simp only [List.nil_append,List.append_nil,List.length_nil,Nat.zero_add,Int.natCast_zero,Int.zero_add] at hE
  have e1:=ev_lim hE
  have w0:IntKind.i64.wrap (X.length:Int)=(X.length:Int):=wrap64 (by omega) (by omega)
  have g1:(X.length:Int)≤12:=by omega
  refine call_of_wp zt100 rfl ?_
  repeat (first|apply wp_as|apply wp_ss|refine wr (by simp;with_reducible rfl) ?_|refine wq (by simp;with_reducible rfl) ?_|refine wt (by simpa) ?_|refine wf (by simpa) ?_|refine xt (by simpa) ?_|refine xf (by simpa) ?_|apply wp_bs|apply wp_b|refine wp_sr ?_|refine wp_sx ?_|refine wp_ret' ?_|refine wp_skip' ?_|refine wp_exit' ?_)
  refine wp_loop ?_
  repeat (first|apply wp_as|apply wp_ss|refine wr (by simp [w0,g1,h12,e1,srtJ];with_reducible rfl) ?_|refine wq (by simp [w0,g1,h12,e1,srtJ];with_reducible rfl) ?_|refine wt (by simpa [w0,g1,h12,e1,srtJ]) ?_|refine wf (by simpa [w0,g1,h12,e1,srtJ]) ?_|refine xt (by simpa [w0,g1,h12,e1,srtJ]) ?_|refine xf (by simpa [w0,g1,h12,e1,srtJ]) ?_|apply wp_bs|apply wp_b|refine wp_sr ?_|refine wp_sx ?_|refine wp_ret' ?_|refine wp_skip' ?_|refine wp_exit' ?_)
  simp [zi100,srtJ]
theorem ev_SortJ (X:List (Int×Int×Int)) (h12:X.length≤12) (M:List Boxes) :
    Ev tb zl77 [0] [O3 X,fcJ] M ⟨.tup [],[O3 (srtJ X)],M,[]⟩:=by
  have e1:=ev_lim (pdqJ X h12 (lenB X.length) (M++[[]]))
  have e2:=ev_lim (ev_Lenk X.length (by omega))
  have w1:=@wrapU X.length (by omega)
  refine call_of_wp zt77 rfl ?_
  repeat (first|apply wp_as|apply wp_ss|refine wr (by simp [e1,e2,w1];with_reducible rfl) ?_|refine wq (by simp [e1,e2,w1];with_reducible rfl) ?_|refine wt (by simpa [e1,e2,w1]) ?_|refine wf (by simpa [e1,e2,w1]) ?_|refine xt (by simpa [e1,e2,w1]) ?_|refine xf (by simpa [e1,e2,w1]) ?_|apply wp_bs|apply wp_b|refine wp_sr ?_|refine wp_sx ?_|refine wp_ret' ?_|refine wp_skip' ?_|refine wp_exit' ?_)
  simp [zi77]
end Go.Idl
namespace Go.Idl
open Go
def nl2:List (Int×Int)→IV
  | []=>Z
  | e::es=>O2 (e::es)
@[simp] theorem nl2_nil:nl2 []=Z:=rfl
@[simp] theorem nl2_cons (e:Int×Int) (es:List (Int×Int)):nl2 (e::es)=O2 (e::es):=rfl
end Go.Idl
namespace Go.Idl
open Go
theorem ev_Graph_degrees (n:Nat) (es:List (Int×Int)) (c:Bool) (hn:n≤1000) (hl:es.length≤1000) (he:EdgesIn n es) :
    Ev tb zl9 [] [Gr n es c] [] ⟨O (degs n es),[],[],[]⟩:=by
  have loop:∀ (m i:Nat) (out:List Int) (bs:Boxes),i+m=es.length→out.length=n→(∀ x ∈ out,0≤x∧x≤2 * i) →
      wp tb (.loop z9l8) { T:=[(1,.bptr 0 0 0),(3,O out),(10,L2 es c),(11,I es.length),(12,I i)],loc:=[I n,L2 es c]::bs,M:=[] }
      (fun ex st=>ex=.exit 0∧∃ bs',st={ T:=[(1,.bptr 0 0 0),(3,O (dfold out (es.drop i))),(10,L2 es c),(11,I es.length),(12,I es.length),(13,Bo false)],loc:=[I n,L2 es c]::bs',M:=[] }):=by
    intro m
    induction m with
    | zero =>
      intro i out bs hi ho hb
      have h3:i=es.length:=hi
      subst h3
      refine wp_loop ?_
      repeat (first|apply wp_as|apply wp_ss|refine wr (by simp;with_reducible rfl) ?_|refine wq (by simp;with_reducible rfl) ?_|refine wt (by simpa) ?_|refine wf (by simpa) ?_|refine xt (by simpa) ?_|refine xf (by simpa) ?_|apply wp_bs|apply wp_b|refine wp_sr ?_|refine wp_sx ?_|refine wp_ret' ?_|refine wp_skip' ?_|refine wp_exit' ?_)
      exact ⟨rfl,bs,by simp [dfold]⟩
    | succ m ih =>
      intro i out bs hi ho hb
      have hi2:i < es.length:=by omega
      have w1:IntKind.i64.wrap ((i:Int)+1)=((i+1:Nat):Int):=wrapS (by omega)
      have hd:es.drop i=es[i]::es.drop (i+1):=List.drop_eq_getElem_cons hi2
      have hei:=he es[i] (List.getElem_mem hi2)
      obtain ⟨p,q,hpq,hp,hq⟩:∃ p q:Nat,es[i]=((p:Int),(q:Int))∧p < n∧q < n:=⟨es[i].1.toNat,es[i].2.toNat,by ext <;> simp <;> omega,by omega,by omega⟩
      rw [hd,hpq]
      have hpo:p < out.length:=by omega
      have hx:=hb out[p] (List.getElem_mem hpo)
      have w2:IntKind.i64.wrap (out[p]+1)=out[p]+1:=wrap64 (by omega) (by omega)
      have e1:=bump_eq hpo
      have b1:=bump_bound (i:=p) hb (by omega)
      have l1:=bump_len out p
      have hstep:dfold out (((p:Int),(q:Int))::es.drop (i+1))=dfold (bump (bump out p) q) (es.drop (i+1)):=rfl
      rw [hstep]
      refine wp_loop ?_
      repeat (first|apply wp_as|apply wp_ss|refine wr (by simp [hi2,hpq];with_reducible rfl) ?_|refine wq (by simp [hi2,hpq];with_reducible rfl) ?_|refine wt (by simpa [hi2,hpq]) ?_|refine wf (by simpa [hi2,hpq]) ?_|refine xt (by simpa [hi2,hpq]) ?_|refine xf (by simpa [hi2,hpq]) ?_|apply wp_bs|apply wp_b|refine wp_sr ?_|refine wp_sx ?_|refine wp_ret' ?_|refine wp_skip' ?_|refine wp_exit' ?_)
      refine wr (by simp [hi2,hpq,hpo,w2,← e1];with_reducible rfl) ?_
      generalize bump out p=out1 at *
      have hqo:q < out1.length:=by omega
      have hx2:=b1 out1[q] (List.getElem_mem hqo)
      have w3:IntKind.i64.wrap (out1[q]+1)=out1[q]+1:=wrap64 (by omega) (by omega)
      have e2:=bump_eq hqo
      have b2:=bump_bound (i:=q) b1 (by omega)
      have l2:=bump_len out1 q
      refine wq (by simp [hi2,hpq,hqo,w3,← e2];with_reducible rfl) ?_
      repeat (first|apply wp_as|apply wp_ss|refine wr (by simp [w1];with_reducible rfl) ?_|refine wq (by simp [w1];with_reducible rfl) ?_|refine wt (by simpa [w1]) ?_|refine wf (by simpa [w1]) ?_|refine xt (by simpa [w1]) ?_|refine xf (by simpa [w1]) ?_|apply wp_bs|apply wp_b|refine wp_sr ?_|refine wp_sx ?_|refine wp_ret' ?_|refine wp_skip' ?_|refine wp_exit' ?_)
      exact ih (i+1) (bump out1 q) _ (by omega) (by omega) (fun x hx=>by have:=b2 x hx;omega)
  refine call_of_wp zt9 rfl ?_
  repeat (first|apply wp_as|apply wp_ss|refine wr (by simp [show n≤274877906944 by omega];with_reducible rfl) ?_|refine wq (by simp [show n≤274877906944 by omega];with_reducible rfl) ?_|refine wt (by simpa [show n≤274877906944 by omega]) ?_|refine wf (by simpa [show n≤274877906944 by omega]) ?_|refine xt (by simpa [show n≤274877906944 by omega]) ?_|refine xf (by simpa [show n≤274877906944 by omega]) ?_|apply wp_bs|apply wp_b|refine wp_sr ?_|refine wp_sx ?_|refine wp_ret' ?_|refine wp_skip' ?_|refine wp_exit' ?_)
  have:=loop es.length 0 (List.replicate n 0) [] (by simp) (by simp) (by intro x hx;have:=List.eq_of_mem_replicate hx;subst this;simp)
  simp at this
  refine wp_imp this ?_
  rintro ex st ⟨rfl,bs,rfl⟩
  try simp only [if_true]
  repeat (first|apply wp_as|apply wp_ss|refine wr (by simp;with_reducible rfl) ?_|refine wq (by simp;with_reducible rfl) ?_|refine wt (by simpa) ?_|refine wf (by simpa) ?_|refine xt (by simpa) ?_|refine xf (by simpa) ?_|apply wp_bs|apply wp_b|refine wp_sr ?_|refine wp_sx ?_|refine wp_ret' ?_|refine wp_skip' ?_|refine wp_exit' ?_)
  simp [zi9,degs]
theorem vEs_in (n:Int):∀ (p:Option (Int×Int)) (es:List (Int×Int)),vEs n p es=true→∀ e ∈ es,okE n e=true
  | _,[],_=>by simp
  | none,e::r,h=>by
    simp only [vEs,Bool.and_eq_true] at h
    intro x hx
    rcases List.mem_cons.1 hx with rfl | hx
    · exact h.1
    · exact vEs_in n _ r h.2 x hx
  | some q,e::r,h=>by
    simp only [vEs,Bool.and_eq_true] at h
    intro x hx
    rcases List.mem_cons.1 hx with rfl | hx
    · exact h.1
    · exact vEs_in n _ r h.2.2 x hx
theorem vG_edges {n:Int} {es:List (Int×Int)} (h:vGraph n es=true):∀ e ∈ es,0≤e.1∧e.1 < e.2∧e.2 < n:=by
  simp only [vGraph,Bool.and_eq_true] at h
  intro e he
  have:=vEs_in n none es h.1 e he
  simpa [okE] using this
theorem vG_n {n:Int} {es:List (Int×Int)} (h:vGraph n es=true):0≤n∧n≤7:=by
  simp only [vGraph,Bool.and_eq_true,decide_eq_true_eq] at h;omega
end Go.Idl
namespace Go.Idl
open Go
structure SmallG (n:Int) (es:List (Int×Int)):Prop where
  n1:-1≤n
  n2:n≤8
  len:es.length≤60
  el:∀ e ∈ es,-1≤e.1∧e.1≤8∧-1≤e.2∧e.2≤8
theorem SmallG.fit {n es} (h:SmallG n es):Fit es:=fun e he=>by have:=h.el e he;omega
end Go.Idl
namespace Go.Idl
def allD (p:List Int→Bool):Nat→Nat→List Int→Bool
  | 0,_,acc=>p acc.reverse
  | m+1,t,acc=>(List.range (t+1)).all fun x=>allD p m x ((x:Int)::acc)
theorem allD_ok (p:List Int→Bool):∀ (m t:Nat) (acc l:List Int),allD p m t acc=true→l.length=m→Desc l→(∀ x ∈ l,0≤x∧x≤t)→p (acc.reverse++l)=true
  | 0,t,acc,l,h,hl,hd,hb=>by
    have:l=[]:=List.length_eq_zero_iff.1 hl
    subst this
    simpa [allD] using h
  | m+1,t,acc,l,h,hl,hd,hb=>by
    cases l with
    | nil=>simp at hl
    | cons x r =>
      have hx:=hb x (by simp)
      have hd':=List.pairwise_cons.1 hd
      obtain ⟨k,rfl⟩:=Int.eq_ofNat_of_zero_le hx.1
      simp only [allD,List.all_eq_true,List.mem_range] at h
      have h1:=h k (by omega)
      have:=allD_ok p m k ((k:Int)::acc) r h1 (by simpa using hl) hd'.2 (fun y hy=>⟨(hb y (by simp [hy])).1,hd'.1 y hy⟩)
      simpa using this
def slS (s:List Int):List Int:=(List.range s.length).map fun i=>slk s (i+1)
theorem slacks_S (d:List Int):slacks d=slS (fall d):=by rw [slacks,slS,fall_len]
end Go.Idl
namespace Go.Idl
def S {α:Type} (l:List α) (f:α→Int):Int:=(l.map f).sum
@[simp] theorem S_nil {α:Type} (f:α→Int):S [] f=0:=rfl
@[simp] theorem S_cons {α:Type} (a:α) (l:List α) (f:α→Int):S (a::l) f=f a+S l f:=by simp [S]
theorem S_app {α:Type} (l k:List α) (f:α→Int):S (l++k) f=S l f+S k f:=by simp [S]
theorem S_perm {α:Type} {l k:List α} (h:l.Perm k) (f:α→Int):S l f=S k f:=perm_sum (h.map f)
theorem S_add {α:Type} (l:List α) (f g:α→Int):S l (fun a=>f a+g a)=S l f+S l g:=by
  induction l with
  | nil=>rfl
  | cons a l ih=>simp only [S_cons,ih];omega
theorem S_sub {α:Type} (l:List α) (f g:α→Int):S l (fun a=>f a - g a)=S l f - S l g:=by
  induction l with
  | nil=>rfl
  | cons a l ih=>simp only [S_cons,ih];omega
theorem S_zero {α:Type} (l:List α):S l (fun _=>0)=0:=by
  induction l with
  | nil=>rfl
  | cons a l ih=>simp [ih]
theorem S_const {α:Type} (l:List α) (c:Int):S l (fun _=>c)=l.length * c:=by
  induction l with
  | nil=>simp
  | cons a l ih=>rw [S_cons,ih,List.length_cons,Int.natCast_add,Int.add_mul];simp;omega
theorem S_congr {α:Type} {l:List α} {f g:α→Int} (h:∀ a ∈ l,f a=g a):S l f=S l g:=by
  induction l with
  | nil=>rfl
  | cons a l ih=>rw [S_cons,S_cons,h a (by simp),ih fun b hb=>h b (by simp [hb])]
theorem S_le {α:Type} {l:List α} {f g:α→Int} (h:∀ a ∈ l,f a≤g a):S l f≤S l g:=by
  induction l with
  | nil=>simp
  | cons a l ih =>
    have h1:=h a (by simp)
    have h2:=ih fun b hb=>h b (by simp [hb])
    simp only [S_cons];omega
theorem S_swap {α β:Type} (l:List α) (k:List β) (f:α→β→Int):S l (fun a=>S k (f a))=S k (fun b=>S l (fun a=>f a b)):=by
  induction l with
  | nil=>simp [S_zero]
  | cons a l ih=>simp only [S_cons,S_add,ih]
theorem S_mul {α:Type} (l:List α) (f:α→Int) (c:Int):S l (fun a=>c * f a)=c * S l f:=by
  induction l with
  | nil=>simp
  | cons a l ih=>rw [S_cons,S_cons,ih,Int.mul_add]
theorem S_mulr {α:Type} (l:List α) (f:α→Int) (c:Int):S l (fun a=>f a * c)=S l f * c:=by
  induction l with
  | nil=>simp
  | cons a l ih=>rw [S_cons,S_cons,ih,Int.add_mul]
theorem S_sublist {α:Type} {l k:List α} (h:l.Sublist k) {f:α→Int} (h0:∀ a ∈ k,0≤f a):S l f≤S k f:=by
  induction h with
  | slnil=>simp
  | cons a _ ih =>
    have h1:=h0 a (by simp)
    have h2:=ih fun b hb=>h0 b (by simp [hb])
    rw [S_cons];omega
  | cons_cons a _ ih =>
    have h2:=ih fun b hb=>h0 b (by simp [hb])
    rw [S_cons,S_cons];omega
theorem S_nonneg {α:Type} {l:List α} {f:α→Int} (h:∀ a ∈ l,0≤f a):0≤S l f:=by
  have:=S_le (l:=l) (f:=fun _=>0) h
  rwa [S_zero] at this
theorem S_map {α γ:Type} (l:List γ) (g:γ→α) (f:α→Int):S (l.map g) f=S l (fun c=>f (g c)):=by simp [S];rfl
theorem perm_map_inv {α β:Type} {f:α→β} {ys zs:List β} (h:ys.Perm zs):∀ {l:List α},zs=l.map f→∃ l':List α,l'.Perm l∧ys=l'.map f:=by
  induction h with
  | nil=>intro l hl;exact ⟨l,.refl _,hl⟩
  | cons x _ ih =>
    intro l hl
    cases l with
    | nil=>simp at hl
    | cons a l =>
      simp only [List.map_cons,List.cons.injEq] at hl
      obtain ⟨l',h1,h2⟩:=ih hl.2
      exact ⟨a::l',h1.cons a,by rw [List.map_cons,← h2,hl.1]⟩
  | swap x y r =>
    intro l hl
    cases l with
    | nil=>simp at hl
    | cons a l =>
      cases l with
      | nil=>simp at hl
      | cons b l =>
        simp only [List.map_cons,List.cons.injEq] at hl
        exact ⟨b::a::l,.swap a b l,by simp [hl.1,hl.2.1,hl.2.2]⟩
  | trans _ _ ih1 ih2 =>
    intro l hl
    obtain ⟨l2,h1,h2⟩:=ih2 hl
    obtain ⟨l3,h3,h4⟩:=ih1 h2
    exact ⟨l3,h3.trans h1,h4⟩
theorem S_one {α:Type} [DecidableEq α] {l:List α} (h:l.Nodup) (x:α):S l (fun a=>if x=a then 1 else 0)=if x ∈ l then 1 else 0:=by
  induction l with
  | nil=>simp
  | cons a l ih =>
    have h':=List.nodup_cons.1 h
    rw [S_cons,ih h'.2]
    by_cases hx:x=a
    · subst hx;simp [h'.1]
    · simp [hx]
theorem below_iff (a b:Int×Int):below a b=true ↔ a.1 < b.1 ∨ (a.1=b.1∧a.2 < b.2):=by simp [below]
theorem below_trans {a b c:Int×Int} (h:below a b=true) (k:below b c=true):below a c=true:=by
  rw [below_iff] at *;omega
theorem below_ne {a b:Int×Int} (h:below a b=true):a ≠ b:=by
  rintro rfl;rw [below_iff] at h;omega
abbrev PW (es:List (Int×Int)):Prop:=es.Pairwise fun a b=>below a b=true
theorem vEs_pw (n:Int):∀ (p:Option (Int×Int)) (es:List (Int×Int)),vEs n p es=true→PW es∧(∀ q,p=some q→∀ e ∈ es,below q e=true)
  | p,[],_=>⟨.nil,by simp⟩
  | none,e::r,h=>by
    simp only [vEs,Bool.and_eq_true] at h
    obtain ⟨h1,h2⟩:=vEs_pw n (some e) r h.2
    exact ⟨List.pairwise_cons.2 ⟨h2 e rfl,h1⟩,by simp⟩
  | some q,e::r,h=>by
    simp only [vEs,Bool.and_eq_true] at h
    obtain ⟨h1,h2⟩:=vEs_pw n (some e) r h.2.2
    refine ⟨List.pairwise_cons.2 ⟨h2 e rfl,h1⟩,fun q' hq' x hx=>?_⟩
    cases hq'
    rcases List.mem_cons.1 hx with rfl | hx
    · exact h.2.1
    · exact below_trans h.2.1 (h2 e rfl x hx)
theorem pw_vEs (n:Int):∀ (p:Option (Int×Int)) (es:List (Int×Int)),PW es→(∀ q,p=some q→∀ e ∈ es,below q e=true)→(∀ e ∈ es,okE n e=true)→vEs n p es=true
  | p,[],_,_,_=>by cases p <;> rfl
  | none,e::r,h,_,ho=>by
    have h':=List.pairwise_cons.1 h
    simp only [vEs,Bool.and_eq_true]
    exact ⟨ho e (by simp),pw_vEs n (some e) r h'.2 (fun q hq x hx=>by cases hq;exact h'.1 x hx) fun x hx=>ho x (by simp [hx])⟩
  | some q,e::r,h,hq,ho=>by
    have h':=List.pairwise_cons.1 h
    simp only [vEs,Bool.and_eq_true]
    exact ⟨ho e (by simp),hq q rfl e (by simp),pw_vEs n (some e) r h'.2 (fun q hq x hx=>by cases hq;exact h'.1 x hx) fun x hx=>ho x (by simp [hx])⟩
theorem row_mem_iff (a:Nat):∀ (m b:Nat) (e:Int×Int),e ∈ row a b m ↔ e.1=a∧(b:Int)≤e.2∧e.2 < b+m
  | 0,b,e=>by simp [row] <;> omega
  | m+1,b,e=>by
    rw [row,List.mem_cons,row_mem_iff a m (b+1) e]
    constructor
    · rintro (rfl | h)
      · simp;omega
      · omega
    · intro h
      by_cases h2:e.2=b
      · exact .inl (Prod.ext h.1 h2)
      · exact .inr (by omega)
theorem prsF_mem_iff:∀ (m a:Nat) (e:Int×Int),e ∈ prsF a m ↔ (a:Int)≤e.1∧e.1 < e.2∧e.2 < a+m
  | 0,a,e=>by simp [prsF];omega
  | m+1,a,e=>by
    rw [prsF,List.mem_append,row_mem_iff,prsF_mem_iff m (a+1) e]
    omega
theorem mem_prs {n:Nat} {e:Int×Int}:e ∈ prs n ↔ 0≤e.1∧e.1 < e.2∧e.2 < n:=by
  rw [prs,prsF_mem_iff];omega
theorem row_pw (a:Nat):∀ (m b:Nat),PW (row a b m)
  | 0,b=>.nil
  | m+1,b=>by
    rw [row]
    refine List.pairwise_cons.2 ⟨fun e he=>?_,row_pw a m (b+1)⟩
    rw [row_mem_iff] at he
    rw [below_iff];simp only;omega
theorem prsF_pw:∀ (m a:Nat),PW (prsF a m)
  | 0,a=>.nil
  | m+1,a=>by
    rw [prsF]
    refine List.pairwise_append.2 ⟨row_pw a m (a+1),prsF_pw m (a+1),fun x hx y hy=>?_⟩
    rw [row_mem_iff] at hx
    rw [prsF_mem_iff] at hy
    rw [below_iff];omega
theorem prs_pw (n:Nat):PW (prs n):=prsF_pw n 0
theorem pw_nodup {es:List (Int×Int)} (h:PW es):es.Nodup:=h.imp fun h=>below_ne h
theorem pw_ext {xs ys:List (Int×Int)} (hx:PW xs) (hy:PW ys) (h:∀ e,e ∈ xs ↔ e ∈ ys):xs=ys:=by
  refine List.Perm.eq_of_pairwise (le:=fun a b=>below a b=true) (fun a b _ _ h1 h2=>absurd (below_trans h1 h2) (fun h=>below_ne h rfl)) hx hy ?_
  exact (List.perm_ext_iff_of_nodup (pw_nodup hx) (pw_nodup hy)).2 h
theorem vG_iff {n:Nat} {es:List (Int×Int)}:vGraph n es=true ↔ PW es∧(∀ e ∈ es,e ∈ prs n)∧n≤7:=by
  constructor
  · intro h
    have h1:=vG_n h
    have h2:=vG_edges h
    simp only [vGraph,Bool.and_eq_true] at h
    exact ⟨(vEs_pw n none es h.1).1,fun e he=>mem_prs.2 (h2 e he),by omega⟩
  · rintro ⟨h1,h2,h3⟩
    simp only [vGraph,Bool.and_eq_true,decide_eq_true_eq]
    refine ⟨pw_vEs n none es h1 (by simp) fun e he=>?_,by omega,by omega⟩
    have:=mem_prs.1 (h2 e he)
    simp only [okE,Bool.and_eq_true,decide_eq_true_eq];omega
theorem vG_filter {n:Nat} {es:List (Int×Int)} (h:vGraph n es=true):es=(prs n).filter fun e=>decide (e ∈ es):=by
  obtain ⟨h1,h2,h3⟩:=vG_iff.1 h
  refine pw_ext h1 ((prs_pw n).filter _) fun e=>?_
  rw [List.mem_filter,decide_eq_true_eq]
  exact ⟨fun he=>⟨h2 e he,he⟩,fun he=>he.2⟩
theorem vG_sub {n:Nat} {es:List (Int×Int)} (h:vGraph n es=true):es.Sublist (prs n):=by
  rw [vG_filter h];exact List.filter_sublist
def inc (v:Nat) (e:Int×Int):Int:=(if e.1=v then 1 else 0)+(if e.2=v then 1 else 0)
def deg (es:List (Int×Int)) (v:Nat):Int:=S es (inc v)
theorem bump_get {o:List Int} {i v:Nat} (hv:v < o.length):(bump o i).getD v 0=o.getD v 0+(if i=v then 1 else 0):=by
  rw [bump,List.getD_eq_getElem?_getD,List.getElem?_set]
  by_cases h:i=v
  · subst h;simp [hv,List.getD_eq_getElem?_getD]
  · simp [h,List.getD_eq_getElem?_getD]
theorem dfold_get {n:Nat}:∀ (es:List (Int×Int)) (o:List Int),(∀ e ∈ es,0≤e.1∧0≤e.2)→∀ v,v < o.length→(dfold o es).getD v 0=o.getD v 0+deg es v
  | [],o,_,v,_=>by simp [dfold,deg]
  | e::es,o,h,v,hv=>by
    have h1:=h e (by simp)
    have:=dfold_get (n:=n) es (bump (bump o e.1.toNat) e.2.toNat) (fun x hx=>h x (by simp [hx])) v (by simp [bump_len];exact hv)
    rw [show dfold o (e::es)=dfold (bump (bump o e.1.toNat) e.2.toNat) es from rfl,this,bump_get (by rw [bump_len];exact hv),bump_get hv,deg,deg,S_cons]
    have c1:(e.1.toNat=v)=(e.1=(v:Int)):=by rw [eq_iff_iff];omega
    have c2:(e.2.toNat=v)=(e.2=(v:Int)):=by rw [eq_iff_iff];omega
    simp only [inc,c1,c2]
    omega
theorem degs_eq {n:Nat} {es:List (Int×Int)} (h:EdgesIn n es):degs n es=(List.range n).map (deg es):=by
  have hl:(degs n es).length=n:=by rw [degs,dfold_len];simp
  refine List.ext_getElem (by simp [hl]) fun v h1 h2=>?_
  have:=dfold_get (n:=n) es (List.replicate n 0) (fun e he=>by have:=h e he;omega) v (by simp;omega)
  rw [← degs,List.getD_eq_getElem?_getD,List.getElem?_eq_getElem h1] at this
  simp only [Option.getD_some] at this
  rw [this]
  simp [List.getD_eq_getElem?_getD]
  rw [List.getElem?_eq_getElem (by simp;omega)];simp
theorem S_inc {n:Nat} {e:Int×Int} (h:e ∈ prs n) {l:List Nat} (hl:l.Perm (List.range n)):S l (fun v=>inc v e)=2:=by
  have h0:=mem_prs.1 h
  have key:∀ x:Int,0≤x→x < n→S l (fun v=>if x=(v:Int) then 1 else 0)=1:=by
    intro x hx hxn
    obtain ⟨k,rfl⟩:=Int.eq_ofNat_of_zero_le hx
    have:∀ v ∈ l,(if (k:Int)=(v:Int) then (1:Int) else 0)=if k=v then 1 else 0:=fun v _=>by simp only [Int.ofNat_inj]
    rw [S_congr this,S_one (hl.nodup_iff.2 List.nodup_range),if_pos (hl.mem_iff.2 (List.mem_range.2 (by omega)))]
  simp only [inc]
  rw [S_add,key _ (by omega) (by omega),key _ (by omega) (by omega)]
  rfl
theorem degs_sum {n:Nat} {es:List (Int×Int)} (h:∀ e ∈ es,e ∈ prs n):(degs n es).sum=2 * es.length:=by
  rw [degs_eq fun e he=>by have:=mem_prs.1 (h e he);omega]
  show S (List.range n) (fun v=>S es (fun e=>inc v e))=_
  rw [S_swap,S_congr (g:=fun _=>2) fun e he=>S_inc (h e he) (.refl _),S_const]
  omega
theorem deg_prs_all:(List.range 8).all (fun n=>(List.range n).all fun v=>decide (deg (prs n) v=(n:Int) - 1))=true:=by decide +kernel
theorem deg_prs {n v:Nat} (hn:n≤7) (hv:v < n):deg (prs n) v=(n:Int) - 1:=by
  have:=List.all_eq_true.1 (List.all_eq_true.1 deg_prs_all n (List.mem_range.2 (by omega))) v (List.mem_range.2 hv)
  exact of_decide_eq_true this
def adj (e:Int×Int) (a b:Nat):Int:=(if e.1=a then 1 else 0) * (if e.2=b then 1 else 0)+(if e.2=a then 1 else 0) * (if e.1=b then 1 else 0)
theorem adj_all:(List.range 8).all (fun n=>(List.range n).all fun a=>(List.range n).all fun b=>decide (S (prs n) (fun e=>adj e a b)=if a=b then 0 else 1))=true:=by decide +kernel
theorem adj_prs {n a b:Nat} (hn:n≤7) (ha:a < n) (hb:b < n):S (prs n) (fun e=>adj e a b)=if a=b then 0 else 1:=by
  have:=List.all_eq_true.1 (List.all_eq_true.1 (List.all_eq_true.1 adj_all n (List.mem_range.2 (by omega))) a (List.mem_range.2 ha)) b (List.mem_range.2 hb)
  exact of_decide_eq_true this
theorem ind01 {l:List Nat} (h:l.Nodup) (x:Int):S l (fun v=>if x=(v:Int) then 1 else 0)=0 ∨ S l (fun v=>if x=(v:Int) then 1 else 0)=1:=by
  by_cases hx:0≤x
  · obtain ⟨k,rfl⟩:=Int.eq_ofNat_of_zero_le hx
    have:∀ v ∈ l,(if (k:Int)=(v:Int) then (1:Int) else 0)=if k=v then 1 else 0:=fun v _=>by simp only [Int.ofNat_inj]
    rw [S_congr this,S_one h]
    split
    · exact .inr rfl
    · exact .inl rfl
  · refine .inl ?_
    rw [S_congr (g:=fun _=>0) fun v _=>if_neg (by omega),S_zero]
theorem two_sets {n k m:Nat} {es:List (Int×Int)} (h:vGraph n es=true) {π:List Nat} (hπ:π.Perm (List.range n)) (hkm:k≤m) (hm:m≤n) :
    S (π.take k) (deg es)+S (π.take m) (deg es)≤(k:Int) * ((m:Int) - 1)+S π (deg es):=by
  have hn:=(vG_iff.1 h).2.2
  have hin:=(vG_iff.1 h).2.1
  have hnd:π.Nodup:=hπ.nodup_iff.2 List.nodup_range
  have hπl:π.length=n:=by rw [hπ.length_eq,List.length_range]
  have hlt:∀ v ∈ π,v < n:=fun v hv=>List.mem_range.1 (hπ.mem_iff.1 hv)
  obtain ⟨A,hA⟩:∃ A,A=π.take k:=⟨_,rfl⟩
  obtain ⟨B,hB⟩:∃ B,B=π.take m:=⟨_,rfl⟩
  have hAB:A.Sublist B:=by
    rw [hA,hB,show π.take k=(π.take m).take k by rw [List.take_take,Nat.min_eq_left hkm]]
    exact List.take_sublist _ _
  have hBn:B.Nodup:=by rw [hB];exact hnd.sublist (List.take_sublist _ _)
  have hAn:A.Nodup:=hBn.sublist hAB
  have hBl:B.length=m:=by rw [hB,List.length_take];omega
  have hAl:A.length=k:=by rw [hA,List.length_take];omega
  have hBm:∀ v ∈ B,v < n:=fun v hv=>hlt v (by rw [hB] at hv;exact List.mem_of_mem_take hv)
  rw [← hA,← hB]
  have sw:∀ l:List Nat,S l (deg es)=S es (fun e=>S l (fun v=>inc v e)):=fun l=>S_swap l es fun v e=>inc v e
  have hw:S es (fun e=>S A (fun a=>S B (fun b=>adj e a b)))≤(k:Int) * ((m:Int) - 1):=by
    refine Int.le_trans (S_sublist (vG_sub h) (f:=fun e=>S A (fun a=>S B (fun b=>adj e a b))) fun e _=>S_nonneg fun a _=>S_nonneg fun b _=>?_) ?_
    · simp only [adj]
      split <;> split <;> split <;> split <;> decide
    · rw [S_swap]
      have:∀ a ∈ A,S (prs n) (fun e=>S B (fun b=>adj e a b))=(m:Int) - 1:=fun a ha=>by
        have ha':=hAB.mem ha
        rw [S_swap,S_congr (g:=fun b=>1 - (if a=b then 1 else 0)) fun b hb=>by
          rw [adj_prs hn (hBm a ha') (hBm b hb)];split <;> rfl]
        rw [S_sub,S_const,S_one hBn,if_pos ha',hBl];omega
      rw [S_congr this,S_const,hAl]
      exact Int.le_refl _
  have he:∀ e ∈ es,S A (fun v=>inc v e)+S B (fun v=>inc v e) - 2≤S A (fun a=>S B (fun b=>adj e a b)):=fun e he=>by
    have hwe:S A (fun a=>S B (fun b=>adj e a b))=S A (fun v=>if e.1=(v:Int) then 1 else 0) * S B (fun v=>if e.2=(v:Int) then 1 else 0)+S A (fun v=>if e.2=(v:Int) then 1 else 0) * S B (fun v=>if e.1=(v:Int) then 1 else 0):=by
      rw [← S_mulr,← S_mulr,← S_add]
      refine S_congr fun a _=>?_
      rw [← S_mul,← S_mul,← S_add]
      rfl
    rw [hwe]
    simp only [inc]
    rw [S_add,S_add]
    have m1:S A (fun v=>if e.1=(v:Int) then 1 else 0)≤S B (fun v=>if e.1=(v:Int) then 1 else 0):=S_sublist hAB fun v _=>by split <;> decide
    have m2:S A (fun v=>if e.2=(v:Int) then 1 else 0)≤S B (fun v=>if e.2=(v:Int) then 1 else 0):=S_sublist hAB fun v _=>by split <;> decide
    rcases ind01 hAn e.1 with h1 | h1 <;> rcases ind01 hAn e.2 with h2 | h2 <;> rcases ind01 hBn e.1 with h3 | h3 <;> rcases ind01 hBn e.2 with h4 | h4 <;> rw [h1,h3] at m1 <;> rw [h2,h4] at m2 <;> rw [h1,h2,h3,h4] <;> omega
  have hs:=S_le he
  rw [S_sub,S_add,S_const] at hs
  have h2:S π (deg es)=es.length * 2:=by
    rw [sw,S_congr (g:=fun _=>2) fun e he=>S_inc (hin e he) hπ,S_const]
  rw [sw A,sw B,h2]
  omega
theorem degs_valid {n:Nat} {es:List (Int×Int)} (h:vGraph n es=true):valid (degs n es)=true:=by
  obtain ⟨h1,h2,hn⟩:=vG_iff.1 h
  have hE:EdgesIn n es:=fun e he=>by have:=mem_prs.1 (h2 e he);omega
  rw [degs_eq hE]
  simp only [valid,Bool.and_eq_true,decide_eq_true_eq,List.all_eq_true,List.length_map,List.length_range]
  refine ⟨hn,fun x hx=>?_⟩
  obtain ⟨v,hv,rfl⟩:=List.mem_map.1 hx
  have hv:=List.mem_range.1 hv
  have hi:∀ e:Int×Int,0≤inc v e:=fun e=>by simp only [inc];split <;> split <;> decide
  have h3:deg es v≤deg (prs n) v:=S_sublist (vG_sub h) fun e _=>hi e
  have h4:0≤deg es v:=S_nonneg fun e _=>hi e
  have:=deg_prs hn hv
  omega
theorem degs_graphic {n:Nat} {es:List (Int×Int)} (h:vGraph n es=true):graphic (degs n es)=true:=by
  obtain ⟨h1,h2,hn⟩:=vG_iff.1 h
  have hE:EdgesIn n es:=fun e he=>by have:=mem_prs.1 (h2 e he);omega
  have hs:=degs_sum h2
  have hde:=degs_eq hE
  obtain ⟨π,hπ,hfp⟩:=perm_map_inv (f:=deg es) (fall_perm (degs n es)) (l:=List.range n) hde
  refine (graphic_iff _).2 ⟨degs_valid h,by omega,fun k m hk hkm hm=>?_⟩
  rw [show (degs n es).length=n by rw [hde];simp] at hm
  have:=two_sets h hπ hkm hm
  have hsum:(degs n es).sum=S π (deg es):=by rw [hde];exact S_perm hπ.symm _
  simp only [tops,hfp,hsum]
  rw [← List.map_take,← List.map_take]
  exact this
end Go.Idl
namespace Go.Idl
open Go
theorem degs_len (n:Nat) (es:List (Int×Int)):(degs n es).length=n:=by rw [degs,dfold_len];simp
end Go.Idl
namespace Go.Idl
open Go
def jCnt (D:List Int) (es:List (Int×Int)) (a b:Int):Nat:=(keysJ D es).count (a,b)
theorem jCnt_succ {D:List Int} {es:List (Int×Int)} {i:Nat} {x:Int×Int} (hx:es[i]? = some x) (a b:Int) :
    jCnt D (es.take (i+1)) a b=jCnt D (es.take i) a b+if min (D.getD x.1.toNat 0) (D.getD x.2.toNat 0)=a∧max (D.getD x.1.toNat 0) (D.getD x.2.toNat 0)=b then 1 else 0:=by
  have hi:i < es.length:=(List.getElem?_eq_some_iff.1 hx).1
  have hxe:es[i]=x:=(List.getElem?_eq_some_iff.1 hx).2
  rw [List.take_succ_eq_append_getElem hi,hxe]
  simp only [jCnt,keysJ,List.map_append,List.map_cons,List.map_nil,List.count_append,List.count_singleton,beq_iff_eq,Prod.mk.injEq]
theorem ev_jointCount (n:Nat) (es:List (Int×Int)) (D:List Int) (a b:Int) (c c2:Bool) (hl:es.length≤1000) (hD:D.length=n) (he:EdgesIn n es) :
    Ev tb zl133 [] [Gr n es c,L D c2,I a,I b] [] ⟨I (jCnt D es a b),[],[],[]⟩:=by
  have loop:∀ (m i:Nat),i+m=es.length→wp tb (.loop z133l9) { T:=[(1,L D c2),(2,I a),(3,I b),(4,.bptr 0 0 0),(9,I (jCnt D (es.take i) a b)),(10,I i)],loc:=[[I n,L2 es c]],M:=[] }
      (fun ex st=>ex=.exit 0∧st={ T:=[(1,L D c2),(2,I a),(3,I b),(4,.bptr 0 0 0),(9,I (jCnt D es a b)),(10,I es.length),(17,Bo false)],loc:=[[I n,L2 es c]],M:=[] }):=by
    intro m
    induction m with
    | zero =>
      intro i hi
      have h3:i=es.length:=hi
      subst h3
      rw [List.take_length]
      refine wp_loop ?_
      repeat (first|apply wp_as|apply wp_ss|refine wr (by simp;with_reducible rfl) ?_|refine wq (by simp;with_reducible rfl) ?_|refine wt (by simpa) ?_|refine wf (by simpa) ?_|refine xt (by simpa) ?_|refine xf (by simpa) ?_|apply wp_bs|apply wp_b|refine wp_sr ?_|refine wp_sx ?_|refine wp_ret' ?_|refine wp_skip' ?_|refine wp_exit' ?_)
      simp
    | succ m ih =>
      intro i hi
      have hi2:i < es.length:=by omega
      have hn:=ih (i+1) (by omega)
      have w1:IntKind.i64.wrap ((i:Int)+1)=((i+1:Nat):Int):=wrapS (by omega)
      have hei:=he es[i] (List.getElem_mem hi2)
      obtain ⟨p,q,hpq,hp,hq⟩:∃ p q:Nat,es[i]=((p:Int),(q:Int))∧p < n∧q < n:=⟨es[i].1.toNat,es[i].2.toNat,by ext <;> simp <;> omega,by omega,by omega⟩
      have hs:=jCnt_succ (D:=D) (show es[i]? = some ((p:Int),(q:Int)) by rw [List.getElem?_eq_getElem hi2,hpq]) a b
      have hpo:p < D.length:=by omega
      have hqo:q < D.length:=by omega
      have gp:D.getD p 0=D[p]:=by simp [List.getD_eq_getElem?_getD,hpo]
      have gq:D.getD q 0=D[q]:=by simp [List.getD_eq_getElem?_getD,hqo]
      simp only [Int.toNat_natCast,gp,gq] at hs
      have hc:jCnt D (es.take i) a b≤1000:=by
        have q1:=List.count_le_length (a:=(a,b)) (l:=keysJ D (es.take i))
        simp only [keysJ,List.length_map,List.length_take] at q1
        simp only [jCnt,keysJ]
        omega
      have w2:IntKind.i64.wrap ((jCnt D (es.take i) a b:Int)+1)=((jCnt D (es.take i) a b+1:Nat):Int):=wrapS (by omega)
      generalize jCnt D (es.take i) a b=k at hs hc w2
      rw [hs] at hn
      have m1:(if D[q] < D[p] then D[q] else D[p])=min D[p] D[q]:=by omega
      have m2:(if D[p] < D[q] then D[q] else D[p])=max D[p] D[q]:=by omega
      by_cases h1:min D[p] D[q]=a
      · by_cases h2:max D[p] D[q]=b
        · rw [if_pos ⟨h1,h2⟩] at hn
          refine wp_loop ?_
          repeat (first|apply wp_as|apply wp_ss|refine wr (by simp [hi2,w1,w2,hpq,hpo,hqo,m1,m2,h1,h2];with_reducible rfl) ?_|refine wq (by simp [hi2,w1,w2,hpq,hpo,hqo,m1,m2,h1,h2];with_reducible rfl) ?_|refine wt (by simpa [hi2,w1,w2,hpq,hpo,hqo,m1,m2,h1,h2]) ?_|refine wf (by simpa [hi2,w1,w2,hpq,hpo,hqo,m1,m2,h1,h2]) ?_|refine xt (by simpa [hi2,w1,w2,hpq,hpo,hqo,m1,m2,h1,h2]) ?_|refine xf (by simpa [hi2,w1,w2,hpq,hpo,hqo,m1,m2,h1,h2]) ?_|apply wp_bs|apply wp_b|refine wp_sr ?_|refine wp_sx ?_|refine wp_ret' ?_|refine wp_skip' ?_|refine wp_exit' ?_)
          exact hn
        · rw [if_neg (fun h=>h2 h.2)] at hn
          refine wp_loop ?_
          repeat (first|apply wp_as|apply wp_ss|refine wr (by simp [hi2,w1,w2,hpq,hpo,hqo,m1,m2,h1,h2];with_reducible rfl) ?_|refine wq (by simp [hi2,w1,w2,hpq,hpo,hqo,m1,m2,h1,h2];with_reducible rfl) ?_|refine wt (by simpa [hi2,w1,w2,hpq,hpo,hqo,m1,m2,h1,h2]) ?_|refine wf (by simpa [hi2,w1,w2,hpq,hpo,hqo,m1,m2,h1,h2]) ?_|refine xt (by simpa [hi2,w1,w2,hpq,hpo,hqo,m1,m2,h1,h2]) ?_|refine xf (by simpa [hi2,w1,w2,hpq,hpo,hqo,m1,m2,h1,h2]) ?_|apply wp_bs|apply wp_b|refine wp_sr ?_|refine wp_sx ?_|refine wp_ret' ?_|refine wp_skip' ?_|refine wp_exit' ?_)
          exact hn
      · rw [if_neg (fun h=>h1 h.1)] at hn
        refine wp_loop ?_
        repeat (first|apply wp_as|apply wp_ss|refine wr (by simp [hi2,w1,w2,hpq,hpo,hqo,m1,m2,h1];with_reducible rfl) ?_|refine wq (by simp [hi2,w1,w2,hpq,hpo,hqo,m1,m2,h1];with_reducible rfl) ?_|refine wt (by simpa [hi2,w1,w2,hpq,hpo,hqo,m1,m2,h1]) ?_|refine wf (by simpa [hi2,w1,w2,hpq,hpo,hqo,m1,m2,h1]) ?_|refine xt (by simpa [hi2,w1,w2,hpq,hpo,hqo,m1,m2,h1]) ?_|refine xf (by simpa [hi2,w1,w2,hpq,hpo,hqo,m1,m2,h1]) ?_|apply wp_bs|apply wp_b|refine wp_sr ?_|refine wp_sx ?_|refine wp_ret' ?_|refine wp_skip' ?_|refine wp_exit' ?_)
        exact hn
  have hlo:=loop es.length 0 (by simp)
  rw [List.take_zero] at hlo
  have h0:jCnt D [] a b=0:=rfl
  rw [h0] at hlo
  refine call_of_wp zt133 rfl ?_
  repeat (first|apply wp_as|apply wp_ss|refine wr (by simp;with_reducible rfl) ?_|refine wq (by simp;with_reducible rfl) ?_|refine wt (by simpa) ?_|refine wf (by simpa) ?_|refine xt (by simpa) ?_|refine xf (by simpa) ?_|apply wp_bs|apply wp_b|refine wp_sr ?_|refine wp_sx ?_|refine wp_ret' ?_|refine wp_skip' ?_|refine wp_exit' ?_)
  refine wp_imp hlo ?_
  rintro ex st ⟨rfl,rfl⟩
  repeat (first|apply wp_as|apply wp_ss|refine wr (by simp;with_reducible rfl) ?_|refine wq (by simp;with_reducible rfl) ?_|refine wt (by simpa) ?_|refine wf (by simpa) ?_|refine xt (by simpa) ?_|refine xf (by simpa) ?_|apply wp_bs|apply wp_b|refine wp_sr ?_|refine wp_sx ?_|refine wp_ret' ?_|refine wp_skip' ?_|refine wp_exit' ?_)
  simp [zi133]
def jRow (D:List Int) (es:List (Int×Int)) (a:Nat):Nat→Nat→List (Int×Int×Int)
  | 0,_=>[]
  | m+1,b=>(if 0 < jCnt D es a b then [((a:Int),(b:Int),(jCnt D es a b:Int))] else [])++jRow D es a m (b+1)
def jAll (D:List Int) (es:List (Int×Int)):Nat→Nat→List (Int×Int×Int)
  | 0,_=>[]
  | m+1,a=>jRow D es a (m+1) a++jAll D es m (a+1)
def jS (n:Nat) (es:List (Int×Int)):List (Int×Int×Int):=jAll (degs n es) es (n - 1) 1
theorem jRow_len (D:List Int) (es:List (Int×Int)) (a:Nat):∀ m b,(jRow D es a m b).length≤m
  | 0,_=>Nat.le_refl _
  | m+1,b=>by
    have:=jRow_len D es a m (b+1)
    rw [jRow,List.length_append]
    split <;> simp <;> omega
theorem ev_jointOf (n:Nat) (es:List (Int×Int)) (c:Bool) (hn:n≤900) (hl:es.length≤1000) (he:EdgesIn n es) :
    Ev tb zl134 [] [Gr n es c] [] ⟨O3 (jS n es),[],[],[]⟩:=by
  have hD:(degs n es).length=n:=degs_len n es
  have e0:=ev_lim (ev_degrees n es c (by omega) hl he)
  obtain ⟨D,hDe⟩:∃ D,D=degs n es:=⟨_,rfl⟩
  rw [← hDe] at e0 hD
  have e1:=fun a b c2=>ev_lim (ev_jointCount n es D a b c c2 hl hD he)
  have loop1:∀ (m a b:Nat) (acc:List (Int×Int×Int)),b+m=n→a≤n→acc.length+m≤1000000 →
      wp tb (.loop z134l11) { T:=[(1,.bptr 0 0 0),(3,O D),(4,O3 acc),(5,I a),(6,I b)],loc:=[[I n,L2 es c]],M:=[] }
      (fun ex st=>ex=.exit 2∧st={ T:=[(1,.bptr 0 0 0),(3,O D),(4,O3 (acc++jRow D es a m b)),(5,I a),(6,I n),(21,Bo false)],loc:=[[I n,L2 es c]],M:=[] }):=by
    intro m
    induction m with
    | zero =>
      intro a b acc hb ha hacc
      have h3:b=n:=hb
      subst h3
      refine wp_loop ?_
      repeat (first|apply wp_as|apply wp_ss|refine wr (by simp;with_reducible rfl) ?_|refine wq (by simp;with_reducible rfl) ?_|refine wt (by simpa) ?_|refine wf (by simpa) ?_|refine xt (by simpa) ?_|refine xf (by simpa) ?_|apply wp_bs|apply wp_b|refine wp_sr ?_|refine wp_sx ?_|refine wp_ret' ?_|refine wp_skip' ?_|refine wp_exit' ?_)
      simp [jRow]
    | succ m ih =>
      intro a b acc hb ha hacc
      have hbn:b < n:=by omega
      have w1:IntKind.i64.wrap ((b:Int)+1)=((b+1:Nat):Int):=wrapS (by omega)
      by_cases h0:0 < jCnt D es a b
      · have hcap:acc.length≤274877906943:=by omega
        have hn:=ih a (b+1) (acc++[((a:Int),(b:Int),(jCnt D es a b:Int))]) (by omega) ha (by simp;omega)
        rw [List.append_assoc] at hn
        have hr:[((a:Int),(b:Int),(jCnt D es a b:Int))]++jRow D es a m (b+1)=jRow D es a (m+1) b:=by rw [jRow,if_pos h0]
        rw [hr] at hn
        refine wp_loop ?_
        repeat (first|apply wp_as|apply wp_ss|refine wr (by simp [hbn,w1,e1,h0,hcap];with_reducible rfl) ?_|refine wq (by simp [hbn,w1,e1,h0,hcap];with_reducible rfl) ?_|refine wt (by simpa [hbn,w1,e1,h0,hcap]) ?_|refine wf (by simpa [hbn,w1,e1,h0,hcap]) ?_|refine xt (by simpa [hbn,w1,e1,h0,hcap]) ?_|refine xf (by simpa [hbn,w1,e1,h0,hcap]) ?_|apply wp_bs|apply wp_b|refine wp_sr ?_|refine wp_sx ?_|refine wp_ret' ?_|refine wp_skip' ?_|refine wp_exit' ?_)
        exact hn
      · have hn:=ih a (b+1) acc (by omega) ha (by omega)
        have hr:jRow D es a m (b+1)=jRow D es a (m+1) b:=by rw [jRow,if_neg h0,List.nil_append]
        rw [hr] at hn
        refine wp_loop ?_
        repeat (first|apply wp_as|apply wp_ss|refine wr (by simp [hbn,w1,e1,h0];with_reducible rfl) ?_|refine wq (by simp [hbn,w1,e1,h0];with_reducible rfl) ?_|refine wt (by simpa [hbn,w1,e1,h0]) ?_|refine wf (by simpa [hbn,w1,e1,h0]) ?_|refine xt (by simpa [hbn,w1,e1,h0]) ?_|refine xf (by simpa [hbn,w1,e1,h0]) ?_|apply wp_bs|apply wp_b|refine wp_sr ?_|refine wp_sx ?_|refine wp_ret' ?_|refine wp_skip' ?_|refine wp_exit' ?_)
        exact hn
  have loop2:∀ (m a:Nat) (acc:List (Int×Int×Int)),a+m=n→acc.length+1000 * m≤1000000 →
      wp tb (.loop z134l13) { T:=[(1,.bptr 0 0 0),(3,O D),(4,O3 acc),(5,I a)],loc:=[[I n,L2 es c]],M:=[] }
      (fun ex st=>ex=.exit 0∧∃ a':Int,st={ T:=[(1,.bptr 0 0 0),(3,O D),(4,O3 (acc++jAll D es m a)),(5,I a'),(14,Bo false)],loc:=[[I n,L2 es c]],M:=[] }):=by
    intro m
    induction m with
    | zero =>
      intro a acc ha hacc
      have h3:a=n:=ha
      subst h3
      refine wp_loop ?_
      repeat (first|apply wp_as|apply wp_ss|refine wr (by simp;with_reducible rfl) ?_|refine wq (by simp;with_reducible rfl) ?_|refine wt (by simpa) ?_|refine wf (by simpa) ?_|refine xt (by simpa) ?_|refine xf (by simpa) ?_|apply wp_bs|apply wp_b|refine wp_sr ?_|refine wp_sx ?_|refine wp_ret' ?_|refine wp_skip' ?_|refine wp_exit' ?_)
      exact ⟨rfl,_,by simp [jAll];rfl⟩
    | succ m ih =>
      intro a acc ha hacc
      have han:a < n:=by omega
      have w1:IntKind.i64.wrap ((a:Int)+1)=((a+1:Nat):Int):=wrapS (by omega)
      have hin:=loop1 (m+1) a a acc (by omega) (by omega) (by omega)
      have hrl:=jRow_len D es a (m+1) a
      have hn:=ih (a+1) (acc++jRow D es a (m+1) a) (by omega) (by rw [List.length_append];omega)
      rw [List.append_assoc] at hn
      have hr:jRow D es a (m+1) a++jAll D es m (a+1)=jAll D es (m+1) a:=rfl
      rw [hr] at hn
      refine wp_loop ?_
      repeat (first|apply wp_as|apply wp_ss|refine wr (by simp [han,w1];with_reducible rfl) ?_|refine wq (by simp [han,w1];with_reducible rfl) ?_|refine wt (by simpa [han,w1]) ?_|refine wf (by simpa [han,w1]) ?_|refine xt (by simpa [han,w1]) ?_|refine xf (by simpa [han,w1]) ?_|apply wp_bs|apply wp_b|refine wp_sr ?_|refine wp_sx ?_|refine wp_ret' ?_|refine wp_skip' ?_|refine wp_exit' ?_)
      refine wp_imp hin ?_
      rintro ex st ⟨rfl,rfl⟩
      simp only [if_true]
      repeat (first|apply wp_as|apply wp_ss|refine wr (by simp [w1];with_reducible rfl) ?_|refine wq (by simp [w1];with_reducible rfl) ?_|refine wt (by simpa [w1]) ?_|refine wf (by simpa [w1]) ?_|refine xt (by simpa [w1]) ?_|refine xf (by simpa [w1]) ?_|apply wp_bs|apply wp_b|refine wp_sr ?_|refine wp_sx ?_|refine wp_ret' ?_|refine wp_skip' ?_|refine wp_exit' ?_)
      exact hn
  refine call_of_wp zt134 rfl ?_
  repeat (first|apply wp_as|apply wp_ss|refine wr (by simp [e0];with_reducible rfl) ?_|refine wq (by simp [e0];with_reducible rfl) ?_|refine wt (by simpa [e0]) ?_|refine wf (by simpa [e0]) ?_|refine xt (by simpa [e0]) ?_|refine xf (by simpa [e0]) ?_|apply wp_bs|apply wp_b|refine wp_sr ?_|refine wp_sx ?_|refine wp_ret' ?_|refine wp_skip' ?_|refine wp_exit' ?_)
  by_cases h1:n=0
  · subst h1
    have hj:jS 0 es=[]:=rfl
    rw [hj]
    refine wp_loop ?_
    repeat (first|apply wp_as|apply wp_ss|refine wr (by simp;with_reducible rfl) ?_|refine wq (by simp;with_reducible rfl) ?_|refine wt (by simpa) ?_|refine wf (by simpa) ?_|refine xt (by simpa) ?_|refine xf (by simpa) ?_|apply wp_bs|apply wp_b|refine wp_sr ?_|refine wp_sx ?_|refine wp_ret' ?_|refine wp_skip' ?_|refine wp_exit' ?_)
    simp [zi134]
  have hlo:=loop2 (n - 1) 1 [] (by omega) (by simp;omega)
  rw [List.nil_append] at hlo
  refine wp_imp hlo ?_
  rintro ex st ⟨rfl,a',rfl⟩
  simp only [if_true]
  repeat (first|apply wp_as|apply wp_ss|refine wr (by simp;with_reducible rfl) ?_|refine wq (by simp;with_reducible rfl) ?_|refine wt (by simpa) ?_|refine wf (by simpa) ?_|refine xt (by simpa) ?_|refine xf (by simpa) ?_|apply wp_bs|apply wp_b|refine wp_sr ?_|refine wp_sx ?_|refine wp_ret' ?_|refine wp_skip' ?_|refine wp_exit' ?_)
  simp [zi134,jS,hDe]
end Go.Idl
namespace Go.Idl
open Go
def decAt (o:List Int) (i:Nat):List Int:=o.set i (o.getD i 0 - 1)
def subs:List (Int×Int)→List Int→List (Int×Int)→List (List (Int×Int))
  | [],left,chosen=>if left.all (fun x=>decide (x=0)) then [chosen] else []
  | e::r,left,chosen =>
    (if 0 < left.getD e.1.toNat 0∧0 < left.getD e.2.toNat 0 then subs r (decAt (decAt left e.1.toNat) e.2.toNat) (chosen++[e]) else [])++subs r left chosen
end Go.Idl
namespace Go.Idl
def insP (x:Nat×Nat):List (Nat×Nat)→List (Nat×Nat)
  | []=>[x]
  | y::r=>if Nat.ble y.1 x.1 then x::y::r else y::insP x r
def hh:Nat→List (Nat×Nat)→List (Nat×Nat)
  | 0,_=>[]
  | _+1,[]=>[]
  | m+1,x::r=>(r.take x.1).map (fun y:Nat×Nat=>(x.2,y.2))++hh m ((((r.take x.1).map (fun y:Nat×Nat=>(y.1 - 1,y.2))++r.drop x.1:List (Nat×Nat))).foldr insP [])
theorem inc_nonneg (v:Nat) (e:Int×Int):0≤inc v e:=by simp only [inc];split <;> split <;> decide
def mk (u v:Nat):Int×Int:=(min (u:Int) v,max (u:Int) v)
end Go.Idl
namespace Go.Idl
def prJ:List (Int×Int):=[(1,1),(1,2),(1,3),(1,4),(1,5),(1,6),(2,2),(2,3),(2,4),(2,5),(2,6),(3,3),(3,4),(3,5),(3,6),(4,4),(4,5),(4,6),(5,5),(5,6),(6,6)]
def okP (s:List Int) (k:Int×Int):Bool:=if k.1=k.2 then decide (2≤s.count k.1) else decide (1≤s.count k.1) && decide (1≤s.count k.2)
def chkJ (s:List Int):Bool:=!(decide (s.sum % 2=0) && noneNeg (slS s)) || decide (s.sum≤25) || decide ((prJ.filter (okP s)).length≤12)
set_option maxRecDepth 100000 in
theorem chkJ_all:(List.range 8).all (fun n=>allD chkJ n (n - 1) [])=true:=by kernel_rfl
theorem okP_perm {s t:List Int} (h:s.Perm t) (k:Int×Int):okP s k=okP t k:=by
  simp only [okP,h.count_eq]
theorem few_pairs {d:List Int} (hg:graphic d=true):d.sum≤25 ∨ (prJ.filter (okP d)).length≤12:=by
  have hv:valid d=true:=by simp only [graphic,Bool.and_eq_true] at hg;exact hg.1.1
  have h1:=(valid_few hv).1
  have h2:=valid_mem hv
  have hc:=List.all_eq_true.1 chkJ_all d.length (List.mem_range.2 (by omega))
  have h3:=allD_ok chkJ d.length (d.length - 1) [] (fall d) hc (fall_len d) (fall_desc d) (fun x hx=>by
    have:=h2 x (fall_mem.1 hx)
    omega)
  simp only [graphic,hv,Bool.true_and,Bool.and_eq_true,decide_eq_true_eq] at hg
  have hg2:noneNeg (slS (fall d))=true:=by rw [← slacks_S];exact hg.2
  simp only [List.reverse_nil,List.nil_append,chkJ,fall_sum,hg.1,hg2,decide_true,Bool.and_self,Bool.not_true,Bool.false_or,Bool.or_eq_true,decide_eq_true_eq] at h3
  have he:prJ.filter (okP (fall d))=prJ.filter (okP d):=List.filter_congr fun k _=>okP_perm (fall_perm d) k
  rcases h3 with h3 | h3
  · exact .inl h3
  · rw [← he]
    exact .inr (of_decide_eq_true h3)
theorem deg_at {n:Nat} {es:List (Int×Int)} (h:vGraph n es=true) {e:Int×Int} (he:e ∈ es):(degs n es).length=n∧0≤e.1∧e.1 < e.2∧e.2 < n∧1≤(degs n es).getD e.1.toNat 0∧1≤(degs n es).getD e.2.toNat 0:=by
  obtain ⟨h1,h2,hn⟩:=vG_iff.1 h
  have hp:=mem_prs.1 (h2 e he)
  have hE:EdgesIn n es:=fun e he=>by have:=mem_prs.1 (h2 e he);omega
  have hpos:∀ v:Nat,v < n→inc v e=1→1≤(degs n es).getD v 0:=fun v hv hi=>by
    have hg:(degs n es).getD v 0=S es (inc v):=by
      rw [degs_eq hE,List.getD_eq_getElem?_getD,List.getElem?_map,List.getElem?_range hv]
      rfl
    rw [hg]
    obtain ⟨a,b,rfl⟩:=List.append_of_mem he
    rw [S_app,S_cons]
    have q1:=S_nonneg (l:=a) (f:=inc v) fun e _=>inc_nonneg v e
    have q2:=S_nonneg (l:=b) (f:=inc v) fun e _=>inc_nonneg v e
    omega
  refine ⟨degs_len n es,hp.1,hp.2.1,hp.2.2,hpos _ (by omega) ?_,hpos _ (by omega) ?_⟩
  · simp only [inc]
    rw [if_pos (by omega),if_neg (by omega)];rfl
  · simp only [inc]
    rw [if_neg (by omega),if_pos (by omega)];rfl
theorem count_two {l:List Int} {u v:Nat} {x:Int} (huv:u < v) (hu:l[u]? = some x) (hv:l[v]? = some x):2≤l.count x:=by
  have hul:u < l.length:=(List.getElem?_eq_some_iff.1 hu).1
  have hsplit:l=l.take (u+1)++l.drop (u+1):=(List.take_append_drop _ _).symm
  rw [hsplit,List.count_append]
  have h1:x ∈ l.take (u+1):=List.mem_iff_getElem?.2 ⟨u,by rw [List.getElem?_take_of_lt (by omega)];exact hu⟩
  have h2:x ∈ l.drop (u+1):=List.mem_iff_getElem?.2 ⟨v - (u+1),by rw [List.getElem?_drop];rw [show u+1+(v - (u+1))=v by omega];exact hv⟩
  have:=List.one_le_count_iff.2 h1
  have:=List.one_le_count_iff.2 h2
  omega
theorem getDJ {l:List Int} {u:Nat} (h:u < l.length):l[u]? = some (l.getD u 0):=by
  rw [List.getD_eq_getElem?_getD,List.getElem?_eq_getElem h];rfl
theorem mem_prJ {a b:Int} (h1:1≤a) (h2:a≤b) (h3:b≤6):(a,b) ∈ prJ:=by
  have ha:a=1 ∨ a=2 ∨ a=3 ∨ a=4 ∨ a=5 ∨ a=6:=by omega
  have hb:b=1 ∨ b=2 ∨ b=3 ∨ b=4 ∨ b=5 ∨ b=6:=by omega
  rcases ha with rfl | rfl | rfl | rfl | rfl | rfl <;> rcases hb with rfl | rfl | rfl | rfl | rfl | rfl <;> first | (exfalso;omega) | decide
theorem keys_ok {n:Nat} {es:List (Int×Int)} (h:vGraph n es=true) {k:Int×Int} (hk:k ∈ keysJ (degs n es) es):1≤k.1∧k.1≤k.2∧k.2 < n∧okP (degs n es) k=true:=by
  obtain ⟨e,he,rfl⟩:=List.mem_map.1 hk
  obtain ⟨hl,p1,p2,p3,q1,q2⟩:=deg_at h he
  have hg:=degs_graphic h
  have hv:valid (degs n es)=true:=by simp only [graphic,Bool.and_eq_true] at hg;exact hg.1.1
  have hm:=valid_mem hv
  rw [hl] at hm
  have g1:=getDJ (l:=degs n es) (u:=e.1.toNat) (by omega)
  have g2:=getDJ (l:=degs n es) (u:=e.2.toNat) (by omega)
  have m1:=hm _ (List.mem_of_getElem? g1)
  have m2:=hm _ (List.mem_of_getElem? g2)
  generalize (degs n es).getD e.1.toNat 0=x at q1 g1 m1
  generalize (degs n es).getD e.2.toNat 0=y at q2 g2 m2
  refine ⟨by simp only;omega,by simp only;omega,by simp only;omega,?_⟩
  have c1:=List.one_le_count_iff.2 (List.mem_of_getElem? g1)
  have c2:=List.one_le_count_iff.2 (List.mem_of_getElem? g2)
  simp only [okP]
  by_cases hxy:x=y
  · subst hxy
    rw [if_pos (by omega),decide_eq_true_eq,Int.min_self]
    exact count_two (u:=e.1.toNat) (v:=e.2.toNat) (by omega) g1 g2
  · rw [if_neg (by omega),Bool.and_eq_true,decide_eq_true_eq,decide_eq_true_eq]
    rcases Int.lt_or_lt_of_ne hxy with hlt | hlt
    · rw [Int.min_eq_left (by omega),Int.max_eq_right (by omega)];exact ⟨c1,c2⟩
    · rw [Int.min_eq_right (by omega),Int.max_eq_left (by omega)];exact ⟨c2,c1⟩
theorem keys_few {n:Nat} {es:List (Int×Int)} (h:vGraph n es=true):(cntK (keysJ (degs n es) es)).length≤12:=by
  obtain ⟨h1,h2,hn⟩:=vG_iff.1 h
  have hnd:=nodup_eraseDupsJ _ (keysJ (degs n es) es) (Nat.le_refl _)
  have hlen:(cntK (keysJ (degs n es) es)).length=(keysJ (degs n es) es).eraseDups.length:=List.length_map _
  rw [hlen]
  rcases few_pairs (degs_graphic h) with hs | hp
  · have hds:=degs_sum h2
    have:=subLenJ _ (keysJ (degs n es) es) hnd (fun x hx=>List.mem_eraseDups.1 hx)
    have hl:(keysJ (degs n es) es).length=es.length:=List.length_map _
    omega
  · refine Nat.le_trans (subLenJ _ _ hnd fun k hk=>?_) hp
    have hk:=List.mem_eraseDups.1 hk
    obtain ⟨q1,q2,q3,q4⟩:=keys_ok h hk
    exact List.mem_filter.2 ⟨mem_prJ q1 q2 (by omega),q4⟩
theorem mem_cntK {ks:List (Int×Int)} {x:Int×Int×Int}:x ∈ cntK ks ↔ ∃ k ∈ ks,x=(k.1,k.2,(ks.count k:Int)):=by
  rw [cntK,List.mem_map]
  constructor
  · rintro ⟨k,hk,rfl⟩;exact ⟨k,List.mem_eraseDups.1 hk,rfl⟩
  · rintro ⟨k,hk,rfl⟩;exact ⟨k,List.mem_eraseDups.2 hk,rfl⟩
theorem cntK_nodup (ks:List (Int×Int)):(cntK ks).Nodup:=by
  rw [cntK,List.Nodup,List.pairwise_map]
  refine (nodup_eraseDupsJ _ ks (Nat.le_refl _)).imp fun {a b} hne he=>hne ?_
  simp only [Prod.mk.injEq] at he
  exact Prod.ext he.1 he.2.1
theorem jRow_mem {D:List Int} {es:List (Int×Int)} {a:Nat} {x:Int×Int×Int}:∀ {m b:Nat},x ∈ jRow D es a m b ↔ ∃ b':Nat,b≤b'∧b' < b+m∧0 < jCnt D es a b'∧x=((a:Int),(b':Int),(jCnt D es a b':Int))
  | 0,b=>by
    simp only [jRow,List.not_mem_nil,false_iff]
    rintro ⟨b',h1,h2,-⟩
    omega
  | m+1,b=>by
    rw [jRow,List.mem_append,jRow_mem]
    constructor
    · rintro (h | ⟨b',h1,h2,h3,h4⟩)
      · by_cases h0:0 < jCnt D es a b
        · rw [if_pos h0,List.mem_singleton] at h
          exact ⟨b,Nat.le_refl _,by omega,h0,h⟩
        · rw [if_neg h0] at h;cases h
      · exact ⟨b',by omega,by omega,h3,h4⟩
    · rintro ⟨b',h1,h2,h3,h4⟩
      by_cases hb:b'=b
      · subst hb
        rw [if_pos h3]
        exact .inl (by rw [h4];simp)
      · exact .inr ⟨b',by omega,by omega,h3,h4⟩
theorem jAll_mem {D:List Int} {es:List (Int×Int)} {x:Int×Int×Int}:∀ {m a:Nat},x ∈ jAll D es m a ↔ ∃ a' b':Nat,a≤a'∧a'≤b'∧b' < a+m∧0 < jCnt D es a' b'∧x=((a':Int),(b':Int),(jCnt D es a' b':Int))
  | 0,a=>by
    simp only [jAll,List.not_mem_nil,false_iff]
    rintro ⟨a',b',h1,h2,h3,-⟩
    omega
  | m+1,a=>by
    rw [jAll,List.mem_append,jRow_mem,jAll_mem]
    constructor
    · rintro (⟨b',h1,h2,h3,h4⟩ | ⟨a',b',h1,h2,h3,h4,h5⟩)
      · exact ⟨a,b',Nat.le_refl _,h1,h2,h3,h4⟩
      · exact ⟨a',b',by omega,h2,by omega,h4,h5⟩
    · rintro ⟨a',b',h1,h2,h3,h4,h5⟩
      by_cases ha:a'=a
      · subst ha
        exact .inl ⟨b',h2,h3,h4,h5⟩
      · exact .inr ⟨a',b',by omega,h2,by omega,h4,h5⟩
theorem jRow_pw (D:List Int) (es:List (Int×Int)) (a:Nat):∀ m b,(jRow D es a m b).Pairwise (fun x y=>jlt x y=true)
  | 0,b=>.nil
  | m+1,b=>by
    rw [jRow,List.pairwise_append]
    refine ⟨by split <;> simp,jRow_pw D es a m (b+1),fun x hx y hy=>?_⟩
    obtain ⟨b',h1,h2,h3,rfl⟩:=jRow_mem.1 hy
    by_cases h0:0 < jCnt D es a b
    · rw [if_pos h0,List.mem_singleton] at hx
      subst hx
      simp only [jlt,Bool.or_eq_true,Bool.and_eq_true,decide_eq_true_eq]
      exact .inr ⟨trivial,by show (b:Int) < (b':Int);omega⟩
    · rw [if_neg h0] at hx;cases hx
theorem jAll_pw (D:List Int) (es:List (Int×Int)):∀ m a,(jAll D es m a).Pairwise (fun x y=>jlt x y=true)
  | 0,a=>.nil
  | m+1,a=>by
    rw [jAll,List.pairwise_append]
    refine ⟨jRow_pw D es a _ _,jAll_pw D es m (a+1),fun x hx y hy=>?_⟩
    obtain ⟨b',h1,h2,h3,rfl⟩:=jRow_mem.1 hx
    obtain ⟨a',b'',g1,g2,g3,g4,rfl⟩:=jAll_mem.1 hy
    simp only [jlt,Bool.or_eq_true,Bool.and_eq_true,decide_eq_true_eq]
    exact .inl (by show (a:Int) < (a':Int);omega)
theorem srtJ_jS {n:Nat} {es:List (Int×Int)} (h:vGraph n es=true) {π:List (Int×Int×Int)} (hp:π.Perm (cntK (keysJ (degs n es) es))):srtJ π=jS n es:=by
  obtain ⟨hs,hsp⟩:=srtC_ok (lt:=jlt) jlt_ht (fun a b h=>jlt_asymm h) π [] .nil
  rw [List.nil_append] at hsp
  have hP:(srtJ π).Perm (cntK (keysJ (degs n es) es)):=hsp.trans hp
  have hnd:(srtJ π).Nodup:=hP.nodup_iff.2 (cntK_nodup _)
  have h1:(srtJ π).Pairwise (fun x y=>jlt x y=true):=by
    have hs':(srtJ π).Pairwise (fun x y=>jlt y x=false):=hs
    refine List.Pairwise.imp_of_mem (fun {x y} hx hy hxy=>?_) (hs'.and hnd)
    obtain ⟨k,hk,rfl⟩:=mem_cntK.1 (hP.mem_iff.1 hx)
    obtain ⟨k',hk',rfl⟩:=mem_cntK.1 (hP.mem_iff.1 hy)
    obtain ⟨q1,q2⟩:=hxy
    rw [← Bool.not_eq_true] at q1
    simp only [jlt,Bool.or_eq_true,Bool.and_eq_true,decide_eq_true_eq] at q1 ⊢
    by_cases hkk:k=k'
    · subst hkk;exact absurd rfl q2
    · have:¬ (k.1=k'.1∧k.2=k'.2):=fun e=>hkk (Prod.ext e.1 e.2)
      omega
  have h2:(jS n es).Pairwise (fun x y=>jlt x y=true):=jAll_pw _ _ _ _
  have hnd2:(jS n es).Nodup:=h2.imp fun {a b} hab e=>by
    subst e
    have:=jlt_asymm hab
    rw [hab] at this;cases this
  refine List.Perm.eq_of_pairwise (le:=fun a b=>jlt a b=true) (fun a b _ _ q1 q2=>by rw [jlt_asymm q1] at q2;cases q2) h1 h2 ?_
  rw [List.perm_ext_iff_of_nodup hnd hnd2]
  intro x
  rw [hP.mem_iff,mem_cntK]
  constructor
  · rintro ⟨k,hk,rfl⟩
    obtain ⟨q1,q2,q3,-⟩:=keys_ok h hk
    have hc:0 < (keysJ (degs n es) es).count k:=List.count_pos_iff.2 hk
    have hk1:((k.1.toNat:Nat):Int)=k.1:=by omega
    have hk2:((k.2.toNat:Nat):Int)=k.2:=by omega
    refine jAll_mem.2 ⟨k.1.toNat,k.2.toNat,by omega,by omega,by omega,?_,?_⟩
    · rw [hk1,hk2];exact hc
    · rw [hk1,hk2];rfl
  · intro hx
    obtain ⟨a',b',h1,h2,h3,h4,rfl⟩:=jAll_mem.1 hx
    exact ⟨((a':Int),(b':Int)),List.count_pos_iff.1 h4,rfl⟩
end Go.Idl
namespace Go.Idl
open Go
theorem wp_extj {g:CF→List IV→Option IV} {st:St} {Q:Ex→St→Prop} {v:IV} (h:∃ N,∀ n,N≤n→g (callN tb n) (st.T.map (·.2))=some v) (q:Q .ret { st with T:=[(0,v)] }):wp tb (.ext g) st Q:=⟨v,h,q⟩
theorem uniN {α:Type} {P:α→Nat→Prop}:∀ (C:List α),(∀ x ∈ C,∃ N,∀ n,N≤n→P x n)→∃ N,∀ n,N≤n→∀ x ∈ C,P x n
  | [],_=>⟨0,fun _ _ _ h=>nomatch h⟩
  | x::C,h=>by
    obtain ⟨N1,h1⟩:=h x (by simp)
    obtain ⟨N2,h2⟩:=uniN C fun y hy=>h y (by simp [hy])
    refine ⟨max N1 N2,fun n hn y hy=>?_⟩
    rcases List.mem_cons.1 hy with rfl | hy
    · exact h1 n (by omega)
    · exact h2 n (by omega) y hy
def allLs {α:Type} (l:List α):Nat→List (List α)
  | 0=>[[]]
  | k+1=>l.flatMap fun x=>(allLs l k).map (x::·)
theorem mem_allLs {α:Type} {l:List α}:∀ (p:List α),(∀ x ∈ p,x ∈ l)→p ∈ allLs l p.length
  | [],_=>by simp [allLs]
  | x::p,h=>by
    rw [List.length_cons,allLs,List.mem_flatMap]
    exact ⟨x,h x (by simp),List.mem_map.2 ⟨p,mem_allLs p fun y hy=>h y (by simp [hy]),rfl⟩⟩
theorem rowsJ_inj:∀ {a b:List (Int×Int×Int)},rowsJ a=rowsJ b→a=b
  | [],[],_=>rfl
  | [],_::_,h=>by simp [rowsJ] at h
  | _::_,[],h=>by simp [rowsJ] at h
  | x::a,y::b,h=>by
    simp only [rowsJ,List.map_cons,List.cons.injEq,IV.sc.injEq,Value.int.injEq,true_and,and_true] at h
    obtain ⟨⟨h1,h2,h3⟩,h4⟩:=h
    rw [rowsJ_inj (a:=a) (b:=b) h4,Prod.ext h1 (Prod.ext h2 h3)]
theorem sort_uni (L:List (Int×Int×Int)) (h12:L.length≤12):∃ N,∀ n,N≤n→∀ π:List (Int×Int×Int),π.Perm L→callN tb n zl77 [0] [.own 3 (rowsJ π),.fn zl14 []] []=some ⟨.tup [],[.own 3 (rowsJ (srtJ π))],[],[]⟩:=by
  obtain ⟨N,hN⟩:=uniN (P:=fun π n=>π.Perm L→callN tb n zl77 [0] [.own 3 (rowsJ π),.fn zl14 []] []=some ⟨.tup [],[.own 3 (rowsJ (srtJ π))],[],[]⟩) (allLs L L.length) (fun π _=>by
    by_cases hp:π.Perm L
    · obtain ⟨N,hN⟩:=ev_SortJ π (by rw [hp.length_eq];exact h12) []
      exact ⟨N,fun n hn _=>hN n hn⟩
    · exact ⟨0,fun _ _ h=>absurd h hp⟩)
  exact ⟨N,fun n hn π hp=>hN n hn π (by have:=mem_allLs (l:=L) π fun x hx=>hp.mem_iff.1 hx;rwa [hp.length_eq] at this) hp⟩
theorem extKeys_ok {D:List Int}:∀ {es:List (Int×Int)},(∀ x ∈ es,0≤x.1∧x.1.toNat < D.length∧0≤x.2∧x.2.toNat < D.length)→extKeys D (eds es)=some (keysJ D es)
  | [],_=>rfl
  | x::es,h=>by
    have h1:=h x (by simp)
    have h2:=extKeys_ok (es:=es) fun y hy=>h y (by simp [hy])
    show (if 0≤x.1∧x.1.toNat < D.length∧0≤x.2∧x.2.toNat < D.length then (match extKeys D (eds es) with
      | some ks=>some ((min (D.getD x.1.toNat 0) (D.getD x.2.toNat 0),max (D.getD x.1.toNat 0) (D.getD x.2.toNat 0))::ks)
      | none=>none) else none)=_
    rw [if_pos h1,h2];rfl
theorem intsOf_ok:∀ (D:List Int),intsOf (ints D)=some D
  | []=>rfl
  | x::D=>by
    show (match intsOf (ints D) with | some xs=>some (x::xs) | none=>none)=_
    rw [intsOf_ok D]
theorem prsJ21:∀ n,n≤7→(prs n).length≤21:=by decide +kernel
theorem vJ_len {n:Nat} {es:List (Int×Int)} (h:vGraph n es=true):es.length≤21:=by
  obtain ⟨h1,h2,hn⟩:=vG_iff.1 h
  refine Nat.le_trans (subLenJ es (prs n) ?_ h2) (prsJ21 n hn)
  refine List.Pairwise.imp (fun {a b} hab e=>?_) h1
  subst e
  have:=below_asymm hab
  rw [hab] at this;cases this
theorem ev_impl_JointOf (n:Nat) (es:List (Int×Int)) (c:Bool) (h:vGraph n es=true):Ev tb zl190 [] [Gr n es c] [] ⟨O3 (jS n es),[],[],[]⟩:=by
  obtain ⟨h1,h2,hn⟩:=vG_iff.1 h
  have hE:EdgesIn n es:=fun e he=>by have:=mem_prs.1 (h2 e he);omega
  have hlen:es.length≤1000:=by
    have:=vJ_len h
    omega
  have hfit:Fit es:=fun e he=>by have:=mem_prs.1 (h2 e he);omega
  obtain ⟨N1,hN1⟩:=ev_ValidGraph n es c hfit (by omega)
  obtain ⟨N2,hN2⟩:=ev_Graph_degrees n es c (by omega) hlen hE
  obtain ⟨N3,hN3⟩:=sort_uni (cntK (keysJ (degs n es) es)) (keys_few h)
  refine call_of_wp zt190 rfl ?_
  refine wp_extj (v:=O3 (jS n es)) ⟨max N1 (max N2 N3),fun k hk=>?_⟩ ⟨.inr rfl,?_⟩
  · show ext_impl_JointOf zl26 zl9 zl77 zl14 (callN tb k) [.agg [.sc (.int .i64 n),.lst 2 (eds es) c]]=_
    have q1:=hN1 k (by omega)
    have q2:=hN2 k (by omega)
    have q3:=hN3 k (by omega)
    have hg:=degs_graphic h
    have hv:valid (degs n es)=true:=by simp only [graphic,Bool.and_eq_true] at hg;exact hg.1.1
    have hm:=valid_mem hv
    rw [degs_len] at hm
    rw [h] at q1
    have hdl:=degs_len n es
    have hx:=extKeys_ok (D:=degs n es) (es:=es) (fun x hx=>by have:=hE x hx;rw [hdl];omega)
    have hlim:(eds es).length≤1000∧∀ x ∈ degs n es,0≤x∧x≤1000:=⟨by rw [eds_len];exact hlen,fun x hx=>by have:=hm x hx;omega⟩
    have hex:∃ R:List (Int×Int×Int),∀ π:List (Int×Int×Int),π.Perm (cntK (keysJ (degs n es) es))→callN tb k zl77 [0] [.own 3 (rowsJ π),.fn zl14 []] []=some ⟨.tup [],[.own 3 (rowsJ R)],[],[]⟩ :=
      ⟨jS n es,fun π hp=>by rw [q3 π hp,srtJ_jS h hp]⟩
    have hR:Classical.choose hex=jS n es:=by
      have:=Classical.choose_spec hex _ (List.Perm.refl _)
      rw [q3 _ (List.Perm.refl _),srtJ_jS h (List.Perm.refl _)] at this
      simp only [Option.some.injEq,Ret.mk.injEq,List.cons.injEq,IV.own.injEq,true_and,and_true] at this
      exact (rowsJ_inj this).symm
    unfold ext_impl_JointOf
    simp only [q1,q2,intsOf_ok,hx]
    rw [if_pos hlim,dif_pos hex,hR]
  · simp [finish,zi190]
theorem ev_impl_JointOf_no (n:Int) (es:List (Int×Int)) (c:Bool) (hf:Fit es) (hl:es.length≤100000000) (h:vGraph n es=false):Ev tb zl190 [] [Gr n es c] [] ⟨O3 [],[],[],[]⟩:=by
  obtain ⟨N1,hN1⟩:=ev_ValidGraph n es c hf hl
  refine call_of_wp zt190 rfl ?_
  refine wp_extj (v:=O3 []) ⟨N1,fun k hk=>?_⟩ ⟨.inr rfl,?_⟩
  · show ext_impl_JointOf zl26 zl9 zl77 zl14 (callN tb k) [.agg [.sc (.int .i64 n),.lst 2 (eds es) c]]=_
    have q1:=hN1 k hk
    rw [h] at q1
    unfold ext_impl_JointOf
    simp only [q1]
    rfl
  · simp [finish,zi190]
end Go.Idl
namespace Go.Idl
open Go
theorem ints_replicate (k:Nat) (x:Int):ints (List.replicate k x)=List.replicate k [I x]:=by simp [ints]
theorem ev_Repeat (x:Int) (k:Nat) (hk:k≤1000) (c:Bool) (M:List Boxes):Ev tb zl271 [] [L [x] c,I k] M ⟨O (List.replicate k x),[],M,[]⟩:=by
  refine call_of_wp zt271 rfl ?_
  refine wp_extj (v:=O (List.replicate k x)) ⟨0,fun n _=>?_⟩ ⟨.inr rfl,?_⟩
  · show ext_slices_Repeat_Sint_int_ (callN tb n) [.lst 1 [[.sc (.int .i64 x)]] c,.sc (.int .i64 k)]=_
    unfold ext_slices_Repeat_Sint_int_
    simp only
    rw [if_pos (by omega),Int.toNat_natCast,O,ints_replicate]
  · simp [finish,zi271]
def endR (k:Int) (x:Int×Int×Int):Int:=(if x.1=k then x.2.2 else 0)+(if x.2.1=k then x.2.2 else 0)
def endsR (R:List (Int×Int×Int)) (k:Int):Int:=S R (endR k)
def jdL (R:List (Int×Int×Int)):Nat→List Int
  | 0=>[]
  | k+1=>List.replicate (endsR R ((k+1:Nat):Int) / ((k+1:Nat):Int)).toNat ((k+1:Nat):Int)++jdL R k
theorem endsR_take {R:List (Int×Int×Int)} {i:Nat} (hi:i < R.length) (k:Int):endsR (R.take (i+1)) k=endsR (R.take i) k+endR k R[i]:=by
  rw [List.take_succ_eq_append_getElem hi,endsR,S_app,endsR];simp
theorem endsR_bound {R:List (Int×Int×Int)} (hR:∀ x ∈ R,0≤x.2.2∧x.2.2≤1000) (k:Int):0≤endsR R k∧endsR R k≤2000 * R.length:=by
  induction R with
  | nil=>simp [endsR]
  | cons x R ih =>
    have h1:=hR x (by simp)
    have h2:=ih fun y hy=>hR y (by simp [hy])
    simp only [endsR,S_cons,List.length_cons,endR] at h2 ⊢
    split <;> split <;> omega
set_option maxHeartbeats 4000000 in
theorem ev_impl_JointDegrees_of (n:Int) (es:List (Int×Int)) (c:Bool) (R:List (Int×Int×Int)) (hJ:Ev tb zl190 [] [Gr n es c] [] ⟨O3 R,[],[],[]⟩)
    (hR:∀ x ∈ R,0≤x.2.2∧x.2.2≤1000) (hl:R.length≤1000) (he:∀ k:Nat,endsR R k≤900):Ev tb zl189 [] [Gr n es c] [] ⟨O (jdL R 6),[],[],[]⟩:=by
  have e0:=ev_lim hJ
  have loop1A:∀ (m i:Nat) (k:Int) (A:List Int) (bs:Boxes),i+m=R.length →
      wp tb (.loop z189l14) { T:=[(3,(O A)),(4,O3 R),(5,I k),(6,I (endsR (R.take i) k)),(15,.arr (.S 4) 0 [] 3 0 R.length false),(16,I R.length),(17,I i)],loc:=[I n,L2 es c]::bs,M:=[] }
      (fun ex st=>ex=.exit 2∧∃ bs',st={ T:=[(3,(O A)),(4,O3 R),(5,I k),(6,I (endsR R k)),(15,.arr (.S 4) 0 [] 3 0 R.length false),(16,I R.length),(17,I R.length),(18,Bo false)],loc:=[I n,L2 es c]::bs',M:=[] }):=by
    intro m
    induction m with
    | zero =>
      intro i k A bs hi
      have h3:i=R.length:=hi
      subst h3
      rw [List.take_length]
      refine wp_loop ?_
      repeat (first|apply wp_as|apply wp_ss|refine wr (by simp;with_reducible rfl) ?_|refine wq (by simp;with_reducible rfl) ?_|refine wt (by simpa) ?_|refine wf (by simpa) ?_|refine xt (by simpa) ?_|refine xf (by simpa) ?_|apply wp_bs|apply wp_b|refine wp_sr ?_|refine wp_sx ?_|refine wp_ret' ?_|refine wp_skip' ?_|refine wp_exit' ?_)
      exact ⟨rfl,bs,rfl⟩
    | succ m ih =>
      intro i k A bs hi
      have hi2:i < R.length:=by omega
      have w1:IntKind.i64.wrap ((i:Int)+1)=((i+1:Nat):Int):=wrapS (by omega)
      have hs:=endsR_take hi2 k
      obtain ⟨hb1,hb2⟩:=endsR_bound (R:=R.take i) (fun x hx=>hR x (List.mem_of_mem_take hx)) k
      rw [List.length_take] at hb2
      have hx:=hR R[i] (List.getElem_mem hi2)
      obtain ⟨⟨p,q,s⟩,hpq⟩:∃ x,x=R[i]:=⟨_,rfl⟩
      have hpq:=hpq.symm
      rw [hpq] at hs hx
      simp only [endR] at hs hx
      have hn:=fun bs=>ih (i+1) k A bs (by omega)
      rw [hs] at hn
      generalize endsR (R.take i) k=E at hs hb1 hb2 hn
      have w2:IntKind.i64.wrap (E+s)=E+s:=wrap64 (by omega) (by omega)
      have w3:IntKind.i64.wrap (E+s+s)=E+s+s:=wrap64 (by omega) (by omega)
      by_cases h1:p=k
      · by_cases h2:q=k
        · rw [if_pos h1,if_pos h2,show E+(s+s)=E+s+s by omega] at hn
          refine wp_loop ?_
          repeat (first|apply wp_as|apply wp_ss|refine wr (by simp [hi2,w1,w2,w3,hpq,h1,h2];with_reducible rfl) ?_|refine wq (by simp [hi2,w1,w2,w3,hpq,h1,h2];with_reducible rfl) ?_|refine wt (by simpa [hi2,w1,w2,w3,hpq,h1,h2]) ?_|refine wf (by simpa [hi2,w1,w2,w3,hpq,h1,h2]) ?_|refine xt (by simpa [hi2,w1,w2,w3,hpq,h1,h2]) ?_|refine xf (by simpa [hi2,w1,w2,w3,hpq,h1,h2]) ?_|apply wp_bs|apply wp_b|refine wp_sr ?_|refine wp_sx ?_|refine wp_ret' ?_|refine wp_skip' ?_|refine wp_exit' ?_)
          exact hn _
        · rw [if_pos h1,if_neg h2,show E+(s+0)=E+s by omega] at hn
          refine wp_loop ?_
          repeat (first|apply wp_as|apply wp_ss|refine wr (by simp [hi2,w1,w2,w3,hpq,h1,h2];with_reducible rfl) ?_|refine wq (by simp [hi2,w1,w2,w3,hpq,h1,h2];with_reducible rfl) ?_|refine wt (by simpa [hi2,w1,w2,w3,hpq,h1,h2]) ?_|refine wf (by simpa [hi2,w1,w2,w3,hpq,h1,h2]) ?_|refine xt (by simpa [hi2,w1,w2,w3,hpq,h1,h2]) ?_|refine xf (by simpa [hi2,w1,w2,w3,hpq,h1,h2]) ?_|apply wp_bs|apply wp_b|refine wp_sr ?_|refine wp_sx ?_|refine wp_ret' ?_|refine wp_skip' ?_|refine wp_exit' ?_)
          exact hn _
      · by_cases h2:q=k
        · rw [if_neg h1,if_pos h2,show E+(0+s)=E+s by omega] at hn
          refine wp_loop ?_
          repeat (first|apply wp_as|apply wp_ss|refine wr (by simp [hi2,w1,w2,w3,hpq,h1,h2];with_reducible rfl) ?_|refine wq (by simp [hi2,w1,w2,w3,hpq,h1,h2];with_reducible rfl) ?_|refine wt (by simpa [hi2,w1,w2,w3,hpq,h1,h2]) ?_|refine wf (by simpa [hi2,w1,w2,w3,hpq,h1,h2]) ?_|refine xt (by simpa [hi2,w1,w2,w3,hpq,h1,h2]) ?_|refine xf (by simpa [hi2,w1,w2,w3,hpq,h1,h2]) ?_|apply wp_bs|apply wp_b|refine wp_sr ?_|refine wp_sx ?_|refine wp_ret' ?_|refine wp_skip' ?_|refine wp_exit' ?_)
          exact hn _
        · rw [if_neg h1,if_neg h2,show E+(0+0)=E by omega] at hn
          refine wp_loop ?_
          repeat (first|apply wp_as|apply wp_ss|refine wr (by simp [hi2,w1,w2,w3,hpq,h1,h2];with_reducible rfl) ?_|refine wq (by simp [hi2,w1,w2,w3,hpq,h1,h2];with_reducible rfl) ?_|refine wt (by simpa [hi2,w1,w2,w3,hpq,h1,h2]) ?_|refine wf (by simpa [hi2,w1,w2,w3,hpq,h1,h2]) ?_|refine xt (by simpa [hi2,w1,w2,w3,hpq,h1,h2]) ?_|refine xf (by simpa [hi2,w1,w2,w3,hpq,h1,h2]) ?_|apply wp_bs|apply wp_b|refine wp_sr ?_|refine wp_sx ?_|refine wp_ret' ?_|refine wp_skip' ?_|refine wp_exit' ?_)
          exact hn _
  have loop1Z:∀ (m i:Nat) (k:Int) (A:List Int) (bs:Boxes),i+m=R.length →
      wp tb (.loop z189l14) { T:=[(3,Z),(4,O3 R),(5,I k),(6,I (endsR (R.take i) k)),(15,.arr (.S 4) 0 [] 3 0 R.length false),(16,I R.length),(17,I i)],loc:=[I n,L2 es c]::bs,M:=[] }
      (fun ex st=>ex=.exit 2∧∃ bs',st={ T:=[(3,Z),(4,O3 R),(5,I k),(6,I (endsR R k)),(15,.arr (.S 4) 0 [] 3 0 R.length false),(16,I R.length),(17,I R.length),(18,Bo false)],loc:=[I n,L2 es c]::bs',M:=[] }):=by
    intro m
    induction m with
    | zero =>
      intro i k A bs hi
      have h3:i=R.length:=hi
      subst h3
      rw [List.take_length]
      refine wp_loop ?_
      repeat (first|apply wp_as|apply wp_ss|refine wr (by simp;with_reducible rfl) ?_|refine wq (by simp;with_reducible rfl) ?_|refine wt (by simpa) ?_|refine wf (by simpa) ?_|refine xt (by simpa) ?_|refine xf (by simpa) ?_|apply wp_bs|apply wp_b|refine wp_sr ?_|refine wp_sx ?_|refine wp_ret' ?_|refine wp_skip' ?_|refine wp_exit' ?_)
      exact ⟨rfl,bs,rfl⟩
    | succ m ih =>
      intro i k A bs hi
      have hi2:i < R.length:=by omega
      have w1:IntKind.i64.wrap ((i:Int)+1)=((i+1:Nat):Int):=wrapS (by omega)
      have hs:=endsR_take hi2 k
      obtain ⟨hb1,hb2⟩:=endsR_bound (R:=R.take i) (fun x hx=>hR x (List.mem_of_mem_take hx)) k
      rw [List.length_take] at hb2
      have hx:=hR R[i] (List.getElem_mem hi2)
      obtain ⟨⟨p,q,s⟩,hpq⟩:∃ x,x=R[i]:=⟨_,rfl⟩
      have hpq:=hpq.symm
      rw [hpq] at hs hx
      simp only [endR] at hs hx
      have hn:=fun bs=>ih (i+1) k A bs (by omega)
      rw [hs] at hn
      generalize endsR (R.take i) k=E at hs hb1 hb2 hn
      have w2:IntKind.i64.wrap (E+s)=E+s:=wrap64 (by omega) (by omega)
      have w3:IntKind.i64.wrap (E+s+s)=E+s+s:=wrap64 (by omega) (by omega)
      by_cases h1:p=k
      · by_cases h2:q=k
        · rw [if_pos h1,if_pos h2,show E+(s+s)=E+s+s by omega] at hn
          refine wp_loop ?_
          repeat (first|apply wp_as|apply wp_ss|refine wr (by simp [hi2,w1,w2,w3,hpq,h1,h2];with_reducible rfl) ?_|refine wq (by simp [hi2,w1,w2,w3,hpq,h1,h2];with_reducible rfl) ?_|refine wt (by simpa [hi2,w1,w2,w3,hpq,h1,h2]) ?_|refine wf (by simpa [hi2,w1,w2,w3,hpq,h1,h2]) ?_|refine xt (by simpa [hi2,w1,w2,w3,hpq,h1,h2]) ?_|refine xf (by simpa [hi2,w1,w2,w3,hpq,h1,h2]) ?_|apply wp_bs|apply wp_b|refine wp_sr ?_|refine wp_sx ?_|refine wp_ret' ?_|refine wp_skip' ?_|refine wp_exit' ?_)
          exact hn _
        · rw [if_pos h1,if_neg h2,show E+(s+0)=E+s by omega] at hn
          refine wp_loop ?_
          repeat (first|apply wp_as|apply wp_ss|refine wr (by simp [hi2,w1,w2,w3,hpq,h1,h2];with_reducible rfl) ?_|refine wq (by simp [hi2,w1,w2,w3,hpq,h1,h2];with_reducible rfl) ?_|refine wt (by simpa [hi2,w1,w2,w3,hpq,h1,h2]) ?_|refine wf (by simpa [hi2,w1,w2,w3,hpq,h1,h2]) ?_|refine xt (by simpa [hi2,w1,w2,w3,hpq,h1,h2]) ?_|refine xf (by simpa [hi2,w1,w2,w3,hpq,h1,h2]) ?_|apply wp_bs|apply wp_b|refine wp_sr ?_|refine wp_sx ?_|refine wp_ret' ?_|refine wp_skip' ?_|refine wp_exit' ?_)
          exact hn _
      · by_cases h2:q=k
        · rw [if_neg h1,if_pos h2,show E+(0+s)=E+s by omega] at hn
          refine wp_loop ?_
          repeat (first|apply wp_as|apply wp_ss|refine wr (by simp [hi2,w1,w2,w3,hpq,h1,h2];with_reducible rfl) ?_|refine wq (by simp [hi2,w1,w2,w3,hpq,h1,h2];with_reducible rfl) ?_|refine wt (by simpa [hi2,w1,w2,w3,hpq,h1,h2]) ?_|refine wf (by simpa [hi2,w1,w2,w3,hpq,h1,h2]) ?_|refine xt (by simpa [hi2,w1,w2,w3,hpq,h1,h2]) ?_|refine xf (by simpa [hi2,w1,w2,w3,hpq,h1,h2]) ?_|apply wp_bs|apply wp_b|refine wp_sr ?_|refine wp_sx ?_|refine wp_ret' ?_|refine wp_skip' ?_|refine wp_exit' ?_)
          exact hn _
        · rw [if_neg h1,if_neg h2,show E+(0+0)=E by omega] at hn
          refine wp_loop ?_
          repeat (first|apply wp_as|apply wp_ss|refine wr (by simp [hi2,w1,w2,w3,hpq,h1,h2];with_reducible rfl) ?_|refine wq (by simp [hi2,w1,w2,w3,hpq,h1,h2];with_reducible rfl) ?_|refine wt (by simpa [hi2,w1,w2,w3,hpq,h1,h2]) ?_|refine wf (by simpa [hi2,w1,w2,w3,hpq,h1,h2]) ?_|refine xt (by simpa [hi2,w1,w2,w3,hpq,h1,h2]) ?_|refine xf (by simpa [hi2,w1,w2,w3,hpq,h1,h2]) ?_|apply wp_bs|apply wp_b|refine wp_sr ?_|refine wp_sx ?_|refine wp_ret' ?_|refine wp_skip' ?_|refine wp_exit' ?_)
          exact hn _
  have jdl_len:∀ k:Nat,(jdL R k).length≤900 * k:=by
    intro k
    induction k with
    | zero=>simp [jdL]
    | succ k ih =>
      have h1:=he (k+1)
      have h2:(endsR R ((k+1:Nat):Int) / ((k+1:Nat):Int)).toNat≤900:=by
        have:=Int.ediv_le_self (b:=((k+1:Nat):Int)) (endsR_bound (R:=R) hR ((k+1:Nat):Int)).1
        omega
      rw [jdL,List.length_append,List.length_replicate]
      omega
  have loop2:∀ (k:Nat) (A:List Int) (bs:Boxes),k≤6→A.length+900 * k≤10000 →
      wp tb (.loop z189l17) { T:=[(3,O A),(4,O3 R),(5,I k)],loc:=[I n,L2 es c]::bs,M:=[] }
      (fun ex st=>ex=.exit 0∧∃ bs',st={ T:=[(3,O (A++jdL R k)),(4,O3 R),(5,I 0),(12,Bo false)],loc:=[I n,L2 es c]::bs',M:=[] }):=by
    intro k
    induction k with
    | zero =>
      intro A bs hk hA
      refine wp_loop ?_
      repeat (first|apply wp_as|apply wp_ss|refine wr (by simp;with_reducible rfl) ?_|refine wq (by simp;with_reducible rfl) ?_|refine wt (by simpa) ?_|refine wf (by simpa) ?_|refine xt (by simpa) ?_|refine xf (by simpa) ?_|apply wp_bs|apply wp_b|refine wp_sr ?_|refine wp_sx ?_|refine wp_ret' ?_|refine wp_skip' ?_|refine wp_exit' ?_)
      exact ⟨rfl,bs,by simp [jdL]⟩
    | succ k ih =>
      intro A bs hk hA
      have w1:IntKind.i64.wrap (k:Int)=(k:Int):=wrap64 (by omega) (by omega)
      have h0:(0:Int) < (k:Int)+1:=by omega
      have hin:=loop1A R.length 0 ((k:Int)+1) A bs (by omega)
      rw [List.take_zero] at hin
      have hz:endsR [] ((k:Int)+1)=0:=rfl
      rw [hz] at hin
      have hq1:=he (k+1)
      have hq0:=(endsR_bound (R:=R) hR ((k:Int)+1)).1
      have hjd:jdL R (k+1)=List.replicate (endsR R ((k:Int)+1) / ((k:Int)+1)).toNat ((k:Int)+1)++jdL R k:=rfl
      rw [show (((k+1:Nat):Int))=(k:Int)+1 by omega] at hq1
      generalize endsR R ((k:Int)+1)=E at hin hq1 hq0 hjd
      have hdiv0:0≤E / ((k:Int)+1):=Int.ediv_nonneg hq0 (by omega)
      have hdiv1:E / ((k:Int)+1)≤E:=Int.ediv_le_self _ hq0
      have htd:E.tdiv ((k:Int)+1)=E / ((k:Int)+1):=Int.tdiv_eq_ediv_of_nonneg hq0
      obtain ⟨q,hq⟩:∃ q:Nat,E / ((k:Int)+1)=q:=⟨_,(Int.toNat_of_nonneg hdiv0).symm⟩
      rw [hq] at hdiv1 htd hjd
      have w2:IntKind.i64.wrap (q:Int)=(q:Int):=wrap64 (by omega) (by omega)
      have hk0:¬ ((k:Int)+1=0):=by omega
      have e1:limF tb zl271 [] [.lst 1 [[I ((k:Int)+1)]] false,I q] []=some ⟨O (List.replicate q ((k:Int)+1)),[],[],[]⟩:=ev_lim (ev_Repeat ((k:Int)+1) q (by omega) false [])
      have e1':limF tb zl271 [] [.lst 1 (ints [(k:Int)+1]) false,I q] []=some ⟨O (List.replicate q ((k:Int)+1)),[],[],[]⟩:=e1
      have hn:=fun bs=>ih (A++List.replicate q ((k:Int)+1)) bs (by omega) (by rw [List.length_append,List.length_replicate];omega)
      rw [Int.toNat_natCast] at hjd
      rw [List.append_assoc,← hjd] at hn
      have hcap:A.length+q≤274877906944:=by omega
      refine wp_loop ?_
      repeat (first|apply wp_as|apply wp_ss|refine wr (by simp [h0];with_reducible rfl) ?_|refine wq (by simp [h0];with_reducible rfl) ?_|refine wt (by simpa [h0]) ?_|refine wf (by simpa [h0]) ?_|refine xt (by simpa [h0]) ?_|refine xf (by simpa [h0]) ?_|apply wp_bs|apply wp_b|refine wp_sr ?_|refine wp_sx ?_|refine wp_ret' ?_|refine wp_skip' ?_|refine wp_exit' ?_)
      refine wp_imp hin ?_
      rintro ex st ⟨rfl,bs',rfl⟩
      simp only [if_true]
      repeat (first|apply wp_as|apply wp_ss|refine wr (by simp [w1,w2,htd,hk0,e1,e1',hcap];with_reducible rfl) ?_|refine wq (by simp [w1,w2,htd,hk0,e1,e1',hcap];with_reducible rfl) ?_|refine wt (by simpa [w1,w2,htd,hk0,e1,e1',hcap]) ?_|refine wf (by simpa [w1,w2,htd,hk0,e1,e1',hcap]) ?_|refine xt (by simpa [w1,w2,htd,hk0,e1,e1',hcap]) ?_|refine xf (by simpa [w1,w2,htd,hk0,e1,e1',hcap]) ?_|apply wp_bs|apply wp_b|refine wp_sr ?_|refine wp_sx ?_|refine wp_ret' ?_|refine wp_skip' ?_|refine wp_exit' ?_)
      exact hn _
  have hjl:=jdl_len 6
  have e2:=ev_lim (ev_clone (jdL R 6) false (by omega))
  have w1:IntKind.i64.wrap (5:Int)=5:=wrap64 (by omega) (by omega)
  have hin:=loop1Z R.length 0 6 [] [] (by omega)
  rw [List.take_zero] at hin
  have hz:endsR [] 6=0:=rfl
  rw [hz] at hin
  have hq1:=he 6
  have hq0:=(endsR_bound (R:=R) hR 6).1
  have hjd:jdL R 6=List.replicate (endsR R 6 / 6).toNat 6++jdL R 5:=rfl
  rw [show ((6:Nat):Int)=6 from rfl] at hq1
  generalize endsR R 6=E at hin hq1 hq0 hjd
  have hdiv0:0≤E / 6:=Int.ediv_nonneg hq0 (by omega)
  have hdiv1:E / 6≤E:=Int.ediv_le_self _ hq0
  have htd:E.tdiv 6=E / 6:=Int.tdiv_eq_ediv_of_nonneg hq0
  obtain ⟨q,hq⟩:∃ q:Nat,E / 6=q:=⟨_,(Int.toNat_of_nonneg hdiv0).symm⟩
  rw [hq] at hdiv1 htd hjd
  have w2:IntKind.i64.wrap (q:Int)=(q:Int):=wrap64 (by omega) (by omega)
  have e1:limF tb zl271 [] [.lst 1 [[I 6]] false,I q] []=some ⟨O (List.replicate q 6),[],[],[]⟩:=ev_lim (ev_Repeat 6 q (by omega) false [])
  have e1':limF tb zl271 [] [.lst 1 (ints [6]) false,I q] []=some ⟨O (List.replicate q 6),[],[],[]⟩:=e1
  have hn:=fun bs=>loop2 5 (List.replicate q 6) bs (by omega) (by rw [List.length_replicate];omega)
  rw [Int.toNat_natCast] at hjd
  rw [← hjd] at hn
  have hcap:q≤274877906944:=by omega
  refine call_of_wp zt189 rfl ?_
  repeat (first|apply wp_as|apply wp_ss|refine wr (by simp [e0];with_reducible rfl) ?_|refine wq (by simp [e0];with_reducible rfl) ?_|refine wt (by simpa [e0]) ?_|refine wf (by simpa [e0]) ?_|refine xt (by simpa [e0]) ?_|refine xf (by simpa [e0]) ?_|apply wp_bs|apply wp_b|refine wp_sr ?_|refine wp_sx ?_|refine wp_ret' ?_|refine wp_skip' ?_|refine wp_exit' ?_)
  refine wp_loop ?_
  repeat (first|apply wp_as|apply wp_ss|refine wr (by simp;with_reducible rfl) ?_|refine wq (by simp;with_reducible rfl) ?_|refine wt (by simpa) ?_|refine wf (by simpa) ?_|refine xt (by simpa) ?_|refine xf (by simpa) ?_|apply wp_bs|apply wp_b|refine wp_sr ?_|refine wp_sx ?_|refine wp_ret' ?_|refine wp_skip' ?_|refine wp_exit' ?_)
  refine wp_imp hin ?_
  rintro ex st ⟨rfl,bs',rfl⟩
  simp only [if_true]
  repeat (first|apply wp_as|apply wp_ss|refine wr (by simp [w1,w2,htd,e1,e1',hcap];with_reducible rfl) ?_|refine wq (by simp [w1,w2,htd,e1,e1',hcap];with_reducible rfl) ?_|refine wt (by simpa [w1,w2,htd,e1,e1',hcap]) ?_|refine wf (by simpa [w1,w2,htd,e1,e1',hcap]) ?_|refine xt (by simpa [w1,w2,htd,e1,e1',hcap]) ?_|refine xf (by simpa [w1,w2,htd,e1,e1',hcap]) ?_|apply wp_bs|apply wp_b|refine wp_sr ?_|refine wp_sx ?_|refine wp_ret' ?_|refine wp_skip' ?_|refine wp_exit' ?_)
  refine wp_imp (hn _) ?_
  rintro ex st ⟨rfl,bs',rfl⟩
  try simp only [if_true]
  repeat (first|apply wp_as|apply wp_ss|refine wr (by simp [e2];with_reducible rfl) ?_|refine wq (by simp [e2];with_reducible rfl) ?_|refine wt (by simpa [e2]) ?_|refine wf (by simpa [e2]) ?_|refine xt (by simpa [e2]) ?_|refine xf (by simpa [e2]) ?_|apply wp_bs|apply wp_b|refine wp_sr ?_|refine wp_sx ?_|refine wp_ret' ?_|refine wp_skip' ?_|refine wp_exit' ?_)
  simp [zi189]
end Go.Idl
namespace Go.Idl
open Go
set_option maxHeartbeats 4000000 in
theorem ev_spec_JointDegrees_of (n:Nat) (es:List (Int×Int)) (c:Bool) (h:vGraph n es=true) (hk:∀ k:Nat,∃ q:Nat,endsR (jS n es) ((k+1:Nat):Int)=((q * (k+1):Nat):Int)∧q≤900)
    (hR:∀ x ∈ jS n es,0≤x.2.2∧x.2.2≤1000) (hl:(jS n es).length≤1000):Ev tb zl322 [] [Gr n es c] [] ⟨O (jdL (jS n es) (n - 1)),[],[],[]⟩:=by
  obtain ⟨h1,h2,hn⟩:=vG_iff.1 h
  have hE:EdgesIn n es:=fun e he=>by have:=mem_prs.1 (h2 e he);omega
  have hlen:=vJ_len h
  have e1:=ev_lim (ev_validGraph n es c (by omega))
  have e2:=ev_lim (ev_jointOf n es c (by omega) (by omega) hE)
  rw [h] at e1
  generalize jS n es=R at hk hR hl e2
  have loop1:∀ (m i:Nat) (k:Int) (A:List Int),i+m=R.length →
      wp tb (.loop z322l15) { T:=[(3,O3 R),(4,O A),(5,I k),(6,I (endsR (R.take i) k)),(7,I i)],loc:=[[I n,L2 es c]],M:=[] }
      (fun ex st=>ex=.exit 2∧st={ T:=[(3,O3 R),(4,O A),(5,I k),(6,I (endsR R k)),(7,I R.length),(24,Bo false)],loc:=[[I n,L2 es c]],M:=[] }):=by
    intro m
    induction m with
    | zero =>
      intro i k A hi
      have h3:i=R.length:=hi
      subst h3
      rw [List.take_length]
      refine wp_loop ?_
      repeat (first|apply wp_as|apply wp_ss|refine wr (by simp;with_reducible rfl) ?_|refine wq (by simp;with_reducible rfl) ?_|refine wt (by simpa) ?_|refine wf (by simpa) ?_|refine xt (by simpa) ?_|refine xf (by simpa) ?_|apply wp_bs|apply wp_b|refine wp_sr ?_|refine wp_sx ?_|refine wp_ret' ?_|refine wp_skip' ?_|refine wp_exit' ?_)
      exact ⟨rfl,rfl⟩
    | succ m ih =>
      intro i k A hi
      have hi2:i < R.length:=by omega
      have w1:IntKind.i64.wrap ((i:Int)+1)=((i+1:Nat):Int):=wrapS (by omega)
      have hs:=endsR_take hi2 k
      obtain ⟨hb1,hb2⟩:=endsR_bound (R:=R.take i) (fun x hx=>hR x (List.mem_of_mem_take hx)) k
      rw [List.length_take] at hb2
      have hx:=hR R[i] (List.getElem_mem hi2)
      obtain ⟨⟨p,q,s⟩,hpq⟩:∃ x,x=R[i]:=⟨_,rfl⟩
      have hpq:=hpq.symm
      rw [hpq] at hs hx
      simp only [endR] at hs hx
      have hn:=ih (i+1) k A (by omega)
      rw [hs] at hn
      generalize endsR (R.take i) k=E at hs hb1 hb2 hn
      have w2:IntKind.i64.wrap (E+s)=E+s:=wrap64 (by omega) (by omega)
      have w3:IntKind.i64.wrap (E+s+s)=E+s+s:=wrap64 (by omega) (by omega)
      by_cases h1:p=k
      · by_cases h2:q=k
        · rw [if_pos h1,if_pos h2,show E+(s+s)=E+s+s by omega] at hn
          refine wp_loop ?_
          repeat (first|apply wp_as|apply wp_ss|refine wr (by simp [hi2,w1,w2,w3,hpq,h1,h2];with_reducible rfl) ?_|refine wq (by simp [hi2,w1,w2,w3,hpq,h1,h2];with_reducible rfl) ?_|refine wt (by simpa [hi2,w1,w2,w3,hpq,h1,h2]) ?_|refine wf (by simpa [hi2,w1,w2,w3,hpq,h1,h2]) ?_|refine xt (by simpa [hi2,w1,w2,w3,hpq,h1,h2]) ?_|refine xf (by simpa [hi2,w1,w2,w3,hpq,h1,h2]) ?_|apply wp_bs|apply wp_b|refine wp_sr ?_|refine wp_sx ?_|refine wp_ret' ?_|refine wp_skip' ?_|refine wp_exit' ?_)
          exact hn
        · rw [if_pos h1,if_neg h2,show E+(s+0)=E+s by omega] at hn
          refine wp_loop ?_
          repeat (first|apply wp_as|apply wp_ss|refine wr (by simp [hi2,w1,w2,w3,hpq,h1,h2];with_reducible rfl) ?_|refine wq (by simp [hi2,w1,w2,w3,hpq,h1,h2];with_reducible rfl) ?_|refine wt (by simpa [hi2,w1,w2,w3,hpq,h1,h2]) ?_|refine wf (by simpa [hi2,w1,w2,w3,hpq,h1,h2]) ?_|refine xt (by simpa [hi2,w1,w2,w3,hpq,h1,h2]) ?_|refine xf (by simpa [hi2,w1,w2,w3,hpq,h1,h2]) ?_|apply wp_bs|apply wp_b|refine wp_sr ?_|refine wp_sx ?_|refine wp_ret' ?_|refine wp_skip' ?_|refine wp_exit' ?_)
          exact hn
      · by_cases h2:q=k
        · rw [if_neg h1,if_pos h2,show E+(0+s)=E+s by omega] at hn
          refine wp_loop ?_
          repeat (first|apply wp_as|apply wp_ss|refine wr (by simp [hi2,w1,w2,w3,hpq,h1,h2];with_reducible rfl) ?_|refine wq (by simp [hi2,w1,w2,w3,hpq,h1,h2];with_reducible rfl) ?_|refine wt (by simpa [hi2,w1,w2,w3,hpq,h1,h2]) ?_|refine wf (by simpa [hi2,w1,w2,w3,hpq,h1,h2]) ?_|refine xt (by simpa [hi2,w1,w2,w3,hpq,h1,h2]) ?_|refine xf (by simpa [hi2,w1,w2,w3,hpq,h1,h2]) ?_|apply wp_bs|apply wp_b|refine wp_sr ?_|refine wp_sx ?_|refine wp_ret' ?_|refine wp_skip' ?_|refine wp_exit' ?_)
          exact hn
        · rw [if_neg h1,if_neg h2,show E+(0+0)=E by omega] at hn
          refine wp_loop ?_
          repeat (first|apply wp_as|apply wp_ss|refine wr (by simp [hi2,w1,w2,w3,hpq,h1,h2];with_reducible rfl) ?_|refine wq (by simp [hi2,w1,w2,w3,hpq,h1,h2];with_reducible rfl) ?_|refine wt (by simpa [hi2,w1,w2,w3,hpq,h1,h2]) ?_|refine wf (by simpa [hi2,w1,w2,w3,hpq,h1,h2]) ?_|refine xt (by simpa [hi2,w1,w2,w3,hpq,h1,h2]) ?_|refine xf (by simpa [hi2,w1,w2,w3,hpq,h1,h2]) ?_|apply wp_bs|apply wp_b|refine wp_sr ?_|refine wp_sx ?_|refine wp_ret' ?_|refine wp_skip' ?_|refine wp_exit' ?_)
          exact hn
  have loop3:∀ (q k:Nat) (A:List Int) (f:Bool),A.length+q≤100000→k≤10→q≤900 →
      wp tb (.loop z322l19) { T:=[(3,O3 R),(4,O A),(5,I ((k+1:Nat):Int)),(6,I ((q * (k+1):Nat):Int))]++(if f then [(7,I R.length),(24,Bo false)] else []),loc:=[[I n,L2 es c]],M:=[] }
      (fun ex st=>ex=.exit 4∧st={ T:=[(3,O3 R),(4,O (A++List.replicate q ((k+1:Nat):Int))),(5,I ((k+1:Nat):Int)),(6,I 0),(56,Bo false)],loc:=[[I n,L2 es c]],M:=[] }):=by
    intro q
    induction q with
    | zero =>
      intro k A f hA hk hq
      rw [Nat.zero_mul]
      cases f <;> simp only [if_true,Bool.false_eq_true,if_false,List.append_nil,List.cons_append,List.nil_append]
      · refine wp_loop ?_
        repeat (first|apply wp_as|apply wp_ss|refine wr (by simp;with_reducible rfl) ?_|refine wq (by simp;with_reducible rfl) ?_|refine wt (by simpa) ?_|refine wf (by simpa) ?_|refine xt (by simpa) ?_|refine xf (by simpa) ?_|apply wp_bs|apply wp_b|refine wp_sr ?_|refine wp_sx ?_|refine wp_ret' ?_|refine wp_skip' ?_|refine wp_exit' ?_)
        exact ⟨rfl,by simp⟩
      · refine wp_loop ?_
        repeat (first|apply wp_as|apply wp_ss|refine wr (by simp;with_reducible rfl) ?_|refine wq (by simp;with_reducible rfl) ?_|refine wt (by simpa) ?_|refine wf (by simpa) ?_|refine xt (by simpa) ?_|refine xf (by simpa) ?_|apply wp_bs|apply wp_b|refine wp_sr ?_|refine wp_sx ?_|refine wp_ret' ?_|refine wp_skip' ?_|refine wp_exit' ?_)
        exact ⟨rfl,by simp⟩
    | succ q ih =>
      intro k A f hA hk hq
      have hmul:(q+1) * (k+1)=q * (k+1)+(k+1):=Nat.succ_mul q (k+1)
      have hle:q * (k+1)≤900 * 11:=Nat.mul_le_mul (by omega) (by omega)
      have hg:=ih k (A++[((k+1:Nat):Int)]) false (by simp;omega) hk (by omega)
      simp only [Bool.false_eq_true,if_false,List.append_nil] at hg
      rw [List.append_assoc,show [((k+1:Nat):Int)]++List.replicate q ((k+1:Nat):Int)=List.replicate (q+1) ((k+1:Nat):Int) from rfl] at hg
      rw [hmul]
      generalize q * (k+1)=z at hle hg
      have hcap:A.length≤274877906943:=by omega
      have h0:(0:Int) < ((z+(k+1):Nat):Int):=by omega
      have w1:IntKind.i64.wrap (((z+(k+1):Nat):Int) - ((k+1:Nat):Int))=(z:Int):=by rw [wrap64 (by omega) (by omega)];omega
      generalize ((z+(k+1):Nat):Int)=y at h0 w1
      generalize ((k+1:Nat):Int)=x at w1 hg
      cases f <;> simp only [if_true,Bool.false_eq_true,if_false,List.append_nil,List.cons_append,List.nil_append]
      · refine wp_loop ?_
        repeat (first|apply wp_as|apply wp_ss|refine wr (by simp [hcap,h0,w1];with_reducible rfl) ?_|refine wq (by simp [hcap,h0,w1];with_reducible rfl) ?_|refine wt (by simpa [hcap,h0,w1]) ?_|refine wf (by simpa [hcap,h0,w1]) ?_|refine xt (by simpa [hcap,h0,w1]) ?_|refine xf (by simpa [hcap,h0,w1]) ?_|apply wp_bs|apply wp_b|refine wp_sr ?_|refine wp_sx ?_|refine wp_ret' ?_|refine wp_skip' ?_|refine wp_exit' ?_)
        exact hg
      · refine wp_loop ?_
        repeat (first|apply wp_as|apply wp_ss|refine wr (by simp [hcap,h0,w1];with_reducible rfl) ?_|refine wq (by simp [hcap,h0,w1];with_reducible rfl) ?_|refine wt (by simpa [hcap,h0,w1]) ?_|refine wf (by simpa [hcap,h0,w1]) ?_|refine xt (by simpa [hcap,h0,w1]) ?_|refine xf (by simpa [hcap,h0,w1]) ?_|apply wp_bs|apply wp_b|refine wp_sr ?_|refine wp_sx ?_|refine wp_ret' ?_|refine wp_skip' ?_|refine wp_exit' ?_)
        exact hg
  have jd_succ:∀ (k q:Nat),endsR R ((k+1:Nat):Int)=((q * (k+1):Nat):Int)→jdL R (k+1)=List.replicate q ((k+1:Nat):Int)++jdL R k:=fun k q hq=>by
    have hd:((q * (k+1):Nat):Int) / ((k+1:Nat):Int)=(q:Int):=by
      rw [← Int.natCast_ediv,Nat.mul_div_cancel _ (Nat.succ_pos k)]
    rw [jdL,hq,hd,Int.toNat_natCast]
  have loop2:∀ (k:Nat) (A:List Int),k≤10→A.length+900 * k≤20000 →
      wp tb (.loop z322l21) { T:=[(3,O3 R),(4,O A),(5,I (k:Nat))],loc:=[[I n,L2 es c]],M:=[] }
      (fun ex st=>ex=.exit 0∧st={ T:=[(3,O3 R),(4,O (A++jdL R k)),(5,I 0),(18,Bo false)],loc:=[[I n,L2 es c]],M:=[] }):=by
    intro k
    induction k with
    | zero =>
      intro A hk2 hA
      refine wp_loop ?_
      repeat (first|apply wp_as|apply wp_ss|refine wr (by simp;with_reducible rfl) ?_|refine wq (by simp;with_reducible rfl) ?_|refine wt (by simpa) ?_|refine wf (by simpa) ?_|refine xt (by simpa) ?_|refine xf (by simpa) ?_|apply wp_bs|apply wp_b|refine wp_sr ?_|refine wp_sx ?_|refine wp_ret' ?_|refine wp_skip' ?_|refine wp_exit' ?_)
      simp [jdL]
    | succ k ih =>
      intro A hk2 hA
      obtain ⟨q,hq,hq9⟩:=hk k
      have hin:=loop1 R.length 0 ((k+1:Nat):Int) A (by omega)
      rw [List.take_zero] at hin
      have hz:endsR [] ((k+1:Nat):Int)=0:=rfl
      rw [hz,hq] at hin
      have hin3:=loop3 q k A true (by omega) (by omega) hq9
      simp only [if_true,List.cons_append,List.nil_append] at hin3
      have hn:=ih (A++List.replicate q ((k+1:Nat):Int)) (by omega) (by rw [List.length_append,List.length_replicate];omega)
      rw [List.append_assoc,← jd_succ k q hq] at hn
      have h0:(0:Int) < ((k+1:Nat):Int):=by omega
      have w1:IntKind.i64.wrap (((k+1:Nat):Int) - 1)=(k:Int):=by rw [wrap64 (by omega) (by omega)];omega
      generalize ((q * (k+1):Nat):Int)=y at hin hin3
      generalize ((k+1:Nat):Int)=x at hin hin3 hn h0 w1
      refine wp_loop ?_
      repeat (first|apply wp_as|apply wp_ss|refine wr (by simp [h0];with_reducible rfl) ?_|refine wq (by simp [h0];with_reducible rfl) ?_|refine wt (by simpa [h0]) ?_|refine wf (by simpa [h0]) ?_|refine xt (by simpa [h0]) ?_|refine xf (by simpa [h0]) ?_|apply wp_bs|apply wp_b|refine wp_sr ?_|refine wp_sx ?_|refine wp_ret' ?_|refine wp_skip' ?_|refine wp_exit' ?_)
      refine wp_imp hin ?_
      rintro ex st ⟨rfl,rfl⟩
      simp only [if_true]
      repeat (first|apply wp_as|apply wp_ss|refine wr (by simp;with_reducible rfl) ?_|refine wq (by simp;with_reducible rfl) ?_|refine wt (by simpa) ?_|refine wf (by simpa) ?_|refine xt (by simpa) ?_|refine xf (by simpa) ?_|apply wp_bs|apply wp_b|refine wp_sr ?_|refine wp_sx ?_|refine wp_ret' ?_|refine wp_skip' ?_|refine wp_exit' ?_)
      refine wp_imp hin3 ?_
      rintro ex st ⟨rfl,rfl⟩
      simp only [if_true]
      repeat (first|apply wp_as|apply wp_ss|refine wr (by simp [w1];with_reducible rfl) ?_|refine wq (by simp [w1];with_reducible rfl) ?_|refine wt (by simpa [w1]) ?_|refine wf (by simpa [w1]) ?_|refine xt (by simpa [w1]) ?_|refine xf (by simpa [w1]) ?_|apply wp_bs|apply wp_b|refine wp_sr ?_|refine wp_sx ?_|refine wp_ret' ?_|refine wp_skip' ?_|refine wp_exit' ?_)
      exact hn
  have hlo:=fun k hk=>loop2 k [] hk (by simp;omega)
  simp only [List.nil_append] at hlo
  have wn:IntKind.i64.wrap ((n:Int) - 1)=(n:Int) - 1:=wrap64 (by omega) (by omega)
  by_cases hn0:n=0
  · subst hn0
    simp only [Int.natCast_zero] at e1 e2
    refine call_of_wp zt322 rfl ?_
    repeat (first|apply wp_as|apply wp_ss|refine wr (by simp [e1,e2];with_reducible rfl) ?_|refine wq (by simp [e1,e2];with_reducible rfl) ?_|refine wt (by simpa [e1,e2]) ?_|refine wf (by simpa [e1,e2]) ?_|refine xt (by simpa [e1,e2]) ?_|refine xf (by simpa [e1,e2]) ?_|apply wp_bs|apply wp_b|refine wp_sr ?_|refine wp_sx ?_|refine wp_ret' ?_|refine wp_skip' ?_|refine wp_exit' ?_)
    refine wp_loop ?_
    repeat (first|apply wp_as|apply wp_ss|refine wr (by simp;with_reducible rfl) ?_|refine wq (by simp;with_reducible rfl) ?_|refine wt (by simpa) ?_|refine wf (by simpa) ?_|refine xt (by simpa) ?_|refine xf (by simpa) ?_|apply wp_bs|apply wp_b|refine wp_sr ?_|refine wp_sx ?_|refine wp_ret' ?_|refine wp_skip' ?_|refine wp_exit' ?_)
    simp [zi322,jdL]
  · have hnn:(n:Int) - 1=((n - 1:Nat):Int):=by omega
    rw [hnn] at wn
    refine call_of_wp zt322 rfl ?_
    repeat (first|apply wp_as|apply wp_ss|refine wr (by simp [e1,e2,hnn,wn];with_reducible rfl) ?_|refine wq (by simp [e1,e2,hnn,wn];with_reducible rfl) ?_|refine wt (by simpa [e1,e2,hnn,wn]) ?_|refine wf (by simpa [e1,e2,hnn,wn]) ?_|refine xt (by simpa [e1,e2,hnn,wn]) ?_|refine xf (by simpa [e1,e2,hnn,wn]) ?_|apply wp_bs|apply wp_b|refine wp_sr ?_|refine wp_sx ?_|refine wp_ret' ?_|refine wp_skip' ?_|refine wp_exit' ?_)
    refine wp_imp (hlo (n - 1) (by omega)) ?_
    rintro ex st ⟨rfl,rfl⟩
    try simp only [if_true]
    repeat (first|apply wp_as|apply wp_ss|refine wr (by simp;with_reducible rfl) ?_|refine wq (by simp;with_reducible rfl) ?_|refine wt (by simpa) ?_|refine wf (by simpa) ?_|refine xt (by simpa) ?_|refine xf (by simpa) ?_|apply wp_bs|apply wp_b|refine wp_sr ?_|refine wp_sx ?_|refine wp_ret' ?_|refine wp_skip' ?_|refine wp_exit' ?_)
    simp [zi322]
end Go.Idl
namespace Go.Idl
theorem S_dups (f:Int×Int→Int):∀ (n:Nat) (l:List (Int×Int)),l.length≤n→S l.eraseDups (fun q=>(l.count q:Int) * f q)=S l f
  | 0,l,h=>by
    have:l=[]:=List.length_eq_zero_iff.1 (by omega)
    subst this;simp
  | n+1,[],_=>by simp
  | n+1,a::l,h=>by
    rw [List.eraseDups_cons,S_cons,S_cons]
    have hlen:(l.filter fun b=>!b == a).length≤n:=Nat.le_trans (List.length_filter_le _ _) (by simp at h;omega)
    have ih:=S_dups f n (l.filter fun b=>!b == a) hlen
    have h1:S (l.filter fun b=>!b == a).eraseDups (fun q=>((a::l).count q:Int) * f q)=S (l.filter fun b=>!b == a).eraseDups (fun q=>((l.filter fun b=>!b == a).count q:Int) * f q):=by
      refine S_congr fun q hq=>?_
      have hq':=List.mem_eraseDups.1 hq
      rw [List.mem_filter] at hq'
      have hne:q ≠ a:=by
        intro e
        subst e
        simp at hq'
      rw [List.count_cons_of_ne (fun e=>hne e.symm),List.count_filter (by simpa using hne)]
    rw [h1,ih]
    have h2:S l f=(l.count a:Int) * f a+S (l.filter fun b=>!b == a) f:=by
      clear ih h1 hlen h
      induction l with
      | nil=>simp
      | cons b l ihl =>
        by_cases hb:b=a
        · subst hb
          rw [List.count_cons_self,List.filter_cons_of_neg (by simp),S_cons,ihl]
          rw [Int.natCast_add,Int.add_mul]
          simp only [Int.natCast_one,Int.one_mul]
          omega
        · rw [List.count_cons_of_ne hb,List.filter_cons_of_pos (by simpa using hb),S_cons,S_cons,ihl]
          omega
    rw [h2,List.count_cons_self,Int.natCast_add,Int.add_mul]
    simp only [Int.natCast_one,Int.one_mul]
    omega
theorem jS_perm {n:Nat} {es:List (Int×Int)} (h:vGraph n es=true):(jS n es).Perm (cntK (keysJ (degs n es) es)):=by
  have:=srtJ_jS h (List.Perm.refl _)
  rw [← this]
  obtain ⟨-,hsp⟩:=srtC_ok (lt:=jlt) jlt_ht (fun a b h=>jlt_asymm h) (cntK (keysJ (degs n es) es)) [] .nil
  rw [List.nil_append] at hsp
  exact hsp
theorem S_pickJ {n j:Nat} (hj:j < n) (g:Nat→Int):S (List.range n) (fun u=>if u=j then g u else 0)=g j:=by
  have h1:S (List.range n) (fun u=>if u=j then g u else 0)=S (List.range n) (fun u=>(if j=u then 1 else 0) * g j):=S_congr fun u _=>by
    by_cases h:u=j
    · subst h;simp
    · have h':¬ j=u:=fun e=>h e.symm
      simp [h,h']
  rw [h1,S_mulr,S_one List.nodup_range,if_pos (List.mem_range.2 hj),Int.one_mul]
theorem count_S (l:List Int) (k:Int):S l (fun x=>if x=k then 1 else 0)=(l.count k:Int):=by
  induction l with
  | nil=>rfl
  | cons a l ih =>
    rw [S_cons,ih]
    by_cases h:a=k
    · subst h;rw [if_pos rfl,List.count_cons_self];omega
    · rw [if_neg h,List.count_cons_of_ne h];omega
theorem ends_deg {n:Nat} {es:List (Int×Int)} (h:vGraph n es=true) (k:Int):endsR (jS n es) k=k * ((degs n es).count k:Int):=by
  obtain ⟨h1,h2,hn⟩:=vG_iff.1 h
  have hE:EdgesIn n es:=fun e he=>by have:=mem_prs.1 (h2 e he);omega
  have hde:=degs_eq hE
  have hD:∀ v,v < n→(degs n es).getD v 0=deg es v:=fun v hv=>by
    rw [hde,List.getD_eq_getElem?_getD,List.getElem?_map,List.getElem?_range hv];rfl
  rw [endsR,S_perm (jS_perm h),cntK,S_map]
  have e1:S (keysJ (degs n es) es).eraseDups (fun c=>endR k (c.1,c.2,((keysJ (degs n es) es).count c:Int)))=S (keysJ (degs n es) es).eraseDups (fun c=>((keysJ (degs n es) es).count c:Int) * ((if c.1=k then 1 else 0)+(if c.2=k then 1 else 0))):=by
    refine S_congr fun c _=>?_
    simp only [endR]
    generalize ((keysJ (degs n es) es).count c:Int)=m
    by_cases h1:c.1=k <;> by_cases h2:c.2=k <;> simp [h1,h2] <;> omega
  rw [e1,S_dups _ _ _ (Nat.le_refl _),keysJ,S_map]
  have e2:S es (fun c=>(if (min ((degs n es).getD c.1.toNat 0) ((degs n es).getD c.2.toNat 0),max ((degs n es).getD c.1.toNat 0) ((degs n es).getD c.2.toNat 0)).1=k then (1:Int) else 0)+(if (min ((degs n es).getD c.1.toNat 0) ((degs n es).getD c.2.toNat 0),max ((degs n es).getD c.1.toNat 0) ((degs n es).getD c.2.toNat 0)).2=k then 1 else 0))
      = S es (fun e=>S (List.range n) (fun v=>inc v e * (if (degs n es).getD v 0=k then 1 else 0))):=by
    refine S_congr fun e he=>?_
    have hp:=mem_prs.1 (h2 e he)
    have e3:S (List.range n) (fun v=>inc v e * (if (degs n es).getD v 0=k then (1:Int) else 0))=S (List.range n) (fun v=>if v=e.1.toNat then (if (degs n es).getD v 0=k then 1 else 0) else 0)+S (List.range n) (fun v=>if v=e.2.toNat then (if (degs n es).getD v 0=k then 1 else 0) else 0):=by
      rw [← S_add]
      refine S_congr fun v _=>?_
      simp only [inc]
      generalize (if (degs n es).getD v 0=k then (1:Int) else 0)=g
      by_cases q1:v=e.1.toNat
      · rw [if_pos q1,if_pos (by omega),if_neg (by omega),if_neg (by omega)];omega
      · by_cases q2:v=e.2.toNat
        · rw [if_neg q1,if_pos q2,if_neg (by omega),if_pos (by omega)];omega
        · rw [if_neg q1,if_neg q2,if_neg (by omega),if_neg (by omega)];omega
    rw [e3,S_pickJ (by omega),S_pickJ (by omega)]
    generalize (degs n es).getD e.1.toNat 0=x
    generalize (degs n es).getD e.2.toNat 0=y
    simp only
    by_cases hxy:x≤y
    · rw [Int.min_eq_left hxy,Int.max_eq_right hxy]
    · rw [Int.min_eq_right (by omega),Int.max_eq_left (by omega)];omega
  rw [e2,S_swap]
  have e4:S (List.range n) (fun v=>S es (fun e=>inc v e * (if (degs n es).getD v 0=k then (1:Int) else 0)))=S (List.range n) (fun v=>k * (if (degs n es).getD v 0=k then 1 else 0)):=by
    refine S_congr fun v hv=>?_
    rw [S_mulr]
    have:S es (fun e=>inc v e)=(degs n es).getD v 0:=(hD v (List.mem_range.1 hv)).symm
    rw [this]
    by_cases hk:(degs n es).getD v 0=k
    · rw [if_pos hk,hk]
    · rw [if_neg hk];omega
  rw [e4,S_mul,← count_S]
  have hl:=degs_len n es
  have e5:S (degs n es) (fun x=>if x=k then (1:Int) else 0)=S (List.range n) (fun v=>if (degs n es).getD v 0=k then 1 else 0):=by
    have hm:degs n es=(List.range n).map fun v=>(degs n es).getD v 0:=by
      refine List.ext_getElem (by simp [hl]) fun i k1 k2=>?_
      simp [List.getD_eq_getElem?_getD,List.getElem?_eq_getElem k1]
    conv=>lhs;rw [hm]
    rw [S_map]
  rw [e5]
end Go.Idl
namespace Go.Idl
open Go
theorem jS_rows {n:Nat} {es:List (Int×Int)} (h:vGraph n es=true):(∀ x ∈ jS n es,0≤x.2.2∧x.2.2≤1000)∧(jS n es).length≤1000:=by
  have hp:=jS_perm h
  have h21:=vJ_len h
  refine ⟨fun x hx=>?_,?_⟩
  · obtain ⟨k,-,rfl⟩:=mem_cntK.1 (hp.mem_iff.1 hx)
    have h1:=List.count_le_length (a:=k) (l:=keysJ (degs n es) es)
    have h2:(keysJ (degs n es) es).length=es.length:=List.length_map _
    simp only
    omega
  · have:=keys_few h
    rw [hp.length_eq]
    omega
theorem ends_q {n:Nat} {es:List (Int×Int)} (h:vGraph n es=true) (k:Nat):endsR (jS n es) ((k+1:Nat):Int)=(((degs n es).count ((k+1:Nat):Int) * (k+1):Nat):Int)∧(degs n es).count ((k+1:Nat):Int)≤n:=by
  refine ⟨?_,?_⟩
  · rw [ends_deg h,Int.natCast_mul,Int.mul_comm]
  · have:=List.count_le_length (a:=((k+1:Nat):Int)) (l:=degs n es)
    rw [degs_len] at this
    exact this
theorem cnt_great {n:Nat} {es:List (Int×Int)} (h:vGraph n es=true) {k:Nat} (hk:n≤k):(degs n es).count (k:Int)=0:=by
  refine List.count_eq_zero.2 fun hm=>?_
  have hg:=degs_graphic h
  have hv:valid (degs n es)=true:=by simp only [graphic,Bool.and_eq_true] at hg;exact hg.1.1
  have:=valid_mem hv _ hm
  rw [degs_len] at this
  omega
theorem ends_few {n:Nat} {es:List (Int×Int)} (h:vGraph n es=true) (k:Nat):endsR (jS n es) (k:Int)≤900:=by
  have hn:=(vG_iff.1 h).2.2
  rw [ends_deg h]
  by_cases hk:n≤k
  · rw [cnt_great h hk];simp
  · have h1:=List.count_le_length (a:=(k:Int)) (l:=degs n es)
    rw [degs_len] at h1
    have:k * (degs n es).count (k:Int)≤7 * 7:=Nat.mul_le_mul (by omega) (by omega)
    have h2:((k * (degs n es).count (k:Int):Nat):Int)≤49:=by omega
    rw [Int.natCast_mul] at h2
    omega
theorem jdL_count {n:Nat} {es:List (Int×Int)} (h:vGraph n es=true) (m:Nat):jdL (jS n es) (m+1)=List.replicate ((degs n es).count ((m+1:Nat):Int)) ((m+1:Nat):Int)++jdL (jS n es) m:=by
  rw [jdL,(ends_q h m).1]
  have hd:(((degs n es).count ((m+1:Nat):Int) * (m+1):Nat):Int) / ((m+1:Nat):Int)=((degs n es).count ((m+1:Nat):Int):Int):=by
    rw [← Int.natCast_ediv,Nat.mul_div_cancel _ (Nat.succ_pos m)]
  rw [hd,Int.toNat_natCast]
theorem jdL_up {n:Nat} {es:List (Int×Int)} (h:vGraph n es=true):∀ d:Nat,jdL (jS n es) (n - 1+d)=jdL (jS n es) (n - 1)
  | 0=>rfl
  | d+1=>by
    rw [show n - 1+(d+1)=(n - 1+d)+1 by omega,jdL_count h,cnt_great h (by omega),List.replicate_zero,List.nil_append,jdL_up h d]
theorem jdL_six {n:Nat} {es:List (Int×Int)} (h:vGraph n es=true):jdL (jS n es) 6=jdL (jS n es) (n - 1):=by
  have hn:=(vG_iff.1 h).2.2
  have:=jdL_up h (6 - (n - 1))
  rw [show n - 1+(6 - (n - 1))=6 by omega] at this
  exact this
theorem ev_impl_JointDegrees (n:Nat) (es:List (Int×Int)) (c:Bool) (h:vGraph n es=true):Ev tb zl189 [] [Gr n es c] [] ⟨O (jdL (jS n es) (n - 1)),[],[],[]⟩:=by
  rw [← jdL_six h]
  obtain ⟨h1,h2⟩:=jS_rows h
  exact ev_impl_JointDegrees_of n es c _ (ev_impl_JointOf n es c h) h1 h2 (ends_few h)
theorem ev_spec_JointDegrees (n:Nat) (es:List (Int×Int)) (c:Bool) (h:vGraph n es=true):Ev tb zl322 [] [Gr n es c] [] ⟨O (jdL (jS n es) (n - 1)),[],[],[]⟩:=by
  obtain ⟨h1,h2⟩:=jS_rows h
  have hn:=(vG_iff.1 h).2.2
  exact ev_spec_JointDegrees_of n es c h (fun k=>⟨_,(ends_q h k).1,by have:=(ends_q h k).2;omega⟩) h1 h2
theorem ev_spec_JointDegrees_no (n:Int) (es:List (Int×Int)) (c:Bool) (hl:es.length≤100000000) (h:vGraph n es=false):Ev tb zl322 [] [Gr n es c] [] ⟨Z,[],[],[]⟩:=by
  have e1:=ev_lim (ev_validGraph n es c hl)
  rw [h] at e1
  refine call_of_wp zt322 rfl ?_
  repeat (first|apply wp_as|apply wp_ss|refine wr (by simp [e1];with_reducible rfl) ?_|refine wq (by simp [e1];with_reducible rfl) ?_|refine wt (by simpa [e1]) ?_|refine wf (by simpa [e1]) ?_|refine xt (by simpa [e1]) ?_|refine xf (by simpa [e1]) ?_|apply wp_bs|apply wp_b|refine wp_sr ?_|refine wp_sx ?_|refine wp_ret' ?_|refine wp_skip' ?_|refine wp_exit' ?_)
  simp [zi322]
end Go.Idl
namespace Go.Idl
open Go
theorem eqI_loop (a:List Int) (c d:Bool) (hl:a.length≤2000000):∀ (m i:Nat),i+m=a.length →
    wp tb (.loop z233l8) { T:=[(0,L a c),(1,L a d),(5,I i)],loc:=[],M:=[] }
      (fun ex st=>ex=.exit 0∧st={ T:=[(0,L a c),(1,L a d),(5,I a.length),(14,Bo false)],loc:=[],M:=[] }):=by
  intro m
  induction m with
  | zero =>
    intro i hi
    have h3:i=a.length:=hi
    subst h3
    refine wp_loop ?_
    repeat (first|apply wp_as|apply wp_ss|refine wr (by simp;with_reducible rfl) ?_|refine wq (by simp;with_reducible rfl) ?_|refine wt (by simpa) ?_|refine wf (by simpa) ?_|refine xt (by simpa) ?_|refine xf (by simpa) ?_|apply wp_bs|apply wp_b|refine wp_sr ?_|refine wp_sx ?_|refine wp_ret' ?_|refine wp_skip' ?_|refine wp_exit' ?_)
    exact ⟨rfl,rfl⟩
  | succ m ih =>
    intro i hi
    have hi2:i < a.length:=by omega
    have w2:IntKind.i64.wrap ((i:Int)+1)=((i+1:Nat):Int):=wrapS (by omega)
    have hg:=ih (i+1) (by omega)
    refine wp_loop ?_
    repeat (first|apply wp_as|apply wp_ss|refine wr (by simp [hi2,w2];with_reducible rfl) ?_|refine wq (by simp [hi2,w2];with_reducible rfl) ?_|refine wt (by simpa [hi2,w2]) ?_|refine wf (by simpa [hi2,w2]) ?_|refine xt (by simpa [hi2,w2]) ?_|refine xf (by simpa [hi2,w2]) ?_|apply wp_bs|apply wp_b|refine wp_sr ?_|refine wp_sx ?_|refine wp_ret' ?_|refine wp_skip' ?_|refine wp_exit' ?_)
    exact hg
theorem ev_eqIntS (a:List Int) (c d:Bool) (hl:a.length≤2000000):Ev tb zl233 [] [L a c,L a d] [] ⟨Bo true,[],[],[]⟩:=by
  have hlo:=eqI_loop a c d hl a.length 0 (by omega)
  rw [show ((0:Nat):Int)=0 from rfl] at hlo
  refine call_of_wp zt233 rfl ?_
  repeat (first|apply wp_as|apply wp_ss|refine wr (by simp;with_reducible rfl) ?_|refine wq (by simp;with_reducible rfl) ?_|refine wt (by simpa) ?_|refine wf (by simpa) ?_|refine xt (by simpa) ?_|refine xf (by simpa) ?_|apply wp_bs|apply wp_b|refine wp_sr ?_|refine wp_sx ?_|refine wp_ret' ?_|refine wp_skip' ?_|refine wp_exit' ?_)
  refine wp_imp hlo ?_
  rintro ex st ⟨rfl,rfl⟩
  try simp only [if_true]
  repeat (first|apply wp_as|apply wp_ss|refine wr (by simp;with_reducible rfl) ?_|refine wq (by simp;with_reducible rfl) ?_|refine wt (by simpa) ?_|refine wf (by simpa) ?_|refine xt (by simpa) ?_|refine xf (by simpa) ?_|apply wp_bs|apply wp_b|refine wp_sr ?_|refine wp_sx ?_|refine wp_ret' ?_|refine wp_skip' ?_|refine wp_exit' ?_)
  simp [zi233]
def mrk (k:Int) (n:Nat):List Int:=(List.range n).map fun i:Nat=>k+(i:Int)
theorem mrk_len (k:Int) (n:Nat):(mrk k n).length=n:=by simp [mrk]
theorem mrk_get (k:Int) (n i:Nat) (h:i < (mrk k n).length):(mrk k n)[i]=k+(i:Int):=by simp [mrk]
theorem mkI_loop (k:Int) (n:Nat) (hn:n≤10000000) (hk:0≤k∧k≤100000000):∀ (m i:Nat) (A:List Int),i+m=n→A.length=n→A.take i=(mrk k n).take i →
    wp tb (.loop z243l6) { T:=[(0,O A),(1,I (k+i)),(5,I i)],loc:=[],M:=[] }
      (fun ex st=>ex=.exit 0∧st={ T:=[(0,O (mrk k n)),(1,I (k+n)),(5,I n),(9,Bo false)],loc:=[],M:=[] }):=by
  intro m
  induction m with
  | zero =>
    intro i A hi hA ht
    have h3:i=n:=hi
    subst h3
    rw [List.take_of_length_le (by omega),List.take_of_length_le (by rw [mrk_len];omega)] at ht
    subst ht
    have hq:¬ ((i:Int) < ((mrk k i).length:Int)):=by rw [mrk_len];omega
    refine wp_loop ?_
    repeat (first|apply wp_as|apply wp_ss|refine wr (by simp [mrk_len];with_reducible rfl) ?_|refine wq (by simp [mrk_len];with_reducible rfl) ?_|refine wt (by simpa [mrk_len]) ?_|refine wf (by simpa [mrk_len]) ?_|refine xt (by simpa [mrk_len]) ?_|refine xf (by simpa [mrk_len]) ?_|apply wp_bs|apply wp_b|refine wp_sr ?_|refine wp_sx ?_|refine wp_ret' ?_|refine wp_skip' ?_|refine wp_exit' ?_)
    exact ⟨rfl,rfl⟩
  | succ m ih =>
    intro i A hi hA ht
    have hi2:i < A.length:=by omega
    have w2:IntKind.i64.wrap ((i:Int)+1)=((i+1:Nat):Int):=wrapS (by omega)
    have w3:IntKind.i64.wrap (k+(i:Int)+1)=k+((i+1:Nat):Int):=by rw [wrap64 (by omega) (by omega)];omega
    have hg:=ih (i+1) (A.set i (k+(i:Int))) (by omega) (by simpa using hA) (by
      rw [List.take_succ_eq_append_getElem (by simpa using hi2),List.take_succ_eq_append_getElem (by rw [mrk_len];omega),List.take_set_of_le (Nat.le_refl _),ht,mrk_get];simp)
    refine wp_loop ?_
    repeat (first|apply wp_as|apply wp_ss|refine wr (by simp [hi2,w2,w3];with_reducible rfl) ?_|refine wq (by simp [hi2,w2,w3];with_reducible rfl) ?_|refine wt (by simpa [hi2,w2,w3]) ?_|refine wf (by simpa [hi2,w2,w3]) ?_|refine xt (by simpa [hi2,w2,w3]) ?_|refine xf (by simpa [hi2,w2,w3]) ?_|apply wp_bs|apply wp_b|refine wp_sr ?_|refine wp_sx ?_|refine wp_ret' ?_|refine wp_skip' ?_|refine wp_exit' ?_)
    exact hg
theorem ev_markIntS (a:List Int) (k:Int) (hl:a.length≤10000000) (hk:0≤k∧k≤100000000):Ev tb zl243 [0] [O a,I k] [] ⟨I (k+a.length),[O (mrk k a.length)],[],[]⟩:=by
  have hlo:=mkI_loop k a.length hl hk a.length 0 a (by omega) rfl (by simp)
  rw [show k+((0:Nat):Int)=k by omega,show ((0:Nat):Int)=0 from rfl] at hlo
  refine call_of_wp zt243 rfl ?_
  repeat (first|apply wp_as|apply wp_ss|refine wr (by simp;with_reducible rfl) ?_|refine wq (by simp;with_reducible rfl) ?_|refine wt (by simpa) ?_|refine wf (by simpa) ?_|refine xt (by simpa) ?_|refine xf (by simpa) ?_|apply wp_bs|apply wp_b|refine wp_sr ?_|refine wp_sx ?_|refine wp_ret' ?_|refine wp_skip' ?_|refine wp_exit' ?_)
  refine wp_imp hlo ?_
  rintro ex st ⟨rfl,rfl⟩
  try simp only [if_true]
  repeat (first|apply wp_as|apply wp_ss|refine wr (by simp;with_reducible rfl) ?_|refine wq (by simp;with_reducible rfl) ?_|refine wt (by simpa) ?_|refine wf (by simpa) ?_|refine xt (by simpa) ?_|refine xf (by simpa) ?_|apply wp_bs|apply wp_b|refine wp_sr ?_|refine wp_sx ?_|refine wp_ret' ?_|refine wp_skip' ?_|refine wp_exit' ?_)
  simp [zi243]
theorem hdI_loop (k:Int) (n:Nat) (c:Bool) (hn:n≤10000000) (hk:0≤k∧k≤100000000):∀ (m i:Nat),i+m=n →
    wp tb (.loop z241l7) { T:=[(0,L (mrk k n) c),(1,I (k+i)),(5,I i)],loc:=[],M:=[] }
      (fun ex st=>ex=.exit 0∧st={ T:=[(0,L (mrk k n) c),(1,I (k+n)),(5,I n),(9,Bo false)],loc:=[],M:=[] }):=by
  intro m
  induction m with
  | zero =>
    intro i hi
    have h3:i=n:=hi
    subst h3
    refine wp_loop ?_
    repeat (first|apply wp_as|apply wp_ss|refine wr (by simp [mrk_len];with_reducible rfl) ?_|refine wq (by simp [mrk_len];with_reducible rfl) ?_|refine wt (by simpa [mrk_len]) ?_|refine wf (by simpa [mrk_len]) ?_|refine xt (by simpa [mrk_len]) ?_|refine xf (by simpa [mrk_len]) ?_|apply wp_bs|apply wp_b|refine wp_sr ?_|refine wp_sx ?_|refine wp_ret' ?_|refine wp_skip' ?_|refine wp_exit' ?_)
    exact ⟨rfl,rfl⟩
  | succ m ih =>
    intro i hi
    have hi2:i < n:=by omega
    have w2:IntKind.i64.wrap ((i:Int)+1)=((i+1:Nat):Int):=wrapS (by omega)
    have w3:IntKind.i64.wrap (k+(i:Int)+1)=k+((i+1:Nat):Int):=by rw [wrap64 (by omega) (by omega)];omega
    have hg:=ih (i+1) (by omega)
    refine wp_loop ?_
    repeat (first|apply wp_as|apply wp_ss|refine wr (by simp [mrk_len,hi2,w2,w3,mrk_get];with_reducible rfl) ?_|refine wq (by simp [mrk_len,hi2,w2,w3,mrk_get];with_reducible rfl) ?_|refine wt (by simpa [mrk_len,hi2,w2,w3,mrk_get]) ?_|refine wf (by simpa [mrk_len,hi2,w2,w3,mrk_get]) ?_|refine xt (by simpa [mrk_len,hi2,w2,w3,mrk_get]) ?_|refine xf (by simpa [mrk_len,hi2,w2,w3,mrk_get]) ?_|apply wp_bs|apply wp_b|refine wp_sr ?_|refine wp_sx ?_|refine wp_ret' ?_|refine wp_skip' ?_|refine wp_exit' ?_)
    exact hg
theorem ev_heldIntS (k:Int) (n:Nat) (c:Bool) (hl:n≤10000000) (hk:0≤k∧k≤100000000):Ev tb zl241 [] [L (mrk k n) c,I k] [] ⟨I (k+n),[],[],[]⟩:=by
  have hlo:=hdI_loop k n c hl hk n 0 (by omega)
  rw [show k+((0:Nat):Int)=k by omega,show ((0:Nat):Int)=0 from rfl] at hlo
  refine call_of_wp zt241 rfl ?_
  repeat (first|apply wp_as|apply wp_ss|refine wr (by simp;with_reducible rfl) ?_|refine wq (by simp;with_reducible rfl) ?_|refine wt (by simpa) ?_|refine wf (by simpa) ?_|refine xt (by simpa) ?_|refine xf (by simpa) ?_|apply wp_bs|apply wp_b|refine wp_sr ?_|refine wp_sx ?_|refine wp_ret' ?_|refine wp_skip' ?_|refine wp_exit' ?_)
  refine wp_imp hlo ?_
  rintro ex st ⟨rfl,rfl⟩
  try simp only [if_true]
  repeat (first|apply wp_as|apply wp_ss|refine wr (by simp;with_reducible rfl) ?_|refine wq (by simp;with_reducible rfl) ?_|refine wt (by simpa) ?_|refine wf (by simpa) ?_|refine xt (by simpa) ?_|refine xf (by simpa) ?_|apply wp_bs|apply wp_b|refine wp_sr ?_|refine wp_sx ?_|refine wp_ret' ?_|refine wp_skip' ?_|refine wp_exit' ?_)
  simp [zi241]
end Go.Idl
namespace Go.Idl
open Go
@[simp] theorem fi_cons (p:IV→Bool) (x:IV) (xs:List IV):(x::xs).findIdx? p=if p x then some 0 else (xs.findIdx? p).map (·+1):=List.findIdx?_cons
@[simp] theorem eds_rep (n:Nat):List.replicate n [IV.sc (.int .i64 0),IV.sc (.int .i64 0)]=eds (List.replicate n (0,0)):=by simp [eds]
theorem ev_toEdge (a b:Int):Ev tb zl62 [] [.agg [I a,I b]] [] ⟨.agg [I a,I b],[],[],[]⟩:=by
  refine call_of_wp zt62 rfl ?_
  repeat (first|apply wp_as|apply wp_ss|refine wr (by simp;with_reducible rfl) ?_|refine wq (by simp;with_reducible rfl) ?_|refine wt (by simpa) ?_|refine wf (by simpa) ?_|refine xt (by simpa) ?_|refine xf (by simpa) ?_|apply wp_bs|apply wp_b|refine wp_sr ?_|refine wp_sx ?_|refine wp_ret' ?_|refine wp_skip' ?_|refine wp_exit' ?_)
  simp [zi62]
theorem toE_loop (a:List (Int×Int)) (c:Bool) (hl:a.length≤2000000):∀ (m i:Nat) (A:List (Int×Int)),i+m=a.length→A.length=a.length→A.take i=a.take i →
    wp tb (.loop z63l6) { T:=[(0,L2 a c),(3,O2 A),(4,I i)],loc:=[],M:=[] }
      (fun ex st=>ex=.exit 0∧st={ T:=[(0,L2 a c),(3,O2 a),(4,I a.length),(11,Bo false)],loc:=[],M:=[] }):=by
  intro m
  induction m with
  | zero =>
    intro i A hi hA ht
    have h3:i=a.length:=hi
    subst h3
    rw [List.take_of_length_le (by omega),List.take_of_length_le (by omega)] at ht
    rw [ht]
    refine wp_loop ?_
    repeat (first|apply wp_as|apply wp_ss|refine wr (by simp;with_reducible rfl) ?_|refine wq (by simp;with_reducible rfl) ?_|refine wt (by simpa) ?_|refine wf (by simpa) ?_|refine xt (by simpa) ?_|refine xf (by simpa) ?_|apply wp_bs|apply wp_b|refine wp_sr ?_|refine wp_sx ?_|refine wp_ret' ?_|refine wp_skip' ?_|refine wp_exit' ?_)
    exact ⟨rfl,rfl⟩
  | succ m ih =>
    intro i A hi hA ht
    have hi2:i < a.length:=by omega
    have hi3:i < A.length:=by omega
    have w2:IntKind.i64.wrap ((i:Int)+1)=((i+1:Nat):Int):=wrapS (by omega)
    have hg:=ih (i+1) (A.set i a[i]) (by omega) (by simpa using hA) (by
      rw [List.take_succ_eq_append_getElem (by simpa using hi3),List.take_succ_eq_append_getElem hi2,List.take_set_of_le (Nat.le_refl _),ht];simp)
    obtain ⟨⟨p,q⟩,hx⟩:∃ x,x=a[i]:=⟨_,rfl⟩
    have hx:=hx.symm
    rw [hx] at hg
    have e1:=ev_lim (ev_toEdge p q)
    refine wp_loop ?_
    repeat (first|apply wp_as|apply wp_ss|refine wr (by simp [hi2,hi3,w2,hx,e1];with_reducible rfl) ?_|refine wq (by simp [hi2,hi3,w2,hx,e1];with_reducible rfl) ?_|refine wt (by simpa [hi2,hi3,w2,hx,e1]) ?_|refine wf (by simpa [hi2,hi3,w2,hx,e1]) ?_|refine xt (by simpa [hi2,hi3,w2,hx,e1]) ?_|refine xf (by simpa [hi2,hi3,w2,hx,e1]) ?_|apply wp_bs|apply wp_b|refine wp_sr ?_|refine wp_sx ?_|refine wp_ret' ?_|refine wp_skip' ?_|refine wp_exit' ?_)
    exact hg
theorem ev_toEdgeS (a:List (Int×Int)) (c:Bool) (hl:a.length≤2000000):Ev tb zl63 [] [L2 a c] [] ⟨O2 a,[],[],[]⟩:=by
  have hlo:=toE_loop a c hl a.length 0 (List.replicate a.length (0,0)) (by omega) (by simp) (by simp)
  rw [show ((0:Nat):Int)=0 from rfl] at hlo
  have hl2:a.length≤274877906944:=by omega
  refine call_of_wp zt63 rfl ?_
  repeat (first|apply wp_as|apply wp_ss|refine wr (by simp [hl2];with_reducible rfl) ?_|refine wq (by simp [hl2];with_reducible rfl) ?_|refine wt (by simpa [hl2]) ?_|refine wf (by simpa [hl2]) ?_|refine xt (by simpa [hl2]) ?_|refine xf (by simpa [hl2]) ?_|apply wp_bs|apply wp_b|refine wp_sr ?_|refine wp_sx ?_|refine wp_ret' ?_|refine wp_skip' ?_|refine wp_exit' ?_)
  refine wp_imp hlo ?_
  rintro ex st ⟨rfl,rfl⟩
  try simp only [if_true]
  repeat (first|apply wp_as|apply wp_ss|refine wr (by simp;with_reducible rfl) ?_|refine wq (by simp;with_reducible rfl) ?_|refine wt (by simpa) ?_|refine wf (by simpa) ?_|refine xt (by simpa) ?_|refine xf (by simpa) ?_|apply wp_bs|apply wp_b|refine wp_sr ?_|refine wp_sx ?_|refine wp_ret' ?_|refine wp_skip' ?_|refine wp_exit' ?_)
  simp [zi63]
theorem ev_toGraph (n:Int) (a:List (Int×Int)) (c:Bool) (hl:a.length≤2000000):Ev tb zl64 [] [Gr n a c] [] ⟨OG n a,[],[],[]⟩:=by
  have e1:=fun c=>ev_lim (ev_toEdgeS a c hl)
  refine call_of_wp zt64 rfl ?_
  repeat (first|apply wp_as|apply wp_ss|refine wr (by simp [e1];with_reducible rfl) ?_|refine wq (by simp [e1];with_reducible rfl) ?_|refine wt (by simpa [e1]) ?_|refine wf (by simpa [e1]) ?_|refine xt (by simpa [e1]) ?_|refine xf (by simpa [e1]) ?_|apply wp_bs|apply wp_b|refine wp_sr ?_|refine wp_sx ?_|refine wp_ret' ?_|refine wp_skip' ?_|refine wp_exit' ?_)
  simp [zi64]
theorem ev_eqEdge (a b:Int):Ev tb zl48 [] [.agg [I a,I b],.agg [I a,I b]] [] ⟨Bo true,[],[],[]⟩:=by
  refine call_of_wp zt48 rfl ?_
  repeat (first|apply wp_as|apply wp_ss|refine wr (by simp;with_reducible rfl) ?_|refine wq (by simp;with_reducible rfl) ?_|refine wt (by simpa) ?_|refine wf (by simpa) ?_|refine xt (by simpa) ?_|refine xf (by simpa) ?_|apply wp_bs|apply wp_b|refine wp_sr ?_|refine wp_sx ?_|refine wp_ret' ?_|refine wp_skip' ?_|refine wp_exit' ?_)
  simp [zi48]
theorem eqE_loop (a:List (Int×Int)) (c d:Bool) (hl:a.length≤2000000):∀ (m i:Nat),i+m=a.length →
    wp tb (.loop z49l8) { T:=[(0,L2 a c),(1,L2 a d),(5,I i)],loc:=[],M:=[] }
      (fun ex st=>ex=.exit 0∧st={ T:=[(0,L2 a c),(1,L2 a d),(5,I a.length),(14,Bo false)],loc:=[],M:=[] }):=by
  intro m
  induction m with
  | zero =>
    intro i hi
    have h3:i=a.length:=hi
    subst h3
    refine wp_loop ?_
    repeat (first|apply wp_as|apply wp_ss|refine wr (by simp;with_reducible rfl) ?_|refine wq (by simp;with_reducible rfl) ?_|refine wt (by simpa) ?_|refine wf (by simpa) ?_|refine xt (by simpa) ?_|refine xf (by simpa) ?_|apply wp_bs|apply wp_b|refine wp_sr ?_|refine wp_sx ?_|refine wp_ret' ?_|refine wp_skip' ?_|refine wp_exit' ?_)
    exact ⟨rfl,rfl⟩
  | succ m ih =>
    intro i hi
    have hi2:i < a.length:=by omega
    have w2:IntKind.i64.wrap ((i:Int)+1)=((i+1:Nat):Int):=wrapS (by omega)
    have hg:=ih (i+1) (by omega)
    obtain ⟨⟨p,q⟩,hx⟩:∃ x,x=a[i]:=⟨_,rfl⟩
    have hx:=hx.symm
    have e1:=ev_lim (ev_eqEdge p q)
    refine wp_loop ?_
    repeat (first|apply wp_as|apply wp_ss|refine wr (by simp [hi2,w2,hx,e1];with_reducible rfl) ?_|refine wq (by simp [hi2,w2,hx,e1];with_reducible rfl) ?_|refine wt (by simpa [hi2,w2,hx,e1]) ?_|refine wf (by simpa [hi2,w2,hx,e1]) ?_|refine xt (by simpa [hi2,w2,hx,e1]) ?_|refine xf (by simpa [hi2,w2,hx,e1]) ?_|apply wp_bs|apply wp_b|refine wp_sr ?_|refine wp_sx ?_|refine wp_ret' ?_|refine wp_skip' ?_|refine wp_exit' ?_)
    exact hg
theorem ev_eqEdgeS (a:List (Int×Int)) (c d:Bool) (hl:a.length≤2000000):Ev tb zl49 [] [L2 a c,L2 a d] [] ⟨Bo true,[],[],[]⟩:=by
  have hlo:=eqE_loop a c d hl a.length 0 (by omega)
  rw [show ((0:Nat):Int)=0 from rfl] at hlo
  refine call_of_wp zt49 rfl ?_
  repeat (first|apply wp_as|apply wp_ss|refine wr (by simp;with_reducible rfl) ?_|refine wq (by simp;with_reducible rfl) ?_|refine wt (by simpa) ?_|refine wf (by simpa) ?_|refine xt (by simpa) ?_|refine xf (by simpa) ?_|apply wp_bs|apply wp_b|refine wp_sr ?_|refine wp_sx ?_|refine wp_ret' ?_|refine wp_skip' ?_|refine wp_exit' ?_)
  refine wp_imp hlo ?_
  rintro ex st ⟨rfl,rfl⟩
  try simp only [if_true]
  repeat (first|apply wp_as|apply wp_ss|refine wr (by simp;with_reducible rfl) ?_|refine wq (by simp;with_reducible rfl) ?_|refine wt (by simpa) ?_|refine wf (by simpa) ?_|refine xt (by simpa) ?_|refine xf (by simpa) ?_|apply wp_bs|apply wp_b|refine wp_sr ?_|refine wp_sx ?_|refine wp_ret' ?_|refine wp_skip' ?_|refine wp_exit' ?_)
  simp [zi49]
theorem ev_eqGraph (n:Int) (a:List (Int×Int)) (c d:Bool) (hl:a.length≤2000000):Ev tb zl50 [] [Gr n a c,Gr n a d] [] ⟨Bo true,[],[],[]⟩:=by
  have e1:=fun c d=>ev_lim (ev_eqEdgeS a c d hl)
  refine call_of_wp zt50 rfl ?_
  repeat (first|apply wp_as|apply wp_ss|refine wr (by simp [e1];with_reducible rfl) ?_|refine wq (by simp [e1];with_reducible rfl) ?_|refine wt (by simpa [e1]) ?_|refine wf (by simpa [e1]) ?_|refine xt (by simpa [e1]) ?_|refine xf (by simpa [e1]) ?_|apply wp_bs|apply wp_b|refine wp_sr ?_|refine wp_sx ?_|refine wp_ret' ?_|refine wp_skip' ?_|refine wp_exit' ?_)
  simp [zi50]
def mrk2 (k:Int) (n:Nat):List (Int×Int):=(List.range n).map fun i:Nat=>(k+2 * (i:Int),k+2 * (i:Int)+1)
theorem mrk2_len (k:Int) (n:Nat):(mrk2 k n).length=n:=by simp [mrk2]
theorem mrk2_get (k:Int) (n i:Nat) (h:i < (mrk2 k n).length):(mrk2 k n)[i]=(k+2 * (i:Int),k+2 * (i:Int)+1):=by simp [mrk2]
theorem mkE_loop (k:Int) (n:Nat) (hn:n≤10000000) (hk:0≤k∧k≤100000000):∀ (m i:Nat) (A:List (Int×Int)),i+m=n→A.length=n→A.take i=(mrk2 k n).take i →
    wp tb (.loop z56l8) { T:=[(0,O2 A),(1,I (k+2 * i)),(5,I i)],loc:=[],M:=[] }
      (fun ex st=>ex=.exit 0∧st={ T:=[(0,O2 (mrk2 k n)),(1,I (k+2 * n)),(5,I n),(9,Bo false)],loc:=[],M:=[] }):=by
  intro m
  induction m with
  | zero =>
    intro i A hi hA ht
    have h3:i=n:=hi
    subst h3
    rw [List.take_of_length_le (by omega),List.take_of_length_le (by rw [mrk2_len];omega)] at ht
    subst ht
    refine wp_loop ?_
    repeat (first|apply wp_as|apply wp_ss|refine wr (by simp [mrk2_len];with_reducible rfl) ?_|refine wq (by simp [mrk2_len];with_reducible rfl) ?_|refine wt (by simpa [mrk2_len]) ?_|refine wf (by simpa [mrk2_len]) ?_|refine xt (by simpa [mrk2_len]) ?_|refine xf (by simpa [mrk2_len]) ?_|apply wp_bs|apply wp_b|refine wp_sr ?_|refine wp_sx ?_|refine wp_ret' ?_|refine wp_skip' ?_|refine wp_exit' ?_)
    exact ⟨rfl,rfl⟩
  | succ m ih =>
    intro i A hi hA ht
    have hi2:i < A.length:=by omega
    have w2:IntKind.i64.wrap ((i:Int)+1)=((i+1:Nat):Int):=wrapS (by omega)
    have w3:IntKind.i64.wrap (k+2 * (i:Int)+1)=k+2 * (i:Int)+1:=by rw [wrap64 (by omega) (by omega)]
    have w4:IntKind.i64.wrap (k+2 * (i:Int)+1+1)=k+2 * ((i+1:Nat):Int):=by rw [wrap64 (by omega) (by omega)];omega
    have hg:=ih (i+1) (A.set i (k+2 * (i:Int),k+2 * (i:Int)+1)) (by omega) (by simpa using hA) (by
      rw [List.take_succ_eq_append_getElem (by simpa using hi2),List.take_succ_eq_append_getElem (by rw [mrk2_len];omega),List.take_set_of_le (Nat.le_refl _),ht,mrk2_get];simp)
    obtain ⟨⟨p,q⟩,hx⟩:∃ x,x=A[i]:=⟨_,rfl⟩
    have hx:=hx.symm
    refine wp_loop ?_
    repeat (first|apply wp_as|apply wp_ss|refine wr (by simp [hi2,w2,w3,w4,hx];with_reducible rfl) ?_|refine wq (by simp [hi2,w2,w3,w4,hx];with_reducible rfl) ?_|refine wt (by simpa [hi2,w2,w3,w4,hx]) ?_|refine wf (by simpa [hi2,w2,w3,w4,hx]) ?_|refine xt (by simpa [hi2,w2,w3,w4,hx]) ?_|refine xf (by simpa [hi2,w2,w3,w4,hx]) ?_|apply wp_bs|apply wp_b|refine wp_sr ?_|refine wp_sx ?_|refine wp_ret' ?_|refine wp_skip' ?_|refine wp_exit' ?_)
    exact hg
theorem ev_markEdgeS (a:List (Int×Int)) (k:Int) (hl:a.length≤10000000) (hk:0≤k∧k≤100000000):Ev tb zl56 [0] [O2 a,I k] [] ⟨I (k+2 * a.length),[O2 (mrk2 k a.length)],[],[]⟩:=by
  have hlo:=mkE_loop k a.length hl hk a.length 0 a (by omega) rfl (by simp)
  rw [show k+2 * ((0:Nat):Int)=k by omega,show ((0:Nat):Int)=0 from rfl] at hlo
  refine call_of_wp zt56 rfl ?_
  repeat (first|apply wp_as|apply wp_ss|refine wr (by simp;with_reducible rfl) ?_|refine wq (by simp;with_reducible rfl) ?_|refine wt (by simpa) ?_|refine wf (by simpa) ?_|refine xt (by simpa) ?_|refine xf (by simpa) ?_|apply wp_bs|apply wp_b|refine wp_sr ?_|refine wp_sx ?_|refine wp_ret' ?_|refine wp_skip' ?_|refine wp_exit' ?_)
  refine wp_imp hlo ?_
  rintro ex st ⟨rfl,rfl⟩
  try simp only [if_true]
  repeat (first|apply wp_as|apply wp_ss|refine wr (by simp;with_reducible rfl) ?_|refine wq (by simp;with_reducible rfl) ?_|refine wt (by simpa) ?_|refine wf (by simpa) ?_|refine xt (by simpa) ?_|refine xf (by simpa) ?_|apply wp_bs|apply wp_b|refine wp_sr ?_|refine wp_sx ?_|refine wp_ret' ?_|refine wp_skip' ?_|refine wp_exit' ?_)
  simp [zi56]
theorem ev_markGraph (n:Int) (a:List (Int×Int)) (k:Int) (hl:a.length≤10000000) (hk:0≤k∧k≤100000000):Ev tb zl57 [0] [OG n a,I k] [] ⟨I (k+2 * a.length),[OG n (mrk2 k a.length)],[],[]⟩:=by
  have e1:=ev_lim (ev_markEdgeS a k hl hk)
  have hs:(eds (mrk2 k a.length)).all (·.all IV.isSc)=true:=by
    rw [List.all_eq_true];intro x hx
    obtain ⟨e,_,rfl⟩:=List.mem_map.1 hx
    rfl
  refine call_of_wp zt57 rfl ?_
  refine ⟨_,by simp [z57r0,z57r1,e1,hs];with_reducible rfl,?_⟩
  repeat (first|apply wp_as|apply wp_ss|refine wr (by simp;with_reducible rfl) ?_|refine wq (by simp;with_reducible rfl) ?_|refine wt (by simpa) ?_|refine wf (by simpa) ?_|refine xt (by simpa) ?_|refine xf (by simpa) ?_|apply wp_bs|apply wp_b|refine wp_sr ?_|refine wp_sx ?_|refine wp_ret' ?_|refine wp_skip' ?_|refine wp_exit' ?_)
  simp [zi57]
end Go.Idl
namespace Go.Idl
open Go
def srtE (X:List (Int×Int)):List (Int×Int):=srtC below [] X
end Go.Idl
namespace Go.Idl
open Go
def apart (a b c d:Int):Bool:=decide (a ≠ b) && decide (a ≠ c) && decide (a ≠ d) && decide (b ≠ c) && decide (b ≠ d) && decide (c ≠ d)
def gone (a b c d:Int) (x:Int×Int):Bool:=decide (x=(min a b,max a b)) || decide (x=(min c d,max c d))
end Go.Idl
namespace Go.Idl
open Go
def swX (es:List (Int×Int)) (a b c d:Int):List (Int×Int):=es.filter (fun x=>!gone a b c d x)++[(min a c,max a c),(min b d,max b d)]
def sw (es:List (Int×Int)) (a b c d:Int):List (Int×Int):=srtE (swX es a b c d)
end Go.Idl
namespace Go.Idl
open Go
abbrev Q4:=Int×Int×Int×Int
def sws (xs:List Q4):List (List IV):=xs.map fun s=>[I s.1,I s.2.1,I s.2.2.1,I s.2.2.2]
@[simp] theorem sws_len (xs:List Q4):(sws xs).length=xs.length:=by simp [sws]
@[simp] theorem sws_nil:sws []=[]:=rfl
@[simp] theorem sws_take (xs:List Q4) (n:Nat):(sws xs).take n=sws (xs.take n):=by simp [sws,List.map_take]
@[simp] theorem sws_drop (xs:List Q4) (n:Nat):(sws xs).drop n=sws (xs.drop n):=by simp [sws,List.map_drop]
@[simp] theorem sws_one (xs:List Q4) (a b c d:Int):sws xs++[[IV.sc (.int .i64 a),IV.sc (.int .i64 b),IV.sc (.int .i64 c),IV.sc (.int .i64 d)]]=sws (xs++[(a,b,c,d)]):=by simp [sws]
@[simp] theorem sws_get (xs:List Q4) (i:Nat) (h:i < (sws xs).length):(sws xs)[i]=[IV.sc (.int .i64 (xs[i]'(by simpa [sws] using h)).1),IV.sc (.int .i64 (xs[i]'(by simpa [sws] using h)).2.1),IV.sc (.int .i64 (xs[i]'(by simpa [sws] using h)).2.2.1),IV.sc (.int .i64 (xs[i]'(by simpa [sws] using h)).2.2.2)]:=by simp [sws]
@[simp] theorem sws_get? (xs:List Q4) (i:Nat):(sws xs)[i]? = xs[i]?.map fun s=>[IV.sc (.int .i64 s.1),IV.sc (.int .i64 s.2.1),IV.sc (.int .i64 s.2.2.1),IV.sc (.int .i64 s.2.2.2)]:=by simp [sws]
@[simp] theorem sws_all1 (xs:List Q4):((sws xs).all fun x=>x.all IV.plain1)=true:=by
  induction xs with
  | nil=>rfl
  | cons x xs ih=>simp only [sws,List.map_cons,List.all_cons] at *;rw [ih];rfl
@[simp] theorem sws_all2 (xs:List Q4):((sws xs).all fun x=>x.all IV.isData)=true:=by
  induction xs with
  | nil=>rfl
  | cons x xs ih=>simp only [sws,List.map_cons,List.all_cons] at *;rw [ih];rfl
@[simp] theorem sws_noLst (xs:List Q4):noLstLL (sws xs)=true:=by
  induction xs with
  | nil=>rfl
  | cons x xs ih=>simp only [sws,List.map_cons,noLstLL,noLstL,noLstV] at *;rw [ih];rfl
@[simp] theorem frz_sws (xs:List Q4):frzLL (sws xs)=sws xs:=by
  induction xs with
  | nil=>rfl
  | cons x xs ih=>simp only [sws,List.map_cons,frzLL,frzL,frzV] at *;rw [ih]
end Go.Idl
namespace Go.Idl
open Go
def tab (t:List (List Int)):List (List IV):=t.map fun r=>[.lst 1 (ints r) false]
def oab (t:List (List Int)):List (List IV):=t.map fun r=>[.own 1 (ints r)]
@[simp] theorem tab_len (t:List (List Int)):(tab t).length=t.length:=by simp [tab]
@[simp] theorem oab_len (t:List (List Int)):(oab t).length=t.length:=by simp [oab]
@[simp] theorem oab_nil:oab []=[]:=rfl
@[simp] theorem tab_get? (t:List (List Int)) (i:Nat):(tab t)[i]? = t[i]?.map fun r=>[IV.lst 1 (ints r) false]:=by simp [tab]
@[simp] theorem tab_get (t:List (List Int)) (i:Nat) (h:i < (tab t).length):(tab t)[i]=[IV.lst 1 (ints (t[i]'(by simpa [tab] using h))) false]:=by simp [tab]
@[simp] theorem oab_get? (t:List (List Int)) (i:Nat):(oab t)[i]? = t[i]?.map fun r=>[IV.own 1 (ints r)]:=by simp [oab]
@[simp] theorem oab_get (t:List (List Int)) (i:Nat) (h:i < (oab t).length):(oab t)[i]=[IV.own 1 (ints (t[i]'(by simpa [oab] using h)))]:=by simp [oab]
@[simp] theorem oab_one (t:List (List Int)) (r:List Int):oab t++[[IV.own 1 (ints r)]]=oab (t++[r]):=by simp [oab]
@[simp] theorem oab_set (t:List (List Int)) (i:Nat) (r:List Int):(oab t).set i [IV.own 1 (ints r)]=oab (t.set i r):=by simp [oab,List.map_set]
@[simp] theorem oab_take (t:List (List Int)) (n:Nat):(oab t).take n=oab (t.take n):=by simp [oab,List.map_take]
@[simp] theorem frz_oab (t:List (List Int)):frzLL (oab t)=tab t:=by
  induction t with
  | nil=>rfl
  | cons x xs ih =>
    simp only [oab,tab,List.map_cons,frzLL,frzL,frzV] at *
    rw [ih]
    have:frzLL (ints x)=ints x:=by
      clear ih
      induction x with
      | nil=>rfl
      | cons y ys ih=>simp only [ints,List.map_cons,frzLL,frzL,frzV] at *;rw [ih]
    rw [this]
@[simp] theorem tab_all1 (t:List (List Int)):((tab t).all fun x=>x.all IV.plain1)=true:=by
  induction t with
  | nil=>rfl
  | cons x xs ih=>simp only [tab,List.map_cons,List.all_cons] at *;rw [ih];rfl
@[simp] theorem oab_noLst (t:List (List Int)):noLstLL (oab t)=true:=by
  induction t with
  | nil=>rfl
  | cons x xs ih =>
    simp only [oab,List.map_cons,noLstLL,noLstL,noLstV] at *
    rw [ih,ints_noLst];rfl
def g2 (t:List (List Int)) (a b:Nat):Int:=(t.getD a []).getD b 0
end Go.Idl
namespace Go.Idl
open Go
def asc0 (s:List Int):List Int:=(fall s).reverse
def overT (s:List Int) (i:Nat):Int:=((asc0 s).take (i+1)).sum - ((i:Int)+1) * i / 2
def over (s:List Int):List Int:=mapR s.length (overT s)
end Go.Idl
namespace Go.Idl
open Go
theorem sum01 (r:List Int) (h:∀ x ∈ r,0≤x∧x≤1):0≤r.sum∧r.sum≤r.length:=by
  induction r with
  | nil=>simp
  | cons x xs ih =>
    have h1:=h x (by simp)
    have h2:=ih fun y hy=>h y (by simp [hy])
    simp only [List.sum_cons,List.length_cons];omega
end Go.Idl
namespace Go.Idl
open Go
def busy (rest gone:List Int) (v:Nat):Bool:=decide ((v:Int) ∈ rest) || decide ((v:Int) ∈ gone)
end Go.Idl
namespace Go.Idl
open Go
abbrev Str (s:ByteArray):IV:=.sc (.string s)
def strs (l:List ByteArray):List (List IV):=l.map fun s=>[Str s]
@[simp] theorem strs_len (l:List ByteArray):(strs l).length=l.length:=by simp [strs]
@[simp] theorem strs_get (l:List ByteArray) (i:Nat) (h:i < (strs l).length):(strs l)[i]=[IV.sc (.string (l[i]'(by simpa [strs] using h)))]:=by simp [strs]
@[simp] theorem strs_get? (l:List ByteArray) (i:Nat):(strs l)[i]? = l[i]?.map fun s=>[IV.sc (.string s)]:=by simp [strs]
end Go.Idl
namespace Go.Idl
open Go
def gls (n:Int) (gl:List (List (Int×Int))):List (List IV):=gl.map fun es=>[I n,O2 es]
@[simp] theorem gls_len (n:Int) (gl):(gls n gl).length=gl.length:=by simp [gls]
@[simp] theorem gls_one (n:Int) (gl) (es:List (Int×Int)):gls n gl++[[IV.sc (.int .i64 n),.own 2 (eds es)]]=gls n (gl++[es]):=by simp [gls]
@[simp] theorem gls_emp (n:Int) (gl):(gls n gl).isEmpty=gl.isEmpty:=by cases gl <;> rfl
@[simp] theorem gls_take (n:Int) (gl) (k:Nat):(gls n gl).take k=gls n (gl.take k):=by simp [gls,List.map_take]
@[simp] theorem gls_all (n:Int) (gl):((gls n gl).all fun x=>x.all IV.isData)=true:=by
  induction gl with
  | nil=>rfl
  | cons x xs ih=>simp only [gls,List.map_cons,List.all_cons] at *;rw [ih];rfl
@[simp] theorem gls_noLst (n:Int) (gl):noLstLL (gls n gl)=true:=by
  induction gl with
  | nil=>rfl
  | cons x xs ih=>simp only [gls,List.map_cons,noLstLL,noLstL,noLstV,eds_noLst] at *;rw [ih];rfl
end Go.Idl
namespace Go.Idl
open Go
abbrev GF:=List (List (Int×Int)×Bool)
def glf (n:Int) (R:GF):List (List IV):=R.map fun x=>[I n,L2 x.1 x.2]
@[simp] theorem glf_len (n:Int) (R:GF):(glf n R).length=R.length:=by simp [glf]
@[simp] theorem glf_nil (n:Int):glf n []=[]:=rfl
@[simp] theorem glf_app (n:Int) (R S:GF):glf n R++glf n S=glf n (R++S):=by simp [glf]
@[simp] theorem glf_take (n:Int) (R:GF) (k:Nat):(glf n R).take k=glf n (R.take k):=by simp [glf,List.map_take]
@[simp] theorem glf_all (n:Int) (R:GF):((glf n R).all fun x=>x.all IV.isData)=true:=by
  induction R with
  | nil=>rfl
  | cons x xs ih=>simp only [glf,List.map_cons,List.all_cons] at *;rw [ih];rfl
end Go.Idl
namespace Go.Idl
open Go
@[simp] theorem un_neg (n:Int):Op.unary .neg (.int .i64 n)=.pure (.int .i64 (IntKind.i64.wrap (-n))):=by
  rw [← Int.zero_sub];rfl
def gs (r c:List Int) (i:Nat):Int:=-((fall r).take (i+1)).sum+(c.map fun x:Int=>min x ((i:Int)+1)).sum
end Go.Idl
namespace Go.Idl
open Go
def TT (n:Nat) (t:List (List Int)):Prop:=t.length=n∧∀ r ∈ t,r.length=n∧∀ x ∈ r,0≤x∧x≤1
theorem TT.set {n:Nat} {t:List (List Int)} (h:TT n t) {a b:Nat} {v:Int} (ha:a < t.length) (hv:0≤v∧v≤1):TT n (t.set a (t[a].set b v)):=by
  refine ⟨by simpa using h.1,fun r hr=>?_⟩
  have h1:=h.2 _ (List.getElem_mem ha)
  rcases List.mem_or_eq_of_mem_set hr with hr | rfl
  · exact h.2 r hr
  · refine ⟨by simpa using h1.1,fun x hx=>?_⟩
    rcases List.mem_or_eq_of_mem_set hx with hx | rfl
    · exact h1.2 x hx
    · exact hv
end Go.Idl
namespace Go.Idl
open Go
def MM (h w:Nat) (t:List (List Int)):Prop:=t.length=h∧∀ r ∈ t,r.length=w∧∀ x ∈ r,0≤x∧x≤1
end Go.Idl
namespace Go.Idl
open Go
theorem MM.sums {h w:Nat} {t:List (List Int)} (ht:MM h w t) (hw:w≤5):∀ x ∈ t.map List.sum,0≤x∧x≤5:=by
  intro x hx
  obtain ⟨r,hr,rfl⟩:=List.mem_map.1 hx
  have h1:=ht.2 r hr
  have:=sum01 r h1.2
  omega
end Go.Idl
namespace Go.Idl
open Go
theorem ev_szGraph_ok (n:Int) (es:List (Int×Int)) (c:Bool) (l:Int) (h:(es.length:Int)≤l) (hl:l≤2000000):Ev tb zl61 [] [Gr n es c,I l] [] ⟨I (l - es.length),[],[],[]⟩:=by
  have w1:IntKind.i64.wrap (l - (es.length:Int))=l - es.length:=wrap64 (by omega) (by omega)
  have h0:¬ (l - (es.length:Int) < 0):=by omega
  have e1:∀ c,limF tb zl60 [] [L2 es c,I l] []=some ⟨I (l - es.length),[],[],[]⟩:=fun c=>ev_lim (by
    refine call_of_wp zt60 rfl ?_
    repeat (first|apply wp_as|apply wp_ss|refine wr (by simp [w1,h0];with_reducible rfl) ?_|refine wq (by simp [w1,h0];with_reducible rfl) ?_|refine wt (by simpa [w1,h0]) ?_|refine wf (by simpa [w1,h0]) ?_|refine xt (by simpa [w1,h0]) ?_|refine xf (by simpa [w1,h0]) ?_|apply wp_bs|apply wp_b|refine wp_sr ?_|refine wp_sx ?_|refine wp_ret' ?_|refine wp_skip' ?_|refine wp_exit' ?_)
    simp [zi60])
  refine call_of_wp zt61 rfl ?_
  repeat (first|apply wp_as|apply wp_ss|refine wr (by simp [e1,h0];with_reducible rfl) ?_|refine wq (by simp [e1,h0];with_reducible rfl) ?_|refine wt (by simpa [e1,h0]) ?_|refine wf (by simpa [e1,h0]) ?_|refine xt (by simpa [e1,h0]) ?_|refine xf (by simpa [e1,h0]) ?_|apply wp_bs|apply wp_b|refine wp_sr ?_|refine wp_sx ?_|refine wp_ret' ?_|refine wp_skip' ?_|refine wp_exit' ?_)
  simp [zi61]
theorem ev_szGraph_no (n:Int) (es:List (Int×Int)) (c:Bool) (l:Int) (h:l < (es.length:Int)) (hl:0≤l) (hb:es.length < 9223372036854775808):Ev tb zl61 [] [Gr n es c,I l] [] ⟨I (-1),[],[],[]⟩:=by
  have w1:IntKind.i64.wrap (l - (es.length:Int))=l - es.length:=wrap64 (by omega) (by omega)
  have h0:l - (es.length:Int) < 0:=by omega
  have e1:∀ c,limF tb zl60 [] [L2 es c,I l] []=some ⟨I (-1),[],[],[]⟩:=fun c=>ev_lim (by
    refine call_of_wp zt60 rfl ?_
    repeat (first|apply wp_as|apply wp_ss|refine wr (by simp [w1,h0];with_reducible rfl) ?_|refine wq (by simp [w1,h0];with_reducible rfl) ?_|refine wt (by simpa [w1,h0]) ?_|refine wf (by simpa [w1,h0]) ?_|refine xt (by simpa [w1,h0]) ?_|refine xf (by simpa [w1,h0]) ?_|apply wp_bs|apply wp_b|refine wp_sr ?_|refine wp_sx ?_|refine wp_ret' ?_|refine wp_skip' ?_|refine wp_exit' ?_)
    simp [zi60])
  refine call_of_wp zt61 rfl ?_
  repeat (first|apply wp_as|apply wp_ss|refine wr (by simp [e1];with_reducible rfl) ?_|refine wq (by simp [e1];with_reducible rfl) ?_|refine wt (by simpa [e1]) ?_|refine wf (by simpa [e1]) ?_|refine xt (by simpa [e1]) ?_|refine xf (by simpa [e1]) ?_|apply wp_bs|apply wp_b|refine wp_sr ?_|refine wp_sx ?_|refine wp_ret' ?_|refine wp_skip' ?_|refine wp_exit' ?_)
  simp [zi61]
@[simp] theorem sws_rep (n:Nat):List.replicate n [IV.sc (.int .i64 0),IV.sc (.int .i64 0),IV.sc (.int .i64 0),IV.sc (.int .i64 0)]=sws (List.replicate n (0,0,0,0)):=by simp [sws]
@[simp] theorem sws_set (xs:List Q4) (i:Nat) (a b c d:Int):(sws xs).set i [IV.sc (.int .i64 a),IV.sc (.int .i64 b),IV.sc (.int .i64 c),IV.sc (.int .i64 d)]=sws (xs.set i (a,b,c,d)):=by
  simp [sws,List.map_set]
theorem mrk_sc (k:Int) (n:Nat):(ints (mrk k n)).all (·.all IV.isSc)=true:=by
  rw [List.all_eq_true];intro x hx
  obtain ⟨e,_,rfl⟩:=List.mem_map.1 hx
  rfl
theorem mrk2_sc (k:Int) (n:Nat):(eds (mrk2 k n)).all (·.all IV.isSc)=true:=by
  rw [List.all_eq_true];intro x hx
  obtain ⟨e,_,rfl⟩:=List.mem_map.1 hx
  rfl
end Go.Idl
