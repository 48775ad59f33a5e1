/- Part 5 of a proof by an ideal interpreter of the code: its definitions and lemmas. Conditions: none. -/
import Derived.KernelRfl
import Derived.Test.YtbbennmmjlgmoaaDoorA4
set_option linter.all false
set_option linter.unusedVariables false
set_option linter.unusedSimpArgs false
namespace Go.Idl
open Go
theorem ev_in (n lo hi:Int):Ev tb zl38 [] [I n,I lo,I hi] [] ⟨Bo (decide (lo≤n) && decide (n≤hi)),[],[],[]⟩:=by
  refine call_of_wp zt38 rfl ?_
  refine wp_rs (by simp;rfl) (by simp;rfl) ?_
  by_cases h:lo≤n
  · refine wp_rs (by simp [h];rfl) (by simp;rfl) ?_
    refine wp_ret' ?_
    simp [h,zi38]
  · refine wp_rs (by simp [h];rfl) (by simp;rfl) ?_
    refine wp_ret' ?_
    simp [h,zi38]
theorem ev_inRange (n lo hi:Int):Ev tb zl132 [] [I n,I lo,I hi] [] ⟨Bo (decide (lo≤n) && decide (n≤hi)),[],[],[]⟩:=by
  refine call_of_wp zt132 rfl ?_
  refine wp_rs (by simp;rfl) (by simp;rfl) ?_
  by_cases h:lo≤n
  · refine wp_rs (by simp [h];rfl) (by simp;rfl) ?_
    refine wp_ret' ?_
    simp [h,zi132]
  · refine wp_rs (by simp [h];rfl) (by simp;rfl) ?_
    refine wp_ret' ?_
    simp [h,zi132]
def SmallSum (xs:List Int):Prop:=xs.length≤2000000∧∀ k,-4611686018427387904≤(xs.take k).sum∧(xs.take k).sum≤4611686018427387904
theorem ev_Clip (xs:List Int):Ev tb zl70 [] [.own 1 (ints xs)] [] ⟨.own 1 (ints xs),[],[],[]⟩:=by
  refine call_of_wp zt70 rfl ?_
  refine wp_rs (by simp;rfl) (by simp;rfl) ?_
  refine wp_rs (by simp;rfl) (by simp;rfl) ?_
  refine wp_ret' ?_
  simp [zi70]
end Go.Idl
namespace Go.Idl
def insD (x:Int):List Int→List Int
  | []=>[x]
  | y::ys=>if x≤y then y::insD x ys else x::y::ys
def fall (xs:List Int):List Int:=xs.foldl (fun out x=>insD x out) []
abbrev Desc (xs:List Int):Prop:=xs.Pairwise (fun a b=>b≤a)
theorem insD_perm (x:Int) (ys:List Int):(insD x ys).Perm (x::ys):=by
  induction ys with
  | nil=>exact .refl _
  | cons y ys ih =>
    unfold insD
    split
    · exact (ih.cons y).trans (.swap x y ys)
    · exact .refl _
theorem insD_desc (x:Int) (ys:List Int) (h:Desc ys):Desc (insD x ys):=by
  induction ys with
  | nil=>simp [insD]
  | cons y ys ih =>
    unfold insD
    have h:=List.pairwise_cons.1 h
    split
    · refine List.pairwise_cons.2 ⟨fun a ha=>?_,ih h.2⟩
      rcases List.mem_cons.1 ((insD_perm x ys).mem_iff.1 ha) with rfl | ha
      · assumption
      · exact h.1 a ha
    · rename_i hx
      refine List.pairwise_cons.2 ⟨fun a ha=>?_,List.pairwise_cons.2 h⟩
      rcases List.mem_cons.1 ha with rfl | ha
      · omega
      · have:=h.1 a ha;omega
theorem fall_aux (xs:List Int):∀ ys,Desc ys→Desc (xs.foldl (fun out x=>insD x out) ys)∧(xs.foldl (fun out x=>insD x out) ys).Perm (xs++ys):=by
  induction xs with
  | nil=>intro ys h;exact ⟨h,.refl _⟩
  | cons x xs ih =>
    intro ys h
    obtain ⟨h1,h2⟩:=ih (insD x ys) (insD_desc x ys h)
    refine ⟨h1,h2.trans ?_⟩
    exact ((insD_perm x ys).append_left xs).trans List.perm_middle
theorem fall_perm (xs:List Int):(fall xs).Perm xs:=by simpa [fall] using (fall_aux xs [] .nil).2
theorem fall_len (xs:List Int):(fall xs).length=xs.length:=(fall_perm xs).length_eq
theorem fall_mem {xs:List Int} {x:Int}:x ∈ fall xs ↔ x ∈ xs:=(fall_perm xs).mem_iff
end Go.Idl
namespace Go.Idl
open Go
abbrev L (xs:List Int) (c:Bool:=false):IV:=.lst 1 (ints xs) c
abbrev O (xs:List Int):IV:=.own 1 (ints xs)
end Go.Idl
namespace Go.Idl
open Go
def valid (d:List Int):Bool:=decide (d.length≤7) && d.all fun x=>decide (0≤x) && decide (x < d.length)
end Go.Idl
namespace Go.Idl
open Go
def bytes (xs:List Int):List (List IV):=xs.map fun n=>[.sc (.int .u8 n)]
@[simp] theorem bytes_len (xs:List Int):(bytes xs).length=xs.length:=by simp [bytes]
@[simp] theorem bytes_take (xs:List Int) (n:Nat):(bytes xs).take n=bytes (xs.take n):=by simp [bytes,List.map_take]
@[simp] theorem bytes_get? (xs:List Int) (i:Nat):(bytes xs)[i]? = xs[i]?.map fun n=>[IV.sc (.int .u8 n)]:=by simp [bytes]
@[simp] theorem bytes_get (xs:List Int) (i:Nat) (h:i < (bytes xs).length):(bytes xs)[i]=[IV.sc (.int .u8 (xs[i]'(by simpa [bytes] using h)))]:=by simp [bytes]
@[simp] theorem bytes_emp (xs:List Int):(bytes xs).isEmpty=xs.isEmpty:=by cases xs <;> rfl
@[simp] theorem bytes_all1 (xs:List Int):((bytes xs).all fun x=>x.all IV.plain1)=true:=by
  induction xs with
  | nil=>rfl
  | cons x xs ih=>simp only [bytes,List.map_cons,List.all_cons] at *;rw [ih];rfl
@[simp] theorem bytes_all2 (xs:List Int):((bytes xs).all fun x=>x.all IV.isData)=true:=by
  induction xs with
  | nil=>rfl
  | cons x xs ih=>simp only [bytes,List.map_cons,List.all_cons] at *;rw [ih];rfl
@[simp] theorem bytes_noLst (xs:List Int):noLstLL (bytes xs)=true:=by
  induction xs with
  | nil=>rfl
  | cons x xs ih=>simp only [bytes,List.map_cons,noLstLL,noLstL,noLstV] at *;rw [ih];rfl
abbrev R (code:List Int) (c:Bool) (n:Int):List IV:=[.lst 1 (bytes code) c,I n]
end Go.Idl
namespace Go.Idl
open Go
def eds (xs:List (Int×Int)):List (List IV):=xs.map fun e=>[I e.1,I e.2]
abbrev L2 (xs:List (Int×Int)) (c:Bool:=false):IV:=.lst 2 (eds xs) c
abbrev O2 (xs:List (Int×Int)):IV:=.own 2 (eds xs)
@[simp] theorem eds_len (xs:List (Int×Int)):(eds xs).length=xs.length:=by simp [eds]
@[simp] theorem eds_nil:eds []=[]:=rfl
@[simp] theorem eds_take (xs:List (Int×Int)) (n:Nat):(eds xs).take n=eds (xs.take n):=by simp [eds,List.map_take]
@[simp] theorem eds_drop (xs:List (Int×Int)) (n:Nat):(eds xs).drop n=eds (xs.drop n):=by simp [eds,List.map_drop]
@[simp] theorem eds_app (xs ys:List (Int×Int)):eds xs++eds ys=eds (xs++ys):=by simp [eds]
@[simp] theorem eds_one (xs:List (Int×Int)) (a b:Int):eds xs++[[IV.sc (.int .i64 a),IV.sc (.int .i64 b)]]=eds (xs++[(a,b)]):=by simp [eds]
@[simp] theorem eds_get? (xs:List (Int×Int)) (i:Nat):(eds xs)[i]? = xs[i]?.map fun e=>[IV.sc (.int .i64 e.1),IV.sc (.int .i64 e.2)]:=by simp [eds]
@[simp] theorem eds_get (xs:List (Int×Int)) (i:Nat) (h:i < (eds xs).length):(eds xs)[i]=[IV.sc (.int .i64 (xs[i]'(by simpa [eds] using h)).1),IV.sc (.int .i64 (xs[i]'(by simpa [eds] using h)).2)]:=by simp [eds]
@[simp] theorem eds_emp (xs:List (Int×Int)):(eds xs).isEmpty=xs.isEmpty:=by cases xs <;> rfl
@[simp] theorem eds_set (xs:List (Int×Int)) (i:Nat) (a b:Int):(eds xs).set i [IV.sc (.int .i64 a),IV.sc (.int .i64 b)]=eds (xs.set i (a,b)):=by
  simp [eds,List.map_set]
@[simp] theorem eds_all1 (xs:List (Int×Int)):((eds xs).all fun x=>x.all IV.plain1)=true:=by
  induction xs with
  | nil=>rfl
  | cons x xs ih=>simp only [eds,List.map_cons,List.all_cons] at *;rw [ih];rfl
@[simp] theorem eds_all2 (xs:List (Int×Int)):((eds xs).all fun x=>x.all IV.isData)=true:=by
  induction xs with
  | nil=>rfl
  | cons x xs ih=>simp only [eds,List.map_cons,List.all_cons] at *;rw [ih];rfl
@[simp] theorem eds_noLst (xs:List (Int×Int)):noLstLL (eds xs)=true:=by
  induction xs with
  | nil=>rfl
  | cons x xs ih=>simp only [eds,List.map_cons,noLstLL,noLstL,noLstV] at *;rw [ih];rfl
@[simp] theorem frz_eds (xs:List (Int×Int)):frzLL (eds xs)=eds xs:=by
  induction xs with
  | nil=>rfl
  | cons x xs ih=>simp only [eds,List.map_cons,frzLL,frzL,frzV] at *;rw [ih]
def row (a b:Nat):Nat→List (Int×Int)
  | 0=>[]
  | m+1=>((a:Int),(b:Int))::row a (b+1) m
def prsF (a:Nat):Nat→List (Int×Int)
  | 0=>[]
  | m+1=>row a (a+1) m++prsF (a+1) m
def prs (n:Nat):List (Int×Int):=prsF 0 n
theorem row_len (a:Nat):∀ (m b:Nat),(row a b m).length=m
  | 0,b=>rfl
  | m+1,b=>by simp [row,row_len a m]
theorem prsF_len:∀ (m a:Nat),(prsF a m).length≤m * m
  | 0,a=>by simp [prsF]
  | m+1,a=>by
    have:=prsF_len m (a+1)
    have e:(m+1) * (m+1)=m * m+2 * m+1:=by rw [Nat.add_mul,Nat.mul_add];omega
    simp only [prsF,List.length_append,row_len]
    omega
abbrev Gr (n:Int) (es:List (Int×Int)) (c:Bool:=false):IV:=.agg [I n,L2 es c]
abbrev OG (n:Int) (es:List (Int×Int)):IV:=.agg [I n,O2 es]
def isE (a b:Int) (e:Int×Int):Bool:=decide (e.1=a) && decide (e.2=b) || decide (e.1=b) && decide (e.2=a)
def has (es:List (Int×Int)) (a b:Int):Bool:=es.any (isE a b)
end Go.Idl
namespace Go.Idl
theorem sumB {B:Int} (hB:0≤B):∀ {xs:List Int},(∀ x ∈ xs,0≤x∧x≤B)→0≤xs.sum∧xs.sum≤B * xs.length
  | [],_=>by simp
  | x::r,h=>by
    have h1:=h x (by simp)
    have h2:=sumB hB (xs:=r) (fun y hy=>h y (by simp [hy]))
    have e:B * ((x::r).length:Int)=B * r.length+B:=by
      rw [List.length_cons,Int.natCast_add,Int.mul_add];simp
    rw [List.sum_cons,e]
    omega
def least (xs:List Int):Int:=xs.foldl (fun n x=>min n x) 0
end Go.Idl
namespace Go.Idl
open Go
abbrev Z:IV:=.lst 0 [] true
def Few (xs:List Int):Prop:=xs.length≤7∧∀ x ∈ xs,0≤x∧x≤6
theorem Few.small {xs:List Int} (h:Few xs):SmallSum xs:=by
  refine ⟨by have:=h.1;omega,fun k=>?_⟩
  have h1:=sumB (B:=6) (by omega) (xs:=xs.take k) (fun x hx=>h.2 x (List.mem_of_mem_take hx))
  have h2:(xs.take k).length≤7:=by have:=h.1;simp;omega
  omega
theorem Few.take {xs:List Int} (h:Few xs) (k:Nat):Few (xs.take k):=⟨by have:=h.1;simp;omega,fun x hx=>h.2 x (List.mem_of_mem_take hx)⟩
theorem Few.drop {xs:List Int} (h:Few xs) (k:Nat):Few (xs.drop k):=⟨by have:=h.1;simp;omega,fun x hx=>h.2 x (List.mem_of_mem_drop hx)⟩
theorem Few.fall {xs:List Int} (h:Few xs):Few (fall xs):=⟨by rw [fall_len];exact h.1,fun x hx=>h.2 x (fall_mem.1 hx)⟩
theorem Few.sum {xs:List Int} (h:Few xs):0≤xs.sum∧xs.sum≤42:=by
  have h1:=sumB (B:=6) (by omega) h.2
  have:=h.1
  omega
def mapR (n:Nat) (g:Nat→Int):List Int:=(List.range n).map g
@[simp] theorem ints_rep (n:Nat):List.replicate n [IV.sc (.int .i64 0)]=ints (List.replicate n 0):=by simp [ints]
end Go.Idl
namespace Go.Idl
open Go
def EdgesIn (n:Nat) (es:List (Int×Int)):Prop:=∀ e ∈ es,0≤e.1∧e.1 < n∧0≤e.2∧e.2 < n
theorem prs_len {n:Nat} (hn:n≤7) {es:List (Int×Int)} (h:es.Sublist (prs n)):es.length≤49:=by
  have h1:=h.length_le
  have:=prsF_len n 0
  have h2:n * n≤7 * 7:=Nat.mul_le_mul hn hn
  simp only [prs] at h1;omega
def Low (B:Int) (d:List Int):Prop:=∀ x ∈ d,-B≤x∧x≤B
theorem Low.set {B:Int} {d:List Int} (h:Low B d) {i:Nat} {x:Int} (hx:-B≤x∧x≤B):Low B (d.set i x):=by
  intro y hy
  rcases List.mem_or_eq_of_mem_set hy with hy | rfl
  · exact h y hy
  · exact hx
theorem Low.app {B:Int} {d:List Int} (h:Low B d) {x:Int} (hx:-B≤x∧x≤B):Low B (d++[x]):=by
  intro y hy
  rcases List.mem_append.1 hy with hy | hy
  · exact h y hy
  · simp at hy;subst hy;exact hx
theorem Low.mono {B C:Int} {d:List Int} (h:Low B d) (hc:B≤C):Low C d:=fun x hx=>by have:=h x hx;omega
end Go.Idl
namespace Go.Idl
open Go
@[simp] theorem get_mid {α:Type} (A bs:List α) (x:α):(A++x::bs)[A.length]? = some x:=by simp
@[simp] theorem set_mid {α:Type} (A bs:List α) (x y:α):(A++x::bs).set A.length y=A++y::bs:=by
  rw [List.set_append_right _ _ (Nat.le_refl _)];simp
@[simp] theorem set_last {α:Type} (A:List α) (x y:α):(A++[x]).set A.length y=A++[y]:=set_mid A [] x y
end Go.Idl
namespace Go.Idl
open Go
def comp (d:List Int):List Int:=(List.range d.length).map fun k=>(d.length:Int) - 1 - d.getD k 0
end Go.Idl
namespace Go.Idl
open Go
def ahead (x y:List Int) (i m:Nat):Bool:=(List.range m).all fun j=>decide ((y.take (i+j+1)).sum≤(x.take (i+j+1)).sum)
end Go.Idl
namespace Go.Idl
open Go
def Fit (es:List (Int×Int)):Prop:=∀ e ∈ es,-9223372036854775808≤e.1∧e.1 < 9223372036854775808∧-9223372036854775808≤e.2∧e.2 < 9223372036854775808
def below (a b:Int×Int):Bool:=decide (a.1 < b.1) || (decide (a.1=b.1) && decide (a.2 < b.2))
def cmpE (a b:Int×Int):Int:=if a.1=b.1 then a.2 - b.2 else a.1 - b.1
theorem cmpE_below (a b:Int×Int):(decide (cmpE a b < 0))=below a b:=by
  unfold cmpE below
  rw [Bool.eq_iff_iff]
  simp only [decide_eq_true_eq,Bool.or_eq_true,Bool.and_eq_true]
  split <;> omega
theorem ev_compareEdges (a b:Int×Int) (ha:0≤a.1∧a.1 < 9223372036854775808∧0≤a.2∧a.2 < 9223372036854775808) (hb:0≤b.1∧b.1 < 9223372036854775808∧0≤b.2∧b.2 < 9223372036854775808) (M:List Boxes) :
    Ev tb zl32 [] [.agg [I a.1,I a.2],.agg [I b.1,I b.2]] M ⟨I (cmpE a b),[],M,[]⟩:=by
  have w1:IntKind.i64.wrap (a.1 - b.1)=a.1 - b.1:=wrap64 (by omega) (by omega)
  have w2:IntKind.i64.wrap (a.2 - b.2)=a.2 - b.2:=wrap64 (by omega) (by omega)
  by_cases h:a.1=b.1
  · refine call_of_wp zt32 rfl ?_
    repeat (first|apply wp_as|apply wp_ss|refine wr (by simp [h,w2];with_reducible rfl) ?_|refine wq (by simp [h,w2];with_reducible rfl) ?_|refine wt (by simpa [h,w2]) ?_|refine wf (by simpa [h,w2]) ?_|refine xt (by simpa [h,w2]) ?_|refine xf (by simpa [h,w2]) ?_|apply wp_bs|apply wp_b|refine wp_sr ?_|refine wp_sx ?_|refine wp_ret' ?_|refine wp_skip' ?_|refine wp_exit' ?_)
    simp [zi32,cmpE,h]
  · have h2:(a.1 != b.1)=true:=by simp [h]
    refine call_of_wp zt32 rfl ?_
    repeat (first|apply wp_as|apply wp_ss|refine wr (by simp [h,h2,w1];with_reducible rfl) ?_|refine wq (by simp [h,h2,w1];with_reducible rfl) ?_|refine wt (by simpa [h,h2,w1]) ?_|refine wf (by simpa [h,h2,w1]) ?_|refine xt (by simpa [h,h2,w1]) ?_|refine xf (by simpa [h,h2,w1]) ?_|apply wp_bs|apply wp_b|refine wp_sr ?_|refine wp_sx ?_|refine wp_ret' ?_|refine wp_skip' ?_|refine wp_exit' ?_)
    simp [zi32,cmpE,h]
theorem ev_edgeBelow (a b:Int×Int):Ev tb zl126 [] [.agg [I a.1,I a.2],.agg [I b.1,I b.2]] [] ⟨Bo (below a b),[],[],[]⟩:=by
  by_cases h1:a.1 < b.1
  · refine call_of_wp zt126 rfl ?_
    repeat (first|apply wp_as|apply wp_ss|refine wr (by simp [h1];with_reducible rfl) ?_|refine wq (by simp [h1];with_reducible rfl) ?_|refine wt (by simpa [h1]) ?_|refine wf (by simpa [h1]) ?_|refine xt (by simpa [h1]) ?_|refine xf (by simpa [h1]) ?_|apply wp_bs|apply wp_b|refine wp_sr ?_|refine wp_sx ?_|refine wp_ret' ?_|refine wp_skip' ?_|refine wp_exit' ?_)
    simp [zi126,below,h1]
  · by_cases h2:a.1=b.1
    · refine call_of_wp zt126 rfl ?_
      repeat (first|apply wp_as|apply wp_ss|refine wr (by simp [h1,h2];with_reducible rfl) ?_|refine wq (by simp [h1,h2];with_reducible rfl) ?_|refine wt (by simpa [h1,h2]) ?_|refine wf (by simpa [h1,h2]) ?_|refine xt (by simpa [h1,h2]) ?_|refine xf (by simpa [h1,h2]) ?_|apply wp_bs|apply wp_b|refine wp_sr ?_|refine wp_sx ?_|refine wp_ret' ?_|refine wp_skip' ?_|refine wp_exit' ?_)
      simp [zi126,below,h1,h2]
    · refine call_of_wp zt126 rfl ?_
      repeat (first|apply wp_as|apply wp_ss|refine wr (by simp [h1,h2];with_reducible rfl) ?_|refine wq (by simp [h1,h2];with_reducible rfl) ?_|refine wt (by simpa [h1,h2]) ?_|refine wf (by simpa [h1,h2]) ?_|refine xt (by simpa [h1,h2]) ?_|refine xf (by simpa [h1,h2]) ?_|apply wp_bs|apply wp_b|refine wp_sr ?_|refine wp_sx ?_|refine wp_ret' ?_|refine wp_skip' ?_|refine wp_exit' ?_)
      simp [zi126,below,h1,h2]
def okE (n:Int) (e:Int×Int):Bool:=decide (0≤e.1) && (decide (e.1 < e.2) && decide (e.2 < n))
def vEs (n:Int):Option (Int×Int)→List (Int×Int)→Bool
  | _,[]=>true
  | none,e::r=>okE n e && vEs n (some e) r
  | some q,e::r=>okE n e && (below q e && vEs n (some e) r)
def vGraph (n:Int) (es:List (Int×Int)):Bool:=vEs n none es && (decide (0≤n) && decide (n≤7))
theorem Fit.at {es:List (Int×Int)} (h:Fit es) {i:Nat} (hi:i < es.length):-9223372036854775808≤es[i].1∧es[i].1 < 9223372036854775808∧-9223372036854775808≤es[i].2∧es[i].2 < 9223372036854775808:=h _ (List.getElem_mem hi)
theorem validl (n:Int) (es:List (Int×Int)) (c:Bool) (hf:Fit es) (hl:es.length≤100000000):∀ (m i:Nat) (p:Option (Int×Int)) (bs:Boxes),i+m=es.length →
    (i=0∧p=none ∨ ∃ j,∃ h:j < es.length,i=j+1∧p=some es[j]∧0≤es[j].1∧0≤es[j].2) →
    wp tb (.loop z26l7) { T:=[(1,.bptr 0 0 0),(6,L2 es c),(7,I es.length),(8,I i)],loc:=[I n,L2 es c]::bs,M:=[] }
      (fun ex st=>(vEs n p (es.drop i)=true∧ex=.exit 0∧∃ bs',st={ T:=[(1,.bptr 0 0 0),(6,L2 es c),(7,I es.length),(8,I es.length),(9,Bo false)],loc:=[I n,L2 es c]::bs',M:=[] }) ∨
        (vEs n p (es.drop i)=false∧ex=.ret∧∃ bs',st={ T:=[(2,Bo false)],loc:=[I n,L2 es c]::bs',M:=[] })):=by
  intro m
  induction m with
  | zero =>
    intro i p bs hi hp
    have h3:i=es.length:=hi
    subst h3
    refine wp_loop ?_
    repeat (first|apply wp_as|apply wp_ss|refine wr (by simp;with_reducible rfl) ?_|refine wq (by simp;with_reducible rfl) ?_|refine wt (by simpa) ?_|refine wf (by simpa) ?_|refine xt (by simpa) ?_|refine xf (by simpa) ?_|apply wp_bs|apply wp_b|refine wp_sr ?_|refine wp_sx ?_|refine wp_ret' ?_|refine wp_skip' ?_|refine wp_exit' ?_)
    exact .inl ⟨by simp [vEs],rfl,bs,rfl⟩
  | succ m ih =>
    intro i p bs hi hp
    have hi2:i < es.length:=by omega
    have hd:es.drop i=es[i]::es.drop (i+1):=List.drop_eq_getElem_cons hi2
    have hfe:=hf.at hi2
    have w1:IntKind.i64.wrap ((i:Int)+1)=((i+1:Nat):Int):=wrapS (by omega)
    have bad:okE n es[i]=false→vEs n p (es.drop i)=false:=fun h=>by
      rw [hd];cases p <;> simp [vEs,h]
    by_cases h1:es[i].1 < 0
    · have hb:=bad (by simp [okE];omega)
      refine wp_loop ?_
      repeat (first|apply wp_as|apply wp_ss|refine wr (by simp [hi2,h1];with_reducible rfl) ?_|refine wq (by simp [hi2,h1];with_reducible rfl) ?_|refine wt (by simpa [hi2,h1]) ?_|refine wf (by simpa [hi2,h1]) ?_|refine xt (by simpa [hi2,h1]) ?_|refine xf (by simpa [hi2,h1]) ?_|apply wp_bs|apply wp_b|refine wp_sr ?_|refine wp_sx ?_|refine wp_ret' ?_|refine wp_skip' ?_|refine wp_exit' ?_)
      exact .inr ⟨hb,rfl,_,rfl⟩
    by_cases h2:es[i].2≤es[i].1
    · have hb:=bad (by simp [okE];omega)
      refine wp_loop ?_
      repeat (first|apply wp_as|apply wp_ss|refine wr (by simp [hi2,h1,h2];with_reducible rfl) ?_|refine wq (by simp [hi2,h1,h2];with_reducible rfl) ?_|refine wt (by simpa [hi2,h1,h2]) ?_|refine wf (by simpa [hi2,h1,h2]) ?_|refine xt (by simpa [hi2,h1,h2]) ?_|refine xf (by simpa [hi2,h1,h2]) ?_|apply wp_bs|apply wp_b|refine wp_sr ?_|refine wp_sx ?_|refine wp_ret' ?_|refine wp_skip' ?_|refine wp_exit' ?_)
      exact .inr ⟨hb,rfl,_,rfl⟩
    by_cases h3:n≤es[i].2
    · have hb:=bad (by simp [okE];omega)
      refine wp_loop ?_
      repeat (first|apply wp_as|apply wp_ss|refine wr (by simp [hi2,h1,h2,h3];with_reducible rfl) ?_|refine wq (by simp [hi2,h1,h2,h3];with_reducible rfl) ?_|refine wt (by simpa [hi2,h1,h2,h3]) ?_|refine wf (by simpa [hi2,h1,h2,h3]) ?_|refine xt (by simpa [hi2,h1,h2,h3]) ?_|refine xf (by simpa [hi2,h1,h2,h3]) ?_|apply wp_bs|apply wp_b|refine wp_sr ?_|refine wp_sx ?_|refine wp_ret' ?_|refine wp_skip' ?_|refine wp_exit' ?_)
      exact .inr ⟨hb,rfl,_,rfl⟩
    have hok:okE n es[i]=true:=by simp [okE];omega
    rcases hp with ⟨rfl,rfl⟩ | ⟨j,hj,rfl,rfl,q1,q2⟩
    · have hn:=ih 1 (some es[0]) (bs++[[I es[0].1,I es[0].2]]) (by omega) (.inr ⟨0,hi2,rfl,rfl,by omega,by omega⟩)
      rw [hd]
      simp only [vEs,hok,Bool.true_and]
      refine wp_loop ?_
      repeat (first|apply wp_as|apply wp_ss|refine wr (by simp [hi2,h1,h2,h3,show IntKind.i64.wrap (1:Int)=1 from rfl];with_reducible rfl) ?_|refine wq (by simp [hi2,h1,h2,h3,show IntKind.i64.wrap (1:Int)=1 from rfl];with_reducible rfl) ?_|refine wt (by simpa [hi2,h1,h2,h3,show IntKind.i64.wrap (1:Int)=1 from rfl]) ?_|refine wf (by simpa [hi2,h1,h2,h3,show IntKind.i64.wrap (1:Int)=1 from rfl]) ?_|refine xt (by simpa [hi2,h1,h2,h3,show IntKind.i64.wrap (1:Int)=1 from rfl]) ?_|refine xf (by simpa [hi2,h1,h2,h3,show IntKind.i64.wrap (1:Int)=1 from rfl]) ?_|apply wp_bs|apply wp_b|refine wp_sr ?_|refine wp_sx ?_|refine wp_ret' ?_|refine wp_skip' ?_|refine wp_exit' ?_)
      exact hn
    · have hfj:=hf.at hj
      have w2:IntKind.i64.wrap (j:Int)=(j:Int):=wrapN (by omega)
      have hj0:(0:Int) < (j:Int)+1:=by omega
      have hj1:(j:Int)+1 < (es.length:Int):=by omega
      have w3:IntKind.i64.wrap ((j:Int)+1+1)=((j+1+1:Nat):Int):=by rw [wrap64 (by omega) (by omega)];omega
      have e1:=ev_lim (ev_compareEdges es[j] es[j+1] ⟨q1,hfj.2.1,q2,hfj.2.2.2⟩ ⟨by omega,by omega,by omega,by omega⟩ [])
      have hcb:=cmpE_below es[j] es[j+1]
      rw [hd]
      simp only [vEs,hok,Bool.true_and,← hcb]
      by_cases h4:0≤cmpE es[j] es[j+1]
      · have h5:decide (cmpE es[j] es[j+1] < 0)=false:=decide_eq_false (by omega)
        rw [h5]
        refine wp_loop ?_
        repeat (first|apply wp_as|apply wp_ss|refine wr (by simp [hi2,hj,h1,h2,h3,w2,hj0,hj1,e1,h4];with_reducible rfl) ?_|refine wq (by simp [hi2,hj,h1,h2,h3,w2,hj0,hj1,e1,h4];with_reducible rfl) ?_|refine wt (by simpa [hi2,hj,h1,h2,h3,w2,hj0,hj1,e1,h4]) ?_|refine wf (by simpa [hi2,hj,h1,h2,h3,w2,hj0,hj1,e1,h4]) ?_|refine xt (by simpa [hi2,hj,h1,h2,h3,w2,hj0,hj1,e1,h4]) ?_|refine xf (by simpa [hi2,hj,h1,h2,h3,w2,hj0,hj1,e1,h4]) ?_|apply wp_bs|apply wp_b|refine wp_sr ?_|refine wp_sx ?_|refine wp_ret' ?_|refine wp_skip' ?_|refine wp_exit' ?_)
        exact .inr ⟨rfl,rfl,_,rfl⟩
      · have h5:decide (cmpE es[j] es[j+1] < 0)=true:=decide_eq_true (by omega)
        rw [h5]
        have hn:=ih (j+1+1) (some es[j+1]) (bs++[[I es[j+1].1,I es[j+1].2]]) (by omega) (.inr ⟨j+1,hi2,rfl,rfl,by omega,by omega⟩)
        simp only [Bool.true_and]
        refine wp_loop ?_
        repeat (first|apply wp_as|apply wp_ss|refine wr (by simp [hi2,hj,h1,h2,h3,w3,w2,hj0,hj1,e1,h4];with_reducible rfl) ?_|refine wq (by simp [hi2,hj,h1,h2,h3,w3,w2,hj0,hj1,e1,h4];with_reducible rfl) ?_|refine wt (by simpa [hi2,hj,h1,h2,h3,w3,w2,hj0,hj1,e1,h4]) ?_|refine wf (by simpa [hi2,hj,h1,h2,h3,w3,w2,hj0,hj1,e1,h4]) ?_|refine xt (by simpa [hi2,hj,h1,h2,h3,w3,w2,hj0,hj1,e1,h4]) ?_|refine xf (by simpa [hi2,hj,h1,h2,h3,w3,w2,hj0,hj1,e1,h4]) ?_|apply wp_bs|apply wp_b|refine wp_sr ?_|refine wp_sx ?_|refine wp_ret' ?_|refine wp_skip' ?_|refine wp_exit' ?_)
        exact hn
theorem ev_ValidGraph (n:Int) (es:List (Int×Int)) (c:Bool) (hf:Fit es) (hl:es.length≤100000000):Ev tb zl26 [] [Gr n es c] [] ⟨Bo (vGraph n es),[],[],[]⟩:=by
  have e1:=ev_lim (ev_in n 0 7)
  have hlo:=validl n es c hf hl es.length 0 none [] (by simp) (.inl ⟨rfl,rfl⟩)
  refine call_of_wp zt26 rfl ?_
  repeat (first|apply wp_as|apply wp_ss|refine wr (by simp;with_reducible rfl) ?_|refine wq (by simp;with_reducible rfl) ?_|refine wt (by simpa) ?_|refine wf (by simpa) ?_|refine xt (by simpa) ?_|refine xf (by simpa) ?_|apply wp_bs|apply wp_b|refine wp_sr ?_|refine wp_sx ?_|refine wp_ret' ?_|refine wp_skip' ?_|refine wp_exit' ?_)
  refine wp_imp hlo ?_
  rintro ex st (⟨hv,rfl,bs,rfl⟩ | ⟨hv,rfl,bs,rfl⟩)
  · try simp only [if_true]
    repeat (first|apply wp_as|apply wp_ss|refine wr (by simp [e1];with_reducible rfl) ?_|refine wq (by simp [e1];with_reducible rfl) ?_|refine wt (by simpa [e1]) ?_|refine wf (by simpa [e1]) ?_|refine xt (by simpa [e1]) ?_|refine xf (by simpa [e1]) ?_|apply wp_bs|apply wp_b|refine wp_sr ?_|refine wp_sx ?_|refine wp_ret' ?_|refine wp_skip' ?_|refine wp_exit' ?_)
    simp only [List.drop_zero] at hv
    simp [zi26,vGraph,hv]
  · simp only [List.drop_zero] at hv
    simp [zi26,vGraph,hv]
theorem svalidl (n:Int) (es:List (Int×Int)) (c:Bool) (hl:es.length≤100000000):∀ (m i:Nat) (p:Option (Int×Int)) (bs:Boxes),i+m=es.length →
    (i=0∧p=none ∨ ∃ j,∃ h:j < es.length,i=j+1∧p=some es[j]) →
    wp tb (.loop z145l7) { T:=[(1,.bptr 0 0 0),(3,I i)],loc:=[I n,L2 es c]::bs,M:=[] }
      (fun ex st=>(vEs n p (es.drop i)=true∧ex=.exit 0∧∃ bs',st={ T:=[(1,.bptr 0 0 0),(3,I es.length),(9,Bo false)],loc:=[I n,L2 es c]::bs',M:=[] }) ∨
        (vEs n p (es.drop i)=false∧ex=.ret∧∃ bs',st={ T:=[(2,Bo false)],loc:=[I n,L2 es c]::bs',M:=[] })):=by
  intro m
  induction m with
  | zero =>
    intro i p bs hi hp
    have h3:i=es.length:=hi
    subst h3
    refine wp_loop ?_
    repeat (first|apply wp_as|apply wp_ss|refine wr (by simp;with_reducible rfl) ?_|refine wq (by simp;with_reducible rfl) ?_|refine wt (by simpa) ?_|refine wf (by simpa) ?_|refine xt (by simpa) ?_|refine xf (by simpa) ?_|apply wp_bs|apply wp_b|refine wp_sr ?_|refine wp_sx ?_|refine wp_ret' ?_|refine wp_skip' ?_|refine wp_exit' ?_)
    exact .inl ⟨by simp [vEs],rfl,bs,rfl⟩
  | succ m ih =>
    intro i p bs hi hp
    have hi2:i < es.length:=by omega
    have hd:es.drop i=es[i]::es.drop (i+1):=List.drop_eq_getElem_cons hi2
    have w1:IntKind.i64.wrap ((i:Int)+1)=((i+1:Nat):Int):=wrapS (by omega)
    have bad:okE n es[i]=false→vEs n p (es.drop i)=false:=fun h=>by
      rw [hd];cases p <;> simp [vEs,h]
    by_cases h1:es[i].1 < 0
    · have hb:=bad (by simp [okE];omega)
      refine wp_loop ?_
      repeat (first|apply wp_as|apply wp_ss|refine wr (by simp [hi2,h1];with_reducible rfl) ?_|refine wq (by simp [hi2,h1];with_reducible rfl) ?_|refine wt (by simpa [hi2,h1]) ?_|refine wf (by simpa [hi2,h1]) ?_|refine xt (by simpa [hi2,h1]) ?_|refine xf (by simpa [hi2,h1]) ?_|apply wp_bs|apply wp_b|refine wp_sr ?_|refine wp_sx ?_|refine wp_ret' ?_|refine wp_skip' ?_|refine wp_exit' ?_)
      exact .inr ⟨hb,rfl,_,rfl⟩
    by_cases h2:es[i].2≤es[i].1
    · have hb:=bad (by simp [okE];omega)
      refine wp_loop ?_
      repeat (first|apply wp_as|apply wp_ss|refine wr (by simp [hi2,h1,h2];with_reducible rfl) ?_|refine wq (by simp [hi2,h1,h2];with_reducible rfl) ?_|refine wt (by simpa [hi2,h1,h2]) ?_|refine wf (by simpa [hi2,h1,h2]) ?_|refine xt (by simpa [hi2,h1,h2]) ?_|refine xf (by simpa [hi2,h1,h2]) ?_|apply wp_bs|apply wp_b|refine wp_sr ?_|refine wp_sx ?_|refine wp_ret' ?_|refine wp_skip' ?_|refine wp_exit' ?_)
      exact .inr ⟨hb,rfl,_,rfl⟩
    by_cases h3:n≤es[i].2
    · have hb:=bad (by simp [okE];omega)
      refine wp_loop ?_
      repeat (first|apply wp_as|apply wp_ss|refine wr (by simp [hi2,h1,h2,h3];with_reducible rfl) ?_|refine wq (by simp [hi2,h1,h2,h3];with_reducible rfl) ?_|refine wt (by simpa [hi2,h1,h2,h3]) ?_|refine wf (by simpa [hi2,h1,h2,h3]) ?_|refine xt (by simpa [hi2,h1,h2,h3]) ?_|refine xf (by simpa [hi2,h1,h2,h3]) ?_|apply wp_bs|apply wp_b|refine wp_sr ?_|refine wp_sx ?_|refine wp_ret' ?_|refine wp_skip' ?_|refine wp_exit' ?_)
      exact .inr ⟨hb,rfl,_,rfl⟩
    have hok:okE n es[i]=true:=by simp [okE];omega
    rcases hp with ⟨rfl,rfl⟩ | ⟨j,hj,rfl,rfl⟩
    · have hn:=ih 1 (some es[0]) (bs++[[I es[0].1,I es[0].2]]) (by omega) (.inr ⟨0,hi2,rfl,rfl⟩)
      rw [hd]
      simp only [vEs,hok,Bool.true_and]
      refine wp_loop ?_
      repeat (first|apply wp_as|apply wp_ss|refine wr (by simp [hi2,h1,h2,h3,show IntKind.i64.wrap (1:Int)=1 from rfl];with_reducible rfl) ?_|refine wq (by simp [hi2,h1,h2,h3,show IntKind.i64.wrap (1:Int)=1 from rfl];with_reducible rfl) ?_|refine wt (by simpa [hi2,h1,h2,h3,show IntKind.i64.wrap (1:Int)=1 from rfl]) ?_|refine wf (by simpa [hi2,h1,h2,h3,show IntKind.i64.wrap (1:Int)=1 from rfl]) ?_|refine xt (by simpa [hi2,h1,h2,h3,show IntKind.i64.wrap (1:Int)=1 from rfl]) ?_|refine xf (by simpa [hi2,h1,h2,h3,show IntKind.i64.wrap (1:Int)=1 from rfl]) ?_|apply wp_bs|apply wp_b|refine wp_sr ?_|refine wp_sx ?_|refine wp_ret' ?_|refine wp_skip' ?_|refine wp_exit' ?_)
      exact hn
    · have w2:IntKind.i64.wrap (j:Int)=(j:Int):=wrapN (by omega)
      have hj0:(0:Int) < (j:Int)+1:=by omega
      have hj1:(j:Int)+1 < (es.length:Int):=by omega
      have w3:IntKind.i64.wrap ((j:Int)+1+1)=((j+1+1:Nat):Int):=by rw [wrap64 (by omega) (by omega)];omega
      have e1:=ev_lim (ev_edgeBelow es[j] es[j+1])
      rw [hd]
      simp only [vEs,hok,Bool.true_and]
      cases h4:below es[j] es[j+1] with
      | false =>
        refine wp_loop ?_
        repeat (first|apply wp_as|apply wp_ss|refine wr (by simp [hi2,hj,h1,h2,h3,w2,hj0,hj1,e1,h4];with_reducible rfl) ?_|refine wq (by simp [hi2,hj,h1,h2,h3,w2,hj0,hj1,e1,h4];with_reducible rfl) ?_|refine wt (by simpa [hi2,hj,h1,h2,h3,w2,hj0,hj1,e1,h4]) ?_|refine wf (by simpa [hi2,hj,h1,h2,h3,w2,hj0,hj1,e1,h4]) ?_|refine xt (by simpa [hi2,hj,h1,h2,h3,w2,hj0,hj1,e1,h4]) ?_|refine xf (by simpa [hi2,hj,h1,h2,h3,w2,hj0,hj1,e1,h4]) ?_|apply wp_bs|apply wp_b|refine wp_sr ?_|refine wp_sx ?_|refine wp_ret' ?_|refine wp_skip' ?_|refine wp_exit' ?_)
        exact .inr ⟨rfl,rfl,_,rfl⟩
      | true =>
        have hn:=ih (j+1+1) (some es[j+1]) (bs++[[I es[j+1].1,I es[j+1].2]]) (by omega) (.inr ⟨j+1,hi2,rfl,rfl⟩)
        simp only [Bool.true_and]
        refine wp_loop ?_
        repeat (first|apply wp_as|apply wp_ss|refine wr (by simp [hi2,hj,h1,h2,h3,w3,w2,hj0,hj1,e1,h4];with_reducible rfl) ?_|refine wq (by simp [hi2,hj,h1,h2,h3,w3,w2,hj0,hj1,e1,h4];with_reducible rfl) ?_|refine wt (by simpa [hi2,hj,h1,h2,h3,w3,w2,hj0,hj1,e1,h4]) ?_|refine wf (by simpa [hi2,hj,h1,h2,h3,w3,w2,hj0,hj1,e1,h4]) ?_|refine xt (by simpa [hi2,hj,h1,h2,h3,w3,w2,hj0,hj1,e1,h4]) ?_|refine xf (by simpa [hi2,hj,h1,h2,h3,w3,w2,hj0,hj1,e1,h4]) ?_|apply wp_bs|apply wp_b|refine wp_sr ?_|refine wp_sx ?_|refine wp_ret' ?_|refine wp_skip' ?_|refine wp_exit' ?_)
        exact hn
theorem ev_validGraph (n:Int) (es:List (Int×Int)) (c:Bool) (hl:es.length≤100000000):Ev tb zl145 [] [Gr n es c] [] ⟨Bo (vGraph n es),[],[],[]⟩:=by
  have e1:=ev_lim (ev_inRange n 0 7)
  have hlo:=svalidl n es c hl es.length 0 none [] (by simp) (.inl ⟨rfl,rfl⟩)
  refine call_of_wp zt145 rfl ?_
  repeat (first|apply wp_as|apply wp_ss|refine wr (by simp;with_reducible rfl) ?_|refine wq (by simp;with_reducible rfl) ?_|refine wt (by simpa) ?_|refine wf (by simpa) ?_|refine xt (by simpa) ?_|refine xf (by simpa) ?_|apply wp_bs|apply wp_b|refine wp_sr ?_|refine wp_sx ?_|refine wp_ret' ?_|refine wp_skip' ?_|refine wp_exit' ?_)
  refine wp_imp hlo ?_
  rintro ex st (⟨hv,rfl,bs,rfl⟩ | ⟨hv,rfl,bs,rfl⟩)
  · try simp only [if_true]
    repeat (first|apply wp_as|apply wp_ss|refine wr (by simp [e1];with_reducible rfl) ?_|refine wq (by simp [e1];with_reducible rfl) ?_|refine wt (by simpa [e1]) ?_|refine wf (by simpa [e1]) ?_|refine xt (by simpa [e1]) ?_|refine xf (by simpa [e1]) ?_|apply wp_bs|apply wp_b|refine wp_sr ?_|refine wp_sx ?_|refine wp_ret' ?_|refine wp_skip' ?_|refine wp_exit' ?_)
    simp only [List.drop_zero] at hv
    simp [zi145,vGraph,hv]
  · simp only [List.drop_zero] at hv
    simp [zi145,vGraph,hv]
end Go.Idl
namespace Go.Idl
open Go
def nl2:List (Int×Int)→IV
  | []=>Z
  | e::es=>O2 (e::es)
@[simp] theorem nl2_nil:nl2 []=Z:=rfl
@[simp] theorem nl2_cons (e:Int×Int) (es:List (Int×Int)):nl2 (e::es)=O2 (e::es):=rfl
theorem nl2_app (acc:List (Int×Int)) (e:Int×Int):nl2 (acc++[e])=O2 (acc++[e]):=by
  cases acc <;> rfl
end Go.Idl
namespace Go.Idl
open Go
theorem ev_Clip2 (xs:List (Int×Int)):Ev tb zl258 [] [O2 xs] [] ⟨O2 xs,[],[],[]⟩:=by
  refine call_of_wp zt258 rfl ?_
  repeat (first|apply wp_as|apply wp_ss|refine wr (by simp;with_reducible rfl) ?_|refine wq (by simp;with_reducible rfl) ?_|refine wt (by simpa) ?_|refine wf (by simpa) ?_|refine xt (by simpa) ?_|refine xf (by simpa) ?_|apply wp_bs|apply wp_b|refine wp_sr ?_|refine wp_sx ?_|refine wp_ret' ?_|refine wp_skip' ?_|refine wp_exit' ?_)
  simp [zi258]
end Go.Idl
namespace Go.Idl
open Go
theorem vEs_in (n:Int):∀ (p:Option (Int×Int)) (es:List (Int×Int)),vEs n p es=true→∀ e ∈ es,okE n e=true
  | _,[],_=>by simp
  | none,e::r,h=>by
    simp only [vEs,Bool.and_eq_true] at h
    intro x hx
    rcases List.mem_cons.1 hx with rfl | hx
    · exact h.1
    · exact vEs_in n _ r h.2 x hx
  | some q,e::r,h=>by
    simp only [vEs,Bool.and_eq_true] at h
    intro x hx
    rcases List.mem_cons.1 hx with rfl | hx
    · exact h.1
    · exact vEs_in n _ r h.2.2 x hx
theorem vG_edges {n:Int} {es:List (Int×Int)} (h:vGraph n es=true):∀ e ∈ es,0≤e.1∧e.1 < e.2∧e.2 < n:=by
  simp only [vGraph,Bool.and_eq_true] at h
  intro e he
  have:=vEs_in n none es h.1 e he
  simpa [okE] using this
theorem vG_in {n:Nat} {es:List (Int×Int)} (h:vGraph n es=true):EdgesIn n es:=fun e he=>by
  have:=vG_edges h e he;omega
theorem vG_n {n:Int} {es:List (Int×Int)} (h:vGraph n es=true):0≤n∧n≤7:=by
  simp only [vGraph,Bool.and_eq_true,decide_eq_true_eq] at h;omega
end Go.Idl
namespace Go.Idl
open Go
def tab (t:List (List Int)):List (List IV):=t.map fun r=>[.lst 1 (ints r) false]
def oab (t:List (List Int)):List (List IV):=t.map fun r=>[.own 1 (ints r)]
@[simp] theorem tab_len (t:List (List Int)):(tab t).length=t.length:=by simp [tab]
@[simp] theorem oab_len (t:List (List Int)):(oab t).length=t.length:=by simp [oab]
@[simp] theorem oab_nil:oab []=[]:=rfl
@[simp] theorem tab_get? (t:List (List Int)) (i:Nat):(tab t)[i]? = t[i]?.map fun r=>[IV.lst 1 (ints r) false]:=by simp [tab]
@[simp] theorem tab_get (t:List (List Int)) (i:Nat) (h:i < (tab t).length):(tab t)[i]=[IV.lst 1 (ints (t[i]'(by simpa [tab] using h))) false]:=by simp [tab]
@[simp] theorem oab_get? (t:List (List Int)) (i:Nat):(oab t)[i]? = t[i]?.map fun r=>[IV.own 1 (ints r)]:=by simp [oab]
@[simp] theorem oab_get (t:List (List Int)) (i:Nat) (h:i < (oab t).length):(oab t)[i]=[IV.own 1 (ints (t[i]'(by simpa [oab] using h)))]:=by simp [oab]
@[simp] theorem oab_one (t:List (List Int)) (r:List Int):oab t++[[IV.own 1 (ints r)]]=oab (t++[r]):=by simp [oab]
@[simp] theorem oab_set (t:List (List Int)) (i:Nat) (r:List Int):(oab t).set i [IV.own 1 (ints r)]=oab (t.set i r):=by simp [oab,List.map_set]
@[simp] theorem oab_take (t:List (List Int)) (n:Nat):(oab t).take n=oab (t.take n):=by simp [oab,List.map_take]
@[simp] theorem frz_oab (t:List (List Int)):frzLL (oab t)=tab t:=by
  induction t with
  | nil=>rfl
  | cons x xs ih =>
    simp only [oab,tab,List.map_cons,frzLL,frzL,frzV] at *
    rw [ih]
    have:frzLL (ints x)=ints x:=by
      clear ih
      induction x with
      | nil=>rfl
      | cons y ys ih=>simp only [ints,List.map_cons,frzLL,frzL,frzV] at *;rw [ih]
    rw [this]
@[simp] theorem tab_all1 (t:List (List Int)):((tab t).all fun x=>x.all IV.plain1)=true:=by
  induction t with
  | nil=>rfl
  | cons x xs ih=>simp only [tab,List.map_cons,List.all_cons] at *;rw [ih];rfl
@[simp] theorem oab_noLst (t:List (List Int)):noLstLL (oab t)=true:=by
  induction t with
  | nil=>rfl
  | cons x xs ih =>
    simp only [oab,List.map_cons,noLstLL,noLstL,noLstV] at *
    rw [ih,ints_noLst];rfl
def g2 (t:List (List Int)) (a b:Nat):Int:=(t.getD a []).getD b 0
end Go.Idl
namespace Go.Idl
open Go
def asc0 (s:List Int):List Int:=(fall s).reverse
def overT (s:List Int) (i:Nat):Int:=((asc0 s).take (i+1)).sum - ((i:Int)+1) * i / 2
def over (s:List Int):List Int:=mapR s.length (overT s)
end Go.Idl
namespace Go.Idl
open Go
theorem sum01 (r:List Int) (h:∀ x ∈ r,0≤x∧x≤1):0≤r.sum∧r.sum≤r.length:=by
  induction r with
  | nil=>simp
  | cons x xs ih =>
    have h1:=h x (by simp)
    have h2:=ih fun y hy=>h y (by simp [hy])
    simp only [List.sum_cons,List.length_cons];omega
end Go.Idl
namespace Go.Idl
def S {α:Type} (l:List α) (f:α→Int):Int:=(l.map f).sum
@[simp] theorem S_nil {α:Type} (f:α→Int):S [] f=0:=rfl
@[simp] theorem S_cons {α:Type} (a:α) (l:List α) (f:α→Int):S (a::l) f=f a+S l f:=by simp [S]
theorem below_iff (a b:Int×Int):below a b=true ↔ a.1 < b.1 ∨ (a.1=b.1∧a.2 < b.2):=by simp [below]
theorem below_trans {a b c:Int×Int} (h:below a b=true) (k:below b c=true):below a c=true:=by
  rw [below_iff] at *;omega
theorem below_ne {a b:Int×Int} (h:below a b=true):a ≠ b:=by
  rintro rfl;rw [below_iff] at h;omega
abbrev PW (es:List (Int×Int)):Prop:=es.Pairwise fun a b=>below a b=true
theorem vEs_pw (n:Int):∀ (p:Option (Int×Int)) (es:List (Int×Int)),vEs n p es=true→PW es∧(∀ q,p=some q→∀ e ∈ es,below q e=true)
  | p,[],_=>⟨.nil,by simp⟩
  | none,e::r,h=>by
    simp only [vEs,Bool.and_eq_true] at h
    obtain ⟨h1,h2⟩:=vEs_pw n (some e) r h.2
    exact ⟨List.pairwise_cons.2 ⟨h2 e rfl,h1⟩,by simp⟩
  | some q,e::r,h=>by
    simp only [vEs,Bool.and_eq_true] at h
    obtain ⟨h1,h2⟩:=vEs_pw n (some e) r h.2.2
    refine ⟨List.pairwise_cons.2 ⟨h2 e rfl,h1⟩,fun q' hq' x hx=>?_⟩
    cases hq'
    rcases List.mem_cons.1 hx with rfl | hx
    · exact h.2.1
    · exact below_trans h.2.1 (h2 e rfl x hx)
theorem pw_vEs (n:Int):∀ (p:Option (Int×Int)) (es:List (Int×Int)),PW es→(∀ q,p=some q→∀ e ∈ es,below q e=true)→(∀ e ∈ es,okE n e=true)→vEs n p es=true
  | p,[],_,_,_=>by cases p <;> rfl
  | none,e::r,h,_,ho=>by
    have h':=List.pairwise_cons.1 h
    simp only [vEs,Bool.and_eq_true]
    exact ⟨ho e (by simp),pw_vEs n (some e) r h'.2 (fun q hq x hx=>by cases hq;exact h'.1 x hx) fun x hx=>ho x (by simp [hx])⟩
  | some q,e::r,h,hq,ho=>by
    have h':=List.pairwise_cons.1 h
    simp only [vEs,Bool.and_eq_true]
    exact ⟨ho e (by simp),hq q rfl e (by simp),pw_vEs n (some e) r h'.2 (fun q hq x hx=>by cases hq;exact h'.1 x hx) fun x hx=>ho x (by simp [hx])⟩
theorem row_mem_iff (a:Nat):∀ (m b:Nat) (e:Int×Int),e ∈ row a b m ↔ e.1=a∧(b:Int)≤e.2∧e.2 < b+m
  | 0,b,e=>by simp [row] <;> omega
  | m+1,b,e=>by
    rw [row,List.mem_cons,row_mem_iff a m (b+1) e]
    constructor
    · rintro (rfl | h)
      · simp;omega
      · omega
    · intro h
      by_cases h2:e.2=b
      · exact .inl (Prod.ext h.1 h2)
      · exact .inr (by omega)
theorem prsF_mem_iff:∀ (m a:Nat) (e:Int×Int),e ∈ prsF a m ↔ (a:Int)≤e.1∧e.1 < e.2∧e.2 < a+m
  | 0,a,e=>by simp [prsF];omega
  | m+1,a,e=>by
    rw [prsF,List.mem_append,row_mem_iff,prsF_mem_iff m (a+1) e]
    omega
theorem mem_prs {n:Nat} {e:Int×Int}:e ∈ prs n ↔ 0≤e.1∧e.1 < e.2∧e.2 < n:=by
  rw [prs,prsF_mem_iff];omega
theorem row_pw (a:Nat):∀ (m b:Nat),PW (row a b m)
  | 0,b=>.nil
  | m+1,b=>by
    rw [row]
    refine List.pairwise_cons.2 ⟨fun e he=>?_,row_pw a m (b+1)⟩
    rw [row_mem_iff] at he
    rw [below_iff];simp only;omega
theorem prsF_pw:∀ (m a:Nat),PW (prsF a m)
  | 0,a=>.nil
  | m+1,a=>by
    rw [prsF]
    refine List.pairwise_append.2 ⟨row_pw a m (a+1),prsF_pw m (a+1),fun x hx y hy=>?_⟩
    rw [row_mem_iff] at hx
    rw [prsF_mem_iff] at hy
    rw [below_iff];omega
theorem prs_pw (n:Nat):PW (prs n):=prsF_pw n 0
theorem pw_nodup {es:List (Int×Int)} (h:PW es):es.Nodup:=h.imp fun h=>below_ne h
theorem pw_ext {xs ys:List (Int×Int)} (hx:PW xs) (hy:PW ys) (h:∀ e,e ∈ xs ↔ e ∈ ys):xs=ys:=by
  refine List.Perm.eq_of_pairwise (le:=fun a b=>below a b=true) (fun a b _ _ h1 h2=>absurd (below_trans h1 h2) (fun h=>below_ne h rfl)) hx hy ?_
  exact (List.perm_ext_iff_of_nodup (pw_nodup hx) (pw_nodup hy)).2 h
theorem vG_iff {n:Nat} {es:List (Int×Int)}:vGraph n es=true ↔ PW es∧(∀ e ∈ es,e ∈ prs n)∧n≤7:=by
  constructor
  · intro h
    have h1:=vG_n h
    have h2:=vG_edges h
    simp only [vGraph,Bool.and_eq_true] at h
    exact ⟨(vEs_pw n none es h.1).1,fun e he=>mem_prs.2 (h2 e he),by omega⟩
  · rintro ⟨h1,h2,h3⟩
    simp only [vGraph,Bool.and_eq_true,decide_eq_true_eq]
    refine ⟨pw_vEs n none es h1 (by simp) fun e he=>?_,by omega,by omega⟩
    have:=mem_prs.1 (h2 e he)
    simp only [okE,Bool.and_eq_true,decide_eq_true_eq];omega
theorem vG_filter {n:Nat} {es:List (Int×Int)} (h:vGraph n es=true):es=(prs n).filter fun e=>decide (e ∈ es):=by
  obtain ⟨h1,h2,h3⟩:=vG_iff.1 h
  refine pw_ext h1 ((prs_pw n).filter _) fun e=>?_
  rw [List.mem_filter,decide_eq_true_eq]
  exact ⟨fun he=>⟨h2 e he,he⟩,fun he=>he.2⟩
end Go.Idl
namespace Go.Idl
open Go
abbrev Str (s:ByteArray):IV:=.sc (.string s)
def strs (l:List ByteArray):List (List IV):=l.map fun s=>[Str s]
@[simp] theorem strs_len (l:List ByteArray):(strs l).length=l.length:=by simp [strs]
@[simp] theorem strs_get (l:List ByteArray) (i:Nat) (h:i < (strs l).length):(strs l)[i]=[IV.sc (.string (l[i]'(by simpa [strs] using h)))]:=by simp [strs]
@[simp] theorem strs_get? (l:List ByteArray) (i:Nat):(strs l)[i]? = l[i]?.map fun s=>[IV.sc (.string s)]:=by simp [strs]
end Go.Idl
namespace Go.Idl
open Go
def decAt (o:List Int) (i:Nat):List Int:=o.set i (o.getD i 0 - 1)
def subs:List (Int×Int)→List Int→List (Int×Int)→List (List (Int×Int))
  | [],left,chosen=>if left.all (fun x=>decide (x=0)) then [chosen] else []
  | e::r,left,chosen =>
    (if 0 < left.getD e.1.toNat 0∧0 < left.getD e.2.toNat 0 then subs r (decAt (decAt left e.1.toNat) e.2.toNat) (chosen++[e]) else [])++subs r left chosen
theorem ev_Clone2 (e0:Nat) (es:List (Int×Int)) (c:Bool) (he0:e0=2 ∨ es=[]) (hl:es.length≤2000000):Ev tb zl261 [] [.lst e0 (eds es) c] [] ⟨O2 es,[],[],[]⟩:=by
  rcases he0 with rfl | rfl
  · refine call_of_wp zt261 rfl ?_
    refine wp_rs (by simp;rfl) (by simp;rfl) ?_
    refine wp_nil2 (b:=es.isEmpty) (by simp [z261r1];rfl) (by simp) ?_ ?_ ?_ (ex:=.ret) (st':={ T:=[(2,.own 2 (eds es))],loc:=[],M:=[] })
    · refine wp_ct (t:=false) (by simp) (by simp) fun _=>wp_ss ?_
      refine wp_rs (by simp [show es.length≤274877906944 by omega];rfl) (by simp;rfl) ?_
      refine wp_ret' ?_
      simp
    · intro he
      have:es=[]:=by simpa using he
      subst this
      refine wp_ct (t:=true) (by simp) (fun _=>wp_as ?_) (by simp)
      refine wp_rs (by simp;rfl) (by simp;rfl) ?_
      refine wp_sr ?_
      simp
    · simp [zi261]
  · refine call_of_wp zt261 rfl ?_
    refine wp_rs (by simp;rfl) (by simp;rfl) ?_
    refine wp_nil2 (b:=([]:List (Int×Int)).isEmpty) (by simp [z261r1];rfl) (by simp) ?_ ?_ ?_ (ex:=.ret) (st':={ T:=[(2,.own 2 (eds ([]:List (Int×Int))))],loc:=[],M:=[] })
    · refine wp_ct (t:=false) (by simp) (by simp) fun _=>wp_ss ?_
      refine wp_rs (by simp;rfl) (by simp;rfl) ?_
      refine wp_ret' ?_
      simp
    · intro he
      refine wp_ct (t:=true) (by simp) (fun _=>wp_as ?_) (by simp)
      refine wp_rs (by simp;rfl) (by simp;rfl) ?_
      refine wp_sr ?_
      simp
    · simp [zi261]
theorem ev_clone2 (e0:Nat) (es:List (Int×Int)) (c:Bool) (he0:e0=2 ∨ es=[]) (hl:es.length≤2000000):Ev tb zl204 [] [.lst e0 (eds es) c] [] ⟨O2 es,[],[],[]⟩:=by
  have e1:=ev_lim (ev_Clone2 e0 es c he0 hl)
  have e2:=ev_lim (ev_Clip2 es)
  refine call_of_wp zt204 rfl ?_
  repeat (first|apply wp_as|apply wp_ss|refine wr (by simp [e1,e2];with_reducible rfl) ?_|refine wq (by simp [e1,e2];with_reducible rfl) ?_|refine wt (by simpa [e1,e2]) ?_|refine wf (by simpa [e1,e2]) ?_|refine xt (by simpa [e1,e2]) ?_|refine xf (by simpa [e1,e2]) ?_|apply wp_bs|apply wp_b|refine wp_sr ?_|refine wp_sx ?_|refine wp_ret' ?_|refine wp_skip' ?_|refine wp_exit' ?_)
  simp [zi204]
end Go.Idl
namespace Go.Idl
open Go
abbrev SB (l:List UInt8):IV:=.sc (.string ⟨l.toArray⟩)
theorem bs_app (a b:List UInt8):(⟨a.toArray⟩:ByteArray)++⟨b.toArray⟩=⟨(a++b).toArray⟩:=by
  ext1
  simp [ByteArray.data_append]
theorem bs_size (a:List UInt8):(⟨a.toArray⟩:ByteArray).size=a.length:=rfl
theorem so_add {a b:List UInt8} (h:a.length+b.length≤4000000000):Op.stringOp .add ⟨a.toArray⟩ ⟨b.toArray⟩=Sem.pure (.string ⟨(a++b).toArray⟩):=by
  have hno:¬ ((((⟨a.toArray⟩:ByteArray).size+(⟨b.toArray⟩:ByteArray).size:Nat):Int) > IntKind.i64.max):=by
    rw [show IntKind.i64.max=9223372036854775807 from rfl,bs_size,bs_size];omega
  unfold Op.stringOp
  simp only [if_neg hno,bs_app];rfl
theorem bs_inj {a b:ByteArray}:(a.toList == b.toList)=decide (a=b):=by
  rw [Go.Lib.toList_data,Go.Lib.toList_data]
  by_cases h:a=b
  · subst h;simp
  · rw [decide_eq_false h,beq_eq_false_iff_ne]
    intro hc
    apply h
    cases a with | mk a=>cases b with | mk b =>
    congr 1
    exact Array.toList_inj.1 hc
theorem so_eql (a b:ByteArray):Op.stringOp .eql a b=Sem.pure (.bool (decide (a=b))):=by
  unfold Op.stringOp
  simp only [bs_inj];rfl
theorem so_neq (a b:ByteArray):Op.stringOp .neq a b=Sem.pure (.bool (!decide (a=b))):=by
  unfold Op.stringOp
  simp only [bs_inj];rfl
@[simp] theorem frzLL_strs:∀ (l:List ByteArray),frzLL (strs l)=strs l
  | []=>rfl
  | s::l=>by
    show [Str s]::frzLL (strs l)=[Str s]::strs l
    rw [frzLL_strs l]
@[simp] theorem noLstLL_strs:∀ (l:List ByteArray),noLstLL (strs l)=true
  | []=>rfl
  | s::l=>by
    show (noLstL [Str s] && noLstLL (strs l))=true
    rw [noLstLL_strs l];rfl
def dgt (x:Int):UInt8:=UInt8.ofNat (48+x.toNat)
theorem extDigs_ints:∀ {xs:List Int},(∀ x ∈ xs,0≤x∧x < 10)→extDigs (ints xs)=some (xs.map dgt)
  | [],_=>rfl
  | x::xs,h=>by
    have h1:=h x (by simp)
    have h2:=extDigs_ints (xs:=xs) fun y hy=>h y (by simp [hy])
    show (if 0≤x∧x < 10 then _ else _)=_
    rw [if_pos h1]
    show (match extDigs (ints xs) with | some l=>some (UInt8.ofNat (48+x.toNat)::l) | none=>none)=_
    rw [h2];rfl
theorem wp_ext {g:List IV→Option IV} {st:St} {Q:Ex→St→Prop} {v:IV} (h:g (st.T.map (·.2))=some v) (q:Q .ret { st with T:=[(0,v)] }):wp tb (.ext g) st Q:=⟨v,h,q⟩
theorem ev_digits (xs:List Int) (c:Bool) (hl:xs.length≤1000) (h:∀ x ∈ xs,0≤x∧x < 10):Ev tb zl208 [] [L xs c] [] ⟨SB (xs.map dgt),[],[],[]⟩:=by
  refine call_of_wp zt208 rfl ?_
  refine wp_ext (g:=ext_impl_digits) (v:=SB (xs.map dgt)) ?_ ⟨.inr rfl,?_⟩
  · show ext_impl_digits [.lst 1 (ints xs) c]=_
    rw [ext_impl_digits,if_pos (by simpa using hl),extDigs_ints h]
  · simp [finish,zi208,zi399]
theorem extStrs_strs:∀ (l:List ByteArray),extStrs (strs l)=some l
  | []=>rfl
  | s::l=>by
    show (match extStrs (strs l) with | some l=>some (s::l) | none=>none)=_
    rw [extStrs_strs l]
theorem ev_Join (l:List (List UInt8)) (sep:List UInt8) (c:Bool) (hl:l.length≤1000000) (h:(joinL sep l).length≤1000000000) :
    Ev tb zl399 [] [.lst 1 (strs (l.map fun x=>⟨x.toArray⟩)) c,SB sep] [] ⟨SB (joinL sep l),[],[],[]⟩:=by
  refine call_of_wp zt399 rfl ?_
  refine wp_ext (g:=ext_strings_Join) (v:=SB (joinL sep l)) ?_ ⟨.inr rfl,?_⟩
  · show ext_strings_Join [.lst 1 (strs (l.map fun x=>⟨x.toArray⟩)) c,SB sep]=_
    have hm:((l.map fun x=>(⟨x.toArray⟩:ByteArray)).map fun s=>s.data.toList)=l:=by
      rw [List.map_map]
      exact (List.map_congr_left fun _ _=>rfl).trans (List.map_id l)
    rw [ext_strings_Join,extStrs_strs]
    simp only [hm,List.length_map]
    rw [if_pos ⟨hl,h⟩]
  · simp [finish,zi208,zi399]
theorem ev_Join_Z (sep:List UInt8):Ev tb zl399 [] [Z,SB sep] [] ⟨SB [],[],[],[]⟩:=by
  refine call_of_wp zt399 rfl ?_
  refine wp_ext (g:=ext_strings_Join) (v:=SB []) rfl ⟨.inr rfl,?_⟩
  simp [finish,zi399]
theorem ev_digit (n:Nat) (hn:n≤9):Ev tb zl347 [] [I n] [] ⟨SB [dgt n],[],[],[]⟩:=by
  have w1:IntKind.i64.wrap ((n:Int)+1)=((n+1:Nat):Int):=wrapS (by omega)
  have hx:(⟨#[48,49,50,51,52,53,54,55,56,57]⟩:ByteArray).extract n (n+1)=⟨[dgt n].toArray⟩:=by
    match n,hn with
    | 0,_=>rfl
    | 1,_=>rfl
    | 2,_=>rfl
    | 3,_=>rfl
    | 4,_=>rfl
    | 5,_=>rfl
    | 6,_=>rfl
    | 7,_=>rfl
    | 8,_=>rfl
    | 9,_=>rfl
  refine call_of_wp zt347 rfl ?_
  have hs:(⟨#[48,49,50,51,52,53,54,55,56,57]⟩:ByteArray).size=10:=rfl
  have hn':n+1≤10:=by omega
  repeat (first|apply wp_as|apply wp_ss|refine wr (by simp [w1,hx,hs,hn,hn'];with_reducible rfl) ?_|refine wq (by simp [w1,hx,hs,hn,hn'];with_reducible rfl) ?_|refine wt (by simpa [w1,hx,hs,hn,hn']) ?_|refine wf (by simpa [w1,hx,hs,hn,hn']) ?_|refine xt (by simpa [w1,hx,hs,hn,hn']) ?_|refine xf (by simpa [w1,hx,hs,hn,hn']) ?_|apply wp_bs|apply wp_b|refine wp_sr ?_|refine wp_sx ?_|refine wp_ret' ?_|refine wp_skip' ?_|refine wp_exit' ?_)
  simp [zi347]
end Go.Idl
namespace Go.Idl
open Go
def nlI:List Int→IV
  | []=>Z
  | x::r=>O (x::r)
end Go.Idl
namespace Go.Idl
open Go
theorem nlI_snoc (A:List Int) (x:Int):nlI (A++[x])=O (A++[x]):=by cases A <;> rfl
theorem ev_ClipN (xs:List Int):Ev tb zl70 [] [nlI xs] [] ⟨nlI xs,[],[],[]⟩:=by
  cases xs with
  | nil =>
    simp only [nlI]
    refine call_of_wp zt70 rfl ?_
    repeat (first|apply wp_as|apply wp_ss|refine wr (by simp;with_reducible rfl) ?_|refine wq (by simp;with_reducible rfl) ?_|refine wt (by simpa) ?_|refine wf (by simpa) ?_|refine xt (by simpa) ?_|refine xf (by simpa) ?_|apply wp_bs|apply wp_b|refine wp_sr ?_|refine wp_sx ?_|refine wp_ret' ?_|refine wp_skip' ?_|refine wp_exit' ?_)
    simp [zi70]
  | cons s r =>
    simp only [nlI]
    exact ev_Clip (s::r)
theorem bs_get? (l:List UInt8) (i:Nat) (h:i < l.length):(⟨l.toArray⟩:ByteArray)[i]? = some l[i]:=by
  rw [getElem?_pos (⟨l.toArray⟩:ByteArray) i h];rfl
theorem bs_cut (l:List UInt8) (a b:Nat):(⟨l.toArray⟩:ByteArray).extract a b=⟨((l.drop a).take (b - a)).toArray⟩:=by
  ext1
  rw [ByteArray.data_extract]
  simp
def rdb (b:UInt8):Int:=if (b.toNat:Int) - 48 < 0 then 99 else (b.toNat:Int) - 48
theorem rdb_fit (b:UInt8):0≤rdb b∧rdb b≤255:=by
  have:=b.toNat_lt
  rw [rdb];split <;> omega
set_option maxHeartbeats 1000000 in
theorem ev_readDigits (l:List UInt8) (hl:l.length≤2000000):Ev tb zl217 [] [SB l] [] ⟨nlI (l.map rdb),[],[],[]⟩:=by
  have loop:∀ (m i:Nat),i+m=l.length→wp tb (.loop z217l10) { T:=[(0,SB l),(3,nlI ((l.take i).map rdb)),(7,I l.length),(8,I i)],loc:=[],M:=[] }
      (fun ex st=>ex=.exit 0∧st={ T:=[(0,SB l),(3,nlI (l.map rdb)),(7,I l.length),(8,I l.length),(9,Bo false)],loc:=[],M:=[] }):=by
    intro m
    induction m with
    | zero =>
      intro i hi
      have h3:i=l.length:=hi
      subst h3
      rw [List.take_length]
      cases l.map rdb with
      | nil =>
        rw [show nlI []=Z from rfl]
        refine wp_loop ?_
        repeat (first|apply wp_as|apply wp_ss|refine wr (by simp;with_reducible rfl) ?_|refine wq (by simp;with_reducible rfl) ?_|refine wt (by simpa) ?_|refine wf (by simpa) ?_|refine xt (by simpa) ?_|refine xf (by simpa) ?_|apply wp_bs|apply wp_b|refine wp_sr ?_|refine wp_sx ?_|refine wp_ret' ?_|refine wp_skip' ?_|refine wp_exit' ?_)
        exact ⟨rfl,rfl⟩
      | cons x r =>
        rw [show nlI (x::r)=O (x::r) from rfl]
        refine wp_loop ?_
        repeat (first|apply wp_as|apply wp_ss|refine wr (by simp;with_reducible rfl) ?_|refine wq (by simp;with_reducible rfl) ?_|refine wt (by simpa) ?_|refine wf (by simpa) ?_|refine xt (by simpa) ?_|refine xf (by simpa) ?_|apply wp_bs|apply wp_b|refine wp_sr ?_|refine wp_sx ?_|refine wp_ret' ?_|refine wp_skip' ?_|refine wp_exit' ?_)
        exact ⟨rfl,rfl⟩
    | succ m ih =>
      intro i hi
      have hi2:i < l.length:=by omega
      have w1:IntKind.i64.wrap ((i:Int)+1)=((i+1:Nat):Int):=wrapS (by omega)
      have hn:=ih (i+1) (by omega)
      rw [List.take_succ_eq_append_getElem hi2,List.map_append,List.map_cons,List.map_nil,nlI_snoc] at hn
      have g1:=bs_get? l i hi2
      have hb:=l[i].toNat_lt
      have w2:IntKind.i64.wrap (l[i].toNat:Int)=l[i].toNat:=wrap64 (by omega) (by omega)
      have w3:IntKind.i64.wrap ((l[i].toNat:Int) - 48)=(l[i].toNat:Int) - 48:=wrap64 (by omega) (by omega)
      have hr:rdb l[i]=if (l[i].toNat:Int) - 48 < 0 then 99 else (l[i].toNat:Int) - 48:=rfl
      have hA:((l.take i).map rdb).length=i:=by simp;omega
      have hlm:i+1≤274877906944:=by omega
      generalize hX:(l.take i).map rdb=A at *
      by_cases hneg:(l[i].toNat:Int) - 48 < 0
      · rw [if_pos hneg] at hr
        rw [hr] at hn
        cases A with
        | nil =>
          rw [show nlI []=Z from rfl]
          refine wp_loop ?_
          repeat (first|apply wp_as|apply wp_ss|refine wr (by simp [hi2,w1,w2,w3,g1,hneg];with_reducible rfl) ?_|refine wq (by simp [hi2,w1,w2,w3,g1,hneg];with_reducible rfl) ?_|refine wt (by simpa [hi2,w1,w2,w3,g1,hneg]) ?_|refine wf (by simpa [hi2,w1,w2,w3,g1,hneg]) ?_|refine xt (by simpa [hi2,w1,w2,w3,g1,hneg]) ?_|refine xf (by simpa [hi2,w1,w2,w3,g1,hneg]) ?_|apply wp_bs|apply wp_b|refine wp_sr ?_|refine wp_sx ?_|refine wp_ret' ?_|refine wp_skip' ?_|refine wp_exit' ?_)
          simp at hn
          exact hn
        | cons a A =>
          rw [show nlI (a::A)=O (a::A) from rfl]
          have htA:(a::A).take i=a::A:=List.take_of_length_le (by omega)
          generalize a::A=A at *
          refine wp_loop ?_
          repeat (first|apply wp_as|apply wp_ss|refine wr (by simp [hi2,w1,w2,w3,g1,hneg,hA,htA,hlm];with_reducible rfl) ?_|refine wq (by simp [hi2,w1,w2,w3,g1,hneg,hA,htA,hlm];with_reducible rfl) ?_|refine wt (by simpa [hi2,w1,w2,w3,g1,hneg,hA,htA,hlm]) ?_|refine wf (by simpa [hi2,w1,w2,w3,g1,hneg,hA,htA,hlm]) ?_|refine xt (by simpa [hi2,w1,w2,w3,g1,hneg,hA,htA,hlm]) ?_|refine xf (by simpa [hi2,w1,w2,w3,g1,hneg,hA,htA,hlm]) ?_|apply wp_bs|apply wp_b|refine wp_sr ?_|refine wp_sx ?_|refine wp_ret' ?_|refine wp_skip' ?_|refine wp_exit' ?_)
          simpa using hn
      · rw [if_neg hneg] at hr
        rw [hr] at hn
        cases A with
        | nil =>
          rw [show nlI []=Z from rfl]
          refine wp_loop ?_
          repeat (first|apply wp_as|apply wp_ss|refine wr (by simp [hi2,w1,w2,w3,g1,hneg];with_reducible rfl) ?_|refine wq (by simp [hi2,w1,w2,w3,g1,hneg];with_reducible rfl) ?_|refine wt (by simpa [hi2,w1,w2,w3,g1,hneg]) ?_|refine wf (by simpa [hi2,w1,w2,w3,g1,hneg]) ?_|refine xt (by simpa [hi2,w1,w2,w3,g1,hneg]) ?_|refine xf (by simpa [hi2,w1,w2,w3,g1,hneg]) ?_|apply wp_bs|apply wp_b|refine wp_sr ?_|refine wp_sx ?_|refine wp_ret' ?_|refine wp_skip' ?_|refine wp_exit' ?_)
          simp at hn
          exact hn
        | cons a A =>
          rw [show nlI (a::A)=O (a::A) from rfl]
          have htA:(a::A).take i=a::A:=List.take_of_length_le (by omega)
          generalize a::A=A at *
          refine wp_loop ?_
          repeat (first|apply wp_as|apply wp_ss|refine wr (by simp [hi2,w1,w2,w3,g1,hneg,hA,htA,hlm];with_reducible rfl) ?_|refine wq (by simp [hi2,w1,w2,w3,g1,hneg,hA,htA,hlm];with_reducible rfl) ?_|refine wt (by simpa [hi2,w1,w2,w3,g1,hneg,hA,htA,hlm]) ?_|refine wf (by simpa [hi2,w1,w2,w3,g1,hneg,hA,htA,hlm]) ?_|refine xt (by simpa [hi2,w1,w2,w3,g1,hneg,hA,htA,hlm]) ?_|refine xf (by simpa [hi2,w1,w2,w3,g1,hneg,hA,htA,hlm]) ?_|apply wp_bs|apply wp_b|refine wp_sr ?_|refine wp_sx ?_|refine wp_ret' ?_|refine wp_skip' ?_|refine wp_exit' ?_)
          simpa using hn
  have q:=loop l.length 0 (by omega)
  rw [List.take_zero,show ((0:Nat):Int)=0 from rfl,show nlI ([].map rdb)=Z from rfl] at q
  have e1:=ev_lim (ev_ClipN (l.map rdb))
  have hs:(⟨l.toArray⟩:ByteArray).size=l.length:=rfl
  refine call_of_wp zt217 rfl ?_
  repeat (first|apply wp_as|apply wp_ss|refine wr (by simp [hs];with_reducible rfl) ?_|refine wq (by simp [hs];with_reducible rfl) ?_|refine wt (by simpa [hs]) ?_|refine wf (by simpa [hs]) ?_|refine xt (by simpa [hs]) ?_|refine xf (by simpa [hs]) ?_|apply wp_bs|apply wp_b|refine wp_sr ?_|refine wp_sx ?_|refine wp_ret' ?_|refine wp_skip' ?_|refine wp_exit' ?_)
  refine wp_imp q ?_
  rintro ex st ⟨rfl,rfl⟩
  simp only [if_true]
  clear q loop
  generalize l.map rdb=D at *
  cases D with
  | nil =>
    rw [show nlI []=Z from rfl] at *
    repeat (first|apply wp_as|apply wp_ss|refine wr (by simp [e1];with_reducible rfl) ?_|refine wq (by simp [e1];with_reducible rfl) ?_|refine wt (by simpa [e1]) ?_|refine wf (by simpa [e1]) ?_|refine xt (by simpa [e1]) ?_|refine xf (by simpa [e1]) ?_|apply wp_bs|apply wp_b|refine wp_sr ?_|refine wp_sx ?_|refine wp_ret' ?_|refine wp_skip' ?_|refine wp_exit' ?_)
    simp [zi217]
  | cons x r =>
    rw [show nlI (x::r)=O (x::r) from rfl] at *
    repeat (first|apply wp_as|apply wp_ss|refine wr (by simp [e1];with_reducible rfl) ?_|refine wq (by simp [e1];with_reducible rfl) ?_|refine wt (by simpa [e1]) ?_|refine wf (by simpa [e1]) ?_|refine xt (by simpa [e1]) ?_|refine xf (by simpa [e1]) ?_|apply wp_bs|apply wp_b|refine wp_sr ?_|refine wp_sx ?_|refine wp_ret' ?_|refine wp_skip' ?_|refine wp_exit' ?_)
    simp [zi217]
end Go.Idl
namespace Go.Idl
open Go
def cutL (c:UInt8):List UInt8→Option (List UInt8×List UInt8)
  | []=>none
  | b::r=>if b=c then some ([],r) else match cutL c r with
    | some (x,y)=>some (b::x,y)
    | none=>none
def splL (c:UInt8):List UInt8→List (List UInt8)
  | []=>[[]]
  | b::r=>if b=c then []::splL c r else match splL c r with
    | p::q=>(b::p)::q
    | []=>[[b]]
theorem splL_ne (c:UInt8):∀ l,splL c l ≠ []
  | []=>by simp [splL]
  | b::r=>by
    rw [splL];split
    · simp
    · split <;> simp
theorem cutL_none {c:UInt8}:∀ {l:List UInt8},cutL c l=none→Go.Lib.indexByte l c=-1∧splL c l=[l]∧l.count c=0
  | [],_=>⟨rfl,rfl,rfl⟩
  | b::r,h=>by
    rw [cutL] at h
    split at h
    · cases h
    rename_i hb
    split at h
    · cases h
    rename_i hr
    obtain ⟨h1,h2,h3⟩:=cutL_none hr
    refine ⟨?_,?_,?_⟩
    · rw [Go.Lib.indexByte,if_neg (by simpa using hb),h1];rfl
    · rw [splL,if_neg hb,h2]
    · rw [List.count_cons,h3];simp [hb]
theorem cutL_some {c:UInt8}:∀ {l x y:List UInt8},cutL c l=some (x,y)→Go.Lib.indexByte l c=x.length∧splL c l=x::splL c y∧l.count c=y.count c+1∧l=x++c::y
  | [],x,y,h=>by cases h
  | b::r,x,y,h=>by
    rw [cutL] at h
    split at h
    · rename_i hb
      simp only [Option.some.injEq,Prod.mk.injEq] at h
      obtain ⟨rfl,rfl⟩:=h
      subst hb
      refine ⟨?_,?_,?_,rfl⟩
      · rw [Go.Lib.indexByte,if_pos (by simp)];rfl
      · rw [splL,if_pos rfl]
      · simp
    · rename_i hb
      split at h
      rotate_left
      · cases h
      rename_i x' y' hr
      simp only [Option.some.injEq,Prod.mk.injEq] at h
      obtain ⟨rfl,rfl⟩:=h
      obtain ⟨h1,h2,h3,h4⟩:=cutL_some hr
      refine ⟨?_,?_,?_,by rw [h4];rfl⟩
      · rw [Go.Lib.indexByte,if_neg (by simpa using hb),h1,if_neg (by simp)]
        simp only [List.length_cons,Int.natCast_add,Int.natCast_one]
      · rw [splL,if_neg hb,h2]
      · rw [List.count_cons,h3];simp [hb]
theorem ev_sIndex (l:List UInt8) (c:UInt8):Ev tb zl398 [] [SB l,SB [c]] [] ⟨I (Go.Lib.indexByte l c),[],[],[]⟩:=by
  refine call_of_wp zt398 rfl ?_
  refine wp_ext (g:=ext_strings_Index) (v:=I (Go.Lib.indexByte l c)) rfl ⟨.inr rfl,?_⟩
  simp [finish,zi398]
theorem ev_lIndex (l:List UInt8) (c:UInt8):Ev tb zl231 [] [SB l,SB [c]] [] ⟨I (Go.Lib.indexByte l c),[],[],[]⟩:=by
  refine call_of_wp zt231 rfl ?_
  refine wp_ext (g:=ext_internal_stringslite_Index) (v:=I (Go.Lib.indexByte l c)) rfl ⟨.inr rfl,?_⟩
  simp [finish,zi231]
theorem ev_sCount (l:List UInt8) (c:UInt8):Ev tb zl396 [] [SB l,SB [c]] [] ⟨I (l.count c),[],[],[]⟩:=by
  refine call_of_wp zt396 rfl ?_
  refine wp_ext (g:=ext_strings_Count) (v:=I (l.count c)) rfl ⟨.inr rfl,?_⟩
  simp [finish,zi396]
def cutV (l:List UInt8):Option (List UInt8×List UInt8)→IV
  | some (x,y)=>.tup [SB x,SB y,Bo true]
  | none=>.tup [SB l,SB [],Bo false]
theorem ev_lCut (l:List UInt8) (c:UInt8) (hl:l.length≤4000000):Ev tb zl230 [] [SB l,SB [c]] [] ⟨cutV l (cutL c l),[],[],[]⟩:=by
  have e1:=ev_lim (ev_lIndex l c)
  cases hc:cutL c l with
  | none =>
    rw [(cutL_none hc).1] at e1
    refine call_of_wp zt230 rfl ?_
    repeat (first|apply wp_as|apply wp_ss|refine wr (by simp [e1];with_reducible rfl) ?_|refine wq (by simp [e1];with_reducible rfl) ?_|refine wt (by simpa [e1]) ?_|refine wf (by simpa [e1]) ?_|refine xt (by simpa [e1]) ?_|refine xf (by simpa [e1]) ?_|apply wp_bs|apply wp_b|refine wp_sr ?_|refine wp_sx ?_|refine wp_ret' ?_|refine wp_skip' ?_|refine wp_exit' ?_)
    simp [zi230,cutV]
    rfl
  | some p =>
    obtain ⟨x,y⟩:=p
    obtain ⟨h1,-,-,h4⟩:=cutL_some hc
    rw [h1] at e1
    have hlen:l.length=x.length+(y.length+1):=by rw [h4];simp
    have hs:(⟨l.toArray⟩:ByteArray).size=l.length:=rfl
    have hs1:(⟨[c].toArray⟩:ByteArray).size=1:=rfl
    have w1:IntKind.i64.wrap ((x.length:Int)+1)=((x.length+1:Nat):Int):=wrapS (by omega)
    have c1:=bs_cut l 0 x.length
    have c2:=bs_cut l (x.length+1) l.length
    have hx:((l.drop 0).take (x.length - 0))=x:=by rw [h4];simp
    have hy:((l.drop (x.length+1)).take (l.length - (x.length+1)))=y:=by
      rw [hlen,h4]
      simp
      exact List.take_of_length_le (by omega)
    rw [hx] at c1
    rw [hy] at c2
    have q1:x.length≤l.length:=by omega
    have q2:x.length+1≤l.length:=by omega
    refine call_of_wp zt230 rfl ?_
    repeat (first|apply wp_as|apply wp_ss|refine wr (by simp [e1,hs,hs1,w1,c1,c2,q1,q2];with_reducible rfl) ?_|refine wq (by simp [e1,hs,hs1,w1,c1,c2,q1,q2];with_reducible rfl) ?_|refine wt (by simpa [e1,hs,hs1,w1,c1,c2,q1,q2]) ?_|refine wf (by simpa [e1,hs,hs1,w1,c1,c2,q1,q2]) ?_|refine xt (by simpa [e1,hs,hs1,w1,c1,c2,q1,q2]) ?_|refine xf (by simpa [e1,hs,hs1,w1,c1,c2,q1,q2]) ?_|apply wp_bs|apply wp_b|refine wp_sr ?_|refine wp_sx ?_|refine wp_ret' ?_|refine wp_skip' ?_|refine wp_exit' ?_)
    simp [zi230,cutV]
theorem ev_sCut (l:List UInt8) (c:UInt8) (hl:l.length≤4000000):Ev tb zl397 [] [SB l,SB [c]] [] ⟨cutV l (cutL c l),[],[],[]⟩:=by
  have e1:=ev_lim (ev_lCut l c hl)
  cases hc:cutL c l with
  | none =>
    rw [hc] at e1
    simp only [cutV] at e1 ⊢
    refine call_of_wp zt397 rfl ?_
    repeat (first|apply wp_as|apply wp_ss|refine wr (by simp [e1];with_reducible rfl) ?_|refine wq (by simp [e1];with_reducible rfl) ?_|refine wt (by simpa [e1]) ?_|refine wf (by simpa [e1]) ?_|refine xt (by simpa [e1]) ?_|refine xf (by simpa [e1]) ?_|apply wp_bs|apply wp_b|refine wp_sr ?_|refine wp_sx ?_|refine wp_ret' ?_|refine wp_skip' ?_|refine wp_exit' ?_)
    simp [zi397]
  | some p =>
    obtain ⟨x,y⟩:=p
    rw [hc] at e1
    simp only [cutV] at e1 ⊢
    refine call_of_wp zt397 rfl ?_
    repeat (first|apply wp_as|apply wp_ss|refine wr (by simp [e1];with_reducible rfl) ?_|refine wq (by simp [e1];with_reducible rfl) ?_|refine wt (by simpa [e1]) ?_|refine wf (by simpa [e1]) ?_|refine xt (by simpa [e1]) ?_|refine xf (by simpa [e1]) ?_|apply wp_bs|apply wp_b|refine wp_sr ?_|refine wp_sx ?_|refine wp_ret' ?_|refine wp_skip' ?_|refine wp_exit' ?_)
    simp [zi397]
end Go.Idl
namespace Go.Idl
open Go
theorem strs_rep (n:Nat):List.replicate n [IV.sc (.string ByteArray.empty)]=strs (List.replicate n ByteArray.empty):=by simp [strs]
theorem strs_set (l:List ByteArray) (i:Nat) (s:ByteArray):(strs l).set i [IV.sc (.string s)]=strs (l.set i s):=by simp [strs,List.map_set]
theorem set_rep {α:Type} (D:List α) (e s:α) (k:Nat):(D++List.replicate (k+1) e).set D.length s=(D++[s])++List.replicate k e:=by
  rw [List.set_append_right _ _ (Nat.le_refl _),Nat.sub_self,List.replicate_succ,List.set_cons_zero,List.append_assoc];rfl
abbrev BSm (l:List (List UInt8)):List ByteArray:=l.map fun x=>⟨x.toArray⟩
set_option maxHeartbeats 1000000 in
theorem gs_loop (c:UInt8) (N:Nat) (hN:N≤3000000):∀ (k:Nat) (l:List UInt8) (D:List (List UInt8)),l.count c=k→l.length≤3000000→D.length+k=N →
    wp tb (.loop z402l17) { T:=[(0,SB l),(1,SB [c]),(2,I 0),(3,I N),(9,.own 1 (strs (BSm D++List.replicate (k+1) ByteArray.empty))),(10,I D.length)],loc:=[],M:=[] }
      (fun ex st=>ex=.exit 0∧∃ (D':List (List UInt8)) (r:List UInt8),D'++[r]=D++splL c l∧D'.length=N ∧
        st={ T:=[(0,SB r),(1,SB [c]),(2,I 0),(3,I N),(9,.own 1 (strs (BSm D'++[ByteArray.empty]))),(10,I N),(36,Bo false)],loc:=[],M:=[] }):=by
  intro k
  induction k with
  | zero =>
    intro l D hk hl hD
    have hDN:D.length=N:=by omega
    have h1:splL c l=[l]:=by
      cases hc:cutL c l with
      | none=>exact (cutL_none hc).2.1
      | some p=>obtain ⟨x,y⟩:=p;have:=(cutL_some hc).2.2.1;omega
    rw [hDN]
    refine wp_loop ?_
    repeat (first|apply wp_as|apply wp_ss|refine wr (by simp;with_reducible rfl) ?_|refine wq (by simp;with_reducible rfl) ?_|refine wt (by simpa) ?_|refine wf (by simpa) ?_|refine xt (by simpa) ?_|refine xf (by simpa) ?_|apply wp_bs|apply wp_b|refine wp_sr ?_|refine wp_sx ?_|refine wp_ret' ?_|refine wp_skip' ?_|refine wp_exit' ?_)
    exact ⟨rfl,D,l,by rw [h1],hDN,rfl⟩
  | succ k ih =>
    intro l D hk hl hD
    cases hc:cutL c l with
    | none=>have:=(cutL_none hc).2.2;omega
    | some p =>
    obtain ⟨x,y⟩:=p
    obtain ⟨h1,h2,h3,h4⟩:=cutL_some hc
    have hlen:l.length=x.length+(y.length+1):=by rw [h4];simp
    have hn:=ih y (D++[x]) (by omega) (by omega) (by simp;omega)
    have e1:=ev_lim (ev_sIndex l c)
    rw [h1] at e1
    have hs:(⟨l.toArray⟩:ByteArray).size=l.length:=rfl
    have hs1:(⟨[c].toArray⟩:ByteArray).size=1:=rfl
    have w0:IntKind.i64.wrap (x.length:Int)=(x.length:Int):=wrap64 (by omega) (by omega)
    have w1:IntKind.i64.wrap ((x.length:Int)+1)=((x.length+1:Nat):Int):=wrapS (by omega)
    have w2:IntKind.i64.wrap ((D.length:Int)+1)=((D.length+1:Nat):Int):=wrapS (by omega)
    have c1:=bs_cut l 0 x.length
    have c2:=bs_cut l (x.length+1) l.length
    have hx:((l.drop 0).take (x.length - 0))=x:=by rw [h4];simp
    have hy:((l.drop (x.length+1)).take (l.length - (x.length+1)))=y:=by
      rw [hlen,h4]
      simp
      exact List.take_of_length_le (by omega)
    rw [hx] at c1
    rw [hy] at c2
    have q1:x.length≤l.length:=by omega
    have q2:x.length+1≤l.length:=by omega
    have q3:D.length < N:=by omega
    have hA:(BSm D++List.replicate (k+1+1) ByteArray.empty).length=D.length+(k+1+1):=by simp
    have q4:D.length < D.length+(k+1+1):=by omega
    have hset:(BSm D++List.replicate (k+1+1) ByteArray.empty).set D.length ⟨x.toArray⟩=BSm (D++[x])++List.replicate (k+1) ByteArray.empty:=by
      have:=set_rep (BSm D) ByteArray.empty ⟨x.toArray⟩ (k+1)
      rw [List.length_map] at this
      rw [this,BSm,BSm,List.map_append];rfl
    have hset2:=strs_set (BSm D++List.replicate (k+1+1) ByteArray.empty) D.length ⟨x.toArray⟩
    rw [hset] at hset2
    have hDl:(D++[x]).length=D.length+1:=by simp
    rw [hDl] at hn
    generalize BSm (D++[x])++List.replicate (k+1) ByteArray.empty=B at *
    generalize BSm D++List.replicate (k+1+1) ByteArray.empty=A at *
    have q4':D.length < A.length:=by omega
    refine wp_loop ?_
    repeat (first|apply wp_as|apply wp_ss|refine wr (by simp [e1,hs,hs1,w0,w1,w2,c1,c2,q1,q2,q3,q4',hset2];with_reducible rfl) ?_|refine wq (by simp [e1,hs,hs1,w0,w1,w2,c1,c2,q1,q2,q3,q4',hset2];with_reducible rfl) ?_|refine wt (by simpa [e1,hs,hs1,w0,w1,w2,c1,c2,q1,q2,q3,q4',hset2]) ?_|refine wf (by simpa [e1,hs,hs1,w0,w1,w2,c1,c2,q1,q2,q3,q4',hset2]) ?_|refine xt (by simpa [e1,hs,hs1,w0,w1,w2,c1,c2,q1,q2,q3,q4',hset2]) ?_|refine xf (by simpa [e1,hs,hs1,w0,w1,w2,c1,c2,q1,q2,q3,q4',hset2]) ?_|apply wp_bs|apply wp_b|refine wp_sr ?_|refine wp_sx ?_|refine wp_ret' ?_|refine wp_skip' ?_|refine wp_exit' ?_)
    refine wp_imp hn ?_
    rintro ex st ⟨rfl,D',r,g1,g2,rfl⟩
    exact ⟨rfl,D',r,by rw [g1,h2,List.append_assoc];rfl,g2,rfl⟩
theorem ev_genSplit (l:List UInt8) (c:UInt8) (hl:l.length≤2000000):Ev tb zl402 [] [SB l,SB [c],I 0,I (-1)] [] ⟨.own 1 (strs (BSm (splL c l))),[],[],[]⟩:=by
  have e1:=ev_lim (ev_sCount l c)
  have hcl:l.count c≤l.length:=List.count_le_length
  have so:=so_eql ⟨[c].toArray⟩ ByteArray.empty
  have hne:¬ (⟨[c].toArray⟩:ByteArray)=ByteArray.empty:=fun h=>by
    have:=congrArg ByteArray.size h
    cases this
  rw [decide_eq_false hne] at so
  have w1:IntKind.i64.wrap ((l.count c:Int)+1)=((l.count c+1:Nat):Int):=wrapS (by omega)
  have w2:IntKind.i64.wrap ((l.length:Int)+1)=((l.length+1:Nat):Int):=wrapS (by omega)
  have hs:(⟨l.toArray⟩:ByteArray).size=l.length:=rfl
  have hmin:min ((l.count c:Int)+1) ((l.length:Int)+1)=(l.count c:Int)+1:=by omega
  have q:=gs_loop c (l.count c) (by omega) (l.count c) l [] rfl (by omega) (by simp)
  rw [show BSm []++List.replicate (l.count c+1) ByteArray.empty=List.replicate (l.count c+1) ByteArray.empty from rfl,show (([]:List (List UInt8)).length:Int)=0 from rfl] at q
  have hlm:l.count c+1≤274877906944:=by omega
  have w3:IntKind.i64.wrap (l.count c:Int)=l.count c:=wrap64 (by omega) (by omega)
  refine call_of_wp zt402 rfl ?_
  have hcl2:¬ l.length < l.count c:=by omega
  repeat (first|apply wp_as|apply wp_ss|refine wr (by simp [e1,so,hs,w1,w2,w3,hmin,hlm,strs_rep,hcl2];with_reducible rfl) ?_|refine wq (by simp [e1,so,hs,w1,w2,w3,hmin,hlm,strs_rep,hcl2];with_reducible rfl) ?_|refine wt (by simpa [e1,so,hs,w1,w2,w3,hmin,hlm,strs_rep,hcl2]) ?_|refine wf (by simpa [e1,so,hs,w1,w2,w3,hmin,hlm,strs_rep,hcl2]) ?_|refine xt (by simpa [e1,so,hs,w1,w2,w3,hmin,hlm,strs_rep,hcl2]) ?_|refine xf (by simpa [e1,so,hs,w1,w2,w3,hmin,hlm,strs_rep,hcl2]) ?_|apply wp_bs|apply wp_b|refine wp_sr ?_|refine wp_sx ?_|refine wp_ret' ?_|refine wp_skip' ?_|refine wp_exit' ?_)
  refine wp_imp q ?_
  rintro ex st ⟨rfl,D',r,g1,g2,rfl⟩
  simp only [if_true]
  rw [List.nil_append] at g1
  have hset:(BSm D'++[ByteArray.empty]).set (l.count c) ⟨r.toArray⟩=BSm (splL c l):=by
    have:=set_rep (BSm D') ByteArray.empty ⟨r.toArray⟩ 0
    rw [List.length_map,g2] at this
    rw [← g1,BSm,BSm,List.map_append]
    simpa using this
  have hset2:=strs_set (BSm D'++[ByteArray.empty]) (l.count c) ⟨r.toArray⟩
  rw [hset] at hset2
  have hAl:(BSm D'++[ByteArray.empty]).length=l.count c+1:=by simp [g2]
  have hBl:(BSm (splL c l)).length=l.count c+1:=by rw [← hset,List.length_set,hAl]
  have htk:(strs (BSm (splL c l))).take (l.count c+1)=strs (BSm (splL c l)):=List.take_of_length_le (by rw [strs_len,hBl];exact Nat.le_refl _)
  generalize BSm (splL c l)=B at *
  generalize BSm D'++[ByteArray.empty]=A at *
  have q4:l.count c < A.length:=by omega
  repeat (first|apply wp_as|apply wp_ss|refine wr (by simp [w1,hAl,hBl,hset2,htk,q4];with_reducible rfl) ?_|refine wq (by simp [w1,hAl,hBl,hset2,htk,q4];with_reducible rfl) ?_|refine wt (by simpa [w1,hAl,hBl,hset2,htk,q4]) ?_|refine wf (by simpa [w1,hAl,hBl,hset2,htk,q4]) ?_|refine xt (by simpa [w1,hAl,hBl,hset2,htk,q4]) ?_|refine xf (by simpa [w1,hAl,hBl,hset2,htk,q4]) ?_|apply wp_bs|apply wp_b|refine wp_sr ?_|refine wp_sx ?_|refine wp_ret' ?_|refine wp_skip' ?_|refine wp_exit' ?_)
  simp [zi402,htk,hBl]
theorem ev_Split (l:List UInt8) (c:UInt8) (hl:l.length≤2000000):Ev tb zl400 [] [SB l,SB [c]] [] ⟨.own 1 (strs (BSm (splL c l))),[],[],[]⟩:=by
  have e1:=ev_lim (ev_genSplit l c hl)
  generalize BSm (splL c l)=B at *
  refine call_of_wp zt400 rfl ?_
  repeat (first|apply wp_as|apply wp_ss|refine wr (by simp [e1];with_reducible rfl) ?_|refine wq (by simp [e1];with_reducible rfl) ?_|refine wt (by simpa [e1]) ?_|refine wf (by simpa [e1]) ?_|refine xt (by simpa [e1]) ?_|refine xf (by simpa [e1]) ?_|apply wp_bs|apply wp_b|refine wp_sr ?_|refine wp_sx ?_|refine wp_ret' ?_|refine wp_skip' ?_|refine wp_exit' ?_)
  simp [zi400]
end Go.Idl
namespace Go.Idl
open Go
def etx (es:List (Int×Int)):List UInt8:=joinL [44] (es.map fun e=>[dgt e.1,dgt e.2])
def gtx (n:Int) (es:List (Int×Int)):List UInt8:=[dgt n]++[58]++etx es
theorem etx_snoc (es:List (Int×Int)) (e:Int×Int):etx (es++[e])=(if es=[] then [] else etx es++[44])++[dgt e.1]++[dgt e.2]:=by
  cases es with
  | nil=>rfl
  | cons x r =>
    rw [if_neg (by simp)]
    simp [etx,joinL]
theorem etx_len:∀ es:List (Int×Int),(etx es).length≤3 * es.length
  | []=>by simp [etx,joinL]
  | x::r=>by
    have h:∀ r:List (Int×Int),(((r.map fun e=>[dgt e.1,dgt e.2]).map (fun y=>[44]++y)).flatten:List UInt8).length=3 * r.length:=by
      intro r
      induction r with
      | nil=>rfl
      | cons y r ih=>simp only [List.map_cons,List.flatten_cons,List.length_append,List.length_cons,List.length_nil,ih];omega
    have h1:=h r
    rw [etx,List.map_cons,joinL,List.length_append,h1]
    simp only [List.length_cons,List.length_nil];omega
def Digs (es:List (Int×Int)):Prop:=∀ e ∈ es,0≤e.1∧e.1 < 10∧0≤e.2∧e.2 < 10
set_option maxHeartbeats 1000000 in
theorem gt_loop (n:Nat) (es:List (Int×Int)) (c:Bool) (hl:es.length≤1000) (hd:Digs es):∀ (m i:Nat),i+m=es.length →
    wp tb (.loop z352l8) { T:=[(1,.bptr 0 0 0),(3,SB (gtx n (es.take i))),(4,I i)],loc:=[[I n,L2 es c]],M:=[] }
      (fun ex st=>ex=.exit 0∧st={ T:=[(1,.bptr 0 0 0),(3,SB (gtx n es)),(4,I es.length),(13,Bo false)],loc:=[[I n,L2 es c]],M:=[] }):=by
  intro m
  induction m with
  | zero =>
    intro i hi
    have h3:i=es.length:=hi
    subst h3
    rw [List.take_length]
    refine wp_loop ?_
    repeat (first|apply wp_as|apply wp_ss|refine wr (by simp;with_reducible rfl) ?_|refine wq (by simp;with_reducible rfl) ?_|refine wt (by simpa) ?_|refine wf (by simpa) ?_|refine xt (by simpa) ?_|refine xf (by simpa) ?_|apply wp_bs|apply wp_b|refine wp_sr ?_|refine wp_sx ?_|refine wp_ret' ?_|refine wp_skip' ?_|refine wp_exit' ?_)
    exact ⟨rfl,rfl⟩
  | succ m ih =>
    intro i hi
    have hi2:i < es.length:=by omega
    have w1:IntKind.i64.wrap ((i:Int)+1)=((i+1:Nat):Int):=wrapS (by omega)
    have hn:=ih (i+1) (by omega)
    obtain ⟨b1,b2,b3,b4⟩:=hd _ (List.getElem_mem hi2)
    obtain ⟨x,hx⟩:∃ x:Nat,es[i].1=(x:Int):=⟨es[i].1.toNat,by omega⟩
    obtain ⟨y,hy⟩:∃ y:Nat,es[i].2=(y:Int):=⟨es[i].2.toNat,by omega⟩
    have e1:=ev_lim (ev_digit x (by omega))
    have e2:=ev_lim (ev_digit y (by omega))
    have hcl:=etx_len (es.take i)
    rw [List.length_take] at hcl
    have hsn:=etx_snoc (es.take i) es[i]
    rw [List.take_succ_eq_append_getElem hi2] at hn
    have hgl:(gtx n (es.take i)).length≤10000:=by simp only [gtx,List.length_append,List.length_cons,List.length_nil];omega
    by_cases h0:i=0
    · subst h0
      rw [List.take_zero] at *
      have hg:gtx n ([]++[es[0]])=gtx n []++[dgt es[0].1]++[dgt es[0].2]:=by simp [gtx,etx,joinL]
      rw [hg,hx,hy] at hn
      have a1:=so_add (a:=gtx n []) (b:=[dgt x]) (by simp only [List.length_cons,List.length_nil];omega)
      have a2:=so_add (a:=gtx n []++[dgt x]) (b:=[dgt y]) (by simp only [List.length_append,List.length_cons,List.length_nil];omega)
      refine wp_loop ?_
      repeat (first|apply wp_as|apply wp_ss|refine wr (by simp [hi2,w1,hx,hy];with_reducible rfl) ?_|refine wq (by simp [hi2,w1,hx,hy];with_reducible rfl) ?_|refine wt (by simpa [hi2,w1,hx,hy]) ?_|refine wf (by simpa [hi2,w1,hx,hy]) ?_|refine xt (by simpa [hi2,w1,hx,hy]) ?_|refine xf (by simpa [hi2,w1,hx,hy]) ?_|apply wp_bs|apply wp_b|refine wp_sr ?_|refine wp_sx ?_|refine wp_ret' ?_|refine wp_skip' ?_|refine wp_exit' ?_)
      refine wp_rega (by simp [hi2,w1,hx,hy,e1,e2,a1,a2];with_reducible rfl) (by simp;with_reducible rfl) ?_ ?_
      · intro p hp
        simp only [List.mem_cons,List.not_mem_nil,or_false] at hp
        rcases hp with rfl | rfl
        · exact ⟨_,by simp [hi2,w1,hx,hy,e1,e2,a1,a2];with_reducible rfl,by simp⟩
        · exact ⟨_,by simp [hi2,w1,hx,hy,e1,e2,a1,a2];with_reducible rfl,by simp⟩
      have w1:IntKind.i64.wrap 1=1:=by decide
      repeat (first|apply wp_as|apply wp_ss|refine wr (by simp [w1];with_reducible rfl) ?_|refine wq (by simp [w1];with_reducible rfl) ?_|refine wt (by simpa [w1]) ?_|refine wf (by simpa [w1]) ?_|refine xt (by simpa [w1]) ?_|refine xf (by simpa [w1]) ?_|apply wp_bs|apply wp_b|refine wp_sr ?_|refine wp_sx ?_|refine wp_ret' ?_|refine wp_skip' ?_|refine wp_exit' ?_)
      exact hn
    · have hne:es.take i ≠ []:=fun h=>by
        have:=congrArg List.length h
        rw [List.length_take,List.length_nil] at this;omega
      have h0':0 < i:=by omega
      rw [if_neg hne] at hsn
      have hg:gtx n (es.take i++[es[i]])=gtx n (es.take i)++[44]++[dgt es[i].1]++[dgt es[i].2]:=by simp only [gtx,hsn,List.append_assoc]
      rw [hg,hx,hy] at hn
      generalize gtx n (es.take i)=S at *
      have a0:=so_add (a:=S) (b:=[44]) (by simp only [List.length_cons,List.length_nil];omega)
      have a1:=so_add (a:=S++[44]) (b:=[dgt x]) (by simp only [List.length_append,List.length_cons,List.length_nil];omega)
      have a2:=so_add (a:=S++[44]++[dgt x]) (b:=[dgt y]) (by simp only [List.length_append,List.length_cons,List.length_nil];omega)
      generalize S++[44]=S0 at *
      generalize S0++[dgt x]=S1 at *
      generalize S1++[dgt y]=S2 at *
      refine wp_loop ?_
      repeat (first|apply wp_as|apply wp_ss|refine wr (by simp [hi2,w1,hx,hy,h0',a0];with_reducible rfl) ?_|refine wq (by simp [hi2,w1,hx,hy,h0',a0];with_reducible rfl) ?_|refine wt (by simpa [hi2,w1,hx,hy,h0',a0]) ?_|refine wf (by simpa [hi2,w1,hx,hy,h0',a0]) ?_|refine xt (by simpa [hi2,w1,hx,hy,h0',a0]) ?_|refine xf (by simpa [hi2,w1,hx,hy,h0',a0]) ?_|apply wp_bs|apply wp_b|refine wp_sr ?_|refine wp_sx ?_|refine wp_ret' ?_|refine wp_skip' ?_|refine wp_exit' ?_)
      refine wp_rega (by simp [hi2,w1,hx,hy,e1,e2,a1,a2];with_reducible rfl) (by simp;with_reducible rfl) ?_ ?_
      · intro p hp
        simp only [List.mem_cons,List.not_mem_nil,or_false] at hp
        rcases hp with rfl | rfl
        · exact ⟨_,by simp [hi2,w1,hx,hy,e1,e2,a1,a2];with_reducible rfl,by simp⟩
        · exact ⟨_,by simp [hi2,w1,hx,hy,e1,e2,a1,a2];with_reducible rfl,by simp⟩
      repeat (first|apply wp_as|apply wp_ss|refine wr (by simp [w1];with_reducible rfl) ?_|refine wq (by simp [w1];with_reducible rfl) ?_|refine wt (by simpa [w1]) ?_|refine wf (by simpa [w1]) ?_|refine xt (by simpa [w1]) ?_|refine xf (by simpa [w1]) ?_|apply wp_bs|apply wp_b|refine wp_sr ?_|refine wp_sx ?_|refine wp_ret' ?_|refine wp_skip' ?_|refine wp_exit' ?_)
      exact hn
theorem ev_graphText (n:Nat) (es:List (Int×Int)) (c:Bool) (hn:n≤9) (hl:es.length≤1000) (hd:Digs es):Ev tb zl352 [] [Gr n es c] [] ⟨SB (gtx n es),[],[],[]⟩:=by
  have e1:=ev_lim (ev_digit n hn)
  have a1:=so_add (a:=[dgt n]) (b:=[58]) (by simp)
  have q:=gt_loop n es c hl hd es.length 0 (by omega)
  rw [List.take_zero,show ((0:Nat):Int)=0 from rfl,show gtx (n:Int) []=[dgt n]++[58] from rfl] at q
  generalize [dgt (n:Int)]++[58]=S at *
  refine call_of_wp zt352 rfl ?_
  repeat (first|apply wp_as|apply wp_ss|refine wr (by simp [e1,a1];with_reducible rfl) ?_|refine wq (by simp [e1,a1];with_reducible rfl) ?_|refine wt (by simpa [e1,a1]) ?_|refine wf (by simpa [e1,a1]) ?_|refine xt (by simpa [e1,a1]) ?_|refine xf (by simpa [e1,a1]) ?_|apply wp_bs|apply wp_b|refine wp_sr ?_|refine wp_sx ?_|refine wp_ret' ?_|refine wp_skip' ?_|refine wp_exit' ?_)
  refine wp_imp q ?_
  rintro ex st ⟨rfl,rfl⟩
  simp only [if_true]
  repeat (first|apply wp_as|apply wp_ss|refine wr (by simp;with_reducible rfl) ?_|refine wq (by simp;with_reducible rfl) ?_|refine wt (by simpa) ?_|refine wf (by simpa) ?_|refine xt (by simpa) ?_|refine xf (by simpa) ?_|apply wp_bs|apply wp_b|refine wp_sr ?_|refine wp_sx ?_|refine wp_ret' ?_|refine wp_skip' ?_|refine wp_exit' ?_)
  simp [zi352]
theorem digs_of {n:Nat} {es:List (Int×Int)} (hn:n≤7) (h:vGraph n es=true):Digs es:=fun e he=>by
  have:=vG_in h e he
  omega
theorem vG_le {n:Int} {es:List (Int×Int)} (h:vGraph n es=true):∃ m:Nat,n=(m:Int)∧m≤7:=by
  simp only [vGraph,Bool.and_eq_true,decide_eq_true_eq] at h
  exact ⟨n.toNat,by omega,by omega⟩
theorem vG_few {n:Nat} {es:List (Int×Int)} (h:vGraph n es=true):es.length≤49:=by
  obtain ⟨m,hm,h7⟩:=vG_le h
  have:n≤7:=by omega
  exact prs_len this (by rw [vG_filter h];exact List.filter_sublist)
end Go.Idl
namespace Go.Idl
open Go
def nlS:List ByteArray→IV
  | []=>Z
  | x::r=>.own 1 (strs (x::r))
theorem nlS_app (A:List ByteArray) (x:ByteArray):nlS (A++[x])=.own 1 (strs (A++[x])):=by cases A <;> rfl
theorem strs_app (A:List ByteArray) (x:ByteArray):strs (A++[x])=strs A++[[Str x]]:=by simp [strs]
def prt (es:List (Int×Int)):List ByteArray:=es.map fun e=>⟨[dgt e.1,dgt e.2].toArray⟩
set_option maxHeartbeats 1000000 in
theorem igt_loop (n:Int) (es:List (Int×Int)) (c:Bool) (hl:es.length≤1000) (hd:Digs es):∀ (m i:Nat) (bs:Boxes),i+m=es.length →
    wp tb (.loop z166l9) { T:=[(1,.bptr 0 0 0),(3,nlS (prt (es.take i))),(10,L2 es c),(11,I es.length),(12,I i)],loc:=[I n,L2 es c]::bs,M:=[] }
      (fun ex st=>ex=.exit 0∧∃ bs',st={ T:=[(1,.bptr 0 0 0),(3,nlS (prt es)),(10,L2 es c),(11,I es.length),(12,I es.length),(13,Bo false)],loc:=[I n,L2 es c]::bs',M:=[] }):=by
  intro m
  induction m with
  | zero =>
    intro i bs hi
    have h3:i=es.length:=hi
    subst h3
    rw [List.take_length]
    cases prt es with
    | nil =>
      rw [show nlS []=Z from rfl]
      refine wp_loop ?_
      repeat (first|apply wp_as|apply wp_ss|refine wr (by simp;with_reducible rfl) ?_|refine wq (by simp;with_reducible rfl) ?_|refine wt (by simpa) ?_|refine wf (by simpa) ?_|refine xt (by simpa) ?_|refine xf (by simpa) ?_|apply wp_bs|apply wp_b|refine wp_sr ?_|refine wp_sx ?_|refine wp_ret' ?_|refine wp_skip' ?_|refine wp_exit' ?_)
      exact ⟨rfl,_,rfl⟩
    | cons x r =>
      rw [show nlS (x::r)=.own 1 (strs (x::r)) from rfl]
      refine wp_loop ?_
      repeat (first|apply wp_as|apply wp_ss|refine wr (by simp;with_reducible rfl) ?_|refine wq (by simp;with_reducible rfl) ?_|refine wt (by simpa) ?_|refine wf (by simpa) ?_|refine xt (by simpa) ?_|refine xf (by simpa) ?_|apply wp_bs|apply wp_b|refine wp_sr ?_|refine wp_sx ?_|refine wp_ret' ?_|refine wp_skip' ?_|refine wp_exit' ?_)
      exact ⟨rfl,_,rfl⟩
  | succ m ih =>
    intro i bs hi
    have hi2:i < es.length:=by omega
    have w1:IntKind.i64.wrap ((i:Int)+1)=((i+1:Nat):Int):=wrapS (by omega)
    have hn:=ih (i+1) (bs++[[I es[i].1,I es[i].2]]) (by omega)
    obtain ⟨b1,b2,b3,b4⟩:=hd _ (List.getElem_mem hi2)
    have e1:=fun c=>ev_lim (ev_digits [es[i].1,es[i].2] c (by simp) (by simp;omega))
    rw [show ([es[i].1,es[i].2].map dgt)=[dgt es[i].1,dgt es[i].2] from rfl] at e1
    rw [List.take_succ_eq_append_getElem hi2,prt,List.map_append,← prt,List.map_cons,List.map_nil,nlS_app] at hn
    have hA:(prt (es.take i)).length=i:=by simp [prt];omega
    have hlm:i+1≤274877906944:=by omega
    generalize prt (es.take i)=A at *
    cases A with
    | nil =>
      rw [show nlS []=Z from rfl]
      refine wp_loop ?_
      repeat (first|apply wp_as|apply wp_ss|refine wr (by simp [hi2,w1,e1];with_reducible rfl) ?_|refine wq (by simp [hi2,w1,e1];with_reducible rfl) ?_|refine wt (by simpa [hi2,w1,e1]) ?_|refine wf (by simpa [hi2,w1,e1]) ?_|refine xt (by simpa [hi2,w1,e1]) ?_|refine xf (by simpa [hi2,w1,e1]) ?_|apply wp_bs|apply wp_b|refine wp_sr ?_|refine wp_sx ?_|refine wp_ret' ?_|refine wp_skip' ?_|refine wp_exit' ?_)
      exact hn
    | cons a A =>
      rw [show nlS (a::A)=.own 1 (strs (a::A)) from rfl]
      have htA:(a::A).take i=a::A:=List.take_of_length_le (by omega)
      generalize a::A=A at *
      have htS:(strs A).take i=strs A:=List.take_of_length_le (by simp;omega)
      refine wp_loop ?_
      repeat (first|apply wp_as|apply wp_ss|refine wr (by simp [hi2,w1,e1,hA,htA,htS,hlm];with_reducible rfl) ?_|refine wq (by simp [hi2,w1,e1,hA,htA,htS,hlm];with_reducible rfl) ?_|refine wt (by simpa [hi2,w1,e1,hA,htA,htS,hlm]) ?_|refine wf (by simpa [hi2,w1,e1,hA,htA,htS,hlm]) ?_|refine xt (by simpa [hi2,w1,e1,hA,htA,htS,hlm]) ?_|refine xf (by simpa [hi2,w1,e1,hA,htA,htS,hlm]) ?_|apply wp_bs|apply wp_b|refine wp_sr ?_|refine wp_sx ?_|refine wp_ret' ?_|refine wp_skip' ?_|refine wp_exit' ?_)
      rw [strs_app] at hn
      exact hn
theorem prt_map (es:List (Int×Int)):prt es=(es.map fun e=>[dgt e.1,dgt e.2]).map fun x=>(⟨x.toArray⟩:ByteArray):=by
  rw [prt,List.map_map];rfl
theorem ev_impl_GraphText (n:Int) (es:List (Int×Int)) (c:Bool) (hf:Fit es) (hl:es.length≤2000000):Ev tb zl166 [] [Gr n es c] [] ⟨SB (if vGraph n es then gtx n es else []),[],[],[]⟩:=by
  have v1:=ev_lim (ev_ValidGraph n es c hf (by omega))
  cases hv:vGraph n es with
  | false =>
    rw [hv] at v1
    rw [if_neg (by simp)]
    refine call_of_wp zt166 rfl ?_
    repeat (first|apply wp_as|apply wp_ss|refine wr (by simp [v1];with_reducible rfl) ?_|refine wq (by simp [v1];with_reducible rfl) ?_|refine wt (by simpa [v1]) ?_|refine wf (by simpa [v1]) ?_|refine xt (by simpa [v1]) ?_|refine xf (by simpa [v1]) ?_|apply wp_bs|apply wp_b|refine wp_sr ?_|refine wp_sx ?_|refine wp_ret' ?_|refine wp_skip' ?_|refine wp_exit' ?_)
    simp [zi166]
    rfl
  | true =>
    rw [hv] at v1
    rw [if_pos rfl]
    obtain ⟨m,rfl,h7⟩:=vG_le hv
    have hel:=vG_few hv
    have hd:=digs_of h7 hv
    have e1:limF tb zl208 [] [.lst 1 [[I (m:Int)]] false] []=some ⟨SB [dgt m],[],[],[]⟩:=ev_lim (ev_digits [(m:Int)] false (by simp) (by simp;omega))
    have q:=igt_loop m es c (by omega) hd es.length 0 [] (by omega)
    rw [List.take_zero,show ((0:Nat):Int)=0 from rfl,show nlS (prt [])=Z from rfl] at q
    have a1:=so_add (a:=[dgt m]) (b:=[58]) (by simp)
    have a2:=so_add (a:=[dgt m]++[58]) (b:=etx es) (by have:=etx_len es;simp;omega)
    have hg:gtx (m:Int) es=[dgt m]++[58]++etx es:=rfl
    rw [← hg] at a2
    generalize [dgt (m:Int)]++[58]=H at a1 a2
    refine call_of_wp zt166 rfl ?_
    repeat (first|apply wp_as|apply wp_ss|refine wr (by simp [v1];with_reducible rfl) ?_|refine wq (by simp [v1];with_reducible rfl) ?_|refine wt (by simpa [v1]) ?_|refine wf (by simpa [v1]) ?_|refine xt (by simpa [v1]) ?_|refine xf (by simpa [v1]) ?_|apply wp_bs|apply wp_b|refine wp_sr ?_|refine wp_sx ?_|refine wp_ret' ?_|refine wp_skip' ?_|refine wp_exit' ?_)
    refine wp_imp q ?_
    rintro ex st ⟨rfl,bs',rfl⟩
    simp only [if_true]
    cases hes:es with
    | nil =>
      subst hes
      rw [show nlS (prt [])=Z from rfl]
      have e2:=ev_lim (ev_Join_Z [44])
      rw [show etx []=[] from rfl] at a2
      generalize gtx (m:Int) []=S at *
      repeat (first|apply wp_as|apply wp_ss|refine wr (by simp [e1,e2,a1,a2];with_reducible rfl) ?_|refine wq (by simp [e1,e2,a1,a2];with_reducible rfl) ?_|refine wt (by simpa [e1,e2,a1,a2]) ?_|refine wf (by simpa [e1,e2,a1,a2]) ?_|refine xt (by simpa [e1,e2,a1,a2]) ?_|refine xf (by simpa [e1,e2,a1,a2]) ?_|apply wp_bs|apply wp_b|refine wp_sr ?_|refine wp_sx ?_|refine wp_ret' ?_|refine wp_skip' ?_|refine wp_exit' ?_)
      simp [zi166]
    | cons x r =>
      rw [← hes]
      have e2:=ev_lim (ev_Join (es.map fun e=>[dgt e.1,dgt e.2]) [44] false (by simp;omega) (by have:=etx_len es;rw [etx] at this;omega))
      rw [← prt_map,← etx] at e2
      have hp:nlS (prt es)=.own 1 (strs (prt es)):=by rw [hes];rfl
      rw [hp]
      have hpl:(prt es).length=es.length:=by simp [prt]
      have htk:(strs (prt es)).take es.length=strs (prt es):=List.take_of_length_le (by simp [hpl])
      generalize prt es=A at *
      generalize etx es=X at *
      generalize gtx (m:Int) es=S at *
      repeat (first|apply wp_as|apply wp_ss|refine wr (by simp [e1,e2,a1,a2,hpl,htk];with_reducible rfl) ?_|refine wq (by simp [e1,e2,a1,a2,hpl,htk];with_reducible rfl) ?_|refine wt (by simpa [e1,e2,a1,a2,hpl,htk]) ?_|refine wf (by simpa [e1,e2,a1,a2,hpl,htk]) ?_|refine xt (by simpa [e1,e2,a1,a2,hpl,htk]) ?_|refine xf (by simpa [e1,e2,a1,a2,hpl,htk]) ?_|apply wp_bs|apply wp_b|refine wp_sr ?_|refine wp_sx ?_|refine wp_ret' ?_|refine wp_skip' ?_|refine wp_exit' ?_)
      simp [zi166]
end Go.Idl
namespace Go.Idl
open Go
def edg (p:List UInt8):List (Int×Int):=match p with
  | [a,b]=>[(rdb a,rdb b)]
  | _=>[]
def edgI (P:List (List UInt8)):List (Int×Int):=P.flatMap edg
theorem edg_two {p:List UInt8} (h:p.length=2):∃ a b,p=[a,b]:=by
  match p,h with
  | [a,b],_=>exact ⟨a,b,rfl⟩
theorem edg_no {p:List UInt8} (h:p.length ≠ 2):edg p=[]:=by
  match p with
  | []=>rfl
  | [_]=>rfl
  | [_,_]=>exact absurd rfl h
  | _::_::_::_=>rfl
theorem edgI_len:∀ P:List (List UInt8),(edgI P).length≤P.length
  | []=>by simp [edgI]
  | p::P=>by
    have h1:=edgI_len P
    have h2:(edg p).length≤1:=by
      match p with
      | []=>simp [edg]
      | [_]=>simp [edg]
      | [_,_]=>simp [edg]
      | _::_::_::_=>simp [edg]
    rw [edgI,List.flatMap_cons,List.length_append,← edgI,List.length_cons];omega
set_option maxHeartbeats 2000000 in
theorem pg_loop (l:List UInt8) (n0:Int) (P:List (List UInt8)) (hP:P.length≤3000000) (hb:∀ p ∈ P,p.length≤2000000):∀ (m i:Nat),i+m=P.length →
    wp tb (.loop z192l12) { T:=[(0,SB l),(2,.bptr 0 0 0),(7,.bptr 0 1 0),(31,.own 1 (strs (BSm P))),(32,I P.length),(33,I i)],loc:=[[I 0,Z],[I n0,nl2 (edgI (P.take i))]],M:=[] }
      (fun ex st=>ex=.exit 0∧st={ T:=[(0,SB l),(2,.bptr 0 0 0),(7,.bptr 0 1 0),(31,.own 1 (strs (BSm P))),(32,I P.length),(33,I P.length),(34,Bo false)],loc:=[[I 0,Z],[I n0,nl2 (edgI P)]],M:=[] }):=by
  intro m
  induction m with
  | zero =>
    intro i hi
    have h3:i=P.length:=hi
    subst h3
    rw [List.take_length]
    cases edgI P with
    | nil =>
      rw [show nl2 []=Z from rfl]
      refine wp_loop ?_
      repeat (first|apply wp_as|apply wp_ss|refine wr (by simp;with_reducible rfl) ?_|refine wq (by simp;with_reducible rfl) ?_|refine wt (by simpa) ?_|refine wf (by simpa) ?_|refine xt (by simpa) ?_|refine xf (by simpa) ?_|apply wp_bs|apply wp_b|refine wp_sr ?_|refine wp_sx ?_|refine wp_ret' ?_|refine wp_skip' ?_|refine wp_exit' ?_)
      exact ⟨rfl,rfl⟩
    | cons x r =>
      rw [show nl2 (x::r)=O2 (x::r) from rfl]
      refine wp_loop ?_
      repeat (first|apply wp_as|apply wp_ss|refine wr (by simp;with_reducible rfl) ?_|refine wq (by simp;with_reducible rfl) ?_|refine wt (by simpa) ?_|refine wf (by simpa) ?_|refine xt (by simpa) ?_|refine xf (by simpa) ?_|apply wp_bs|apply wp_b|refine wp_sr ?_|refine wp_sx ?_|refine wp_ret' ?_|refine wp_skip' ?_|refine wp_exit' ?_)
      exact ⟨rfl,rfl⟩
  | succ m ih =>
    intro i hi
    have hi2:i < P.length:=by omega
    have w1:IntKind.i64.wrap ((i:Int)+1)=((i+1:Nat):Int):=wrapS (by omega)
    have hn:=ih (i+1) (by omega)
    have e1:=ev_lim (ev_readDigits P[i] (hb _ (List.getElem_mem hi2)))
    have hBl:(BSm P).length=P.length:=by simp
    have hg:(BSm P)[i]'(by rw [hBl];exact hi2)=⟨P[i].toArray⟩:=by simp
    have hg?:(BSm P)[i]? = some ⟨P[i].toArray⟩:=by simp [hi2]
    have hAl:=edgI_len (P.take i)
    rw [List.length_take] at hAl
    have hst:edgI (P.take i++[P[i]])=edgI (P.take i)++edg P[i]:=by simp only [edgI,List.flatMap_append,List.flatMap_cons,List.flatMap_nil,List.append_nil]
    rw [List.take_succ_eq_append_getElem hi2,hst] at hn
    generalize hAA:edgI (P.take i)=A at *
    by_cases h2:P[i].length=2
    · obtain ⟨a,b,hab⟩:=edg_two h2
      rw [hab] at hn e1 hg hg?
      rw [show edg [a,b]=[(rdb a,rdb b)] from rfl,nl2_app] at hn
      rw [show nlI ([a,b].map rdb)=O [rdb a,rdb b] from rfl] at e1
      generalize BSm P=B at *
      cases A with
      | nil =>
        rw [show nl2 []=Z from rfl]
        refine wp_loop ?_
        repeat (first|apply wp_as|apply wp_ss|refine wr (by simp [hi2,w1,e1,hBl,hg,hg?];with_reducible rfl) ?_|refine wq (by simp [hi2,w1,e1,hBl,hg,hg?];with_reducible rfl) ?_|refine wt (by simpa [hi2,w1,e1,hBl,hg,hg?]) ?_|refine wf (by simpa [hi2,w1,e1,hBl,hg,hg?]) ?_|refine xt (by simpa [hi2,w1,e1,hBl,hg,hg?]) ?_|refine xf (by simpa [hi2,w1,e1,hBl,hg,hg?]) ?_|apply wp_bs|apply wp_b|refine wp_sr ?_|refine wp_sx ?_|refine wp_ret' ?_|refine wp_skip' ?_|refine wp_exit' ?_)
        refine wp_rega (by simp;with_reducible rfl) (by simp;with_reducible rfl) ?_ ?_
        · intro p hp
          simp only [List.mem_cons,List.not_mem_nil,or_false] at hp
          rcases hp with rfl | rfl
          · exact ⟨_,by simp [];with_reducible rfl,by simp⟩
          · exact ⟨_,by simp [];with_reducible rfl,by simp⟩
        repeat (first|apply wp_as|apply wp_ss|refine wr (by simp [w1];with_reducible rfl) ?_|refine wq (by simp [w1];with_reducible rfl) ?_|refine wt (by simpa [w1]) ?_|refine wf (by simpa [w1]) ?_|refine xt (by simpa [w1]) ?_|refine xf (by simpa [w1]) ?_|apply wp_bs|apply wp_b|refine wp_sr ?_|refine wp_sx ?_|refine wp_ret' ?_|refine wp_skip' ?_|refine wp_exit' ?_)
        exact hn
      | cons x r =>
        rw [show nl2 (x::r)=O2 (x::r) from rfl]
        have hlm:(x::r).length+1≤274877906944:=by omega
        have htA:(x::r).take (x::r).length=x::r:=List.take_of_length_le (by omega)
        generalize x::r=A at *
        refine wp_loop ?_
        repeat (first|apply wp_as|apply wp_ss|refine wr (by simp [hi2,w1,e1,hBl,hg,hg?];with_reducible rfl) ?_|refine wq (by simp [hi2,w1,e1,hBl,hg,hg?];with_reducible rfl) ?_|refine wt (by simpa [hi2,w1,e1,hBl,hg,hg?]) ?_|refine wf (by simpa [hi2,w1,e1,hBl,hg,hg?]) ?_|refine xt (by simpa [hi2,w1,e1,hBl,hg,hg?]) ?_|refine xf (by simpa [hi2,w1,e1,hBl,hg,hg?]) ?_|apply wp_bs|apply wp_b|refine wp_sr ?_|refine wp_sx ?_|refine wp_ret' ?_|refine wp_skip' ?_|refine wp_exit' ?_)
        refine wp_rega (by simp [hlm,htA];with_reducible rfl) (by simp;with_reducible rfl) ?_ ?_
        · intro p hp
          simp only [List.mem_cons,List.not_mem_nil,or_false] at hp
          rcases hp with rfl | rfl
          · exact ⟨_,by simp [hlm,htA];with_reducible rfl,by simp⟩
          · exact ⟨_,by simp [hlm,htA];with_reducible rfl,by simp⟩
        repeat (first|apply wp_as|apply wp_ss|refine wr (by simp [w1];with_reducible rfl) ?_|refine wq (by simp [w1];with_reducible rfl) ?_|refine wt (by simpa [w1]) ?_|refine wf (by simpa [w1]) ?_|refine xt (by simpa [w1]) ?_|refine xf (by simpa [w1]) ?_|apply wp_bs|apply wp_b|refine wp_sr ?_|refine wp_sx ?_|refine wp_ret' ?_|refine wp_skip' ?_|refine wp_exit' ?_)
        exact hn
    · rw [edg_no h2,List.append_nil] at hn
      have hl2:(P[i].map rdb).length ≠ 2:=by rw [List.length_map];exact h2
      generalize P[i].map rdb=D at *
      have q1:¬ (D.length:Int)=2:=by omega
      generalize BSm P=B at *
      cases D with
      | nil =>
        rw [show nlI []=Z from rfl] at e1
        cases A with
        | nil =>
          rw [show nl2 []=Z from rfl] at hn ⊢
          refine wp_loop ?_
          repeat (first|apply wp_as|apply wp_ss|refine wr (by simp [hi2,w1,e1,hBl,hg,hg?];with_reducible rfl) ?_|refine wq (by simp [hi2,w1,e1,hBl,hg,hg?];with_reducible rfl) ?_|refine wt (by simpa [hi2,w1,e1,hBl,hg,hg?]) ?_|refine wf (by simpa [hi2,w1,e1,hBl,hg,hg?]) ?_|refine xt (by simpa [hi2,w1,e1,hBl,hg,hg?]) ?_|refine xf (by simpa [hi2,w1,e1,hBl,hg,hg?]) ?_|apply wp_bs|apply wp_b|refine wp_sr ?_|refine wp_sx ?_|refine wp_ret' ?_|refine wp_skip' ?_|refine wp_exit' ?_)
          exact hn
        | cons x r =>
          rw [show nl2 (x::r)=O2 (x::r) from rfl] at hn ⊢
          refine wp_loop ?_
          repeat (first|apply wp_as|apply wp_ss|refine wr (by simp [hi2,w1,e1,hBl,hg,hg?];with_reducible rfl) ?_|refine wq (by simp [hi2,w1,e1,hBl,hg,hg?];with_reducible rfl) ?_|refine wt (by simpa [hi2,w1,e1,hBl,hg,hg?]) ?_|refine wf (by simpa [hi2,w1,e1,hBl,hg,hg?]) ?_|refine xt (by simpa [hi2,w1,e1,hBl,hg,hg?]) ?_|refine xf (by simpa [hi2,w1,e1,hBl,hg,hg?]) ?_|apply wp_bs|apply wp_b|refine wp_sr ?_|refine wp_sx ?_|refine wp_ret' ?_|refine wp_skip' ?_|refine wp_exit' ?_)
          exact hn
      | cons d D =>
        rw [show nlI (d::D)=O (d::D) from rfl] at e1
        have q2:¬ (d::D).length=2:=hl2
        generalize d::D=D at *
        cases A with
        | nil =>
          rw [show nl2 []=Z from rfl] at hn ⊢
          refine wp_loop ?_
          repeat (first|apply wp_as|apply wp_ss|refine wr (by simp [hi2,w1,e1,hBl,hg,hg?,q1,q2];with_reducible rfl) ?_|refine wq (by simp [hi2,w1,e1,hBl,hg,hg?,q1,q2];with_reducible rfl) ?_|refine wt (by simpa [hi2,w1,e1,hBl,hg,hg?,q1,q2]) ?_|refine wf (by simpa [hi2,w1,e1,hBl,hg,hg?,q1,q2]) ?_|refine xt (by simpa [hi2,w1,e1,hBl,hg,hg?,q1,q2]) ?_|refine xf (by simpa [hi2,w1,e1,hBl,hg,hg?,q1,q2]) ?_|apply wp_bs|apply wp_b|refine wp_sr ?_|refine wp_sx ?_|refine wp_ret' ?_|refine wp_skip' ?_|refine wp_exit' ?_)
          exact hn
        | cons x r =>
          rw [show nl2 (x::r)=O2 (x::r) from rfl] at hn ⊢
          refine wp_loop ?_
          repeat (first|apply wp_as|apply wp_ss|refine wr (by simp [hi2,w1,e1,hBl,hg,hg?,q1,q2];with_reducible rfl) ?_|refine wq (by simp [hi2,w1,e1,hBl,hg,hg?,q1,q2];with_reducible rfl) ?_|refine wt (by simpa [hi2,w1,e1,hBl,hg,hg?,q1,q2]) ?_|refine wf (by simpa [hi2,w1,e1,hBl,hg,hg?,q1,q2]) ?_|refine xt (by simpa [hi2,w1,e1,hBl,hg,hg?,q1,q2]) ?_|refine xf (by simpa [hi2,w1,e1,hBl,hg,hg?,q1,q2]) ?_|apply wp_bs|apply wp_b|refine wp_sr ?_|refine wp_sx ?_|refine wp_ret' ?_|refine wp_skip' ?_|refine wp_exit' ?_)
          exact hn
def candI (l:List UInt8):Option (Int×List (Int×Int)):=match cutL 58 l with
  | some ([h],y)=>some (rdb h,edgI (splL 44 y))
  | _=>none
def parI (l:List UInt8):Option (Int×List (Int×Int)):=match candI l with
  | some (n,es)=>if vGraph n es=true∧gtx n es=l then some (n,es) else none
  | none=>none
def parV:Option (Int×List (Int×Int))→IV
  | some (n,es)=>.tup [.agg [I n,O2 es],Bo true]
  | none=>.tup [.agg [I 0,Z],Bo false]
theorem splL_mem (c:UInt8):∀ (l p:List UInt8),p ∈ splL c l→p.length≤l.length
  | [],p,h=>by simp [splL] at h;subst h;simp
  | b::r,p,h=>by
    rw [splL] at h
    split at h
    · rcases List.mem_cons.1 h with rfl | h
      · simp
      · have:=splL_mem c r p h;simp only [List.length_cons];omega
    · split at h
      · rename_i q Q hq
        rcases List.mem_cons.1 h with rfl | h
        · have:=splL_mem c r q (by rw [hq];simp);simp only [List.length_cons];omega
        · have:=splL_mem c r p (by rw [hq];simp [h]);simp only [List.length_cons];omega
      · rename_i hq
        exact absurd hq (splL_ne c r)
theorem splL_len (c:UInt8):∀ l:List UInt8,(splL c l).length≤l.length+1
  | []=>by simp [splL]
  | b::r=>by
    have h:=splL_len c r
    rw [splL]
    split
    · simp only [List.length_cons];omega
    · split
      · rename_i q Q hq
        rw [hq] at h
        simp only [List.length_cons] at h ⊢;omega
      · simp
theorem edgI_fit (P:List (List UInt8)):Fit (edgI P):=by
  intro e he
  obtain ⟨p,-,he⟩:=List.mem_flatMap.1 he
  match p,he with
  | [a,b],he =>
    simp only [edg,List.mem_singleton] at he
    subst he
    have:=rdb_fit a
    have:=rdb_fit b
    simp only
    omega
  | [],he=>cases he
  | [_],he=>cases he
  | _::_::_::_,he=>cases he
theorem ev_ParseGraph_cut (l:List UInt8) (hl:l.length≤2000000) (h:candI l=none):Ev tb zl192 [] [SB l] [] ⟨parV none,[],[],[]⟩:=by
  have e1:=ev_lim (ev_sCut l 58 (by omega))
  simp only [parV]
  cases hc:cutL 58 l with
  | none =>
    rw [hc] at e1
    simp only [cutV] at e1
    refine call_of_wp zt192 rfl ?_
    repeat (first|apply wp_as|apply wp_ss|refine wr (by simp [e1];with_reducible rfl) ?_|refine wq (by simp [e1];with_reducible rfl) ?_|refine wt (by simpa [e1]) ?_|refine wf (by simpa [e1]) ?_|refine xt (by simpa [e1]) ?_|refine xf (by simpa [e1]) ?_|apply wp_bs|apply wp_b|refine wp_sr ?_|refine wp_sx ?_|refine wp_ret' ?_|refine wp_skip' ?_|refine wp_exit' ?_)
    simp [zi192]
  | some p =>
    obtain ⟨x,y⟩:=p
    rw [hc] at e1
    simp only [cutV] at e1
    have hx:x.length ≠ 1:=fun h1=>by
      obtain ⟨a,rfl⟩:=List.length_eq_one_iff.1 h1
      rw [candI,hc] at h;cases h
    have hx':¬ (x.length:Int)=1:=by omega
    have hs:(⟨x.toArray⟩:ByteArray).size=x.length:=rfl
    refine call_of_wp zt192 rfl ?_
    repeat (first|apply wp_as|apply wp_ss|refine wr (by simp [e1,hs,hx,hx'];with_reducible rfl) ?_|refine wq (by simp [e1,hs,hx,hx'];with_reducible rfl) ?_|refine wt (by simpa [e1,hs,hx,hx']) ?_|refine wf (by simpa [e1,hs,hx,hx']) ?_|refine xt (by simpa [e1,hs,hx,hx']) ?_|refine xf (by simpa [e1,hs,hx,hx']) ?_|apply wp_bs|apply wp_b|refine wp_sr ?_|refine wp_sx ?_|refine wp_ret' ?_|refine wp_skip' ?_|refine wp_exit' ?_)
    simp [zi192]
set_option maxHeartbeats 2000000 in
theorem ev_ParseGraph_cand (l:List UInt8) (hl:l.length≤1500000) (n:Int) (es:List (Int×Int)) (h:candI l=some (n,es)):Ev tb zl192 [] [SB l] [] ⟨parV (parI l),[],[],[]⟩:=by
  have e1:=ev_lim (ev_sCut l 58 (by omega))
  rw [parI,h]
  rw [candI] at h
  cases hc:cutL 58 l with
  | none=>rw [hc] at h;cases h
  | some p =>
  obtain ⟨x,y⟩:=p
  rw [hc] at h e1
  match x,h with
  | [hh],h =>
  simp only [Option.some.injEq,Prod.mk.injEq] at h
  obtain ⟨rfl,rfl⟩:=h
  simp only [cutV] at e1
  have hyl:y.length≤l.length:=by have:=(cutL_some hc).2.2.2;rw [this];simp;omega
  have e2:=ev_lim (ev_readDigits [hh] (by simp))
  rw [show nlI ([hh].map rdb)=O [rdb hh] from rfl] at e2
  have e3:=ev_lim (ev_Split y 44 (by omega))
  have hPl:=splL_len 44 y
  have q:=pg_loop l (rdb hh) (splL 44 y) (by omega) (fun p hp=>by have:=splL_mem 44 y p hp;omega) (splL 44 y).length 0 (by omega)
  rw [List.take_zero,show ((0:Nat):Int)=0 from rfl,show nl2 (edgI [])=Z from rfl] at q
  have hEl:=edgI_len (splL 44 y)
  have hF:=edgI_fit (splL 44 y)
  have hBl:(BSm (splL 44 y)).length=(splL 44 y).length:=by simp
  have hs:(⟨[hh].toArray⟩:ByteArray).size=1:=rfl
  generalize edgI (splL 44 y)=es at *
  have v1:=ev_lim (ev_ValidGraph (rdb hh) es false hF (by omega))
  have g1:=ev_lim (ev_impl_GraphText (rdb hh) es false hF (by omega))
  generalize BSm (splL 44 y)=B at *
  have so:=so_neq ⟨(gtx (rdb hh) es).toArray⟩ ⟨l.toArray⟩
  have hdec:decide ((⟨(gtx (rdb hh) es).toArray⟩:ByteArray)=⟨l.toArray⟩)=decide (gtx (rdb hh) es=l):=by
    rw [decide_eq_decide]
    constructor
    · intro h
      have:=congrArg (fun b:ByteArray=>b.data.toList) h
      simpa using this
    · intro h;rw [h]
  rw [hdec] at so
  have c2:∀ e0 c,(e0=2 ∨ es=[])→limF tb zl204 [] [.lst e0 (eds es) c] []=some ⟨O2 es,[],[],[]⟩:=fun e0 c he=>ev_lim (ev_clone2 e0 es c he (by omega))
  show Ev tb zl192 [] [SB l] [] ⟨parV (if vGraph (rdb hh) es=true∧gtx (rdb hh) es=l then some (rdb hh,es) else none),[],[],[]⟩
  by_cases hv:vGraph (rdb hh) es=true
  rotate_left
  · rw [if_neg (fun h=>hv h.1)]
    rw [Bool.not_eq_true] at hv
    rw [hv] at v1
    simp only [parV]
    refine call_of_wp zt192 rfl ?_
    repeat (first|apply wp_as|apply wp_ss|refine wr (by simp [e1,hs,e2,e3,hBl];with_reducible rfl) ?_|refine wq (by simp [e1,hs,e2,e3,hBl];with_reducible rfl) ?_|refine wt (by simpa [e1,hs,e2,e3,hBl]) ?_|refine wf (by simpa [e1,hs,e2,e3,hBl]) ?_|refine xt (by simpa [e1,hs,e2,e3,hBl]) ?_|refine xf (by simpa [e1,hs,e2,e3,hBl]) ?_|apply wp_bs|apply wp_b|refine wp_sr ?_|refine wp_sx ?_|refine wp_ret' ?_|refine wp_skip' ?_|refine wp_exit' ?_)
    refine wp_imp q ?_
    rintro ex st ⟨rfl,rfl⟩
    simp only [if_true]
    cases es with
    | nil =>
      rw [show nl2 []=Z from rfl]
      have c3:=c2 0 true (.inr rfl)
      simp only [Gr,L2,O2,eds_nil] at v1 g1 c3
      generalize gtx (rdb hh) []=S at *
      generalize rdb hh=N at *
      repeat (first|apply wp_as|apply wp_ss|refine wr (by simp [c3,v1,g1,so];with_reducible rfl) ?_|refine wq (by simp [c3,v1,g1,so];with_reducible rfl) ?_|refine wt (by simpa [c3,v1,g1,so]) ?_|refine wf (by simpa [c3,v1,g1,so]) ?_|refine xt (by simpa [c3,v1,g1,so]) ?_|refine xf (by simpa [c3,v1,g1,so]) ?_|apply wp_bs|apply wp_b|refine wp_sr ?_|refine wp_sx ?_|refine wp_ret' ?_|refine wp_skip' ?_|refine wp_exit' ?_)
      simp [zi192]
    | cons e r =>
      rw [show nl2 (e::r)=O2 (e::r) from rfl]
      have c3:=fun c=>c2 2 c (.inl rfl)
      have htk:(eds (e::r)).take (e::r).length=eds (e::r):=List.take_of_length_le (by simp)
      generalize e::r=es at *
      generalize gtx (rdb hh) es=S at *
      generalize rdb hh=N at *
      repeat (first|apply wp_as|apply wp_ss|refine wr (by simp [c3,v1,g1,so,htk];with_reducible rfl) ?_|refine wq (by simp [c3,v1,g1,so,htk];with_reducible rfl) ?_|refine wt (by simpa [c3,v1,g1,so,htk]) ?_|refine wf (by simpa [c3,v1,g1,so,htk]) ?_|refine xt (by simpa [c3,v1,g1,so,htk]) ?_|refine xf (by simpa [c3,v1,g1,so,htk]) ?_|apply wp_bs|apply wp_b|refine wp_sr ?_|refine wp_sx ?_|refine wp_ret' ?_|refine wp_skip' ?_|refine wp_exit' ?_)
      simp [zi192]
  rw [hv] at v1
  rw [hv,if_pos rfl] at g1
  by_cases hd:gtx (rdb hh) es=l
  rotate_left
  · rw [if_neg (fun h=>hd h.2)]
    rw [decide_eq_false hd] at so
    simp only [parV]
    refine call_of_wp zt192 rfl ?_
    repeat (first|apply wp_as|apply wp_ss|refine wr (by simp [e1,hs,e2,e3,hBl];with_reducible rfl) ?_|refine wq (by simp [e1,hs,e2,e3,hBl];with_reducible rfl) ?_|refine wt (by simpa [e1,hs,e2,e3,hBl]) ?_|refine wf (by simpa [e1,hs,e2,e3,hBl]) ?_|refine xt (by simpa [e1,hs,e2,e3,hBl]) ?_|refine xf (by simpa [e1,hs,e2,e3,hBl]) ?_|apply wp_bs|apply wp_b|refine wp_sr ?_|refine wp_sx ?_|refine wp_ret' ?_|refine wp_skip' ?_|refine wp_exit' ?_)
    refine wp_imp q ?_
    rintro ex st ⟨rfl,rfl⟩
    simp only [if_true]
    cases es with
    | nil =>
      rw [show nl2 []=Z from rfl]
      have c3:=c2 0 true (.inr rfl)
      simp only [Gr,L2,O2,eds_nil] at v1 g1 c3
      generalize gtx (rdb hh) []=S at *
      generalize rdb hh=N at *
      repeat (first|apply wp_as|apply wp_ss|refine wr (by simp [c3,v1,g1,so];with_reducible rfl) ?_|refine wq (by simp [c3,v1,g1,so];with_reducible rfl) ?_|refine wt (by simpa [c3,v1,g1,so]) ?_|refine wf (by simpa [c3,v1,g1,so]) ?_|refine xt (by simpa [c3,v1,g1,so]) ?_|refine xf (by simpa [c3,v1,g1,so]) ?_|apply wp_bs|apply wp_b|refine wp_sr ?_|refine wp_sx ?_|refine wp_ret' ?_|refine wp_skip' ?_|refine wp_exit' ?_)
      simp [zi192]
    | cons e r =>
      rw [show nl2 (e::r)=O2 (e::r) from rfl]
      have c3:=fun c=>c2 2 c (.inl rfl)
      have htk:(eds (e::r)).take (e::r).length=eds (e::r):=List.take_of_length_le (by simp)
      generalize e::r=es at *
      generalize gtx (rdb hh) es=S at *
      generalize rdb hh=N at *
      repeat (first|apply wp_as|apply wp_ss|refine wr (by simp [c3,v1,g1,so,htk];with_reducible rfl) ?_|refine wq (by simp [c3,v1,g1,so,htk];with_reducible rfl) ?_|refine wt (by simpa [c3,v1,g1,so,htk]) ?_|refine wf (by simpa [c3,v1,g1,so,htk]) ?_|refine xt (by simpa [c3,v1,g1,so,htk]) ?_|refine xf (by simpa [c3,v1,g1,so,htk]) ?_|apply wp_bs|apply wp_b|refine wp_sr ?_|refine wp_sx ?_|refine wp_ret' ?_|refine wp_skip' ?_|refine wp_exit' ?_)
      simp [zi192]
  · rw [if_pos ⟨hv,hd⟩]
    rw [decide_eq_true hd] at so
    simp only [parV]
    refine call_of_wp zt192 rfl ?_
    repeat (first|apply wp_as|apply wp_ss|refine wr (by simp [e1,hs,e2,e3,hBl];with_reducible rfl) ?_|refine wq (by simp [e1,hs,e2,e3,hBl];with_reducible rfl) ?_|refine wt (by simpa [e1,hs,e2,e3,hBl]) ?_|refine wf (by simpa [e1,hs,e2,e3,hBl]) ?_|refine xt (by simpa [e1,hs,e2,e3,hBl]) ?_|refine xf (by simpa [e1,hs,e2,e3,hBl]) ?_|apply wp_bs|apply wp_b|refine wp_sr ?_|refine wp_sx ?_|refine wp_ret' ?_|refine wp_skip' ?_|refine wp_exit' ?_)
    refine wp_imp q ?_
    rintro ex st ⟨rfl,rfl⟩
    simp only [if_true]
    cases es with
    | nil =>
      rw [show nl2 []=Z from rfl]
      have c3:=c2 0 true (.inr rfl)
      simp only [Gr,L2,O2,eds_nil] at v1 g1 c3
      generalize gtx (rdb hh) []=S at *
      generalize rdb hh=N at *
      repeat (first|apply wp_as|apply wp_ss|refine wr (by simp [c3,v1,g1,so];with_reducible rfl) ?_|refine wq (by simp [c3,v1,g1,so];with_reducible rfl) ?_|refine wt (by simpa [c3,v1,g1,so]) ?_|refine wf (by simpa [c3,v1,g1,so]) ?_|refine xt (by simpa [c3,v1,g1,so]) ?_|refine xf (by simpa [c3,v1,g1,so]) ?_|apply wp_bs|apply wp_b|refine wp_sr ?_|refine wp_sx ?_|refine wp_ret' ?_|refine wp_skip' ?_|refine wp_exit' ?_)
      simp [zi192]
    | cons e r =>
      rw [show nl2 (e::r)=O2 (e::r) from rfl]
      have c3:=fun c=>c2 2 c (.inl rfl)
      have htk:(eds (e::r)).take (e::r).length=eds (e::r):=List.take_of_length_le (by simp)
      generalize e::r=es at *
      generalize gtx (rdb hh) es=S at *
      generalize rdb hh=N at *
      repeat (first|apply wp_as|apply wp_ss|refine wr (by simp [c3,v1,g1,so,htk];with_reducible rfl) ?_|refine wq (by simp [c3,v1,g1,so,htk];with_reducible rfl) ?_|refine wt (by simpa [c3,v1,g1,so,htk]) ?_|refine wf (by simpa [c3,v1,g1,so,htk]) ?_|refine xt (by simpa [c3,v1,g1,so,htk]) ?_|refine xf (by simpa [c3,v1,g1,so,htk]) ?_|apply wp_bs|apply wp_b|refine wp_sr ?_|refine wp_sx ?_|refine wp_ret' ?_|refine wp_skip' ?_|refine wp_exit' ?_)
      simp [zi192]
end Go.Idl
namespace Go.Idl
open Go
def rds (b:UInt8):Int:=(b.toNat:Int) - 48
def trip:List UInt8→List (Int×Int)
  | a::b::_::r=>(rds a,rds b)::trip r
  | [a,b]=>[(rds a,rds b)]
  | _=>[]
theorem trip_two (a b:UInt8) (r:List UInt8):trip (a::b::r)=(rds a,rds b)::trip (r.drop 1):=by
  cases r with
  | nil=>rfl
  | cons c r=>rfl
theorem trip_few {l:List UInt8} (h:l.length≤1):trip l=[]:=by
  match l,h with
  | [],_=>rfl
  | [_],_=>rfl
theorem sp_loop (l:List UInt8) (n0:Int) (hl:l.length≤2000000):∀ (m i:Nat) (acc:List (Int×Int)),l.length≤i+m→2≤i→acc.length≤i→i≤l.length+3 →
    wp tb (.loop z367l8) { T:=[(0,SB l),(2,.bptr 0 0 0),(4,.bptr 0 1 0),(5,I i)],loc:=[[I 0,Z],[I n0,O2 acc]],M:=[] }
      (fun ex st=>ex=.exit 0∧∃ i':Int,st={ T:=[(0,SB l),(2,.bptr 0 0 0),(4,.bptr 0 1 0),(5,I i'),(20,Bo false)],loc:=[[I 0,Z],[I n0,O2 (acc++trip (l.drop i))]],M:=[] }):=by
  intro m
  induction m with
  | zero =>
    intro i acc hi h2 hal hi3
    have w1:IntKind.i64.wrap ((i:Int)+1)=((i+1:Nat):Int):=wrapS (by omega)
    have hs:(⟨l.toArray⟩:ByteArray).size=l.length:=rfl
    have h3:¬ ((i:Int)+1) < l.length:=by omega
    rw [trip_few (by rw [List.length_drop];omega),List.append_nil]
    refine wp_loop ?_
    repeat (first|apply wp_as|apply wp_ss|refine wr (by simp [w1,hs,h3];with_reducible rfl) ?_|refine wq (by simp [w1,hs,h3];with_reducible rfl) ?_|refine wt (by simpa [w1,hs,h3]) ?_|refine wf (by simpa [w1,hs,h3]) ?_|refine xt (by simpa [w1,hs,h3]) ?_|refine xf (by simpa [w1,hs,h3]) ?_|apply wp_bs|apply wp_b|refine wp_sr ?_|refine wp_sx ?_|refine wp_ret' ?_|refine wp_skip' ?_|refine wp_exit' ?_)
    exact ⟨rfl,_,rfl⟩
  | succ m ih =>
    intro i acc hi h2 hal hi3
    have w1:IntKind.i64.wrap ((i:Int)+1)=((i+1:Nat):Int):=wrapS (by omega)
    have hs:(⟨l.toArray⟩:ByteArray).size=l.length:=rfl
    by_cases hlt:i+1 < l.length
    · have h3:((i:Int)+1) < l.length:=by omega
      have hi1:i < l.length:=by omega
      have w2:IntKind.i64.wrap ((i:Int)+3)=((i+3:Nat):Int):=by rw [wrap64 (by omega) (by omega)];omega
      have g1:=bs_get? l i hi1
      have g2:=bs_get? l (i+1) hlt
      have b1:=l[i].toNat_lt
      have b2:=l[i+1].toNat_lt
      have x1:IntKind.i64.wrap (l[i].toNat:Int)=l[i].toNat:=wrap64 (by omega) (by omega)
      have x2:IntKind.i64.wrap ((l[i].toNat:Int) - 48)=rds l[i]:=wrap64 (by omega) (by omega)
      have x3:IntKind.i64.wrap (l[i+1].toNat:Int)=l[i+1].toNat:=wrap64 (by omega) (by omega)
      have x4:IntKind.i64.wrap ((l[i+1].toNat:Int) - 48)=rds l[i+1]:=wrap64 (by omega) (by omega)
      have hd:trip (l.drop i)=(rds l[i],rds l[i+1])::trip (l.drop (i+3)):=by
        rw [List.drop_eq_getElem_cons hi1,List.drop_eq_getElem_cons hlt,trip_two,List.drop_drop]
      have hn:=ih (i+3) (acc++[(rds l[i],rds l[i+1])]) (by omega) (by omega) (by simp;omega) (by omega)
      rw [hd,show ∀ T,acc++(rds l[i],rds l[i+1])::T=(acc++[(rds l[i],rds l[i+1])])++T from fun T=>by simp]
      have hlm:acc.length+1≤274877906944:=by omega
      have htA:acc.take acc.length=acc:=List.take_of_length_le (by omega)
      refine wp_loop ?_
      repeat (first|apply wp_as|apply wp_ss|refine wr (by simp [w1,hs,h3,hlt];with_reducible rfl) ?_|refine wq (by simp [w1,hs,h3,hlt];with_reducible rfl) ?_|refine wt (by simpa [w1,hs,h3,hlt]) ?_|refine wf (by simpa [w1,hs,h3,hlt]) ?_|refine xt (by simpa [w1,hs,h3,hlt]) ?_|refine xf (by simpa [w1,hs,h3,hlt]) ?_|apply wp_bs|apply wp_b|refine wp_sr ?_|refine wp_sx ?_|refine wp_ret' ?_|refine wp_skip' ?_|refine wp_exit' ?_)
      refine wp_rega (by simp [w1,g1,g2,x1,x2,x3,x4,hlm,htA];with_reducible rfl) (by simp;with_reducible rfl) ?_ ?_
      · intro p hp
        simp only [List.mem_cons,List.not_mem_nil,or_false] at hp
        rcases hp with rfl | rfl
        · exact ⟨_,by simp [w1,g1,g2,x1,x2,x3,x4,hlm,htA];with_reducible rfl,by simp⟩
        · exact ⟨_,by simp [w1,g1,g2,x1,x2,x3,x4,hlm,htA];with_reducible rfl,by simp⟩
      repeat (first|apply wp_as|apply wp_ss|refine wr (by simp [w2];with_reducible rfl) ?_|refine wq (by simp [w2];with_reducible rfl) ?_|refine wt (by simpa [w2]) ?_|refine wf (by simpa [w2]) ?_|refine xt (by simpa [w2]) ?_|refine xf (by simpa [w2]) ?_|apply wp_bs|apply wp_b|refine wp_sr ?_|refine wp_sx ?_|refine wp_ret' ?_|refine wp_skip' ?_|refine wp_exit' ?_)
      exact hn
    · have h3:¬ ((i:Int)+1) < l.length:=by omega
      rw [trip_few (by rw [List.length_drop];omega),List.append_nil]
      refine wp_loop ?_
      repeat (first|apply wp_as|apply wp_ss|refine wr (by simp [w1,hs,h3,hlt];with_reducible rfl) ?_|refine wq (by simp [w1,hs,h3,hlt];with_reducible rfl) ?_|refine wt (by simpa [w1,hs,h3,hlt]) ?_|refine wf (by simpa [w1,hs,h3,hlt]) ?_|refine xt (by simpa [w1,hs,h3,hlt]) ?_|refine xf (by simpa [w1,hs,h3,hlt]) ?_|apply wp_bs|apply wp_b|refine wp_sr ?_|refine wp_sx ?_|refine wp_ret' ?_|refine wp_skip' ?_|refine wp_exit' ?_)
      exact ⟨rfl,_,rfl⟩
theorem trip_len:∀ (m:Nat) (l:List UInt8),l.length≤m→(trip l).length≤l.length
  | 0,l,h=>by have:l=[]:=List.length_eq_zero_iff.1 (by omega);subst this;simp [trip]
  | m+1,l,h=>by
    match l,h with
    | [],_=>simp [trip]
    | [_],_=>simp [trip]
    | a::b::r,h =>
      rw [trip_two]
      have:=trip_len m (r.drop 1) (by simp at h ⊢;omega)
      simp at this ⊢;omega
def candS (l:List UInt8):Option (Int×List (Int×Int)):=match l with
  | h::_::r=>some (rds h,trip r)
  | _=>none
def parS (l:List UInt8):Option (Int×List (Int×Int)):=match candS l with
  | some (n,es)=>if vGraph n es=true∧gtx n es=l then some (n,es) else none
  | none=>none
theorem ev_sParse_few (l:List UInt8) (h:l.length < 2):Ev tb zl367 [] [SB l] [] ⟨.tup [.agg [I 0,Z],Bo false],[],[],[]⟩:=by
  have hs:(⟨l.toArray⟩:ByteArray).size=l.length:=rfl
  have h2:(l.length:Int) < 2:=by omega
  refine call_of_wp zt367 rfl ?_
  repeat (first|apply wp_as|apply wp_ss|refine wr (by simp [hs,h,h2];with_reducible rfl) ?_|refine wq (by simp [hs,h,h2];with_reducible rfl) ?_|refine wt (by simpa [hs,h,h2]) ?_|refine wf (by simpa [hs,h,h2]) ?_|refine xt (by simpa [hs,h,h2]) ?_|refine xf (by simpa [hs,h,h2]) ?_|apply wp_bs|apply wp_b|refine wp_sr ?_|refine wp_sx ?_|refine wp_ret' ?_|refine wp_skip' ?_|refine wp_exit' ?_)
  simp [zi367]
set_option maxHeartbeats 1000000 in
theorem ev_sParse (h0 h1:UInt8) (r:List UInt8) (hl:r.length≤1500000):Ev tb zl367 [] [SB (h0::h1::r)] []
    ⟨.tup [.agg [I (rds h0),O2 (trip r)],Bo (vGraph (rds h0) (trip r) && decide (gtx (rds h0) (trip r)=h0::h1::r))],[],[],[]⟩:=by
  obtain ⟨l,hl'⟩:∃ l,l=h0::h1::r:=⟨_,rfl⟩
  have hll:l.length=r.length+2:=by rw [hl'];rfl
  have hs:(⟨l.toArray⟩:ByteArray).size=l.length:=rfl
  have hg:=bs_get? l 0 (by omega)
  rw [show l[0]'(by omega)=h0 by simp [hl']] at hg
  have hdr:l.drop 2=r:=by rw [hl'];rfl
  have q:=sp_loop l (rds h0) (by omega) l.length 2 [] (by omega) (by omega) (by simp) (by omega)
  rw [hdr,List.nil_append,show ((2:Nat):Int)=2 from rfl] at q
  rw [← hl']
  have h2:¬ (l.length:Int) < 2:=by omega
  have h2':¬ l.length < 2:=by omega
  have b0:=h0.toNat_lt
  have x1:IntKind.i64.wrap (h0.toNat:Int)=h0.toNat:=wrap64 (by omega) (by omega)
  have x2:IntKind.i64.wrap ((h0.toNat:Int) - 48)=rds h0:=wrap64 (by omega) (by omega)
  have htl:=trip_len r.length r (Nat.le_refl _)
  have v1:=ev_lim (ev_validGraph (rds h0) (trip r) false (by omega))
  have so:=so_eql ⟨(gtx (rds h0) (trip r)).toArray⟩ ⟨l.toArray⟩
  have hdec:decide ((⟨(gtx (rds h0) (trip r)).toArray⟩:ByteArray)=⟨l.toArray⟩)=decide (gtx (rds h0) (trip r)=l):=by
    rw [decide_eq_decide]
    constructor
    · intro h
      have:=congrArg (fun b:ByteArray=>b.data.toList) h
      simpa using this
    · intro h;rw [h]
  rw [hdec] at so
  have htA:(trip r).take (trip r).length=trip r:=List.take_of_length_le (by omega)
  cases hv:vGraph (rds h0) (trip r) with
  | false =>
    rw [hv] at v1
    rw [Bool.false_and]
    generalize rds h0=N at *
    generalize trip r=es at *
    refine call_of_wp zt367 rfl ?_
    repeat (first|apply wp_as|apply wp_ss|refine wr (by simp [hs,h2,h2',hg,x1,x2];with_reducible rfl) ?_|refine wq (by simp [hs,h2,h2',hg,x1,x2];with_reducible rfl) ?_|refine wt (by simpa [hs,h2,h2',hg,x1,x2]) ?_|refine wf (by simpa [hs,h2,h2',hg,x1,x2]) ?_|refine xt (by simpa [hs,h2,h2',hg,x1,x2]) ?_|refine xf (by simpa [hs,h2,h2',hg,x1,x2]) ?_|apply wp_bs|apply wp_b|refine wp_sr ?_|refine wp_sx ?_|refine wp_ret' ?_|refine wp_skip' ?_|refine wp_exit' ?_)
    refine wp_imp q ?_
    rintro ex st ⟨rfl,i',rfl⟩
    simp only [if_true]
    repeat (first|apply wp_as|apply wp_ss|refine wr (by simp;with_reducible rfl) ?_|refine wq (by simp;with_reducible rfl) ?_|refine wt (by simpa) ?_|refine wf (by simpa) ?_|refine xt (by simpa) ?_|refine xf (by simpa) ?_|apply wp_bs|apply wp_b|refine wp_sr ?_|refine wp_sx ?_|refine wp_ret' ?_|refine wp_skip' ?_|refine wp_exit' ?_)
    refine wp_ra (by simp [v1,htA];with_reducible rfl) (by simp;with_reducible rfl) ?_ ?_
    · intro p hp
      simp only [List.mem_cons,List.not_mem_nil,or_false] at hp
      rcases hp with rfl | rfl | rfl
      · exact ⟨_,by simp [v1,htA];with_reducible rfl,by simp⟩
      · exact ⟨_,by simp [v1,htA];with_reducible rfl,by simp⟩
      · exact ⟨_,by simp [v1,htA];with_reducible rfl,by simp⟩
    repeat (first|apply wp_as|apply wp_ss|refine wr (by simp;with_reducible rfl) ?_|refine wq (by simp;with_reducible rfl) ?_|refine wt (by simpa) ?_|refine wf (by simpa) ?_|refine xt (by simpa) ?_|refine xf (by simpa) ?_|apply wp_bs|apply wp_b|refine wp_sr ?_|refine wp_sx ?_|refine wp_ret' ?_|refine wp_skip' ?_|refine wp_exit' ?_)
    simp [zi367]
  | true =>
    rw [hv] at v1
    rw [Bool.true_and]
    obtain ⟨m,hm,h7⟩:=vG_le hv
    have hv':vGraph (m:Int) (trip r)=true:=by rw [← hm];exact hv
    have hel:=vG_few hv'
    have g1:=ev_lim (ev_graphText m (trip r) false (by omega) (by omega) (digs_of h7 hv'))
    rw [← hm] at g1
    clear hm hv hv' hdec
    generalize decide (gtx (rds h0) (trip r)=l)=b at *
    generalize gtx (rds h0) (trip r)=S at *
    generalize rds h0=N at *
    generalize trip r=es at *
    refine call_of_wp zt367 rfl ?_
    repeat (first|apply wp_as|apply wp_ss|refine wr (by simp [hs,h2,h2',hg,x1,x2];with_reducible rfl) ?_|refine wq (by simp [hs,h2,h2',hg,x1,x2];with_reducible rfl) ?_|refine wt (by simpa [hs,h2,h2',hg,x1,x2]) ?_|refine wf (by simpa [hs,h2,h2',hg,x1,x2]) ?_|refine xt (by simpa [hs,h2,h2',hg,x1,x2]) ?_|refine xf (by simpa [hs,h2,h2',hg,x1,x2]) ?_|apply wp_bs|apply wp_b|refine wp_sr ?_|refine wp_sx ?_|refine wp_ret' ?_|refine wp_skip' ?_|refine wp_exit' ?_)
    refine wp_imp q ?_
    rintro ex st ⟨rfl,i',rfl⟩
    simp only [if_true]
    repeat (first|apply wp_as|apply wp_ss|refine wr (by simp;with_reducible rfl) ?_|refine wq (by simp;with_reducible rfl) ?_|refine wt (by simpa) ?_|refine wf (by simpa) ?_|refine xt (by simpa) ?_|refine xf (by simpa) ?_|apply wp_bs|apply wp_b|refine wp_sr ?_|refine wp_sx ?_|refine wp_ret' ?_|refine wp_skip' ?_|refine wp_exit' ?_)
    refine wp_ra (by simp [v1,g1,so,htA];with_reducible rfl) (by simp;with_reducible rfl) ?_ ?_
    · intro p hp
      simp only [List.mem_cons,List.not_mem_nil,or_false] at hp
      rcases hp with rfl | rfl | rfl
      · exact ⟨_,by simp [v1,g1,so,htA];with_reducible rfl,by simp⟩
      · exact ⟨_,by simp [v1,g1,so,htA];with_reducible rfl,by simp⟩
      · exact ⟨_,by simp [v1,g1,so,htA];with_reducible rfl,by simp⟩
    repeat (first|apply wp_as|apply wp_ss|refine wr (by simp;with_reducible rfl) ?_|refine wq (by simp;with_reducible rfl) ?_|refine wt (by simpa) ?_|refine wf (by simpa) ?_|refine xt (by simpa) ?_|refine xf (by simpa) ?_|apply wp_bs|apply wp_b|refine wp_sr ?_|refine wp_sx ?_|refine wp_ret' ?_|refine wp_skip' ?_|refine wp_exit' ?_)
    simp [zi367]
theorem ev_spec_ParseGraph (l:List UInt8) (hl:l.length≤1500000):Ev tb zl323 [] [SB l] [] ⟨parV (parS l),[],[],[]⟩:=by
  match l,hl with
  | [],_ =>
    have e1:=ev_lim (ev_sParse_few [] (by simp))
    simp only [parS,candS,parV]
    refine call_of_wp zt323 rfl ?_
    repeat (first|apply wp_as|apply wp_ss|refine wr (by simp [e1];with_reducible rfl) ?_|refine wq (by simp [e1];with_reducible rfl) ?_|refine wt (by simpa [e1]) ?_|refine wf (by simpa [e1]) ?_|refine xt (by simpa [e1]) ?_|refine xf (by simpa [e1]) ?_|apply wp_bs|apply wp_b|refine wp_sr ?_|refine wp_sx ?_|refine wp_ret' ?_|refine wp_skip' ?_|refine wp_exit' ?_)
    simp [zi323]
  | [a],_ =>
    have e1:=ev_lim (ev_sParse_few [a] (by simp))
    simp only [parS,candS,parV]
    refine call_of_wp zt323 rfl ?_
    repeat (first|apply wp_as|apply wp_ss|refine wr (by simp [e1];with_reducible rfl) ?_|refine wq (by simp [e1];with_reducible rfl) ?_|refine wt (by simpa [e1]) ?_|refine wf (by simpa [e1]) ?_|refine xt (by simpa [e1]) ?_|refine xf (by simpa [e1]) ?_|apply wp_bs|apply wp_b|refine wp_sr ?_|refine wp_sx ?_|refine wp_ret' ?_|refine wp_skip' ?_|refine wp_exit' ?_)
    simp [zi323]
  | h0::h1::r,hl =>
    have e1:=ev_lim (ev_sParse h0 h1 r (by simp at hl;omega))
    by_cases hc:vGraph (rds h0) (trip r)=true∧gtx (rds h0) (trip r)=h0::h1::r
    · have hp:parS (h0::h1::r)=some (rds h0,trip r):=by simp only [parS,candS];rw [if_pos hc]
      rw [hp]
      rw [hc.1,decide_eq_true hc.2,Bool.and_self] at e1
      simp only [parV]
      generalize trip r=es at *
      generalize rds h0=N at *
      generalize h0::h1::r=l at *
      have htA:(eds es).take es.length=eds es:=List.take_of_length_le (by simp)
      refine call_of_wp zt323 rfl ?_
      repeat (first|apply wp_as|apply wp_ss|refine wr (by simp [e1,htA];with_reducible rfl) ?_|refine wq (by simp [e1,htA];with_reducible rfl) ?_|refine wt (by simpa [e1,htA]) ?_|refine wf (by simpa [e1,htA]) ?_|refine xt (by simpa [e1,htA]) ?_|refine xf (by simpa [e1,htA]) ?_|apply wp_bs|apply wp_b|refine wp_sr ?_|refine wp_sx ?_|refine wp_ret' ?_|refine wp_skip' ?_|refine wp_exit' ?_)
      simp [zi323]
    · have hp:parS (h0::h1::r)=none:=by simp only [parS,candS];rw [if_neg hc]
      rw [hp]
      have hb:(vGraph (rds h0) (trip r) && decide (gtx (rds h0) (trip r)=h0::h1::r))=false:=by
        rw [Bool.and_eq_false_iff]
        by_cases h1:vGraph (rds h0) (trip r)=true
        · exact .inr (decide_eq_false fun h2=>hc ⟨h1,h2⟩)
        · exact .inl (by simpa using h1)
      rw [hb] at e1
      simp only [parV]
      generalize trip r=es at *
      generalize rds h0=N at *
      generalize h0::h1::r=l at *
      refine call_of_wp zt323 rfl ?_
      repeat (first|apply wp_as|apply wp_ss|refine wr (by simp [e1];with_reducible rfl) ?_|refine wq (by simp [e1];with_reducible rfl) ?_|refine wt (by simpa [e1]) ?_|refine wf (by simpa [e1]) ?_|refine xt (by simpa [e1]) ?_|refine xf (by simpa [e1]) ?_|apply wp_bs|apply wp_b|refine wp_sr ?_|refine wp_sx ?_|refine wp_ret' ?_|refine wp_skip' ?_|refine wp_exit' ?_)
      simp [zi323]
end Go.Idl
namespace Go.Idl
theorem dgt_nat {x:Int} (h:0≤x∧x < 10):(dgt x).toNat=48+x.toNat:=by
  rw [dgt,UInt8.toNat_ofNat']
  omega
theorem rds_dgt {x:Int} (h:0≤x∧x < 10):rds (dgt x)=x:=by rw [rds,dgt_nat h];omega
theorem rdb_dgt {x:Int} (h:0≤x∧x < 10):rdb (dgt x)=x:=by
  rw [rdb,dgt_nat h,if_neg (by omega)];omega
theorem dgt_ne {x:Int} (h:0≤x∧x < 10):dgt x ≠ 58∧dgt x ≠ 44:=by
  have h1:=dgt_nat h
  constructor
  · intro hc
    rw [hc] at h1
    have:(58:UInt8).toNat=58:=rfl
    omega
  · intro hc
    rw [hc] at h1
    have:(44:UInt8).toNat=44:=rfl
    omega
theorem etx_one (e:Int×Int):etx [e]=[dgt e.1,dgt e.2]:=by simp [etx,joinL]
theorem etx_two (e f:Int×Int) (r:List (Int×Int)):etx (e::f::r)=dgt e.1::dgt e.2::44::etx (f::r):=by simp [etx,joinL]
theorem digs_tail {e:Int×Int} {r:List (Int×Int)} (h:Digs (e::r)):Digs r:=fun x hx=>h x (by simp [hx])
theorem spl_etx:∀ {es:List (Int×Int)},Digs es→edgI (splL 44 (etx es))=es
  | [],_=>rfl
  | [e],h=>by
    have he:=h e (by simp)
    have h1:=(dgt_ne ⟨he.1,he.2.1⟩).2
    have h2:=(dgt_ne ⟨he.2.2.1,he.2.2.2⟩).2
    have q1:=rdb_dgt ⟨he.1,he.2.1⟩
    have q2:=rdb_dgt ⟨he.2.2.1,he.2.2.2⟩
    rw [etx_one]
    simp only [splL,if_neg h1,if_neg h2,edgI,List.flatMap_cons,List.flatMap_nil,edg,q1,q2,List.append_nil]
  | e::f::r,h=>by
    have he:=h e (by simp)
    have h1:=(dgt_ne ⟨he.1,he.2.1⟩).2
    have h2:=(dgt_ne ⟨he.2.2.1,he.2.2.2⟩).2
    have q1:=rdb_dgt ⟨he.1,he.2.1⟩
    have q2:=rdb_dgt ⟨he.2.2.1,he.2.2.2⟩
    have ih:=spl_etx (digs_tail h)
    rw [etx_two,splL,if_neg h1,splL,if_neg h2,splL,if_pos rfl]
    simp only [edgI,List.flatMap_cons,edg,q1,q2]
    rw [← edgI,ih];rfl
theorem trip_etx:∀ {es:List (Int×Int)},Digs es→trip (etx es)=es
  | [],_=>rfl
  | [e],h=>by
    have he:=h e (by simp)
    rw [etx_one]
    simp only [trip,rds_dgt ⟨he.1,he.2.1⟩,rds_dgt ⟨he.2.2.1,he.2.2.2⟩]
  | e::f::r,h=>by
    have he:=h e (by simp)
    rw [etx_two,trip,trip_etx (digs_tail h),rds_dgt ⟨he.1,he.2.1⟩,rds_dgt ⟨he.2.2.1,he.2.2.2⟩]
theorem cand_gtx {n:Int} {es:List (Int×Int)} (hv:vGraph n es=true):candI (gtx n es)=some (n,es)∧candS (gtx n es)=some (n,es):=by
  obtain ⟨m,rfl,h7⟩:=vG_le hv
  have hd:=digs_of h7 hv
  have hm:0≤(m:Int)∧(m:Int) < 10:=by omega
  have hg:gtx (m:Int) es=dgt m::58::etx es:=rfl
  rw [hg]
  constructor
  · have hc:cutL 58 (dgt m::58::etx es)=some ([dgt m],etx es):=by
      rw [cutL,if_neg (dgt_ne hm).1,cutL,if_pos rfl]
    simp only [candI,hc,rdb_dgt hm,spl_etx hd]
  · simp only [candS,rds_dgt hm,trip_etx hd]
theorem parI_some {l:List UInt8} {n:Int} {es:List (Int×Int)} (h:parI l=some (n,es)):vGraph n es=true∧gtx n es=l:=by
  rw [parI] at h
  split at h
  · split at h
    · rename_i hc
      simp only [Option.some.injEq,Prod.mk.injEq] at h
      obtain ⟨rfl,rfl⟩:=h
      exact hc
    · cases h
  · cases h
theorem parS_some {l:List UInt8} {n:Int} {es:List (Int×Int)} (h:parS l=some (n,es)):vGraph n es=true∧gtx n es=l:=by
  rw [parS] at h
  split at h
  · split at h
    · rename_i hc
      simp only [Option.some.injEq,Prod.mk.injEq] at h
      obtain ⟨rfl,rfl⟩:=h
      exact hc
    · cases h
  · cases h
theorem par_gtx {n:Int} {es:List (Int×Int)} (hv:vGraph n es=true):parI (gtx n es)=some (n,es)∧parS (gtx n es)=some (n,es):=by
  obtain ⟨h1,h2⟩:=cand_gtx hv
  constructor
  · simp [parI,h1,hv]
  · simp [parS,h2,hv]
theorem par_eq (l:List UInt8):parI l=parS l:=by
  cases h1:parI l with
  | some p =>
    obtain ⟨n,es⟩:=p
    obtain ⟨hv,rfl⟩:=parI_some h1
    exact (par_gtx hv).2.symm
  | none =>
    cases h2:parS l with
    | none=>rfl
    | some p =>
      obtain ⟨n,es⟩:=p
      obtain ⟨hv,rfl⟩:=parS_some h2
      rw [(par_gtx hv).1] at h1
      cases h1
theorem ev_impl_ParseGraph (l:List UInt8) (hl:l.length≤1500000):Ev tb zl192 [] [SB l] [] ⟨parV (parI l),[],[],[]⟩:=by
  cases h:candI l with
  | none =>
    have:parI l=none:=by simp only [parI,h]
    rw [this]
    exact ev_ParseGraph_cut l (by omega) h
  | some p=>exact ev_ParseGraph_cand l hl p.1 p.2 h
end Go.Idl
namespace Go.Idl
open Go
structure SmallG (n:Int) (es:List (Int×Int)):Prop where
  n1:-1≤n
  n2:n≤8
  len:es.length≤60
  el:∀ e ∈ es,-1≤e.1∧e.1≤8∧-1≤e.2∧e.2≤8
theorem SmallG.fit {n es} (h:SmallG n es):Fit es:=fun e he=>by have:=h.el e he;omega
end Go.Idl
namespace Go.Idl
open Go
theorem bs_of (b:ByteArray):(⟨b.data.toList.toArray⟩:ByteArray)=b:=by
  cases b;rfl
end Go.Idl
namespace Go.Idl
open Go
@[simp] theorem fi_cons (p:IV→Bool) (x:IV) (xs:List IV):(x::xs).findIdx? p=if p x then some 0 else (xs.findIdx? p).map (·+1):=List.findIdx?_cons
@[simp] theorem eds_rep (n:Nat):List.replicate n [IV.sc (.int .i64 0),IV.sc (.int .i64 0)]=eds (List.replicate n (0,0)):=by simp [eds]
theorem ev_eqEdge (a b:Int):Ev tb zl48 [] [.agg [I a,I b],.agg [I a,I b]] [] ⟨Bo true,[],[],[]⟩:=by
  refine call_of_wp zt48 rfl ?_
  repeat (first|apply wp_as|apply wp_ss|refine wr (by simp;with_reducible rfl) ?_|refine wq (by simp;with_reducible rfl) ?_|refine wt (by simpa) ?_|refine wf (by simpa) ?_|refine xt (by simpa) ?_|refine xf (by simpa) ?_|apply wp_bs|apply wp_b|refine wp_sr ?_|refine wp_sx ?_|refine wp_ret' ?_|refine wp_skip' ?_|refine wp_exit' ?_)
  simp [zi48]
theorem eqE_loop (a:List (Int×Int)) (c d:Bool) (hl:a.length≤2000000):∀ (m i:Nat),i+m=a.length →
    wp tb (.loop z49l8) { T:=[(0,L2 a c),(1,L2 a d),(5,I i)],loc:=[],M:=[] }
      (fun ex st=>ex=.exit 0∧st={ T:=[(0,L2 a c),(1,L2 a d),(5,I a.length),(14,Bo false)],loc:=[],M:=[] }):=by
  intro m
  induction m with
  | zero =>
    intro i hi
    have h3:i=a.length:=hi
    subst h3
    refine wp_loop ?_
    repeat (first|apply wp_as|apply wp_ss|refine wr (by simp;with_reducible rfl) ?_|refine wq (by simp;with_reducible rfl) ?_|refine wt (by simpa) ?_|refine wf (by simpa) ?_|refine xt (by simpa) ?_|refine xf (by simpa) ?_|apply wp_bs|apply wp_b|refine wp_sr ?_|refine wp_sx ?_|refine wp_ret' ?_|refine wp_skip' ?_|refine wp_exit' ?_)
    exact ⟨rfl,rfl⟩
  | succ m ih =>
    intro i hi
    have hi2:i < a.length:=by omega
    have w2:IntKind.i64.wrap ((i:Int)+1)=((i+1:Nat):Int):=wrapS (by omega)
    have hg:=ih (i+1) (by omega)
    obtain ⟨⟨p,q⟩,hx⟩:∃ x,x=a[i]:=⟨_,rfl⟩
    have hx:=hx.symm
    have e1:=ev_lim (ev_eqEdge p q)
    refine wp_loop ?_
    repeat (first|apply wp_as|apply wp_ss|refine wr (by simp [hi2,w2,hx,e1];with_reducible rfl) ?_|refine wq (by simp [hi2,w2,hx,e1];with_reducible rfl) ?_|refine wt (by simpa [hi2,w2,hx,e1]) ?_|refine wf (by simpa [hi2,w2,hx,e1]) ?_|refine xt (by simpa [hi2,w2,hx,e1]) ?_|refine xf (by simpa [hi2,w2,hx,e1]) ?_|apply wp_bs|apply wp_b|refine wp_sr ?_|refine wp_sx ?_|refine wp_ret' ?_|refine wp_skip' ?_|refine wp_exit' ?_)
    exact hg
theorem ev_eqEdgeS (a:List (Int×Int)) (c d:Bool) (hl:a.length≤2000000):Ev tb zl49 [] [L2 a c,L2 a d] [] ⟨Bo true,[],[],[]⟩:=by
  have hlo:=eqE_loop a c d hl a.length 0 (by omega)
  rw [show ((0:Nat):Int)=0 from rfl] at hlo
  refine call_of_wp zt49 rfl ?_
  repeat (first|apply wp_as|apply wp_ss|refine wr (by simp;with_reducible rfl) ?_|refine wq (by simp;with_reducible rfl) ?_|refine wt (by simpa) ?_|refine wf (by simpa) ?_|refine xt (by simpa) ?_|refine xf (by simpa) ?_|apply wp_bs|apply wp_b|refine wp_sr ?_|refine wp_sx ?_|refine wp_ret' ?_|refine wp_skip' ?_|refine wp_exit' ?_)
  refine wp_imp hlo ?_
  rintro ex st ⟨rfl,rfl⟩
  try simp only [if_true]
  repeat (first|apply wp_as|apply wp_ss|refine wr (by simp;with_reducible rfl) ?_|refine wq (by simp;with_reducible rfl) ?_|refine wt (by simpa) ?_|refine wf (by simpa) ?_|refine xt (by simpa) ?_|refine xf (by simpa) ?_|apply wp_bs|apply wp_b|refine wp_sr ?_|refine wp_sx ?_|refine wp_ret' ?_|refine wp_skip' ?_|refine wp_exit' ?_)
  simp [zi49]
theorem ev_eqEdgeS_Z (x y:IV) (hx:x=Z ∨ ∃ c,x=L2 [] c) (hy:y=Z ∨ ∃ c,y=L2 [] c):Ev tb zl49 [] [x,y] [] ⟨Bo true,[],[],[]⟩:=by
  rcases hx with rfl | ⟨c,rfl⟩ <;> rcases hy with rfl | ⟨d,rfl⟩ <;>
  · refine call_of_wp zt49 rfl ?_
    repeat (first|apply wp_as|apply wp_ss|refine wr (by simp;with_reducible rfl) ?_|refine wq (by simp;with_reducible rfl) ?_|refine wt (by simpa) ?_|refine wf (by simpa) ?_|refine xt (by simpa) ?_|refine xf (by simpa) ?_|apply wp_bs|apply wp_b|refine wp_sr ?_|refine wp_sx ?_|refine wp_ret' ?_|refine wp_skip' ?_|refine wp_exit' ?_)
    refine wp_loop ?_
    repeat (first|apply wp_as|apply wp_ss|refine wr (by simp;with_reducible rfl) ?_|refine wq (by simp;with_reducible rfl) ?_|refine wt (by simpa) ?_|refine wf (by simpa) ?_|refine xt (by simpa) ?_|refine xf (by simpa) ?_|apply wp_bs|apply wp_b|refine wp_sr ?_|refine wp_sx ?_|refine wp_ret' ?_|refine wp_skip' ?_|refine wp_exit' ?_)
    simp [zi49]
theorem ev_eqGraph (n:Int) (a:List (Int×Int)) (c d:Bool) (hl:a.length≤2000000):Ev tb zl50 [] [Gr n a c,Gr n a d] [] ⟨Bo true,[],[],[]⟩:=by
  have e1:=fun c d=>ev_lim (ev_eqEdgeS a c d hl)
  refine call_of_wp zt50 rfl ?_
  repeat (first|apply wp_as|apply wp_ss|refine wr (by simp [e1];with_reducible rfl) ?_|refine wq (by simp [e1];with_reducible rfl) ?_|refine wt (by simpa [e1]) ?_|refine wf (by simpa [e1]) ?_|refine xt (by simpa [e1]) ?_|refine xf (by simpa [e1]) ?_|apply wp_bs|apply wp_b|refine wp_sr ?_|refine wp_sx ?_|refine wp_ret' ?_|refine wp_skip' ?_|refine wp_exit' ?_)
  simp [zi50]
theorem ev_eqGraph_Z (n:Int) (x y:IV) (hx:x=Z ∨ ∃ c,x=L2 [] c) (hy:y=Z ∨ ∃ c,y=L2 [] c):Ev tb zl50 [] [.agg [I n,x],.agg [I n,y]] [] ⟨Bo true,[],[],[]⟩:=by
  have e1:=ev_lim (ev_eqEdgeS_Z x y hx hy)
  rcases hx with rfl | ⟨c,rfl⟩ <;> rcases hy with rfl | ⟨d,rfl⟩ <;>
  · try simp only [L2,eds_nil] at e1 ⊢
    refine call_of_wp zt50 rfl ?_
    repeat (first|apply wp_as|apply wp_ss|refine wr (by simp [e1];with_reducible rfl) ?_|refine wq (by simp [e1];with_reducible rfl) ?_|refine wt (by simpa [e1]) ?_|refine wf (by simpa [e1]) ?_|refine xt (by simpa [e1]) ?_|refine xf (by simpa [e1]) ?_|apply wp_bs|apply wp_b|refine wp_sr ?_|refine wp_sx ?_|refine wp_ret' ?_|refine wp_skip' ?_|refine wp_exit' ?_)
    simp [zi50]
def mrk2 (k:Int) (n:Nat):List (Int×Int):=(List.range n).map fun i:Nat=>(k+2 * (i:Int),k+2 * (i:Int)+1)
theorem mrk2_len (k:Int) (n:Nat):(mrk2 k n).length=n:=by simp [mrk2]
theorem mrk2_get (k:Int) (n i:Nat) (h:i < (mrk2 k n).length):(mrk2 k n)[i]=(k+2 * (i:Int),k+2 * (i:Int)+1):=by simp [mrk2]
theorem mrk2_take (k:Int) (n:Nat):(mrk2 k n).take n=mrk2 k n:=List.take_of_length_le (by rw [mrk2_len];exact Nat.le_refl n)
theorem mkE_loop (k:Int) (n:Nat) (hn:n≤10000000) (hk:0≤k∧k≤100000000):∀ (m i:Nat) (A:List (Int×Int)),i+m=n→A.length=n→A.take i=(mrk2 k n).take i →
    wp tb (.loop z56l8) { T:=[(0,O2 A),(1,I (k+2 * i)),(5,I i)],loc:=[],M:=[] }
      (fun ex st=>ex=.exit 0∧st={ T:=[(0,O2 (mrk2 k n)),(1,I (k+2 * n)),(5,I n),(9,Bo false)],loc:=[],M:=[] }):=by
  intro m
  induction m with
  | zero =>
    intro i A hi hA ht
    have h3:i=n:=hi
    subst h3
    rw [List.take_of_length_le (by omega),List.take_of_length_le (by rw [mrk2_len];omega)] at ht
    subst ht
    refine wp_loop ?_
    repeat (first|apply wp_as|apply wp_ss|refine wr (by simp [mrk2_len];with_reducible rfl) ?_|refine wq (by simp [mrk2_len];with_reducible rfl) ?_|refine wt (by simpa [mrk2_len]) ?_|refine wf (by simpa [mrk2_len]) ?_|refine xt (by simpa [mrk2_len]) ?_|refine xf (by simpa [mrk2_len]) ?_|apply wp_bs|apply wp_b|refine wp_sr ?_|refine wp_sx ?_|refine wp_ret' ?_|refine wp_skip' ?_|refine wp_exit' ?_)
    exact ⟨rfl,rfl⟩
  | succ m ih =>
    intro i A hi hA ht
    have hi2:i < A.length:=by omega
    have w2:IntKind.i64.wrap ((i:Int)+1)=((i+1:Nat):Int):=wrapS (by omega)
    have w3:IntKind.i64.wrap (k+2 * (i:Int)+1)=k+2 * (i:Int)+1:=by rw [wrap64 (by omega) (by omega)]
    have w4:IntKind.i64.wrap (k+2 * (i:Int)+1+1)=k+2 * ((i+1:Nat):Int):=by rw [wrap64 (by omega) (by omega)];omega
    have hg:=ih (i+1) (A.set i (k+2 * (i:Int),k+2 * (i:Int)+1)) (by omega) (by simpa using hA) (by
      rw [List.take_succ_eq_append_getElem (by simpa using hi2),List.take_succ_eq_append_getElem (by rw [mrk2_len];omega),List.take_set_of_le (Nat.le_refl _),ht,mrk2_get];simp)
    obtain ⟨⟨p,q⟩,hx⟩:∃ x,x=A[i]:=⟨_,rfl⟩
    have hx:=hx.symm
    refine wp_loop ?_
    repeat (first|apply wp_as|apply wp_ss|refine wr (by simp [hi2,w2,w3,w4,hx];with_reducible rfl) ?_|refine wq (by simp [hi2,w2,w3,w4,hx];with_reducible rfl) ?_|refine wt (by simpa [hi2,w2,w3,w4,hx]) ?_|refine wf (by simpa [hi2,w2,w3,w4,hx]) ?_|refine xt (by simpa [hi2,w2,w3,w4,hx]) ?_|refine xf (by simpa [hi2,w2,w3,w4,hx]) ?_|apply wp_bs|apply wp_b|refine wp_sr ?_|refine wp_sx ?_|refine wp_ret' ?_|refine wp_skip' ?_|refine wp_exit' ?_)
    exact hg
theorem ev_markEdgeS (a:List (Int×Int)) (k:Int) (hl:a.length≤10000000) (hk:0≤k∧k≤100000000):Ev tb zl56 [0] [O2 a,I k] [] ⟨I (k+2 * a.length),[O2 (mrk2 k a.length)],[],[]⟩:=by
  have hlo:=mkE_loop k a.length hl hk a.length 0 a (by omega) rfl (by simp)
  rw [show k+2 * ((0:Nat):Int)=k by omega,show ((0:Nat):Int)=0 from rfl] at hlo
  refine call_of_wp zt56 rfl ?_
  repeat (first|apply wp_as|apply wp_ss|refine wr (by simp;with_reducible rfl) ?_|refine wq (by simp;with_reducible rfl) ?_|refine wt (by simpa) ?_|refine wf (by simpa) ?_|refine xt (by simpa) ?_|refine xf (by simpa) ?_|apply wp_bs|apply wp_b|refine wp_sr ?_|refine wp_sx ?_|refine wp_ret' ?_|refine wp_skip' ?_|refine wp_exit' ?_)
  refine wp_imp hlo ?_
  rintro ex st ⟨rfl,rfl⟩
  try simp only [if_true]
  repeat (first|apply wp_as|apply wp_ss|refine wr (by simp;with_reducible rfl) ?_|refine wq (by simp;with_reducible rfl) ?_|refine wt (by simpa) ?_|refine wf (by simpa) ?_|refine xt (by simpa) ?_|refine xf (by simpa) ?_|apply wp_bs|apply wp_b|refine wp_sr ?_|refine wp_sx ?_|refine wp_ret' ?_|refine wp_skip' ?_|refine wp_exit' ?_)
  simp [zi56]
theorem ev_markEdgeS_Z (k:Int):Ev tb zl56 [] [Z,I k] [] ⟨I k,[],[],[]⟩:=by
  refine call_of_wp zt56 rfl ?_
  repeat (first|apply wp_as|apply wp_ss|refine wr (by simp;with_reducible rfl) ?_|refine wq (by simp;with_reducible rfl) ?_|refine wt (by simpa) ?_|refine wf (by simpa) ?_|refine xt (by simpa) ?_|refine xf (by simpa) ?_|apply wp_bs|apply wp_b|refine wp_sr ?_|refine wp_sx ?_|refine wp_ret' ?_|refine wp_skip' ?_|refine wp_exit' ?_)
  refine wp_loop ?_
  repeat (first|apply wp_as|apply wp_ss|refine wr (by simp;with_reducible rfl) ?_|refine wq (by simp;with_reducible rfl) ?_|refine wt (by simpa) ?_|refine wf (by simpa) ?_|refine xt (by simpa) ?_|refine xf (by simpa) ?_|apply wp_bs|apply wp_b|refine wp_sr ?_|refine wp_sx ?_|refine wp_ret' ?_|refine wp_skip' ?_|refine wp_exit' ?_)
  simp [zi56]
theorem hdE_loop (k:Int) (n:Nat) (c:Bool) (hn:n≤10000000) (hk:0≤k∧k≤100000000):∀ (m i:Nat),i+m=n →
    wp tb (.loop z239l10) { T:=[(0,L2 (mrk2 k n) c),(1,I (k+2 * i)),(5,I i)],loc:=[],M:=[] }
      (fun ex st=>ex=.exit 0∧st={ T:=[(0,L2 (mrk2 k n) c),(1,I (k+2 * n)),(5,I n),(9,Bo false)],loc:=[],M:=[] }):=by
  intro m
  induction m with
  | zero =>
    intro i hi
    have h3:i=n:=hi
    subst h3
    refine wp_loop ?_
    repeat (first|apply wp_as|apply wp_ss|refine wr (by simp [mrk2_len];with_reducible rfl) ?_|refine wq (by simp [mrk2_len];with_reducible rfl) ?_|refine wt (by simpa [mrk2_len]) ?_|refine wf (by simpa [mrk2_len]) ?_|refine xt (by simpa [mrk2_len]) ?_|refine xf (by simpa [mrk2_len]) ?_|apply wp_bs|apply wp_b|refine wp_sr ?_|refine wp_sx ?_|refine wp_ret' ?_|refine wp_skip' ?_|refine wp_exit' ?_)
    exact ⟨rfl,rfl⟩
  | succ m ih =>
    intro i hi
    have hi2:i < n:=by omega
    have w2:IntKind.i64.wrap ((i:Int)+1)=((i+1:Nat):Int):=wrapS (by omega)
    have w3:IntKind.i64.wrap (k+2 * (i:Int)+1)=k+2 * (i:Int)+1:=by rw [wrap64 (by omega) (by omega)]
    have w4:IntKind.i64.wrap (k+2 * (i:Int)+1+1)=k+2 * ((i+1:Nat):Int):=by rw [wrap64 (by omega) (by omega)];omega
    have hg:=ih (i+1) (by omega)
    refine wp_loop ?_
    repeat (first|apply wp_as|apply wp_ss|refine wr (by simp [mrk2_len,hi2,w2,w3,w4,mrk2_get];with_reducible rfl) ?_|refine wq (by simp [mrk2_len,hi2,w2,w3,w4,mrk2_get];with_reducible rfl) ?_|refine wt (by simpa [mrk2_len,hi2,w2,w3,w4,mrk2_get]) ?_|refine wf (by simpa [mrk2_len,hi2,w2,w3,w4,mrk2_get]) ?_|refine xt (by simpa [mrk2_len,hi2,w2,w3,w4,mrk2_get]) ?_|refine xf (by simpa [mrk2_len,hi2,w2,w3,w4,mrk2_get]) ?_|apply wp_bs|apply wp_b|refine wp_sr ?_|refine wp_sx ?_|refine wp_ret' ?_|refine wp_skip' ?_|refine wp_exit' ?_)
    exact hg
theorem ev_heldEdgeS (k:Int) (n:Nat) (c:Bool) (hl:n≤10000000) (hk:0≤k∧k≤100000000):Ev tb zl239 [] [L2 (mrk2 k n) c,I k] [] ⟨I (k+2 * n),[],[],[]⟩:=by
  have hlo:=hdE_loop k n c hl hk n 0 (by omega)
  rw [show k+2 * ((0:Nat):Int)=k by omega,show ((0:Nat):Int)=0 from rfl] at hlo
  refine call_of_wp zt239 rfl ?_
  repeat (first|apply wp_as|apply wp_ss|refine wr (by simp;with_reducible rfl) ?_|refine wq (by simp;with_reducible rfl) ?_|refine wt (by simpa) ?_|refine wf (by simpa) ?_|refine xt (by simpa) ?_|refine xf (by simpa) ?_|apply wp_bs|apply wp_b|refine wp_sr ?_|refine wp_sx ?_|refine wp_ret' ?_|refine wp_skip' ?_|refine wp_exit' ?_)
  refine wp_imp hlo ?_
  rintro ex st ⟨rfl,rfl⟩
  try simp only [if_true]
  repeat (first|apply wp_as|apply wp_ss|refine wr (by simp;with_reducible rfl) ?_|refine wq (by simp;with_reducible rfl) ?_|refine wt (by simpa) ?_|refine wf (by simpa) ?_|refine xt (by simpa) ?_|refine xf (by simpa) ?_|apply wp_bs|apply wp_b|refine wp_sr ?_|refine wp_sx ?_|refine wp_ret' ?_|refine wp_skip' ?_|refine wp_exit' ?_)
  simp [zi239]
theorem ev_heldEdgeS_Z (k:Int):Ev tb zl239 [] [Z,I k] [] ⟨I k,[],[],[]⟩:=by
  refine call_of_wp zt239 rfl ?_
  repeat (first|apply wp_as|apply wp_ss|refine wr (by simp;with_reducible rfl) ?_|refine wq (by simp;with_reducible rfl) ?_|refine wt (by simpa) ?_|refine wf (by simpa) ?_|refine xt (by simpa) ?_|refine xf (by simpa) ?_|apply wp_bs|apply wp_b|refine wp_sr ?_|refine wp_sx ?_|refine wp_ret' ?_|refine wp_skip' ?_|refine wp_exit' ?_)
  refine wp_loop ?_
  repeat (first|apply wp_as|apply wp_ss|refine wr (by simp;with_reducible rfl) ?_|refine wq (by simp;with_reducible rfl) ?_|refine wt (by simpa) ?_|refine wf (by simpa) ?_|refine xt (by simpa) ?_|refine xf (by simpa) ?_|apply wp_bs|apply wp_b|refine wp_sr ?_|refine wp_sx ?_|refine wp_ret' ?_|refine wp_skip' ?_|refine wp_exit' ?_)
  simp [zi239]
theorem ev_markGraph (n:Int) (a:List (Int×Int)) (k:Int) (hl:a.length≤10000000) (hk:0≤k∧k≤100000000):Ev tb zl57 [0] [OG n a,I k] [] ⟨I (k+2 * a.length),[OG n (mrk2 k a.length)],[],[]⟩:=by
  have e1:=ev_lim (ev_markEdgeS a k hl hk)
  have hs:(eds (mrk2 k a.length)).all (·.all IV.isSc)=true:=by
    rw [List.all_eq_true];intro x hx
    obtain ⟨e,_,rfl⟩:=List.mem_map.1 hx
    rfl
  refine call_of_wp zt57 rfl ?_
  refine ⟨_,by simp [z57r0,z57r1,e1,hs];with_reducible rfl,?_⟩
  repeat (first|apply wp_as|apply wp_ss|refine wr (by simp;with_reducible rfl) ?_|refine wq (by simp;with_reducible rfl) ?_|refine wt (by simpa) ?_|refine wf (by simpa) ?_|refine xt (by simpa) ?_|refine xf (by simpa) ?_|apply wp_bs|apply wp_b|refine wp_sr ?_|refine wp_sx ?_|refine wp_ret' ?_|refine wp_skip' ?_|refine wp_exit' ?_)
  simp [zi57]
theorem ev_markGraph_Z (n:Int) (k:Int):Ev tb zl57 [] [.agg [I n,Z],I k] [] ⟨I k,[],[],[]⟩:=by
  have e1:=ev_lim (ev_markEdgeS_Z k)
  refine call_of_wp zt57 rfl ?_
  refine ⟨_,by simp [z57r0,z57r1,e1];with_reducible rfl,?_⟩
  repeat (first|apply wp_as|apply wp_ss|refine wr (by simp;with_reducible rfl) ?_|refine wq (by simp;with_reducible rfl) ?_|refine wt (by simpa) ?_|refine wf (by simpa) ?_|refine xt (by simpa) ?_|refine xf (by simpa) ?_|apply wp_bs|apply wp_b|refine wp_sr ?_|refine wp_sx ?_|refine wp_ret' ?_|refine wp_skip' ?_|refine wp_exit' ?_)
  simp [zi57]
theorem ev_heldGraph (n:Int) (k:Int) (m:Nat) (c:Bool) (hl:m≤10000000) (hk:0≤k∧k≤100000000):Ev tb zl240 [] [Gr n (mrk2 k m) c,I k] [] ⟨I (k+2 * m),[],[],[]⟩:=by
  have e1:=fun c=>ev_lim (ev_heldEdgeS k m c hl hk)
  have h0:¬ (k+2 * (m:Int) < 0):=by omega
  refine call_of_wp zt240 rfl ?_
  repeat (first|apply wp_as|apply wp_ss|refine wr (by simp [e1,h0];with_reducible rfl) ?_|refine wq (by simp [e1,h0];with_reducible rfl) ?_|refine wt (by simpa [e1,h0]) ?_|refine wf (by simpa [e1,h0]) ?_|refine xt (by simpa [e1,h0]) ?_|refine xf (by simpa [e1,h0]) ?_|apply wp_bs|apply wp_b|refine wp_sr ?_|refine wp_sx ?_|refine wp_ret' ?_|refine wp_skip' ?_|refine wp_exit' ?_)
  simp [zi240]
theorem ev_heldGraph_Z (n:Int) (k:Int) (hk:0≤k):Ev tb zl240 [] [.agg [I n,Z],I k] [] ⟨I k,[],[],[]⟩:=by
  have e1:=ev_lim (ev_heldEdgeS_Z k)
  have h0:¬ (k < 0):=by omega
  refine call_of_wp zt240 rfl ?_
  repeat (first|apply wp_as|apply wp_ss|refine wr (by simp [e1,h0];with_reducible rfl) ?_|refine wq (by simp [e1,h0];with_reducible rfl) ?_|refine wt (by simpa [e1,h0]) ?_|refine wf (by simpa [e1,h0]) ?_|refine xt (by simpa [e1,h0]) ?_|refine xf (by simpa [e1,h0]) ?_|apply wp_bs|apply wp_b|refine wp_sr ?_|refine wp_sx ?_|refine wp_ret' ?_|refine wp_skip' ?_|refine wp_exit' ?_)
  simp [zi240]
end Go.Idl
namespace Go.Idl
structure Seg {α:Type} (X X':List α) (a b:Nat):Prop where
  perm:X'.Perm X
  out:∀ k,k < a ∨ b≤k→X'[k]? = X[k]?
theorem Seg.len {α:Type} {X X':List α} {a b:Nat} (h:Seg X X' a b):X'.length=X.length:=h.perm.length_eq
theorem Seg.refl {α:Type} (X:List α) (a b:Nat):Seg X X a b:=⟨.refl _,fun _ _=>rfl⟩
theorem Seg.trans {α:Type} {X Y Z:List α} {a b:Nat} (h:Seg X Y a b) (k:Seg Y Z a b):Seg X Z a b:=⟨k.perm.trans h.perm,fun i hi=>(k.out i hi).trans (h.out i hi)⟩
theorem Seg.mono {α:Type} {X Y:List α} {a b a' b':Nat} (h:Seg X Y a b) (h1:a'≤a) (h2:b≤b'):Seg X Y a' b':=⟨h.perm,fun i hi=>h.out i (by omega)⟩
theorem Seg.nodup {α:Type} {X Y:List α} {a b:Nat} (h:Seg X Y a b) (hn:X.Nodup):Y.Nodup:=h.perm.nodup_iff.2 hn
def swapL {α:Type} (X:List α) (i j:Nat) (hi:i < X.length) (hj:j < X.length):List α:=(X.set i X[j]).set j X[i]
theorem swapL_len {α:Type} (X:List α) (i j:Nat) (hi hj):(swapL X i j hi hj).length=X.length:=by simp [swapL]
theorem swapL_get {α:Type} (X:List α) (i j:Nat) (hi:i < X.length) (hj:j < X.length) (k:Nat):(swapL X i j hi hj)[k]? = if k=j then some X[i] else if k=i then some X[j] else X[k]?:=by
  rw [swapL,List.getElem?_set,List.getElem?_set]
  by_cases h1:k=j
  · subst h1;simp [hj]
  · by_cases h2:k=i
    · subst h2;simp [hi,h1,Ne.symm h1]
    · simp [h1,h2,Ne.symm h1,Ne.symm h2]
theorem swapL_perm {α:Type} (X:List α) (i j:Nat) (hi:i < X.length) (hj:j < X.length):(swapL X i j hi hj).Perm X:=by
  exact List.set_set_perm hi hj
theorem swapL_seg {α:Type} (X:List α) (i j a b:Nat) (hi:i < X.length) (hj:j < X.length) (h1:a≤i∧i < b) (h2:a≤j∧j < b):Seg X (swapL X i j hi hj) a b :=
  ⟨swapL_perm X i j hi hj,fun k hk=>by rw [swapL_get,if_neg (by omega),if_neg (by omega)]⟩
theorem Seg.back {α:Type} {X Y:List α} {a b:Nat} (h:Seg X Y a b) (hn:X.Nodup) {k:Nat} (hk:a≤k∧k < b) {e:α} (he:Y[k]? = some e):∃ l,(a≤l∧l < b)∧X[l]? = some e:=by
  have hm:e ∈ X:=h.perm.mem_iff.1 (List.mem_of_getElem? he)
  obtain ⟨l,hl,rfl⟩:=List.getElem_of_mem hm
  by_cases hlb:a≤l∧l < b
  · exact ⟨l,hlb,List.getElem?_eq_getElem hl⟩
  · have h1:=h.out l (by omega)
    rw [List.getElem?_eq_getElem hl] at h1
    have hny:=h.nodup hn
    have hkl:k < Y.length:=(List.getElem?_eq_some_iff.1 he).1
    have hll:l < Y.length:=by rw [h.len];exact hl
    have h2:=(List.getElem?_eq_some_iff.1 he).2
    have h3:=(List.getElem?_eq_some_iff.1 h1).2
    have h4:k=l:=(List.getElem_inj hny).1 (h2.trans h3.symm)
    omega
end Go.Idl
namespace Go.Idl
open Go
def BelowOn (X:List (Int×Int)) (lo hi:Nat) (x:Int×Int):Prop:=∀ k e,lo≤k→k < hi→X[k]? = some e→below e x=true
def AboveOn (X:List (Int×Int)) (lo hi:Nat) (x:Int×Int):Prop:=∀ k e,lo≤k→k < hi→X[k]? = some e→below e x=false
theorem AboveOn.cons {X:List (Int×Int)} {lo hi:Nat} {x:Int×Int} (h:AboveOn X (lo+1) hi x) (hl:lo < X.length) (hb:below X[lo] x=false):AboveOn X lo hi x:=fun k e h1 h2 he=>by
  by_cases hk:k=lo
  · subst hk
    rw [List.getElem?_eq_getElem hl] at he
    cases he;exact hb
  · exact h k e (by omega) h2 he
structure PInv (X0 X:List (Int×Int)) (a b i j:Nat) (x:Int×Int):Prop where
  seg:Seg X0 X a b
  piv:X[a]? = some x
  lo:BelowOn X (a+1) i x
  hi:AboveOn X (j+1) b x
  ai:a+1≤i
  ij:i≤j+1
  jb:j < b
  bl:b≤X.length
theorem PInv.al {X0 X a b i j x} (h:PInv X0 X a b i j x):a < X.length:=(List.getElem?_eq_some_iff.1 h.piv).1
theorem PInv.xa {X0 X a b i j x} (h:PInv X0 X a b i j x):X[a]'h.al=x:=(List.getElem?_eq_some_iff.1 h.piv).2
theorem PInv.swap {X0 X a b i j x} (h:PInv X0 X a b i j x) (hi:i < X.length) (hj:j < X.length) (hij:i≤j) (h1:below X[i] x=false) (h2:below X[j] x=true) :
    ∃ q,j=q+1∧i < j∧PInv X0 (swapL X i j hi hj) a b (i+1) q x:=by
  have hne:i ≠ j:=by rintro rfl;rw [h1] at h2;cases h2
  have hb:=h.bl
  have hjb:=h.jb
  have hai:=h.ai
  refine ⟨j - 1,by omega,by omega,h.seg.trans (swapL_seg X i j a b hi hj (by omega) (by omega)),?_,?_,?_,by omega,by omega,by omega,by rw [swapL_len];exact hb⟩
  · rw [swapL_get,if_neg (by omega),if_neg (by omega)];exact h.piv
  · intro k e k1 k2 he
    rw [swapL_get,if_neg (by omega)] at he
    by_cases hk:k=i
    · rw [if_pos hk] at he
      cases he;exact h2
    · rw [if_neg hk] at he
      exact h.lo k e k1 (by omega) he
  · intro k e k1 k2 he
    rw [swapL_get] at he
    by_cases hk:k=j
    · rw [if_pos hk] at he
      cases he;exact h1
    · rw [if_neg hk,if_neg (by omega)] at he
      exact h.hi k e (by omega) k2 he
theorem PInv.fin {X0 X a b j x} (h:PInv X0 X a b (j+1) j x) (hj:j < X.length):Seg X0 (swapL X j a hj h.al) a b∧(swapL X j a hj h.al)[j]? = some x∧BelowOn (swapL X j a hj h.al) a j x∧AboveOn (swapL X j a hj h.al) (j+1) b x:=by
  have hb:=h.bl
  have hjb:=h.jb
  have hai:=h.ai
  have hxa:=h.xa
  refine ⟨h.seg.trans (swapL_seg X j a a b hj h.al (by omega) (by omega)),?_,fun k e k1 k2 he=>?_,fun k e k1 k2 he=>?_⟩
  · rw [swapL_get]
    by_cases hja:j=a
    · subst hja;rw [if_pos rfl,hxa]
    · rw [if_neg hja,if_pos rfl,hxa]
  · rw [swapL_get] at he
    by_cases hka:k=a
    · rw [if_pos hka] at he
      cases he
      exact h.lo j _ (by omega) (by omega) (List.getElem?_eq_getElem hj)
    · rw [if_neg hka,if_neg (by omega)] at he
      exact h.lo k e (by omega) (by omega) he
  · rw [swapL_get,if_neg (by omega),if_neg (by omega)] at he
    exact h.hi k e k1 k2 he
end Go.Idl
namespace Go.Idl
open Go
def apart (a b c d:Int):Bool:=decide (a ≠ b) && decide (a ≠ c) && decide (a ≠ d) && decide (b ≠ c) && decide (b ≠ d) && decide (c ≠ d)
def gone (a b c d:Int) (x:Int×Int):Bool:=decide (x=(min a b,max a b)) || decide (x=(min c d,max c d))
end Go.Idl
namespace Go.Idl
open Go
abbrev Q4:=Int×Int×Int×Int
def sws (xs:List Q4):List (List IV):=xs.map fun s=>[I s.1,I s.2.1,I s.2.2.1,I s.2.2.2]
@[simp] theorem sws_len (xs:List Q4):(sws xs).length=xs.length:=by simp [sws]
@[simp] theorem sws_nil:sws []=[]:=rfl
@[simp] theorem sws_take (xs:List Q4) (n:Nat):(sws xs).take n=sws (xs.take n):=by simp [sws,List.map_take]
@[simp] theorem sws_drop (xs:List Q4) (n:Nat):(sws xs).drop n=sws (xs.drop n):=by simp [sws,List.map_drop]
@[simp] theorem sws_one (xs:List Q4) (a b c d:Int):sws xs++[[IV.sc (.int .i64 a),IV.sc (.int .i64 b),IV.sc (.int .i64 c),IV.sc (.int .i64 d)]]=sws (xs++[(a,b,c,d)]):=by simp [sws]
@[simp] theorem sws_get (xs:List Q4) (i:Nat) (h:i < (sws xs).length):(sws xs)[i]=[IV.sc (.int .i64 (xs[i]'(by simpa [sws] using h)).1),IV.sc (.int .i64 (xs[i]'(by simpa [sws] using h)).2.1),IV.sc (.int .i64 (xs[i]'(by simpa [sws] using h)).2.2.1),IV.sc (.int .i64 (xs[i]'(by simpa [sws] using h)).2.2.2)]:=by simp [sws]
@[simp] theorem sws_get? (xs:List Q4) (i:Nat):(sws xs)[i]? = xs[i]?.map fun s=>[IV.sc (.int .i64 s.1),IV.sc (.int .i64 s.2.1),IV.sc (.int .i64 s.2.2.1),IV.sc (.int .i64 s.2.2.2)]:=by simp [sws]
@[simp] theorem sws_all1 (xs:List Q4):((sws xs).all fun x=>x.all IV.plain1)=true:=by
  induction xs with
  | nil=>rfl
  | cons x xs ih=>simp only [sws,List.map_cons,List.all_cons] at *;rw [ih];rfl
@[simp] theorem sws_all2 (xs:List Q4):((sws xs).all fun x=>x.all IV.isData)=true:=by
  induction xs with
  | nil=>rfl
  | cons x xs ih=>simp only [sws,List.map_cons,List.all_cons] at *;rw [ih];rfl
@[simp] theorem sws_noLst (xs:List Q4):noLstLL (sws xs)=true:=by
  induction xs with
  | nil=>rfl
  | cons x xs ih=>simp only [sws,List.map_cons,noLstLL,noLstL,noLstV] at *;rw [ih];rfl
@[simp] theorem frz_sws (xs:List Q4):frzLL (sws xs)=sws xs:=by
  induction xs with
  | nil=>rfl
  | cons x xs ih=>simp only [sws,List.map_cons,frzLL,frzL,frzV] at *;rw [ih]
end Go.Idl
namespace Go.Idl
open Go
def gls (n:Int) (gl:List (List (Int×Int))):List (List IV):=gl.map fun es=>[I n,O2 es]
@[simp] theorem gls_len (n:Int) (gl):(gls n gl).length=gl.length:=by simp [gls]
@[simp] theorem gls_one (n:Int) (gl) (es:List (Int×Int)):gls n gl++[[IV.sc (.int .i64 n),.own 2 (eds es)]]=gls n (gl++[es]):=by simp [gls]
@[simp] theorem gls_emp (n:Int) (gl):(gls n gl).isEmpty=gl.isEmpty:=by cases gl <;> rfl
@[simp] theorem gls_take (n:Int) (gl) (k:Nat):(gls n gl).take k=gls n (gl.take k):=by simp [gls,List.map_take]
@[simp] theorem gls_all (n:Int) (gl):((gls n gl).all fun x=>x.all IV.isData)=true:=by
  induction gl with
  | nil=>rfl
  | cons x xs ih=>simp only [gls,List.map_cons,List.all_cons] at *;rw [ih];rfl
@[simp] theorem gls_noLst (n:Int) (gl):noLstLL (gls n gl)=true:=by
  induction gl with
  | nil=>rfl
  | cons x xs ih=>simp only [gls,List.map_cons,noLstLL,noLstL,noLstV,eds_noLst] at *;rw [ih];rfl
end Go.Idl
namespace Go.Idl
open Go
abbrev GF:=List (List (Int×Int)×Bool)
def glf (n:Int) (R:GF):List (List IV):=R.map fun x=>[I n,L2 x.1 x.2]
@[simp] theorem glf_len (n:Int) (R:GF):(glf n R).length=R.length:=by simp [glf]
@[simp] theorem glf_nil (n:Int):glf n []=[]:=rfl
@[simp] theorem glf_app (n:Int) (R S:GF):glf n R++glf n S=glf n (R++S):=by simp [glf]
@[simp] theorem glf_take (n:Int) (R:GF) (k:Nat):(glf n R).take k=glf n (R.take k):=by simp [glf,List.map_take]
@[simp] theorem glf_all (n:Int) (R:GF):((glf n R).all fun x=>x.all IV.isData)=true:=by
  induction R with
  | nil=>rfl
  | cons x xs ih=>simp only [glf,List.map_cons,List.all_cons] at *;rw [ih];rfl
end Go.Idl
namespace Go.Idl
open Go
@[simp] theorem un_neg (n:Int):Op.unary .neg (.int .i64 n)=.pure (.int .i64 (IntKind.i64.wrap (-n))):=by
  rw [← Int.zero_sub];rfl
def gs (r c:List Int) (i:Nat):Int:=-((fall r).take (i+1)).sum+(c.map fun x:Int=>min x ((i:Int)+1)).sum
end Go.Idl
namespace Go.Idl
open Go
def TT (n:Nat) (t:List (List Int)):Prop:=t.length=n∧∀ r ∈ t,r.length=n∧∀ x ∈ r,0≤x∧x≤1
theorem TT.set {n:Nat} {t:List (List Int)} (h:TT n t) {a b:Nat} {v:Int} (ha:a < t.length) (hv:0≤v∧v≤1):TT n (t.set a (t[a].set b v)):=by
  refine ⟨by simpa using h.1,fun r hr=>?_⟩
  have h1:=h.2 _ (List.getElem_mem ha)
  rcases List.mem_or_eq_of_mem_set hr with hr | rfl
  · exact h.2 r hr
  · refine ⟨by simpa using h1.1,fun x hx=>?_⟩
    rcases List.mem_or_eq_of_mem_set hx with hx | rfl
    · exact h1.2 x hx
    · exact hv
end Go.Idl
namespace Go.Idl
open Go
def MM (h w:Nat) (t:List (List Int)):Prop:=t.length=h∧∀ r ∈ t,r.length=w∧∀ x ∈ r,0≤x∧x≤1
end Go.Idl
namespace Go.Idl
open Go
theorem MM.sums {h w:Nat} {t:List (List Int)} (ht:MM h w t) (hw:w≤5):∀ x ∈ t.map List.sum,0≤x∧x≤5:=by
  intro x hx
  obtain ⟨r,hr,rfl⟩:=List.mem_map.1 hx
  have h1:=ht.2 r hr
  have:=sum01 r h1.2
  omega
end Go.Idl
namespace Go.Idl
def insP (x:Nat×Nat):List (Nat×Nat)→List (Nat×Nat)
  | []=>[x]
  | y::r=>if Nat.ble y.1 x.1 then x::y::r else y::insP x r
def hh:Nat→List (Nat×Nat)→List (Nat×Nat)
  | 0,_=>[]
  | _+1,[]=>[]
  | m+1,x::r=>(r.take x.1).map (fun y:Nat×Nat=>(x.2,y.2))++hh m ((((r.take x.1).map (fun y:Nat×Nat=>(y.1 - 1,y.2))++r.drop x.1:List (Nat×Nat))).foldr insP [])
def mk (u v:Nat):Int×Int:=(min (u:Int) v,max (u:Int) v)
end Go.Idl
namespace Go.Idl
open Go
@[simp] theorem sws_rep (n:Nat):List.replicate n [IV.sc (.int .i64 0),IV.sc (.int .i64 0),IV.sc (.int .i64 0),IV.sc (.int .i64 0)]=sws (List.replicate n (0,0,0,0)):=by simp [sws]
@[simp] theorem sws_set (xs:List Q4) (i:Nat) (a b c d:Int):(sws xs).set i [IV.sc (.int .i64 a),IV.sc (.int .i64 b),IV.sc (.int .i64 c),IV.sc (.int .i64 d)]=sws (xs.set i (a,b,c,d)):=by
  simp [sws,List.map_set]
theorem mrk2_sc (k:Int) (n:Nat):(eds (mrk2 k n)).all (·.all IV.isSc)=true:=by
  rw [List.all_eq_true];intro x hx
  obtain ⟨e,_,rfl⟩:=List.mem_map.1 hx
  rfl
end Go.Idl
namespace Go.Idl
open Go
theorem vG_few' {n:Int} {es:List (Int×Int)} (h:vGraph n es=true):es.length≤49:=by
  obtain ⟨m,rfl,h7⟩:=vG_le h
  exact vG_few h
set_option maxHeartbeats 4000000 in
theorem ev_FnExactParseGraph (b:ByteArray):Ev tb zl425 [] [Str b] [] ⟨Bo true,[],[],[]⟩:=by
  by_cases hc:1048576 < b.size
  · have hc':(1048576:Int) < b.size:=by omega
    refine call_of_wp zt425 rfl ?_
    repeat (first|apply wp_as|apply wp_ss|refine wr (by simp [hc,hc'];with_reducible rfl) ?_|refine wq (by simp [hc,hc'];with_reducible rfl) ?_|refine wt (by simpa [hc,hc']) ?_|refine wf (by simpa [hc,hc']) ?_|refine xt (by simpa [hc,hc']) ?_|refine xf (by simpa [hc,hc']) ?_|apply wp_bs|apply wp_b|refine wp_sr ?_|refine wp_sx ?_|refine wp_ret' ?_|refine wp_skip' ?_|refine wp_exit' ?_)
    simp [zi425]
  rw [← bs_of b] at *
  generalize b.data.toList=l at *
  have hs:(⟨l.toArray⟩:ByteArray).size=l.length:=rfl
  rw [hs] at hc
  have hc':¬ (1048576:Int) < l.length:=by omega
  have e2:=ev_lim (ev_impl_ParseGraph l (by omega))
  have e3:=ev_lim (ev_spec_ParseGraph l (by omega))
  rw [← par_eq] at e3
  cases hp:parI l with
  | none =>
    rw [hp] at e2 e3
    simp only [parV] at e2 e3
    have ez:=ev_lim (ev_eqGraph_Z 0 Z Z (.inl rfl) (.inl rfl))
    have m2:=ev_lim (ev_markGraph_Z 0 1)
    have m3:=ev_lim (ev_heldGraph_Z 0 1 (by omega))
    refine call_of_wp zt425 rfl ?_
    repeat (first|apply wp_as|apply wp_ss|refine wr (by simp [hs,hc,hc',e2,e3,ez,m2,m3];with_reducible rfl) ?_|refine wq (by simp [hs,hc,hc',e2,e3,ez,m2,m3];with_reducible rfl) ?_|refine wt (by simpa [hs,hc,hc',e2,e3,ez,m2,m3]) ?_|refine wf (by simpa [hs,hc,hc',e2,e3,ez,m2,m3]) ?_|refine xt (by simpa [hs,hc,hc',e2,e3,ez,m2,m3]) ?_|refine xf (by simpa [hs,hc,hc',e2,e3,ez,m2,m3]) ?_|apply wp_bs|apply wp_b|refine wp_sr ?_|refine wp_sx ?_|refine wp_ret' ?_|refine wp_skip' ?_|refine wp_exit' ?_)
    simp [zi425]
  | some p =>
    obtain ⟨n,es⟩:=p
    obtain ⟨hv,hg⟩:=parI_some hp
    rw [hp] at e2 e3
    simp only [parV] at e2 e3
    have hel:=vG_few' hv
    have ez:=fun c d=>ev_lim (ev_eqGraph n es c d (by omega))
    have m2:=ev_lim (ev_markGraph n es 1 (by omega) (by omega))
    have m3:=fun c=>ev_lim (ev_heldGraph n 1 es.length c (by omega) (by omega))
    have h9:¬ (1+2 * (es.length:Int) < 0):=by omega
    have hs2:=mrk2_sc 1 es.length
    refine call_of_wp zt425 rfl ?_
    repeat (first|apply wp_as|apply wp_ss|refine wr (by simp [hs,hc,hc',e2,e3,ez,m2,m3,h9,hs2,mrk2_len,mrk2_take];with_reducible rfl) ?_|refine wq (by simp [hs,hc,hc',e2,e3,ez,m2,m3,h9,hs2,mrk2_len,mrk2_take];with_reducible rfl) ?_|refine wt (by simpa [hs,hc,hc',e2,e3,ez,m2,m3,h9,hs2,mrk2_len,mrk2_take]) ?_|refine wf (by simpa [hs,hc,hc',e2,e3,ez,m2,m3,h9,hs2,mrk2_len,mrk2_take]) ?_|refine xt (by simpa [hs,hc,hc',e2,e3,ez,m2,m3,h9,hs2,mrk2_len,mrk2_take]) ?_|refine xf (by simpa [hs,hc,hc',e2,e3,ez,m2,m3,h9,hs2,mrk2_len,mrk2_take]) ?_|apply wp_bs|apply wp_b|refine wp_sr ?_|refine wp_sx ?_|refine wp_ret' ?_|refine wp_skip' ?_|refine wp_exit' ?_)
    simp [zi425]
end Go.Idl
