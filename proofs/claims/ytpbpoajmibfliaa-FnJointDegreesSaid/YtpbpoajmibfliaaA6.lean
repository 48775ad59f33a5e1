/- Part 6 of a proof by an ideal interpreter of the code: its definitions and lemmas. Conditions: none. -/
import Derived.KernelRfl
import Derived.Test.YtpbpoajmibfliaaA5
set_option linter.all false
set_option linter.unusedVariables false
set_option linter.unusedSimpArgs false
namespace Go.Idl
open Go
theorem ev_in (n lo hi:Int):Ev tb zl38 [] [I n,I lo,I hi] [] ⟨Bo (decide (lo≤n) && decide (n≤hi)),[],[],[]⟩:=by
  refine call_of_wp zt38 rfl ?_
  refine wp_rs (by simp;rfl) (by simp;rfl) ?_
  by_cases h:lo≤n
  · refine wp_rs (by simp [h];rfl) (by simp;rfl) ?_
    refine wp_ret' ?_
    simp [h,zi38]
  · refine wp_rs (by simp [h];rfl) (by simp;rfl) ?_
    refine wp_ret' ?_
    simp [h,zi38]
theorem ev_inRange (n lo hi:Int):Ev tb zl132 [] [I n,I lo,I hi] [] ⟨Bo (decide (lo≤n) && decide (n≤hi)),[],[],[]⟩:=by
  refine call_of_wp zt132 rfl ?_
  refine wp_rs (by simp;rfl) (by simp;rfl) ?_
  by_cases h:lo≤n
  · refine wp_rs (by simp [h];rfl) (by simp;rfl) ?_
    refine wp_ret' ?_
    simp [h,zi132]
  · refine wp_rs (by simp [h];rfl) (by simp;rfl) ?_
    refine wp_ret' ?_
    simp [h,zi132]
def SmallSum (xs:List Int):Prop:=xs.length≤2000000∧∀ k,-4611686018427387904≤(xs.take k).sum∧(xs.take k).sum≤4611686018427387904
theorem ev_Clip (xs:List Int):Ev tb zl70 [] [.own 1 (ints xs)] [] ⟨.own 1 (ints xs),[],[],[]⟩:=by
  refine call_of_wp zt70 rfl ?_
  refine wp_rs (by simp;rfl) (by simp;rfl) ?_
  refine wp_rs (by simp;rfl) (by simp;rfl) ?_
  refine wp_ret' ?_
  simp [zi70]
theorem ev_Clone (xs:List Int) (c:Bool) (hl:xs.length≤2000000):Ev tb zl71 [] [.lst 1 (ints xs) c] [] ⟨.own 1 (ints xs),[],[],[]⟩:=by
  refine call_of_wp zt71 rfl ?_
  refine wp_rs (by simp;rfl) (by simp;rfl) ?_
  refine wp_nil2 (b:=xs.isEmpty) (by simp [z71r1];rfl) (by simp) ?_ ?_ ?_ (ex:=.ret) (st':={ T:=[(2,.own 1 (ints xs))],loc:=[],M:=[] })
  · refine wp_ct (t:=false) (by simp) (by simp) fun _=>wp_ss ?_
    refine wp_rs (by simp [show xs.length≤274877906944 by omega];rfl) (by simp;rfl) ?_
    refine wp_ret' ?_
    simp
  · intro he
    have:xs=[]:=by simpa using he
    subst this
    refine wp_ct (t:=true) (by simp) (fun _=>wp_as ?_) (by simp)
    refine wp_rs (by simp;rfl) (by simp;rfl) ?_
    refine wp_sr ?_
    simp
  · simp [zi71]
theorem ev_clone (xs:List Int) (c:Bool) (hl:xs.length≤2000000) :
    Ev tb zl31 [] [.lst 1 (ints xs) c] [] ⟨.own 1 (ints xs),[],[],[]⟩:=by
  have e1:=ev_lim (ev_Clone xs c hl)
  have e2:=ev_lim (ev_Clip xs)
  refine call_of_wp zt31 rfl ?_
  refine wp_rs (by simp;rfl) (by simp;rfl) ?_
  refine wp_rs (by simp [e1,e2];rfl) (by simp;rfl) ?_
  refine wp_ret' ?_
  simp [zi31]
end Go.Idl
namespace Go.Idl
def insD (x:Int):List Int→List Int
  | []=>[x]
  | y::ys=>if x≤y then y::insD x ys else x::y::ys
def fall (xs:List Int):List Int:=xs.foldl (fun out x=>insD x out) []
abbrev Desc (xs:List Int):Prop:=xs.Pairwise (fun a b=>b≤a)
abbrev Asc (xs:List Int):Prop:=xs.Pairwise (fun a b=>a≤b)
theorem insD_perm (x:Int) (ys:List Int):(insD x ys).Perm (x::ys):=by
  induction ys with
  | nil=>exact .refl _
  | cons y ys ih =>
    unfold insD
    split
    · exact (ih.cons y).trans (.swap x y ys)
    · exact .refl _
theorem insD_desc (x:Int) (ys:List Int) (h:Desc ys):Desc (insD x ys):=by
  induction ys with
  | nil=>simp [insD]
  | cons y ys ih =>
    unfold insD
    have h:=List.pairwise_cons.1 h
    split
    · refine List.pairwise_cons.2 ⟨fun a ha=>?_,ih h.2⟩
      rcases List.mem_cons.1 ((insD_perm x ys).mem_iff.1 ha) with rfl | ha
      · assumption
      · exact h.1 a ha
    · rename_i hx
      refine List.pairwise_cons.2 ⟨fun a ha=>?_,List.pairwise_cons.2 h⟩
      rcases List.mem_cons.1 ha with rfl | ha
      · omega
      · have:=h.1 a ha;omega
theorem fall_aux (xs:List Int):∀ ys,Desc ys→Desc (xs.foldl (fun out x=>insD x out) ys)∧(xs.foldl (fun out x=>insD x out) ys).Perm (xs++ys):=by
  induction xs with
  | nil=>intro ys h;exact ⟨h,.refl _⟩
  | cons x xs ih =>
    intro ys h
    obtain ⟨h1,h2⟩:=ih (insD x ys) (insD_desc x ys h)
    refine ⟨h1,h2.trans ?_⟩
    exact ((insD_perm x ys).append_left xs).trans List.perm_middle
theorem fall_desc (xs:List Int):Desc (fall xs):=(fall_aux xs [] .nil).1
theorem fall_perm (xs:List Int):(fall xs).Perm xs:=by simpa [fall] using (fall_aux xs [] .nil).2
theorem fall_len (xs:List Int):(fall xs).length=xs.length:=(fall_perm xs).length_eq
theorem desc_unique {xs ys:List Int} (hx:Desc xs) (hy:Desc ys) (h:xs.Perm ys):xs=ys:=by
  refine List.Perm.eq_of_pairwise (le:=fun a b=>b≤a) (fun a b _ _ h1 h2=>by omega) hx hy h
theorem fall_unique {xs ys:List Int} (hy:Desc ys) (h:ys.Perm xs):ys=fall xs:=desc_unique hy (fall_desc xs) (h.trans (fall_perm xs).symm)
theorem perm_sum {xs ys:List Int} (h:xs.Perm ys):xs.sum=ys.sum:=by
  induction h with
  | nil=>rfl
  | cons x _ ih=>simp [ih]
  | swap x y l=>simp;omega
  | trans _ _ h1 h2=>exact h1.trans h2
theorem fall_sum (xs:List Int):(fall xs).sum=xs.sum:=perm_sum (fall_perm xs)
theorem fall_mem {xs:List Int} {x:Int}:x ∈ fall xs ↔ x ∈ xs:=(fall_perm xs).mem_iff
def insR (x:Int):List Int→List Int→List Int
  | [],B=>x::B
  | a::r,B=>if x < a then insR x r (a::B) else r.reverse++a::x::B
theorem insR_perm (x:Int):∀ (r B:List Int),(insR x r B).Perm (r.reverse++x::B)
  | [],B=>.refl _
  | a::r,B=>by
    unfold insR
    split
    · refine (insR_perm x r (a::B)).trans ?_
      rw [List.reverse_cons,List.append_assoc]
      exact List.Perm.append_left _ (.swap _ _ _)
    · rw [List.reverse_cons,List.append_assoc]
      exact .refl _
theorem insR_asc (x:Int):∀ (r B:List Int),Asc (r.reverse++B)→(∀ b ∈ B,x≤b)→Asc (insR x r B)
  | [],B,h,hb=>List.pairwise_cons.2 ⟨hb,by simpa using h⟩
  | a::r,B,h,hb=>by
    rw [List.reverse_cons,List.append_assoc] at h
    unfold insR
    split
    · rename_i hx
      refine insR_asc x r (a::B) h fun b hb'=>?_
      rcases List.mem_cons.1 hb' with rfl | hb'
      · omega
      · exact hb b hb'
    · rename_i hx
      obtain ⟨h1,h2,h3⟩:=List.pairwise_append.1 (show Asc (r.reverse++a::B) from h)
      have h2:=List.pairwise_cons.1 h2
      refine List.pairwise_append.2 ⟨h1,?_,fun p hp q hq=>?_⟩
      · refine List.pairwise_cons.2 ⟨fun q hq=>?_,List.pairwise_cons.2 ⟨hb,h2.2⟩⟩
        rcases List.mem_cons.1 hq with rfl | hq
        · omega
        · exact h2.1 q hq
      · have ha:=h3 p hp a (by simp)
        rcases List.mem_cons.1 hq with rfl | hq
        · exact ha
        · rcases List.mem_cons.1 hq with rfl | hq
          · omega
          · exact h3 p hp q (by simp [hq])
def asc:Nat→List Int→List Int→List Int
  | _,S,[]=>S
  | n,S,x::r=>asc n (insR x S.reverse []) r
theorem asc_ok:∀ (r S:List Int),Asc S→Asc (asc 0 S r)∧(asc 0 S r).Perm (S++r)
  | [],S,h=>⟨h,by simp [asc]⟩
  | x::r,S,h=>by
    obtain ⟨h1,h2⟩:=asc_ok r (insR x S.reverse []) (insR_asc x _ _ (by simpa using h) (by simp))
    refine ⟨h1,h2.trans ?_⟩
    have:=insR_perm x S.reverse []
    rw [List.reverse_reverse] at this
    refine (this.append_right r).trans ?_
    rw [List.append_assoc];exact .refl _
theorem asc_rev (xs:List Int):(asc 0 [] xs).reverse=fall xs:=by
  obtain ⟨h1,h2⟩:=asc_ok xs [] .nil
  refine fall_unique ?_ ((List.reverse_perm _).trans (by simpa using h2))
  rw [Desc,List.pairwise_reverse];exact h1
theorem asc_len (xs:List Int):(asc 0 [] xs).length=xs.length:=by simpa using (asc_ok xs [] .nil).2.length_eq
end Go.Idl
namespace Go.Idl
open Go
abbrev L (xs:List Int) (c:Bool:=false):IV:=.lst 1 (ints xs) c
abbrev O (xs:List Int):IV:=.own 1 (ints xs)
theorem ev_isNaN (n:Int):Ev tb zl4 [] [I n] [] ⟨Bo false,[],[],[]⟩:=by
  refine call_of_wp zt4 rfl ?_
  repeat (first|apply wp_as|apply wp_ss|refine wr (by simp;with_reducible rfl) ?_|refine wq (by simp;with_reducible rfl) ?_|refine wt (by simpa) ?_|refine wf (by simpa) ?_|refine xt (by simpa) ?_|refine xf (by simpa) ?_|apply wp_bs|apply wp_b|refine wp_sr ?_|refine wp_sx ?_|refine wp_ret' ?_|refine wp_skip' ?_|refine wp_exit' ?_)
  simp [zi4]
theorem ev_Less (a b:Int):Ev tb zl2 [] [I a,I b] [] ⟨Bo (decide (a < b)),[],[],[]⟩:=by
  have e1:=fun n=>ev_lim (ev_isNaN n)
  refine call_of_wp zt2 rfl ?_
  repeat (first|apply wp_as|apply wp_ss|refine wr (by simp [e1];with_reducible rfl) ?_|refine wq (by simp [e1];with_reducible rfl) ?_|refine wt (by simpa [e1]) ?_|refine wf (by simpa [e1]) ?_|refine xt (by simpa [e1]) ?_|refine xf (by simpa [e1]) ?_|apply wp_bs|apply wp_b|refine wp_sr ?_|refine wp_sx ?_|refine wp_ret' ?_|refine wp_skip' ?_|refine wp_exit' ?_)
  simp [zi2]
theorem app_get1 {A Z:List Int} {a x:Int}:(A++a::x::Z)[A.length+1]? = some x:=by
  rw [List.getElem?_append_right (by omega)];simp
theorem app_get0 {A Z:List Int} {a:Int}:(A++a::Z)[A.length]? = some a:=by
  rw [List.getElem?_append_right (by omega)];simp
theorem app_set {A Z:List Int} {a x:Int}:((A++a::x::Z).set (A.length+1) a).set A.length x=A++x::a::Z:=by
  rw [List.set_append_right _ _ (by omega),List.set_append_right _ _ (by omega)]
  simp
theorem insl (n i:Int) (x:Int) (rest:List Int) (M:List Boxes):∀ (k:Nat) (A B:List Int),A.length=k→k+B.length+rest.length≤2000000 →
    wp tb (.loop z86l6) { T:=[(0,O (A++x::(B++rest))),(1,I 0),(2,I n),(6,I i),(7,I k)],loc:=[],M:=M }
      (fun ex st=>ex=.exit 2∧∃ k':Int,st={ T:=[(0,O (insR x A.reverse B++rest)),(1,I 0),(2,I n),(6,I i),(7,I k'),(30,Bo false)],loc:=[],M:=M }):=by
  have e1:=fun a b=>ev_lim (ev_Less a b)
  intro k
  induction k with
  | zero =>
    intro A B hA hl
    have:A=[]:=List.length_eq_zero_iff.1 hA
    subst this
    refine wp_loop ?_
    repeat (first|apply wp_as|apply wp_ss|refine wr (by simp;with_reducible rfl) ?_|refine wq (by simp;with_reducible rfl) ?_|refine wt (by simpa) ?_|refine wf (by simpa) ?_|refine xt (by simpa) ?_|refine xf (by simpa) ?_|apply wp_bs|apply wp_b|refine wp_sr ?_|refine wp_sx ?_|refine wp_ret' ?_|refine wp_skip' ?_|refine wp_exit' ?_)
    exact ⟨rfl,_,by simp [insR];rfl⟩
  | succ k ih =>
    intro A B hA hl
    obtain ⟨A',a,rfl⟩:∃ A' a,A=A'++[a]:=⟨A.dropLast,A.getLast (by intro h;subst h;simp at hA),(List.dropLast_concat_getLast _).symm⟩
    have hA':A'.length=k:=by simpa using hA
    subst hA'
    have w1:IntKind.i64.wrap (A'.length:Int)=(A'.length:Int):=wrapN (by omega)
    have w2:(0:Int) < (A'.length:Int)+1:=by omega
    simp only [List.append_assoc,List.singleton_append]
    by_cases hx:x < a
    · refine wp_loop ?_
      repeat (first|apply wp_as|apply wp_ss|refine wr (by simp [e1,hx,w1,w2,app_get0,app_get1,app_set];with_reducible rfl) ?_|refine wq (by simp [e1,hx,w1,w2,app_get0,app_get1,app_set];with_reducible rfl) ?_|refine wt (by simpa [e1,hx,w1,w2,app_get0,app_get1,app_set]) ?_|refine wf (by simpa [e1,hx,w1,w2,app_get0,app_get1,app_set]) ?_|refine xt (by simpa [e1,hx,w1,w2,app_get0,app_get1,app_set]) ?_|refine xf (by simpa [e1,hx,w1,w2,app_get0,app_get1,app_set]) ?_|apply wp_bs|apply wp_b|refine wp_sr ?_|refine wp_sx ?_|refine wp_ret' ?_|refine wp_skip' ?_|refine wp_exit' ?_)
      have:=ih A' (a::B) rfl (by simp;omega)
      simp only [List.cons_append,List.reverse_append,List.reverse_cons,List.reverse_nil,List.nil_append] at this ⊢
      simp only [insR,hx,if_true]
      exact this
    · refine wp_loop ?_
      repeat (first|apply wp_as|apply wp_ss|refine wr (by simp [e1,hx,w1,w2,app_get0,app_get1,app_set];with_reducible rfl) ?_|refine wq (by simp [e1,hx,w1,w2,app_get0,app_get1,app_set];with_reducible rfl) ?_|refine wt (by simpa [e1,hx,w1,w2,app_get0,app_get1,app_set]) ?_|refine wf (by simpa [e1,hx,w1,w2,app_get0,app_get1,app_set]) ?_|refine xt (by simpa [e1,hx,w1,w2,app_get0,app_get1,app_set]) ?_|refine xf (by simpa [e1,hx,w1,w2,app_get0,app_get1,app_set]) ?_|apply wp_bs|apply wp_b|refine wp_sr ?_|refine wp_sx ?_|refine wp_ret' ?_|refine wp_skip' ?_|refine wp_exit' ?_)
      refine ⟨rfl,((A'.length+1:Nat):Int),?_⟩
      simp only [List.reverse_append,List.reverse_cons,List.reverse_nil,List.nil_append,List.cons_append]
      simp only [insR,hx,if_false,List.reverse_reverse,List.append_assoc,List.cons_append]
      rfl
theorem insr_len (x:Int) (S:List Int):(insR x S.reverse []).length=S.length+1:=by
  have:=(insR_perm x S.reverse []).length_eq
  simpa using this
theorem sortl (M:List Boxes) (n:Int):∀ (r S:List Int),n=(S.length+r.length:Nat)→S.length+r.length≤2000000 →
    wp tb (.loop z86l8) { T:=[(0,O (S++r)),(1,I 0),(2,I n),(6,I S.length)],loc:=[],M:=M }
      (fun ex st=>ex=.exit 0∧∃ k':Int,st={ T:=[(0,O (asc 0 S r)),(1,I 0),(2,I n),(6,I k'),(12,Bo false)],loc:=[],M:=M }):=by
  intro r
  induction r with
  | nil =>
    intro S hn hl
    refine wp_loop ?_
    have h1:¬ (S.length:Int) < n:=by simp at hn;omega
    repeat (first|apply wp_as|apply wp_ss|refine wr (by simp [h1];with_reducible rfl) ?_|refine wq (by simp [h1];with_reducible rfl) ?_|refine wt (by simpa [h1]) ?_|refine wf (by simpa [h1]) ?_|refine xt (by simpa [h1]) ?_|refine xf (by simpa [h1]) ?_|apply wp_bs|apply wp_b|refine wp_sr ?_|refine wp_sx ?_|refine wp_ret' ?_|refine wp_skip' ?_|refine wp_exit' ?_)
    exact ⟨rfl,_,by simp [asc];rfl⟩
  | cons x r ih =>
    intro S hn hl
    refine wp_loop ?_
    simp only [List.length_cons] at hn hl
    have h1:(S.length:Int) < n:=by omega
    have w1:IntKind.i64.wrap ((S.length:Int)+1)=(S.length:Int)+1:=by rw [wrap64 (by omega) (by omega)]
    repeat (first|apply wp_as|apply wp_ss|refine wr (by simp [h1,w1];with_reducible rfl) ?_|refine wq (by simp [h1,w1];with_reducible rfl) ?_|refine wt (by simpa [h1,w1]) ?_|refine wf (by simpa [h1,w1]) ?_|refine xt (by simpa [h1,w1]) ?_|refine xf (by simpa [h1,w1]) ?_|apply wp_bs|apply wp_b|refine wp_sr ?_|refine wp_sx ?_|refine wp_ret' ?_|refine wp_skip' ?_|refine wp_exit' ?_)
    refine wp_imp (insl n S.length x r M S.length S [] rfl (by simp;omega)) ?_
    rintro ex st ⟨rfl,k',rfl⟩
    simp only [if_true]
    repeat (first|apply wp_as|apply wp_ss|refine wr (by simp [h1,w1];with_reducible rfl) ?_|refine wq (by simp [h1,w1];with_reducible rfl) ?_|refine wt (by simpa [h1,w1]) ?_|refine wf (by simpa [h1,w1]) ?_|refine xt (by simpa [h1,w1]) ?_|refine xf (by simpa [h1,w1]) ?_|apply wp_bs|apply wp_b|refine wp_sr ?_|refine wp_sx ?_|refine wp_ret' ?_|refine wp_skip' ?_|refine wp_exit' ?_)
    have:=ih (insR x S.reverse []) (by rw [insr_len];omega) (by rw [insr_len];omega)
    rw [insr_len] at this
    exact this
theorem ev_insertionSort (xs:List Int) (hl:xs.length≤1000) (M:List Boxes) :
    Ev tb zl86 [0] [O xs,I 0,I xs.length] M ⟨.tup [],[O (asc 0 [] xs)],M,[]⟩:=by
  refine call_of_wp zt86 rfl ?_
  repeat (first|apply wp_as|apply wp_ss|refine wr (by simp;with_reducible rfl) ?_|refine wq (by simp;with_reducible rfl) ?_|refine wt (by simpa) ?_|refine wf (by simpa) ?_|refine xt (by simpa) ?_|refine xf (by simpa) ?_|apply wp_bs|apply wp_b|refine wp_sr ?_|refine wp_sx ?_|refine wp_ret' ?_|refine wp_skip' ?_|refine wp_exit' ?_)
  cases xs with
  | nil =>
    refine wp_loop ?_
    repeat (first|apply wp_as|apply wp_ss|refine wr (by simp;with_reducible rfl) ?_|refine wq (by simp;with_reducible rfl) ?_|refine wt (by simpa) ?_|refine wf (by simpa) ?_|refine xt (by simpa) ?_|refine xf (by simpa) ?_|apply wp_bs|apply wp_b|refine wp_sr ?_|refine wp_sx ?_|refine wp_ret' ?_|refine wp_skip' ?_|refine wp_exit' ?_)
    simp [zi86,asc]
  | cons x r =>
    simp only [List.length_cons] at hl
    refine wp_imp (sortl M _ r [x] (by simp;omega) (by simp;omega)) ?_
    rintro ex st ⟨rfl,k',rfl⟩
    simp [zi86,asc,insR]
theorem ev_pdqsort (xs:List Int) (hl:xs.length≤12) (k:Int) (M:List Boxes) :
    Ev tb zl101 [0] [O xs,I 0,I xs.length,I k] M ⟨.tup [],[O (asc 0 [] xs)],M,[]⟩:=by
  have e1:=ev_lim (ev_insertionSort xs (by omega) (M++[[]]))
  have w1:IntKind.i64.wrap (xs.length:Int)=(xs.length:Int):=wrapN (by omega)
  refine call_of_wp zt101 rfl ?_
  repeat (first|apply wp_as|apply wp_ss|refine wr (by simp;with_reducible rfl) ?_|refine wq (by simp;with_reducible rfl) ?_|refine wt (by simpa) ?_|refine wf (by simpa) ?_|refine xt (by simpa) ?_|refine xf (by simpa) ?_|apply wp_bs|apply wp_b|refine wp_sr ?_|refine wp_sx ?_|refine wp_ret' ?_|refine wp_skip' ?_|refine wp_exit' ?_)
  refine wp_loop ?_
  have h:(xs.length:Int)≤12:=by omega
  repeat (first|apply wp_as|apply wp_ss|refine wr (by simp [e1,w1,hl,h];with_reducible rfl) ?_|refine wq (by simp [e1,w1,hl,h];with_reducible rfl) ?_|refine wt (by simpa [e1,w1,hl,h]) ?_|refine wf (by simpa [e1,w1,hl,h]) ?_|refine xt (by simpa [e1,w1,hl,h]) ?_|refine xf (by simpa [e1,w1,hl,h]) ?_|apply wp_bs|apply wp_b|refine wp_sr ?_|refine wp_sx ?_|refine wp_ret' ?_|refine wp_skip' ?_|refine wp_exit' ?_)
  simp [zi101]
theorem len_r (cf:CF) (n:Int) (m:Nat) (g:ByteArray) (hw:IntKind.u8.wrap n=(m:Int)) (hb:(g[m]?).isSome=true) :
    ∃ k st,execOps cf { T:=[(0,.sc (.int .u64 n)),(2,I 0),(14,Bo false)],loc:=[],M:=[] } [⟨some 19,none,.mv (.t 2)⟩,⟨some 20,none,.mv (.t 0)⟩,⟨some 21,none,.conv .u8 (.t 20)⟩,⟨some 22,none,.idxs (.c (.string g)) (.t 21)⟩,⟨some 23,none,.conv .i64 (.t 22)⟩,⟨some 24,none,.bin .add (.t 19) (.t 23)⟩,⟨some 2,none,.asg (.t 24)⟩]=some st∧st.cut [2]={ T:=[(2,I k)],loc:=[],M:=[] }:=by
  obtain ⟨b,hb⟩:=Option.isSome_iff_exists.1 hb
  refine ⟨_,_,by simp [hw,hb];rfl,by simp;rfl⟩
set_option maxRecDepth 100000 in
theorem ev_Len64 (n:Nat) (hn:n≤12):∃ k:Int,Ev tb zl68 [] [.sc (.int .u64 n)] [] ⟨I k,[],[],[]⟩:=by
  have w8:IntKind.u8.wrap (n:Int)=(n:Int):=by
    have:n=0 ∨ n=1 ∨ n=2 ∨ n=3 ∨ n=4 ∨ n=5 ∨ n=6 ∨ n=7 ∨ n=8 ∨ n=9 ∨ n=10 ∨ n=11 ∨ n=12:=by omega
    rcases this with rfl | rfl | rfl | rfl | rfl | rfl | rfl | rfl | rfl | rfl | rfl | rfl | rfl <;> rfl
  have key:∃ k:Int,∃ st,execOps (limF tb) { T:=[(0,.sc (.int .u64 n)),(2,I 0),(14,Bo false)],loc:=[],M:=[] } (match z68r10 with | .reg ops _ _=>ops | _=>[])=some st∧st.cut [2]={ T:=[(2,I k)],loc:=[],M:=[] }:=by
    have:n=0 ∨ n=1 ∨ n=2 ∨ n=3 ∨ n=4 ∨ n=5 ∨ n=6 ∨ n=7 ∨ n=8 ∨ n=9 ∨ n=10 ∨ n=11 ∨ n=12:=by omega
    rcases this with rfl | rfl | rfl | rfl | rfl | rfl | rfl | rfl | rfl | rfl | rfl | rfl | rfl
    all_goals
      refine len_r (limF tb) _ _ _ w8 ?_
      rfl
  obtain ⟨k,st,h1,h2⟩:=key
  have g1:¬ (4294967296:Int)≤n:=by omega
  have g2:¬ (65536:Int)≤n:=by omega
  have g3:¬ (256:Int)≤n:=by omega
  refine ⟨k,?_⟩
  refine call_of_wp zt68 rfl ?_
  iterate 4 ((first|refine wp_as ?_|skip);refine wp_rs (by simp [g1,g2,g3];rfl) (by simp;rfl) ?_;(first|refine wp_ct (t:=false) (by simp) (by simp) (fun _=>?_)|skip);(first|refine wp_ss ?_|skip))
  refine wp_rs h1 h2 ?_
  refine wp_ret' ?_
  simp [zi68]
theorem ev_Len (n:Nat) (hn:n≤12):∃ k:Int,Ev tb zl66 [] [.sc (.int .u64 n)] [] ⟨I k,[],[],[]⟩:=by
  obtain ⟨k,hk⟩:=ev_Len64 n hn
  have e1:=ev_lim hk
  refine ⟨k,?_⟩
  refine call_of_wp zt66 rfl ?_
  repeat (first|apply wp_as|apply wp_ss|refine wr (by simp [e1];with_reducible rfl) ?_|refine wq (by simp [e1];with_reducible rfl) ?_|refine wt (by simpa [e1]) ?_|refine wf (by simpa [e1]) ?_|refine xt (by simpa [e1]) ?_|refine xf (by simpa [e1]) ?_|apply wp_bs|apply wp_b|refine wp_sr ?_|refine wp_sx ?_|refine wp_ret' ?_|refine wp_skip' ?_|refine wp_exit' ?_)
  simp [zi66]
theorem wrapU {n:Nat} (h:n < 2000000):IntKind.u64.wrap (n:Int)=(n:Int):=by
  have e1:(2:Int) ^ IntKind.u64.bits=18446744073709551616:=by decide
  have e3:IntKind.u64.signed=false:=rfl
  unfold IntKind.wrap
  rw [e1,e3]
  simp
  omega
theorem ev_Sort (xs:List Int) (hl:xs.length≤12) (M:List Boxes) :
    Ev tb zl78 [0] [O xs] M ⟨.tup [],[O (asc 0 [] xs)],M,[]⟩:=by
  obtain ⟨k,hk⟩:=ev_Len xs.length hl
  have e1:=ev_lim hk
  have e2:=ev_lim (ev_pdqsort xs hl k (M++[[]]))
  have w1:=@wrapU xs.length (by omega)
  refine call_of_wp zt78 rfl ?_
  repeat (first|apply wp_as|apply wp_ss|refine wr (by simp [e1,e2,w1];with_reducible rfl) ?_|refine wq (by simp [e1,e2,w1];with_reducible rfl) ?_|refine wt (by simpa [e1,e2,w1]) ?_|refine wf (by simpa [e1,e2,w1]) ?_|refine xt (by simpa [e1,e2,w1]) ?_|refine xf (by simpa [e1,e2,w1]) ?_|apply wp_bs|apply wp_b|refine wp_sr ?_|refine wp_sx ?_|refine wp_ret' ?_|refine wp_skip' ?_|refine wp_exit' ?_)
  simp [zi78]
end Go.Idl
namespace Go.Idl
open Go
theorem natOf_add2 {k:IntKind} {a b:Nat}:natOf (.sc (.int k ((a:Int)+(b:Int)+1)))=some (a+b+1):=natOf_nat (n:=a+b+1)
theorem rv_get {A m B:List Int} {x y:Int}:(A++x::(m++y::B))[A.length+m.length+1]? = some y:=by
  rw [List.getElem?_append_right (by omega),show A.length+m.length+1 - A.length=m.length+1 by omega,List.getElem?_cons_succ,List.getElem?_append_right (by omega)];simp
theorem rv_getE {A m B:List Int} {x y:Int} {h}:(A++x::(m++y::B))[A.length+m.length+1]'h=y:=by
  have:=@rv_get A m B x y
  rw [List.getElem?_eq_getElem h] at this
  exact Option.some.inj this
theorem rv_set {A m B:List Int} {v x y:Int}:(A++v::(m++y::B)).set (A.length+m.length+1) x=A++v::(m++x::B):=by
  rw [List.set_append_right _ _ (by omega)]
  simp [show A.length+m.length+1 - A.length=m.length+1 by omega]
theorem revl (M:List Boxes):∀ (k:Nat) (A m B:List Int),m.length≤k→A.length+m.length+B.length≤2000000 →
    wp tb (.loop z76l4) { T:=[(0,O (A++(m++B))),(2,I A.length),(3,I ((A.length:Int)+m.length - 1))],loc:=[],M:=M }
      (fun ex st=>ex=.exit 0∧∃ a b:Int,st={ T:=[(0,O (A++(m.reverse++B))),(2,I a),(3,I b),(9,Bo false)],loc:=[],M:=M }):=by
  intro k
  induction k with
  | zero =>
    intro A m B hk hl
    have:m=[]:=List.length_eq_zero_iff.1 (by omega)
    subst this
    refine wp_loop ?_
    have h:¬ ((A.length:Int) < A.length - 1):=by omega
    repeat (first|apply wp_as|apply wp_ss|refine wr (by simp [h];with_reducible rfl) ?_|refine wq (by simp [h];with_reducible rfl) ?_|refine wt (by simpa [h]) ?_|refine wf (by simpa [h]) ?_|refine xt (by simpa [h]) ?_|refine xf (by simpa [h]) ?_|apply wp_bs|apply wp_b|refine wp_sr ?_|refine wp_sx ?_|refine wp_ret' ?_|refine wp_skip' ?_|refine wp_exit' ?_)
    exact ⟨rfl,_,_,rfl⟩
  | succ k ih =>
    intro A m B hk hl
    match m,hk,hl with
    | [],hk,hl =>
      refine wp_loop ?_
      have h:¬ ((A.length:Int) < A.length - 1):=by omega
      repeat (first|apply wp_as|apply wp_ss|refine wr (by simp [h];with_reducible rfl) ?_|refine wq (by simp [h];with_reducible rfl) ?_|refine wt (by simpa [h]) ?_|refine wf (by simpa [h]) ?_|refine xt (by simpa [h]) ?_|refine xf (by simpa [h]) ?_|apply wp_bs|apply wp_b|refine wp_sr ?_|refine wp_sx ?_|refine wp_ret' ?_|refine wp_skip' ?_|refine wp_exit' ?_)
      exact ⟨rfl,_,_,rfl⟩
    | [x],hk,hl =>
      refine wp_loop ?_
      repeat (first|apply wp_as|apply wp_ss|refine wr (by simp;with_reducible rfl) ?_|refine wq (by simp;with_reducible rfl) ?_|refine wt (by simpa) ?_|refine wf (by simpa) ?_|refine xt (by simpa) ?_|refine xf (by simpa) ?_|apply wp_bs|apply wp_b|refine wp_sr ?_|refine wp_sx ?_|refine wp_ret' ?_|refine wp_skip' ?_|refine wp_exit' ?_)
      exact ⟨rfl,_,_,rfl⟩
    | x::z::m',hk,hl =>
      obtain ⟨m,y,hm⟩:∃ m y,z::m'=m++[y]:=⟨(z::m').dropLast,(z::m').getLast (by simp),(List.dropLast_concat_getLast _).symm⟩
      rw [hm] at hk hl ⊢
      simp only [List.length_cons,List.length_append,List.length_nil] at hk hl
      have hj:(A.length:Int)+(x::(m++[y])).length - 1=(A.length:Int)+m.length+1:=by simp;omega
      rw [hj]
      simp only [List.cons_append,List.append_assoc,List.nil_append]
      refine wp_loop ?_
      have h:(A.length:Int) < A.length+m.length+1:=by omega
      have h2:A.length < A.length+(m.length+(B.length+1)+1):=by omega
      have h3:A.length+m.length+1 < A.length+(m.length+(B.length+1)+1):=by omega
      have w1:IntKind.i64.wrap ((A.length:Int)+1)=((A++[y]).length:Int):=by rw [wrap64 (by omega) (by omega)];simp
      have w2:IntKind.i64.wrap ((A.length:Int)+m.length)=((A++[y]).length:Int)+m.length - 1:=by rw [wrap64 (by omega) (by omega)];simp;omega
      repeat (first|apply wp_as|apply wp_ss|refine wr (by simp [h,h2,h3,w1,w2,rv_get,rv_getE,rv_set,natOf_add2,app_get0];with_reducible rfl) ?_|refine wq (by simp [h,h2,h3,w1,w2,rv_get,rv_getE,rv_set,natOf_add2,app_get0];with_reducible rfl) ?_|refine wt (by simpa [h,h2,h3,w1,w2,rv_get,rv_getE,rv_set,natOf_add2,app_get0]) ?_|refine wf (by simpa [h,h2,h3,w1,w2,rv_get,rv_getE,rv_set,natOf_add2,app_get0]) ?_|refine xt (by simpa [h,h2,h3,w1,w2,rv_get,rv_getE,rv_set,natOf_add2,app_get0]) ?_|refine xf (by simpa [h,h2,h3,w1,w2,rv_get,rv_getE,rv_set,natOf_add2,app_get0]) ?_|apply wp_bs|apply wp_b|refine wp_sr ?_|refine wp_sx ?_|refine wp_ret' ?_|refine wp_skip' ?_|refine wp_exit' ?_)
      have:=ih (A++[y]) m (x::B) (by omega) (by simp;omega)
      simp at this ⊢
      exact this
theorem ev_Reverse (xs:List Int) (hl:xs.length≤2000000) (M:List Boxes) :
    Ev tb zl76 [0] [O xs] M ⟨.tup [],[O xs.reverse],M,[]⟩:=by
  have w1:IntKind.i64.wrap ((xs.length:Int) - 1)=(xs.length:Int) - 1:=wrap64 (by omega) (by omega)
  refine call_of_wp zt76 rfl ?_
  repeat (first|apply wp_as|apply wp_ss|refine wr (by simp [w1];with_reducible rfl) ?_|refine wq (by simp [w1];with_reducible rfl) ?_|refine wt (by simpa [w1]) ?_|refine wf (by simpa [w1]) ?_|refine xt (by simpa [w1]) ?_|refine xf (by simpa [w1]) ?_|apply wp_bs|apply wp_b|refine wp_sr ?_|refine wp_sx ?_|refine wp_ret' ?_|refine wp_skip' ?_|refine wp_exit' ?_)
  have:=revl M xs.length [] xs [] (by omega) (by simp;omega)
  simp at this
  refine wp_imp this ?_
  rintro ex st ⟨rfl,a,b,rfl⟩
  simp [zi76]
theorem ev_falling (xs:List Int) (c:Bool) (hl:xs.length≤12) :
    Ev tb zl37 [] [L xs c] [] ⟨O (fall xs),[],[],[]⟩:=by
  have e1:=ev_lim (ev_clone xs c (by omega))
  have e2:=ev_lim (ev_Sort xs hl [[]])
  have e3:=ev_lim (ev_Reverse (asc 0 [] xs) (by rw [asc_len];omega) [[]])
  refine call_of_wp zt37 rfl ?_
  repeat (first|apply wp_as|apply wp_ss|refine wr (by simp [e1,e2,e3,asc_rev];with_reducible rfl) ?_|refine wq (by simp [e1,e2,e3,asc_rev];with_reducible rfl) ?_|refine wt (by simpa [e1,e2,e3,asc_rev]) ?_|refine wf (by simpa [e1,e2,e3,asc_rev]) ?_|refine xt (by simpa [e1,e2,e3,asc_rev]) ?_|refine xf (by simpa [e1,e2,e3,asc_rev]) ?_|apply wp_bs|apply wp_b|refine wp_sr ?_|refine wp_sx ?_|refine wp_ret' ?_|refine wp_skip' ?_|refine wp_exit' ?_)
  simp [zi37]
theorem drop_get {xs:List Int} {i m:Nat} (h:i+(m+1)=xs.length):∃ h:i < xs.length,xs.drop i=xs[i]::xs.drop (i+1)∧xs[i] ∈ xs:=by
  have hi:i < xs.length:=by omega
  exact ⟨hi,List.drop_eq_getElem_cons hi,List.getElem_mem hi⟩
theorem drop_end {xs:List Int} {i:Nat} (h:i+0=xs.length):xs[i]? = none∧xs.drop i=[]:=by
  have:i=xs.length:=by omega
  subst this
  simp
def idx (p:Int→Bool):Int→List Int→Int
  | _,[]=>-1
  | i,x::r=>if p x then i else idx p (i+1) r
theorem ev_IndexFunc (xs:List Int) (c:Bool) (F:Lab) (caps:List IV) (M:List Boxes) (p:Int→Bool) (hl:xs.length≤2000000)
    (hp:∀ x ∈ xs,Ev tb F [] (I x::caps) (M++[[]]) ⟨Bo (p x),[],M++[[]],[]⟩) :
    Ev tb zl73 [] [L xs c,.fn F caps] M ⟨I (idx p 0 xs),[],M,[]⟩:=by
  have loop:∀ (m i:Nat),i+m=xs.length→wp tb (.loop z73l7) { T:=[(0,L xs c),(1,.fn F caps),(7,I xs.length),(8,I i)],loc:=[],M:=M }
      (fun ex st=>(ex=.exit 0∧idx p i (xs.drop i)=-1∧st={ T:=[(0,L xs c),(1,.fn F caps),(7,I xs.length),(8,I xs.length),(9,Bo false)],loc:=[],M:=M }) ∨
        ex=.ret∧st={ T:=[(4,I (idx p i (xs.drop i)))],loc:=[],M:=M }):=by
    intro m
    induction m with
    | zero =>
      intro i hi
      obtain ⟨h1,h2⟩:=drop_end hi
      have h3:i=xs.length:=hi
      subst h3
      refine wp_loop ?_
      repeat (first|apply wp_as|apply wp_ss|refine wr (by simp;with_reducible rfl) ?_|refine wq (by simp;with_reducible rfl) ?_|refine wt (by simpa) ?_|refine wf (by simpa) ?_|refine xt (by simpa) ?_|refine xf (by simpa) ?_|apply wp_bs|apply wp_b|refine wp_sr ?_|refine wp_sx ?_|refine wp_ret' ?_|refine wp_skip' ?_|refine wp_exit' ?_)
      refine .inl ⟨rfl,by rw [h2];rfl,rfl⟩
    | succ m ih =>
      intro i hi
      obtain ⟨hi2,h2,h3⟩:=drop_get hi
      have e1:=ev_lim (hp _ h3)
      have w1:IntKind.i64.wrap ((i:Int)+1)=((i+1:Nat):Int):=wrapS (by omega)
      rw [h2]
      cases hpx:p xs[i] with
      | true =>
        refine wp_loop ?_
        repeat (first|apply wp_as|apply wp_ss|refine wr (by simp [e1,hi2,w1,hpx];with_reducible rfl) ?_|refine wq (by simp [e1,hi2,w1,hpx];with_reducible rfl) ?_|refine wt (by simpa [e1,hi2,w1,hpx]) ?_|refine wf (by simpa [e1,hi2,w1,hpx]) ?_|refine xt (by simpa [e1,hi2,w1,hpx]) ?_|refine xf (by simpa [e1,hi2,w1,hpx]) ?_|apply wp_bs|apply wp_b|refine wp_sr ?_|refine wp_sx ?_|refine wp_ret' ?_|refine wp_skip' ?_|refine wp_exit' ?_)
        refine .inr ⟨rfl,by simp [idx,hpx]⟩
      | false =>
        refine wp_loop ?_
        repeat (first|apply wp_as|apply wp_ss|refine wr (by simp [e1,hi2,w1,hpx];with_reducible rfl) ?_|refine wq (by simp [e1,hi2,w1,hpx];with_reducible rfl) ?_|refine wt (by simpa [e1,hi2,w1,hpx]) ?_|refine wf (by simpa [e1,hi2,w1,hpx]) ?_|refine xt (by simpa [e1,hi2,w1,hpx]) ?_|refine xf (by simpa [e1,hi2,w1,hpx]) ?_|apply wp_bs|apply wp_b|refine wp_sr ?_|refine wp_sx ?_|refine wp_ret' ?_|refine wp_skip' ?_|refine wp_exit' ?_)
        have:=ih (i+1) (by omega)
        simp only [idx,hpx] at this ⊢
        exact this
  refine call_of_wp zt73 rfl ?_
  repeat (first|apply wp_as|apply wp_ss|refine wr (by simp;with_reducible rfl) ?_|refine wq (by simp;with_reducible rfl) ?_|refine wt (by simpa) ?_|refine wf (by simpa) ?_|refine xt (by simpa) ?_|refine xf (by simpa) ?_|apply wp_bs|apply wp_b|refine wp_sr ?_|refine wp_sx ?_|refine wp_ret' ?_|refine wp_skip' ?_|refine wp_exit' ?_)
  refine wp_imp (loop xs.length 0 (by simp)) ?_
  rintro ex st (⟨rfl,h,rfl⟩ | ⟨rfl,rfl⟩)
  · simp only [if_true]
    repeat (first|apply wp_as|apply wp_ss|refine wr (by simp;with_reducible rfl) ?_|refine wq (by simp;with_reducible rfl) ?_|refine wt (by simpa) ?_|refine wf (by simpa) ?_|refine xt (by simpa) ?_|refine xf (by simpa) ?_|apply wp_bs|apply wp_b|refine wp_sr ?_|refine wp_sx ?_|refine wp_ret' ?_|refine wp_skip' ?_|refine wp_exit' ?_)
    simp at h
    simp [zi73,h]
  · simp [zi73]
end Go.Idl
namespace Go.Idl
open Go
theorem ev_allIn_F1 (x lo hi:Int):Ev tb zl30 [] [I x,.bptr 0 0 0,.bptr 0 1 0] [[[I lo],[I hi]],[],[]] ⟨Bo (!(decide (lo≤x) && decide (x≤hi))),[],[[[I lo],[I hi]],[],[]],[]⟩:=by
  have e1:=ev_lim (ev_in x lo hi)
  refine call_of_wp zt30 rfl ?_
  repeat (first|apply wp_as|apply wp_ss|refine wr (by simp [e1];with_reducible rfl) ?_|refine wq (by simp [e1];with_reducible rfl) ?_|refine wt (by simpa [e1]) ?_|refine wf (by simpa [e1]) ?_|refine xt (by simpa [e1]) ?_|refine xf (by simpa [e1]) ?_|apply wp_bs|apply wp_b|refine wp_sr ?_|refine wp_sx ?_|refine wp_ret' ?_|refine wp_skip' ?_|refine wp_exit' ?_)
  simp [zi30]
theorem ev_ContainsFunc (xs:List Int) (c:Bool) (F:Lab) (caps:List IV) (M:List Boxes) (p:Int→Bool) (hl:xs.length≤2000000)
    (hp:∀ x ∈ xs,Ev tb F [] (I x::caps) (M++[[],[]]) ⟨Bo (p x),[],M++[[],[]],[]⟩) :
    Ev tb zl72 [] [L xs c,.fn F caps] M ⟨Bo (decide (0≤idx p 0 xs)),[],M,[]⟩:=by
  have e1:=ev_lim (ev_IndexFunc xs c F caps (M++[[]]) p hl (by simpa using hp))
  refine call_of_wp zt72 rfl ?_
  repeat (first|apply wp_as|apply wp_ss|refine wr (by simp [e1];with_reducible rfl) ?_|refine wq (by simp [e1];with_reducible rfl) ?_|refine wt (by simpa [e1]) ?_|refine wf (by simpa [e1]) ?_|refine xt (by simpa [e1]) ?_|refine xf (by simpa [e1]) ?_|apply wp_bs|apply wp_b|refine wp_sr ?_|refine wp_sx ?_|refine wp_ret' ?_|refine wp_skip' ?_|refine wp_exit' ?_)
  simp [zi72]
theorem idx_ge (p:Int→Bool):∀ (xs:List Int) (i:Int),0≤i→(decide (0≤idx p i xs)=xs.any p)
  | [],i,h=>by simp [idx]
  | x::r,i,h=>by
    unfold idx
    cases hp:p x with
    | true=>simp [hp,h]
    | false=>simp [hp];simpa using idx_ge p r (i+1) (by omega)
theorem ev_allIn (xs:List Int) (c:Bool) (lo hi:Int) (hl:xs.length≤2000000) :
    Ev tb zl29 [] [L xs c,I lo,I hi] [] ⟨Bo (xs.all fun x=>decide (lo≤x) && decide (x≤hi)),[],[],[]⟩:=by
  have e1:=ev_lim (ev_ContainsFunc xs c zl30 [.bptr 0 0 0,.bptr 0 1 0] [[[I lo],[I hi]]] _ hl (fun x _=>ev_allIn_F1 x lo hi))
  refine call_of_wp zt29 rfl ?_
  repeat (first|apply wp_as|apply wp_ss|refine wr (by simp [e1,idx_ge];with_reducible rfl) ?_|refine wq (by simp [e1,idx_ge];with_reducible rfl) ?_|refine wt (by simpa [e1,idx_ge]) ?_|refine wf (by simpa [e1,idx_ge]) ?_|refine xt (by simpa [e1,idx_ge]) ?_|refine xf (by simpa [e1,idx_ge]) ?_|apply wp_bs|apply wp_b|refine wp_sr ?_|refine wp_sx ?_|refine wp_ret' ?_|refine wp_skip' ?_|refine wp_exit' ?_)
  simp [zi29,List.all_eq_not_any_not]
def valid (d:List Int):Bool:=decide (d.length≤7) && d.all fun x=>decide (0≤x) && decide (x < d.length)
theorem ev_ValidDegrees (xs:List Int) (c:Bool) (hl:xs.length≤2000000):Ev tb zl25 [] [L xs c] [] ⟨Bo (valid xs),[],[],[]⟩:=by
  have e1:=ev_lim (ev_allIn xs c 0 ((xs.length:Int) - 1) hl)
  have w1:IntKind.i64.wrap ((xs.length:Int) - 1)=(xs.length:Int) - 1:=wrap64 (by omega) (by omega)
  have hx:∀ x:Int,(x≤(xs.length:Int) - 1) ↔ x < (xs.length:Int):=fun x=>by omega
  simp only [hx] at e1
  have h2:((xs.length:Int)≤7) ↔ xs.length≤7:=by omega
  by_cases h:xs.length≤7
  · refine call_of_wp zt25 rfl ?_
    repeat (first|apply wp_as|apply wp_ss|refine wr (by simp [e1,w1,h2,h];with_reducible rfl) ?_|refine wq (by simp [e1,w1,h2,h];with_reducible rfl) ?_|refine wt (by simpa [e1,w1,h2,h]) ?_|refine wf (by simpa [e1,w1,h2,h]) ?_|refine xt (by simpa [e1,w1,h2,h]) ?_|refine xf (by simpa [e1,w1,h2,h]) ?_|apply wp_bs|apply wp_b|refine wp_sr ?_|refine wp_sx ?_|refine wp_ret' ?_|refine wp_skip' ?_|refine wp_exit' ?_)
    simp [zi25,valid,h]
  · refine call_of_wp zt25 rfl ?_
    repeat (first|apply wp_as|apply wp_ss|refine wr (by simp [e1,w1,h2,h];with_reducible rfl) ?_|refine wq (by simp [e1,w1,h2,h];with_reducible rfl) ?_|refine wt (by simpa [e1,w1,h2,h]) ?_|refine wf (by simpa [e1,w1,h2,h]) ?_|refine xt (by simpa [e1,w1,h2,h]) ?_|refine xf (by simpa [e1,w1,h2,h]) ?_|apply wp_bs|apply wp_b|refine wp_sr ?_|refine wp_sx ?_|refine wp_ret' ?_|refine wp_skip' ?_|refine wp_exit' ?_)
    simp [zi25,valid,h]
theorem ev_equalInts (xs ys:List Int) (c d:Bool) (hl:xs.length≤2000000) (hm:ys.length≤2000000):Ev tb zl53 [] [L xs c,L ys d] [] ⟨Bo (decide (xs=ys)),[],[],[]⟩:=by
  by_cases he:xs.length=ys.length
  · have loop:∀ (m i:Nat),i+m=xs.length→wp tb (.loop z53l8) { T:=[(0,L xs c),(1,L ys d),(5,I i)],loc:=[],M:=[] }
      (fun ex st=>(ex=.exit 0∧xs.drop i=ys.drop i∧st={ T:=[(0,L xs c),(1,L ys d),(5,I xs.length),(14,Bo false)],loc:=[],M:=[] }) ∨
        ex=.ret∧xs.drop i ≠ ys.drop i∧st={ T:=[(4,Bo false)],loc:=[],M:=[] }):=by
      intro m
      induction m with
      | zero =>
        intro i hi
        obtain ⟨h1,h2⟩:=drop_end hi
        obtain ⟨h1',h2'⟩:=drop_end (he ▸ hi)
        have h3:i=xs.length:=hi
        subst h3
        refine wp_loop ?_
        repeat (first|apply wp_as|apply wp_ss|refine wr (by simp;with_reducible rfl) ?_|refine wq (by simp;with_reducible rfl) ?_|refine wt (by simpa) ?_|refine wf (by simpa) ?_|refine xt (by simpa) ?_|refine xf (by simpa) ?_|apply wp_bs|apply wp_b|refine wp_sr ?_|refine wp_sx ?_|refine wp_ret' ?_|refine wp_skip' ?_|refine wp_exit' ?_)
        refine .inl ⟨rfl,by rw [h2,h2'],rfl⟩
      | succ m ih =>
        intro i hi
        obtain ⟨hi2,h2,h3⟩:=drop_get hi
        obtain ⟨hi2',h2',h3'⟩:=drop_get (he ▸ hi)
        have w2:IntKind.i64.wrap ((i:Int)+1)=((i+1:Nat):Int):=wrapS (by omega)
        rw [h2,h2']
        by_cases hx:xs[i]=ys[i]
        · refine wp_loop ?_
          repeat (first|apply wp_as|apply wp_ss|refine wr (by simp [hi2,hi2',w2,hx];with_reducible rfl) ?_|refine wq (by simp [hi2,hi2',w2,hx];with_reducible rfl) ?_|refine wt (by simpa [hi2,hi2',w2,hx]) ?_|refine wf (by simpa [hi2,hi2',w2,hx]) ?_|refine xt (by simpa [hi2,hi2',w2,hx]) ?_|refine xf (by simpa [hi2,hi2',w2,hx]) ?_|apply wp_bs|apply wp_b|refine wp_sr ?_|refine wp_sx ?_|refine wp_ret' ?_|refine wp_skip' ?_|refine wp_exit' ?_)
          have:=ih (i+1) (by omega)
          simp only [List.cons.injEq,true_and,ne_eq,hx] at this ⊢
          exact this
        · refine wp_loop ?_
          repeat (first|apply wp_as|apply wp_ss|refine wr (by simp [hi2,hi2',w2,hx];with_reducible rfl) ?_|refine wq (by simp [hi2,hi2',w2,hx];with_reducible rfl) ?_|refine wt (by simpa [hi2,hi2',w2,hx]) ?_|refine wf (by simpa [hi2,hi2',w2,hx]) ?_|refine xt (by simpa [hi2,hi2',w2,hx]) ?_|refine xf (by simpa [hi2,hi2',w2,hx]) ?_|apply wp_bs|apply wp_b|refine wp_sr ?_|refine wp_sx ?_|refine wp_ret' ?_|refine wp_skip' ?_|refine wp_exit' ?_)
          refine .inr ⟨rfl,by simp only [ne_eq,List.cons.injEq,hx,false_and,not_false_eq_true],rfl⟩
    refine call_of_wp zt53 rfl ?_
    repeat (first|apply wp_as|apply wp_ss|refine wr (by simp [he];with_reducible rfl) ?_|refine wq (by simp [he];with_reducible rfl) ?_|refine wt (by simpa [he]) ?_|refine wf (by simpa [he]) ?_|refine xt (by simpa [he]) ?_|refine xf (by simpa [he]) ?_|apply wp_bs|apply wp_b|refine wp_sr ?_|refine wp_sx ?_|refine wp_ret' ?_|refine wp_skip' ?_|refine wp_exit' ?_)
    refine wp_imp (loop xs.length 0 (by simp)) ?_
    rintro ex st (⟨rfl,h,rfl⟩ | ⟨rfl,h,rfl⟩)
    · simp only [if_true]
      repeat (first|apply wp_as|apply wp_ss|refine wr (by simp;with_reducible rfl) ?_|refine wq (by simp;with_reducible rfl) ?_|refine wt (by simpa) ?_|refine wf (by simpa) ?_|refine xt (by simpa) ?_|refine xf (by simpa) ?_|apply wp_bs|apply wp_b|refine wp_sr ?_|refine wp_sx ?_|refine wp_ret' ?_|refine wp_skip' ?_|refine wp_exit' ?_)
      simp only [List.drop_zero] at h
      simp [zi53,h]
    · simp only [List.drop_zero] at h
      simp [zi53,h]
  · have hne:xs ≠ ys:=fun h=>he (by rw [h])
    have h2:((xs.length:Int)=ys.length) ↔ xs.length=ys.length:=by omega
    refine call_of_wp zt53 rfl ?_
    repeat (first|apply wp_as|apply wp_ss|refine wr (by simp [he,h2];with_reducible rfl) ?_|refine wq (by simp [he,h2];with_reducible rfl) ?_|refine wt (by simpa [he,h2]) ?_|refine wf (by simpa [he,h2]) ?_|refine xt (by simpa [he,h2]) ?_|refine xf (by simpa [he,h2]) ?_|apply wp_bs|apply wp_b|refine wp_sr ?_|refine wp_sx ?_|refine wp_ret' ?_|refine wp_skip' ?_|refine wp_exit' ?_)
    simp [zi53,hne]
end Go.Idl
namespace Go.Idl
open Go
def bytes (xs:List Int):List (List IV):=xs.map fun n=>[.sc (.int .u8 n)]
@[simp] theorem bytes_len (xs:List Int):(bytes xs).length=xs.length:=by simp [bytes]
@[simp] theorem bytes_take (xs:List Int) (n:Nat):(bytes xs).take n=bytes (xs.take n):=by simp [bytes,List.map_take]
@[simp] theorem bytes_get? (xs:List Int) (i:Nat):(bytes xs)[i]? = xs[i]?.map fun n=>[IV.sc (.int .u8 n)]:=by simp [bytes]
@[simp] theorem bytes_get (xs:List Int) (i:Nat) (h:i < (bytes xs).length):(bytes xs)[i]=[IV.sc (.int .u8 (xs[i]'(by simpa [bytes] using h)))]:=by simp [bytes]
@[simp] theorem bytes_emp (xs:List Int):(bytes xs).isEmpty=xs.isEmpty:=by cases xs <;> rfl
@[simp] theorem bytes_all1 (xs:List Int):((bytes xs).all fun x=>x.all IV.plain1)=true:=by
  induction xs with
  | nil=>rfl
  | cons x xs ih=>simp only [bytes,List.map_cons,List.all_cons] at *;rw [ih];rfl
@[simp] theorem bytes_all2 (xs:List Int):((bytes xs).all fun x=>x.all IV.isData)=true:=by
  induction xs with
  | nil=>rfl
  | cons x xs ih=>simp only [bytes,List.map_cons,List.all_cons] at *;rw [ih];rfl
@[simp] theorem bytes_noLst (xs:List Int):noLstLL (bytes xs)=true:=by
  induction xs with
  | nil=>rfl
  | cons x xs ih=>simp only [bytes,List.map_cons,noLstLL,noLstL,noLstV] at *;rw [ih];rfl
abbrev R (code:List Int) (c:Bool) (n:Int):List IV:=[.lst 1 (bytes code) c,I n]
def CodeOk (code:List Int):Prop:=code.length≤2000∧∀ x ∈ code,0≤x∧x≤255
theorem xor_ok (a b:Nat) (ha:a < 2 ^ 40) (hb:b < 2 ^ 40):∃ n:Nat,n < 2 ^ 40∧binOp .xor 0 (Value.int .i64 a) (Value.int .i64 b)=Sem.pure (Value.int .i64 n):=by
  refine ⟨a ^^^ b,Nat.xor_lt_two_pow ha hb,?_⟩
  have h:=Nat.xor_lt_two_pow ha hb
  have e:IntKind.i64.wrap (((BitVec.ofInt 64 (a:Int)) ^^^ (BitVec.ofInt 64 (b:Int))).toNat:Int)=((a ^^^ b:Nat):Int):=by
    have h1:((BitVec.ofInt 64 (a:Int)) ^^^ (BitVec.ofInt 64 (b:Int))).toNat=a ^^^ b:=by
      rw [BitVec.toNat_xor,BitVec.ofInt_natCast,BitVec.ofInt_natCast,BitVec.toNat_ofNat,BitVec.toNat_ofNat,Nat.mod_eq_of_lt (by omega),Nat.mod_eq_of_lt (by omega)]
    rw [h1,wrapN (by omega)]
  show Sem.pure (Value.int .i64 (IntKind.i64.wrap (((BitVec.ofInt 64 (a:Int)) ^^^ (BitVec.ofInt 64 (b:Int))).toNat:Int)))=_
  rw [e]
theorem tmod_range {x n:Int} (hx:0≤x) (hn:1≤n):0≤x.tmod n∧x.tmod n < n:=by
  rw [Int.tmod_eq_emod_of_nonneg hx]
  exact ⟨Int.emod_nonneg _ (by omega),Int.emod_lt_of_pos _ (by omega)⟩
theorem ev_newReader (code:List Int) (c:Bool) (M:List Boxes) (hl:code.length≤274877906944) :
    ∃ c',Ev tb zl137 [] [.lst 1 (bytes code) c] M ⟨.bptr M.length 0 0,[],M,[R (code.take 2000) c' 0]⟩:=by
  have hi:((code.length:Int)≤2000) ↔ code.length≤2000:=by omega
  by_cases h:2000 < code.length
  · refine ⟨false,?_⟩
    have h2:¬ code.length≤2000:=by omega
    have h3:(2000:Int) < code.length:=by omega
    refine call_of_wp zt137 rfl ?_
    repeat (first|apply wp_as|apply wp_ss|refine wr (by simp [h,h2,h3,show 2000≤code.length by omega,natOf];with_reducible rfl) ?_|refine wq (by simp [h,h2,h3,show 2000≤code.length by omega,natOf];with_reducible rfl) ?_|refine wt (by simpa [h,h2,h3,show 2000≤code.length by omega,natOf]) ?_|refine wf (by simpa [h,h2,h3,show 2000≤code.length by omega,natOf]) ?_|refine xt (by simpa [h,h2,h3,show 2000≤code.length by omega,natOf]) ?_|refine xf (by simpa [h,h2,h3,show 2000≤code.length by omega,natOf]) ?_|apply wp_bs|apply wp_b|refine wp_sr ?_|refine wp_sx ?_|refine wp_ret' ?_|refine wp_skip' ?_|refine wp_exit' ?_)
    simp [zi137,h2,h3]
    intro _;omega
  · refine ⟨c,?_⟩
    have h2:code.length≤2000:=by omega
    have h3:¬ (2000:Int) < code.length:=by omega
    refine call_of_wp zt137 rfl ?_
    repeat (first|apply wp_as|apply wp_ss|refine wr (by simp [h,h2,h3];with_reducible rfl) ?_|refine wq (by simp [h,h2,h3];with_reducible rfl) ?_|refine wt (by simpa [h,h2,h3]) ?_|refine wf (by simpa [h,h2,h3]) ?_|refine xt (by simpa [h,h2,h3]) ?_|refine xf (by simpa [h,h2,h3]) ?_|apply wp_bs|apply wp_b|refine wp_sr ?_|refine wp_sx ?_|refine wp_ret' ?_|refine wp_skip' ?_|refine wp_exit' ?_)
    simp [zi137,List.take_of_length_le h2]
end Go.Idl
namespace Go.Idl
open Go
def eds (xs:List (Int×Int)):List (List IV):=xs.map fun e=>[I e.1,I e.2]
abbrev L2 (xs:List (Int×Int)) (c:Bool:=false):IV:=.lst 2 (eds xs) c
abbrev O2 (xs:List (Int×Int)):IV:=.own 2 (eds xs)
@[simp] theorem eds_len (xs:List (Int×Int)):(eds xs).length=xs.length:=by simp [eds]
@[simp] theorem eds_nil:eds []=[]:=rfl
@[simp] theorem eds_take (xs:List (Int×Int)) (n:Nat):(eds xs).take n=eds (xs.take n):=by simp [eds,List.map_take]
@[simp] theorem eds_drop (xs:List (Int×Int)) (n:Nat):(eds xs).drop n=eds (xs.drop n):=by simp [eds,List.map_drop]
@[simp] theorem eds_app (xs ys:List (Int×Int)):eds xs++eds ys=eds (xs++ys):=by simp [eds]
@[simp] theorem eds_one (xs:List (Int×Int)) (a b:Int):eds xs++[[IV.sc (.int .i64 a),IV.sc (.int .i64 b)]]=eds (xs++[(a,b)]):=by simp [eds]
@[simp] theorem eds_get? (xs:List (Int×Int)) (i:Nat):(eds xs)[i]? = xs[i]?.map fun e=>[IV.sc (.int .i64 e.1),IV.sc (.int .i64 e.2)]:=by simp [eds]
@[simp] theorem eds_get (xs:List (Int×Int)) (i:Nat) (h:i < (eds xs).length):(eds xs)[i]=[IV.sc (.int .i64 (xs[i]'(by simpa [eds] using h)).1),IV.sc (.int .i64 (xs[i]'(by simpa [eds] using h)).2)]:=by simp [eds]
@[simp] theorem eds_emp (xs:List (Int×Int)):(eds xs).isEmpty=xs.isEmpty:=by cases xs <;> rfl
@[simp] theorem eds_set (xs:List (Int×Int)) (i:Nat) (a b:Int):(eds xs).set i [IV.sc (.int .i64 a),IV.sc (.int .i64 b)]=eds (xs.set i (a,b)):=by
  simp [eds,List.map_set]
@[simp] theorem eds_all1 (xs:List (Int×Int)):((eds xs).all fun x=>x.all IV.plain1)=true:=by
  induction xs with
  | nil=>rfl
  | cons x xs ih=>simp only [eds,List.map_cons,List.all_cons] at *;rw [ih];rfl
@[simp] theorem eds_all2 (xs:List (Int×Int)):((eds xs).all fun x=>x.all IV.isData)=true:=by
  induction xs with
  | nil=>rfl
  | cons x xs ih=>simp only [eds,List.map_cons,List.all_cons] at *;rw [ih];rfl
@[simp] theorem eds_noLst (xs:List (Int×Int)):noLstLL (eds xs)=true:=by
  induction xs with
  | nil=>rfl
  | cons x xs ih=>simp only [eds,List.map_cons,noLstLL,noLstL,noLstV] at *;rw [ih];rfl
@[simp] theorem frz_eds (xs:List (Int×Int)):frzLL (eds xs)=eds xs:=by
  induction xs with
  | nil=>rfl
  | cons x xs ih=>simp only [eds,List.map_cons,frzLL,frzL,frzV] at *;rw [ih]
def row (a b:Nat):Nat→List (Int×Int)
  | 0=>[]
  | m+1=>((a:Int),(b:Int))::row a (b+1) m
def prsF (a:Nat):Nat→List (Int×Int)
  | 0=>[]
  | m+1=>row a (a+1) m++prsF (a+1) m
def prs (n:Nat):List (Int×Int):=prsF 0 n
theorem row_len (a:Nat):∀ (m b:Nat),(row a b m).length=m
  | 0,b=>rfl
  | m+1,b=>by simp [row,row_len a m]
theorem row_mem (a:Nat):∀ (m b:Nat) (e:Int×Int),e ∈ row a b m→e.1=a∧(b:Int)≤e.2∧e.2 < b+m
  | 0,b,e,h=>by simp [row] at h
  | m+1,b,e,h=>by
    rcases List.mem_cons.1 h with rfl | h
    · simp;omega
    · have:=row_mem a m (b+1) e h;omega
theorem prsF_len:∀ (m a:Nat),(prsF a m).length≤m * m
  | 0,a=>by simp [prsF]
  | m+1,a=>by
    have:=prsF_len m (a+1)
    have e:(m+1) * (m+1)=m * m+2 * m+1:=by rw [Nat.add_mul,Nat.mul_add];omega
    simp only [prsF,List.length_append,row_len]
    omega
theorem prsF_mem:∀ (m a:Nat) (e:Int×Int),e ∈ prsF a m→0≤e.1∧e.1 < e.2∧e.2 < a+m
  | 0,a,e,h=>by simp [prsF] at h
  | m+1,a,e,h=>by
    rcases List.mem_append.1 h with h | h
    · have:=row_mem a m (a+1) e h;omega
    · have:=prsF_mem m (a+1) e h;omega
theorem pairs_in (n a:Nat) (hn:n≤1000):∀ (m b:Nat) (acc:List (Int×Int)),b+m=n→acc.length+m≤2000000 →
    wp tb (.loop z138l8) { T:=[(0,I n),(3,O2 acc),(4,I a),(5,I b)],loc:=[],M:=[] }
      (fun ex st=>ex=.exit 2∧st={ T:=[(0,I n),(3,O2 (acc++row a b m)),(4,I a),(5,I n),(16,Bo false)],loc:=[],M:=[] }):=by
  intro m
  induction m with
  | zero =>
    intro b acc hb hl
    have h3:b=n:=hb
    subst h3
    refine wp_loop ?_
    repeat (first|apply wp_as|apply wp_ss|refine wr (by simp;with_reducible rfl) ?_|refine wq (by simp;with_reducible rfl) ?_|refine wt (by simpa) ?_|refine wf (by simpa) ?_|refine xt (by simpa) ?_|refine xf (by simpa) ?_|apply wp_bs|apply wp_b|refine wp_sr ?_|refine wp_sx ?_|refine wp_ret' ?_|refine wp_skip' ?_|refine wp_exit' ?_)
    simp [row]
  | succ m ih =>
    intro b acc hb hl
    have h1:(b:Int) < n:=by omega
    have w1:IntKind.i64.wrap ((b:Int)+1)=((b+1:Nat):Int):=wrapS (by omega)
    refine wp_loop ?_
    repeat (first|apply wp_as|apply wp_ss|refine wr (by simp [h1,w1,show acc.length≤274877906943 by omega];with_reducible rfl) ?_|refine wq (by simp [h1,w1,show acc.length≤274877906943 by omega];with_reducible rfl) ?_|refine wt (by simpa [h1,w1,show acc.length≤274877906943 by omega]) ?_|refine wf (by simpa [h1,w1,show acc.length≤274877906943 by omega]) ?_|refine xt (by simpa [h1,w1,show acc.length≤274877906943 by omega]) ?_|refine xf (by simpa [h1,w1,show acc.length≤274877906943 by omega]) ?_|apply wp_bs|apply wp_b|refine wp_sr ?_|refine wp_sx ?_|refine wp_ret' ?_|refine wp_skip' ?_|refine wp_exit' ?_)
    have:=ih (b+1) (acc++[((a:Int),(b:Int))]) (by omega) (by simp;omega)
    simp only [List.append_assoc,List.cons_append,List.nil_append] at this
    simp [row]
    exact this
theorem ev_pairs (n:Nat) (hn:n≤1000):Ev tb zl138 [] [I n] [] ⟨O2 (prs n),[],[],[]⟩:=by
  have loop:∀ (m a:Nat) (acc:List (Int×Int)),a+m=n→acc.length+m * m≤2000000 →
      wp tb (.loop z138l10) { T:=[(0,I n),(3,O2 acc),(4,I a)],loc:=[],M:=[] }
      (fun ex st=>ex=.exit 0∧st={ T:=[(0,I n),(3,O2 (acc++prsF a m)),(4,I n),(9,Bo false)],loc:=[],M:=[] }):=by
    intro m
    induction m with
    | zero =>
      intro a acc ha hl
      have h3:a=n:=ha
      subst h3
      refine wp_loop ?_
      repeat (first|apply wp_as|apply wp_ss|refine wr (by simp;with_reducible rfl) ?_|refine wq (by simp;with_reducible rfl) ?_|refine wt (by simpa) ?_|refine wf (by simpa) ?_|refine xt (by simpa) ?_|refine xf (by simpa) ?_|apply wp_bs|apply wp_b|refine wp_sr ?_|refine wp_sx ?_|refine wp_ret' ?_|refine wp_skip' ?_|refine wp_exit' ?_)
      simp [prsF]
    | succ m ih =>
      intro a acc ha hl
      have h1:(a:Int) < n:=by omega
      have w1:IntKind.i64.wrap ((a:Int)+1)=((a+1:Nat):Int):=wrapS (by omega)
      have e:(m+1) * (m+1)=m * m+2 * m+1:=by rw [Nat.add_mul,Nat.mul_add];omega
      refine wp_loop ?_
      repeat (first|apply wp_as|apply wp_ss|refine wr (by simp [h1,w1];with_reducible rfl) ?_|refine wq (by simp [h1,w1];with_reducible rfl) ?_|refine wt (by simpa [h1,w1]) ?_|refine wf (by simpa [h1,w1]) ?_|refine xt (by simpa [h1,w1]) ?_|refine xf (by simpa [h1,w1]) ?_|apply wp_bs|apply wp_b|refine wp_sr ?_|refine wp_sx ?_|refine wp_ret' ?_|refine wp_skip' ?_|refine wp_exit' ?_)
      refine wp_imp (pairs_in n a hn m (a+1) acc (by omega) (by omega)) ?_
      rintro ex st ⟨rfl,rfl⟩
      simp only [if_true]
      repeat (first|apply wp_as|apply wp_ss|refine wr (by simp [h1,w1];with_reducible rfl) ?_|refine wq (by simp [h1,w1];with_reducible rfl) ?_|refine wt (by simpa [h1,w1]) ?_|refine wf (by simpa [h1,w1]) ?_|refine xt (by simpa [h1,w1]) ?_|refine xf (by simpa [h1,w1]) ?_|apply wp_bs|apply wp_b|refine wp_sr ?_|refine wp_sx ?_|refine wp_ret' ?_|refine wp_skip' ?_|refine wp_exit' ?_)
      have:=ih (a+1) (acc++row a (a+1) m) (by omega) (by simp [row_len];omega)
      simp only [List.append_assoc] at this
      exact this
  have hnn:n * n≤1000 * 1000:=Nat.mul_le_mul hn hn
  refine call_of_wp zt138 rfl ?_
  repeat (first|apply wp_as|apply wp_ss|refine wr (by simp;with_reducible rfl) ?_|refine wq (by simp;with_reducible rfl) ?_|refine wt (by simpa) ?_|refine wf (by simpa) ?_|refine xt (by simpa) ?_|refine xf (by simpa) ?_|apply wp_bs|apply wp_b|refine wp_sr ?_|refine wp_sx ?_|refine wp_ret' ?_|refine wp_skip' ?_|refine wp_exit' ?_)
  refine wp_imp (loop n 0 [] (by omega) (by simp;omega)) ?_
  rintro ex st ⟨rfl,rfl⟩
  simp only [if_true]
  repeat (first|apply wp_as|apply wp_ss|refine wr (by simp;with_reducible rfl) ?_|refine wq (by simp;with_reducible rfl) ?_|refine wt (by simpa) ?_|refine wf (by simpa) ?_|refine xt (by simpa) ?_|refine xf (by simpa) ?_|apply wp_bs|apply wp_b|refine wp_sr ?_|refine wp_sx ?_|refine wp_ret' ?_|refine wp_skip' ?_|refine wp_exit' ?_)
  simp [zi138,prs]
abbrev Gr (n:Int) (es:List (Int×Int)) (c:Bool:=false):IV:=.agg [I n,L2 es c]
abbrev OG (n:Int) (es:List (Int×Int)):IV:=.agg [I n,O2 es]
def isE (a b:Int) (e:Int×Int):Bool:=decide (e.1=a) && decide (e.2=b) || decide (e.1=b) && decide (e.2=a)
def has (es:List (Int×Int)) (a b:Int):Bool:=es.any (isE a b)
theorem ev_hasEdge (n:Int) (es:List (Int×Int)) (c:Bool) (a b:Int) (hl:es.length≤100000) :
    Ev tb zl130 [] [Gr n es c,I a,I b] [] ⟨Bo (has es a b),[],[],[]⟩:=by
  have loop:∀ (m i:Nat) (B:Boxes),i+m=es.length→wp tb (.loop z130l7) { T:=[(1,I a),(2,I b),(3,.bptr 0 0 0),(7,I i)],loc:=[I n,L2 es c]::B,M:=[] }
      (fun ex st=>(ex=.exit 0∧has (es.drop i) a b=false∧∃ B',st={ T:=[(1,I a),(2,I b),(3,.bptr 0 0 0),(7,I es.length),(13,Bo false)],loc:=[I n,L2 es c]::B',M:=[] }) ∨
        ex=.ret∧has (es.drop i) a b=true∧∃ B',st={ T:=[(6,Bo true)],loc:=[I n,L2 es c]::B',M:=[] }):=by
    intro m
    induction m with
    | zero =>
      intro i B hi
      have h3:i=es.length:=hi
      subst h3
      refine wp_loop ?_
      repeat (first|apply wp_as|apply wp_ss|refine wr (by simp;with_reducible rfl) ?_|refine wq (by simp;with_reducible rfl) ?_|refine wt (by simpa) ?_|refine wf (by simpa) ?_|refine xt (by simpa) ?_|refine xf (by simpa) ?_|apply wp_bs|apply wp_b|refine wp_sr ?_|refine wp_sx ?_|refine wp_ret' ?_|refine wp_skip' ?_|refine wp_exit' ?_)
      refine .inl ⟨rfl,by simp [has],_,rfl⟩
    | succ m ih =>
      intro i B hi
      have hi2:i < es.length:=by omega
      have w1:IntKind.i64.wrap ((i:Int)+1)=((i+1:Nat):Int):=wrapS (by omega)
      have hd:es.drop i=es[i]::es.drop (i+1):=List.drop_eq_getElem_cons hi2
      refine wp_loop ?_
      repeat (first|apply wp_as|apply wp_ss|refine wr (by simp [hi2,w1];with_reducible rfl) ?_|refine wq (by simp [hi2,w1];with_reducible rfl) ?_|refine wt (by simpa [hi2,w1]) ?_|refine wf (by simpa [hi2,w1]) ?_|refine xt (by simpa [hi2,w1]) ?_|refine xf (by simpa [hi2,w1]) ?_|apply wp_bs|apply wp_b|refine wp_sr ?_|refine wp_sx ?_|refine wp_ret' ?_|refine wp_skip' ?_|refine wp_exit' ?_)
      have hh:∀ (x:Int×Int) r,has (x::r) a b=(isE a b x || has r a b):=fun _ _=>rfl
      rw [hd,hh]
      generalize es[i]=e
      obtain ⟨p,q⟩:=e
      have hn:=ih (i+1) (B++[[I p,I q]]) (by omega)
      have key:∃ st1,execOps (limF tb) { T:=[(1,I a),(2,I b),(3,.bptr 0 0 0),(7,I i),(8,.bptr 0 (B.length+1) 0)],loc:=[I n,L2 es c]::(B++[[I p,I q]]),M:=[] }
          (match z130r4 with | .reg ops _ _=>ops | _=>[])=some st1 ∧
          st1.cut [1,2,3,7,42]={ T:=[(1,I a),(2,I b),(3,.bptr 0 0 0),(7,I i),(42,Bo (isE a b (p,q)))],loc:=[I n,L2 es c]::(B++[[I p,I q]]),M:=[] }:=by
        by_cases h1:p=a
        · subst h1
          by_cases h2:q=b
          · subst h2
            exact ⟨_,by simp [z130r4];with_reducible rfl,by simp [isE]⟩
          · by_cases h3:p=b
            · subst h3
              exact ⟨_,by simp [z130r4,h2];with_reducible rfl,by simp [isE,h2]⟩
            · exact ⟨_,by simp [z130r4,h2,h3];with_reducible rfl,by simp [isE,h2,h3]⟩
        · by_cases h3:p=b
          · subst h3
            by_cases h4:q=a
            · subst h4
              exact ⟨_,by simp [z130r4,h1];with_reducible rfl,by simp [isE,h1]⟩
            · exact ⟨_,by simp [z130r4,h1,h4];with_reducible rfl,by simp [isE,h1,h4]⟩
          · exact ⟨_,by simp [z130r4,h1,h3];with_reducible rfl,by simp [isE,h1,h3]⟩
      obtain ⟨st1,k1,k2⟩:=key
      refine wp_rs k1 k2 ?_
      cases hx:isE a b (p,q) with
      | true =>
        repeat (first|apply wp_as|apply wp_ss|refine wr (by simp;with_reducible rfl) ?_|refine wq (by simp;with_reducible rfl) ?_|refine wt (by simpa) ?_|refine wf (by simpa) ?_|refine xt (by simpa) ?_|refine xf (by simpa) ?_|apply wp_bs|apply wp_b|refine wp_sr ?_|refine wp_sx ?_|refine wp_ret' ?_|refine wp_skip' ?_|refine wp_exit' ?_)
        exact .inr ⟨rfl,by simp,_,rfl⟩
      | false =>
        repeat (first|apply wp_as|apply wp_ss|refine wr (by simp [w1];with_reducible rfl) ?_|refine wq (by simp [w1];with_reducible rfl) ?_|refine wt (by simpa [w1]) ?_|refine wf (by simpa [w1]) ?_|refine xt (by simpa [w1]) ?_|refine xf (by simpa [w1]) ?_|apply wp_bs|apply wp_b|refine wp_sr ?_|refine wp_sx ?_|refine wp_ret' ?_|refine wp_skip' ?_|refine wp_exit' ?_)
        rw [Bool.false_or]
        exact hn
  refine call_of_wp zt130 rfl ?_
  repeat (first|apply wp_as|apply wp_ss|refine wr (by simp;with_reducible rfl) ?_|refine wq (by simp;with_reducible rfl) ?_|refine wt (by simpa) ?_|refine wf (by simpa) ?_|refine xt (by simpa) ?_|refine xf (by simpa) ?_|apply wp_bs|apply wp_b|refine wp_sr ?_|refine wp_sx ?_|refine wp_ret' ?_|refine wp_skip' ?_|refine wp_exit' ?_)
  refine wp_imp (loop es.length 0 [] (by simp)) ?_
  rintro ex st (⟨rfl,h,B',rfl⟩ | ⟨rfl,h,B',rfl⟩)
  · simp only [if_true]
    repeat (first|apply wp_as|apply wp_ss|refine wr (by simp;with_reducible rfl) ?_|refine wq (by simp;with_reducible rfl) ?_|refine wt (by simpa) ?_|refine wf (by simpa) ?_|refine xt (by simpa) ?_|refine xf (by simpa) ?_|apply wp_bs|apply wp_b|refine wp_sr ?_|refine wp_sx ?_|refine wp_ret' ?_|refine wp_skip' ?_|refine wp_exit' ?_)
    simp only [List.drop_zero] at h
    simp [zi130,h]
  · simp only [List.drop_zero] at h
    simp [zi130,h]
def compl (n:Nat) (es:List (Int×Int)):List (Int×Int):=(prs n).filter fun e=>!has es e.1 e.2
theorem filter_take_succ {α} {p:α→Bool} {xs:List α} {i:Nat} (h:i < xs.length):(xs.take (i+1)).filter p=(xs.take i).filter p++(if p xs[i] then [xs[i]] else []):=by
  rw [List.take_succ_eq_append_getElem h,List.filter_append]
  congr 1
  simp [List.filter_cons]
theorem ev_spec_complement (n:Nat) (hn:n≤100) (es:List (Int×Int)) (c:Bool) (hl:es.length≤100000) :
    Ev tb zl122 [] [Gr n es c] [] ⟨OG n (compl n es),[],[],[]⟩:=by
  have e1:=ev_lim (ev_pairs n (by omega))
  have e2:=fun a b=>ev_lim (ev_hasEdge n es c a b hl)
  have hpl:(prs n).length≤100000:=by
    have:=prsF_len n 0
    have h2:n * n≤100 * 100:=Nat.mul_le_mul hn hn
    simp only [prs];omega
  have loop:∀ (m i:Nat),i+m=(prs n).length→wp tb (.loop z122l8) { T:=[(1,.bptr 0 0 0),(2,.bptr 0 1 0),(3,.bptr 0 2 0),(4,O2 (prs n)),(5,I i)],loc:=[[I n,L2 es c],[I 0,.lst 0 [] true],[I n,O2 (((prs n).take i).filter fun e=>!has es e.1 e.2)]],M:=[] }
      (fun ex st=>ex=.exit 0∧st={ T:=[(1,.bptr 0 0 0),(2,.bptr 0 1 0),(3,.bptr 0 2 0),(4,O2 (prs n)),(5,I (prs n).length),(16,Bo false)],loc:=[[I n,L2 es c],[I 0,.lst 0 [] true],[I n,O2 (compl n es)]],M:=[] }):=by
    intro m
    induction m with
    | zero =>
      intro i hi
      have h3:i=(prs n).length:=hi
      subst h3
      refine wp_loop ?_
      repeat (first|apply wp_as|apply wp_ss|refine wr (by simp;with_reducible rfl) ?_|refine wq (by simp;with_reducible rfl) ?_|refine wt (by simpa) ?_|refine wf (by simpa) ?_|refine xt (by simpa) ?_|refine xf (by simpa) ?_|apply wp_bs|apply wp_b|refine wp_sr ?_|refine wp_sx ?_|refine wp_ret' ?_|refine wp_skip' ?_|refine wp_exit' ?_)
      simp [compl]
    | succ m ih =>
      intro i hi
      have hi2:i < (prs n).length:=by omega
      have w1:IntKind.i64.wrap ((i:Int)+1)=((i+1:Nat):Int):=wrapS (by omega)
      have hn:=ih (i+1) (by omega)
      rw [filter_take_succ hi2] at hn
      have hfl:(((prs n).take i).filter fun e=>!has es e.1 e.2).length≤100000:=by
        have h1:=List.length_filter_le (fun e:Int×Int=>!has es e.1 e.2) ((prs n).take i)
        simp at h1;omega
      generalize (((prs n).take i).filter fun e=>!has es e.1 e.2)=acc at hn hfl
      cases hx:has es (prs n)[i].1 (prs n)[i].2 with
      | true =>
        rw [hx] at hn
        simp at hn
        refine wp_loop ?_
        repeat (first|apply wp_as|apply wp_ss|refine wr (by simp [e2,hi2,hx,w1];with_reducible rfl) ?_|refine wq (by simp [e2,hi2,hx,w1];with_reducible rfl) ?_|refine wt (by simpa [e2,hi2,hx,w1]) ?_|refine wf (by simpa [e2,hi2,hx,w1]) ?_|refine xt (by simpa [e2,hi2,hx,w1]) ?_|refine xf (by simpa [e2,hi2,hx,w1]) ?_|apply wp_bs|apply wp_b|refine wp_sr ?_|refine wp_sx ?_|refine wp_ret' ?_|refine wp_skip' ?_|refine wp_exit' ?_)
        exact hn
      | false =>
        rw [hx] at hn
        simp at hn
        refine wp_loop ?_
        repeat (first|apply wp_as|apply wp_ss|refine wr (by simp [e2,hi2,hx,w1,show acc.length≤274877906943 by omega];with_reducible rfl) ?_|refine wq (by simp [e2,hi2,hx,w1,show acc.length≤274877906943 by omega];with_reducible rfl) ?_|refine wt (by simpa [e2,hi2,hx,w1,show acc.length≤274877906943 by omega]) ?_|refine wf (by simpa [e2,hi2,hx,w1,show acc.length≤274877906943 by omega]) ?_|refine xt (by simpa [e2,hi2,hx,w1,show acc.length≤274877906943 by omega]) ?_|refine xf (by simpa [e2,hi2,hx,w1,show acc.length≤274877906943 by omega]) ?_|apply wp_bs|apply wp_b|refine wp_sr ?_|refine wp_sx ?_|refine wp_ret' ?_|refine wp_skip' ?_|refine wp_exit' ?_)
        have hb:acc.length≤274877906943:=by omega
        refine wp_rega (by simp [hi2,hb];with_reducible rfl) (by simp;with_reducible rfl) ?_ ?_
        · intro p hp
          simp only [List.mem_cons,List.not_mem_nil,or_false] at hp
          subst hp
          exact ⟨_,by simp [hi2,hb];with_reducible rfl,by simp⟩
        repeat (first|apply wp_as|apply wp_ss|refine wr (by simp [w1];with_reducible rfl) ?_|refine wq (by simp [w1];with_reducible rfl) ?_|refine wt (by simpa [w1]) ?_|refine wf (by simpa [w1]) ?_|refine xt (by simpa [w1]) ?_|refine xf (by simpa [w1]) ?_|apply wp_bs|apply wp_b|refine wp_sr ?_|refine wp_sx ?_|refine wp_ret' ?_|refine wp_skip' ?_|refine wp_exit' ?_)
        exact hn
  refine call_of_wp zt122 rfl ?_
  repeat (first|apply wp_as|apply wp_ss|refine wr (by simp [e1];with_reducible rfl) ?_|refine wq (by simp [e1];with_reducible rfl) ?_|refine wt (by simpa [e1]) ?_|refine wf (by simpa [e1]) ?_|refine xt (by simpa [e1]) ?_|refine xf (by simpa [e1]) ?_|apply wp_bs|apply wp_b|refine wp_sr ?_|refine wp_sx ?_|refine wp_ret' ?_|refine wp_skip' ?_|refine wp_exit' ?_)
  have:=loop (prs n).length 0 (by simp)
  simp at this
  refine wp_imp this ?_
  rintro ex st ⟨rfl,rfl⟩
  simp only [if_true]
  repeat (first|apply wp_as|apply wp_ss|refine wr (by simp;with_reducible rfl) ?_|refine wq (by simp;with_reducible rfl) ?_|refine wt (by simpa) ?_|refine wf (by simpa) ?_|refine xt (by simpa) ?_|refine xf (by simpa) ?_|apply wp_bs|apply wp_b|refine wp_sr ?_|refine wp_sx ?_|refine wp_ret' ?_|refine wp_skip' ?_|refine wp_exit' ?_)
  simp [zi122]
end Go.Idl
namespace Go.Idl
open Go
theorem call_ex {f:Lab} {fn:IFun} (hf:tb f=some fn) {lent:List Nat} {args:List IV} {M:List Boxes} (hl:lent.all fn.keep.contains=true) {P:Ret→Prop}
    (h:wp tb fn.body { T:=args.zipIdx.map fun (v,i)=>(i,v),loc:=[],M:=M } fun ex st=>(ex=.normal ∨ ex=.ret)∧∃ r,P r∧finish fn lent st=some r):∃ r,P r∧Ev tb f lent args M r:=by
  obtain ⟨ex,st',⟨h1,r,hP,h2⟩,-,back⟩:=wp_sound h
  exact ⟨r,hP,call_of_wp hf hl (back _ ⟨h1,h2⟩)⟩
theorem sub_take_succ {α} {acc xs:List α} {i:Nat} (h:i < xs.length) (hs:acc.Sublist (xs.take i)):(acc++[xs[i]]).Sublist (xs.take (i+1)):=by
  rw [List.take_succ_eq_append_getElem h]
  exact hs.append (List.Sublist.refl _)
theorem sub_take_skip {α} {acc xs:List α} {i:Nat} (hs:acc.Sublist (xs.take i)):acc.Sublist (xs.take (i+1)) :=
  hs.trans (List.take_sublist_take_left (by omega))
end Go.Idl
namespace Go.Idl
theorem sumB {B:Int} (hB:0≤B):∀ {xs:List Int},(∀ x ∈ xs,0≤x∧x≤B)→0≤xs.sum∧xs.sum≤B * xs.length
  | [],_=>by simp
  | x::r,h=>by
    have h1:=h x (by simp)
    have h2:=sumB hB (xs:=r) (fun y hy=>h y (by simp [hy]))
    have e:B * ((x::r).length:Int)=B * r.length+B:=by
      rw [List.length_cons,Int.natCast_add,Int.mul_add];simp
    rw [List.sum_cons,e]
    omega
def slk (s:List Int) (k:Nat):Int:=(k:Int) * ((k:Int) - 1) - (s.take k).sum+((s.drop k).map fun x:Int=>min x (k:Int)).sum
def slacks (d:List Int):List Int:=(List.range d.length).map fun i=>slk (fall d) (i+1)
def least (xs:List Int):Int:=xs.foldl (fun n x=>min n x) 0
end Go.Idl
namespace Go.Idl
open Go
abbrev Z:IV:=.lst 0 [] true
def Few (xs:List Int):Prop:=xs.length≤7∧∀ x ∈ xs,0≤x∧x≤6
theorem valid_few {xs:List Int} (h:valid xs=true):Few xs:=by
  simp only [valid,Bool.and_eq_true,decide_eq_true_eq,List.all_eq_true] at h
  refine ⟨h.1,fun x hx=>?_⟩
  have:=h.2 x hx
  omega
theorem valid_mem {xs:List Int} (h:valid xs=true):∀ x ∈ xs,0≤x∧x < xs.length:=by
  simp only [valid,Bool.and_eq_true,decide_eq_true_eq,List.all_eq_true] at h
  exact h.2
theorem Few.small {xs:List Int} (h:Few xs):SmallSum xs:=by
  refine ⟨by have:=h.1;omega,fun k=>?_⟩
  have h1:=sumB (B:=6) (by omega) (xs:=xs.take k) (fun x hx=>h.2 x (List.mem_of_mem_take hx))
  have h2:(xs.take k).length≤7:=by have:=h.1;simp;omega
  omega
theorem Few.take {xs:List Int} (h:Few xs) (k:Nat):Few (xs.take k):=⟨by have:=h.1;simp;omega,fun x hx=>h.2 x (List.mem_of_mem_take hx)⟩
theorem Few.drop {xs:List Int} (h:Few xs) (k:Nat):Few (xs.drop k):=⟨by have:=h.1;simp;omega,fun x hx=>h.2 x (List.mem_of_mem_drop hx)⟩
theorem Few.fall {xs:List Int} (h:Few xs):Few (fall xs):=⟨by rw [fall_len];exact h.1,fun x hx=>h.2 x (fall_mem.1 hx)⟩
theorem Few.sum {xs:List Int} (h:Few xs):0≤xs.sum∧xs.sum≤42:=by
  have h1:=sumB (B:=6) (by omega) h.2
  have:=h.1
  omega
def mapR (n:Nat) (g:Nat→Int):List Int:=(List.range n).map g
@[simp] theorem ints_rep (n:Nat):List.replicate n [IV.sc (.int .i64 0)]=ints (List.replicate n 0):=by simp [ints]
def graphic (d:List Int):Bool:=valid d && decide (d.sum % 2=0) && (slacks d).all fun x=>decide (0≤x)
end Go.Idl
namespace Go.Idl
open Go
def bump (o:List Int) (i:Nat):List Int:=o.set i (o.getD i 0+1)
def dfold (o:List Int) (es:List (Int×Int)):List Int:=es.foldl (fun o e=>bump (bump o e.1.toNat) e.2.toNat) o
def degs (n:Nat) (es:List (Int×Int)):List Int:=dfold (List.replicate n 0) es
def EdgesIn (n:Nat) (es:List (Int×Int)):Prop:=∀ e ∈ es,0≤e.1∧e.1 < n∧0≤e.2∧e.2 < n
theorem bump_len (o:List Int) (i:Nat):(bump o i).length=o.length:=by simp [bump]
theorem bump_eq {o:List Int} {i:Nat} (h:i < o.length):bump o i=o.set i (o[i]+1):=by
  simp [bump,List.getD_eq_getElem?_getD,List.getElem?_eq_getElem h]
theorem bump_bound {o:List Int} {i:Nat} {B:Int} (h:∀ x ∈ o,0≤x∧x≤B) (hB:0≤B):∀ x ∈ bump o i,0≤x∧x≤B+1:=by
  intro x hx
  rcases List.mem_or_eq_of_mem_set hx with hx | rfl
  · have:=h x hx;omega
  · rw [List.getD_eq_getElem?_getD]
    cases he:o[i]? with
    | none=>simp;omega
    | some y=>have:=h y (List.mem_of_getElem? he);simp;omega
theorem dfold_len:∀ (es:List (Int×Int)) (o:List Int),(dfold o es).length=o.length
  | [],o=>rfl
  | e::es,o=>by simp only [dfold,List.foldl_cons];rw [← dfold,dfold_len es];simp [bump_len]
theorem prs_in {n:Nat} {es:List (Int×Int)} (h:es.Sublist (prs n)):EdgesIn n es:=by
  intro e he
  have:=prsF_mem n 0 e (h.mem he)
  omega
theorem prs_len {n:Nat} (hn:n≤7) {es:List (Int×Int)} (h:es.Sublist (prs n)):es.length≤49:=by
  have h1:=h.length_le
  have:=prsF_len n 0
  have h2:n * n≤7 * 7:=Nat.mul_le_mul hn hn
  simp only [prs] at h1;omega
theorem ev_degrees (n:Nat) (es:List (Int×Int)) (c:Bool) (hn:n≤1000) (hl:es.length≤1000) (he:EdgesIn n es) :
    Ev tb zl125 [] [Gr n es c] [] ⟨O (degs n es),[],[],[]⟩:=by
  have loop:∀ (m i:Nat) (out:List Int),i+m=es.length→out.length=n→(∀ x ∈ out,0≤x∧x≤2 * i) →
      wp tb (.loop z125l7) { T:=[(1,.bptr 0 0 0),(3,O out),(4,I i)],loc:=[[I n,L2 es c]],M:=[] }
      (fun ex st=>ex=.exit 0∧st={ T:=[(1,.bptr 0 0 0),(3,O (dfold out (es.drop i))),(4,I es.length),(12,Bo false)],loc:=[[I n,L2 es c]],M:=[] }):=by
    intro m
    induction m with
    | zero =>
      intro i out hi ho hb
      have h3:i=es.length:=hi
      subst h3
      refine wp_loop ?_
      repeat (first|apply wp_as|apply wp_ss|refine wr (by simp;with_reducible rfl) ?_|refine wq (by simp;with_reducible rfl) ?_|refine wt (by simpa) ?_|refine wf (by simpa) ?_|refine xt (by simpa) ?_|refine xf (by simpa) ?_|apply wp_bs|apply wp_b|refine wp_sr ?_|refine wp_sx ?_|refine wp_ret' ?_|refine wp_skip' ?_|refine wp_exit' ?_)
      simp [dfold]
    | succ m ih =>
      intro i out hi ho hb
      have hi2:i < es.length:=by omega
      have w1:IntKind.i64.wrap ((i:Int)+1)=((i+1:Nat):Int):=wrapS (by omega)
      have hd:es.drop i=es[i]::es.drop (i+1):=List.drop_eq_getElem_cons hi2
      have hei:=he es[i] (List.getElem_mem hi2)
      obtain ⟨p,q,hpq,hp,hq⟩:∃ p q:Nat,es[i]=((p:Int),(q:Int))∧p < n∧q < n:=⟨es[i].1.toNat,es[i].2.toNat,by ext <;> simp <;> omega,by omega,by omega⟩
      rw [hd,hpq]
      have hpo:p < out.length:=by omega
      have hx:=hb out[p] (List.getElem_mem hpo)
      have w2:IntKind.i64.wrap (out[p]+1)=out[p]+1:=wrap64 (by omega) (by omega)
      have e1:=bump_eq hpo
      have b1:=bump_bound (i:=p) hb (by omega)
      have l1:=bump_len out p
      have hstep:dfold out (((p:Int),(q:Int))::es.drop (i+1))=dfold (bump (bump out p) q) (es.drop (i+1)):=rfl
      rw [hstep]
      refine wp_loop ?_
      refine wp_as (wp_rs (by simp;with_reducible rfl) (by simp;with_reducible rfl) ?_)
      refine wp_ct (t:=true) (by simp [hi2]) (fun _=>wp_ss ?_) (by simp)
      refine wp_bs ?_
      refine wr (by simp [hi2,hpq,hpo,w2,← e1];with_reducible rfl) ?_
      generalize bump out p=out1 at *
      have hqo:q < out1.length:=by omega
      have hx2:=b1 out1[q] (List.getElem_mem hqo)
      have w3:IntKind.i64.wrap (out1[q]+1)=out1[q]+1:=wrap64 (by omega) (by omega)
      have e2:=bump_eq hqo
      have b2:=bump_bound (i:=q) b1 (by omega)
      have l2:=bump_len out1 q
      refine wq (by simp [hi2,hpq,hqo,w3,← e2];with_reducible rfl) ?_
      repeat (first|apply wp_as|apply wp_ss|refine wr (by simp [w1];with_reducible rfl) ?_|refine wq (by simp [w1];with_reducible rfl) ?_|refine wt (by simpa [w1]) ?_|refine wf (by simpa [w1]) ?_|refine xt (by simpa [w1]) ?_|refine xf (by simpa [w1]) ?_|apply wp_bs|apply wp_b|refine wp_sr ?_|refine wp_sx ?_|refine wp_ret' ?_|refine wp_skip' ?_|refine wp_exit' ?_)
      exact ih (i+1) (bump out1 q) (by omega) (by omega) (fun x hx=>by have:=b2 x hx;omega)
  refine call_of_wp zt125 rfl ?_
  repeat (first|apply wp_as|apply wp_ss|refine wr (by simp [show n≤274877906944 by omega];with_reducible rfl) ?_|refine wq (by simp [show n≤274877906944 by omega];with_reducible rfl) ?_|refine wt (by simpa [show n≤274877906944 by omega]) ?_|refine wf (by simpa [show n≤274877906944 by omega]) ?_|refine xt (by simpa [show n≤274877906944 by omega]) ?_|refine xf (by simpa [show n≤274877906944 by omega]) ?_|apply wp_bs|apply wp_b|refine wp_sr ?_|refine wp_sx ?_|refine wp_ret' ?_|refine wp_skip' ?_|refine wp_exit' ?_)
  have:=loop es.length 0 (List.replicate n 0) (by simp) (by simp) (by intro x hx;have:=List.eq_of_mem_replicate hx;subst this;simp)
  simp at this
  refine wp_imp this ?_
  rintro ex st ⟨rfl,rfl⟩
  simp only [if_true]
  repeat (first|apply wp_as|apply wp_ss|refine wr (by simp;with_reducible rfl) ?_|refine wq (by simp;with_reducible rfl) ?_|refine wt (by simpa) ?_|refine wf (by simpa) ?_|refine xt (by simpa) ?_|refine xf (by simpa) ?_|apply wp_bs|apply wp_b|refine wp_sr ?_|refine wp_sx ?_|refine wp_ret' ?_|refine wp_skip' ?_|refine wp_exit' ?_)
  simp [zi125,degs]
def Low (B:Int) (d:List Int):Prop:=∀ x ∈ d,-B≤x∧x≤B
theorem Low.set {B:Int} {d:List Int} (h:Low B d) {i:Nat} {x:Int} (hx:-B≤x∧x≤B):Low B (d.set i x):=by
  intro y hy
  rcases List.mem_or_eq_of_mem_set hy with hy | rfl
  · exact h y hy
  · exact hx
theorem Low.app {B:Int} {d:List Int} (h:Low B d) {x:Int} (hx:-B≤x∧x≤B):Low B (d++[x]):=by
  intro y hy
  rcases List.mem_append.1 hy with hy | hy
  · exact h y hy
  · simp at hy;subst hy;exact hx
theorem Low.mono {B C:Int} {d:List Int} (h:Low B d) (hc:B≤C):Low C d:=fun x hx=>by have:=h x hx;omega
end Go.Idl
namespace Go.Idl
def insC {α:Type} (lt:α→α→Bool) (x:α):List α→List α→List α
  | [],B=>x::B
  | a::r,B=>if lt x a then insC lt x r (a::B) else r.reverse++a::x::B
def srtC {α:Type} (lt:α→α→Bool):List α→List α→List α
  | S,[]=>S
  | S,x::r=>srtC lt (insC lt x S.reverse []) r
theorem insC_perm {α:Type} (lt:α→α→Bool) (x:α):∀ (r B:List α),(insC lt x r B).Perm (r.reverse++x::B)
  | [],B=>.refl _
  | a::r,B=>by
    unfold insC
    split
    · refine (insC_perm lt x r (a::B)).trans ?_
      rw [List.reverse_cons,List.append_assoc]
      exact List.Perm.append_left _ (.swap _ _ _)
    · rw [List.reverse_cons,List.append_assoc]
      exact .refl _
theorem insC_len {α:Type} (lt:α→α→Bool) (x:α) (S:List α):(insC lt x S.reverse []).length=S.length+1:=by
  have:=(insC_perm lt x S.reverse []).length_eq
  simpa using this
abbrev Srt {α:Type} (lt:α→α→Bool) (l:List α):Prop:=l.Pairwise fun a b=>lt b a=false
theorem insC_srt {α:Type} {lt:α→α→Bool} (ht:∀ a b c,lt b a=false→lt c b=false→lt c a=false) (ha:∀ a b,lt a b=true→lt b a=false) (x:α):∀ (r B:List α),Srt lt (r.reverse++B)→(∀ b ∈ B,lt x b=true)→Srt lt (insC lt x r B)
  | [],B,h,hb=>List.pairwise_cons.2 ⟨fun b hb'=>ha _ _ (hb b hb'),by simpa using h⟩
  | a::r,B,h,hb=>by
    rw [List.reverse_cons,List.append_assoc] at h
    unfold insC
    split
    · rename_i hx
      refine insC_srt ht ha x r (a::B) h fun b hb'=>?_
      rcases List.mem_cons.1 hb' with rfl | hb'
      · exact hx
      · exact hb b hb'
    · rename_i hx
      have hx:lt x a=false:=by simpa using hx
      obtain ⟨h1,h2,h3⟩:=List.pairwise_append.1 (show Srt lt (r.reverse++a::B) from h)
      have h2:=List.pairwise_cons.1 h2
      refine List.pairwise_append.2 ⟨h1,?_,fun p hp q hq=>?_⟩
      · refine List.pairwise_cons.2 ⟨fun q hq=>?_,List.pairwise_cons.2 ⟨fun b hb'=>ha _ _ (hb b hb'),h2.2⟩⟩
        rcases List.mem_cons.1 hq with rfl | hq
        · exact hx
        · exact h2.1 q hq
      · have h4:=h3 p hp a (by simp)
        rcases List.mem_cons.1 hq with rfl | hq
        · exact h4
        · rcases List.mem_cons.1 hq with rfl | hq
          · exact ht _ _ _ h4 hx
          · exact h3 p hp q (by simp [hq])
theorem srtC_ok {α:Type} {lt:α→α→Bool} (ht:∀ a b c,lt b a=false→lt c b=false→lt c a=false) (ha:∀ a b,lt a b=true→lt b a=false):∀ (r S:List α),Srt lt S→Srt lt (srtC lt S r)∧(srtC lt S r).Perm (S++r)
  | [],S,h=>⟨h,by simp [srtC]⟩
  | x::r,S,h=>by
    obtain ⟨h1,h2⟩:=srtC_ok ht ha r (insC lt x S.reverse []) (insC_srt ht ha x _ _ (by simpa using h) (by simp))
    refine ⟨h1,h2.trans ?_⟩
    have:=insC_perm lt x S.reverse []
    rw [List.reverse_reverse] at this
    refine (this.append_right r).trans ?_
    rw [List.append_assoc];exact .refl _
end Go.Idl
namespace Go.Idl
open Go
theorem appc_get1 {α:Type} {A Z:List α} {a x:α}:(A++a::x::Z)[A.length+1]? = some x:=by
  rw [List.getElem?_append_right (by omega)];simp
theorem appc_get0 {α:Type} {A Z:List α} {a:α}:(A++a::Z)[A.length]? = some a:=by
  rw [List.getElem?_append_right (by omega)];simp
theorem appc_set {α:Type} {A Z:List α} {a x:α}:((A++a::x::Z).set (A.length+1) a).set A.length x=A++x::a::Z:=by
  rw [List.set_append_right _ _ (by omega),List.set_append_right _ _ (by omega)]
  simp
def CmpOK {α:Type} (v:α→IV) (F:Lab) (caps:List IV) (lt:α→α→Bool) (D:α→Prop) (M:List Boxes):Prop :=
  ∀ x y,D x→D y→∃ k:Int,decide (k < 0)=lt x y∧Ev tb F [] (v x::v y::caps) (M++[[]]) ⟨I k,[],M++[[]],[]⟩
end Go.Idl
namespace Go.Idl
open Go
abbrev O3 (xs:List (Int×Int×Int)):IV:=.own 3 (rowsJ xs)
abbrev vJ (x:Int×Int×Int):IV:=.agg [I x.1,I x.2.1,I x.2.2]
@[simp] theorem rowsJ_len (xs:List (Int×Int×Int)):(rowsJ xs).length=xs.length:=by simp [rowsJ]
@[simp] theorem rowsJ_nil:rowsJ []=[]:=rfl
@[simp] theorem rowsJ_app (xs ys:List (Int×Int×Int)):rowsJ xs++rowsJ ys=rowsJ (xs++ys):=by simp [rowsJ]
@[simp] theorem rowsJ_one (xs:List (Int×Int×Int)) (a b c:Int):rowsJ xs++[[IV.sc (.int .i64 a),IV.sc (.int .i64 b),IV.sc (.int .i64 c)]]=rowsJ (xs++[(a,b,c)]):=by simp [rowsJ]
@[simp] theorem rowsJ_get? (xs:List (Int×Int×Int)) (i:Nat):(rowsJ xs)[i]? = xs[i]?.map fun e=>[IV.sc (.int .i64 e.1),IV.sc (.int .i64 e.2.1),IV.sc (.int .i64 e.2.2)]:=by simp [rowsJ]
@[simp] theorem rowsJ_get (xs:List (Int×Int×Int)) (i:Nat) (h:i < (rowsJ xs).length):(rowsJ xs)[i]=[IV.sc (.int .i64 (xs[i]'(by simpa [rowsJ] using h)).1),IV.sc (.int .i64 (xs[i]'(by simpa [rowsJ] using h)).2.1),IV.sc (.int .i64 (xs[i]'(by simpa [rowsJ] using h)).2.2)]:=by simp [rowsJ]
@[simp] theorem rowsJ_emp (xs:List (Int×Int×Int)):(rowsJ xs).isEmpty=xs.isEmpty:=by cases xs <;> rfl
@[simp] theorem rowsJ_set (xs:List (Int×Int×Int)) (i:Nat) (a b c:Int):(rowsJ xs).set i [IV.sc (.int .i64 a),IV.sc (.int .i64 b),IV.sc (.int .i64 c)]=rowsJ (xs.set i (a,b,c)):=by
  simp [rowsJ,List.map_set]
@[simp] theorem rowsJ_take (xs:List (Int×Int×Int)) (n:Nat):(rowsJ xs).take n=rowsJ (xs.take n):=by simp [rowsJ,List.map_take]
@[simp] theorem rowsJ_drop (xs:List (Int×Int×Int)) (n:Nat):(rowsJ xs).drop n=rowsJ (xs.drop n):=by simp [rowsJ,List.map_drop]
@[simp] theorem rowsJ_all1 (xs:List (Int×Int×Int)):((rowsJ xs).all fun x=>x.all IV.plain1)=true:=by
  induction xs with
  | nil=>rfl
  | cons x xs ih=>simp only [rowsJ,List.map_cons,List.all_cons] at *;rw [ih];rfl
@[simp] theorem rowsJ_all2 (xs:List (Int×Int×Int)):((rowsJ xs).all fun x=>x.all IV.isData)=true:=by
  induction xs with
  | nil=>rfl
  | cons x xs ih=>simp only [rowsJ,List.map_cons,List.all_cons] at *;rw [ih];rfl
@[simp] theorem rowsJ_noLst (xs:List (Int×Int×Int)):noLstLL (rowsJ xs)=true:=by
  induction xs with
  | nil=>rfl
  | cons x xs ih=>simp only [rowsJ,List.map_cons,noLstLL,noLstL,noLstV] at *;rw [ih];rfl
@[simp] theorem frz_rowsJ (xs:List (Int×Int×Int)):frzLL (rowsJ xs)=rowsJ xs:=by
  induction xs with
  | nil=>rfl
  | cons x xs ih=>simp only [rowsJ,List.map_cons,frzLL,frzL,frzV] at *;rw [ih]
theorem iclj (F:Lab) (caps:List IV) (lt:(Int×Int×Int)→(Int×Int×Int)→Bool) (D:(Int×Int×Int)→Prop) (M:List Boxes) (hc:CmpOK vJ F caps lt D M) (P:List (Int×Int×Int)) (n i:Int) (x:(Int×Int×Int)) (rest:List (Int×Int×Int)):∀ (k:Nat) (A B:List (Int×Int×Int)),A.length=k→P.length+k+B.length+rest.length≤2000000→D x→(∀ a ∈ A,D a) →
    wp tb (.loop z85l6) { T:=[(0,O3 ((P++A)++x::(B++rest))),(1,I P.length),(2,I n),(3,.fn F caps),(8,I i),(9,I (P.length+k:Nat))],loc:=[],M:=M }
      (fun ex st=>ex=.exit 2∧∃ k':Int,st={ T:=[(0,O3 (P++(insC lt x A.reverse B++rest))),(1,I P.length),(2,I n),(3,.fn F caps),(8,I i),(9,I k'),(34,Bo false)],loc:=[],M:=M }):=by
  intro k
  induction k with
  | zero =>
    intro A B hA hl hx hD
    have:A=[]:=List.length_eq_zero_iff.1 hA
    subst this
    refine wp_loop ?_
    repeat (first|apply wp_as|apply wp_ss|refine wr (by simp;with_reducible rfl) ?_|refine wq (by simp;with_reducible rfl) ?_|refine wt (by simpa) ?_|refine wf (by simpa) ?_|refine xt (by simpa) ?_|refine xf (by simpa) ?_|apply wp_bs|apply wp_b|refine wp_sr ?_|refine wp_sx ?_|refine wp_ret' ?_|refine wp_skip' ?_|refine wp_exit' ?_)
    exact ⟨rfl,_,by simp [insC];rfl⟩
  | succ k ih =>
    intro A B hA hl hx hD
    obtain ⟨A',a,rfl⟩:∃ A' a,A=A'++[a]:=⟨A.dropLast,A.getLast (by intro h;subst h;simp at hA),(List.dropLast_concat_getLast _).symm⟩
    have hA':A'.length=k:=by simpa using hA
    subst hA'
    obtain ⟨c,hc1,hc2⟩:=hc x a hx (hD a (by simp))
    have e1:=ev_lim hc2
    have hPl:(P++A').length=P.length+A'.length:=by simp
    obtain ⟨Q,hQ⟩:∃ Q,Q=P++A':=⟨_,rfl⟩
    have hQl:P.length+A'.length=Q.length:=by rw [hQ];simp
    have hre:P++(A'++[a])++x::(B++rest)=Q++a::x::(B++rest):=by rw [hQ];simp
    rw [hre]
    have hk:((P.length+(A'.length+1):Nat):Int)=(Q.length:Int)+1:=by omega
    rw [hk]
    have w1:IntKind.i64.wrap (Q.length:Int)=(Q.length:Int):=wrap64 (by omega) (by omega)
    have w2:(P.length:Int) < (Q.length:Int)+1:=by omega
    by_cases hx0:c < 0
    · have hlt:lt x a=true:=by rw [← hc1];exact decide_eq_true hx0
      have:=ih A' (a::B) rfl (by simp;omega) hx (fun b hb=>hD b (by simp [hb]))
      rw [show P++A'++x::(a::B++rest)=Q++x::(a::(B++rest)) by rw [hQ];simp,hQl] at this
      refine wp_loop ?_
      repeat (first|apply wp_as|apply wp_ss|refine wr (by simp [e1,hx0,w1,w2,appc_get0,appc_get1,appc_set];with_reducible rfl) ?_|refine wq (by simp [e1,hx0,w1,w2,appc_get0,appc_get1,appc_set];with_reducible rfl) ?_|refine wt (by simpa [e1,hx0,w1,w2,appc_get0,appc_get1,appc_set]) ?_|refine wf (by simpa [e1,hx0,w1,w2,appc_get0,appc_get1,appc_set]) ?_|refine xt (by simpa [e1,hx0,w1,w2,appc_get0,appc_get1,appc_set]) ?_|refine xf (by simpa [e1,hx0,w1,w2,appc_get0,appc_get1,appc_set]) ?_|apply wp_bs|apply wp_b|refine wp_sr ?_|refine wp_sx ?_|refine wp_ret' ?_|refine wp_skip' ?_|refine wp_exit' ?_)
      simp only [List.reverse_append,List.reverse_cons,List.reverse_nil,List.nil_append,List.cons_append]
      simp only [insC,hlt,if_true]
      exact this
    · have hlt:lt x a=false:=by rw [← hc1];exact decide_eq_false hx0
      refine wp_loop ?_
      repeat (first|apply wp_as|apply wp_ss|refine wr (by simp [e1,hx0,w1,w2,appc_get0,appc_get1,appc_set];with_reducible rfl) ?_|refine wq (by simp [e1,hx0,w1,w2,appc_get0,appc_get1,appc_set];with_reducible rfl) ?_|refine wt (by simpa [e1,hx0,w1,w2,appc_get0,appc_get1,appc_set]) ?_|refine wf (by simpa [e1,hx0,w1,w2,appc_get0,appc_get1,appc_set]) ?_|refine xt (by simpa [e1,hx0,w1,w2,appc_get0,appc_get1,appc_set]) ?_|refine xf (by simpa [e1,hx0,w1,w2,appc_get0,appc_get1,appc_set]) ?_|apply wp_bs|apply wp_b|refine wp_sr ?_|refine wp_sx ?_|refine wp_ret' ?_|refine wp_skip' ?_|refine wp_exit' ?_)
      refine ⟨rfl,(Q.length:Int)+1,?_⟩
      simp only [List.reverse_append,List.reverse_cons,List.reverse_nil,List.nil_append,List.cons_append]
      simp only [insC,hlt,Bool.false_eq_true,if_false,List.reverse_reverse]
      rw [hQ]
      simp
theorem isoj (F:Lab) (caps:List IV) (lt:(Int×Int×Int)→(Int×Int×Int)→Bool) (D:(Int×Int×Int)→Prop) (M:List Boxes) (hc:CmpOK vJ F caps lt D M) (P Q:List (Int×Int×Int)) (n:Int):∀ (r S:List (Int×Int×Int)),n=(P.length+S.length+r.length:Nat)→P.length+S.length+r.length+Q.length≤900000→(∀ x ∈ S,D x)→(∀ x ∈ r,D x) →
    wp tb (.loop z85l8) { T:=[(0,O3 (P++(S++(r++Q)))),(1,I P.length),(2,I n),(3,.fn F caps),(8,I (P.length+S.length:Nat))],loc:=[],M:=M }
      (fun ex st=>ex=.exit 0∧∃ k':Int,st={ T:=[(0,O3 (P++(srtC lt S r++Q))),(1,I P.length),(2,I n),(3,.fn F caps),(8,I k'),(14,Bo false)],loc:=[],M:=M }):=by
  intro r
  induction r with
  | nil =>
    intro S hn hl hS hr
    have h1:¬ ((P.length:Int)+(S.length:Int)) < n:=by simp at hn;omega
    refine wp_loop ?_
    repeat (first|apply wp_as|apply wp_ss|refine wr (by simp [h1];with_reducible rfl) ?_|refine wq (by simp [h1];with_reducible rfl) ?_|refine wt (by simpa [h1]) ?_|refine wf (by simpa [h1]) ?_|refine xt (by simpa [h1]) ?_|refine xf (by simpa [h1]) ?_|apply wp_bs|apply wp_b|refine wp_sr ?_|refine wp_sx ?_|refine wp_ret' ?_|refine wp_skip' ?_|refine wp_exit' ?_)
    exact ⟨rfl,_,by simp [srtC];rfl⟩
  | cons x r ih =>
    intro S hn hl hS hr
    simp only [List.length_cons] at hn hl
    have h1:(P.length:Int)+(S.length:Int) < n:=by omega
    have w1:IntKind.i64.wrap ((P.length:Int)+(S.length:Int)+1)=(P.length:Int)+(S.length:Int)+1:=by rw [wrap64 (by omega) (by omega)]
    have hin:=iclj F caps lt D M hc P n ((P.length:Int)+S.length) x (r++Q) S.length S [] rfl (by simp;omega) (hr x (by simp)) hS
    rw [show P++S++x::([]++(r++Q))=P++(S++(x::r++Q)) by simp,show ((P.length+S.length:Nat):Int)=(P.length:Int)+S.length by omega] at hin
    have hn2:=ih (insC lt x S.reverse []) (by rw [insC_len];omega) (by rw [insC_len];omega) (fun y hy=>by
      have:=(insC_perm lt x S.reverse []).mem_iff.1 hy
      simp only [List.reverse_reverse,List.mem_append,List.mem_cons,List.not_mem_nil,or_false] at this
      rcases this with h | rfl
      · exact hS y h
      · exact hr y (by simp)) (fun y hy=>hr y (by simp [hy]))
    rw [insC_len,show ((P.length+(S.length+1):Nat):Int)=(P.length:Int)+S.length+1 by omega] at hn2
    rw [show ((P.length+S.length:Nat):Int)=(P.length:Int)+S.length by omega]
    refine wp_loop ?_
    repeat (first|apply wp_as|apply wp_ss|refine wr (by simp [h1,w1];with_reducible rfl) ?_|refine wq (by simp [h1,w1];with_reducible rfl) ?_|refine wt (by simpa [h1,w1]) ?_|refine wf (by simpa [h1,w1]) ?_|refine xt (by simpa [h1,w1]) ?_|refine xf (by simpa [h1,w1]) ?_|apply wp_bs|apply wp_b|refine wp_sr ?_|refine wp_sx ?_|refine wp_ret' ?_|refine wp_skip' ?_|refine wp_exit' ?_)
    refine wp_imp hin ?_
    rintro ex st ⟨rfl,k',rfl⟩
    simp only [if_true]
    repeat (first|apply wp_as|apply wp_ss|refine wr (by simp [h1,w1];with_reducible rfl) ?_|refine wq (by simp [h1,w1];with_reducible rfl) ?_|refine wt (by simpa [h1,w1]) ?_|refine wf (by simpa [h1,w1]) ?_|refine xt (by simpa [h1,w1]) ?_|refine xf (by simpa [h1,w1]) ?_|apply wp_bs|apply wp_b|refine wp_sr ?_|refine wp_sx ?_|refine wp_ret' ?_|refine wp_skip' ?_|refine wp_exit' ?_)
    exact hn2
theorem ev_insCj (F:Lab) (caps:List IV) (lt:(Int×Int×Int)→(Int×Int×Int)→Bool) (D:(Int×Int×Int)→Prop) (M:List Boxes) (hc:CmpOK vJ F caps lt D M) (P Q seg:List (Int×Int×Int)) (hl:P.length+seg.length+Q.length≤800000) (hD:∀ x ∈ seg,D x) :
    Ev tb zl85 [0] [O3 (P++(seg++Q)),I P.length,I (P.length+seg.length:Nat),.fn F caps] M ⟨.tup [],[O3 (P++(srtC lt [] seg++Q))],M,[]⟩:=by
  have w1:IntKind.i64.wrap ((P.length:Int)+1)=(P.length:Int)+1:=by rw [wrap64 (by omega) (by omega)]
  cases seg with
  | nil =>
    have h1:¬ (P.length:Int)+1 < ((P.length+([]:List (Int×Int×Int)).length:Nat):Int):=by simp;omega
    simp only [List.length_nil,Nat.add_zero] at h1 ⊢
    refine call_of_wp zt85 rfl ?_
    repeat (first|apply wp_as|apply wp_ss|refine wr (by simp [w1];with_reducible rfl) ?_|refine wq (by simp [w1];with_reducible rfl) ?_|refine wt (by simpa [w1]) ?_|refine wf (by simpa [w1]) ?_|refine xt (by simpa [w1]) ?_|refine xf (by simpa [w1]) ?_|apply wp_bs|apply wp_b|refine wp_sr ?_|refine wp_sx ?_|refine wp_ret' ?_|refine wp_skip' ?_|refine wp_exit' ?_)
    refine wp_loop ?_
    repeat (first|apply wp_as|apply wp_ss|refine wr (by simp [h1];with_reducible rfl) ?_|refine wq (by simp [h1];with_reducible rfl) ?_|refine wt (by simpa [h1]) ?_|refine wf (by simpa [h1]) ?_|refine xt (by simpa [h1]) ?_|refine xf (by simpa [h1]) ?_|apply wp_bs|apply wp_b|refine wp_sr ?_|refine wp_sx ?_|refine wp_ret' ?_|refine wp_skip' ?_|refine wp_exit' ?_)
    simp [zi85,srtC]
  | cons x r =>
    have:=isoj F caps lt D M hc P Q (P.length+(x::r).length:Nat) r [x] (by simp;omega) (by simp at hl ⊢;omega) (fun y hy=>by simp at hy;subst hy;exact hD _ (by simp)) (fun y hy=>hD y (by simp [hy]))
    rw [show P++([x]++(r++Q))=P++(x::r++Q) by simp,show ((P.length+[x].length:Nat):Int)=(P.length:Int)+1 by simp] at this
    have hs:srtC lt [x] r=srtC lt [] (x::r):=by simp [srtC,insC]
    rw [hs] at this
    generalize ((P.length+(x::r).length:Nat):Int)=n at *
    refine call_of_wp zt85 rfl ?_
    repeat (first|apply wp_as|apply wp_ss|refine wr (by simp [w1];with_reducible rfl) ?_|refine wq (by simp [w1];with_reducible rfl) ?_|refine wt (by simpa [w1]) ?_|refine wf (by simpa [w1]) ?_|refine xt (by simpa [w1]) ?_|refine xf (by simpa [w1]) ?_|apply wp_bs|apply wp_b|refine wp_sr ?_|refine wp_sx ?_|refine wp_ret' ?_|refine wp_skip' ?_|refine wp_exit' ?_)
    refine wp_imp this ?_
    rintro ex st ⟨rfl,k',rfl⟩
    simp [zi85]
theorem ev_isNaNm (n:Int) (M:List Boxes):Ev tb zl4 [] [I n] M ⟨Bo false,[],M,[]⟩:=by
  refine call_of_wp zt4 rfl ?_
  repeat (first|apply wp_as|apply wp_ss|refine wr (by simp;with_reducible rfl) ?_|refine wq (by simp;with_reducible rfl) ?_|refine wt (by simpa) ?_|refine wf (by simpa) ?_|refine xt (by simpa) ?_|refine xf (by simpa) ?_|apply wp_bs|apply wp_b|refine wp_sr ?_|refine wp_sx ?_|refine wp_ret' ?_|refine wp_skip' ?_|refine wp_exit' ?_)
  simp [zi4]
def cmpI (x y:Int):Int:=if x < y then -1 else if y < x then 1 else 0
theorem ev_cmpI (x y:Int) (M:List Boxes):Ev tb zl1 [] [I x,I y] M ⟨I (cmpI x y),[],M,[]⟩:=by
  have e1:=fun n M=>ev_lim (ev_isNaNm n M)
  unfold cmpI
  by_cases h1:x < y
  · rw [if_pos h1]
    refine call_of_wp zt1 rfl ?_
    repeat (first|apply wp_as|apply wp_ss|refine wr (by simp [e1,h1];with_reducible rfl) ?_|refine wq (by simp [e1,h1];with_reducible rfl) ?_|refine wt (by simpa [e1,h1]) ?_|refine wf (by simpa [e1,h1]) ?_|refine xt (by simpa [e1,h1]) ?_|refine xf (by simpa [e1,h1]) ?_|apply wp_bs|apply wp_b|refine wp_sr ?_|refine wp_sx ?_|refine wp_ret' ?_|refine wp_skip' ?_|refine wp_exit' ?_)
    simp [zi1]
  · rw [if_neg h1]
    by_cases h2:y < x
    · rw [if_pos h2]
      refine call_of_wp zt1 rfl ?_
      repeat (first|apply wp_as|apply wp_ss|refine wr (by simp [e1,h1,h2];with_reducible rfl) ?_|refine wq (by simp [e1,h1,h2];with_reducible rfl) ?_|refine wt (by simpa [e1,h1,h2]) ?_|refine wf (by simpa [e1,h1,h2]) ?_|refine xt (by simpa [e1,h1,h2]) ?_|refine xf (by simpa [e1,h1,h2]) ?_|apply wp_bs|apply wp_b|refine wp_sr ?_|refine wp_sx ?_|refine wp_ret' ?_|refine wp_skip' ?_|refine wp_exit' ?_)
      simp [zi1]
    · rw [if_neg h2]
      refine call_of_wp zt1 rfl ?_
      repeat (first|apply wp_as|apply wp_ss|refine wr (by simp [e1,h1,h2];with_reducible rfl) ?_|refine wq (by simp [e1,h1,h2];with_reducible rfl) ?_|refine wt (by simpa [e1,h1,h2]) ?_|refine wf (by simpa [e1,h1,h2]) ?_|refine xt (by simpa [e1,h1,h2]) ?_|refine xf (by simpa [e1,h1,h2]) ?_|apply wp_bs|apply wp_b|refine wp_sr ?_|refine wp_sx ?_|refine wp_ret' ?_|refine wp_skip' ?_|refine wp_exit' ?_)
      simp [zi1]
theorem ev_Or2 (a b:Int) (c:Bool) (M:List Boxes):Ev tb zl3 [] [.lst 1 [[I a],[I b]] c] M ⟨I (if a=0 then b else a),[],M,[]⟩:=by
  have w1:IntKind.i64.wrap 1=1:=wrap64 (by omega) (by omega)
  have w2:IntKind.i64.wrap 2=2:=wrap64 (by omega) (by omega)
  by_cases h1:a=0
  · rw [if_pos h1]
    by_cases h2:b=0
    · subst h1;subst h2
      refine call_of_wp zt3 rfl ?_
      repeat (first|apply wp_as|apply wp_ss|refine wr (by simp [w1,w2];with_reducible rfl) ?_|refine wq (by simp [w1,w2];with_reducible rfl) ?_|refine wt (by simpa [w1,w2]) ?_|refine wf (by simpa [w1,w2]) ?_|refine xt (by simpa [w1,w2]) ?_|refine xf (by simpa [w1,w2]) ?_|apply wp_bs|apply wp_b|refine wp_sr ?_|refine wp_sx ?_|refine wp_ret' ?_|refine wp_skip' ?_|refine wp_exit' ?_)
      refine wp_loop ?_
      repeat (first|apply wp_as|apply wp_ss|refine wr (by simp [w1,w2];with_reducible rfl) ?_|refine wq (by simp [w1,w2];with_reducible rfl) ?_|refine wt (by simpa [w1,w2]) ?_|refine wf (by simpa [w1,w2]) ?_|refine xt (by simpa [w1,w2]) ?_|refine xf (by simpa [w1,w2]) ?_|apply wp_bs|apply wp_b|refine wp_sr ?_|refine wp_sx ?_|refine wp_ret' ?_|refine wp_skip' ?_|refine wp_exit' ?_)
      refine wp_loop ?_
      repeat (first|apply wp_as|apply wp_ss|refine wr (by simp [w1,w2];with_reducible rfl) ?_|refine wq (by simp [w1,w2];with_reducible rfl) ?_|refine wt (by simpa [w1,w2]) ?_|refine wf (by simpa [w1,w2]) ?_|refine xt (by simpa [w1,w2]) ?_|refine xf (by simpa [w1,w2]) ?_|apply wp_bs|apply wp_b|refine wp_sr ?_|refine wp_sx ?_|refine wp_ret' ?_|refine wp_skip' ?_|refine wp_exit' ?_)
      refine wp_loop ?_
      repeat (first|apply wp_as|apply wp_ss|refine wr (by simp [w1,w2];with_reducible rfl) ?_|refine wq (by simp [w1,w2];with_reducible rfl) ?_|refine wt (by simpa [w1,w2]) ?_|refine wf (by simpa [w1,w2]) ?_|refine xt (by simpa [w1,w2]) ?_|refine xf (by simpa [w1,w2]) ?_|apply wp_bs|apply wp_b|refine wp_sr ?_|refine wp_sx ?_|refine wp_ret' ?_|refine wp_skip' ?_|refine wp_exit' ?_)
      simp [zi3]
    · subst h1
      refine call_of_wp zt3 rfl ?_
      repeat (first|apply wp_as|apply wp_ss|refine wr (by simp [w1,w2];with_reducible rfl) ?_|refine wq (by simp [w1,w2];with_reducible rfl) ?_|refine wt (by simpa [w1,w2]) ?_|refine wf (by simpa [w1,w2]) ?_|refine xt (by simpa [w1,w2]) ?_|refine xf (by simpa [w1,w2]) ?_|apply wp_bs|apply wp_b|refine wp_sr ?_|refine wp_sx ?_|refine wp_ret' ?_|refine wp_skip' ?_|refine wp_exit' ?_)
      refine wp_loop ?_
      repeat (first|apply wp_as|apply wp_ss|refine wr (by simp [w1,w2];with_reducible rfl) ?_|refine wq (by simp [w1,w2];with_reducible rfl) ?_|refine wt (by simpa [w1,w2]) ?_|refine wf (by simpa [w1,w2]) ?_|refine xt (by simpa [w1,w2]) ?_|refine xf (by simpa [w1,w2]) ?_|apply wp_bs|apply wp_b|refine wp_sr ?_|refine wp_sx ?_|refine wp_ret' ?_|refine wp_skip' ?_|refine wp_exit' ?_)
      refine wp_loop ?_
      repeat (first|apply wp_as|apply wp_ss|refine wr (by simp [h2,w1,w2];with_reducible rfl) ?_|refine wq (by simp [h2,w1,w2];with_reducible rfl) ?_|refine wt (by simpa [h2,w1,w2]) ?_|refine wf (by simpa [h2,w1,w2]) ?_|refine xt (by simpa [h2,w1,w2]) ?_|refine xf (by simpa [h2,w1,w2]) ?_|apply wp_bs|apply wp_b|refine wp_sr ?_|refine wp_sx ?_|refine wp_ret' ?_|refine wp_skip' ?_|refine wp_exit' ?_)
      simp [zi3]
  · rw [if_neg h1]
    refine call_of_wp zt3 rfl ?_
    repeat (first|apply wp_as|apply wp_ss|refine wr (by simp [w1,w2];with_reducible rfl) ?_|refine wq (by simp [w1,w2];with_reducible rfl) ?_|refine wt (by simpa [w1,w2]) ?_|refine wf (by simpa [w1,w2]) ?_|refine xt (by simpa [w1,w2]) ?_|refine xf (by simpa [w1,w2]) ?_|apply wp_bs|apply wp_b|refine wp_sr ?_|refine wp_sx ?_|refine wp_ret' ?_|refine wp_skip' ?_|refine wp_exit' ?_)
    refine wp_loop ?_
    repeat (first|apply wp_as|apply wp_ss|refine wr (by simp [h1,w1,w2];with_reducible rfl) ?_|refine wq (by simp [h1,w1,w2];with_reducible rfl) ?_|refine wt (by simpa [h1,w1,w2]) ?_|refine wf (by simpa [h1,w1,w2]) ?_|refine xt (by simpa [h1,w1,w2]) ?_|refine xf (by simpa [h1,w1,w2]) ?_|apply wp_bs|apply wp_b|refine wp_sr ?_|refine wp_sx ?_|refine wp_ret' ?_|refine wp_skip' ?_|refine wp_exit' ?_)
    simp [zi3]
def jlt (x y:Int×Int×Int):Bool:=decide (x.1 < y.1) || (decide (x.1=y.1) && decide (x.2.1 < y.2.1))
theorem ev_F1 (x y:Int×Int×Int) (M:List Boxes):Ev tb zl14 [] [vJ x,vJ y] M ⟨I (if cmpI x.1 y.1=0 then cmpI x.2.1 y.2.1 else cmpI x.1 y.1),[],M,[]⟩:=by
  have e1:=fun x y M=>ev_lim (ev_cmpI x y M)
  have e2:=fun a b c M=>ev_lim (ev_Or2 a b c M)
  have e3:∀ (a b:Int) (c:Bool) (M:List Boxes),limF tb zl3 [] [.lst 1 (ints [a,b]) c] M=some ⟨I (if a=0 then b else a),[],M,[]⟩:=e2
  refine call_of_wp zt14 rfl ?_
  repeat (first|apply wp_as|apply wp_ss|refine wr (by simp;with_reducible rfl) ?_|refine wq (by simp;with_reducible rfl) ?_|refine wt (by simpa) ?_|refine wf (by simpa) ?_|refine xt (by simpa) ?_|refine xf (by simpa) ?_|apply wp_bs|apply wp_b|refine wp_sr ?_|refine wp_sx ?_|refine wp_ret' ?_|refine wp_skip' ?_|refine wp_exit' ?_)
  refine wp_ra (by simp [e1,e2,e3];with_reducible rfl) (by simp;with_reducible rfl) ?_ ?_
  · intro p hp
    simp only [List.mem_cons,List.not_mem_nil,or_false] at hp
    rcases hp with rfl | rfl | rfl
    · exact ⟨_,by simp [e1,e2,e3];with_reducible rfl,by simp⟩
    · exact ⟨_,by simp [e1,e2,e3];with_reducible rfl,by simp⟩
    · exact ⟨_,by simp [e1,e2,e3];with_reducible rfl,by simp⟩
  repeat (first|apply wp_as|apply wp_ss|refine wr (by simp;with_reducible rfl) ?_|refine wq (by simp;with_reducible rfl) ?_|refine wt (by simpa) ?_|refine wf (by simpa) ?_|refine xt (by simpa) ?_|refine xf (by simpa) ?_|apply wp_bs|apply wp_b|refine wp_sr ?_|refine wp_sx ?_|refine wp_ret' ?_|refine wp_skip' ?_|refine wp_exit' ?_)
  simp [zi14]
abbrev fcJ:IV:=.fn zl14 []
theorem cmpOK_J (M:List Boxes):CmpOK vJ zl14 [] jlt (fun _=>True) M:=fun x y _ _=>by
  refine ⟨_,?_,ev_F1 x y _⟩
  unfold cmpI jlt
  by_cases h1:x.1 < y.1
  · simp [h1]
  · by_cases h2:y.1 < x.1
    · have h3:¬ x.1=y.1:=by omega
      simp [h1,h2,h3]
    · have h3:x.1=y.1:=by omega
      by_cases h4:x.2.1 < y.2.1
      · simp [h3,h4]
      · by_cases h5:y.2.1 < x.2.1 <;> simp [h3,h4,h5]
def srtJ (X:List (Int×Int×Int)):List (Int×Int×Int):=srtC jlt [] X
end Go.Idl
namespace Go.Idl
open Go
@[simp] theorem get_mid {α:Type} (A bs:List α) (x:α):(A++x::bs)[A.length]? = some x:=by simp
@[simp] theorem set_mid {α:Type} (A bs:List α) (x y:α):(A++x::bs).set A.length y=A++y::bs:=by
  rw [List.set_append_right _ _ (Nat.le_refl _)];simp
@[simp] theorem set_last {α:Type} (A:List α) (x y:α):(A++[x]).set A.length y=A++[y]:=set_mid A [] x y
theorem ev_pickA (code:List Int) (c:Bool) (hc:CodeOk code) (cnt:Nat) (hn:cnt≤2000000) (n:Int) (hn2:n≤2000000) (A bs:Boxes) (Ms:List Boxes) :
    ∃ v:Nat,(1≤n→(v:Int) < n)∧Ev tb zl140 [] [.bptr 0 A.length 0,I n] ((A++R code c cnt::bs)::Ms) ⟨I v,[],(A++R code c ((cnt+1:Nat):Int)::bs)::Ms,[]⟩:=by
  have w1:IntKind.i64.wrap ((cnt:Int)+1)=((cnt+1:Nat):Int):=wrapS (by omega)
  by_cases h1:n < 1
  · refine ⟨0,by omega,?_⟩
    refine call_of_wp zt140 rfl ?_
    repeat (first|apply wp_as|apply wp_ss|refine wr (by simp [w1,h1];with_reducible rfl) ?_|refine wq (by simp [w1,h1];with_reducible rfl) ?_|refine wt (by simpa [w1,h1]) ?_|refine wf (by simpa [w1,h1]) ?_|refine xt (by simpa [w1,h1]) ?_|refine xf (by simpa [w1,h1]) ?_|apply wp_bs|apply wp_b|refine wp_sr ?_|refine wp_sx ?_|refine wp_ret' ?_|refine wp_skip' ?_|refine wp_exit' ?_)
    simp [zi140]
  by_cases h2:code=[]
  · subst h2
    refine ⟨0,by omega,?_⟩
    refine call_of_wp zt140 rfl ?_
    repeat (first|apply wp_as|apply wp_ss|refine wr (by simp [w1,h1];with_reducible rfl) ?_|refine wq (by simp [w1,h1];with_reducible rfl) ?_|refine wt (by simpa [w1,h1]) ?_|refine wf (by simpa [w1,h1]) ?_|refine xt (by simpa [w1,h1]) ?_|refine xf (by simpa [w1,h1]) ?_|apply wp_bs|apply wp_b|refine wp_sr ?_|refine wp_sx ?_|refine wp_ret' ?_|refine wp_skip' ?_|refine wp_exit' ?_)
    simp [zi140]
  have h2':¬ (code.length:Int)=0:=by
    have:code.length ≠ 0:=fun h=>h2 (List.length_eq_zero_iff.1 h)
    omega
  have w2:IntKind.i64.wrap (cnt:Int)=(cnt:Int):=wrapN (by omega)
  have hn0:¬ n=0:=by omega
  by_cases h3:cnt < code.length
  · have hb:=hc.2 code[cnt] (List.getElem_mem h3)
    have w3:IntKind.i64.wrap code[cnt]=code[cnt]:=wrap64 (by omega) (by omega)
    have hr:=tmod_range hb.1 (n:=n) (by omega)
    obtain ⟨v,hv⟩:=Int.eq_ofNat_of_zero_le hr.1
    rw [hv] at hr
    refine ⟨v,fun _=>hr.2,?_⟩
    refine call_of_wp zt140 rfl ?_
    repeat (first|apply wp_as|apply wp_ss|refine wr (by simp [w1,w2,h1,h2,h2',h3,w3,hn0,hv];with_reducible rfl) ?_|refine wq (by simp [w1,w2,h1,h2,h2',h3,w3,hn0,hv];with_reducible rfl) ?_|refine wt (by simpa [w1,w2,h1,h2,h2',h3,w3,hn0,hv]) ?_|refine wf (by simpa [w1,w2,h1,h2,h2',h3,w3,hn0,hv]) ?_|refine xt (by simpa [w1,w2,h1,h2,h2',h3,w3,hn0,hv]) ?_|refine xf (by simpa [w1,w2,h1,h2,h2',h3,w3,hn0,hv]) ?_|apply wp_bs|apply wp_b|refine wp_sr ?_|refine wp_sx ?_|refine wp_ret' ?_|refine wp_skip' ?_|refine wp_exit' ?_)
    simp [zi140]
  have hl0:0 < code.length:=by omega
  have hlen:=hc.1
  obtain ⟨i1,hi1,m1⟩:∃ i1:Nat,i1 < code.length∧(cnt:Int).tmod (code.length:Int)=(i1:Int) :=
    ⟨cnt % code.length,Nat.mod_lt _ hl0,rfl⟩
  obtain ⟨i2,hi2,m2⟩:∃ i2:Nat,i2 < code.length∧((cnt:Int) * 7+3).tmod (code.length:Int)=(i2:Int) :=
    ⟨(cnt * 7+3) % code.length,Nat.mod_lt _ hl0,rfl⟩
  obtain ⟨q,hq,m3⟩:∃ q:Nat,q≤cnt∧(cnt:Int).tdiv (code.length:Int)=(q:Int) :=
    ⟨cnt / code.length,Nat.div_le_self _ _,rfl⟩
  have hb1:=hc.2 code[i1] (List.getElem_mem hi1)
  have hb2:=hc.2 code[i2] (List.getElem_mem hi2)
  generalize hx1:code[i1]=b1 at hb1
  generalize hx2:code[i2]=b2 at hb2
  have v1:IntKind.i64.wrap b1=b1:=wrap64 (by omega) (by omega)
  have v2:IntKind.i64.wrap b2=b2:=wrap64 (by omega) (by omega)
  have v3:IntKind.i64.wrap (b1 * 131)=b1 * 131:=wrap64 (by omega) (by omega)
  have v4:IntKind.i64.wrap (b2 * 1117)=b2 * 1117:=wrap64 (by omega) (by omega)
  have v5:IntKind.i64.wrap (b1 * 131+b2 * 1117)=b1 * 131+b2 * 1117:=wrap64 (by omega) (by omega)
  have v6:IntKind.i64.wrap ((cnt:Int) * 7)=(cnt:Int) * 7:=wrap64 (by omega) (by omega)
  have v7:IntKind.i64.wrap ((cnt:Int) * 7+3)=(cnt:Int) * 7+3:=wrap64 (by omega) (by omega)
  have v8:IntKind.i64.wrap ((cnt:Int) * 29)=(cnt:Int) * 29:=wrap64 (by omega) (by omega)
  have v9:IntKind.i64.wrap (q:Int)=(q:Int):=wrap64 (by omega) (by omega)
  have v10:IntKind.i64.wrap ((q:Int) * 53)=(q:Int) * 53:=wrap64 (by omega) (by omega)
  have v11:IntKind.i64.wrap (b1 * 131+b2 * 1117+(cnt:Int) * 29)=b1 * 131+b2 * 1117+(cnt:Int) * 29:=wrap64 (by omega) (by omega)
  obtain ⟨x,hx,ex⟩:∃ x:Nat,x < 2 ^ 40∧b1 * 131+b2 * 1117+(cnt:Int) * 29+(q:Int) * 53=(x:Int) :=
    ⟨(b1 * 131+b2 * 1117+(cnt:Int) * 29+(q:Int) * 53).toNat,by omega,by omega⟩
  have v12:IntKind.i64.wrap (x:Int)=(x:Int):=wrap64 (by omega) (by omega)
  obtain ⟨y,hy,ey⟩:∃ y:Nat,y < 2 ^ 40∧(x:Int).tdiv 64=(y:Int):=⟨x / 64,by omega,rfl⟩
  have ey2:(x:Int) / 64=(y:Int):=ey
  have v13:IntKind.i64.wrap (y:Int)=(y:Int):=wrap64 (by omega) (by omega)
  obtain ⟨z,hz,ez⟩:=xor_ok x y hx hy
  have hr:=tmod_range (x:=(z:Int)) (by omega) (n:=n) (by omega)
  obtain ⟨v,hv⟩:=Int.eq_ofNat_of_zero_le hr.1
  rw [hv] at hr
  refine ⟨v,fun _=>hr.2,?_⟩
  refine call_of_wp zt140 rfl ?_
  repeat (first|apply wp_as|apply wp_ss|refine wr (by simp [w1,w2,h1,h2,h2',h3,hn0,m1,m2,m3,hi1,hi2,hx1,hx2,v1,v2,v3,v4,v5,v6,v7,v8,v9,v10,v11,ex,v12,ey,ey2,v13,ez,hv];with_reducible rfl) ?_|refine wq (by simp [w1,w2,h1,h2,h2',h3,hn0,m1,m2,m3,hi1,hi2,hx1,hx2,v1,v2,v3,v4,v5,v6,v7,v8,v9,v10,v11,ex,v12,ey,ey2,v13,ez,hv];with_reducible rfl) ?_|refine wt (by simpa [w1,w2,h1,h2,h2',h3,hn0,m1,m2,m3,hi1,hi2,hx1,hx2,v1,v2,v3,v4,v5,v6,v7,v8,v9,v10,v11,ex,v12,ey,ey2,v13,ez,hv]) ?_|refine wf (by simpa [w1,w2,h1,h2,h2',h3,hn0,m1,m2,m3,hi1,hi2,hx1,hx2,v1,v2,v3,v4,v5,v6,v7,v8,v9,v10,v11,ex,v12,ey,ey2,v13,ez,hv]) ?_|refine xt (by simpa [w1,w2,h1,h2,h2',h3,hn0,m1,m2,m3,hi1,hi2,hx1,hx2,v1,v2,v3,v4,v5,v6,v7,v8,v9,v10,v11,ex,v12,ey,ey2,v13,ez,hv]) ?_|refine xf (by simpa [w1,w2,h1,h2,h2',h3,hn0,m1,m2,m3,hi1,hi2,hx1,hx2,v1,v2,v3,v4,v5,v6,v7,v8,v9,v10,v11,ex,v12,ey,ey2,v13,ez,hv]) ?_|apply wp_bs|apply wp_b|refine wp_sr ?_|refine wp_sx ?_|refine wp_ret' ?_|refine wp_skip' ?_|refine wp_exit' ?_)
  simp [zi140]
theorem ev_oneA (code:List Int) (c:Bool) (hc:CodeOk code) (cnt:Nat) (hn:cnt≤2000000) (xs:List Int) (d:Bool) (hl:0 < xs.length∧xs.length≤1000) (A bs:Boxes) (Ms:List Boxes) :
    ∃ x:Int,x ∈ xs∧Ev tb zl139 [] [.bptr 0 A.length 0,L xs d] ((A++R code c cnt::bs)::Ms) ⟨I x,[],(A++R code c ((cnt+1:Nat):Int)::bs)::Ms,[]⟩:=by
  obtain ⟨v,hv,e⟩:=ev_pickA code c hc cnt hn (xs.length:Int) (by omega) A bs (Ms++[[]])
  have hv:=hv (by omega)
  have hv2:v < xs.length:=by omega
  have e1:=ev_lim e
  refine ⟨xs[v],List.getElem_mem hv2,?_⟩
  refine call_of_wp zt139 rfl ?_
  repeat (first|apply wp_as|apply wp_ss|refine wr (by simp [e1,hv2];with_reducible rfl) ?_|refine wq (by simp [e1,hv2];with_reducible rfl) ?_|refine wt (by simpa [e1,hv2]) ?_|refine wf (by simpa [e1,hv2]) ?_|refine xt (by simpa [e1,hv2]) ?_|refine xf (by simpa [e1,hv2]) ?_|apply wp_bs|apply wp_b|refine wp_sr ?_|refine wp_sx ?_|refine wp_ret' ?_|refine wp_skip' ?_|refine wp_exit' ?_)
  simp [zi139]
theorem ev_aGraphA (code:List Int) (c:Bool) (hc:CodeOk code) (cnt:Nat) (hn:cnt≤100000) (n:Nat) (hn7:n≤7) (A bs:Boxes) (Ms:List Boxes) :
    ∃ (es:List (Int×Int)) (k:Nat),es.Sublist (prs n)∧k≤cnt+100 ∧
      Ev tb zl118 [] [.bptr 0 A.length 0,I n] ((A++R code c cnt::bs)::Ms) ⟨OG n es,[],(A++R code c k::bs)::Ms,[]⟩:=by
  have e1:=ev_lim (ev_pairs n (by omega))
  have hpl:(prs n).length≤49:=by
    have:=prsF_len n 0
    have h2:n * n≤7 * 7:=Nat.mul_le_mul hn7 hn7
    simp only [prs];omega
  have loop:∀ (m i k:Nat) (acc:List (Int×Int)) (most:Nat),most≤10→i+m=(prs n).length→k≤cnt+1+i→acc.Sublist ((prs n).take i) →
      wp tb (.loop z118l9) { T:=[(0,.bptr 0 A.length 0),(4,.bptr (Ms.length+1) 0 0),(5,.bptr (Ms.length+1) 1 0),(6,O2 (prs n)),(7,I most),(8,I i)],loc:=[[I 0,.lst 0 [] true],[I n,O2 acc]],M:=(A++R code c k::bs)::Ms }
      (fun ex st=>ex=.exit 0∧∃ (es:List (Int×Int)) (k':Nat),es.Sublist (prs n)∧k'≤cnt+60∧st={ T:=[(0,.bptr 0 A.length 0),(4,.bptr (Ms.length+1) 0 0),(5,.bptr (Ms.length+1) 1 0),(6,O2 (prs n)),(7,I most),(8,I (prs n).length),(20,Bo false)],loc:=[[I 0,.lst 0 [] true],[I n,O2 es]],M:=(A++R code c k'::bs)::Ms }):=by
    intro m
    induction m with
    | zero =>
      intro i k acc most hm hi hk hs
      have h3:i=(prs n).length:=hi
      subst h3
      refine wp_loop ?_
      repeat (first|apply wp_as|apply wp_ss|refine wr (by simp;with_reducible rfl) ?_|refine wq (by simp;with_reducible rfl) ?_|refine wt (by simpa) ?_|refine wf (by simpa) ?_|refine xt (by simpa) ?_|refine xf (by simpa) ?_|apply wp_bs|apply wp_b|refine wp_sr ?_|refine wp_sx ?_|refine wp_ret' ?_|refine wp_skip' ?_|refine wp_exit' ?_)
      exact ⟨rfl,acc,k,by simpa using hs,by omega,rfl⟩
    | succ m ih =>
      intro i k acc most hm hi hk hs
      have hi2:i < (prs n).length:=by omega
      have w1:IntKind.i64.wrap ((i:Int)+1)=((i+1:Nat):Int):=wrapS (by omega)
      obtain ⟨v,-,ep⟩:=ev_pickA code c hc k (by omega) (most:Int) (by omega) A bs (Ms++[[[I 0,.lst 0 [] true],[I n,O2 acc]]])
      have e2:=ev_lim ep
      have hal:acc.length≤49:=by have:=hs.length_le;simp at this;omega
      have hb:acc.length≤274877906943:=by omega
      by_cases hv:v=0
      · subst hv
        have hn:=ih (i+1) (k+1) (acc++[(prs n)[i]]) most hm (by omega) (by omega) (sub_take_succ hi2 hs)
        refine wp_loop ?_
        repeat (first|apply wp_as|apply wp_ss|refine wr (by simp [e2,hi2];with_reducible rfl) ?_|refine wq (by simp [e2,hi2];with_reducible rfl) ?_|refine wt (by simpa [e2,hi2]) ?_|refine wf (by simpa [e2,hi2]) ?_|refine xt (by simpa [e2,hi2]) ?_|refine xf (by simpa [e2,hi2]) ?_|apply wp_bs|apply wp_b|refine wp_sr ?_|refine wp_sx ?_|refine wp_ret' ?_|refine wp_skip' ?_|refine wp_exit' ?_)
        refine wp_rega (by simp [hi2,hb];with_reducible rfl) (by simp;with_reducible rfl) ?_ ?_
        · intro p hp
          simp only [List.mem_cons,List.not_mem_nil,or_false] at hp
          subst hp
          exact ⟨_,by simp [hi2,hb];with_reducible rfl,by simp⟩
        repeat (first|apply wp_as|apply wp_ss|refine wr (by simp [w1];with_reducible rfl) ?_|refine wq (by simp [w1];with_reducible rfl) ?_|refine wt (by simpa [w1]) ?_|refine wf (by simpa [w1]) ?_|refine xt (by simpa [w1]) ?_|refine xf (by simpa [w1]) ?_|apply wp_bs|apply wp_b|refine wp_sr ?_|refine wp_sx ?_|refine wp_ret' ?_|refine wp_skip' ?_|refine wp_exit' ?_)
        exact hn
      · have hn:=ih (i+1) (k+1) acc most hm (by omega) (by omega) (sub_take_skip hs)
        have hv2:¬ (v:Int)=0:=by omega
        refine wp_loop ?_
        repeat (first|apply wp_as|apply wp_ss|refine wr (by simp [e2,hi2,hv,hv2,w1];with_reducible rfl) ?_|refine wq (by simp [e2,hi2,hv,hv2,w1];with_reducible rfl) ?_|refine wt (by simpa [e2,hi2,hv,hv2,w1]) ?_|refine wf (by simpa [e2,hi2,hv,hv2,w1]) ?_|refine xt (by simpa [e2,hi2,hv,hv2,w1]) ?_|refine xf (by simpa [e2,hi2,hv,hv2,w1]) ?_|apply wp_bs|apply wp_b|refine wp_sr ?_|refine wp_sx ?_|refine wp_ret' ?_|refine wp_skip' ?_|refine wp_exit' ?_)
        exact hn
  obtain ⟨v,hv,ep⟩:=ev_pickA code c hc cnt (by omega) 3 (by omega) A bs (Ms++[[[I 0,.lst 0 [] true],[I n,.own 2 []]]])
  have hv:=hv (by omega)
  have e2:=ev_lim ep
  have w0:IntKind.i64.wrap (2+(v:Int))=((2+v:Nat):Int):=by rw [wrap64 (by omega) (by omega)];omega
  suffices h:∃ r,(∃ (es:List (Int×Int)) (k:Nat),es.Sublist (prs n)∧k≤cnt+100∧r=⟨OG n es,[],(A++R code c k::bs)::Ms,[]⟩)∧Ev tb zl118 [] [.bptr 0 A.length 0,I n] ((A++R code c cnt::bs)::Ms) r by
    obtain ⟨r,⟨es,k,h1,h2,rfl⟩,h3⟩:=h
    exact ⟨es,k,h1,h2,h3⟩
  refine call_ex zt118 rfl ?_
  repeat (first|apply wp_as|apply wp_ss|refine wr (by simp [e1,e2,w0];with_reducible rfl) ?_|refine wq (by simp [e1,e2,w0];with_reducible rfl) ?_|refine wt (by simpa [e1,e2,w0]) ?_|refine wf (by simpa [e1,e2,w0]) ?_|refine xt (by simpa [e1,e2,w0]) ?_|refine xf (by simpa [e1,e2,w0]) ?_|apply wp_bs|apply wp_b|refine wp_sr ?_|refine wp_sx ?_|refine wp_ret' ?_|refine wp_skip' ?_|refine wp_exit' ?_)
  have hlp:=loop (prs n).length 0 (cnt+1) [] (2+v) (by omega) (by simp) (by omega) (by simp)
  simp at hlp
  refine wp_imp hlp ?_
  rintro ex st ⟨rfl,es,hs,k,hk,rfl⟩
  simp only [if_true]
  obtain ⟨v2,-,ep2⟩:=ev_pickA code c hc k (by omega) 4 (by omega) A bs (Ms++[[[I 0,.lst 0 [] true],[I n,O2 es]]])
  have e3:=ev_lim ep2
  have hel:es.length≤100000:=by have:=hs.length_le;omega
  have e4:=ev_lim (ev_spec_complement n (by omega) es false hel)
  by_cases hv2:v2=0
  · subst hv2
    repeat (first|apply wp_as|apply wp_ss|refine wr (by simp [e3,e4];with_reducible rfl) ?_|refine wq (by simp [e3,e4];with_reducible rfl) ?_|refine wt (by simpa [e3,e4]) ?_|refine wf (by simpa [e3,e4]) ?_|refine xt (by simpa [e3,e4]) ?_|refine xf (by simpa [e3,e4]) ?_|apply wp_bs|apply wp_b|refine wp_sr ?_|refine wp_sx ?_|refine wp_ret' ?_|refine wp_skip' ?_|refine wp_exit' ?_)
    refine ⟨.inr rfl,_,⟨compl n es,k+1,List.filter_sublist,by omega,rfl⟩,?_⟩
    simp [zi118]
  · have hv3:¬ (v2:Int)=0:=by omega
    repeat (first|apply wp_as|apply wp_ss|refine wr (by simp [e3,e4,hv2,hv3];with_reducible rfl) ?_|refine wq (by simp [e3,e4,hv2,hv3];with_reducible rfl) ?_|refine wt (by simpa [e3,e4,hv2,hv3]) ?_|refine wf (by simpa [e3,e4,hv2,hv3]) ?_|refine xt (by simpa [e3,e4,hv2,hv3]) ?_|refine xf (by simpa [e3,e4,hv2,hv3]) ?_|apply wp_bs|apply wp_b|refine wp_sr ?_|refine wp_sx ?_|refine wp_ret' ?_|refine wp_skip' ?_|refine wp_exit' ?_)
    refine ⟨.inr rfl,_,⟨es,k+1,hs,by omega,rfl⟩,?_⟩
    simp [zi118]
theorem pickA (code:List Int) (c:Bool) (hc:CodeOk code) (cnt:Nat) (hn:cnt≤2000000) (n:Int) (hn2:n≤2000000) (A bs:Boxes) (Ms:List Boxes) :
    ∃ v k:Nat,(1≤n→(v:Int) < n)∧k≤cnt+1∧limF tb zl140 [] [.bptr 0 A.length 0,I n] ((A++R code c cnt::bs)::Ms)=some ⟨I v,[],(A++R code c k::bs)::Ms,[]⟩:=by
  obtain ⟨v,h,e⟩:=ev_pickA code c hc cnt hn n hn2 A bs Ms
  exact ⟨v,cnt+1,h,by omega,ev_lim e⟩
theorem oneA (code:List Int) (c:Bool) (hc:CodeOk code) (cnt:Nat) (hn:cnt≤2000000) (xs:List Int) (hl:0 < xs.length∧xs.length≤1000) (A bs:Boxes) (Ms:List Boxes) :
    ∃ (x:Int) (k:Nat),x ∈ xs∧k≤cnt+1∧limF tb zl139 [] [.bptr 0 A.length 0,.lst 1 (ints xs) false] ((A++R code c cnt::bs)::Ms)=some ⟨I x,[],(A++R code c k::bs)::Ms,[]⟩:=by
  obtain ⟨v,h,e⟩:=ev_oneA code c hc cnt hn xs false hl A bs Ms
  exact ⟨v,cnt+1,h,by omega,ev_lim e⟩
theorem ev_goodGraphA (code:List Int) (c:Bool) (hc:CodeOk code) (cnt:Nat) (hn:cnt≤90000) (A bs:Boxes) (Ms:List Boxes) :
    ∃ (n:Nat) (es:List (Int×Int)) (k:Nat),n≤7∧es.Sublist (prs n)∧k≤cnt+101 ∧
      Ev tb zl129 [] [.bptr 0 A.length 0] ((A++R code c cnt::bs)::Ms) ⟨OG n es,[],(A++R code c k::bs)::Ms,[]⟩:=by
  obtain ⟨x,k1,hx,hk1,e1⟩:=oneA code c hc cnt (by omega) [5,4,6,3,5,2,7,1,0] (by simp) A bs (Ms++[[[I 0,.lst 0 [] true]]])
  obtain ⟨n,rfl,hn7⟩:∃ n:Nat,x=(n:Int)∧n≤7:=by
    simp at hx
    exact ⟨x.toNat,by omega,by omega⟩
  obtain ⟨es,k,hs,hk,ea⟩:=ev_aGraphA code c hc k1 (by omega) n hn7 A bs (Ms++[[[I 0,.lst 0 [] true]]])
  have e2:=ev_lim ea
  refine ⟨n,es,k,hn7,hs,by omega,?_⟩
  refine call_of_wp zt129 rfl ?_
  refine wr (by simp;with_reducible rfl) ?_
  refine wr (by simp [e1,e2];with_reducible rfl) ?_
  repeat (first|apply wp_as|apply wp_ss|refine wr (by simp;with_reducible rfl) ?_|refine wq (by simp;with_reducible rfl) ?_|refine wt (by simpa) ?_|refine wf (by simpa) ?_|refine xt (by simpa) ?_|refine xf (by simpa) ?_|apply wp_bs|apply wp_b|refine wp_sr ?_|refine wp_sx ?_|refine wp_ret' ?_|refine wp_skip' ?_|refine wp_exit' ?_)
  simp [zi129]
end Go.Idl
namespace Go.Idl
open Go
def comp (d:List Int):List Int:=(List.range d.length).map fun k=>(d.length:Int) - 1 - d.getD k 0
def noneNeg (xs:List Int):Bool:=xs.all fun x=>decide (0≤x)
theorem code_ok {code:List Int} (h:∀ x ∈ code,0≤x∧x≤255):CodeOk (code.take 2000):=⟨by simp;omega,fun x hx=>h x (List.mem_of_mem_take hx)⟩
end Go.Idl
namespace Go.Idl
abbrev tops (xs:List Int) (k:Nat):Int:=((fall xs).take k).sum
theorem minsum_le (c:Int):∀ (l:List Int) (j:Nat),j≤l.length→(l.map fun x:Int=>min x c).sum≤c * j+(l.drop j).sum
  | [],0,_=>by simp
  | x::r,0,_=>by
    have:=minsum_le c r 0 (by simp)
    simp at this ⊢;omega
  | x::r,j+1,h=>by
    have:=minsum_le c r j (by simpa using h)
    rw [List.map_cons,List.sum_cons,List.drop_succ_cons,Int.natCast_add,Int.mul_add]
    omega
theorem min_same (c:Int):∀ (l:List Int),(∀ x ∈ l,x≤c)→(l.map fun x:Int=>min x c).sum=l.sum
  | [],_=>rfl
  | x::r,h=>by
    have h1:=h x (by simp)
    have h2:=min_same c r (fun y hy=>h y (by simp [hy]))
    simp [h2];omega
theorem minsum_eq (c:Int):∀ (l:List Int),Desc l→∃ j,j≤l.length∧(l.map fun x:Int=>min x c).sum=c * j+(l.drop j).sum
  | [],_=>⟨0,by simp,by simp⟩
  | x::r,h=>by
    have h':=List.pairwise_cons.1 h
    by_cases hx:c≤x
    · obtain ⟨j,h1,h2⟩:=minsum_eq c r h'.2
      refine ⟨j+1,by simpa using h1,?_⟩
      rw [List.map_cons,List.sum_cons,List.drop_succ_cons,Int.natCast_add,Int.mul_add,h2]
      omega
    · refine ⟨0,by simp,?_⟩
      rw [min_same c (x::r) (by
        intro y hy
        rcases List.mem_cons.1 hy with rfl | hy
        · omega
        · have:=h'.1 y hy;omega)]
      simp
theorem sum_take_drop (s:List Int) (k:Nat):(s.take k).sum+(s.drop k).sum=s.sum:=by
  rw [← List.sum_append,List.take_append_drop]
theorem slk_iff {s:List Int} (hs:Desc s):(∀ k,1≤k→k≤s.length→0≤slk s k) ↔
    ∀ k m,1≤k→k≤m→m≤s.length→(s.take k).sum+(s.take m).sum≤(k:Int) * ((m:Int) - 1)+s.sum:=by
  constructor
  · intro h k m h1 h2 h3
    have h0:=h k h1 (by omega)
    have h4:=minsum_le k (s.drop k) (m - k) (by simp;omega)
    rw [List.drop_drop,show k+(m - k)=m by omega] at h4
    have h5:=sum_take_drop s m
    unfold slk at h0
    have h6:((m - k:Nat):Int)=(m:Int) - k:=by omega
    rw [h6] at h4
    have e:(k:Int) * ((m:Int) - 1)=(k:Int) * ((k:Int) - 1)+(k:Int) * ((m:Int) - k):=by rw [← Int.mul_add];congr 1;omega
    omega
  · intro h k h1 h2
    obtain ⟨j,h3,h4⟩:=minsum_eq k (s.drop k) (hs.sublist (List.drop_sublist k s))
    rw [List.length_drop] at h3
    have h0:=h k (k+j) h1 (by omega) (by omega)
    rw [List.drop_drop] at h4
    have h5:=sum_take_drop s (k+j)
    unfold slk
    rw [h4]
    have e:(k:Int) * (((k+j:Nat):Int) - 1)=(k:Int) * ((k:Int) - 1)+(k:Int) * (j:Int):=by rw [← Int.mul_add];congr 1;omega
    omega
theorem graphic_iff (d:List Int):graphic d=true ↔ valid d=true∧d.sum % 2=0∧∀ k m,1≤k→k≤m→m≤d.length→tops d k+tops d m≤(k:Int) * ((m:Int) - 1)+d.sum:=by
  have h:=slk_iff (fall_desc d)
  rw [fall_len,fall_sum] at h
  simp only [graphic,Bool.and_eq_true,decide_eq_true_eq,List.all_eq_true,tops,← h,slacks,List.mem_map,List.mem_range,and_assoc]
  constructor
  · rintro ⟨h1,h2,h3⟩
    refine ⟨h1,h2,fun k hk hk2=>?_⟩
    exact h3 _ ⟨k - 1,by omega,by rw [show k - 1+1=k by omega]⟩
  · rintro ⟨h1,h2,h3⟩
    refine ⟨h1,h2,?_⟩
    rintro x ⟨i,hi,rfl⟩
    exact h3 (i+1) (by omega) (by omega)
end Go.Idl
namespace Go.Idl
open Go
theorem ev_SortDegrees (d:List Int) (c:Bool) (hv:valid d=true):Ev tb zl20 [] [L d c] [] ⟨O (fall d),[],[],[]⟩:=by
  have hl:=(valid_few hv).1
  have e1:=ev_lim (ev_ValidDegrees d c (by omega))
  have e2:=ev_lim (ev_falling d c (by omega))
  refine call_of_wp zt20 rfl ?_
  repeat (first|apply wp_as|apply wp_ss|refine wr (by simp [e1,e2,hv];with_reducible rfl) ?_|refine wq (by simp [e1,e2,hv];with_reducible rfl) ?_|refine wt (by simpa [e1,e2,hv]) ?_|refine wf (by simpa [e1,e2,hv]) ?_|refine xt (by simpa [e1,e2,hv]) ?_|refine xf (by simpa [e1,e2,hv]) ?_|apply wp_bs|apply wp_b|refine wp_sr ?_|refine wp_sx ?_|refine wp_ret' ?_|refine wp_skip' ?_|refine wp_exit' ?_)
  simp [zi20]
end Go.Idl
namespace Go.Idl
open Go
def ahead (x y:List Int) (i m:Nat):Bool:=(List.range m).all fun j=>decide ((y.take (i+j+1)).sum≤(x.take (i+j+1)).sum)
end Go.Idl
namespace Go.Idl
open Go
def Fit (es:List (Int×Int)):Prop:=∀ e ∈ es,-9223372036854775808≤e.1∧e.1 < 9223372036854775808∧-9223372036854775808≤e.2∧e.2 < 9223372036854775808
def below (a b:Int×Int):Bool:=decide (a.1 < b.1) || (decide (a.1=b.1) && decide (a.2 < b.2))
def cmpE (a b:Int×Int):Int:=if a.1=b.1 then a.2 - b.2 else a.1 - b.1
theorem cmpE_below (a b:Int×Int):(decide (cmpE a b < 0))=below a b:=by
  unfold cmpE below
  rw [Bool.eq_iff_iff]
  simp only [decide_eq_true_eq,Bool.or_eq_true,Bool.and_eq_true]
  split <;> omega
theorem ev_compareEdges (a b:Int×Int) (ha:0≤a.1∧a.1 < 9223372036854775808∧0≤a.2∧a.2 < 9223372036854775808) (hb:0≤b.1∧b.1 < 9223372036854775808∧0≤b.2∧b.2 < 9223372036854775808) (M:List Boxes) :
    Ev tb zl32 [] [.agg [I a.1,I a.2],.agg [I b.1,I b.2]] M ⟨I (cmpE a b),[],M,[]⟩:=by
  have w1:IntKind.i64.wrap (a.1 - b.1)=a.1 - b.1:=wrap64 (by omega) (by omega)
  have w2:IntKind.i64.wrap (a.2 - b.2)=a.2 - b.2:=wrap64 (by omega) (by omega)
  by_cases h:a.1=b.1
  · refine call_of_wp zt32 rfl ?_
    repeat (first|apply wp_as|apply wp_ss|refine wr (by simp [h,w2];with_reducible rfl) ?_|refine wq (by simp [h,w2];with_reducible rfl) ?_|refine wt (by simpa [h,w2]) ?_|refine wf (by simpa [h,w2]) ?_|refine xt (by simpa [h,w2]) ?_|refine xf (by simpa [h,w2]) ?_|apply wp_bs|apply wp_b|refine wp_sr ?_|refine wp_sx ?_|refine wp_ret' ?_|refine wp_skip' ?_|refine wp_exit' ?_)
    simp [zi32,cmpE,h]
  · have h2:(a.1 != b.1)=true:=by simp [h]
    refine call_of_wp zt32 rfl ?_
    repeat (first|apply wp_as|apply wp_ss|refine wr (by simp [h,h2,w1];with_reducible rfl) ?_|refine wq (by simp [h,h2,w1];with_reducible rfl) ?_|refine wt (by simpa [h,h2,w1]) ?_|refine wf (by simpa [h,h2,w1]) ?_|refine xt (by simpa [h,h2,w1]) ?_|refine xf (by simpa [h,h2,w1]) ?_|apply wp_bs|apply wp_b|refine wp_sr ?_|refine wp_sx ?_|refine wp_ret' ?_|refine wp_skip' ?_|refine wp_exit' ?_)
    simp [zi32,cmpE,h]
theorem ev_edgeBelow (a b:Int×Int):Ev tb zl126 [] [.agg [I a.1,I a.2],.agg [I b.1,I b.2]] [] ⟨Bo (below a b),[],[],[]⟩:=by
  by_cases h1:a.1 < b.1
  · refine call_of_wp zt126 rfl ?_
    repeat (first|apply wp_as|apply wp_ss|refine wr (by simp [h1];with_reducible rfl) ?_|refine wq (by simp [h1];with_reducible rfl) ?_|refine wt (by simpa [h1]) ?_|refine wf (by simpa [h1]) ?_|refine xt (by simpa [h1]) ?_|refine xf (by simpa [h1]) ?_|apply wp_bs|apply wp_b|refine wp_sr ?_|refine wp_sx ?_|refine wp_ret' ?_|refine wp_skip' ?_|refine wp_exit' ?_)
    simp [zi126,below,h1]
  · by_cases h2:a.1=b.1
    · refine call_of_wp zt126 rfl ?_
      repeat (first|apply wp_as|apply wp_ss|refine wr (by simp [h1,h2];with_reducible rfl) ?_|refine wq (by simp [h1,h2];with_reducible rfl) ?_|refine wt (by simpa [h1,h2]) ?_|refine wf (by simpa [h1,h2]) ?_|refine xt (by simpa [h1,h2]) ?_|refine xf (by simpa [h1,h2]) ?_|apply wp_bs|apply wp_b|refine wp_sr ?_|refine wp_sx ?_|refine wp_ret' ?_|refine wp_skip' ?_|refine wp_exit' ?_)
      simp [zi126,below,h1,h2]
    · refine call_of_wp zt126 rfl ?_
      repeat (first|apply wp_as|apply wp_ss|refine wr (by simp [h1,h2];with_reducible rfl) ?_|refine wq (by simp [h1,h2];with_reducible rfl) ?_|refine wt (by simpa [h1,h2]) ?_|refine wf (by simpa [h1,h2]) ?_|refine xt (by simpa [h1,h2]) ?_|refine xf (by simpa [h1,h2]) ?_|apply wp_bs|apply wp_b|refine wp_sr ?_|refine wp_sx ?_|refine wp_ret' ?_|refine wp_skip' ?_|refine wp_exit' ?_)
      simp [zi126,below,h1,h2]
def okE (n:Int) (e:Int×Int):Bool:=decide (0≤e.1) && (decide (e.1 < e.2) && decide (e.2 < n))
def vEs (n:Int):Option (Int×Int)→List (Int×Int)→Bool
  | _,[]=>true
  | none,e::r=>okE n e && vEs n (some e) r
  | some q,e::r=>okE n e && (below q e && vEs n (some e) r)
def vGraph (n:Int) (es:List (Int×Int)):Bool:=vEs n none es && (decide (0≤n) && decide (n≤7))
theorem Fit.at {es:List (Int×Int)} (h:Fit es) {i:Nat} (hi:i < es.length):-9223372036854775808≤es[i].1∧es[i].1 < 9223372036854775808∧-9223372036854775808≤es[i].2∧es[i].2 < 9223372036854775808:=h _ (List.getElem_mem hi)
theorem validl (n:Int) (es:List (Int×Int)) (c:Bool) (hf:Fit es) (hl:es.length≤100000000):∀ (m i:Nat) (p:Option (Int×Int)) (bs:Boxes),i+m=es.length →
    (i=0∧p=none ∨ ∃ j,∃ h:j < es.length,i=j+1∧p=some es[j]∧0≤es[j].1∧0≤es[j].2) →
    wp tb (.loop z26l7) { T:=[(1,.bptr 0 0 0),(6,L2 es c),(7,I es.length),(8,I i)],loc:=[I n,L2 es c]::bs,M:=[] }
      (fun ex st=>(vEs n p (es.drop i)=true∧ex=.exit 0∧∃ bs',st={ T:=[(1,.bptr 0 0 0),(6,L2 es c),(7,I es.length),(8,I es.length),(9,Bo false)],loc:=[I n,L2 es c]::bs',M:=[] }) ∨
        (vEs n p (es.drop i)=false∧ex=.ret∧∃ bs',st={ T:=[(2,Bo false)],loc:=[I n,L2 es c]::bs',M:=[] })):=by
  intro m
  induction m with
  | zero =>
    intro i p bs hi hp
    have h3:i=es.length:=hi
    subst h3
    refine wp_loop ?_
    repeat (first|apply wp_as|apply wp_ss|refine wr (by simp;with_reducible rfl) ?_|refine wq (by simp;with_reducible rfl) ?_|refine wt (by simpa) ?_|refine wf (by simpa) ?_|refine xt (by simpa) ?_|refine xf (by simpa) ?_|apply wp_bs|apply wp_b|refine wp_sr ?_|refine wp_sx ?_|refine wp_ret' ?_|refine wp_skip' ?_|refine wp_exit' ?_)
    exact .inl ⟨by simp [vEs],rfl,bs,rfl⟩
  | succ m ih =>
    intro i p bs hi hp
    have hi2:i < es.length:=by omega
    have hd:es.drop i=es[i]::es.drop (i+1):=List.drop_eq_getElem_cons hi2
    have hfe:=hf.at hi2
    have w1:IntKind.i64.wrap ((i:Int)+1)=((i+1:Nat):Int):=wrapS (by omega)
    have bad:okE n es[i]=false→vEs n p (es.drop i)=false:=fun h=>by
      rw [hd];cases p <;> simp [vEs,h]
    by_cases h1:es[i].1 < 0
    · have hb:=bad (by simp [okE];omega)
      refine wp_loop ?_
      repeat (first|apply wp_as|apply wp_ss|refine wr (by simp [hi2,h1];with_reducible rfl) ?_|refine wq (by simp [hi2,h1];with_reducible rfl) ?_|refine wt (by simpa [hi2,h1]) ?_|refine wf (by simpa [hi2,h1]) ?_|refine xt (by simpa [hi2,h1]) ?_|refine xf (by simpa [hi2,h1]) ?_|apply wp_bs|apply wp_b|refine wp_sr ?_|refine wp_sx ?_|refine wp_ret' ?_|refine wp_skip' ?_|refine wp_exit' ?_)
      exact .inr ⟨hb,rfl,_,rfl⟩
    by_cases h2:es[i].2≤es[i].1
    · have hb:=bad (by simp [okE];omega)
      refine wp_loop ?_
      repeat (first|apply wp_as|apply wp_ss|refine wr (by simp [hi2,h1,h2];with_reducible rfl) ?_|refine wq (by simp [hi2,h1,h2];with_reducible rfl) ?_|refine wt (by simpa [hi2,h1,h2]) ?_|refine wf (by simpa [hi2,h1,h2]) ?_|refine xt (by simpa [hi2,h1,h2]) ?_|refine xf (by simpa [hi2,h1,h2]) ?_|apply wp_bs|apply wp_b|refine wp_sr ?_|refine wp_sx ?_|refine wp_ret' ?_|refine wp_skip' ?_|refine wp_exit' ?_)
      exact .inr ⟨hb,rfl,_,rfl⟩
    by_cases h3:n≤es[i].2
    · have hb:=bad (by simp [okE];omega)
      refine wp_loop ?_
      repeat (first|apply wp_as|apply wp_ss|refine wr (by simp [hi2,h1,h2,h3];with_reducible rfl) ?_|refine wq (by simp [hi2,h1,h2,h3];with_reducible rfl) ?_|refine wt (by simpa [hi2,h1,h2,h3]) ?_|refine wf (by simpa [hi2,h1,h2,h3]) ?_|refine xt (by simpa [hi2,h1,h2,h3]) ?_|refine xf (by simpa [hi2,h1,h2,h3]) ?_|apply wp_bs|apply wp_b|refine wp_sr ?_|refine wp_sx ?_|refine wp_ret' ?_|refine wp_skip' ?_|refine wp_exit' ?_)
      exact .inr ⟨hb,rfl,_,rfl⟩
    have hok:okE n es[i]=true:=by simp [okE];omega
    rcases hp with ⟨rfl,rfl⟩ | ⟨j,hj,rfl,rfl,q1,q2⟩
    · have hn:=ih 1 (some es[0]) (bs++[[I es[0].1,I es[0].2]]) (by omega) (.inr ⟨0,hi2,rfl,rfl,by omega,by omega⟩)
      rw [hd]
      simp only [vEs,hok,Bool.true_and]
      refine wp_loop ?_
      repeat (first|apply wp_as|apply wp_ss|refine wr (by simp [hi2,h1,h2,h3,show IntKind.i64.wrap (1:Int)=1 from rfl];with_reducible rfl) ?_|refine wq (by simp [hi2,h1,h2,h3,show IntKind.i64.wrap (1:Int)=1 from rfl];with_reducible rfl) ?_|refine wt (by simpa [hi2,h1,h2,h3,show IntKind.i64.wrap (1:Int)=1 from rfl]) ?_|refine wf (by simpa [hi2,h1,h2,h3,show IntKind.i64.wrap (1:Int)=1 from rfl]) ?_|refine xt (by simpa [hi2,h1,h2,h3,show IntKind.i64.wrap (1:Int)=1 from rfl]) ?_|refine xf (by simpa [hi2,h1,h2,h3,show IntKind.i64.wrap (1:Int)=1 from rfl]) ?_|apply wp_bs|apply wp_b|refine wp_sr ?_|refine wp_sx ?_|refine wp_ret' ?_|refine wp_skip' ?_|refine wp_exit' ?_)
      exact hn
    · have hfj:=hf.at hj
      have w2:IntKind.i64.wrap (j:Int)=(j:Int):=wrapN (by omega)
      have hj0:(0:Int) < (j:Int)+1:=by omega
      have hj1:(j:Int)+1 < (es.length:Int):=by omega
      have w3:IntKind.i64.wrap ((j:Int)+1+1)=((j+1+1:Nat):Int):=by rw [wrap64 (by omega) (by omega)];omega
      have e1:=ev_lim (ev_compareEdges es[j] es[j+1] ⟨q1,hfj.2.1,q2,hfj.2.2.2⟩ ⟨by omega,by omega,by omega,by omega⟩ [])
      have hcb:=cmpE_below es[j] es[j+1]
      rw [hd]
      simp only [vEs,hok,Bool.true_and,← hcb]
      by_cases h4:0≤cmpE es[j] es[j+1]
      · have h5:decide (cmpE es[j] es[j+1] < 0)=false:=decide_eq_false (by omega)
        rw [h5]
        refine wp_loop ?_
        repeat (first|apply wp_as|apply wp_ss|refine wr (by simp [hi2,hj,h1,h2,h3,w2,hj0,hj1,e1,h4];with_reducible rfl) ?_|refine wq (by simp [hi2,hj,h1,h2,h3,w2,hj0,hj1,e1,h4];with_reducible rfl) ?_|refine wt (by simpa [hi2,hj,h1,h2,h3,w2,hj0,hj1,e1,h4]) ?_|refine wf (by simpa [hi2,hj,h1,h2,h3,w2,hj0,hj1,e1,h4]) ?_|refine xt (by simpa [hi2,hj,h1,h2,h3,w2,hj0,hj1,e1,h4]) ?_|refine xf (by simpa [hi2,hj,h1,h2,h3,w2,hj0,hj1,e1,h4]) ?_|apply wp_bs|apply wp_b|refine wp_sr ?_|refine wp_sx ?_|refine wp_ret' ?_|refine wp_skip' ?_|refine wp_exit' ?_)
        exact .inr ⟨rfl,rfl,_,rfl⟩
      · have h5:decide (cmpE es[j] es[j+1] < 0)=true:=decide_eq_true (by omega)
        rw [h5]
        have hn:=ih (j+1+1) (some es[j+1]) (bs++[[I es[j+1].1,I es[j+1].2]]) (by omega) (.inr ⟨j+1,hi2,rfl,rfl,by omega,by omega⟩)
        simp only [Bool.true_and]
        refine wp_loop ?_
        repeat (first|apply wp_as|apply wp_ss|refine wr (by simp [hi2,hj,h1,h2,h3,w3,w2,hj0,hj1,e1,h4];with_reducible rfl) ?_|refine wq (by simp [hi2,hj,h1,h2,h3,w3,w2,hj0,hj1,e1,h4];with_reducible rfl) ?_|refine wt (by simpa [hi2,hj,h1,h2,h3,w3,w2,hj0,hj1,e1,h4]) ?_|refine wf (by simpa [hi2,hj,h1,h2,h3,w3,w2,hj0,hj1,e1,h4]) ?_|refine xt (by simpa [hi2,hj,h1,h2,h3,w3,w2,hj0,hj1,e1,h4]) ?_|refine xf (by simpa [hi2,hj,h1,h2,h3,w3,w2,hj0,hj1,e1,h4]) ?_|apply wp_bs|apply wp_b|refine wp_sr ?_|refine wp_sx ?_|refine wp_ret' ?_|refine wp_skip' ?_|refine wp_exit' ?_)
        exact hn
theorem ev_ValidGraph (n:Int) (es:List (Int×Int)) (c:Bool) (hf:Fit es) (hl:es.length≤100000000):Ev tb zl26 [] [Gr n es c] [] ⟨Bo (vGraph n es),[],[],[]⟩:=by
  have e1:=ev_lim (ev_in n 0 7)
  have hlo:=validl n es c hf hl es.length 0 none [] (by simp) (.inl ⟨rfl,rfl⟩)
  refine call_of_wp zt26 rfl ?_
  repeat (first|apply wp_as|apply wp_ss|refine wr (by simp;with_reducible rfl) ?_|refine wq (by simp;with_reducible rfl) ?_|refine wt (by simpa) ?_|refine wf (by simpa) ?_|refine xt (by simpa) ?_|refine xf (by simpa) ?_|apply wp_bs|apply wp_b|refine wp_sr ?_|refine wp_sx ?_|refine wp_ret' ?_|refine wp_skip' ?_|refine wp_exit' ?_)
  refine wp_imp hlo ?_
  rintro ex st (⟨hv,rfl,bs,rfl⟩ | ⟨hv,rfl,bs,rfl⟩)
  · try simp only [if_true]
    repeat (first|apply wp_as|apply wp_ss|refine wr (by simp [e1];with_reducible rfl) ?_|refine wq (by simp [e1];with_reducible rfl) ?_|refine wt (by simpa [e1]) ?_|refine wf (by simpa [e1]) ?_|refine xt (by simpa [e1]) ?_|refine xf (by simpa [e1]) ?_|apply wp_bs|apply wp_b|refine wp_sr ?_|refine wp_sx ?_|refine wp_ret' ?_|refine wp_skip' ?_|refine wp_exit' ?_)
    simp only [List.drop_zero] at hv
    simp [zi26,vGraph,hv]
  · simp only [List.drop_zero] at hv
    simp [zi26,vGraph,hv]
theorem svalidl (n:Int) (es:List (Int×Int)) (c:Bool) (hl:es.length≤100000000):∀ (m i:Nat) (p:Option (Int×Int)) (bs:Boxes),i+m=es.length →
    (i=0∧p=none ∨ ∃ j,∃ h:j < es.length,i=j+1∧p=some es[j]) →
    wp tb (.loop z145l7) { T:=[(1,.bptr 0 0 0),(3,I i)],loc:=[I n,L2 es c]::bs,M:=[] }
      (fun ex st=>(vEs n p (es.drop i)=true∧ex=.exit 0∧∃ bs',st={ T:=[(1,.bptr 0 0 0),(3,I es.length),(9,Bo false)],loc:=[I n,L2 es c]::bs',M:=[] }) ∨
        (vEs n p (es.drop i)=false∧ex=.ret∧∃ bs',st={ T:=[(2,Bo false)],loc:=[I n,L2 es c]::bs',M:=[] })):=by
  intro m
  induction m with
  | zero =>
    intro i p bs hi hp
    have h3:i=es.length:=hi
    subst h3
    refine wp_loop ?_
    repeat (first|apply wp_as|apply wp_ss|refine wr (by simp;with_reducible rfl) ?_|refine wq (by simp;with_reducible rfl) ?_|refine wt (by simpa) ?_|refine wf (by simpa) ?_|refine xt (by simpa) ?_|refine xf (by simpa) ?_|apply wp_bs|apply wp_b|refine wp_sr ?_|refine wp_sx ?_|refine wp_ret' ?_|refine wp_skip' ?_|refine wp_exit' ?_)
    exact .inl ⟨by simp [vEs],rfl,bs,rfl⟩
  | succ m ih =>
    intro i p bs hi hp
    have hi2:i < es.length:=by omega
    have hd:es.drop i=es[i]::es.drop (i+1):=List.drop_eq_getElem_cons hi2
    have w1:IntKind.i64.wrap ((i:Int)+1)=((i+1:Nat):Int):=wrapS (by omega)
    have bad:okE n es[i]=false→vEs n p (es.drop i)=false:=fun h=>by
      rw [hd];cases p <;> simp [vEs,h]
    by_cases h1:es[i].1 < 0
    · have hb:=bad (by simp [okE];omega)
      refine wp_loop ?_
      repeat (first|apply wp_as|apply wp_ss|refine wr (by simp [hi2,h1];with_reducible rfl) ?_|refine wq (by simp [hi2,h1];with_reducible rfl) ?_|refine wt (by simpa [hi2,h1]) ?_|refine wf (by simpa [hi2,h1]) ?_|refine xt (by simpa [hi2,h1]) ?_|refine xf (by simpa [hi2,h1]) ?_|apply wp_bs|apply wp_b|refine wp_sr ?_|refine wp_sx ?_|refine wp_ret' ?_|refine wp_skip' ?_|refine wp_exit' ?_)
      exact .inr ⟨hb,rfl,_,rfl⟩
    by_cases h2:es[i].2≤es[i].1
    · have hb:=bad (by simp [okE];omega)
      refine wp_loop ?_
      repeat (first|apply wp_as|apply wp_ss|refine wr (by simp [hi2,h1,h2];with_reducible rfl) ?_|refine wq (by simp [hi2,h1,h2];with_reducible rfl) ?_|refine wt (by simpa [hi2,h1,h2]) ?_|refine wf (by simpa [hi2,h1,h2]) ?_|refine xt (by simpa [hi2,h1,h2]) ?_|refine xf (by simpa [hi2,h1,h2]) ?_|apply wp_bs|apply wp_b|refine wp_sr ?_|refine wp_sx ?_|refine wp_ret' ?_|refine wp_skip' ?_|refine wp_exit' ?_)
      exact .inr ⟨hb,rfl,_,rfl⟩
    by_cases h3:n≤es[i].2
    · have hb:=bad (by simp [okE];omega)
      refine wp_loop ?_
      repeat (first|apply wp_as|apply wp_ss|refine wr (by simp [hi2,h1,h2,h3];with_reducible rfl) ?_|refine wq (by simp [hi2,h1,h2,h3];with_reducible rfl) ?_|refine wt (by simpa [hi2,h1,h2,h3]) ?_|refine wf (by simpa [hi2,h1,h2,h3]) ?_|refine xt (by simpa [hi2,h1,h2,h3]) ?_|refine xf (by simpa [hi2,h1,h2,h3]) ?_|apply wp_bs|apply wp_b|refine wp_sr ?_|refine wp_sx ?_|refine wp_ret' ?_|refine wp_skip' ?_|refine wp_exit' ?_)
      exact .inr ⟨hb,rfl,_,rfl⟩
    have hok:okE n es[i]=true:=by simp [okE];omega
    rcases hp with ⟨rfl,rfl⟩ | ⟨j,hj,rfl,rfl⟩
    · have hn:=ih 1 (some es[0]) (bs++[[I es[0].1,I es[0].2]]) (by omega) (.inr ⟨0,hi2,rfl,rfl⟩)
      rw [hd]
      simp only [vEs,hok,Bool.true_and]
      refine wp_loop ?_
      repeat (first|apply wp_as|apply wp_ss|refine wr (by simp [hi2,h1,h2,h3,show IntKind.i64.wrap (1:Int)=1 from rfl];with_reducible rfl) ?_|refine wq (by simp [hi2,h1,h2,h3,show IntKind.i64.wrap (1:Int)=1 from rfl];with_reducible rfl) ?_|refine wt (by simpa [hi2,h1,h2,h3,show IntKind.i64.wrap (1:Int)=1 from rfl]) ?_|refine wf (by simpa [hi2,h1,h2,h3,show IntKind.i64.wrap (1:Int)=1 from rfl]) ?_|refine xt (by simpa [hi2,h1,h2,h3,show IntKind.i64.wrap (1:Int)=1 from rfl]) ?_|refine xf (by simpa [hi2,h1,h2,h3,show IntKind.i64.wrap (1:Int)=1 from rfl]) ?_|apply wp_bs|apply wp_b|refine wp_sr ?_|refine wp_sx ?_|refine wp_ret' ?_|refine wp_skip' ?_|refine wp_exit' ?_)
      exact hn
    · have w2:IntKind.i64.wrap (j:Int)=(j:Int):=wrapN (by omega)
      have hj0:(0:Int) < (j:Int)+1:=by omega
      have hj1:(j:Int)+1 < (es.length:Int):=by omega
      have w3:IntKind.i64.wrap ((j:Int)+1+1)=((j+1+1:Nat):Int):=by rw [wrap64 (by omega) (by omega)];omega
      have e1:=ev_lim (ev_edgeBelow es[j] es[j+1])
      rw [hd]
      simp only [vEs,hok,Bool.true_and]
      cases h4:below es[j] es[j+1] with
      | false =>
        refine wp_loop ?_
        repeat (first|apply wp_as|apply wp_ss|refine wr (by simp [hi2,hj,h1,h2,h3,w2,hj0,hj1,e1,h4];with_reducible rfl) ?_|refine wq (by simp [hi2,hj,h1,h2,h3,w2,hj0,hj1,e1,h4];with_reducible rfl) ?_|refine wt (by simpa [hi2,hj,h1,h2,h3,w2,hj0,hj1,e1,h4]) ?_|refine wf (by simpa [hi2,hj,h1,h2,h3,w2,hj0,hj1,e1,h4]) ?_|refine xt (by simpa [hi2,hj,h1,h2,h3,w2,hj0,hj1,e1,h4]) ?_|refine xf (by simpa [hi2,hj,h1,h2,h3,w2,hj0,hj1,e1,h4]) ?_|apply wp_bs|apply wp_b|refine wp_sr ?_|refine wp_sx ?_|refine wp_ret' ?_|refine wp_skip' ?_|refine wp_exit' ?_)
        exact .inr ⟨rfl,rfl,_,rfl⟩
      | true =>
        have hn:=ih (j+1+1) (some es[j+1]) (bs++[[I es[j+1].1,I es[j+1].2]]) (by omega) (.inr ⟨j+1,hi2,rfl,rfl⟩)
        simp only [Bool.true_and]
        refine wp_loop ?_
        repeat (first|apply wp_as|apply wp_ss|refine wr (by simp [hi2,hj,h1,h2,h3,w3,w2,hj0,hj1,e1,h4];with_reducible rfl) ?_|refine wq (by simp [hi2,hj,h1,h2,h3,w3,w2,hj0,hj1,e1,h4];with_reducible rfl) ?_|refine wt (by simpa [hi2,hj,h1,h2,h3,w3,w2,hj0,hj1,e1,h4]) ?_|refine wf (by simpa [hi2,hj,h1,h2,h3,w3,w2,hj0,hj1,e1,h4]) ?_|refine xt (by simpa [hi2,hj,h1,h2,h3,w3,w2,hj0,hj1,e1,h4]) ?_|refine xf (by simpa [hi2,hj,h1,h2,h3,w3,w2,hj0,hj1,e1,h4]) ?_|apply wp_bs|apply wp_b|refine wp_sr ?_|refine wp_sx ?_|refine wp_ret' ?_|refine wp_skip' ?_|refine wp_exit' ?_)
        exact hn
theorem ev_validGraph (n:Int) (es:List (Int×Int)) (c:Bool) (hl:es.length≤100000000):Ev tb zl145 [] [Gr n es c] [] ⟨Bo (vGraph n es),[],[],[]⟩:=by
  have e1:=ev_lim (ev_inRange n 0 7)
  have hlo:=svalidl n es c hl es.length 0 none [] (by simp) (.inl ⟨rfl,rfl⟩)
  refine call_of_wp zt145 rfl ?_
  repeat (first|apply wp_as|apply wp_ss|refine wr (by simp;with_reducible rfl) ?_|refine wq (by simp;with_reducible rfl) ?_|refine wt (by simpa) ?_|refine wf (by simpa) ?_|refine xt (by simpa) ?_|refine xf (by simpa) ?_|apply wp_bs|apply wp_b|refine wp_sr ?_|refine wp_sx ?_|refine wp_ret' ?_|refine wp_skip' ?_|refine wp_exit' ?_)
  refine wp_imp hlo ?_
  rintro ex st (⟨hv,rfl,bs,rfl⟩ | ⟨hv,rfl,bs,rfl⟩)
  · try simp only [if_true]
    repeat (first|apply wp_as|apply wp_ss|refine wr (by simp [e1];with_reducible rfl) ?_|refine wq (by simp [e1];with_reducible rfl) ?_|refine wt (by simpa [e1]) ?_|refine wf (by simpa [e1]) ?_|refine xt (by simpa [e1]) ?_|refine xf (by simpa [e1]) ?_|apply wp_bs|apply wp_b|refine wp_sr ?_|refine wp_sx ?_|refine wp_ret' ?_|refine wp_skip' ?_|refine wp_exit' ?_)
    simp only [List.drop_zero] at hv
    simp [zi145,vGraph,hv]
  · simp only [List.drop_zero] at hv
    simp [zi145,vGraph,hv]
end Go.Idl
namespace Go.Idl
structure Seg {α:Type} (X X':List α) (a b:Nat):Prop where
  perm:X'.Perm X
  out:∀ k,k < a ∨ b≤k→X'[k]? = X[k]?
theorem Seg.len {α:Type} {X X':List α} {a b:Nat} (h:Seg X X' a b):X'.length=X.length:=h.perm.length_eq
theorem Seg.refl {α:Type} (X:List α) (a b:Nat):Seg X X a b:=⟨.refl _,fun _ _=>rfl⟩
theorem Seg.trans {α:Type} {X Y Z:List α} {a b:Nat} (h:Seg X Y a b) (k:Seg Y Z a b):Seg X Z a b:=⟨k.perm.trans h.perm,fun i hi=>(k.out i hi).trans (h.out i hi)⟩
theorem Seg.mono {α:Type} {X Y:List α} {a b a' b':Nat} (h:Seg X Y a b) (h1:a'≤a) (h2:b≤b'):Seg X Y a' b':=⟨h.perm,fun i hi=>h.out i (by omega)⟩
theorem Seg.nodup {α:Type} {X Y:List α} {a b:Nat} (h:Seg X Y a b) (hn:X.Nodup):Y.Nodup:=h.perm.nodup_iff.2 hn
def swapL {α:Type} (X:List α) (i j:Nat) (hi:i < X.length) (hj:j < X.length):List α:=(X.set i X[j]).set j X[i]
theorem swapL_len {α:Type} (X:List α) (i j:Nat) (hi hj):(swapL X i j hi hj).length=X.length:=by simp [swapL]
theorem swapL_get {α:Type} (X:List α) (i j:Nat) (hi:i < X.length) (hj:j < X.length) (k:Nat):(swapL X i j hi hj)[k]? = if k=j then some X[i] else if k=i then some X[j] else X[k]?:=by
  rw [swapL,List.getElem?_set,List.getElem?_set]
  by_cases h1:k=j
  · subst h1;simp [hj]
  · by_cases h2:k=i
    · subst h2;simp [hi,h1,Ne.symm h1]
    · simp [h1,h2,Ne.symm h1,Ne.symm h2]
theorem swapL_perm {α:Type} (X:List α) (i j:Nat) (hi:i < X.length) (hj:j < X.length):(swapL X i j hi hj).Perm X:=by
  exact List.set_set_perm hi hj
theorem swapL_seg {α:Type} (X:List α) (i j a b:Nat) (hi:i < X.length) (hj:j < X.length) (h1:a≤i∧i < b) (h2:a≤j∧j < b):Seg X (swapL X i j hi hj) a b :=
  ⟨swapL_perm X i j hi hj,fun k hk=>by rw [swapL_get,if_neg (by omega),if_neg (by omega)]⟩
theorem Seg.back {α:Type} {X Y:List α} {a b:Nat} (h:Seg X Y a b) (hn:X.Nodup) {k:Nat} (hk:a≤k∧k < b) {e:α} (he:Y[k]? = some e):∃ l,(a≤l∧l < b)∧X[l]? = some e:=by
  have hm:e ∈ X:=h.perm.mem_iff.1 (List.mem_of_getElem? he)
  obtain ⟨l,hl,rfl⟩:=List.getElem_of_mem hm
  by_cases hlb:a≤l∧l < b
  · exact ⟨l,hlb,List.getElem?_eq_getElem hl⟩
  · have h1:=h.out l (by omega)
    rw [List.getElem?_eq_getElem hl] at h1
    have hny:=h.nodup hn
    have hkl:k < Y.length:=(List.getElem?_eq_some_iff.1 he).1
    have hll:l < Y.length:=by rw [h.len];exact hl
    have h2:=(List.getElem?_eq_some_iff.1 he).2
    have h3:=(List.getElem?_eq_some_iff.1 h1).2
    have h4:k=l:=(List.getElem_inj hny).1 (h2.trans h3.symm)
    omega
end Go.Idl
namespace Go.Idl
open Go
theorem below_asymm {a b:Int×Int} (h:below a b=true):below b a=false:=by
  rw [← Bool.not_eq_true]
  simp only [below,Bool.or_eq_true,Bool.and_eq_true,decide_eq_true_eq] at *
  omega
end Go.Idl
namespace Go.Idl
open Go
def BelowOn (X:List (Int×Int)) (lo hi:Nat) (x:Int×Int):Prop:=∀ k e,lo≤k→k < hi→X[k]? = some e→below e x=true
def AboveOn (X:List (Int×Int)) (lo hi:Nat) (x:Int×Int):Prop:=∀ k e,lo≤k→k < hi→X[k]? = some e→below e x=false
theorem AboveOn.cons {X:List (Int×Int)} {lo hi:Nat} {x:Int×Int} (h:AboveOn X (lo+1) hi x) (hl:lo < X.length) (hb:below X[lo] x=false):AboveOn X lo hi x:=fun k e h1 h2 he=>by
  by_cases hk:k=lo
  · subst hk
    rw [List.getElem?_eq_getElem hl] at he
    cases he;exact hb
  · exact h k e (by omega) h2 he
structure PInv (X0 X:List (Int×Int)) (a b i j:Nat) (x:Int×Int):Prop where
  seg:Seg X0 X a b
  piv:X[a]? = some x
  lo:BelowOn X (a+1) i x
  hi:AboveOn X (j+1) b x
  ai:a+1≤i
  ij:i≤j+1
  jb:j < b
  bl:b≤X.length
theorem PInv.al {X0 X a b i j x} (h:PInv X0 X a b i j x):a < X.length:=(List.getElem?_eq_some_iff.1 h.piv).1
theorem PInv.xa {X0 X a b i j x} (h:PInv X0 X a b i j x):X[a]'h.al=x:=(List.getElem?_eq_some_iff.1 h.piv).2
theorem PInv.swap {X0 X a b i j x} (h:PInv X0 X a b i j x) (hi:i < X.length) (hj:j < X.length) (hij:i≤j) (h1:below X[i] x=false) (h2:below X[j] x=true) :
    ∃ q,j=q+1∧i < j∧PInv X0 (swapL X i j hi hj) a b (i+1) q x:=by
  have hne:i ≠ j:=by rintro rfl;rw [h1] at h2;cases h2
  have hb:=h.bl
  have hjb:=h.jb
  have hai:=h.ai
  refine ⟨j - 1,by omega,by omega,h.seg.trans (swapL_seg X i j a b hi hj (by omega) (by omega)),?_,?_,?_,by omega,by omega,by omega,by rw [swapL_len];exact hb⟩
  · rw [swapL_get,if_neg (by omega),if_neg (by omega)];exact h.piv
  · intro k e k1 k2 he
    rw [swapL_get,if_neg (by omega)] at he
    by_cases hk:k=i
    · rw [if_pos hk] at he
      cases he;exact h2
    · rw [if_neg hk] at he
      exact h.lo k e k1 (by omega) he
  · intro k e k1 k2 he
    rw [swapL_get] at he
    by_cases hk:k=j
    · rw [if_pos hk] at he
      cases he;exact h1
    · rw [if_neg hk,if_neg (by omega)] at he
      exact h.hi k e (by omega) k2 he
theorem PInv.fin {X0 X a b j x} (h:PInv X0 X a b (j+1) j x) (hj:j < X.length):Seg X0 (swapL X j a hj h.al) a b∧(swapL X j a hj h.al)[j]? = some x∧BelowOn (swapL X j a hj h.al) a j x∧AboveOn (swapL X j a hj h.al) (j+1) b x:=by
  have hb:=h.bl
  have hjb:=h.jb
  have hai:=h.ai
  have hxa:=h.xa
  refine ⟨h.seg.trans (swapL_seg X j a a b hj h.al (by omega) (by omega)),?_,fun k e k1 k2 he=>?_,fun k e k1 k2 he=>?_⟩
  · rw [swapL_get]
    by_cases hja:j=a
    · subst hja;rw [if_pos rfl,hxa]
    · rw [if_neg hja,if_pos rfl,hxa]
  · rw [swapL_get] at he
    by_cases hka:k=a
    · rw [if_pos hka] at he
      cases he
      exact h.lo j _ (by omega) (by omega) (List.getElem?_eq_getElem hj)
    · rw [if_neg hka,if_neg (by omega)] at he
      exact h.lo k e (by omega) (by omega) he
  · rw [swapL_get,if_neg (by omega),if_neg (by omega)] at he
    exact h.hi k e k1 k2 he
end Go.Idl
namespace Go.Idl
open Go
theorem len_k (cf:CF) (n:Int) (m:Nat) (g:ByteArray) (b:UInt8) (k:Nat) (hw:IntKind.u8.wrap n=(m:Int)) (hb:g[m]? = some b) (hk:b.toNat=k) :
    ∃ st,execOps cf { T:=[(0,.sc (.int .u64 n)),(2,I 0),(14,Bo false)],loc:=[],M:=[] } [⟨some 19,none,.mv (.t 2)⟩,⟨some 20,none,.mv (.t 0)⟩,⟨some 21,none,.conv .u8 (.t 20)⟩,⟨some 22,none,.idxs (.c (.string g)) (.t 21)⟩,⟨some 23,none,.conv .i64 (.t 22)⟩,⟨some 24,none,.bin .add (.t 19) (.t 23)⟩,⟨some 2,none,.asg (.t 24)⟩]=some st∧st.cut [2]={ T:=[(2,I k)],loc:=[],M:=[] }:=by
  subst hk
  have hbl:b.toNat < 256:=b.toNat_lt
  have w1:IntKind.i64.wrap (b.toNat:Int)=(b.toNat:Int):=wrap64 (by omega) (by omega)
  refine ⟨_,by simp [hw,hb];rfl,by simp [w1]⟩
def lenB (n:Nat):Nat:=if n≤0 then 0 else if n≤1 then 1 else if n≤3 then 2 else if n≤7 then 3 else if n≤15 then 4 else 5
set_option maxRecDepth 100000 in
set_option maxHeartbeats 4000000 in
theorem ev_Len64k (n:Nat) (hn:n≤21):Ev tb zl68 [] [.sc (.int .u64 n)] [] ⟨I (lenB n),[],[],[]⟩:=by
  have cs:n=0 ∨ n=1 ∨ n=2 ∨ n=3 ∨ n=4 ∨ n=5 ∨ n=6 ∨ n=7 ∨ n=8 ∨ n=9 ∨ n=10 ∨ n=11 ∨ n=12 ∨ n=13 ∨ n=14 ∨ n=15 ∨ n=16 ∨ n=17 ∨ n=18 ∨ n=19 ∨ n=20 ∨ n=21:=by omega
  have w8:IntKind.u8.wrap (n:Int)=(n:Int):=by
    rcases cs with rfl | rfl | rfl | rfl | rfl | rfl | rfl | rfl | rfl | rfl | rfl | rfl | rfl | rfl | rfl | rfl | rfl | rfl | rfl | rfl | rfl | rfl <;> rfl
  have key:∃ st,execOps (limF tb) { T:=[(0,.sc (.int .u64 n)),(2,I 0),(14,Bo false)],loc:=[],M:=[] } (match z68r10 with | .reg ops _ _=>ops | _=>[])=some st∧st.cut [2]={ T:=[(2,I (lenB n))],loc:=[],M:=[] }:=by
    rcases cs with rfl | rfl | rfl | rfl | rfl | rfl | rfl | rfl | rfl | rfl | rfl | rfl | rfl | rfl | rfl | rfl | rfl | rfl | rfl | rfl | rfl | rfl
    all_goals
      exact len_k (limF tb) _ _ _ _ _ w8 rfl rfl
  obtain ⟨st,h1,h2⟩:=key
  have g1:¬ (4294967296:Int)≤n:=by omega
  have g2:¬ (65536:Int)≤n:=by omega
  have g3:¬ (256:Int)≤n:=by omega
  refine call_of_wp zt68 rfl ?_
  iterate 4 ((first|refine wp_as ?_|skip);refine wp_rs (by simp [g1,g2,g3];rfl) (by simp;rfl) ?_;(first|refine wp_ct (t:=false) (by simp) (by simp) (fun _=>?_)|skip);(first|refine wp_ss ?_|skip))
  refine wp_rs h1 h2 ?_
  refine wp_ret' ?_
  simp [zi68]
theorem ev_Lenk (n:Nat) (hn:n≤21):Ev tb zl66 [] [.sc (.int .u64 n)] [] ⟨I (lenB n),[],[],[]⟩:=by
  have e1:=ev_lim (ev_Len64k n hn)
  refine call_of_wp zt66 rfl ?_
  repeat (first|apply wp_as|apply wp_ss|refine wr (by simp [e1];with_reducible rfl) ?_|refine wq (by simp [e1];with_reducible rfl) ?_|refine wt (by simpa [e1]) ?_|refine wf (by simpa [e1]) ?_|refine xt (by simpa [e1]) ?_|refine xf (by simpa [e1]) ?_|apply wp_bs|apply wp_b|refine wp_sr ?_|refine wp_sx ?_|refine wp_ret' ?_|refine wp_skip' ?_|refine wp_exit' ?_)
  simp [zi66]
end Go.Idl
namespace Go.Idl
open Go
theorem jlt_ht (a b c:Int×Int×Int) (h1:jlt b a=false) (h2:jlt c b=false):jlt c a=false:=by
  rw [← Bool.not_eq_true] at *
  simp only [jlt,Bool.or_eq_true,Bool.and_eq_true,decide_eq_true_eq] at *
  omega
theorem jlt_asymm {a b:Int×Int×Int} (h:jlt a b=true):jlt b a=false:=by
  rw [← Bool.not_eq_true]
  simp only [jlt,Bool.or_eq_true,Bool.and_eq_true,decide_eq_true_eq] at *
  omega
theorem pdqJ (X:List (Int×Int×Int)) (h12:X.length≤12) (lim:Nat) (M:List Boxes) :
    Ev tb zl100 [0] [O3 X,I 0,I X.length,I lim,fcJ] M ⟨.tup [],[O3 (srtJ X)],M,[]⟩:=by
  have hE:=ev_insCj zl14 [] jlt (fun _=>True) (M++[[]]) (cmpOK_J _) [] [] X (by simp;omega) (fun _ _=>trivial)
  simp only [List.nil_append,List.append_nil,List.length_nil,Nat.zero_add,Int.natCast_zero,Int.zero_add] at hE
  have e1:=ev_lim hE
  have w0:IntKind.i64.wrap (X.length:Int)=(X.length:Int):=wrap64 (by omega) (by omega)
  have g1:(X.length:Int)≤12:=by omega
  refine call_of_wp zt100 rfl ?_
  repeat (first|apply wp_as|apply wp_ss|refine wr (by simp;with_reducible rfl) ?_|refine wq (by simp;with_reducible rfl) ?_|refine wt (by simpa) ?_|refine wf (by simpa) ?_|refine xt (by simpa) ?_|refine xf (by simpa) ?_|apply wp_bs|apply wp_b|refine wp_sr ?_|refine wp_sx ?_|refine wp_ret' ?_|refine wp_skip' ?_|refine wp_exit' ?_)
  refine wp_loop ?_
  repeat (first|apply wp_as|apply wp_ss|refine wr (by simp [w0,g1,h12,e1,srtJ];with_reducible rfl) ?_|refine wq (by simp [w0,g1,h12,e1,srtJ];with_reducible rfl) ?_|refine wt (by simpa [w0,g1,h12,e1,srtJ]) ?_|refine wf (by simpa [w0,g1,h12,e1,srtJ]) ?_|refine xt (by simpa [w0,g1,h12,e1,srtJ]) ?_|refine xf (by simpa [w0,g1,h12,e1,srtJ]) ?_|apply wp_bs|apply wp_b|refine wp_sr ?_|refine wp_sx ?_|refine wp_ret' ?_|refine wp_skip' ?_|refine wp_exit' ?_)
  simp [zi100,srtJ]
theorem ev_SortJ (X:List (Int×Int×Int)) (h12:X.length≤12) (M:List Boxes) :
    Ev tb zl77 [0] [O3 X,fcJ] M ⟨.tup [],[O3 (srtJ X)],M,[]⟩:=by
  have e1:=ev_lim (pdqJ X h12 (lenB X.length) (M++[[]]))
  have e2:=ev_lim (ev_Lenk X.length (by omega))
  have w1:=@wrapU X.length (by omega)
  refine call_of_wp zt77 rfl ?_
  repeat (first|apply wp_as|apply wp_ss|refine wr (by simp [e1,e2,w1];with_reducible rfl) ?_|refine wq (by simp [e1,e2,w1];with_reducible rfl) ?_|refine wt (by simpa [e1,e2,w1]) ?_|refine wf (by simpa [e1,e2,w1]) ?_|refine xt (by simpa [e1,e2,w1]) ?_|refine xf (by simpa [e1,e2,w1]) ?_|apply wp_bs|apply wp_b|refine wp_sr ?_|refine wp_sx ?_|refine wp_ret' ?_|refine wp_skip' ?_|refine wp_exit' ?_)
  simp [zi77]
end Go.Idl
namespace Go.Idl
open Go
def nl2:List (Int×Int)→IV
  | []=>Z
  | e::es=>O2 (e::es)
@[simp] theorem nl2_nil:nl2 []=Z:=rfl
@[simp] theorem nl2_cons (e:Int×Int) (es:List (Int×Int)):nl2 (e::es)=O2 (e::es):=rfl
end Go.Idl
namespace Go.Idl
open Go
theorem ev_Graph_degrees (n:Nat) (es:List (Int×Int)) (c:Bool) (hn:n≤1000) (hl:es.length≤1000) (he:EdgesIn n es) :
    Ev tb zl9 [] [Gr n es c] [] ⟨O (degs n es),[],[],[]⟩:=by
  have loop:∀ (m i:Nat) (out:List Int) (bs:Boxes),i+m=es.length→out.length=n→(∀ x ∈ out,0≤x∧x≤2 * i) →
      wp tb (.loop z9l8) { T:=[(1,.bptr 0 0 0),(3,O out),(10,L2 es c),(11,I es.length),(12,I i)],loc:=[I n,L2 es c]::bs,M:=[] }
      (fun ex st=>ex=.exit 0∧∃ bs',st={ T:=[(1,.bptr 0 0 0),(3,O (dfold out (es.drop i))),(10,L2 es c),(11,I es.length),(12,I es.length),(13,Bo false)],loc:=[I n,L2 es c]::bs',M:=[] }):=by
    intro m
    induction m with
    | zero =>
      intro i out bs hi ho hb
      have h3:i=es.length:=hi
      subst h3
      refine wp_loop ?_
      repeat (first|apply wp_as|apply wp_ss|refine wr (by simp;with_reducible rfl) ?_|refine wq (by simp;with_reducible rfl) ?_|refine wt (by simpa) ?_|refine wf (by simpa) ?_|refine xt (by simpa) ?_|refine xf (by simpa) ?_|apply wp_bs|apply wp_b|refine wp_sr ?_|refine wp_sx ?_|refine wp_ret' ?_|refine wp_skip' ?_|refine wp_exit' ?_)
      exact ⟨rfl,bs,by simp [dfold]⟩
    | succ m ih =>
      intro i out bs hi ho hb
      have hi2:i < es.length:=by omega
      have w1:IntKind.i64.wrap ((i:Int)+1)=((i+1:Nat):Int):=wrapS (by omega)
      have hd:es.drop i=es[i]::es.drop (i+1):=List.drop_eq_getElem_cons hi2
      have hei:=he es[i] (List.getElem_mem hi2)
      obtain ⟨p,q,hpq,hp,hq⟩:∃ p q:Nat,es[i]=((p:Int),(q:Int))∧p < n∧q < n:=⟨es[i].1.toNat,es[i].2.toNat,by ext <;> simp <;> omega,by omega,by omega⟩
      rw [hd,hpq]
      have hpo:p < out.length:=by omega
      have hx:=hb out[p] (List.getElem_mem hpo)
      have w2:IntKind.i64.wrap (out[p]+1)=out[p]+1:=wrap64 (by omega) (by omega)
      have e1:=bump_eq hpo
      have b1:=bump_bound (i:=p) hb (by omega)
      have l1:=bump_len out p
      have hstep:dfold out (((p:Int),(q:Int))::es.drop (i+1))=dfold (bump (bump out p) q) (es.drop (i+1)):=rfl
      rw [hstep]
      refine wp_loop ?_
      repeat (first|apply wp_as|apply wp_ss|refine wr (by simp [hi2,hpq];with_reducible rfl) ?_|refine wq (by simp [hi2,hpq];with_reducible rfl) ?_|refine wt (by simpa [hi2,hpq]) ?_|refine wf (by simpa [hi2,hpq]) ?_|refine xt (by simpa [hi2,hpq]) ?_|refine xf (by simpa [hi2,hpq]) ?_|apply wp_bs|apply wp_b|refine wp_sr ?_|refine wp_sx ?_|refine wp_ret' ?_|refine wp_skip' ?_|refine wp_exit' ?_)
      refine wr (by simp [hi2,hpq,hpo,w2,← e1];with_reducible rfl) ?_
      generalize bump out p=out1 at *
      have hqo:q < out1.length:=by omega
      have hx2:=b1 out1[q] (List.getElem_mem hqo)
      have w3:IntKind.i64.wrap (out1[q]+1)=out1[q]+1:=wrap64 (by omega) (by omega)
      have e2:=bump_eq hqo
      have b2:=bump_bound (i:=q) b1 (by omega)
      have l2:=bump_len out1 q
      refine wq (by simp [hi2,hpq,hqo,w3,← e2];with_reducible rfl) ?_
      repeat (first|apply wp_as|apply wp_ss|refine wr (by simp [w1];with_reducible rfl) ?_|refine wq (by simp [w1];with_reducible rfl) ?_|refine wt (by simpa [w1]) ?_|refine wf (by simpa [w1]) ?_|refine xt (by simpa [w1]) ?_|refine xf (by simpa [w1]) ?_|apply wp_bs|apply wp_b|refine wp_sr ?_|refine wp_sx ?_|refine wp_ret' ?_|refine wp_skip' ?_|refine wp_exit' ?_)
      exact ih (i+1) (bump out1 q) _ (by omega) (by omega) (fun x hx=>by have:=b2 x hx;omega)
  refine call_of_wp zt9 rfl ?_
  repeat (first|apply wp_as|apply wp_ss|refine wr (by simp [show n≤274877906944 by omega];with_reducible rfl) ?_|refine wq (by simp [show n≤274877906944 by omega];with_reducible rfl) ?_|refine wt (by simpa [show n≤274877906944 by omega]) ?_|refine wf (by simpa [show n≤274877906944 by omega]) ?_|refine xt (by simpa [show n≤274877906944 by omega]) ?_|refine xf (by simpa [show n≤274877906944 by omega]) ?_|apply wp_bs|apply wp_b|refine wp_sr ?_|refine wp_sx ?_|refine wp_ret' ?_|refine wp_skip' ?_|refine wp_exit' ?_)
  have:=loop es.length 0 (List.replicate n 0) [] (by simp) (by simp) (by intro x hx;have:=List.eq_of_mem_replicate hx;subst this;simp)
  simp at this
  refine wp_imp this ?_
  rintro ex st ⟨rfl,bs,rfl⟩
  try simp only [if_true]
  repeat (first|apply wp_as|apply wp_ss|refine wr (by simp;with_reducible rfl) ?_|refine wq (by simp;with_reducible rfl) ?_|refine wt (by simpa) ?_|refine wf (by simpa) ?_|refine xt (by simpa) ?_|refine xf (by simpa) ?_|apply wp_bs|apply wp_b|refine wp_sr ?_|refine wp_sx ?_|refine wp_ret' ?_|refine wp_skip' ?_|refine wp_exit' ?_)
  simp [zi9,degs]
theorem vEs_in (n:Int):∀ (p:Option (Int×Int)) (es:List (Int×Int)),vEs n p es=true→∀ e ∈ es,okE n e=true
  | _,[],_=>by simp
  | none,e::r,h=>by
    simp only [vEs,Bool.and_eq_true] at h
    intro x hx
    rcases List.mem_cons.1 hx with rfl | hx
    · exact h.1
    · exact vEs_in n _ r h.2 x hx
  | some q,e::r,h=>by
    simp only [vEs,Bool.and_eq_true] at h
    intro x hx
    rcases List.mem_cons.1 hx with rfl | hx
    · exact h.1
    · exact vEs_in n _ r h.2.2 x hx
theorem vG_edges {n:Int} {es:List (Int×Int)} (h:vGraph n es=true):∀ e ∈ es,0≤e.1∧e.1 < e.2∧e.2 < n:=by
  simp only [vGraph,Bool.and_eq_true] at h
  intro e he
  have:=vEs_in n none es h.1 e he
  simpa [okE] using this
theorem vG_in {n:Nat} {es:List (Int×Int)} (h:vGraph n es=true):EdgesIn n es:=fun e he=>by
  have:=vG_edges h e he;omega
theorem vG_n {n:Int} {es:List (Int×Int)} (h:vGraph n es=true):0≤n∧n≤7:=by
  simp only [vGraph,Bool.and_eq_true,decide_eq_true_eq] at h;omega
theorem ev_impl_DegreesOf (n:Nat) (es:List (Int×Int)) (c:Bool) (hf:Fit es) (hl:es.length≤1000) (hv:vGraph n es=true):Ev tb zl161 [] [Gr n es c] [] ⟨O (degs n es),[],[],[]⟩:=by
  have hn:=(vG_n hv).2
  have e1:=ev_lim (ev_ValidGraph n es c hf (by omega))
  have e2:=ev_lim (ev_Graph_degrees n es c (by omega) hl (vG_in hv))
  refine call_of_wp zt161 rfl ?_
  repeat (first|apply wp_as|apply wp_ss|refine wr (by simp [e1,e2,hv];with_reducible rfl) ?_|refine wq (by simp [e1,e2,hv];with_reducible rfl) ?_|refine wt (by simpa [e1,e2,hv]) ?_|refine wf (by simpa [e1,e2,hv]) ?_|refine xt (by simpa [e1,e2,hv]) ?_|refine xf (by simpa [e1,e2,hv]) ?_|apply wp_bs|apply wp_b|refine wp_sr ?_|refine wp_sx ?_|refine wp_ret' ?_|refine wp_skip' ?_|refine wp_exit' ?_)
  simp [zi161]
end Go.Idl
namespace Go.Idl
open Go
structure SmallG (n:Int) (es:List (Int×Int)):Prop where
  n1:-1≤n
  n2:n≤8
  len:es.length≤60
  el:∀ e ∈ es,-1≤e.1∧e.1≤8∧-1≤e.2∧e.2≤8
theorem SmallG.fit {n es} (h:SmallG n es):Fit es:=fun e he=>by have:=h.el e he;omega
theorem good_small {n:Nat} {es:List (Int×Int)} (hn:n≤7) (hs:es.Sublist (prs n)):SmallG n es :=
  ⟨by omega,by omega,by have:=prs_len hn hs;omega,fun e he=>by have:=prs_in hs e he;omega⟩
theorem small_set {n:Int} {es:List (Int×Int)} (h:SmallG n es) {k:Nat} {e:Int×Int} (he:-1≤e.1∧e.1≤8∧-1≤e.2∧e.2≤8):SmallG n (es.set k e) :=
  ⟨h.n1,h.n2,by rw [List.length_set];exact h.len,fun x hx=>by
    rcases List.mem_or_eq_of_mem_set hx with hx | rfl
    · exact h.el x hx
    · exact he⟩
theorem ev_someGraph (code:List Int) (c:Bool) (hc:CodeOk code) (cnt:Nat) (hn:cnt≤80000) (A bs:Boxes) (Ms:List Boxes) :
    ∃ (n:Int) (es:List (Int×Int)) (k:Nat),SmallG n es∧k≤cnt+110 ∧
      limF tb zl378 [] [.bptr 0 A.length 0] ((A++R code c cnt::bs)::Ms)=some ⟨OG n es,[],(A++R code c k::bs)::Ms,[]⟩:=by
  obtain ⟨n,es,k1,hn7,hs,hk1,e1⟩:=ev_goodGraphA code c hc cnt (by omega) A bs (Ms++[[]])
  have e1:=ev_lim e1
  have hS:=good_small hn7 hs
  have hel:=hS.len
  suffices hh:∃ r,(∃ (n:Int) (es:List (Int×Int)) (k:Nat),SmallG n es∧k≤cnt+110∧r=⟨OG n es,[],(A++R code c k::bs)::Ms,[]⟩)∧Ev tb zl378 [] [.bptr 0 A.length 0] ((A++R code c cnt::bs)::Ms) r by
    obtain ⟨r,⟨n,es,k,q1,q2,rfl⟩,q3⟩:=hh
    exact ⟨n,es,k,q1,q2,ev_lim q3⟩
  refine call_ex zt378 rfl ?_
  by_cases h0:es.length=0
  · have h00:es=[]:=List.length_eq_zero_iff.1 h0
    subst h00
    repeat (first|apply wp_as|apply wp_ss|refine wr (by simp [e1];with_reducible rfl) ?_|refine wq (by simp [e1];with_reducible rfl) ?_|refine wt (by simpa [e1]) ?_|refine wf (by simpa [e1]) ?_|refine xt (by simpa [e1]) ?_|refine xf (by simpa [e1]) ?_|apply wp_bs|apply wp_b|refine wp_sr ?_|refine wp_sx ?_|refine wp_ret' ?_|refine wp_skip' ?_|refine wp_exit' ?_)
    refine ⟨.inr rfl,_,⟨n,[],k1,hS,by omega,rfl⟩,?_⟩
    simp [zi378]
  have h1:(0:Int) < es.length:=by omega
  have h1':0 < es.length:=by omega
  obtain ⟨v,k2,hv,hk2,e2⟩:=pickA code c hc k1 (by omega) (es.length:Int) (by omega) A bs (Ms++[[]])
  have hv:=hv (by omega)
  have hvl:v < es.length:=by omega
  obtain ⟨u,k3,-,hk3,e3⟩:=pickA code c hc k2 (by omega) 30 (by omega) A bs (Ms++[[]])
  have hev:=hS.el es[v] (List.getElem_mem hvl)
  by_cases hu0:u=0
  · subst hu0
    obtain ⟨x,k4,hx,hk4,e4⟩:=oneA code c hc k3 (by omega) [-1,7,es[v].2] (by simp) A bs (Ms++[[]])
    have hx:-1≤x∧x≤8:=by simp at hx;omega
    repeat (first|apply wp_as|apply wp_ss|refine wr (by simp [e1,e2,e3,h1,h1'];with_reducible rfl) ?_|refine wq (by simp [e1,e2,e3,h1,h1'];with_reducible rfl) ?_|refine wt (by simpa [e1,e2,e3,h1,h1']) ?_|refine wf (by simpa [e1,e2,e3,h1,h1']) ?_|refine xt (by simpa [e1,e2,e3,h1,h1']) ?_|refine xf (by simpa [e1,e2,e3,h1,h1']) ?_|apply wp_bs|apply wp_b|refine wp_sr ?_|refine wp_sx ?_|refine wp_ret' ?_|refine wp_skip' ?_|refine wp_exit' ?_)
    refine wp_rega (by simp [hvl,e4];with_reducible rfl) (by simp;with_reducible rfl) ?_ ?_
    · intro p hp
      simp only [List.mem_cons,List.not_mem_nil,or_false] at hp
      rcases hp with rfl | rfl
      · exact ⟨_,by simp [hvl,e4];with_reducible rfl,by simp⟩
      · exact ⟨_,by simp [hvl,e4];with_reducible rfl,by simp⟩
    repeat (first|apply wp_as|apply wp_ss|refine wr (by simp;with_reducible rfl) ?_|refine wq (by simp;with_reducible rfl) ?_|refine wt (by simpa) ?_|refine wf (by simpa) ?_|refine xt (by simpa) ?_|refine xf (by simpa) ?_|apply wp_bs|apply wp_b|refine wp_sr ?_|refine wp_sx ?_|refine wp_ret' ?_|refine wp_skip' ?_|refine wp_exit' ?_)
    refine ⟨.inr rfl,_,⟨n,es.set v (x,es[v].2),k4,small_set hS ⟨by omega,by omega,by omega,by omega⟩,by omega,rfl⟩,?_⟩
    simp [zi378]
    rw [List.take_of_length_le (by simp)]
  by_cases hu1:u=1
  · subst hu1
    have hap:SmallG n (es++[es[v]]):=⟨hS.n1,hS.n2,by have:=prs_len hn7 hs;simp;omega,fun e he=>by
      rcases List.mem_append.1 he with he | he
      · exact hS.el e he
      · simp at he;subst he;exact hev⟩
    have hlm:es.length+1≤274877906944:=by omega
    repeat (first|apply wp_as|apply wp_ss|refine wr (by simp [e1,e2,e3,h1,h1'];with_reducible rfl) ?_|refine wq (by simp [e1,e2,e3,h1,h1'];with_reducible rfl) ?_|refine wt (by simpa [e1,e2,e3,h1,h1']) ?_|refine wf (by simpa [e1,e2,e3,h1,h1']) ?_|refine xt (by simpa [e1,e2,e3,h1,h1']) ?_|refine xf (by simpa [e1,e2,e3,h1,h1']) ?_|apply wp_bs|apply wp_b|refine wp_sr ?_|refine wp_sx ?_|refine wp_ret' ?_|refine wp_skip' ?_|refine wp_exit' ?_)
    refine wp_rega (by simp [hvl,hlm];with_reducible rfl) (by simp;with_reducible rfl) ?_ ?_
    · intro p hp
      simp only [List.mem_cons,List.not_mem_nil,or_false] at hp
      subst hp
      exact ⟨_,by simp [hvl,hlm];with_reducible rfl,by simp⟩
    repeat (first|apply wp_as|apply wp_ss|refine wr (by simp;with_reducible rfl) ?_|refine wq (by simp;with_reducible rfl) ?_|refine wt (by simpa) ?_|refine wf (by simpa) ?_|refine xt (by simpa) ?_|refine xf (by simpa) ?_|apply wp_bs|apply wp_b|refine wp_sr ?_|refine wp_sx ?_|refine wp_ret' ?_|refine wp_skip' ?_|refine wp_exit' ?_)
    refine ⟨.inr rfl,_,⟨n,es++[es[v]],k3,hap,by omega,rfl⟩,?_⟩
    simp [zi378]
    rw [List.take_of_length_le (by simp)]
  have hu0':¬ (u:Int)=0:=by omega
  have hu1':¬ (u:Int)=1:=by omega
  by_cases hu2:u=2
  · subst hu2
    obtain ⟨x,k4,hx,hk4,e4⟩:=oneA code c hc k3 (by omega) [-1,8,2] (by simp) A bs (Ms++[[]])
    have hx:-1≤x∧x≤8:=by simp at hx;omega
    repeat (first|apply wp_as|apply wp_ss|refine wr (by simp [e1,e2,e3,e4,h1,h1'];with_reducible rfl) ?_|refine wq (by simp [e1,e2,e3,e4,h1,h1'];with_reducible rfl) ?_|refine wt (by simpa [e1,e2,e3,e4,h1,h1']) ?_|refine wf (by simpa [e1,e2,e3,e4,h1,h1']) ?_|refine xt (by simpa [e1,e2,e3,e4,h1,h1']) ?_|refine xf (by simpa [e1,e2,e3,e4,h1,h1']) ?_|apply wp_bs|apply wp_b|refine wp_sr ?_|refine wp_sx ?_|refine wp_ret' ?_|refine wp_skip' ?_|refine wp_exit' ?_)
    refine ⟨.inr rfl,_,⟨x,es,k4,⟨hx.1,hx.2,hS.len,hS.el⟩,by omega,rfl⟩,?_⟩
    simp [zi378]
  · have hu2':¬ (u:Int)=2:=by omega
    repeat (first|apply wp_as|apply wp_ss|refine wr (by simp [e1,e2,e3,h1,h1',hu0,hu1,hu2,hu0',hu1',hu2'];with_reducible rfl) ?_|refine wq (by simp [e1,e2,e3,h1,h1',hu0,hu1,hu2,hu0',hu1',hu2'];with_reducible rfl) ?_|refine wt (by simpa [e1,e2,e3,h1,h1',hu0,hu1,hu2,hu0',hu1',hu2']) ?_|refine wf (by simpa [e1,e2,e3,h1,h1',hu0,hu1,hu2,hu0',hu1',hu2']) ?_|refine xt (by simpa [e1,e2,e3,h1,h1',hu0,hu1,hu2,hu0',hu1',hu2']) ?_|refine xf (by simpa [e1,e2,e3,h1,h1',hu0,hu1,hu2,hu0',hu1',hu2']) ?_|apply wp_bs|apply wp_b|refine wp_sr ?_|refine wp_sx ?_|refine wp_ret' ?_|refine wp_skip' ?_|refine wp_exit' ?_)
    refine ⟨.inr rfl,_,⟨n,es,k3,hS,by omega,rfl⟩,?_⟩
    simp [zi378]
end Go.Idl
namespace Go.Idl
def allD (p:List Int→Bool):Nat→Nat→List Int→Bool
  | 0,_,acc=>p acc.reverse
  | m+1,t,acc=>(List.range (t+1)).all fun x=>allD p m x ((x:Int)::acc)
theorem allD_ok (p:List Int→Bool):∀ (m t:Nat) (acc l:List Int),allD p m t acc=true→l.length=m→Desc l→(∀ x ∈ l,0≤x∧x≤t)→p (acc.reverse++l)=true
  | 0,t,acc,l,h,hl,hd,hb=>by
    have:l=[]:=List.length_eq_zero_iff.1 hl
    subst this
    simpa [allD] using h
  | m+1,t,acc,l,h,hl,hd,hb=>by
    cases l with
    | nil=>simp at hl
    | cons x r =>
      have hx:=hb x (by simp)
      have hd':=List.pairwise_cons.1 hd
      obtain ⟨k,rfl⟩:=Int.eq_ofNat_of_zero_le hx.1
      simp only [allD,List.all_eq_true,List.mem_range] at h
      have h1:=h k (by omega)
      have:=allD_ok p m k ((k:Int)::acc) r h1 (by simpa using hl) hd'.2 (fun y hy=>⟨(hb y (by simp [hy])).1,hd'.1 y hy⟩)
      simpa using this
def slS (s:List Int):List Int:=(List.range s.length).map fun i=>slk s (i+1)
theorem slacks_S (d:List Int):slacks d=slS (fall d):=by rw [slacks,slS,fall_len]
end Go.Idl
namespace Go.Idl
def S {α:Type} (l:List α) (f:α→Int):Int:=(l.map f).sum
@[simp] theorem S_nil {α:Type} (f:α→Int):S [] f=0:=rfl
@[simp] theorem S_cons {α:Type} (a:α) (l:List α) (f:α→Int):S (a::l) f=f a+S l f:=by simp [S]
theorem S_app {α:Type} (l k:List α) (f:α→Int):S (l++k) f=S l f+S k f:=by simp [S]
theorem S_perm {α:Type} {l k:List α} (h:l.Perm k) (f:α→Int):S l f=S k f:=perm_sum (h.map f)
theorem S_add {α:Type} (l:List α) (f g:α→Int):S l (fun a=>f a+g a)=S l f+S l g:=by
  induction l with
  | nil=>rfl
  | cons a l ih=>simp only [S_cons,ih];omega
theorem S_sub {α:Type} (l:List α) (f g:α→Int):S l (fun a=>f a - g a)=S l f - S l g:=by
  induction l with
  | nil=>rfl
  | cons a l ih=>simp only [S_cons,ih];omega
theorem S_zero {α:Type} (l:List α):S l (fun _=>0)=0:=by
  induction l with
  | nil=>rfl
  | cons a l ih=>simp [ih]
theorem S_const {α:Type} (l:List α) (c:Int):S l (fun _=>c)=l.length * c:=by
  induction l with
  | nil=>simp
  | cons a l ih=>rw [S_cons,ih,List.length_cons,Int.natCast_add,Int.add_mul];simp;omega
theorem S_congr {α:Type} {l:List α} {f g:α→Int} (h:∀ a ∈ l,f a=g a):S l f=S l g:=by
  induction l with
  | nil=>rfl
  | cons a l ih=>rw [S_cons,S_cons,h a (by simp),ih fun b hb=>h b (by simp [hb])]
theorem S_le {α:Type} {l:List α} {f g:α→Int} (h:∀ a ∈ l,f a≤g a):S l f≤S l g:=by
  induction l with
  | nil=>simp
  | cons a l ih =>
    have h1:=h a (by simp)
    have h2:=ih fun b hb=>h b (by simp [hb])
    simp only [S_cons];omega
theorem S_swap {α β:Type} (l:List α) (k:List β) (f:α→β→Int):S l (fun a=>S k (f a))=S k (fun b=>S l (fun a=>f a b)):=by
  induction l with
  | nil=>simp [S_zero]
  | cons a l ih=>simp only [S_cons,S_add,ih]
theorem S_mul {α:Type} (l:List α) (f:α→Int) (c:Int):S l (fun a=>c * f a)=c * S l f:=by
  induction l with
  | nil=>simp
  | cons a l ih=>rw [S_cons,S_cons,ih,Int.mul_add]
theorem S_mulr {α:Type} (l:List α) (f:α→Int) (c:Int):S l (fun a=>f a * c)=S l f * c:=by
  induction l with
  | nil=>simp
  | cons a l ih=>rw [S_cons,S_cons,ih,Int.add_mul]
theorem S_sublist {α:Type} {l k:List α} (h:l.Sublist k) {f:α→Int} (h0:∀ a ∈ k,0≤f a):S l f≤S k f:=by
  induction h with
  | slnil=>simp
  | cons a _ ih =>
    have h1:=h0 a (by simp)
    have h2:=ih fun b hb=>h0 b (by simp [hb])
    rw [S_cons];omega
  | cons_cons a _ ih =>
    have h2:=ih fun b hb=>h0 b (by simp [hb])
    rw [S_cons,S_cons];omega
theorem S_nonneg {α:Type} {l:List α} {f:α→Int} (h:∀ a ∈ l,0≤f a):0≤S l f:=by
  have:=S_le (l:=l) (f:=fun _=>0) h
  rwa [S_zero] at this
theorem S_map {α γ:Type} (l:List γ) (g:γ→α) (f:α→Int):S (l.map g) f=S l (fun c=>f (g c)):=by simp [S];rfl
theorem perm_map_inv {α β:Type} {f:α→β} {ys zs:List β} (h:ys.Perm zs):∀ {l:List α},zs=l.map f→∃ l':List α,l'.Perm l∧ys=l'.map f:=by
  induction h with
  | nil=>intro l hl;exact ⟨l,.refl _,hl⟩
  | cons x _ ih =>
    intro l hl
    cases l with
    | nil=>simp at hl
    | cons a l =>
      simp only [List.map_cons,List.cons.injEq] at hl
      obtain ⟨l',h1,h2⟩:=ih hl.2
      exact ⟨a::l',h1.cons a,by rw [List.map_cons,← h2,hl.1]⟩
  | swap x y r =>
    intro l hl
    cases l with
    | nil=>simp at hl
    | cons a l =>
      cases l with
      | nil=>simp at hl
      | cons b l =>
        simp only [List.map_cons,List.cons.injEq] at hl
        exact ⟨b::a::l,.swap a b l,by simp [hl.1,hl.2.1,hl.2.2]⟩
  | trans _ _ ih1 ih2 =>
    intro l hl
    obtain ⟨l2,h1,h2⟩:=ih2 hl
    obtain ⟨l3,h3,h4⟩:=ih1 h2
    exact ⟨l3,h3.trans h1,h4⟩
theorem S_one {α:Type} [DecidableEq α] {l:List α} (h:l.Nodup) (x:α):S l (fun a=>if x=a then 1 else 0)=if x ∈ l then 1 else 0:=by
  induction l with
  | nil=>simp
  | cons a l ih =>
    have h':=List.nodup_cons.1 h
    rw [S_cons,ih h'.2]
    by_cases hx:x=a
    · subst hx;simp [h'.1]
    · simp [hx]
theorem below_iff (a b:Int×Int):below a b=true ↔ a.1 < b.1 ∨ (a.1=b.1∧a.2 < b.2):=by simp [below]
theorem below_trans {a b c:Int×Int} (h:below a b=true) (k:below b c=true):below a c=true:=by
  rw [below_iff] at *;omega
theorem below_ne {a b:Int×Int} (h:below a b=true):a ≠ b:=by
  rintro rfl;rw [below_iff] at h;omega
abbrev PW (es:List (Int×Int)):Prop:=es.Pairwise fun a b=>below a b=true
theorem vEs_pw (n:Int):∀ (p:Option (Int×Int)) (es:List (Int×Int)),vEs n p es=true→PW es∧(∀ q,p=some q→∀ e ∈ es,below q e=true)
  | p,[],_=>⟨.nil,by simp⟩
  | none,e::r,h=>by
    simp only [vEs,Bool.and_eq_true] at h
    obtain ⟨h1,h2⟩:=vEs_pw n (some e) r h.2
    exact ⟨List.pairwise_cons.2 ⟨h2 e rfl,h1⟩,by simp⟩
  | some q,e::r,h=>by
    simp only [vEs,Bool.and_eq_true] at h
    obtain ⟨h1,h2⟩:=vEs_pw n (some e) r h.2.2
    refine ⟨List.pairwise_cons.2 ⟨h2 e rfl,h1⟩,fun q' hq' x hx=>?_⟩
    cases hq'
    rcases List.mem_cons.1 hx with rfl | hx
    · exact h.2.1
    · exact below_trans h.2.1 (h2 e rfl x hx)
theorem pw_vEs (n:Int):∀ (p:Option (Int×Int)) (es:List (Int×Int)),PW es→(∀ q,p=some q→∀ e ∈ es,below q e=true)→(∀ e ∈ es,okE n e=true)→vEs n p es=true
  | p,[],_,_,_=>by cases p <;> rfl
  | none,e::r,h,_,ho=>by
    have h':=List.pairwise_cons.1 h
    simp only [vEs,Bool.and_eq_true]
    exact ⟨ho e (by simp),pw_vEs n (some e) r h'.2 (fun q hq x hx=>by cases hq;exact h'.1 x hx) fun x hx=>ho x (by simp [hx])⟩
  | some q,e::r,h,hq,ho=>by
    have h':=List.pairwise_cons.1 h
    simp only [vEs,Bool.and_eq_true]
    exact ⟨ho e (by simp),hq q rfl e (by simp),pw_vEs n (some e) r h'.2 (fun q hq x hx=>by cases hq;exact h'.1 x hx) fun x hx=>ho x (by simp [hx])⟩
theorem row_mem_iff (a:Nat):∀ (m b:Nat) (e:Int×Int),e ∈ row a b m ↔ e.1=a∧(b:Int)≤e.2∧e.2 < b+m
  | 0,b,e=>by simp [row] <;> omega
  | m+1,b,e=>by
    rw [row,List.mem_cons,row_mem_iff a m (b+1) e]
    constructor
    · rintro (rfl | h)
      · simp;omega
      · omega
    · intro h
      by_cases h2:e.2=b
      · exact .inl (Prod.ext h.1 h2)
      · exact .inr (by omega)
theorem prsF_mem_iff:∀ (m a:Nat) (e:Int×Int),e ∈ prsF a m ↔ (a:Int)≤e.1∧e.1 < e.2∧e.2 < a+m
  | 0,a,e=>by simp [prsF];omega
  | m+1,a,e=>by
    rw [prsF,List.mem_append,row_mem_iff,prsF_mem_iff m (a+1) e]
    omega
theorem mem_prs {n:Nat} {e:Int×Int}:e ∈ prs n ↔ 0≤e.1∧e.1 < e.2∧e.2 < n:=by
  rw [prs,prsF_mem_iff];omega
theorem row_pw (a:Nat):∀ (m b:Nat),PW (row a b m)
  | 0,b=>.nil
  | m+1,b=>by
    rw [row]
    refine List.pairwise_cons.2 ⟨fun e he=>?_,row_pw a m (b+1)⟩
    rw [row_mem_iff] at he
    rw [below_iff];simp only;omega
theorem prsF_pw:∀ (m a:Nat),PW (prsF a m)
  | 0,a=>.nil
  | m+1,a=>by
    rw [prsF]
    refine List.pairwise_append.2 ⟨row_pw a m (a+1),prsF_pw m (a+1),fun x hx y hy=>?_⟩
    rw [row_mem_iff] at hx
    rw [prsF_mem_iff] at hy
    rw [below_iff];omega
theorem prs_pw (n:Nat):PW (prs n):=prsF_pw n 0
theorem pw_nodup {es:List (Int×Int)} (h:PW es):es.Nodup:=h.imp fun h=>below_ne h
theorem pw_ext {xs ys:List (Int×Int)} (hx:PW xs) (hy:PW ys) (h:∀ e,e ∈ xs ↔ e ∈ ys):xs=ys:=by
  refine List.Perm.eq_of_pairwise (le:=fun a b=>below a b=true) (fun a b _ _ h1 h2=>absurd (below_trans h1 h2) (fun h=>below_ne h rfl)) hx hy ?_
  exact (List.perm_ext_iff_of_nodup (pw_nodup hx) (pw_nodup hy)).2 h
theorem vG_iff {n:Nat} {es:List (Int×Int)}:vGraph n es=true ↔ PW es∧(∀ e ∈ es,e ∈ prs n)∧n≤7:=by
  constructor
  · intro h
    have h1:=vG_n h
    have h2:=vG_edges h
    simp only [vGraph,Bool.and_eq_true] at h
    exact ⟨(vEs_pw n none es h.1).1,fun e he=>mem_prs.2 (h2 e he),by omega⟩
  · rintro ⟨h1,h2,h3⟩
    simp only [vGraph,Bool.and_eq_true,decide_eq_true_eq]
    refine ⟨pw_vEs n none es h1 (by simp) fun e he=>?_,by omega,by omega⟩
    have:=mem_prs.1 (h2 e he)
    simp only [okE,Bool.and_eq_true,decide_eq_true_eq];omega
theorem vG_filter {n:Nat} {es:List (Int×Int)} (h:vGraph n es=true):es=(prs n).filter fun e=>decide (e ∈ es):=by
  obtain ⟨h1,h2,h3⟩:=vG_iff.1 h
  refine pw_ext h1 ((prs_pw n).filter _) fun e=>?_
  rw [List.mem_filter,decide_eq_true_eq]
  exact ⟨fun he=>⟨h2 e he,he⟩,fun he=>he.2⟩
theorem vG_sub {n:Nat} {es:List (Int×Int)} (h:vGraph n es=true):es.Sublist (prs n):=by
  rw [vG_filter h];exact List.filter_sublist
def inc (v:Nat) (e:Int×Int):Int:=(if e.1=v then 1 else 0)+(if e.2=v then 1 else 0)
def deg (es:List (Int×Int)) (v:Nat):Int:=S es (inc v)
theorem bump_get {o:List Int} {i v:Nat} (hv:v < o.length):(bump o i).getD v 0=o.getD v 0+(if i=v then 1 else 0):=by
  rw [bump,List.getD_eq_getElem?_getD,List.getElem?_set]
  by_cases h:i=v
  · subst h;simp [hv,List.getD_eq_getElem?_getD]
  · simp [h,List.getD_eq_getElem?_getD]
theorem dfold_get {n:Nat}:∀ (es:List (Int×Int)) (o:List Int),(∀ e ∈ es,0≤e.1∧0≤e.2)→∀ v,v < o.length→(dfold o es).getD v 0=o.getD v 0+deg es v
  | [],o,_,v,_=>by simp [dfold,deg]
  | e::es,o,h,v,hv=>by
    have h1:=h e (by simp)
    have:=dfold_get (n:=n) es (bump (bump o e.1.toNat) e.2.toNat) (fun x hx=>h x (by simp [hx])) v (by simp [bump_len];exact hv)
    rw [show dfold o (e::es)=dfold (bump (bump o e.1.toNat) e.2.toNat) es from rfl,this,bump_get (by rw [bump_len];exact hv),bump_get hv,deg,deg,S_cons]
    have c1:(e.1.toNat=v)=(e.1=(v:Int)):=by rw [eq_iff_iff];omega
    have c2:(e.2.toNat=v)=(e.2=(v:Int)):=by rw [eq_iff_iff];omega
    simp only [inc,c1,c2]
    omega
theorem degs_eq {n:Nat} {es:List (Int×Int)} (h:EdgesIn n es):degs n es=(List.range n).map (deg es):=by
  have hl:(degs n es).length=n:=by rw [degs,dfold_len];simp
  refine List.ext_getElem (by simp [hl]) fun v h1 h2=>?_
  have:=dfold_get (n:=n) es (List.replicate n 0) (fun e he=>by have:=h e he;omega) v (by simp;omega)
  rw [← degs,List.getD_eq_getElem?_getD,List.getElem?_eq_getElem h1] at this
  simp only [Option.getD_some] at this
  rw [this]
  simp [List.getD_eq_getElem?_getD]
  rw [List.getElem?_eq_getElem (by simp;omega)];simp
theorem S_inc {n:Nat} {e:Int×Int} (h:e ∈ prs n) {l:List Nat} (hl:l.Perm (List.range n)):S l (fun v=>inc v e)=2:=by
  have h0:=mem_prs.1 h
  have key:∀ x:Int,0≤x→x < n→S l (fun v=>if x=(v:Int) then 1 else 0)=1:=by
    intro x hx hxn
    obtain ⟨k,rfl⟩:=Int.eq_ofNat_of_zero_le hx
    have:∀ v ∈ l,(if (k:Int)=(v:Int) then (1:Int) else 0)=if k=v then 1 else 0:=fun v _=>by simp only [Int.ofNat_inj]
    rw [S_congr this,S_one (hl.nodup_iff.2 List.nodup_range),if_pos (hl.mem_iff.2 (List.mem_range.2 (by omega)))]
  simp only [inc]
  rw [S_add,key _ (by omega) (by omega),key _ (by omega) (by omega)]
  rfl
theorem degs_sum {n:Nat} {es:List (Int×Int)} (h:∀ e ∈ es,e ∈ prs n):(degs n es).sum=2 * es.length:=by
  rw [degs_eq fun e he=>by have:=mem_prs.1 (h e he);omega]
  show S (List.range n) (fun v=>S es (fun e=>inc v e))=_
  rw [S_swap,S_congr (g:=fun _=>2) fun e he=>S_inc (h e he) (.refl _),S_const]
  omega
theorem deg_prs_all:(List.range 8).all (fun n=>(List.range n).all fun v=>decide (deg (prs n) v=(n:Int) - 1))=true:=by decide +kernel
theorem deg_prs {n v:Nat} (hn:n≤7) (hv:v < n):deg (prs n) v=(n:Int) - 1:=by
  have:=List.all_eq_true.1 (List.all_eq_true.1 deg_prs_all n (List.mem_range.2 (by omega))) v (List.mem_range.2 hv)
  exact of_decide_eq_true this
def adj (e:Int×Int) (a b:Nat):Int:=(if e.1=a then 1 else 0) * (if e.2=b then 1 else 0)+(if e.2=a then 1 else 0) * (if e.1=b then 1 else 0)
theorem adj_all:(List.range 8).all (fun n=>(List.range n).all fun a=>(List.range n).all fun b=>decide (S (prs n) (fun e=>adj e a b)=if a=b then 0 else 1))=true:=by decide +kernel
theorem adj_prs {n a b:Nat} (hn:n≤7) (ha:a < n) (hb:b < n):S (prs n) (fun e=>adj e a b)=if a=b then 0 else 1:=by
  have:=List.all_eq_true.1 (List.all_eq_true.1 (List.all_eq_true.1 adj_all n (List.mem_range.2 (by omega))) a (List.mem_range.2 ha)) b (List.mem_range.2 hb)
  exact of_decide_eq_true this
theorem ind01 {l:List Nat} (h:l.Nodup) (x:Int):S l (fun v=>if x=(v:Int) then 1 else 0)=0 ∨ S l (fun v=>if x=(v:Int) then 1 else 0)=1:=by
  by_cases hx:0≤x
  · obtain ⟨k,rfl⟩:=Int.eq_ofNat_of_zero_le hx
    have:∀ v ∈ l,(if (k:Int)=(v:Int) then (1:Int) else 0)=if k=v then 1 else 0:=fun v _=>by simp only [Int.ofNat_inj]
    rw [S_congr this,S_one h]
    split
    · exact .inr rfl
    · exact .inl rfl
  · refine .inl ?_
    rw [S_congr (g:=fun _=>0) fun v _=>if_neg (by omega),S_zero]
theorem two_sets {n k m:Nat} {es:List (Int×Int)} (h:vGraph n es=true) {π:List Nat} (hπ:π.Perm (List.range n)) (hkm:k≤m) (hm:m≤n) :
    S (π.take k) (deg es)+S (π.take m) (deg es)≤(k:Int) * ((m:Int) - 1)+S π (deg es):=by
  have hn:=(vG_iff.1 h).2.2
  have hin:=(vG_iff.1 h).2.1
  have hnd:π.Nodup:=hπ.nodup_iff.2 List.nodup_range
  have hπl:π.length=n:=by rw [hπ.length_eq,List.length_range]
  have hlt:∀ v ∈ π,v < n:=fun v hv=>List.mem_range.1 (hπ.mem_iff.1 hv)
  obtain ⟨A,hA⟩:∃ A,A=π.take k:=⟨_,rfl⟩
  obtain ⟨B,hB⟩:∃ B,B=π.take m:=⟨_,rfl⟩
  have hAB:A.Sublist B:=by
    rw [hA,hB,show π.take k=(π.take m).take k by rw [List.take_take,Nat.min_eq_left hkm]]
    exact List.take_sublist _ _
  have hBn:B.Nodup:=by rw [hB];exact hnd.sublist (List.take_sublist _ _)
  have hAn:A.Nodup:=hBn.sublist hAB
  have hBl:B.length=m:=by rw [hB,List.length_take];omega
  have hAl:A.length=k:=by rw [hA,List.length_take];omega
  have hBm:∀ v ∈ B,v < n:=fun v hv=>hlt v (by rw [hB] at hv;exact List.mem_of_mem_take hv)
  rw [← hA,← hB]
  have sw:∀ l:List Nat,S l (deg es)=S es (fun e=>S l (fun v=>inc v e)):=fun l=>S_swap l es fun v e=>inc v e
  have hw:S es (fun e=>S A (fun a=>S B (fun b=>adj e a b)))≤(k:Int) * ((m:Int) - 1):=by
    refine Int.le_trans (S_sublist (vG_sub h) (f:=fun e=>S A (fun a=>S B (fun b=>adj e a b))) fun e _=>S_nonneg fun a _=>S_nonneg fun b _=>?_) ?_
    · simp only [adj]
      split <;> split <;> split <;> split <;> decide
    · rw [S_swap]
      have:∀ a ∈ A,S (prs n) (fun e=>S B (fun b=>adj e a b))=(m:Int) - 1:=fun a ha=>by
        have ha':=hAB.mem ha
        rw [S_swap,S_congr (g:=fun b=>1 - (if a=b then 1 else 0)) fun b hb=>by
          rw [adj_prs hn (hBm a ha') (hBm b hb)];split <;> rfl]
        rw [S_sub,S_const,S_one hBn,if_pos ha',hBl];omega
      rw [S_congr this,S_const,hAl]
      exact Int.le_refl _
  have he:∀ e ∈ es,S A (fun v=>inc v e)+S B (fun v=>inc v e) - 2≤S A (fun a=>S B (fun b=>adj e a b)):=fun e he=>by
    have hwe:S A (fun a=>S B (fun b=>adj e a b))=S A (fun v=>if e.1=(v:Int) then 1 else 0) * S B (fun v=>if e.2=(v:Int) then 1 else 0)+S A (fun v=>if e.2=(v:Int) then 1 else 0) * S B (fun v=>if e.1=(v:Int) then 1 else 0):=by
      rw [← S_mulr,← S_mulr,← S_add]
      refine S_congr fun a _=>?_
      rw [← S_mul,← S_mul,← S_add]
      rfl
    rw [hwe]
    simp only [inc]
    rw [S_add,S_add]
    have m1:S A (fun v=>if e.1=(v:Int) then 1 else 0)≤S B (fun v=>if e.1=(v:Int) then 1 else 0):=S_sublist hAB fun v _=>by split <;> decide
    have m2:S A (fun v=>if e.2=(v:Int) then 1 else 0)≤S B (fun v=>if e.2=(v:Int) then 1 else 0):=S_sublist hAB fun v _=>by split <;> decide
    rcases ind01 hAn e.1 with h1 | h1 <;> rcases ind01 hAn e.2 with h2 | h2 <;> rcases ind01 hBn e.1 with h3 | h3 <;> rcases ind01 hBn e.2 with h4 | h4 <;> rw [h1,h3] at m1 <;> rw [h2,h4] at m2 <;> rw [h1,h2,h3,h4] <;> omega
  have hs:=S_le he
  rw [S_sub,S_add,S_const] at hs
  have h2:S π (deg es)=es.length * 2:=by
    rw [sw,S_congr (g:=fun _=>2) fun e he=>S_inc (hin e he) hπ,S_const]
  rw [sw A,sw B,h2]
  omega
theorem degs_valid {n:Nat} {es:List (Int×Int)} (h:vGraph n es=true):valid (degs n es)=true:=by
  obtain ⟨h1,h2,hn⟩:=vG_iff.1 h
  have hE:EdgesIn n es:=fun e he=>by have:=mem_prs.1 (h2 e he);omega
  rw [degs_eq hE]
  simp only [valid,Bool.and_eq_true,decide_eq_true_eq,List.all_eq_true,List.length_map,List.length_range]
  refine ⟨hn,fun x hx=>?_⟩
  obtain ⟨v,hv,rfl⟩:=List.mem_map.1 hx
  have hv:=List.mem_range.1 hv
  have hi:∀ e:Int×Int,0≤inc v e:=fun e=>by simp only [inc];split <;> split <;> decide
  have h3:deg es v≤deg (prs n) v:=S_sublist (vG_sub h) fun e _=>hi e
  have h4:0≤deg es v:=S_nonneg fun e _=>hi e
  have:=deg_prs hn hv
  omega
theorem degs_graphic {n:Nat} {es:List (Int×Int)} (h:vGraph n es=true):graphic (degs n es)=true:=by
  obtain ⟨h1,h2,hn⟩:=vG_iff.1 h
  have hE:EdgesIn n es:=fun e he=>by have:=mem_prs.1 (h2 e he);omega
  have hs:=degs_sum h2
  have hde:=degs_eq hE
  obtain ⟨π,hπ,hfp⟩:=perm_map_inv (f:=deg es) (fall_perm (degs n es)) (l:=List.range n) hde
  refine (graphic_iff _).2 ⟨degs_valid h,by omega,fun k m hk hkm hm=>?_⟩
  rw [show (degs n es).length=n by rw [hde];simp] at hm
  have:=two_sets h hπ hkm hm
  have hsum:(degs n es).sum=S π (deg es):=by rw [hde];exact S_perm hπ.symm _
  simp only [tops,hfp,hsum]
  rw [← List.map_take,← List.map_take]
  exact this
end Go.Idl
namespace Go.Idl
open Go
theorem degs_len (n:Nat) (es:List (Int×Int)):(degs n es).length=n:=by rw [degs,dfold_len];simp
end Go.Idl
namespace Go.Idl
open Go
def jCnt (D:List Int) (es:List (Int×Int)) (a b:Int):Nat:=(keysJ D es).count (a,b)
theorem jCnt_succ {D:List Int} {es:List (Int×Int)} {i:Nat} {x:Int×Int} (hx:es[i]? = some x) (a b:Int) :
    jCnt D (es.take (i+1)) a b=jCnt D (es.take i) a b+if min (D.getD x.1.toNat 0) (D.getD x.2.toNat 0)=a∧max (D.getD x.1.toNat 0) (D.getD x.2.toNat 0)=b then 1 else 0:=by
  have hi:i < es.length:=(List.getElem?_eq_some_iff.1 hx).1
  have hxe:es[i]=x:=(List.getElem?_eq_some_iff.1 hx).2
  rw [List.take_succ_eq_append_getElem hi,hxe]
  simp only [jCnt,keysJ,List.map_append,List.map_cons,List.map_nil,List.count_append,List.count_singleton,beq_iff_eq,Prod.mk.injEq]
theorem ev_jointCount (n:Nat) (es:List (Int×Int)) (D:List Int) (a b:Int) (c c2:Bool) (hl:es.length≤1000) (hD:D.length=n) (he:EdgesIn n es) :
    Ev tb zl133 [] [Gr n es c,L D c2,I a,I b] [] ⟨I (jCnt D es a b),[],[],[]⟩:=by
  have loop:∀ (m i:Nat),i+m=es.length→wp tb (.loop z133l9) { T:=[(1,L D c2),(2,I a),(3,I b),(4,.bptr 0 0 0),(9,I (jCnt D (es.take i) a b)),(10,I i)],loc:=[[I n,L2 es c]],M:=[] }
      (fun ex st=>ex=.exit 0∧st={ T:=[(1,L D c2),(2,I a),(3,I b),(4,.bptr 0 0 0),(9,I (jCnt D es a b)),(10,I es.length),(17,Bo false)],loc:=[[I n,L2 es c]],M:=[] }):=by
    intro m
    induction m with
    | zero =>
      intro i hi
      have h3:i=es.length:=hi
      subst h3
      rw [List.take_length]
      refine wp_loop ?_
      repeat (first|apply wp_as|apply wp_ss|refine wr (by simp;with_reducible rfl) ?_|refine wq (by simp;with_reducible rfl) ?_|refine wt (by simpa) ?_|refine wf (by simpa) ?_|refine xt (by simpa) ?_|refine xf (by simpa) ?_|apply wp_bs|apply wp_b|refine wp_sr ?_|refine wp_sx ?_|refine wp_ret' ?_|refine wp_skip' ?_|refine wp_exit' ?_)
      simp
    | succ m ih =>
      intro i hi
      have hi2:i < es.length:=by omega
      have hn:=ih (i+1) (by omega)
      have w1:IntKind.i64.wrap ((i:Int)+1)=((i+1:Nat):Int):=wrapS (by omega)
      have hei:=he es[i] (List.getElem_mem hi2)
      obtain ⟨p,q,hpq,hp,hq⟩:∃ p q:Nat,es[i]=((p:Int),(q:Int))∧p < n∧q < n:=⟨es[i].1.toNat,es[i].2.toNat,by ext <;> simp <;> omega,by omega,by omega⟩
      have hs:=jCnt_succ (D:=D) (show es[i]? = some ((p:Int),(q:Int)) by rw [List.getElem?_eq_getElem hi2,hpq]) a b
      have hpo:p < D.length:=by omega
      have hqo:q < D.length:=by omega
      have gp:D.getD p 0=D[p]:=by simp [List.getD_eq_getElem?_getD,hpo]
      have gq:D.getD q 0=D[q]:=by simp [List.getD_eq_getElem?_getD,hqo]
      simp only [Int.toNat_natCast,gp,gq] at hs
      have hc:jCnt D (es.take i) a b≤1000:=by
        have q1:=List.count_le_length (a:=(a,b)) (l:=keysJ D (es.take i))
        simp only [keysJ,List.length_map,List.length_take] at q1
        simp only [jCnt,keysJ]
        omega
      have w2:IntKind.i64.wrap ((jCnt D (es.take i) a b:Int)+1)=((jCnt D (es.take i) a b+1:Nat):Int):=wrapS (by omega)
      generalize jCnt D (es.take i) a b=k at hs hc w2
      rw [hs] at hn
      have m1:(if D[q] < D[p] then D[q] else D[p])=min D[p] D[q]:=by omega
      have m2:(if D[p] < D[q] then D[q] else D[p])=max D[p] D[q]:=by omega
      by_cases h1:min D[p] D[q]=a
      · by_cases h2:max D[p] D[q]=b
        · rw [if_pos ⟨h1,h2⟩] at hn
          refine wp_loop ?_
          repeat (first|apply wp_as|apply wp_ss|refine wr (by simp [hi2,w1,w2,hpq,hpo,hqo,m1,m2,h1,h2];with_reducible rfl) ?_|refine wq (by simp [hi2,w1,w2,hpq,hpo,hqo,m1,m2,h1,h2];with_reducible rfl) ?_|refine wt (by simpa [hi2,w1,w2,hpq,hpo,hqo,m1,m2,h1,h2]) ?_|refine wf (by simpa [hi2,w1,w2,hpq,hpo,hqo,m1,m2,h1,h2]) ?_|refine xt (by simpa [hi2,w1,w2,hpq,hpo,hqo,m1,m2,h1,h2]) ?_|refine xf (by simpa [hi2,w1,w2,hpq,hpo,hqo,m1,m2,h1,h2]) ?_|apply wp_bs|apply wp_b|refine wp_sr ?_|refine wp_sx ?_|refine wp_ret' ?_|refine wp_skip' ?_|refine wp_exit' ?_)
          exact hn
        · rw [if_neg (fun h=>h2 h.2)] at hn
          refine wp_loop ?_
          repeat (first|apply wp_as|apply wp_ss|refine wr (by simp [hi2,w1,w2,hpq,hpo,hqo,m1,m2,h1,h2];with_reducible rfl) ?_|refine wq (by simp [hi2,w1,w2,hpq,hpo,hqo,m1,m2,h1,h2];with_reducible rfl) ?_|refine wt (by simpa [hi2,w1,w2,hpq,hpo,hqo,m1,m2,h1,h2]) ?_|refine wf (by simpa [hi2,w1,w2,hpq,hpo,hqo,m1,m2,h1,h2]) ?_|refine xt (by simpa [hi2,w1,w2,hpq,hpo,hqo,m1,m2,h1,h2]) ?_|refine xf (by simpa [hi2,w1,w2,hpq,hpo,hqo,m1,m2,h1,h2]) ?_|apply wp_bs|apply wp_b|refine wp_sr ?_|refine wp_sx ?_|refine wp_ret' ?_|refine wp_skip' ?_|refine wp_exit' ?_)
          exact hn
      · rw [if_neg (fun h=>h1 h.1)] at hn
        refine wp_loop ?_
        repeat (first|apply wp_as|apply wp_ss|refine wr (by simp [hi2,w1,w2,hpq,hpo,hqo,m1,m2,h1];with_reducible rfl) ?_|refine wq (by simp [hi2,w1,w2,hpq,hpo,hqo,m1,m2,h1];with_reducible rfl) ?_|refine wt (by simpa [hi2,w1,w2,hpq,hpo,hqo,m1,m2,h1]) ?_|refine wf (by simpa [hi2,w1,w2,hpq,hpo,hqo,m1,m2,h1]) ?_|refine xt (by simpa [hi2,w1,w2,hpq,hpo,hqo,m1,m2,h1]) ?_|refine xf (by simpa [hi2,w1,w2,hpq,hpo,hqo,m1,m2,h1]) ?_|apply wp_bs|apply wp_b|refine wp_sr ?_|refine wp_sx ?_|refine wp_ret' ?_|refine wp_skip' ?_|refine wp_exit' ?_)
        exact hn
  have hlo:=loop es.length 0 (by simp)
  rw [List.take_zero] at hlo
  have h0:jCnt D [] a b=0:=rfl
  rw [h0] at hlo
  refine call_of_wp zt133 rfl ?_
  repeat (first|apply wp_as|apply wp_ss|refine wr (by simp;with_reducible rfl) ?_|refine wq (by simp;with_reducible rfl) ?_|refine wt (by simpa) ?_|refine wf (by simpa) ?_|refine xt (by simpa) ?_|refine xf (by simpa) ?_|apply wp_bs|apply wp_b|refine wp_sr ?_|refine wp_sx ?_|refine wp_ret' ?_|refine wp_skip' ?_|refine wp_exit' ?_)
  refine wp_imp hlo ?_
  rintro ex st ⟨rfl,rfl⟩
  repeat (first|apply wp_as|apply wp_ss|refine wr (by simp;with_reducible rfl) ?_|refine wq (by simp;with_reducible rfl) ?_|refine wt (by simpa) ?_|refine wf (by simpa) ?_|refine xt (by simpa) ?_|refine xf (by simpa) ?_|apply wp_bs|apply wp_b|refine wp_sr ?_|refine wp_sx ?_|refine wp_ret' ?_|refine wp_skip' ?_|refine wp_exit' ?_)
  simp [zi133]
def jRow (D:List Int) (es:List (Int×Int)) (a:Nat):Nat→Nat→List (Int×Int×Int)
  | 0,_=>[]
  | m+1,b=>(if 0 < jCnt D es a b then [((a:Int),(b:Int),(jCnt D es a b:Int))] else [])++jRow D es a m (b+1)
def jAll (D:List Int) (es:List (Int×Int)):Nat→Nat→List (Int×Int×Int)
  | 0,_=>[]
  | m+1,a=>jRow D es a (m+1) a++jAll D es m (a+1)
def jS (n:Nat) (es:List (Int×Int)):List (Int×Int×Int):=jAll (degs n es) es (n - 1) 1
theorem jRow_len (D:List Int) (es:List (Int×Int)) (a:Nat):∀ m b,(jRow D es a m b).length≤m
  | 0,_=>Nat.le_refl _
  | m+1,b=>by
    have:=jRow_len D es a m (b+1)
    rw [jRow,List.length_append]
    split <;> simp <;> omega
theorem ev_jointOf (n:Nat) (es:List (Int×Int)) (c:Bool) (hn:n≤900) (hl:es.length≤1000) (he:EdgesIn n es) :
    Ev tb zl134 [] [Gr n es c] [] ⟨O3 (jS n es),[],[],[]⟩:=by
  have hD:(degs n es).length=n:=degs_len n es
  have e0:=ev_lim (ev_degrees n es c (by omega) hl he)
  obtain ⟨D,hDe⟩:∃ D,D=degs n es:=⟨_,rfl⟩
  rw [← hDe] at e0 hD
  have e1:=fun a b c2=>ev_lim (ev_jointCount n es D a b c c2 hl hD he)
  have loop1:∀ (m a b:Nat) (acc:List (Int×Int×Int)),b+m=n→a≤n→acc.length+m≤1000000 →
      wp tb (.loop z134l11) { T:=[(1,.bptr 0 0 0),(3,O D),(4,O3 acc),(5,I a),(6,I b)],loc:=[[I n,L2 es c]],M:=[] }
      (fun ex st=>ex=.exit 2∧st={ T:=[(1,.bptr 0 0 0),(3,O D),(4,O3 (acc++jRow D es a m b)),(5,I a),(6,I n),(21,Bo false)],loc:=[[I n,L2 es c]],M:=[] }):=by
    intro m
    induction m with
    | zero =>
      intro a b acc hb ha hacc
      have h3:b=n:=hb
      subst h3
      refine wp_loop ?_
      repeat (first|apply wp_as|apply wp_ss|refine wr (by simp;with_reducible rfl) ?_|refine wq (by simp;with_reducible rfl) ?_|refine wt (by simpa) ?_|refine wf (by simpa) ?_|refine xt (by simpa) ?_|refine xf (by simpa) ?_|apply wp_bs|apply wp_b|refine wp_sr ?_|refine wp_sx ?_|refine wp_ret' ?_|refine wp_skip' ?_|refine wp_exit' ?_)
      simp [jRow]
    | succ m ih =>
      intro a b acc hb ha hacc
      have hbn:b < n:=by omega
      have w1:IntKind.i64.wrap ((b:Int)+1)=((b+1:Nat):Int):=wrapS (by omega)
      by_cases h0:0 < jCnt D es a b
      · have hcap:acc.length≤274877906943:=by omega
        have hn:=ih a (b+1) (acc++[((a:Int),(b:Int),(jCnt D es a b:Int))]) (by omega) ha (by simp;omega)
        rw [List.append_assoc] at hn
        have hr:[((a:Int),(b:Int),(jCnt D es a b:Int))]++jRow D es a m (b+1)=jRow D es a (m+1) b:=by rw [jRow,if_pos h0]
        rw [hr] at hn
        refine wp_loop ?_
        repeat (first|apply wp_as|apply wp_ss|refine wr (by simp [hbn,w1,e1,h0,hcap];with_reducible rfl) ?_|refine wq (by simp [hbn,w1,e1,h0,hcap];with_reducible rfl) ?_|refine wt (by simpa [hbn,w1,e1,h0,hcap]) ?_|refine wf (by simpa [hbn,w1,e1,h0,hcap]) ?_|refine xt (by simpa [hbn,w1,e1,h0,hcap]) ?_|refine xf (by simpa [hbn,w1,e1,h0,hcap]) ?_|apply wp_bs|apply wp_b|refine wp_sr ?_|refine wp_sx ?_|refine wp_ret' ?_|refine wp_skip' ?_|refine wp_exit' ?_)
        exact hn
      · have hn:=ih a (b+1) acc (by omega) ha (by omega)
        have hr:jRow D es a m (b+1)=jRow D es a (m+1) b:=by rw [jRow,if_neg h0,List.nil_append]
        rw [hr] at hn
        refine wp_loop ?_
        repeat (first|apply wp_as|apply wp_ss|refine wr (by simp [hbn,w1,e1,h0];with_reducible rfl) ?_|refine wq (by simp [hbn,w1,e1,h0];with_reducible rfl) ?_|refine wt (by simpa [hbn,w1,e1,h0]) ?_|refine wf (by simpa [hbn,w1,e1,h0]) ?_|refine xt (by simpa [hbn,w1,e1,h0]) ?_|refine xf (by simpa [hbn,w1,e1,h0]) ?_|apply wp_bs|apply wp_b|refine wp_sr ?_|refine wp_sx ?_|refine wp_ret' ?_|refine wp_skip' ?_|refine wp_exit' ?_)
        exact hn
  have loop2:∀ (m a:Nat) (acc:List (Int×Int×Int)),a+m=n→acc.length+1000 * m≤1000000 →
      wp tb (.loop z134l13) { T:=[(1,.bptr 0 0 0),(3,O D),(4,O3 acc),(5,I a)],loc:=[[I n,L2 es c]],M:=[] }
      (fun ex st=>ex=.exit 0∧∃ a':Int,st={ T:=[(1,.bptr 0 0 0),(3,O D),(4,O3 (acc++jAll D es m a)),(5,I a'),(14,Bo false)],loc:=[[I n,L2 es c]],M:=[] }):=by
    intro m
    induction m with
    | zero =>
      intro a acc ha hacc
      have h3:a=n:=ha
      subst h3
      refine wp_loop ?_
      repeat (first|apply wp_as|apply wp_ss|refine wr (by simp;with_reducible rfl) ?_|refine wq (by simp;with_reducible rfl) ?_|refine wt (by simpa) ?_|refine wf (by simpa) ?_|refine xt (by simpa) ?_|refine xf (by simpa) ?_|apply wp_bs|apply wp_b|refine wp_sr ?_|refine wp_sx ?_|refine wp_ret' ?_|refine wp_skip' ?_|refine wp_exit' ?_)
      exact ⟨rfl,_,by simp [jAll];rfl⟩
    | succ m ih =>
      intro a acc ha hacc
      have han:a < n:=by omega
      have w1:IntKind.i64.wrap ((a:Int)+1)=((a+1:Nat):Int):=wrapS (by omega)
      have hin:=loop1 (m+1) a a acc (by omega) (by omega) (by omega)
      have hrl:=jRow_len D es a (m+1) a
      have hn:=ih (a+1) (acc++jRow D es a (m+1) a) (by omega) (by rw [List.length_append];omega)
      rw [List.append_assoc] at hn
      have hr:jRow D es a (m+1) a++jAll D es m (a+1)=jAll D es (m+1) a:=rfl
      rw [hr] at hn
      refine wp_loop ?_
      repeat (first|apply wp_as|apply wp_ss|refine wr (by simp [han,w1];with_reducible rfl) ?_|refine wq (by simp [han,w1];with_reducible rfl) ?_|refine wt (by simpa [han,w1]) ?_|refine wf (by simpa [han,w1]) ?_|refine xt (by simpa [han,w1]) ?_|refine xf (by simpa [han,w1]) ?_|apply wp_bs|apply wp_b|refine wp_sr ?_|refine wp_sx ?_|refine wp_ret' ?_|refine wp_skip' ?_|refine wp_exit' ?_)
      refine wp_imp hin ?_
      rintro ex st ⟨rfl,rfl⟩
      simp only [if_true]
      repeat (first|apply wp_as|apply wp_ss|refine wr (by simp [w1];with_reducible rfl) ?_|refine wq (by simp [w1];with_reducible rfl) ?_|refine wt (by simpa [w1]) ?_|refine wf (by simpa [w1]) ?_|refine xt (by simpa [w1]) ?_|refine xf (by simpa [w1]) ?_|apply wp_bs|apply wp_b|refine wp_sr ?_|refine wp_sx ?_|refine wp_ret' ?_|refine wp_skip' ?_|refine wp_exit' ?_)
      exact hn
  refine call_of_wp zt134 rfl ?_
  repeat (first|apply wp_as|apply wp_ss|refine wr (by simp [e0];with_reducible rfl) ?_|refine wq (by simp [e0];with_reducible rfl) ?_|refine wt (by simpa [e0]) ?_|refine wf (by simpa [e0]) ?_|refine xt (by simpa [e0]) ?_|refine xf (by simpa [e0]) ?_|apply wp_bs|apply wp_b|refine wp_sr ?_|refine wp_sx ?_|refine wp_ret' ?_|refine wp_skip' ?_|refine wp_exit' ?_)
  by_cases h1:n=0
  · subst h1
    have hj:jS 0 es=[]:=rfl
    rw [hj]
    refine wp_loop ?_
    repeat (first|apply wp_as|apply wp_ss|refine wr (by simp;with_reducible rfl) ?_|refine wq (by simp;with_reducible rfl) ?_|refine wt (by simpa) ?_|refine wf (by simpa) ?_|refine xt (by simpa) ?_|refine xf (by simpa) ?_|apply wp_bs|apply wp_b|refine wp_sr ?_|refine wp_sx ?_|refine wp_ret' ?_|refine wp_skip' ?_|refine wp_exit' ?_)
    simp [zi134]
  have hlo:=loop2 (n - 1) 1 [] (by omega) (by simp;omega)
  rw [List.nil_append] at hlo
  refine wp_imp hlo ?_
  rintro ex st ⟨rfl,a',rfl⟩
  simp only [if_true]
  repeat (first|apply wp_as|apply wp_ss|refine wr (by simp;with_reducible rfl) ?_|refine wq (by simp;with_reducible rfl) ?_|refine wt (by simpa) ?_|refine wf (by simpa) ?_|refine xt (by simpa) ?_|refine xf (by simpa) ?_|apply wp_bs|apply wp_b|refine wp_sr ?_|refine wp_sx ?_|refine wp_ret' ?_|refine wp_skip' ?_|refine wp_exit' ?_)
  simp [zi134,jS,hDe]
end Go.Idl
namespace Go.Idl
open Go
def decAt (o:List Int) (i:Nat):List Int:=o.set i (o.getD i 0 - 1)
def subs:List (Int×Int)→List Int→List (Int×Int)→List (List (Int×Int))
  | [],left,chosen=>if left.all (fun x=>decide (x=0)) then [chosen] else []
  | e::r,left,chosen =>
    (if 0 < left.getD e.1.toNat 0∧0 < left.getD e.2.toNat 0 then subs r (decAt (decAt left e.1.toNat) e.2.toNat) (chosen++[e]) else [])++subs r left chosen
end Go.Idl
namespace Go.Idl
def insP (x:Nat×Nat):List (Nat×Nat)→List (Nat×Nat)
  | []=>[x]
  | y::r=>if Nat.ble y.1 x.1 then x::y::r else y::insP x r
def hh:Nat→List (Nat×Nat)→List (Nat×Nat)
  | 0,_=>[]
  | _+1,[]=>[]
  | m+1,x::r=>(r.take x.1).map (fun y:Nat×Nat=>(x.2,y.2))++hh m ((((r.take x.1).map (fun y:Nat×Nat=>(y.1 - 1,y.2))++r.drop x.1:List (Nat×Nat))).foldr insP [])
theorem inc_nonneg (v:Nat) (e:Int×Int):0≤inc v e:=by simp only [inc];split <;> split <;> decide
def mk (u v:Nat):Int×Int:=(min (u:Int) v,max (u:Int) v)
end Go.Idl
namespace Go.Idl
def prJ:List (Int×Int):=[(1,1),(1,2),(1,3),(1,4),(1,5),(1,6),(2,2),(2,3),(2,4),(2,5),(2,6),(3,3),(3,4),(3,5),(3,6),(4,4),(4,5),(4,6),(5,5),(5,6),(6,6)]
def okP (s:List Int) (k:Int×Int):Bool:=if k.1=k.2 then decide (2≤s.count k.1) else decide (1≤s.count k.1) && decide (1≤s.count k.2)
def chkJ (s:List Int):Bool:=!(decide (s.sum % 2=0) && noneNeg (slS s)) || decide (s.sum≤25) || decide ((prJ.filter (okP s)).length≤12)
set_option maxRecDepth 100000 in
theorem chkJ_all:(List.range 8).all (fun n=>allD chkJ n (n - 1) [])=true:=by kernel_rfl
theorem okP_perm {s t:List Int} (h:s.Perm t) (k:Int×Int):okP s k=okP t k:=by
  simp only [okP,h.count_eq]
theorem few_pairs {d:List Int} (hg:graphic d=true):d.sum≤25 ∨ (prJ.filter (okP d)).length≤12:=by
  have hv:valid d=true:=by simp only [graphic,Bool.and_eq_true] at hg;exact hg.1.1
  have h1:=(valid_few hv).1
  have h2:=valid_mem hv
  have hc:=List.all_eq_true.1 chkJ_all d.length (List.mem_range.2 (by omega))
  have h3:=allD_ok chkJ d.length (d.length - 1) [] (fall d) hc (fall_len d) (fall_desc d) (fun x hx=>by
    have:=h2 x (fall_mem.1 hx)
    omega)
  simp only [graphic,hv,Bool.true_and,Bool.and_eq_true,decide_eq_true_eq] at hg
  have hg2:noneNeg (slS (fall d))=true:=by rw [← slacks_S];exact hg.2
  simp only [List.reverse_nil,List.nil_append,chkJ,fall_sum,hg.1,hg2,decide_true,Bool.and_self,Bool.not_true,Bool.false_or,Bool.or_eq_true,decide_eq_true_eq] at h3
  have he:prJ.filter (okP (fall d))=prJ.filter (okP d):=List.filter_congr fun k _=>okP_perm (fall_perm d) k
  rcases h3 with h3 | h3
  · exact .inl h3
  · rw [← he]
    exact .inr (of_decide_eq_true h3)
theorem deg_at {n:Nat} {es:List (Int×Int)} (h:vGraph n es=true) {e:Int×Int} (he:e ∈ es):(degs n es).length=n∧0≤e.1∧e.1 < e.2∧e.2 < n∧1≤(degs n es).getD e.1.toNat 0∧1≤(degs n es).getD e.2.toNat 0:=by
  obtain ⟨h1,h2,hn⟩:=vG_iff.1 h
  have hp:=mem_prs.1 (h2 e he)
  have hE:EdgesIn n es:=fun e he=>by have:=mem_prs.1 (h2 e he);omega
  have hpos:∀ v:Nat,v < n→inc v e=1→1≤(degs n es).getD v 0:=fun v hv hi=>by
    have hg:(degs n es).getD v 0=S es (inc v):=by
      rw [degs_eq hE,List.getD_eq_getElem?_getD,List.getElem?_map,List.getElem?_range hv]
      rfl
    rw [hg]
    obtain ⟨a,b,rfl⟩:=List.append_of_mem he
    rw [S_app,S_cons]
    have q1:=S_nonneg (l:=a) (f:=inc v) fun e _=>inc_nonneg v e
    have q2:=S_nonneg (l:=b) (f:=inc v) fun e _=>inc_nonneg v e
    omega
  refine ⟨degs_len n es,hp.1,hp.2.1,hp.2.2,hpos _ (by omega) ?_,hpos _ (by omega) ?_⟩
  · simp only [inc]
    rw [if_pos (by omega),if_neg (by omega)];rfl
  · simp only [inc]
    rw [if_neg (by omega),if_pos (by omega)];rfl
theorem count_two {l:List Int} {u v:Nat} {x:Int} (huv:u < v) (hu:l[u]? = some x) (hv:l[v]? = some x):2≤l.count x:=by
  have hul:u < l.length:=(List.getElem?_eq_some_iff.1 hu).1
  have hsplit:l=l.take (u+1)++l.drop (u+1):=(List.take_append_drop _ _).symm
  rw [hsplit,List.count_append]
  have h1:x ∈ l.take (u+1):=List.mem_iff_getElem?.2 ⟨u,by rw [List.getElem?_take_of_lt (by omega)];exact hu⟩
  have h2:x ∈ l.drop (u+1):=List.mem_iff_getElem?.2 ⟨v - (u+1),by rw [List.getElem?_drop];rw [show u+1+(v - (u+1))=v by omega];exact hv⟩
  have:=List.one_le_count_iff.2 h1
  have:=List.one_le_count_iff.2 h2
  omega
theorem getDJ {l:List Int} {u:Nat} (h:u < l.length):l[u]? = some (l.getD u 0):=by
  rw [List.getD_eq_getElem?_getD,List.getElem?_eq_getElem h];rfl
theorem mem_prJ {a b:Int} (h1:1≤a) (h2:a≤b) (h3:b≤6):(a,b) ∈ prJ:=by
  have ha:a=1 ∨ a=2 ∨ a=3 ∨ a=4 ∨ a=5 ∨ a=6:=by omega
  have hb:b=1 ∨ b=2 ∨ b=3 ∨ b=4 ∨ b=5 ∨ b=6:=by omega
  rcases ha with rfl | rfl | rfl | rfl | rfl | rfl <;> rcases hb with rfl | rfl | rfl | rfl | rfl | rfl <;> first | (exfalso;omega) | decide
theorem keys_ok {n:Nat} {es:List (Int×Int)} (h:vGraph n es=true) {k:Int×Int} (hk:k ∈ keysJ (degs n es) es):1≤k.1∧k.1≤k.2∧k.2 < n∧okP (degs n es) k=true:=by
  obtain ⟨e,he,rfl⟩:=List.mem_map.1 hk
  obtain ⟨hl,p1,p2,p3,q1,q2⟩:=deg_at h he
  have hg:=degs_graphic h
  have hv:valid (degs n es)=true:=by simp only [graphic,Bool.and_eq_true] at hg;exact hg.1.1
  have hm:=valid_mem hv
  rw [hl] at hm
  have g1:=getDJ (l:=degs n es) (u:=e.1.toNat) (by omega)
  have g2:=getDJ (l:=degs n es) (u:=e.2.toNat) (by omega)
  have m1:=hm _ (List.mem_of_getElem? g1)
  have m2:=hm _ (List.mem_of_getElem? g2)
  generalize (degs n es).getD e.1.toNat 0=x at q1 g1 m1
  generalize (degs n es).getD e.2.toNat 0=y at q2 g2 m2
  refine ⟨by simp only;omega,by simp only;omega,by simp only;omega,?_⟩
  have c1:=List.one_le_count_iff.2 (List.mem_of_getElem? g1)
  have c2:=List.one_le_count_iff.2 (List.mem_of_getElem? g2)
  simp only [okP]
  by_cases hxy:x=y
  · subst hxy
    rw [if_pos (by omega),decide_eq_true_eq,Int.min_self]
    exact count_two (u:=e.1.toNat) (v:=e.2.toNat) (by omega) g1 g2
  · rw [if_neg (by omega),Bool.and_eq_true,decide_eq_true_eq,decide_eq_true_eq]
    rcases Int.lt_or_lt_of_ne hxy with hlt | hlt
    · rw [Int.min_eq_left (by omega),Int.max_eq_right (by omega)];exact ⟨c1,c2⟩
    · rw [Int.min_eq_right (by omega),Int.max_eq_left (by omega)];exact ⟨c2,c1⟩
theorem keys_few {n:Nat} {es:List (Int×Int)} (h:vGraph n es=true):(cntK (keysJ (degs n es) es)).length≤12:=by
  obtain ⟨h1,h2,hn⟩:=vG_iff.1 h
  have hnd:=nodup_eraseDupsJ _ (keysJ (degs n es) es) (Nat.le_refl _)
  have hlen:(cntK (keysJ (degs n es) es)).length=(keysJ (degs n es) es).eraseDups.length:=List.length_map _
  rw [hlen]
  rcases few_pairs (degs_graphic h) with hs | hp
  · have hds:=degs_sum h2
    have:=subLenJ _ (keysJ (degs n es) es) hnd (fun x hx=>List.mem_eraseDups.1 hx)
    have hl:(keysJ (degs n es) es).length=es.length:=List.length_map _
    omega
  · refine Nat.le_trans (subLenJ _ _ hnd fun k hk=>?_) hp
    have hk:=List.mem_eraseDups.1 hk
    obtain ⟨q1,q2,q3,q4⟩:=keys_ok h hk
    exact List.mem_filter.2 ⟨mem_prJ q1 q2 (by omega),q4⟩
theorem mem_cntK {ks:List (Int×Int)} {x:Int×Int×Int}:x ∈ cntK ks ↔ ∃ k ∈ ks,x=(k.1,k.2,(ks.count k:Int)):=by
  rw [cntK,List.mem_map]
  constructor
  · rintro ⟨k,hk,rfl⟩;exact ⟨k,List.mem_eraseDups.1 hk,rfl⟩
  · rintro ⟨k,hk,rfl⟩;exact ⟨k,List.mem_eraseDups.2 hk,rfl⟩
theorem cntK_nodup (ks:List (Int×Int)):(cntK ks).Nodup:=by
  rw [cntK,List.Nodup,List.pairwise_map]
  refine (nodup_eraseDupsJ _ ks (Nat.le_refl _)).imp fun {a b} hne he=>hne ?_
  simp only [Prod.mk.injEq] at he
  exact Prod.ext he.1 he.2.1
theorem jRow_mem {D:List Int} {es:List (Int×Int)} {a:Nat} {x:Int×Int×Int}:∀ {m b:Nat},x ∈ jRow D es a m b ↔ ∃ b':Nat,b≤b'∧b' < b+m∧0 < jCnt D es a b'∧x=((a:Int),(b':Int),(jCnt D es a b':Int))
  | 0,b=>by
    simp only [jRow,List.not_mem_nil,false_iff]
    rintro ⟨b',h1,h2,-⟩
    omega
  | m+1,b=>by
    rw [jRow,List.mem_append,jRow_mem]
    constructor
    · rintro (h | ⟨b',h1,h2,h3,h4⟩)
      · by_cases h0:0 < jCnt D es a b
        · rw [if_pos h0,List.mem_singleton] at h
          exact ⟨b,Nat.le_refl _,by omega,h0,h⟩
        · rw [if_neg h0] at h;cases h
      · exact ⟨b',by omega,by omega,h3,h4⟩
    · rintro ⟨b',h1,h2,h3,h4⟩
      by_cases hb:b'=b
      · subst hb
        rw [if_pos h3]
        exact .inl (by rw [h4];simp)
      · exact .inr ⟨b',by omega,by omega,h3,h4⟩
theorem jAll_mem {D:List Int} {es:List (Int×Int)} {x:Int×Int×Int}:∀ {m a:Nat},x ∈ jAll D es m a ↔ ∃ a' b':Nat,a≤a'∧a'≤b'∧b' < a+m∧0 < jCnt D es a' b'∧x=((a':Int),(b':Int),(jCnt D es a' b':Int))
  | 0,a=>by
    simp only [jAll,List.not_mem_nil,false_iff]
    rintro ⟨a',b',h1,h2,h3,-⟩
    omega
  | m+1,a=>by
    rw [jAll,List.mem_append,jRow_mem,jAll_mem]
    constructor
    · rintro (⟨b',h1,h2,h3,h4⟩ | ⟨a',b',h1,h2,h3,h4,h5⟩)
      · exact ⟨a,b',Nat.le_refl _,h1,h2,h3,h4⟩
      · exact ⟨a',b',by omega,h2,by omega,h4,h5⟩
    · rintro ⟨a',b',h1,h2,h3,h4,h5⟩
      by_cases ha:a'=a
      · subst ha
        exact .inl ⟨b',h2,h3,h4,h5⟩
      · exact .inr ⟨a',b',by omega,h2,by omega,h4,h5⟩
theorem jRow_pw (D:List Int) (es:List (Int×Int)) (a:Nat):∀ m b,(jRow D es a m b).Pairwise (fun x y=>jlt x y=true)
  | 0,b=>.nil
  | m+1,b=>by
    rw [jRow,List.pairwise_append]
    refine ⟨by split <;> simp,jRow_pw D es a m (b+1),fun x hx y hy=>?_⟩
    obtain ⟨b',h1,h2,h3,rfl⟩:=jRow_mem.1 hy
    by_cases h0:0 < jCnt D es a b
    · rw [if_pos h0,List.mem_singleton] at hx
      subst hx
      simp only [jlt,Bool.or_eq_true,Bool.and_eq_true,decide_eq_true_eq]
      exact .inr ⟨trivial,by show (b:Int) < (b':Int);omega⟩
    · rw [if_neg h0] at hx;cases hx
theorem jAll_pw (D:List Int) (es:List (Int×Int)):∀ m a,(jAll D es m a).Pairwise (fun x y=>jlt x y=true)
  | 0,a=>.nil
  | m+1,a=>by
    rw [jAll,List.pairwise_append]
    refine ⟨jRow_pw D es a _ _,jAll_pw D es m (a+1),fun x hx y hy=>?_⟩
    obtain ⟨b',h1,h2,h3,rfl⟩:=jRow_mem.1 hx
    obtain ⟨a',b'',g1,g2,g3,g4,rfl⟩:=jAll_mem.1 hy
    simp only [jlt,Bool.or_eq_true,Bool.and_eq_true,decide_eq_true_eq]
    exact .inl (by show (a:Int) < (a':Int);omega)
theorem srtJ_jS {n:Nat} {es:List (Int×Int)} (h:vGraph n es=true) {π:List (Int×Int×Int)} (hp:π.Perm (cntK (keysJ (degs n es) es))):srtJ π=jS n es:=by
  obtain ⟨hs,hsp⟩:=srtC_ok (lt:=jlt) jlt_ht (fun a b h=>jlt_asymm h) π [] .nil
  rw [List.nil_append] at hsp
  have hP:(srtJ π).Perm (cntK (keysJ (degs n es) es)):=hsp.trans hp
  have hnd:(srtJ π).Nodup:=hP.nodup_iff.2 (cntK_nodup _)
  have h1:(srtJ π).Pairwise (fun x y=>jlt x y=true):=by
    have hs':(srtJ π).Pairwise (fun x y=>jlt y x=false):=hs
    refine List.Pairwise.imp_of_mem (fun {x y} hx hy hxy=>?_) (hs'.and hnd)
    obtain ⟨k,hk,rfl⟩:=mem_cntK.1 (hP.mem_iff.1 hx)
    obtain ⟨k',hk',rfl⟩:=mem_cntK.1 (hP.mem_iff.1 hy)
    obtain ⟨q1,q2⟩:=hxy
    rw [← Bool.not_eq_true] at q1
    simp only [jlt,Bool.or_eq_true,Bool.and_eq_true,decide_eq_true_eq] at q1 ⊢
    by_cases hkk:k=k'
    · subst hkk;exact absurd rfl q2
    · have:¬ (k.1=k'.1∧k.2=k'.2):=fun e=>hkk (Prod.ext e.1 e.2)
      omega
  have h2:(jS n es).Pairwise (fun x y=>jlt x y=true):=jAll_pw _ _ _ _
  have hnd2:(jS n es).Nodup:=h2.imp fun {a b} hab e=>by
    subst e
    have:=jlt_asymm hab
    rw [hab] at this;cases this
  refine List.Perm.eq_of_pairwise (le:=fun a b=>jlt a b=true) (fun a b _ _ q1 q2=>by rw [jlt_asymm q1] at q2;cases q2) h1 h2 ?_
  rw [List.perm_ext_iff_of_nodup hnd hnd2]
  intro x
  rw [hP.mem_iff,mem_cntK]
  constructor
  · rintro ⟨k,hk,rfl⟩
    obtain ⟨q1,q2,q3,-⟩:=keys_ok h hk
    have hc:0 < (keysJ (degs n es) es).count k:=List.count_pos_iff.2 hk
    have hk1:((k.1.toNat:Nat):Int)=k.1:=by omega
    have hk2:((k.2.toNat:Nat):Int)=k.2:=by omega
    refine jAll_mem.2 ⟨k.1.toNat,k.2.toNat,by omega,by omega,by omega,?_,?_⟩
    · rw [hk1,hk2];exact hc
    · rw [hk1,hk2];rfl
  · intro hx
    obtain ⟨a',b',h1,h2,h3,h4,rfl⟩:=jAll_mem.1 hx
    exact ⟨((a':Int),(b':Int)),List.count_pos_iff.1 h4,rfl⟩
end Go.Idl
