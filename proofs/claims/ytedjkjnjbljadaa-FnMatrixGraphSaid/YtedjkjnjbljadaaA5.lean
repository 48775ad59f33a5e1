/- Part 5 of a proof by an ideal interpreter of the code: its definitions and lemmas. Conditions: none. -/
import Derived.KernelRfl
import Derived.Test.YtedjkjnjbljadaaA4
set_option linter.all false
set_option linter.unusedVariables false
set_option linter.unusedSimpArgs false
namespace Go.Idl
open Go
theorem ev_in (n lo hi:Int):Ev tb zl38 [] [I n,I lo,I hi] [] ⟨Bo (decide (lo≤n) && decide (n≤hi)),[],[],[]⟩:=by
  refine call_of_wp zt38 rfl ?_
  refine wp_rs (by simp;rfl) (by simp;rfl) ?_
  by_cases h:lo≤n
  · refine wp_rs (by simp [h];rfl) (by simp;rfl) ?_
    refine wp_ret' ?_
    simp [h,zi38]
  · refine wp_rs (by simp [h];rfl) (by simp;rfl) ?_
    refine wp_ret' ?_
    simp [h,zi38]
theorem ev_inRange (n lo hi:Int):Ev tb zl132 [] [I n,I lo,I hi] [] ⟨Bo (decide (lo≤n) && decide (n≤hi)),[],[],[]⟩:=by
  refine call_of_wp zt132 rfl ?_
  refine wp_rs (by simp;rfl) (by simp;rfl) ?_
  by_cases h:lo≤n
  · refine wp_rs (by simp [h];rfl) (by simp;rfl) ?_
    refine wp_ret' ?_
    simp [h,zi132]
  · refine wp_rs (by simp [h];rfl) (by simp;rfl) ?_
    refine wp_ret' ?_
    simp [h,zi132]
def SmallSum (xs:List Int):Prop:=xs.length≤2000000∧∀ k,-4611686018427387904≤(xs.take k).sum∧(xs.take k).sum≤4611686018427387904
theorem sum_take_succ {xs:List Int} {i:Nat} (h:i < xs.length):(xs.take i).sum+xs[i]=(xs.take (i+1)).sum:=by
  rw [List.take_succ_eq_append_getElem h,List.sum_append];simp
theorem ev_sum (xs:List Int) (c:Bool) (hs:SmallSum xs):Ev tb zl40 [] [.lst 1 (ints xs) c] [] ⟨I xs.sum,[],[],[]⟩:=by
  obtain ⟨hl,hs⟩:=hs
  have loop:∀ (m i:Nat),i+m=xs.length→wp tb (.loop z40l7) { T:=[(0,.lst 1 (ints xs) c),(3,I (xs.take i).sum),(6,.lst 1 (ints xs) c),(7,I xs.length),(8,I i)],loc:=[],M:=[] }
      (fun ex st=>ex=.exit 0∧st={ T:=[(0,.lst 1 (ints xs) c),(3,I xs.sum),(6,.lst 1 (ints xs) c),(7,I xs.length),(8,I xs.length),(9,Bo false)],loc:=[],M:=[] }):=by
    intro m
    induction m with
    | zero =>
      intro i hi
      have hi':i=xs.length:=by omega
      subst hi'
      apply wp_loop
      refine wp_rs (by simp;rfl) (by simp;rfl) ?_
      refine wp_ct rfl (by simp) fun _=>wp_sx ?_
      simp
    | succ m ih =>
      intro i hi
      have hi':i < xs.length:=by omega
      have h1:=hs (i+1)
      rw [← sum_take_succ hi'] at h1
      apply wp_loop
      refine wp_rs (by simp;rfl) (by simp;rfl) ?_
      refine wp_ct rfl (fun _=>wp_ss ?_) (by simp [hi'])
      refine wp_bs ?_
      refine wp_rs (by simp [hi'];rfl) (by simp;rfl) ?_
      refine wp_reg (by simp;rfl) (by simp;rfl) ?_
      refine wp_reg (by simp;rfl) (by simp;rfl) ?_
      have:=ih (i+1) (by omega)
      rw [wrapS (by omega),wrap64 (by omega) (by omega),sum_take_succ hi']
      exact this
  refine call_of_wp zt40 rfl ?_
  refine wp_rs (by simp;rfl) (by simp;rfl) ?_
  refine wp_rs (by simp;rfl) (by simp;rfl) ?_
  refine wp_as (wp_rs (by simp;rfl) (by simp;rfl) ?_)
  refine wp_bs (wp_imp (loop xs.length 0 (by simp)) ?_)
  rintro ex st ⟨rfl,rfl⟩
  simp only [if_true]
  refine wp_rs (by simp;rfl) (by simp;rfl) ?_
  refine wp_ret' ?_
  simp [zi40]
theorem ev_Clip (xs:List Int):Ev tb zl70 [] [.own 1 (ints xs)] [] ⟨.own 1 (ints xs),[],[],[]⟩:=by
  refine call_of_wp zt70 rfl ?_
  refine wp_rs (by simp;rfl) (by simp;rfl) ?_
  refine wp_rs (by simp;rfl) (by simp;rfl) ?_
  refine wp_ret' ?_
  simp [zi70]
theorem ev_Clone (xs:List Int) (c:Bool) (hl:xs.length≤2000000):Ev tb zl71 [] [.lst 1 (ints xs) c] [] ⟨.own 1 (ints xs),[],[],[]⟩:=by
  refine call_of_wp zt71 rfl ?_
  refine wp_rs (by simp;rfl) (by simp;rfl) ?_
  refine wp_nil2 (b:=xs.isEmpty) (by simp [z71r1];rfl) (by simp) ?_ ?_ ?_ (ex:=.ret) (st':={ T:=[(2,.own 1 (ints xs))],loc:=[],M:=[] })
  · refine wp_ct (t:=false) (by simp) (by simp) fun _=>wp_ss ?_
    refine wp_rs (by simp [show xs.length≤274877906944 by omega];rfl) (by simp;rfl) ?_
    refine wp_ret' ?_
    simp
  · intro he
    have:xs=[]:=by simpa using he
    subst this
    refine wp_ct (t:=true) (by simp) (fun _=>wp_as ?_) (by simp)
    refine wp_rs (by simp;rfl) (by simp;rfl) ?_
    refine wp_sr ?_
    simp
  · simp [zi71]
theorem ev_clone (xs:List Int) (c:Bool) (hl:xs.length≤2000000) :
    Ev tb zl31 [] [.lst 1 (ints xs) c] [] ⟨.own 1 (ints xs),[],[],[]⟩:=by
  have e1:=ev_lim (ev_Clone xs c hl)
  have e2:=ev_lim (ev_Clip xs)
  refine call_of_wp zt31 rfl ?_
  refine wp_rs (by simp;rfl) (by simp;rfl) ?_
  refine wp_rs (by simp [e1,e2];rfl) (by simp;rfl) ?_
  refine wp_ret' ?_
  simp [zi31]
end Go.Idl
namespace Go.Idl
def insD (x:Int):List Int→List Int
  | []=>[x]
  | y::ys=>if x≤y then y::insD x ys else x::y::ys
def fall (xs:List Int):List Int:=xs.foldl (fun out x=>insD x out) []
abbrev Desc (xs:List Int):Prop:=xs.Pairwise (fun a b=>b≤a)
abbrev Asc (xs:List Int):Prop:=xs.Pairwise (fun a b=>a≤b)
theorem insD_perm (x:Int) (ys:List Int):(insD x ys).Perm (x::ys):=by
  induction ys with
  | nil=>exact .refl _
  | cons y ys ih =>
    unfold insD
    split
    · exact (ih.cons y).trans (.swap x y ys)
    · exact .refl _
theorem insD_desc (x:Int) (ys:List Int) (h:Desc ys):Desc (insD x ys):=by
  induction ys with
  | nil=>simp [insD]
  | cons y ys ih =>
    unfold insD
    have h:=List.pairwise_cons.1 h
    split
    · refine List.pairwise_cons.2 ⟨fun a ha=>?_,ih h.2⟩
      rcases List.mem_cons.1 ((insD_perm x ys).mem_iff.1 ha) with rfl | ha
      · assumption
      · exact h.1 a ha
    · rename_i hx
      refine List.pairwise_cons.2 ⟨fun a ha=>?_,List.pairwise_cons.2 h⟩
      rcases List.mem_cons.1 ha with rfl | ha
      · omega
      · have:=h.1 a ha;omega
theorem fall_aux (xs:List Int):∀ ys,Desc ys→Desc (xs.foldl (fun out x=>insD x out) ys)∧(xs.foldl (fun out x=>insD x out) ys).Perm (xs++ys):=by
  induction xs with
  | nil=>intro ys h;exact ⟨h,.refl _⟩
  | cons x xs ih =>
    intro ys h
    obtain ⟨h1,h2⟩:=ih (insD x ys) (insD_desc x ys h)
    refine ⟨h1,h2.trans ?_⟩
    exact ((insD_perm x ys).append_left xs).trans List.perm_middle
theorem fall_desc (xs:List Int):Desc (fall xs):=(fall_aux xs [] .nil).1
theorem fall_perm (xs:List Int):(fall xs).Perm xs:=by simpa [fall] using (fall_aux xs [] .nil).2
theorem fall_len (xs:List Int):(fall xs).length=xs.length:=(fall_perm xs).length_eq
theorem desc_unique {xs ys:List Int} (hx:Desc xs) (hy:Desc ys) (h:xs.Perm ys):xs=ys:=by
  refine List.Perm.eq_of_pairwise (le:=fun a b=>b≤a) (fun a b _ _ h1 h2=>by omega) hx hy h
theorem fall_unique {xs ys:List Int} (hy:Desc ys) (h:ys.Perm xs):ys=fall xs:=desc_unique hy (fall_desc xs) (h.trans (fall_perm xs).symm)
theorem fall_congr {xs ys:List Int} (h:xs.Perm ys):fall xs=fall ys:=fall_unique (fall_desc xs) ((fall_perm xs).trans h)
theorem perm_sum {xs ys:List Int} (h:xs.Perm ys):xs.sum=ys.sum:=by
  induction h with
  | nil=>rfl
  | cons x _ ih=>simp [ih]
  | swap x y l=>simp;omega
  | trans _ _ h1 h2=>exact h1.trans h2
theorem fall_sum (xs:List Int):(fall xs).sum=xs.sum:=perm_sum (fall_perm xs)
theorem fall_mem {xs:List Int} {x:Int}:x ∈ fall xs ↔ x ∈ xs:=(fall_perm xs).mem_iff
def insR (x:Int):List Int→List Int→List Int
  | [],B=>x::B
  | a::r,B=>if x < a then insR x r (a::B) else r.reverse++a::x::B
theorem insR_perm (x:Int):∀ (r B:List Int),(insR x r B).Perm (r.reverse++x::B)
  | [],B=>.refl _
  | a::r,B=>by
    unfold insR
    split
    · refine (insR_perm x r (a::B)).trans ?_
      rw [List.reverse_cons,List.append_assoc]
      exact List.Perm.append_left _ (.swap _ _ _)
    · rw [List.reverse_cons,List.append_assoc]
      exact .refl _
theorem insR_asc (x:Int):∀ (r B:List Int),Asc (r.reverse++B)→(∀ b ∈ B,x≤b)→Asc (insR x r B)
  | [],B,h,hb=>List.pairwise_cons.2 ⟨hb,by simpa using h⟩
  | a::r,B,h,hb=>by
    rw [List.reverse_cons,List.append_assoc] at h
    unfold insR
    split
    · rename_i hx
      refine insR_asc x r (a::B) h fun b hb'=>?_
      rcases List.mem_cons.1 hb' with rfl | hb'
      · omega
      · exact hb b hb'
    · rename_i hx
      obtain ⟨h1,h2,h3⟩:=List.pairwise_append.1 (show Asc (r.reverse++a::B) from h)
      have h2:=List.pairwise_cons.1 h2
      refine List.pairwise_append.2 ⟨h1,?_,fun p hp q hq=>?_⟩
      · refine List.pairwise_cons.2 ⟨fun q hq=>?_,List.pairwise_cons.2 ⟨hb,h2.2⟩⟩
        rcases List.mem_cons.1 hq with rfl | hq
        · omega
        · exact h2.1 q hq
      · have ha:=h3 p hp a (by simp)
        rcases List.mem_cons.1 hq with rfl | hq
        · exact ha
        · rcases List.mem_cons.1 hq with rfl | hq
          · omega
          · exact h3 p hp q (by simp [hq])
def asc:Nat→List Int→List Int→List Int
  | _,S,[]=>S
  | n,S,x::r=>asc n (insR x S.reverse []) r
theorem asc_ok:∀ (r S:List Int),Asc S→Asc (asc 0 S r)∧(asc 0 S r).Perm (S++r)
  | [],S,h=>⟨h,by simp [asc]⟩
  | x::r,S,h=>by
    obtain ⟨h1,h2⟩:=asc_ok r (insR x S.reverse []) (insR_asc x _ _ (by simpa using h) (by simp))
    refine ⟨h1,h2.trans ?_⟩
    have:=insR_perm x S.reverse []
    rw [List.reverse_reverse] at this
    refine (this.append_right r).trans ?_
    rw [List.append_assoc];exact .refl _
theorem asc_rev (xs:List Int):(asc 0 [] xs).reverse=fall xs:=by
  obtain ⟨h1,h2⟩:=asc_ok xs [] .nil
  refine fall_unique ?_ ((List.reverse_perm _).trans (by simpa using h2))
  rw [Desc,List.pairwise_reverse];exact h1
theorem asc_len (xs:List Int):(asc 0 [] xs).length=xs.length:=by simpa using (asc_ok xs [] .nil).2.length_eq
end Go.Idl
namespace Go.Idl
open Go
abbrev L (xs:List Int) (c:Bool:=false):IV:=.lst 1 (ints xs) c
abbrev O (xs:List Int):IV:=.own 1 (ints xs)
theorem ev_isNaN (n:Int):Ev tb zl4 [] [I n] [] ⟨Bo false,[],[],[]⟩:=by
  refine call_of_wp zt4 rfl ?_
  repeat (first|apply wp_as|apply wp_ss|refine wr (by simp;with_reducible rfl) ?_|refine wq (by simp;with_reducible rfl) ?_|refine wt (by simpa) ?_|refine wf (by simpa) ?_|refine xt (by simpa) ?_|refine xf (by simpa) ?_|apply wp_bs|apply wp_b|refine wp_sr ?_|refine wp_sx ?_|refine wp_ret' ?_|refine wp_skip' ?_|refine wp_exit' ?_)
  simp [zi4]
theorem ev_Less (a b:Int):Ev tb zl2 [] [I a,I b] [] ⟨Bo (decide (a < b)),[],[],[]⟩:=by
  have e1:=fun n=>ev_lim (ev_isNaN n)
  refine call_of_wp zt2 rfl ?_
  repeat (first|apply wp_as|apply wp_ss|refine wr (by simp [e1];with_reducible rfl) ?_|refine wq (by simp [e1];with_reducible rfl) ?_|refine wt (by simpa [e1]) ?_|refine wf (by simpa [e1]) ?_|refine xt (by simpa [e1]) ?_|refine xf (by simpa [e1]) ?_|apply wp_bs|apply wp_b|refine wp_sr ?_|refine wp_sx ?_|refine wp_ret' ?_|refine wp_skip' ?_|refine wp_exit' ?_)
  simp [zi2]
theorem ev_FirstFailing_F1 (n:Int) (M:List Boxes):Ev tb zl8 [] [I n] M ⟨Bo (decide (n < 0)),[],M,[]⟩:=by
  refine call_of_wp zt8 rfl ?_
  repeat (first|apply wp_as|apply wp_ss|refine wr (by simp;with_reducible rfl) ?_|refine wq (by simp;with_reducible rfl) ?_|refine wt (by simpa) ?_|refine wf (by simpa) ?_|refine xt (by simpa) ?_|refine xf (by simpa) ?_|apply wp_bs|apply wp_b|refine wp_sr ?_|refine wp_sx ?_|refine wp_ret' ?_|refine wp_skip' ?_|refine wp_exit' ?_)
  simp [zi8]
theorem app_get1 {A Z:List Int} {a x:Int}:(A++a::x::Z)[A.length+1]? = some x:=by
  rw [List.getElem?_append_right (by omega)];simp
theorem app_get0 {A Z:List Int} {a:Int}:(A++a::Z)[A.length]? = some a:=by
  rw [List.getElem?_append_right (by omega)];simp
theorem app_set {A Z:List Int} {a x:Int}:((A++a::x::Z).set (A.length+1) a).set A.length x=A++x::a::Z:=by
  rw [List.set_append_right _ _ (by omega),List.set_append_right _ _ (by omega)]
  simp
theorem insl (n i:Int) (x:Int) (rest:List Int) (M:List Boxes):∀ (k:Nat) (A B:List Int),A.length=k→k+B.length+rest.length≤2000000 →
    wp tb (.loop z86l6) { T:=[(0,O (A++x::(B++rest))),(1,I 0),(2,I n),(6,I i),(7,I k)],loc:=[],M:=M }
      (fun ex st=>ex=.exit 2∧∃ k':Int,st={ T:=[(0,O (insR x A.reverse B++rest)),(1,I 0),(2,I n),(6,I i),(7,I k'),(30,Bo false)],loc:=[],M:=M }):=by
  have e1:=fun a b=>ev_lim (ev_Less a b)
  intro k
  induction k with
  | zero =>
    intro A B hA hl
    have:A=[]:=List.length_eq_zero_iff.1 hA
    subst this
    refine wp_loop ?_
    repeat (first|apply wp_as|apply wp_ss|refine wr (by simp;with_reducible rfl) ?_|refine wq (by simp;with_reducible rfl) ?_|refine wt (by simpa) ?_|refine wf (by simpa) ?_|refine xt (by simpa) ?_|refine xf (by simpa) ?_|apply wp_bs|apply wp_b|refine wp_sr ?_|refine wp_sx ?_|refine wp_ret' ?_|refine wp_skip' ?_|refine wp_exit' ?_)
    exact ⟨rfl,_,by simp [insR];rfl⟩
  | succ k ih =>
    intro A B hA hl
    obtain ⟨A',a,rfl⟩:∃ A' a,A=A'++[a]:=⟨A.dropLast,A.getLast (by intro h;subst h;simp at hA),(List.dropLast_concat_getLast _).symm⟩
    have hA':A'.length=k:=by simpa using hA
    subst hA'
    have w1:IntKind.i64.wrap (A'.length:Int)=(A'.length:Int):=wrapN (by omega)
    have w2:(0:Int) < (A'.length:Int)+1:=by omega
    simp only [List.append_assoc,List.singleton_append]
    by_cases hx:x < a
    · refine wp_loop ?_
      repeat (first|apply wp_as|apply wp_ss|refine wr (by simp [e1,hx,w1,w2,app_get0,app_get1,app_set];with_reducible rfl) ?_|refine wq (by simp [e1,hx,w1,w2,app_get0,app_get1,app_set];with_reducible rfl) ?_|refine wt (by simpa [e1,hx,w1,w2,app_get0,app_get1,app_set]) ?_|refine wf (by simpa [e1,hx,w1,w2,app_get0,app_get1,app_set]) ?_|refine xt (by simpa [e1,hx,w1,w2,app_get0,app_get1,app_set]) ?_|refine xf (by simpa [e1,hx,w1,w2,app_get0,app_get1,app_set]) ?_|apply wp_bs|apply wp_b|refine wp_sr ?_|refine wp_sx ?_|refine wp_ret' ?_|refine wp_skip' ?_|refine wp_exit' ?_)
      have:=ih A' (a::B) rfl (by simp;omega)
      simp only [List.cons_append,List.reverse_append,List.reverse_cons,List.reverse_nil,List.nil_append] at this ⊢
      simp only [insR,hx,if_true]
      exact this
    · refine wp_loop ?_
      repeat (first|apply wp_as|apply wp_ss|refine wr (by simp [e1,hx,w1,w2,app_get0,app_get1,app_set];with_reducible rfl) ?_|refine wq (by simp [e1,hx,w1,w2,app_get0,app_get1,app_set];with_reducible rfl) ?_|refine wt (by simpa [e1,hx,w1,w2,app_get0,app_get1,app_set]) ?_|refine wf (by simpa [e1,hx,w1,w2,app_get0,app_get1,app_set]) ?_|refine xt (by simpa [e1,hx,w1,w2,app_get0,app_get1,app_set]) ?_|refine xf (by simpa [e1,hx,w1,w2,app_get0,app_get1,app_set]) ?_|apply wp_bs|apply wp_b|refine wp_sr ?_|refine wp_sx ?_|refine wp_ret' ?_|refine wp_skip' ?_|refine wp_exit' ?_)
      refine ⟨rfl,((A'.length+1:Nat):Int),?_⟩
      simp only [List.reverse_append,List.reverse_cons,List.reverse_nil,List.nil_append,List.cons_append]
      simp only [insR,hx,if_false,List.reverse_reverse,List.append_assoc,List.cons_append]
      rfl
theorem insr_len (x:Int) (S:List Int):(insR x S.reverse []).length=S.length+1:=by
  have:=(insR_perm x S.reverse []).length_eq
  simpa using this
theorem sortl (M:List Boxes) (n:Int):∀ (r S:List Int),n=(S.length+r.length:Nat)→S.length+r.length≤2000000 →
    wp tb (.loop z86l8) { T:=[(0,O (S++r)),(1,I 0),(2,I n),(6,I S.length)],loc:=[],M:=M }
      (fun ex st=>ex=.exit 0∧∃ k':Int,st={ T:=[(0,O (asc 0 S r)),(1,I 0),(2,I n),(6,I k'),(12,Bo false)],loc:=[],M:=M }):=by
  intro r
  induction r with
  | nil =>
    intro S hn hl
    refine wp_loop ?_
    have h1:¬ (S.length:Int) < n:=by simp at hn;omega
    repeat (first|apply wp_as|apply wp_ss|refine wr (by simp [h1];with_reducible rfl) ?_|refine wq (by simp [h1];with_reducible rfl) ?_|refine wt (by simpa [h1]) ?_|refine wf (by simpa [h1]) ?_|refine xt (by simpa [h1]) ?_|refine xf (by simpa [h1]) ?_|apply wp_bs|apply wp_b|refine wp_sr ?_|refine wp_sx ?_|refine wp_ret' ?_|refine wp_skip' ?_|refine wp_exit' ?_)
    exact ⟨rfl,_,by simp [asc];rfl⟩
  | cons x r ih =>
    intro S hn hl
    refine wp_loop ?_
    simp only [List.length_cons] at hn hl
    have h1:(S.length:Int) < n:=by omega
    have w1:IntKind.i64.wrap ((S.length:Int)+1)=(S.length:Int)+1:=by rw [wrap64 (by omega) (by omega)]
    repeat (first|apply wp_as|apply wp_ss|refine wr (by simp [h1,w1];with_reducible rfl) ?_|refine wq (by simp [h1,w1];with_reducible rfl) ?_|refine wt (by simpa [h1,w1]) ?_|refine wf (by simpa [h1,w1]) ?_|refine xt (by simpa [h1,w1]) ?_|refine xf (by simpa [h1,w1]) ?_|apply wp_bs|apply wp_b|refine wp_sr ?_|refine wp_sx ?_|refine wp_ret' ?_|refine wp_skip' ?_|refine wp_exit' ?_)
    refine wp_imp (insl n S.length x r M S.length S [] rfl (by simp;omega)) ?_
    rintro ex st ⟨rfl,k',rfl⟩
    simp only [if_true]
    repeat (first|apply wp_as|apply wp_ss|refine wr (by simp [h1,w1];with_reducible rfl) ?_|refine wq (by simp [h1,w1];with_reducible rfl) ?_|refine wt (by simpa [h1,w1]) ?_|refine wf (by simpa [h1,w1]) ?_|refine xt (by simpa [h1,w1]) ?_|refine xf (by simpa [h1,w1]) ?_|apply wp_bs|apply wp_b|refine wp_sr ?_|refine wp_sx ?_|refine wp_ret' ?_|refine wp_skip' ?_|refine wp_exit' ?_)
    have:=ih (insR x S.reverse []) (by rw [insr_len];omega) (by rw [insr_len];omega)
    rw [insr_len] at this
    exact this
theorem ev_insertionSort (xs:List Int) (hl:xs.length≤1000) (M:List Boxes) :
    Ev tb zl86 [0] [O xs,I 0,I xs.length] M ⟨.tup [],[O (asc 0 [] xs)],M,[]⟩:=by
  refine call_of_wp zt86 rfl ?_
  repeat (first|apply wp_as|apply wp_ss|refine wr (by simp;with_reducible rfl) ?_|refine wq (by simp;with_reducible rfl) ?_|refine wt (by simpa) ?_|refine wf (by simpa) ?_|refine xt (by simpa) ?_|refine xf (by simpa) ?_|apply wp_bs|apply wp_b|refine wp_sr ?_|refine wp_sx ?_|refine wp_ret' ?_|refine wp_skip' ?_|refine wp_exit' ?_)
  cases xs with
  | nil =>
    refine wp_loop ?_
    repeat (first|apply wp_as|apply wp_ss|refine wr (by simp;with_reducible rfl) ?_|refine wq (by simp;with_reducible rfl) ?_|refine wt (by simpa) ?_|refine wf (by simpa) ?_|refine xt (by simpa) ?_|refine xf (by simpa) ?_|apply wp_bs|apply wp_b|refine wp_sr ?_|refine wp_sx ?_|refine wp_ret' ?_|refine wp_skip' ?_|refine wp_exit' ?_)
    simp [zi86,asc]
  | cons x r =>
    simp only [List.length_cons] at hl
    refine wp_imp (sortl M _ r [x] (by simp;omega) (by simp;omega)) ?_
    rintro ex st ⟨rfl,k',rfl⟩
    simp [zi86,asc,insR]
theorem ev_pdqsort (xs:List Int) (hl:xs.length≤12) (k:Int) (M:List Boxes) :
    Ev tb zl101 [0] [O xs,I 0,I xs.length,I k] M ⟨.tup [],[O (asc 0 [] xs)],M,[]⟩:=by
  have e1:=ev_lim (ev_insertionSort xs (by omega) (M++[[]]))
  have w1:IntKind.i64.wrap (xs.length:Int)=(xs.length:Int):=wrapN (by omega)
  refine call_of_wp zt101 rfl ?_
  repeat (first|apply wp_as|apply wp_ss|refine wr (by simp;with_reducible rfl) ?_|refine wq (by simp;with_reducible rfl) ?_|refine wt (by simpa) ?_|refine wf (by simpa) ?_|refine xt (by simpa) ?_|refine xf (by simpa) ?_|apply wp_bs|apply wp_b|refine wp_sr ?_|refine wp_sx ?_|refine wp_ret' ?_|refine wp_skip' ?_|refine wp_exit' ?_)
  refine wp_loop ?_
  have h:(xs.length:Int)≤12:=by omega
  repeat (first|apply wp_as|apply wp_ss|refine wr (by simp [e1,w1,hl,h];with_reducible rfl) ?_|refine wq (by simp [e1,w1,hl,h];with_reducible rfl) ?_|refine wt (by simpa [e1,w1,hl,h]) ?_|refine wf (by simpa [e1,w1,hl,h]) ?_|refine xt (by simpa [e1,w1,hl,h]) ?_|refine xf (by simpa [e1,w1,hl,h]) ?_|apply wp_bs|apply wp_b|refine wp_sr ?_|refine wp_sx ?_|refine wp_ret' ?_|refine wp_skip' ?_|refine wp_exit' ?_)
  simp [zi101]
theorem len_r (cf:CF) (n:Int) (m:Nat) (g:ByteArray) (hw:IntKind.u8.wrap n=(m:Int)) (hb:(g[m]?).isSome=true) :
    ∃ k st,execOps cf { T:=[(0,.sc (.int .u64 n)),(2,I 0),(14,Bo false)],loc:=[],M:=[] } [⟨some 19,none,.mv (.t 2)⟩,⟨some 20,none,.mv (.t 0)⟩,⟨some 21,none,.conv .u8 (.t 20)⟩,⟨some 22,none,.idxs (.c (.string g)) (.t 21)⟩,⟨some 23,none,.conv .i64 (.t 22)⟩,⟨some 24,none,.bin .add (.t 19) (.t 23)⟩,⟨some 2,none,.asg (.t 24)⟩]=some st∧st.cut [2]={ T:=[(2,I k)],loc:=[],M:=[] }:=by
  obtain ⟨b,hb⟩:=Option.isSome_iff_exists.1 hb
  refine ⟨_,_,by simp [hw,hb];rfl,by simp;rfl⟩
set_option maxRecDepth 100000 in
theorem ev_Len64 (n:Nat) (hn:n≤12):∃ k:Int,Ev tb zl68 [] [.sc (.int .u64 n)] [] ⟨I k,[],[],[]⟩:=by
  have w8:IntKind.u8.wrap (n:Int)=(n:Int):=by
    have:n=0 ∨ n=1 ∨ n=2 ∨ n=3 ∨ n=4 ∨ n=5 ∨ n=6 ∨ n=7 ∨ n=8 ∨ n=9 ∨ n=10 ∨ n=11 ∨ n=12:=by omega
    rcases this with rfl | rfl | rfl | rfl | rfl | rfl | rfl | rfl | rfl | rfl | rfl | rfl | rfl <;> rfl
  have key:∃ k:Int,∃ st,execOps (limF tb) { T:=[(0,.sc (.int .u64 n)),(2,I 0),(14,Bo false)],loc:=[],M:=[] } (match z68r10 with | .reg ops _ _=>ops | _=>[])=some st∧st.cut [2]={ T:=[(2,I k)],loc:=[],M:=[] }:=by
    have:n=0 ∨ n=1 ∨ n=2 ∨ n=3 ∨ n=4 ∨ n=5 ∨ n=6 ∨ n=7 ∨ n=8 ∨ n=9 ∨ n=10 ∨ n=11 ∨ n=12:=by omega
    rcases this with rfl | rfl | rfl | rfl | rfl | rfl | rfl | rfl | rfl | rfl | rfl | rfl | rfl
    all_goals
      refine len_r (limF tb) _ _ _ w8 ?_
      rfl
  obtain ⟨k,st,h1,h2⟩:=key
  have g1:¬ (4294967296:Int)≤n:=by omega
  have g2:¬ (65536:Int)≤n:=by omega
  have g3:¬ (256:Int)≤n:=by omega
  refine ⟨k,?_⟩
  refine call_of_wp zt68 rfl ?_
  iterate 4 ((first|refine wp_as ?_|skip);refine wp_rs (by simp [g1,g2,g3];rfl) (by simp;rfl) ?_;(first|refine wp_ct (t:=false) (by simp) (by simp) (fun _=>?_)|skip);(first|refine wp_ss ?_|skip))
  refine wp_rs h1 h2 ?_
  refine wp_ret' ?_
  simp [zi68]
theorem ev_Len (n:Nat) (hn:n≤12):∃ k:Int,Ev tb zl66 [] [.sc (.int .u64 n)] [] ⟨I k,[],[],[]⟩:=by
  obtain ⟨k,hk⟩:=ev_Len64 n hn
  have e1:=ev_lim hk
  refine ⟨k,?_⟩
  refine call_of_wp zt66 rfl ?_
  repeat (first|apply wp_as|apply wp_ss|refine wr (by simp [e1];with_reducible rfl) ?_|refine wq (by simp [e1];with_reducible rfl) ?_|refine wt (by simpa [e1]) ?_|refine wf (by simpa [e1]) ?_|refine xt (by simpa [e1]) ?_|refine xf (by simpa [e1]) ?_|apply wp_bs|apply wp_b|refine wp_sr ?_|refine wp_sx ?_|refine wp_ret' ?_|refine wp_skip' ?_|refine wp_exit' ?_)
  simp [zi66]
theorem wrapU {n:Nat} (h:n < 2000000):IntKind.u64.wrap (n:Int)=(n:Int):=by
  have e1:(2:Int) ^ IntKind.u64.bits=18446744073709551616:=by decide
  have e3:IntKind.u64.signed=false:=rfl
  unfold IntKind.wrap
  rw [e1,e3]
  simp
  omega
theorem ev_Sort (xs:List Int) (hl:xs.length≤12) (M:List Boxes) :
    Ev tb zl78 [0] [O xs] M ⟨.tup [],[O (asc 0 [] xs)],M,[]⟩:=by
  obtain ⟨k,hk⟩:=ev_Len xs.length hl
  have e1:=ev_lim hk
  have e2:=ev_lim (ev_pdqsort xs hl k (M++[[]]))
  have w1:=@wrapU xs.length (by omega)
  refine call_of_wp zt78 rfl ?_
  repeat (first|apply wp_as|apply wp_ss|refine wr (by simp [e1,e2,w1];with_reducible rfl) ?_|refine wq (by simp [e1,e2,w1];with_reducible rfl) ?_|refine wt (by simpa [e1,e2,w1]) ?_|refine wf (by simpa [e1,e2,w1]) ?_|refine xt (by simpa [e1,e2,w1]) ?_|refine xf (by simpa [e1,e2,w1]) ?_|apply wp_bs|apply wp_b|refine wp_sr ?_|refine wp_sx ?_|refine wp_ret' ?_|refine wp_skip' ?_|refine wp_exit' ?_)
  simp [zi78]
end Go.Idl
namespace Go.Idl
open Go
theorem natOf_add2 {k:IntKind} {a b:Nat}:natOf (.sc (.int k ((a:Int)+(b:Int)+1)))=some (a+b+1):=natOf_nat (n:=a+b+1)
theorem rv_get {A m B:List Int} {x y:Int}:(A++x::(m++y::B))[A.length+m.length+1]? = some y:=by
  rw [List.getElem?_append_right (by omega),show A.length+m.length+1 - A.length=m.length+1 by omega,List.getElem?_cons_succ,List.getElem?_append_right (by omega)];simp
theorem rv_getE {A m B:List Int} {x y:Int} {h}:(A++x::(m++y::B))[A.length+m.length+1]'h=y:=by
  have:=@rv_get A m B x y
  rw [List.getElem?_eq_getElem h] at this
  exact Option.some.inj this
theorem rv_set {A m B:List Int} {v x y:Int}:(A++v::(m++y::B)).set (A.length+m.length+1) x=A++v::(m++x::B):=by
  rw [List.set_append_right _ _ (by omega)]
  simp [show A.length+m.length+1 - A.length=m.length+1 by omega]
theorem revl (M:List Boxes):∀ (k:Nat) (A m B:List Int),m.length≤k→A.length+m.length+B.length≤2000000 →
    wp tb (.loop z76l4) { T:=[(0,O (A++(m++B))),(2,I A.length),(3,I ((A.length:Int)+m.length - 1))],loc:=[],M:=M }
      (fun ex st=>ex=.exit 0∧∃ a b:Int,st={ T:=[(0,O (A++(m.reverse++B))),(2,I a),(3,I b),(9,Bo false)],loc:=[],M:=M }):=by
  intro k
  induction k with
  | zero =>
    intro A m B hk hl
    have:m=[]:=List.length_eq_zero_iff.1 (by omega)
    subst this
    refine wp_loop ?_
    have h:¬ ((A.length:Int) < A.length - 1):=by omega
    repeat (first|apply wp_as|apply wp_ss|refine wr (by simp [h];with_reducible rfl) ?_|refine wq (by simp [h];with_reducible rfl) ?_|refine wt (by simpa [h]) ?_|refine wf (by simpa [h]) ?_|refine xt (by simpa [h]) ?_|refine xf (by simpa [h]) ?_|apply wp_bs|apply wp_b|refine wp_sr ?_|refine wp_sx ?_|refine wp_ret' ?_|refine wp_skip' ?_|refine wp_exit' ?_)
    exact ⟨rfl,_,_,rfl⟩
  | succ k ih =>
    intro A m B hk hl
    match m,hk,hl with
    | [],hk,hl =>
      refine wp_loop ?_
      have h:¬ ((A.length:Int) < A.length - 1):=by omega
      repeat (first|apply wp_as|apply wp_ss|refine wr (by simp [h];with_reducible rfl) ?_|refine wq (by simp [h];with_reducible rfl) ?_|refine wt (by simpa [h]) ?_|refine wf (by simpa [h]) ?_|refine xt (by simpa [h]) ?_|refine xf (by simpa [h]) ?_|apply wp_bs|apply wp_b|refine wp_sr ?_|refine wp_sx ?_|refine wp_ret' ?_|refine wp_skip' ?_|refine wp_exit' ?_)
      exact ⟨rfl,_,_,rfl⟩
    | [x],hk,hl =>
      refine wp_loop ?_
      repeat (first|apply wp_as|apply wp_ss|refine wr (by simp;with_reducible rfl) ?_|refine wq (by simp;with_reducible rfl) ?_|refine wt (by simpa) ?_|refine wf (by simpa) ?_|refine xt (by simpa) ?_|refine xf (by simpa) ?_|apply wp_bs|apply wp_b|refine wp_sr ?_|refine wp_sx ?_|refine wp_ret' ?_|refine wp_skip' ?_|refine wp_exit' ?_)
      exact ⟨rfl,_,_,rfl⟩
    | x::z::m',hk,hl =>
      obtain ⟨m,y,hm⟩:∃ m y,z::m'=m++[y]:=⟨(z::m').dropLast,(z::m').getLast (by simp),(List.dropLast_concat_getLast _).symm⟩
      rw [hm] at hk hl ⊢
      simp only [List.length_cons,List.length_append,List.length_nil] at hk hl
      have hj:(A.length:Int)+(x::(m++[y])).length - 1=(A.length:Int)+m.length+1:=by simp;omega
      rw [hj]
      simp only [List.cons_append,List.append_assoc,List.nil_append]
      refine wp_loop ?_
      have h:(A.length:Int) < A.length+m.length+1:=by omega
      have h2:A.length < A.length+(m.length+(B.length+1)+1):=by omega
      have h3:A.length+m.length+1 < A.length+(m.length+(B.length+1)+1):=by omega
      have w1:IntKind.i64.wrap ((A.length:Int)+1)=((A++[y]).length:Int):=by rw [wrap64 (by omega) (by omega)];simp
      have w2:IntKind.i64.wrap ((A.length:Int)+m.length)=((A++[y]).length:Int)+m.length - 1:=by rw [wrap64 (by omega) (by omega)];simp;omega
      repeat (first|apply wp_as|apply wp_ss|refine wr (by simp [h,h2,h3,w1,w2,rv_get,rv_getE,rv_set,natOf_add2,app_get0];with_reducible rfl) ?_|refine wq (by simp [h,h2,h3,w1,w2,rv_get,rv_getE,rv_set,natOf_add2,app_get0];with_reducible rfl) ?_|refine wt (by simpa [h,h2,h3,w1,w2,rv_get,rv_getE,rv_set,natOf_add2,app_get0]) ?_|refine wf (by simpa [h,h2,h3,w1,w2,rv_get,rv_getE,rv_set,natOf_add2,app_get0]) ?_|refine xt (by simpa [h,h2,h3,w1,w2,rv_get,rv_getE,rv_set,natOf_add2,app_get0]) ?_|refine xf (by simpa [h,h2,h3,w1,w2,rv_get,rv_getE,rv_set,natOf_add2,app_get0]) ?_|apply wp_bs|apply wp_b|refine wp_sr ?_|refine wp_sx ?_|refine wp_ret' ?_|refine wp_skip' ?_|refine wp_exit' ?_)
      have:=ih (A++[y]) m (x::B) (by omega) (by simp;omega)
      simp at this ⊢
      exact this
theorem ev_Reverse (xs:List Int) (hl:xs.length≤2000000) (M:List Boxes) :
    Ev tb zl76 [0] [O xs] M ⟨.tup [],[O xs.reverse],M,[]⟩:=by
  have w1:IntKind.i64.wrap ((xs.length:Int) - 1)=(xs.length:Int) - 1:=wrap64 (by omega) (by omega)
  refine call_of_wp zt76 rfl ?_
  repeat (first|apply wp_as|apply wp_ss|refine wr (by simp [w1];with_reducible rfl) ?_|refine wq (by simp [w1];with_reducible rfl) ?_|refine wt (by simpa [w1]) ?_|refine wf (by simpa [w1]) ?_|refine xt (by simpa [w1]) ?_|refine xf (by simpa [w1]) ?_|apply wp_bs|apply wp_b|refine wp_sr ?_|refine wp_sx ?_|refine wp_ret' ?_|refine wp_skip' ?_|refine wp_exit' ?_)
  have:=revl M xs.length [] xs [] (by omega) (by simp;omega)
  simp at this
  refine wp_imp this ?_
  rintro ex st ⟨rfl,a,b,rfl⟩
  simp [zi76]
theorem ev_falling (xs:List Int) (c:Bool) (hl:xs.length≤12) :
    Ev tb zl37 [] [L xs c] [] ⟨O (fall xs),[],[],[]⟩:=by
  have e1:=ev_lim (ev_clone xs c (by omega))
  have e2:=ev_lim (ev_Sort xs hl [[]])
  have e3:=ev_lim (ev_Reverse (asc 0 [] xs) (by rw [asc_len];omega) [[]])
  refine call_of_wp zt37 rfl ?_
  repeat (first|apply wp_as|apply wp_ss|refine wr (by simp [e1,e2,e3,asc_rev];with_reducible rfl) ?_|refine wq (by simp [e1,e2,e3,asc_rev];with_reducible rfl) ?_|refine wt (by simpa [e1,e2,e3,asc_rev]) ?_|refine wf (by simpa [e1,e2,e3,asc_rev]) ?_|refine xt (by simpa [e1,e2,e3,asc_rev]) ?_|refine xf (by simpa [e1,e2,e3,asc_rev]) ?_|apply wp_bs|apply wp_b|refine wp_sr ?_|refine wp_sx ?_|refine wp_ret' ?_|refine wp_skip' ?_|refine wp_exit' ?_)
  simp [zi37]
theorem drop_get {xs:List Int} {i m:Nat} (h:i+(m+1)=xs.length):∃ h:i < xs.length,xs.drop i=xs[i]::xs.drop (i+1)∧xs[i] ∈ xs:=by
  have hi:i < xs.length:=by omega
  exact ⟨hi,List.drop_eq_getElem_cons hi,List.getElem_mem hi⟩
theorem drop_end {xs:List Int} {i:Nat} (h:i+0=xs.length):xs[i]? = none∧xs.drop i=[]:=by
  have:i=xs.length:=by omega
  subst this
  simp
def idx (p:Int→Bool):Int→List Int→Int
  | _,[]=>-1
  | i,x::r=>if p x then i else idx p (i+1) r
theorem ev_IndexFunc (xs:List Int) (c:Bool) (F:Lab) (caps:List IV) (M:List Boxes) (p:Int→Bool) (hl:xs.length≤2000000)
    (hp:∀ x ∈ xs,Ev tb F [] (I x::caps) (M++[[]]) ⟨Bo (p x),[],M++[[]],[]⟩) :
    Ev tb zl73 [] [L xs c,.fn F caps] M ⟨I (idx p 0 xs),[],M,[]⟩:=by
  have loop:∀ (m i:Nat),i+m=xs.length→wp tb (.loop z73l7) { T:=[(0,L xs c),(1,.fn F caps),(7,I xs.length),(8,I i)],loc:=[],M:=M }
      (fun ex st=>(ex=.exit 0∧idx p i (xs.drop i)=-1∧st={ T:=[(0,L xs c),(1,.fn F caps),(7,I xs.length),(8,I xs.length),(9,Bo false)],loc:=[],M:=M }) ∨
        ex=.ret∧st={ T:=[(4,I (idx p i (xs.drop i)))],loc:=[],M:=M }):=by
    intro m
    induction m with
    | zero =>
      intro i hi
      obtain ⟨h1,h2⟩:=drop_end hi
      have h3:i=xs.length:=hi
      subst h3
      refine wp_loop ?_
      repeat (first|apply wp_as|apply wp_ss|refine wr (by simp;with_reducible rfl) ?_|refine wq (by simp;with_reducible rfl) ?_|refine wt (by simpa) ?_|refine wf (by simpa) ?_|refine xt (by simpa) ?_|refine xf (by simpa) ?_|apply wp_bs|apply wp_b|refine wp_sr ?_|refine wp_sx ?_|refine wp_ret' ?_|refine wp_skip' ?_|refine wp_exit' ?_)
      refine .inl ⟨rfl,by rw [h2];rfl,rfl⟩
    | succ m ih =>
      intro i hi
      obtain ⟨hi2,h2,h3⟩:=drop_get hi
      have e1:=ev_lim (hp _ h3)
      have w1:IntKind.i64.wrap ((i:Int)+1)=((i+1:Nat):Int):=wrapS (by omega)
      rw [h2]
      cases hpx:p xs[i] with
      | true =>
        refine wp_loop ?_
        repeat (first|apply wp_as|apply wp_ss|refine wr (by simp [e1,hi2,w1,hpx];with_reducible rfl) ?_|refine wq (by simp [e1,hi2,w1,hpx];with_reducible rfl) ?_|refine wt (by simpa [e1,hi2,w1,hpx]) ?_|refine wf (by simpa [e1,hi2,w1,hpx]) ?_|refine xt (by simpa [e1,hi2,w1,hpx]) ?_|refine xf (by simpa [e1,hi2,w1,hpx]) ?_|apply wp_bs|apply wp_b|refine wp_sr ?_|refine wp_sx ?_|refine wp_ret' ?_|refine wp_skip' ?_|refine wp_exit' ?_)
        refine .inr ⟨rfl,by simp [idx,hpx]⟩
      | false =>
        refine wp_loop ?_
        repeat (first|apply wp_as|apply wp_ss|refine wr (by simp [e1,hi2,w1,hpx];with_reducible rfl) ?_|refine wq (by simp [e1,hi2,w1,hpx];with_reducible rfl) ?_|refine wt (by simpa [e1,hi2,w1,hpx]) ?_|refine wf (by simpa [e1,hi2,w1,hpx]) ?_|refine xt (by simpa [e1,hi2,w1,hpx]) ?_|refine xf (by simpa [e1,hi2,w1,hpx]) ?_|apply wp_bs|apply wp_b|refine wp_sr ?_|refine wp_sx ?_|refine wp_ret' ?_|refine wp_skip' ?_|refine wp_exit' ?_)
        have:=ih (i+1) (by omega)
        simp only [idx,hpx] at this ⊢
        exact this
  refine call_of_wp zt73 rfl ?_
  repeat (first|apply wp_as|apply wp_ss|refine wr (by simp;with_reducible rfl) ?_|refine wq (by simp;with_reducible rfl) ?_|refine wt (by simpa) ?_|refine wf (by simpa) ?_|refine xt (by simpa) ?_|refine xf (by simpa) ?_|apply wp_bs|apply wp_b|refine wp_sr ?_|refine wp_sx ?_|refine wp_ret' ?_|refine wp_skip' ?_|refine wp_exit' ?_)
  refine wp_imp (loop xs.length 0 (by simp)) ?_
  rintro ex st (⟨rfl,h,rfl⟩ | ⟨rfl,rfl⟩)
  · simp only [if_true]
    repeat (first|apply wp_as|apply wp_ss|refine wr (by simp;with_reducible rfl) ?_|refine wq (by simp;with_reducible rfl) ?_|refine wt (by simpa) ?_|refine wf (by simpa) ?_|refine xt (by simpa) ?_|refine xf (by simpa) ?_|apply wp_bs|apply wp_b|refine wp_sr ?_|refine wp_sx ?_|refine wp_ret' ?_|refine wp_skip' ?_|refine wp_exit' ?_)
    simp at h
    simp [zi73,h]
  · simp [zi73]
end Go.Idl
namespace Go.Idl
open Go
theorem ev_allIn_F1 (x lo hi:Int):Ev tb zl30 [] [I x,.bptr 0 0 0,.bptr 0 1 0] [[[I lo],[I hi]],[],[]] ⟨Bo (!(decide (lo≤x) && decide (x≤hi))),[],[[[I lo],[I hi]],[],[]],[]⟩:=by
  have e1:=ev_lim (ev_in x lo hi)
  refine call_of_wp zt30 rfl ?_
  repeat (first|apply wp_as|apply wp_ss|refine wr (by simp [e1];with_reducible rfl) ?_|refine wq (by simp [e1];with_reducible rfl) ?_|refine wt (by simpa [e1]) ?_|refine wf (by simpa [e1]) ?_|refine xt (by simpa [e1]) ?_|refine xf (by simpa [e1]) ?_|apply wp_bs|apply wp_b|refine wp_sr ?_|refine wp_sx ?_|refine wp_ret' ?_|refine wp_skip' ?_|refine wp_exit' ?_)
  simp [zi30]
theorem ev_ContainsFunc (xs:List Int) (c:Bool) (F:Lab) (caps:List IV) (M:List Boxes) (p:Int→Bool) (hl:xs.length≤2000000)
    (hp:∀ x ∈ xs,Ev tb F [] (I x::caps) (M++[[],[]]) ⟨Bo (p x),[],M++[[],[]],[]⟩) :
    Ev tb zl72 [] [L xs c,.fn F caps] M ⟨Bo (decide (0≤idx p 0 xs)),[],M,[]⟩:=by
  have e1:=ev_lim (ev_IndexFunc xs c F caps (M++[[]]) p hl (by simpa using hp))
  refine call_of_wp zt72 rfl ?_
  repeat (first|apply wp_as|apply wp_ss|refine wr (by simp [e1];with_reducible rfl) ?_|refine wq (by simp [e1];with_reducible rfl) ?_|refine wt (by simpa [e1]) ?_|refine wf (by simpa [e1]) ?_|refine xt (by simpa [e1]) ?_|refine xf (by simpa [e1]) ?_|apply wp_bs|apply wp_b|refine wp_sr ?_|refine wp_sx ?_|refine wp_ret' ?_|refine wp_skip' ?_|refine wp_exit' ?_)
  simp [zi72]
theorem idx_ge (p:Int→Bool):∀ (xs:List Int) (i:Int),0≤i→(decide (0≤idx p i xs)=xs.any p)
  | [],i,h=>by simp [idx]
  | x::r,i,h=>by
    unfold idx
    cases hp:p x with
    | true=>simp [hp,h]
    | false=>simp [hp];simpa using idx_ge p r (i+1) (by omega)
theorem ev_allIn (xs:List Int) (c:Bool) (lo hi:Int) (hl:xs.length≤2000000) :
    Ev tb zl29 [] [L xs c,I lo,I hi] [] ⟨Bo (xs.all fun x=>decide (lo≤x) && decide (x≤hi)),[],[],[]⟩:=by
  have e1:=ev_lim (ev_ContainsFunc xs c zl30 [.bptr 0 0 0,.bptr 0 1 0] [[[I lo],[I hi]]] _ hl (fun x _=>ev_allIn_F1 x lo hi))
  refine call_of_wp zt29 rfl ?_
  repeat (first|apply wp_as|apply wp_ss|refine wr (by simp [e1,idx_ge];with_reducible rfl) ?_|refine wq (by simp [e1,idx_ge];with_reducible rfl) ?_|refine wt (by simpa [e1,idx_ge]) ?_|refine wf (by simpa [e1,idx_ge]) ?_|refine xt (by simpa [e1,idx_ge]) ?_|refine xf (by simpa [e1,idx_ge]) ?_|apply wp_bs|apply wp_b|refine wp_sr ?_|refine wp_sx ?_|refine wp_ret' ?_|refine wp_skip' ?_|refine wp_exit' ?_)
  simp [zi29,List.all_eq_not_any_not]
def valid (d:List Int):Bool:=decide (d.length≤7) && d.all fun x=>decide (0≤x) && decide (x < d.length)
theorem ev_ValidDegrees (xs:List Int) (c:Bool) (hl:xs.length≤2000000):Ev tb zl25 [] [L xs c] [] ⟨Bo (valid xs),[],[],[]⟩:=by
  have e1:=ev_lim (ev_allIn xs c 0 ((xs.length:Int) - 1) hl)
  have w1:IntKind.i64.wrap ((xs.length:Int) - 1)=(xs.length:Int) - 1:=wrap64 (by omega) (by omega)
  have hx:∀ x:Int,(x≤(xs.length:Int) - 1) ↔ x < (xs.length:Int):=fun x=>by omega
  simp only [hx] at e1
  have h2:((xs.length:Int)≤7) ↔ xs.length≤7:=by omega
  by_cases h:xs.length≤7
  · refine call_of_wp zt25 rfl ?_
    repeat (first|apply wp_as|apply wp_ss|refine wr (by simp [e1,w1,h2,h];with_reducible rfl) ?_|refine wq (by simp [e1,w1,h2,h];with_reducible rfl) ?_|refine wt (by simpa [e1,w1,h2,h]) ?_|refine wf (by simpa [e1,w1,h2,h]) ?_|refine xt (by simpa [e1,w1,h2,h]) ?_|refine xf (by simpa [e1,w1,h2,h]) ?_|apply wp_bs|apply wp_b|refine wp_sr ?_|refine wp_sx ?_|refine wp_ret' ?_|refine wp_skip' ?_|refine wp_exit' ?_)
    simp [zi25,valid,h]
  · refine call_of_wp zt25 rfl ?_
    repeat (first|apply wp_as|apply wp_ss|refine wr (by simp [e1,w1,h2,h];with_reducible rfl) ?_|refine wq (by simp [e1,w1,h2,h];with_reducible rfl) ?_|refine wt (by simpa [e1,w1,h2,h]) ?_|refine wf (by simpa [e1,w1,h2,h]) ?_|refine xt (by simpa [e1,w1,h2,h]) ?_|refine xf (by simpa [e1,w1,h2,h]) ?_|apply wp_bs|apply wp_b|refine wp_sr ?_|refine wp_sx ?_|refine wp_ret' ?_|refine wp_skip' ?_|refine wp_exit' ?_)
    simp [zi25,valid,h]
theorem ev_equalInts (xs ys:List Int) (c d:Bool) (hl:xs.length≤2000000) (hm:ys.length≤2000000):Ev tb zl53 [] [L xs c,L ys d] [] ⟨Bo (decide (xs=ys)),[],[],[]⟩:=by
  by_cases he:xs.length=ys.length
  · have loop:∀ (m i:Nat),i+m=xs.length→wp tb (.loop z53l8) { T:=[(0,L xs c),(1,L ys d),(5,I i)],loc:=[],M:=[] }
      (fun ex st=>(ex=.exit 0∧xs.drop i=ys.drop i∧st={ T:=[(0,L xs c),(1,L ys d),(5,I xs.length),(14,Bo false)],loc:=[],M:=[] }) ∨
        ex=.ret∧xs.drop i ≠ ys.drop i∧st={ T:=[(4,Bo false)],loc:=[],M:=[] }):=by
      intro m
      induction m with
      | zero =>
        intro i hi
        obtain ⟨h1,h2⟩:=drop_end hi
        obtain ⟨h1',h2'⟩:=drop_end (he ▸ hi)
        have h3:i=xs.length:=hi
        subst h3
        refine wp_loop ?_
        repeat (first|apply wp_as|apply wp_ss|refine wr (by simp;with_reducible rfl) ?_|refine wq (by simp;with_reducible rfl) ?_|refine wt (by simpa) ?_|refine wf (by simpa) ?_|refine xt (by simpa) ?_|refine xf (by simpa) ?_|apply wp_bs|apply wp_b|refine wp_sr ?_|refine wp_sx ?_|refine wp_ret' ?_|refine wp_skip' ?_|refine wp_exit' ?_)
        refine .inl ⟨rfl,by rw [h2,h2'],rfl⟩
      | succ m ih =>
        intro i hi
        obtain ⟨hi2,h2,h3⟩:=drop_get hi
        obtain ⟨hi2',h2',h3'⟩:=drop_get (he ▸ hi)
        have w2:IntKind.i64.wrap ((i:Int)+1)=((i+1:Nat):Int):=wrapS (by omega)
        rw [h2,h2']
        by_cases hx:xs[i]=ys[i]
        · refine wp_loop ?_
          repeat (first|apply wp_as|apply wp_ss|refine wr (by simp [hi2,hi2',w2,hx];with_reducible rfl) ?_|refine wq (by simp [hi2,hi2',w2,hx];with_reducible rfl) ?_|refine wt (by simpa [hi2,hi2',w2,hx]) ?_|refine wf (by simpa [hi2,hi2',w2,hx]) ?_|refine xt (by simpa [hi2,hi2',w2,hx]) ?_|refine xf (by simpa [hi2,hi2',w2,hx]) ?_|apply wp_bs|apply wp_b|refine wp_sr ?_|refine wp_sx ?_|refine wp_ret' ?_|refine wp_skip' ?_|refine wp_exit' ?_)
          have:=ih (i+1) (by omega)
          simp only [List.cons.injEq,true_and,ne_eq,hx] at this ⊢
          exact this
        · refine wp_loop ?_
          repeat (first|apply wp_as|apply wp_ss|refine wr (by simp [hi2,hi2',w2,hx];with_reducible rfl) ?_|refine wq (by simp [hi2,hi2',w2,hx];with_reducible rfl) ?_|refine wt (by simpa [hi2,hi2',w2,hx]) ?_|refine wf (by simpa [hi2,hi2',w2,hx]) ?_|refine xt (by simpa [hi2,hi2',w2,hx]) ?_|refine xf (by simpa [hi2,hi2',w2,hx]) ?_|apply wp_bs|apply wp_b|refine wp_sr ?_|refine wp_sx ?_|refine wp_ret' ?_|refine wp_skip' ?_|refine wp_exit' ?_)
          refine .inr ⟨rfl,by simp only [ne_eq,List.cons.injEq,hx,false_and,not_false_eq_true],rfl⟩
    refine call_of_wp zt53 rfl ?_
    repeat (first|apply wp_as|apply wp_ss|refine wr (by simp [he];with_reducible rfl) ?_|refine wq (by simp [he];with_reducible rfl) ?_|refine wt (by simpa [he]) ?_|refine wf (by simpa [he]) ?_|refine xt (by simpa [he]) ?_|refine xf (by simpa [he]) ?_|apply wp_bs|apply wp_b|refine wp_sr ?_|refine wp_sx ?_|refine wp_ret' ?_|refine wp_skip' ?_|refine wp_exit' ?_)
    refine wp_imp (loop xs.length 0 (by simp)) ?_
    rintro ex st (⟨rfl,h,rfl⟩ | ⟨rfl,h,rfl⟩)
    · simp only [if_true]
      repeat (first|apply wp_as|apply wp_ss|refine wr (by simp;with_reducible rfl) ?_|refine wq (by simp;with_reducible rfl) ?_|refine wt (by simpa) ?_|refine wf (by simpa) ?_|refine xt (by simpa) ?_|refine xf (by simpa) ?_|apply wp_bs|apply wp_b|refine wp_sr ?_|refine wp_sx ?_|refine wp_ret' ?_|refine wp_skip' ?_|refine wp_exit' ?_)
      simp only [List.drop_zero] at h
      simp [zi53,h]
    · simp only [List.drop_zero] at h
      simp [zi53,h]
  · have hne:xs ≠ ys:=fun h=>he (by rw [h])
    have h2:((xs.length:Int)=ys.length) ↔ xs.length=ys.length:=by omega
    refine call_of_wp zt53 rfl ?_
    repeat (first|apply wp_as|apply wp_ss|refine wr (by simp [he,h2];with_reducible rfl) ?_|refine wq (by simp [he,h2];with_reducible rfl) ?_|refine wt (by simpa [he,h2]) ?_|refine wf (by simpa [he,h2]) ?_|refine xt (by simpa [he,h2]) ?_|refine xf (by simpa [he,h2]) ?_|apply wp_bs|apply wp_b|refine wp_sr ?_|refine wp_sx ?_|refine wp_ret' ?_|refine wp_skip' ?_|refine wp_exit' ?_)
    simp [zi53,hne]
end Go.Idl
namespace Go.Idl
open Go
def bytes (xs:List Int):List (List IV):=xs.map fun n=>[.sc (.int .u8 n)]
@[simp] theorem bytes_len (xs:List Int):(bytes xs).length=xs.length:=by simp [bytes]
@[simp] theorem bytes_take (xs:List Int) (n:Nat):(bytes xs).take n=bytes (xs.take n):=by simp [bytes,List.map_take]
@[simp] theorem bytes_get? (xs:List Int) (i:Nat):(bytes xs)[i]? = xs[i]?.map fun n=>[IV.sc (.int .u8 n)]:=by simp [bytes]
@[simp] theorem bytes_get (xs:List Int) (i:Nat) (h:i < (bytes xs).length):(bytes xs)[i]=[IV.sc (.int .u8 (xs[i]'(by simpa [bytes] using h)))]:=by simp [bytes]
@[simp] theorem bytes_emp (xs:List Int):(bytes xs).isEmpty=xs.isEmpty:=by cases xs <;> rfl
@[simp] theorem bytes_all1 (xs:List Int):((bytes xs).all fun x=>x.all IV.plain1)=true:=by
  induction xs with
  | nil=>rfl
  | cons x xs ih=>simp only [bytes,List.map_cons,List.all_cons] at *;rw [ih];rfl
@[simp] theorem bytes_all2 (xs:List Int):((bytes xs).all fun x=>x.all IV.isData)=true:=by
  induction xs with
  | nil=>rfl
  | cons x xs ih=>simp only [bytes,List.map_cons,List.all_cons] at *;rw [ih];rfl
@[simp] theorem bytes_noLst (xs:List Int):noLstLL (bytes xs)=true:=by
  induction xs with
  | nil=>rfl
  | cons x xs ih=>simp only [bytes,List.map_cons,noLstLL,noLstL,noLstV] at *;rw [ih];rfl
abbrev R (code:List Int) (c:Bool) (n:Int):List IV:=[.lst 1 (bytes code) c,I n]
def CodeOk (code:List Int):Prop:=code.length≤2000∧∀ x ∈ code,0≤x∧x≤255
theorem xor_ok (a b:Nat) (ha:a < 2 ^ 40) (hb:b < 2 ^ 40):∃ n:Nat,n < 2 ^ 40∧binOp .xor 0 (Value.int .i64 a) (Value.int .i64 b)=Sem.pure (Value.int .i64 n):=by
  refine ⟨a ^^^ b,Nat.xor_lt_two_pow ha hb,?_⟩
  have h:=Nat.xor_lt_two_pow ha hb
  have e:IntKind.i64.wrap (((BitVec.ofInt 64 (a:Int)) ^^^ (BitVec.ofInt 64 (b:Int))).toNat:Int)=((a ^^^ b:Nat):Int):=by
    have h1:((BitVec.ofInt 64 (a:Int)) ^^^ (BitVec.ofInt 64 (b:Int))).toNat=a ^^^ b:=by
      rw [BitVec.toNat_xor,BitVec.ofInt_natCast,BitVec.ofInt_natCast,BitVec.toNat_ofNat,BitVec.toNat_ofNat,Nat.mod_eq_of_lt (by omega),Nat.mod_eq_of_lt (by omega)]
    rw [h1,wrapN (by omega)]
  show Sem.pure (Value.int .i64 (IntKind.i64.wrap (((BitVec.ofInt 64 (a:Int)) ^^^ (BitVec.ofInt 64 (b:Int))).toNat:Int)))=_
  rw [e]
theorem tmod_range {x n:Int} (hx:0≤x) (hn:1≤n):0≤x.tmod n∧x.tmod n < n:=by
  rw [Int.tmod_eq_emod_of_nonneg hx]
  exact ⟨Int.emod_nonneg _ (by omega),Int.emod_lt_of_pos _ (by omega)⟩
theorem ev_pick (code:List Int) (c:Bool) (hc:CodeOk code) (cnt:Nat) (hn:cnt≤2000000) (n:Int) (hn2:n≤2000000) (bs:Boxes) (Ms:List Boxes) :
    ∃ v:Nat,(1≤n→(v:Int) < n)∧Ev tb zl140 [] [.bptr 0 0 0,I n] ((R code c cnt::bs)::Ms) ⟨I v,[],(R code c ((cnt+1:Nat):Int)::bs)::Ms,[]⟩:=by
  have w1:IntKind.i64.wrap ((cnt:Int)+1)=((cnt+1:Nat):Int):=wrapS (by omega)
  by_cases h1:n < 1
  · refine ⟨0,by omega,?_⟩
    refine call_of_wp zt140 rfl ?_
    repeat (first|apply wp_as|apply wp_ss|refine wr (by simp [w1,h1];with_reducible rfl) ?_|refine wq (by simp [w1,h1];with_reducible rfl) ?_|refine wt (by simpa [w1,h1]) ?_|refine wf (by simpa [w1,h1]) ?_|refine xt (by simpa [w1,h1]) ?_|refine xf (by simpa [w1,h1]) ?_|apply wp_bs|apply wp_b|refine wp_sr ?_|refine wp_sx ?_|refine wp_ret' ?_|refine wp_skip' ?_|refine wp_exit' ?_)
    simp [zi140]
  by_cases h2:code=[]
  · subst h2
    refine ⟨0,by omega,?_⟩
    refine call_of_wp zt140 rfl ?_
    repeat (first|apply wp_as|apply wp_ss|refine wr (by simp [w1,h1];with_reducible rfl) ?_|refine wq (by simp [w1,h1];with_reducible rfl) ?_|refine wt (by simpa [w1,h1]) ?_|refine wf (by simpa [w1,h1]) ?_|refine xt (by simpa [w1,h1]) ?_|refine xf (by simpa [w1,h1]) ?_|apply wp_bs|apply wp_b|refine wp_sr ?_|refine wp_sx ?_|refine wp_ret' ?_|refine wp_skip' ?_|refine wp_exit' ?_)
    simp [zi140]
  have h2':¬ (code.length:Int)=0:=by
    have:code.length ≠ 0:=fun h=>h2 (List.length_eq_zero_iff.1 h)
    omega
  have w2:IntKind.i64.wrap (cnt:Int)=(cnt:Int):=wrapN (by omega)
  have hn0:¬ n=0:=by omega
  by_cases h3:cnt < code.length
  · have hb:=hc.2 code[cnt] (List.getElem_mem h3)
    have w3:IntKind.i64.wrap code[cnt]=code[cnt]:=wrap64 (by omega) (by omega)
    have hr:=tmod_range hb.1 (n:=n) (by omega)
    obtain ⟨v,hv⟩:=Int.eq_ofNat_of_zero_le hr.1
    rw [hv] at hr
    refine ⟨v,fun _=>hr.2,?_⟩
    refine call_of_wp zt140 rfl ?_
    repeat (first|apply wp_as|apply wp_ss|refine wr (by simp [w1,w2,h1,h2,h2',h3,w3,hn0,hv];with_reducible rfl) ?_|refine wq (by simp [w1,w2,h1,h2,h2',h3,w3,hn0,hv];with_reducible rfl) ?_|refine wt (by simpa [w1,w2,h1,h2,h2',h3,w3,hn0,hv]) ?_|refine wf (by simpa [w1,w2,h1,h2,h2',h3,w3,hn0,hv]) ?_|refine xt (by simpa [w1,w2,h1,h2,h2',h3,w3,hn0,hv]) ?_|refine xf (by simpa [w1,w2,h1,h2,h2',h3,w3,hn0,hv]) ?_|apply wp_bs|apply wp_b|refine wp_sr ?_|refine wp_sx ?_|refine wp_ret' ?_|refine wp_skip' ?_|refine wp_exit' ?_)
    simp [zi140]
  have hl0:0 < code.length:=by omega
  have hlen:=hc.1
  obtain ⟨i1,hi1,m1⟩:∃ i1:Nat,i1 < code.length∧(cnt:Int).tmod (code.length:Int)=(i1:Int) :=
    ⟨cnt % code.length,Nat.mod_lt _ hl0,rfl⟩
  obtain ⟨i2,hi2,m2⟩:∃ i2:Nat,i2 < code.length∧((cnt:Int) * 7+3).tmod (code.length:Int)=(i2:Int) :=
    ⟨(cnt * 7+3) % code.length,Nat.mod_lt _ hl0,rfl⟩
  obtain ⟨q,hq,m3⟩:∃ q:Nat,q≤cnt∧(cnt:Int).tdiv (code.length:Int)=(q:Int) :=
    ⟨cnt / code.length,Nat.div_le_self _ _,rfl⟩
  have hb1:=hc.2 code[i1] (List.getElem_mem hi1)
  have hb2:=hc.2 code[i2] (List.getElem_mem hi2)
  generalize hx1:code[i1]=b1 at hb1
  generalize hx2:code[i2]=b2 at hb2
  have v1:IntKind.i64.wrap b1=b1:=wrap64 (by omega) (by omega)
  have v2:IntKind.i64.wrap b2=b2:=wrap64 (by omega) (by omega)
  have v3:IntKind.i64.wrap (b1 * 131)=b1 * 131:=wrap64 (by omega) (by omega)
  have v4:IntKind.i64.wrap (b2 * 1117)=b2 * 1117:=wrap64 (by omega) (by omega)
  have v5:IntKind.i64.wrap (b1 * 131+b2 * 1117)=b1 * 131+b2 * 1117:=wrap64 (by omega) (by omega)
  have v6:IntKind.i64.wrap ((cnt:Int) * 7)=(cnt:Int) * 7:=wrap64 (by omega) (by omega)
  have v7:IntKind.i64.wrap ((cnt:Int) * 7+3)=(cnt:Int) * 7+3:=wrap64 (by omega) (by omega)
  have v8:IntKind.i64.wrap ((cnt:Int) * 29)=(cnt:Int) * 29:=wrap64 (by omega) (by omega)
  have v9:IntKind.i64.wrap (q:Int)=(q:Int):=wrap64 (by omega) (by omega)
  have v10:IntKind.i64.wrap ((q:Int) * 53)=(q:Int) * 53:=wrap64 (by omega) (by omega)
  have v11:IntKind.i64.wrap (b1 * 131+b2 * 1117+(cnt:Int) * 29)=b1 * 131+b2 * 1117+(cnt:Int) * 29:=wrap64 (by omega) (by omega)
  obtain ⟨x,hx,ex⟩:∃ x:Nat,x < 2 ^ 40∧b1 * 131+b2 * 1117+(cnt:Int) * 29+(q:Int) * 53=(x:Int) :=
    ⟨(b1 * 131+b2 * 1117+(cnt:Int) * 29+(q:Int) * 53).toNat,by omega,by omega⟩
  have v12:IntKind.i64.wrap (x:Int)=(x:Int):=wrap64 (by omega) (by omega)
  obtain ⟨y,hy,ey⟩:∃ y:Nat,y < 2 ^ 40∧(x:Int).tdiv 64=(y:Int):=⟨x / 64,by omega,rfl⟩
  have ey2:(x:Int) / 64=(y:Int):=ey
  have v13:IntKind.i64.wrap (y:Int)=(y:Int):=wrap64 (by omega) (by omega)
  obtain ⟨z,hz,ez⟩:=xor_ok x y hx hy
  have hr:=tmod_range (x:=(z:Int)) (by omega) (n:=n) (by omega)
  obtain ⟨v,hv⟩:=Int.eq_ofNat_of_zero_le hr.1
  rw [hv] at hr
  refine ⟨v,fun _=>hr.2,?_⟩
  refine call_of_wp zt140 rfl ?_
  repeat (first|apply wp_as|apply wp_ss|refine wr (by simp [w1,w2,h1,h2,h2',h3,hn0,m1,m2,m3,hi1,hi2,hx1,hx2,v1,v2,v3,v4,v5,v6,v7,v8,v9,v10,v11,ex,v12,ey,ey2,v13,ez,hv];with_reducible rfl) ?_|refine wq (by simp [w1,w2,h1,h2,h2',h3,hn0,m1,m2,m3,hi1,hi2,hx1,hx2,v1,v2,v3,v4,v5,v6,v7,v8,v9,v10,v11,ex,v12,ey,ey2,v13,ez,hv];with_reducible rfl) ?_|refine wt (by simpa [w1,w2,h1,h2,h2',h3,hn0,m1,m2,m3,hi1,hi2,hx1,hx2,v1,v2,v3,v4,v5,v6,v7,v8,v9,v10,v11,ex,v12,ey,ey2,v13,ez,hv]) ?_|refine wf (by simpa [w1,w2,h1,h2,h2',h3,hn0,m1,m2,m3,hi1,hi2,hx1,hx2,v1,v2,v3,v4,v5,v6,v7,v8,v9,v10,v11,ex,v12,ey,ey2,v13,ez,hv]) ?_|refine xt (by simpa [w1,w2,h1,h2,h2',h3,hn0,m1,m2,m3,hi1,hi2,hx1,hx2,v1,v2,v3,v4,v5,v6,v7,v8,v9,v10,v11,ex,v12,ey,ey2,v13,ez,hv]) ?_|refine xf (by simpa [w1,w2,h1,h2,h2',h3,hn0,m1,m2,m3,hi1,hi2,hx1,hx2,v1,v2,v3,v4,v5,v6,v7,v8,v9,v10,v11,ex,v12,ey,ey2,v13,ez,hv]) ?_|apply wp_bs|apply wp_b|refine wp_sr ?_|refine wp_sx ?_|refine wp_ret' ?_|refine wp_skip' ?_|refine wp_exit' ?_)
  simp [zi140]
theorem ev_newReader (code:List Int) (c:Bool) (M:List Boxes) (hl:code.length≤274877906944) :
    ∃ c',Ev tb zl137 [] [.lst 1 (bytes code) c] M ⟨.bptr M.length 0 0,[],M,[R (code.take 2000) c' 0]⟩:=by
  have hi:((code.length:Int)≤2000) ↔ code.length≤2000:=by omega
  by_cases h:2000 < code.length
  · refine ⟨false,?_⟩
    have h2:¬ code.length≤2000:=by omega
    have h3:(2000:Int) < code.length:=by omega
    refine call_of_wp zt137 rfl ?_
    repeat (first|apply wp_as|apply wp_ss|refine wr (by simp [h,h2,h3,show 2000≤code.length by omega,natOf];with_reducible rfl) ?_|refine wq (by simp [h,h2,h3,show 2000≤code.length by omega,natOf];with_reducible rfl) ?_|refine wt (by simpa [h,h2,h3,show 2000≤code.length by omega,natOf]) ?_|refine wf (by simpa [h,h2,h3,show 2000≤code.length by omega,natOf]) ?_|refine xt (by simpa [h,h2,h3,show 2000≤code.length by omega,natOf]) ?_|refine xf (by simpa [h,h2,h3,show 2000≤code.length by omega,natOf]) ?_|apply wp_bs|apply wp_b|refine wp_sr ?_|refine wp_sx ?_|refine wp_ret' ?_|refine wp_skip' ?_|refine wp_exit' ?_)
    simp [zi137,h2,h3]
    intro _;omega
  · refine ⟨c,?_⟩
    have h2:code.length≤2000:=by omega
    have h3:¬ (2000:Int) < code.length:=by omega
    refine call_of_wp zt137 rfl ?_
    repeat (first|apply wp_as|apply wp_ss|refine wr (by simp [h,h2,h3];with_reducible rfl) ?_|refine wq (by simp [h,h2,h3];with_reducible rfl) ?_|refine wt (by simpa [h,h2,h3]) ?_|refine wf (by simpa [h,h2,h3]) ?_|refine xt (by simpa [h,h2,h3]) ?_|refine xf (by simpa [h,h2,h3]) ?_|apply wp_bs|apply wp_b|refine wp_sr ?_|refine wp_sx ?_|refine wp_ret' ?_|refine wp_skip' ?_|refine wp_exit' ?_)
    simp [zi137,List.take_of_length_le h2]
theorem ev_one (code:List Int) (c:Bool) (hc:CodeOk code) (cnt:Nat) (hn:cnt≤2000000) (xs:List Int) (d:Bool) (hl:0 < xs.length∧xs.length≤1000) (bs:Boxes) (Ms:List Boxes) :
    ∃ x:Int,x ∈ xs∧Ev tb zl139 [] [.bptr 0 0 0,L xs d] ((R code c cnt::bs)::Ms) ⟨I x,[],(R code c ((cnt+1:Nat):Int)::bs)::Ms,[]⟩:=by
  obtain ⟨v,hv,e⟩:=ev_pick code c hc cnt hn (xs.length:Int) (by omega) bs (Ms++[[]])
  have hv:=hv (by omega)
  have hv2:v < xs.length:=by omega
  have e1:=ev_lim e
  refine ⟨xs[v],List.getElem_mem hv2,?_⟩
  refine call_of_wp zt139 rfl ?_
  repeat (first|apply wp_as|apply wp_ss|refine wr (by simp [e1,hv2];with_reducible rfl) ?_|refine wq (by simp [e1,hv2];with_reducible rfl) ?_|refine wt (by simpa [e1,hv2]) ?_|refine wf (by simpa [e1,hv2]) ?_|refine xt (by simpa [e1,hv2]) ?_|refine xf (by simpa [e1,hv2]) ?_|apply wp_bs|apply wp_b|refine wp_sr ?_|refine wp_sx ?_|refine wp_ret' ?_|refine wp_skip' ?_|refine wp_exit' ?_)
  simp [zi139]
end Go.Idl
namespace Go.Idl
open Go
def eds (xs:List (Int×Int)):List (List IV):=xs.map fun e=>[I e.1,I e.2]
abbrev L2 (xs:List (Int×Int)) (c:Bool:=false):IV:=.lst 2 (eds xs) c
abbrev O2 (xs:List (Int×Int)):IV:=.own 2 (eds xs)
@[simp] theorem eds_len (xs:List (Int×Int)):(eds xs).length=xs.length:=by simp [eds]
@[simp] theorem eds_nil:eds []=[]:=rfl
@[simp] theorem eds_take (xs:List (Int×Int)) (n:Nat):(eds xs).take n=eds (xs.take n):=by simp [eds,List.map_take]
@[simp] theorem eds_drop (xs:List (Int×Int)) (n:Nat):(eds xs).drop n=eds (xs.drop n):=by simp [eds,List.map_drop]
@[simp] theorem eds_app (xs ys:List (Int×Int)):eds xs++eds ys=eds (xs++ys):=by simp [eds]
@[simp] theorem eds_one (xs:List (Int×Int)) (a b:Int):eds xs++[[IV.sc (.int .i64 a),IV.sc (.int .i64 b)]]=eds (xs++[(a,b)]):=by simp [eds]
@[simp] theorem eds_get? (xs:List (Int×Int)) (i:Nat):(eds xs)[i]? = xs[i]?.map fun e=>[IV.sc (.int .i64 e.1),IV.sc (.int .i64 e.2)]:=by simp [eds]
@[simp] theorem eds_get (xs:List (Int×Int)) (i:Nat) (h:i < (eds xs).length):(eds xs)[i]=[IV.sc (.int .i64 (xs[i]'(by simpa [eds] using h)).1),IV.sc (.int .i64 (xs[i]'(by simpa [eds] using h)).2)]:=by simp [eds]
@[simp] theorem eds_emp (xs:List (Int×Int)):(eds xs).isEmpty=xs.isEmpty:=by cases xs <;> rfl
@[simp] theorem eds_set (xs:List (Int×Int)) (i:Nat) (a b:Int):(eds xs).set i [IV.sc (.int .i64 a),IV.sc (.int .i64 b)]=eds (xs.set i (a,b)):=by
  simp [eds,List.map_set]
@[simp] theorem eds_all1 (xs:List (Int×Int)):((eds xs).all fun x=>x.all IV.plain1)=true:=by
  induction xs with
  | nil=>rfl
  | cons x xs ih=>simp only [eds,List.map_cons,List.all_cons] at *;rw [ih];rfl
@[simp] theorem eds_all2 (xs:List (Int×Int)):((eds xs).all fun x=>x.all IV.isData)=true:=by
  induction xs with
  | nil=>rfl
  | cons x xs ih=>simp only [eds,List.map_cons,List.all_cons] at *;rw [ih];rfl
@[simp] theorem eds_noLst (xs:List (Int×Int)):noLstLL (eds xs)=true:=by
  induction xs with
  | nil=>rfl
  | cons x xs ih=>simp only [eds,List.map_cons,noLstLL,noLstL,noLstV] at *;rw [ih];rfl
@[simp] theorem frz_eds (xs:List (Int×Int)):frzLL (eds xs)=eds xs:=by
  induction xs with
  | nil=>rfl
  | cons x xs ih=>simp only [eds,List.map_cons,frzLL,frzL,frzV] at *;rw [ih]
def row (a b:Nat):Nat→List (Int×Int)
  | 0=>[]
  | m+1=>((a:Int),(b:Int))::row a (b+1) m
def prsF (a:Nat):Nat→List (Int×Int)
  | 0=>[]
  | m+1=>row a (a+1) m++prsF (a+1) m
def prs (n:Nat):List (Int×Int):=prsF 0 n
theorem row_len (a:Nat):∀ (m b:Nat),(row a b m).length=m
  | 0,b=>rfl
  | m+1,b=>by simp [row,row_len a m]
theorem prsF_len:∀ (m a:Nat),(prsF a m).length≤m * m
  | 0,a=>by simp [prsF]
  | m+1,a=>by
    have:=prsF_len m (a+1)
    have e:(m+1) * (m+1)=m * m+2 * m+1:=by rw [Nat.add_mul,Nat.mul_add];omega
    simp only [prsF,List.length_append,row_len]
    omega
theorem pairs_in (n a:Nat) (hn:n≤1000):∀ (m b:Nat) (acc:List (Int×Int)),b+m=n→acc.length+m≤2000000 →
    wp tb (.loop z138l8) { T:=[(0,I n),(3,O2 acc),(4,I a),(5,I b)],loc:=[],M:=[] }
      (fun ex st=>ex=.exit 2∧st={ T:=[(0,I n),(3,O2 (acc++row a b m)),(4,I a),(5,I n),(16,Bo false)],loc:=[],M:=[] }):=by
  intro m
  induction m with
  | zero =>
    intro b acc hb hl
    have h3:b=n:=hb
    subst h3
    refine wp_loop ?_
    repeat (first|apply wp_as|apply wp_ss|refine wr (by simp;with_reducible rfl) ?_|refine wq (by simp;with_reducible rfl) ?_|refine wt (by simpa) ?_|refine wf (by simpa) ?_|refine xt (by simpa) ?_|refine xf (by simpa) ?_|apply wp_bs|apply wp_b|refine wp_sr ?_|refine wp_sx ?_|refine wp_ret' ?_|refine wp_skip' ?_|refine wp_exit' ?_)
    simp [row]
  | succ m ih =>
    intro b acc hb hl
    have h1:(b:Int) < n:=by omega
    have w1:IntKind.i64.wrap ((b:Int)+1)=((b+1:Nat):Int):=wrapS (by omega)
    refine wp_loop ?_
    repeat (first|apply wp_as|apply wp_ss|refine wr (by simp [h1,w1,show acc.length≤274877906943 by omega];with_reducible rfl) ?_|refine wq (by simp [h1,w1,show acc.length≤274877906943 by omega];with_reducible rfl) ?_|refine wt (by simpa [h1,w1,show acc.length≤274877906943 by omega]) ?_|refine wf (by simpa [h1,w1,show acc.length≤274877906943 by omega]) ?_|refine xt (by simpa [h1,w1,show acc.length≤274877906943 by omega]) ?_|refine xf (by simpa [h1,w1,show acc.length≤274877906943 by omega]) ?_|apply wp_bs|apply wp_b|refine wp_sr ?_|refine wp_sx ?_|refine wp_ret' ?_|refine wp_skip' ?_|refine wp_exit' ?_)
    have:=ih (b+1) (acc++[((a:Int),(b:Int))]) (by omega) (by simp;omega)
    simp only [List.append_assoc,List.cons_append,List.nil_append] at this
    simp [row]
    exact this
theorem ev_pairs (n:Nat) (hn:n≤1000):Ev tb zl138 [] [I n] [] ⟨O2 (prs n),[],[],[]⟩:=by
  have loop:∀ (m a:Nat) (acc:List (Int×Int)),a+m=n→acc.length+m * m≤2000000 →
      wp tb (.loop z138l10) { T:=[(0,I n),(3,O2 acc),(4,I a)],loc:=[],M:=[] }
      (fun ex st=>ex=.exit 0∧st={ T:=[(0,I n),(3,O2 (acc++prsF a m)),(4,I n),(9,Bo false)],loc:=[],M:=[] }):=by
    intro m
    induction m with
    | zero =>
      intro a acc ha hl
      have h3:a=n:=ha
      subst h3
      refine wp_loop ?_
      repeat (first|apply wp_as|apply wp_ss|refine wr (by simp;with_reducible rfl) ?_|refine wq (by simp;with_reducible rfl) ?_|refine wt (by simpa) ?_|refine wf (by simpa) ?_|refine xt (by simpa) ?_|refine xf (by simpa) ?_|apply wp_bs|apply wp_b|refine wp_sr ?_|refine wp_sx ?_|refine wp_ret' ?_|refine wp_skip' ?_|refine wp_exit' ?_)
      simp [prsF]
    | succ m ih =>
      intro a acc ha hl
      have h1:(a:Int) < n:=by omega
      have w1:IntKind.i64.wrap ((a:Int)+1)=((a+1:Nat):Int):=wrapS (by omega)
      have e:(m+1) * (m+1)=m * m+2 * m+1:=by rw [Nat.add_mul,Nat.mul_add];omega
      refine wp_loop ?_
      repeat (first|apply wp_as|apply wp_ss|refine wr (by simp [h1,w1];with_reducible rfl) ?_|refine wq (by simp [h1,w1];with_reducible rfl) ?_|refine wt (by simpa [h1,w1]) ?_|refine wf (by simpa [h1,w1]) ?_|refine xt (by simpa [h1,w1]) ?_|refine xf (by simpa [h1,w1]) ?_|apply wp_bs|apply wp_b|refine wp_sr ?_|refine wp_sx ?_|refine wp_ret' ?_|refine wp_skip' ?_|refine wp_exit' ?_)
      refine wp_imp (pairs_in n a hn m (a+1) acc (by omega) (by omega)) ?_
      rintro ex st ⟨rfl,rfl⟩
      simp only [if_true]
      repeat (first|apply wp_as|apply wp_ss|refine wr (by simp [h1,w1];with_reducible rfl) ?_|refine wq (by simp [h1,w1];with_reducible rfl) ?_|refine wt (by simpa [h1,w1]) ?_|refine wf (by simpa [h1,w1]) ?_|refine xt (by simpa [h1,w1]) ?_|refine xf (by simpa [h1,w1]) ?_|apply wp_bs|apply wp_b|refine wp_sr ?_|refine wp_sx ?_|refine wp_ret' ?_|refine wp_skip' ?_|refine wp_exit' ?_)
      have:=ih (a+1) (acc++row a (a+1) m) (by omega) (by simp [row_len];omega)
      simp only [List.append_assoc] at this
      exact this
  have hnn:n * n≤1000 * 1000:=Nat.mul_le_mul hn hn
  refine call_of_wp zt138 rfl ?_
  repeat (first|apply wp_as|apply wp_ss|refine wr (by simp;with_reducible rfl) ?_|refine wq (by simp;with_reducible rfl) ?_|refine wt (by simpa) ?_|refine wf (by simpa) ?_|refine xt (by simpa) ?_|refine xf (by simpa) ?_|apply wp_bs|apply wp_b|refine wp_sr ?_|refine wp_sx ?_|refine wp_ret' ?_|refine wp_skip' ?_|refine wp_exit' ?_)
  refine wp_imp (loop n 0 [] (by omega) (by simp;omega)) ?_
  rintro ex st ⟨rfl,rfl⟩
  simp only [if_true]
  repeat (first|apply wp_as|apply wp_ss|refine wr (by simp;with_reducible rfl) ?_|refine wq (by simp;with_reducible rfl) ?_|refine wt (by simpa) ?_|refine wf (by simpa) ?_|refine xt (by simpa) ?_|refine xf (by simpa) ?_|apply wp_bs|apply wp_b|refine wp_sr ?_|refine wp_sx ?_|refine wp_ret' ?_|refine wp_skip' ?_|refine wp_exit' ?_)
  simp [zi138,prs]
abbrev Gr (n:Int) (es:List (Int×Int)) (c:Bool:=false):IV:=.agg [I n,L2 es c]
abbrev OG (n:Int) (es:List (Int×Int)):IV:=.agg [I n,O2 es]
def isE (a b:Int) (e:Int×Int):Bool:=decide (e.1=a) && decide (e.2=b) || decide (e.1=b) && decide (e.2=a)
def has (es:List (Int×Int)) (a b:Int):Bool:=es.any (isE a b)
end Go.Idl
namespace Go.Idl
open Go
theorem call_ex {f:Lab} {fn:IFun} (hf:tb f=some fn) {lent:List Nat} {args:List IV} {M:List Boxes} (hl:lent.all fn.keep.contains=true) {P:Ret→Prop}
    (h:wp tb fn.body { T:=args.zipIdx.map fun (v,i)=>(i,v),loc:=[],M:=M } fun ex st=>(ex=.normal ∨ ex=.ret)∧∃ r,P r∧finish fn lent st=some r):∃ r,P r∧Ev tb f lent args M r:=by
  obtain ⟨ex,st',⟨h1,r,hP,h2⟩,-,back⟩:=wp_sound h
  exact ⟨r,hP,call_of_wp hf hl (back _ ⟨h1,h2⟩)⟩
theorem pick' (code:List Int) (c:Bool) (hc:CodeOk code) (cnt:Nat) (hn:cnt≤2000000) (n:Int) (hn2:n≤2000000) (bs:Boxes) (Ms:List Boxes) :
    ∃ v k:Nat,(1≤n→(v:Int) < n)∧k≤cnt+1∧limF tb zl140 [] [.bptr 0 0 0,I n] ((R code c cnt::bs)::Ms)=some ⟨I v,[],(R code c k::bs)::Ms,[]⟩:=by
  obtain ⟨v,h,e⟩:=ev_pick code c hc cnt hn n hn2 bs Ms
  exact ⟨v,cnt+1,h,by omega,ev_lim e⟩
end Go.Idl
namespace Go.Idl
theorem sumB {B:Int} (hB:0≤B):∀ {xs:List Int},(∀ x ∈ xs,0≤x∧x≤B)→0≤xs.sum∧xs.sum≤B * xs.length
  | [],_=>by simp
  | x::r,h=>by
    have h1:=h x (by simp)
    have h2:=sumB hB (xs:=r) (fun y hy=>h y (by simp [hy]))
    have e:B * ((x::r).length:Int)=B * r.length+B:=by
      rw [List.length_cons,Int.natCast_add,Int.mul_add];simp
    rw [List.sum_cons,e]
    omega
def slk (s:List Int) (k:Nat):Int:=(k:Int) * ((k:Int) - 1) - (s.take k).sum+((s.drop k).map fun x:Int=>min x (k:Int)).sum
def slacks (d:List Int):List Int:=(List.range d.length).map fun i=>slk (fall d) (i+1)
theorem slacks_len (d:List Int):(slacks d).length=d.length:=by simp [slacks]
theorem slk_bound {s:List Int} {k:Nat} (hk:k≤7) (hl:s.length≤7) (h:∀ x ∈ s,0≤x∧x≤6):-100≤slk s k∧slk s k≤200:=by
  unfold slk
  have h1:=sumB (B:=6) (by omega) (xs:=s.take k) (fun x hx=>h x (List.mem_of_mem_take hx))
  have h2:=sumB (B:=6) (by omega) (xs:=(s.drop k).map fun x:Int=>min x k) (by
    intro x hx
    obtain ⟨y,hy,rfl⟩:=List.mem_map.1 hx
    have:=h y (List.mem_of_mem_drop hy)
    omega)
  have l1:(s.take k).length≤7:=by simp;omega
  have l2:((s.drop k).map fun x:Int=>min x k).length≤7:=by simp;omega
  have h3:(k:Int) * ((k:Int) - 1)≤7 * 6∧0≤(k:Int) * ((k:Int) - 1):=by
    cases k with
    | zero=>simp
    | succ n =>
      have e:((n+1:Nat):Int) - 1=(n:Int):=by omega
      rw [e]
      exact ⟨Int.mul_le_mul (by omega) (by omega) (by omega) (by omega),Int.mul_nonneg (by omega) (by omega)⟩
  generalize (k:Int) * ((k:Int) - 1)=q at *
  omega
def least (xs:List Int):Int:=xs.foldl (fun n x=>min n x) 0
end Go.Idl
namespace Go.Idl
open Go
abbrev Z:IV:=.lst 0 [] true
def Few (xs:List Int):Prop:=xs.length≤7∧∀ x ∈ xs,0≤x∧x≤6
theorem valid_few {xs:List Int} (h:valid xs=true):Few xs:=by
  simp only [valid,Bool.and_eq_true,decide_eq_true_eq,List.all_eq_true] at h
  refine ⟨h.1,fun x hx=>?_⟩
  have:=h.2 x hx
  omega
theorem Few.small {xs:List Int} (h:Few xs):SmallSum xs:=by
  refine ⟨by have:=h.1;omega,fun k=>?_⟩
  have h1:=sumB (B:=6) (by omega) (xs:=xs.take k) (fun x hx=>h.2 x (List.mem_of_mem_take hx))
  have h2:(xs.take k).length≤7:=by have:=h.1;simp;omega
  omega
theorem Few.take {xs:List Int} (h:Few xs) (k:Nat):Few (xs.take k):=⟨by have:=h.1;simp;omega,fun x hx=>h.2 x (List.mem_of_mem_take hx)⟩
theorem Few.drop {xs:List Int} (h:Few xs) (k:Nat):Few (xs.drop k):=⟨by have:=h.1;simp;omega,fun x hx=>h.2 x (List.mem_of_mem_drop hx)⟩
theorem Few.fall {xs:List Int} (h:Few xs):Few (fall xs):=⟨by rw [fall_len];exact h.1,fun x hx=>h.2 x (fall_mem.1 hx)⟩
theorem Few.sum {xs:List Int} (h:Few xs):0≤xs.sum∧xs.sum≤42:=by
  have h1:=sumB (B:=6) (by omega) h.2
  have:=h.1
  omega
def mapR (n:Nat) (g:Nat→Int):List Int:=(List.range n).map g
theorem mapR_succ_set {n i:Nat} (g:Nat→Int) (h:i < n):(mapR i g++List.replicate (n - i) 0).set i (g i)=mapR (i+1) g++List.replicate (n - (i+1)) 0:=by
  have e:n - i=(n - (i+1))+1:=by omega
  rw [e,List.replicate_succ,List.set_append_right _ _ (by simp [mapR])]
  simp [mapR,List.range_succ]
@[simp] theorem ints_rep (n:Nat):List.replicate n [IV.sc (.int .i64 0)]=ints (List.replicate n 0):=by simp [ints]
theorem ev_each (xs:List Int) (c:Bool) (F:Lab) (caps:List IV) (M:List Boxes) (g:Nat→Int) (hv:valid xs=true)
    (hF:∀ k,k < xs.length→Ev tb F [] (I k::caps) (M++[[]]) ⟨I (g k),[],M++[[]],[]⟩) :
    Ev tb zl35 [] [L xs c,.fn F caps] M ⟨O (mapR xs.length g),[],M,[]⟩:=by
  have hl:xs.length≤7:=(valid_few hv).1
  have e1:=ev_lim (ev_ValidDegrees xs c (by omega))
  have loop:∀ (m i:Nat),i+m=xs.length→wp tb (.loop z35l9) { T:=[(1,.fn F caps),(5,O (mapR i g++List.replicate (xs.length - i) 0)),(14,I xs.length),(15,I i)],loc:=[],M:=M }
      (fun ex st=>ex=.exit 0∧st={ T:=[(1,.fn F caps),(5,O (mapR xs.length g)),(14,I xs.length),(15,I xs.length),(16,Bo false)],loc:=[],M:=M }):=by
    intro m
    induction m with
    | zero =>
      intro i hi
      have h3:i=xs.length:=hi
      subst h3
      refine wp_loop ?_
      repeat (first|apply wp_as|apply wp_ss|refine wr (by simp;with_reducible rfl) ?_|refine wq (by simp;with_reducible rfl) ?_|refine wt (by simpa) ?_|refine wf (by simpa) ?_|refine xt (by simpa) ?_|refine xf (by simpa) ?_|apply wp_bs|apply wp_b|refine wp_sr ?_|refine wp_sx ?_|refine wp_ret' ?_|refine wp_skip' ?_|refine wp_exit' ?_)
      exact ⟨rfl,rfl⟩
    | succ m ih =>
      intro i hi
      have hi2:i < xs.length:=by omega
      have e2:=ev_lim (hF i hi2)
      have w2:IntKind.i64.wrap ((i:Int)+1)=((i+1:Nat):Int):=wrapS (by omega)
      have hln:(mapR i g).length=i:=by simp [mapR]
      have hlt:i < i+(xs.length - i):=by omega
      have hs:=mapR_succ_set g hi2
      refine wp_loop ?_
      repeat (first|apply wp_as|apply wp_ss|refine wr (by simp [e2,hi2,w2,hln,hlt,hs];with_reducible rfl) ?_|refine wq (by simp [e2,hi2,w2,hln,hlt,hs];with_reducible rfl) ?_|refine wt (by simpa [e2,hi2,w2,hln,hlt,hs]) ?_|refine wf (by simpa [e2,hi2,w2,hln,hlt,hs]) ?_|refine xt (by simpa [e2,hi2,w2,hln,hlt,hs]) ?_|refine xf (by simpa [e2,hi2,w2,hln,hlt,hs]) ?_|apply wp_bs|apply wp_b|refine wp_sr ?_|refine wp_sx ?_|refine wp_ret' ?_|refine wp_skip' ?_|refine wp_exit' ?_)
      exact ih (i+1) (by omega)
  refine call_of_wp zt35 rfl ?_
  repeat (first|apply wp_as|apply wp_ss|refine wr (by simp [e1,hv,show xs.length≤274877906944 by omega];with_reducible rfl) ?_|refine wq (by simp [e1,hv,show xs.length≤274877906944 by omega];with_reducible rfl) ?_|refine wt (by simpa [e1,hv,show xs.length≤274877906944 by omega]) ?_|refine wf (by simpa [e1,hv,show xs.length≤274877906944 by omega]) ?_|refine xt (by simpa [e1,hv,show xs.length≤274877906944 by omega]) ?_|refine xf (by simpa [e1,hv,show xs.length≤274877906944 by omega]) ?_|apply wp_bs|apply wp_b|refine wp_sr ?_|refine wp_sx ?_|refine wp_ret' ?_|refine wp_skip' ?_|refine wp_exit' ?_)
  have:=loop xs.length 0 (by simp)
  simp [mapR] at this
  refine wp_imp this ?_
  rintro ex st ⟨rfl,rfl⟩
  simp only [if_true]
  repeat (first|apply wp_as|apply wp_ss|refine wr (by simp;with_reducible rfl) ?_|refine wq (by simp;with_reducible rfl) ?_|refine wt (by simpa) ?_|refine wf (by simpa) ?_|refine xt (by simpa) ?_|refine xf (by simpa) ?_|apply wp_bs|apply wp_b|refine wp_sr ?_|refine wp_sx ?_|refine wp_ret' ?_|refine wp_skip' ?_|refine wp_exit' ?_)
  simp [zi35,mapR]
  rw [List.take_of_length_le (by simp)]
theorem min_if (a b:Int):(if b < a then b else a)=min a b:=by split <;> omega
theorem ev_SlacksOf_F1 (s:List Int) (i:Nat) (hi:i < s.length) (hs:Few s) :
    Ev tb zl19 [] [I i,.bptr 0 0 0] [[[O s]],[]] ⟨I (slk s (i+1)),[],[[[O s]],[]],[]⟩:=by
  have hl:=hs.1
  have e1:=ev_lim (ev_sum (s.take (i+1)) false (hs.take _).small)
  have hb1:=(hs.take (i+1)).sum
  have hd:=hs.drop (i+1)
  generalize hr:s.drop (i+1)=r at hd
  have hrl:r.length=s.length - (i+1):=by rw [← hr];simp
  have loop:∀ (m j:Nat) (n:Int),j+m=r.length→0≤n+100→n≤1000+6 * j→wp tb (.loop z19l8) { T:=[(1,.bptr 0 0 0),(4,I ((i+1:Nat):Int)),(5,I n),(21,.arr (.B 0 0) 0 [] 1 (i+1) (s.length - (i+1)) false),(22,I ((s.length - (i+1):Nat):Int)),(23,I j)],loc:=[],M:=[[[O s]],[]] }
      (fun ex st=>ex=.exit 0∧st={ T:=[(1,.bptr 0 0 0),(4,I ((i+1:Nat):Int)),(5,I (n+((r.drop j).map fun x:Int=>min x ((i+1:Nat):Int)).sum)),(21,.arr (.B 0 0) 0 [] 1 (i+1) (s.length - (i+1)) false),(22,I ((s.length - (i+1):Nat):Int)),(23,I ((s.length - (i+1):Nat):Int)),(24,Bo false)],loc:=[],M:=[[[O s]],[]] }):=by
    intro m
    induction m with
    | zero =>
      intro j n hj h0 h1
      obtain ⟨h1,h2⟩:=drop_end hj
      have h3:j=s.length - (i+1):=by omega
      subst h3
      refine wp_loop ?_
      repeat (first|apply wp_as|apply wp_ss|refine wr (by simp;with_reducible rfl) ?_|refine wq (by simp;with_reducible rfl) ?_|refine wt (by simpa) ?_|refine wf (by simpa) ?_|refine xt (by simpa) ?_|refine xf (by simpa) ?_|apply wp_bs|apply wp_b|refine wp_sr ?_|refine wp_sx ?_|refine wp_ret' ?_|refine wp_skip' ?_|refine wp_exit' ?_)
      rw [h2];simp
    | succ m ih =>
      intro j n hj h0 h1
      obtain ⟨hi2,h2,h3⟩:=drop_get hj
      have hx:=hd.2 _ h3
      have hlr:=hd.1
      have w2:IntKind.i64.wrap ((j:Int)+1)=((j+1:Nat):Int):=wrapS (by omega)
      have w3:IntKind.i64.wrap (n+min r[j] ((i:Int)+1))=n+min r[j] ((i:Int)+1):=wrap64 (by omega) (by omega)
      rw [h2]
      refine wp_loop ?_
      have hj3:i+1+j < s.length:=by omega
      have hj4:j < s.length - (i+1):=by omega
      have hg:s[i+1+j]=r[j]:=by subst hr;simp
      repeat (first|apply wp_as|apply wp_ss|refine wr (by simp [hi2,w2,w3,min_if,hj3,hj4,hg];with_reducible rfl) ?_|refine wq (by simp [hi2,w2,w3,min_if,hj3,hj4,hg];with_reducible rfl) ?_|refine wt (by simpa [hi2,w2,w3,min_if,hj3,hj4,hg]) ?_|refine wf (by simpa [hi2,w2,w3,min_if,hj3,hj4,hg]) ?_|refine xt (by simpa [hi2,w2,w3,min_if,hj3,hj4,hg]) ?_|refine xf (by simpa [hi2,w2,w3,min_if,hj3,hj4,hg]) ?_|apply wp_bs|apply wp_b|refine wp_sr ?_|refine wp_sx ?_|refine wp_ret' ?_|refine wp_skip' ?_|refine wp_exit' ?_)
      have:=ih (j+1) (n+min r[j] ((i:Int)+1)) (by omega) (by omega) (by omega)
      simp only [List.map_cons,List.sum_cons,Int.natCast_add,Int.natCast_one,Int.add_assoc] at this ⊢
      exact this
  have hq:(((i:Int)+1) * (i:Int))≤1000∧0≤((i:Int)+1) * (i:Int):=by
    have h1:((i:Int)+1) * (i:Int)≤7 * 7:=Int.mul_le_mul (by omega) (by omega) (by omega) (by omega)
    exact ⟨by omega,Int.mul_nonneg (by omega) (by omega)⟩
  generalize hm:((i:Int)+1) * (i:Int)=q at hq
  have w1:IntKind.i64.wrap ((i:Int)+1)=(i:Int)+1:=wrap64 (by omega) (by omega)
  have w2:IntKind.i64.wrap (i:Int)=(i:Int):=wrap64 (by omega) (by omega)
  have w3:IntKind.i64.wrap q=q:=wrap64 (by omega) (by omega)
  have w4:IntKind.i64.wrap (q - (s.take (i+1)).sum)=q - (s.take (i+1)).sum:=wrap64 (by omega) (by omega)
  refine call_of_wp zt19 rfl ?_
  repeat (first|apply wp_as|apply wp_ss|refine wr (by simp [e1,w1,w2,w3,w4,hm,hi,show i+1≤s.length by omega];with_reducible rfl) ?_|refine wq (by simp [e1,w1,w2,w3,w4,hm,hi,show i+1≤s.length by omega];with_reducible rfl) ?_|refine wt (by simpa [e1,w1,w2,w3,w4,hm,hi,show i+1≤s.length by omega]) ?_|refine wf (by simpa [e1,w1,w2,w3,w4,hm,hi,show i+1≤s.length by omega]) ?_|refine xt (by simpa [e1,w1,w2,w3,w4,hm,hi,show i+1≤s.length by omega]) ?_|refine xf (by simpa [e1,w1,w2,w3,w4,hm,hi,show i+1≤s.length by omega]) ?_|apply wp_bs|apply wp_b|refine wp_sr ?_|refine wp_sx ?_|refine wp_ret' ?_|refine wp_skip' ?_|refine wp_exit' ?_)
  have:=loop r.length 0 (q - (s.take (i+1)).sum) (by simp) (by omega) (by omega)
  refine wp_imp this ?_
  rintro ex st ⟨rfl,rfl⟩
  simp only [if_true]
  repeat (first|apply wp_as|apply wp_ss|refine wr (by simp;with_reducible rfl) ?_|refine wq (by simp;with_reducible rfl) ?_|refine wt (by simpa) ?_|refine wf (by simpa) ?_|refine xt (by simpa) ?_|refine xf (by simpa) ?_|apply wp_bs|apply wp_b|refine wp_sr ?_|refine wp_sx ?_|refine wp_ret' ?_|refine wp_skip' ?_|refine wp_exit' ?_)
  have h1:(((i+1:Nat):Int) - 1)=(i:Int):=by omega
  simp only [slk,hr,h1]
  rw [show ((i+1:Nat):Int) * (i:Int)=q from hm]
  simp [zi19]
theorem ev_SlacksOf (d:List Int) (c:Bool) (hv:valid d=true):Ev tb zl18 [] [L d c] [] ⟨O (slacks d),[],[],[]⟩:=by
  have hf:=(valid_few hv).fall
  have hl:=(valid_few hv).1
  have e1:=ev_lim (ev_falling d c (by omega))
  have e2:=ev_lim (ev_each d c zl19 [.bptr 0 0 0] [[[O (fall d)]]] (fun k=>slk (fall d) (k+1)) hv (fun k hk=>ev_SlacksOf_F1 (fall d) k (by rw [fall_len];exact hk) hf))
  refine call_of_wp zt18 rfl ?_
  repeat (first|apply wp_as|apply wp_ss|refine wr (by simp [e1,e2];with_reducible rfl) ?_|refine wq (by simp [e1,e2];with_reducible rfl) ?_|refine wt (by simpa [e1,e2]) ?_|refine wf (by simpa [e1,e2]) ?_|refine xt (by simpa [e1,e2]) ?_|refine xf (by simpa [e1,e2]) ?_|apply wp_bs|apply wp_b|refine wp_sr ?_|refine wp_sx ?_|refine wp_ret' ?_|refine wp_skip' ?_|refine wp_exit' ?_)
  simp [zi18,slacks,mapR]
def firstFailing (d:List Int):Int:=idx (fun x=>decide (x < 0)) 0 (slacks d)+1
theorem idx_bound (p:Int→Bool):∀ (xs:List Int) (i:Int),0≤i→-1≤idx p i xs∧idx p i xs≤i+xs.length
  | [],i,h=>by simp [idx];omega
  | x::r,i,h=>by
    have:=idx_bound p r (i+1) (by omega)
    unfold idx
    split
    · simp;omega
    · simp;omega
theorem ev_FirstFailing (d:List Int) (c:Bool) (hv:valid d=true):Ev tb zl7 [] [L d c] [] ⟨I (firstFailing d),[],[],[]⟩:=by
  have hl:=(valid_few hv).1
  have e1:=ev_lim (ev_SlacksOf d c hv)
  have e2:=ev_lim (ev_IndexFunc (slacks d) false zl8 [] [[]] _ (by rw [slacks_len];omega) (fun x _=>ev_FirstFailing_F1 x [[],[]]))
  have hb:=idx_bound (fun x=>decide (x < 0)) (slacks d) 0 (by omega)
  rw [slacks_len] at hb
  have w1:IntKind.i64.wrap (idx (fun x=>decide (x < 0)) 0 (slacks d)+1)=firstFailing d:=wrap64 (by omega) (by omega)
  refine call_of_wp zt7 rfl ?_
  repeat (first|apply wp_as|apply wp_ss|refine wr (by simp [e1,e2,w1];with_reducible rfl) ?_|refine wq (by simp [e1,e2,w1];with_reducible rfl) ?_|refine wt (by simpa [e1,e2,w1]) ?_|refine wf (by simpa [e1,e2,w1]) ?_|refine xt (by simpa [e1,e2,w1]) ?_|refine xf (by simpa [e1,e2,w1]) ?_|apply wp_bs|apply wp_b|refine wp_sr ?_|refine wp_sx ?_|refine wp_ret' ?_|refine wp_skip' ?_|refine wp_exit' ?_)
  simp [zi7]
def graphic (d:List Int):Bool:=valid d && decide (d.sum % 2=0) && (slacks d).all fun x=>decide (0≤x)
theorem idx_none (p:Int→Bool) (xs:List Int) (i:Int) (h:0≤i):(idx p i xs+1=0) ↔ xs.any p=false:=by
  have h1:=idx_ge p xs i h
  have h2:=(idx_bound p xs i h).1
  cases hx:xs.any p with
  | true=>rw [hx] at h1;simp at h1;simp;omega
  | false=>rw [hx] at h1;simp at h1;simp;omega
theorem firstFailing_none (d:List Int):firstFailing d=0 ↔ ((slacks d).all fun x=>decide (0≤x))=true:=by
  rw [firstFailing,idx_none _ _ _ (by omega)]
  rw [← Bool.not_eq_true,List.all_eq_true,List.any_eq_true]
  constructor
  · intro h x hx
    have:=fun hp=>h ⟨x,hx,hp⟩
    simp at this ⊢
    exact this
  · rintro h ⟨x,hx,hp⟩
    have:=h x hx
    simp at this hp
    omega
theorem ev_IsGraphic (d:List Int) (c:Bool) (hl:d.length≤2000000):Ev tb zl10 [] [L d c] [] ⟨Bo (graphic d),[],[],[]⟩:=by
  have e1:=ev_lim (ev_ValidDegrees d c hl)
  cases hv:valid d with
  | false =>
    refine call_of_wp zt10 rfl ?_
    repeat (first|apply wp_as|apply wp_ss|refine wr (by simp [e1,hv];with_reducible rfl) ?_|refine wq (by simp [e1,hv];with_reducible rfl) ?_|refine wt (by simpa [e1,hv]) ?_|refine wf (by simpa [e1,hv]) ?_|refine xt (by simpa [e1,hv]) ?_|refine xf (by simpa [e1,hv]) ?_|apply wp_bs|apply wp_b|refine wp_sr ?_|refine wp_sx ?_|refine wp_ret' ?_|refine wp_skip' ?_|refine wp_exit' ?_)
    simp [zi10,graphic,hv]
  | true =>
    have hs:=(valid_few hv)
    have e2:=ev_lim (ev_sum d c hs.small)
    have e3:=ev_lim (ev_FirstFailing d c hv)
    have h2:d.sum.tmod 2=d.sum % 2:=Int.tmod_eq_emod_of_nonneg hs.sum.1
    have hr:=firstFailing_none d
    have w1:IntKind.i64.wrap (d.sum.tmod 2)=d.sum % 2:=by rw [h2];exact wrap64 (by omega) (by omega)
    by_cases hp:d.sum % 2=0
    · refine call_of_wp zt10 rfl ?_
      repeat (first|apply wp_as|apply wp_ss|refine wr (by simp [e1,hv,e2,e3,w1,h2,hp];with_reducible rfl) ?_|refine wq (by simp [e1,hv,e2,e3,w1,h2,hp];with_reducible rfl) ?_|refine wt (by simpa [e1,hv,e2,e3,w1,h2,hp]) ?_|refine wf (by simpa [e1,hv,e2,e3,w1,h2,hp]) ?_|refine xt (by simpa [e1,hv,e2,e3,w1,h2,hp]) ?_|refine xf (by simpa [e1,hv,e2,e3,w1,h2,hp]) ?_|apply wp_bs|apply wp_b|refine wp_sr ?_|refine wp_sx ?_|refine wp_ret' ?_|refine wp_skip' ?_|refine wp_exit' ?_)
      simp [zi10,graphic,hv,hp]
      rw [Bool.eq_iff_iff,beq_iff_eq];exact hr
    · refine call_of_wp zt10 rfl ?_
      repeat (first|apply wp_as|apply wp_ss|refine wr (by simp [e1,hv,e2,e3,w1,h2,hp];with_reducible rfl) ?_|refine wq (by simp [e1,hv,e2,e3,w1,h2,hp];with_reducible rfl) ?_|refine wt (by simpa [e1,hv,e2,e3,w1,h2,hp]) ?_|refine wf (by simpa [e1,hv,e2,e3,w1,h2,hp]) ?_|refine xt (by simpa [e1,hv,e2,e3,w1,h2,hp]) ?_|refine xf (by simpa [e1,hv,e2,e3,w1,h2,hp]) ?_|apply wp_bs|apply wp_b|refine wp_sr ?_|refine wp_sx ?_|refine wp_ret' ?_|refine wp_skip' ?_|refine wp_exit' ?_)
      simp [zi10,graphic,hv,hp,hr]
end Go.Idl
namespace Go.Idl
open Go
def bump (o:List Int) (i:Nat):List Int:=o.set i (o.getD i 0+1)
def dfold (o:List Int) (es:List (Int×Int)):List Int:=es.foldl (fun o e=>bump (bump o e.1.toNat) e.2.toNat) o
def degs (n:Nat) (es:List (Int×Int)):List Int:=dfold (List.replicate n 0) es
def EdgesIn (n:Nat) (es:List (Int×Int)):Prop:=∀ e ∈ es,0≤e.1∧e.1 < n∧0≤e.2∧e.2 < n
theorem bump_len (o:List Int) (i:Nat):(bump o i).length=o.length:=by simp [bump]
theorem bump_eq {o:List Int} {i:Nat} (h:i < o.length):bump o i=o.set i (o[i]+1):=by
  simp [bump,List.getD_eq_getElem?_getD,List.getElem?_eq_getElem h]
theorem bump_bound {o:List Int} {i:Nat} {B:Int} (h:∀ x ∈ o,0≤x∧x≤B) (hB:0≤B):∀ x ∈ bump o i,0≤x∧x≤B+1:=by
  intro x hx
  rcases List.mem_or_eq_of_mem_set hx with hx | rfl
  · have:=h x hx;omega
  · rw [List.getD_eq_getElem?_getD]
    cases he:o[i]? with
    | none=>simp;omega
    | some y=>have:=h y (List.mem_of_getElem? he);simp;omega
theorem dfold_len:∀ (es:List (Int×Int)) (o:List Int),(dfold o es).length=o.length
  | [],o=>rfl
  | e::es,o=>by simp only [dfold,List.foldl_cons];rw [← dfold,dfold_len es];simp [bump_len]
def Low (B:Int) (d:List Int):Prop:=∀ x ∈ d,-B≤x∧x≤B
theorem Low.set {B:Int} {d:List Int} (h:Low B d) {i:Nat} {x:Int} (hx:-B≤x∧x≤B):Low B (d.set i x):=by
  intro y hy
  rcases List.mem_or_eq_of_mem_set hy with hy | rfl
  · exact h y hy
  · exact hx
theorem Low.app {B:Int} {d:List Int} (h:Low B d) {x:Int} (hx:-B≤x∧x≤B):Low B (d++[x]):=by
  intro y hy
  rcases List.mem_append.1 hy with hy | hy
  · exact h y hy
  · simp at hy;subst hy;exact hx
theorem Low.mono {B C:Int} {d:List Int} (h:Low B d) (hc:B≤C):Low C d:=fun x hx=>by have:=h x hx;omega
theorem one2 (code:List Int) (c:Bool) (hc:CodeOk code) (cnt:Nat) (hn:cnt≤2000000) (xs:List Int) (hl:0 < xs.length∧xs.length≤1000) (bs:Boxes) (Ms:List Boxes) :
    ∃ (x:Int) (k:Nat),x ∈ xs∧k≤cnt+1∧limF tb zl139 [] [.bptr 0 0 0,.lst 1 (ints xs) false] ((R code c cnt::bs)::Ms)=some ⟨I x,[],(R code c k::bs)::Ms,[]⟩:=by
  obtain ⟨v,h,e⟩:=ev_one code c hc cnt hn xs false hl bs Ms
  exact ⟨v,cnt+1,h,by omega,ev_lim e⟩
theorem max_if (a b:Int):(if a < b then b else a)=max a b:=by split <;> omega
end Go.Idl
namespace Go.Idl
open Go
def tab (t:List (List Int)):List (List IV):=t.map fun r=>[.lst 1 (ints r) false]
def oab (t:List (List Int)):List (List IV):=t.map fun r=>[.own 1 (ints r)]
abbrev TL (t:List (List Int)) (c:Bool:=false):IV:=.lst 1 (tab t) c
abbrev OT (t:List (List Int)):IV:=.own 1 (oab t)
@[simp] theorem tab_len (t:List (List Int)):(tab t).length=t.length:=by simp [tab]
@[simp] theorem oab_len (t:List (List Int)):(oab t).length=t.length:=by simp [oab]
@[simp] theorem oab_nil:oab []=[]:=rfl
@[simp] theorem tab_get? (t:List (List Int)) (i:Nat):(tab t)[i]? = t[i]?.map fun r=>[IV.lst 1 (ints r) false]:=by simp [tab]
@[simp] theorem tab_get (t:List (List Int)) (i:Nat) (h:i < (tab t).length):(tab t)[i]=[IV.lst 1 (ints (t[i]'(by simpa [tab] using h))) false]:=by simp [tab]
@[simp] theorem oab_get? (t:List (List Int)) (i:Nat):(oab t)[i]? = t[i]?.map fun r=>[IV.own 1 (ints r)]:=by simp [oab]
@[simp] theorem oab_get (t:List (List Int)) (i:Nat) (h:i < (oab t).length):(oab t)[i]=[IV.own 1 (ints (t[i]'(by simpa [oab] using h)))]:=by simp [oab]
@[simp] theorem oab_one (t:List (List Int)) (r:List Int):oab t++[[IV.own 1 (ints r)]]=oab (t++[r]):=by simp [oab]
@[simp] theorem oab_set (t:List (List Int)) (i:Nat) (r:List Int):(oab t).set i [IV.own 1 (ints r)]=oab (t.set i r):=by simp [oab,List.map_set]
@[simp] theorem oab_take (t:List (List Int)) (n:Nat):(oab t).take n=oab (t.take n):=by simp [oab,List.map_take]
@[simp] theorem frz_oab (t:List (List Int)):frzLL (oab t)=tab t:=by
  induction t with
  | nil=>rfl
  | cons x xs ih =>
    simp only [oab,tab,List.map_cons,frzLL,frzL,frzV] at *
    rw [ih]
    have:frzLL (ints x)=ints x:=by
      clear ih
      induction x with
      | nil=>rfl
      | cons y ys ih=>simp only [ints,List.map_cons,frzLL,frzL,frzV] at *;rw [ih]
    rw [this]
@[simp] theorem tab_all1 (t:List (List Int)):((tab t).all fun x=>x.all IV.plain1)=true:=by
  induction t with
  | nil=>rfl
  | cons x xs ih=>simp only [tab,List.map_cons,List.all_cons] at *;rw [ih];rfl
theorem drop_getA {α} {xs:List α} {i m:Nat} (h:i+(m+1)=xs.length):∃ h:i < xs.length,xs.drop i=xs[i]::xs.drop (i+1)∧xs[i] ∈ xs:=by
  have hi:i < xs.length:=by omega
  exact ⟨hi,List.drop_eq_getElem_cons hi,List.getElem_mem hi⟩
theorem drop_endA {α} {xs:List α} {i:Nat} (h:i+0=xs.length):xs[i]? = none∧xs.drop i=[]:=by
  have:i=xs.length:=by omega
  subst this
  simp
@[simp] theorem oab_noLst (t:List (List Int)):noLstLL (oab t)=true:=by
  induction t with
  | nil=>rfl
  | cons x xs ih =>
    simp only [oab,List.map_cons,noLstLL,noLstL,noLstV] at *
    rw [ih,ints_noLst];rfl
def g2 (t:List (List Int)) (a b:Nat):Int:=(t.getD a []).getD b 0
def rowOk (w:Nat) (r:List Int):Bool:=decide (r.length=w) && (decide (1≤(r.length:Int)) && decide ((r.length:Int)≤5)) && r.all fun x=>decide (0≤x) && decide (x≤1)
def mOk (t:List (List Int)):Bool:=(t.all (rowOk (t.getD 0 []).length)) && (decide (1≤(t.length:Int)) && decide ((t.length:Int)≤5))
theorem ev_ValidMatrix (t:List (List Int)) (c:Bool) (hl:t.length≤2000000) (hr:∀ r ∈ t,r.length≤2000000) :
    Ev tb zl27 [] [TL t c] [] ⟨Bo (mOk t),[],[],[]⟩:=by
  have loop:∀ (m i:Nat),i+m=t.length→wp tb (.loop z27l7) { T:=[(0,TL t c),(5,TL t c),(6,I t.length),(7,I i)],loc:=[],M:=[] }
      (fun ex st=>(ex=.exit 0∧((t.drop i).all (rowOk (t.getD 0 []).length))=true∧st={ T:=[(0,TL t c),(5,TL t c),(6,I t.length),(7,I t.length),(8,Bo false)],loc:=[],M:=[] }) ∨
        ex=.ret∧((t.drop i).all (rowOk (t.getD 0 []).length))=false∧st={ T:=[(2,Bo false)],loc:=[],M:=[] }):=by
    intro m
    induction m with
    | zero =>
      intro i hi
      obtain ⟨h1,h2⟩:=drop_endA hi
      have h3:i=t.length:=hi
      subst h3
      refine wp_loop ?_
      repeat (first|apply wp_as|apply wp_ss|refine wr (by simp;with_reducible rfl) ?_|refine wq (by simp;with_reducible rfl) ?_|refine wt (by simpa) ?_|refine wf (by simpa) ?_|refine xt (by simpa) ?_|refine xf (by simpa) ?_|apply wp_bs|apply wp_b|refine wp_sr ?_|refine wp_sx ?_|refine wp_ret' ?_|refine wp_skip' ?_|refine wp_exit' ?_)
      refine .inl ⟨rfl,by rw [h2];rfl,rfl⟩
    | succ m ih =>
      intro i hi
      obtain ⟨hi2,h2,h3⟩:=drop_getA hi
      have w2:IntKind.i64.wrap ((i:Int)+1)=((i+1:Nat):Int):=wrapS (by omega)
      have h0:0 < t.length:=by omega
      have e1:=ev_lim (ev_in (t[i].length:Int) 1 5)
      have e2:=ev_lim (ev_allIn t[i] false 0 1 (hr _ (List.getElem_mem hi2)))
      have hg:(t.getD 0 []).length=t[0].length:=by simp [List.getD_eq_getElem?_getD,List.getElem?_eq_getElem h0]
      rw [h2]
      by_cases ha:t[i].length=t[0].length
      rotate_left
      · refine wp_loop ?_
        repeat (first|apply wp_as|apply wp_ss|refine wr (by simp [hi2,h0,Int.ofNat_inj,ha];with_reducible rfl) ?_|refine wq (by simp [hi2,h0,Int.ofNat_inj,ha];with_reducible rfl) ?_|refine wt (by simpa [hi2,h0,Int.ofNat_inj,ha]) ?_|refine wf (by simpa [hi2,h0,Int.ofNat_inj,ha]) ?_|refine xt (by simpa [hi2,h0,Int.ofNat_inj,ha]) ?_|refine xf (by simpa [hi2,h0,Int.ofNat_inj,ha]) ?_|apply wp_bs|apply wp_b|refine wp_sr ?_|refine wp_sx ?_|refine wp_ret' ?_|refine wp_skip' ?_|refine wp_exit' ?_)
        refine .inr ⟨rfl,by simp only [List.all_cons,rowOk,hg,ha,decide_false,Bool.false_and],rfl⟩
      cases hb:(decide (1≤(t[i].length:Int)) && decide ((t[i].length:Int)≤5)) with
      | false =>
        rw [hb] at e1
        refine wp_loop ?_
        repeat (first|apply wp_as|apply wp_ss|refine wr (by simp [hi2,h0,Int.ofNat_inj,← ha,e1];with_reducible rfl) ?_|refine wq (by simp [hi2,h0,Int.ofNat_inj,← ha,e1];with_reducible rfl) ?_|refine wt (by simpa [hi2,h0,Int.ofNat_inj,← ha,e1]) ?_|refine wf (by simpa [hi2,h0,Int.ofNat_inj,← ha,e1]) ?_|refine xt (by simpa [hi2,h0,Int.ofNat_inj,← ha,e1]) ?_|refine xf (by simpa [hi2,h0,Int.ofNat_inj,← ha,e1]) ?_|apply wp_bs|apply wp_b|refine wp_sr ?_|refine wp_sx ?_|refine wp_ret' ?_|refine wp_skip' ?_|refine wp_exit' ?_)
        refine .inr ⟨rfl,by simp only [List.all_cons,rowOk,hb,Bool.false_and,Bool.and_false],rfl⟩
      | true =>
      rw [hb] at e1
      cases hc:(t[i].all fun x=>decide (0≤x) && decide (x≤1)) with
      | false =>
        rw [hc] at e2
        refine wp_loop ?_
        repeat (first|apply wp_as|apply wp_ss|refine wr (by simp [hi2,h0,Int.ofNat_inj,← ha,e1,e2];with_reducible rfl) ?_|refine wq (by simp [hi2,h0,Int.ofNat_inj,← ha,e1,e2];with_reducible rfl) ?_|refine wt (by simpa [hi2,h0,Int.ofNat_inj,← ha,e1,e2]) ?_|refine wf (by simpa [hi2,h0,Int.ofNat_inj,← ha,e1,e2]) ?_|refine xt (by simpa [hi2,h0,Int.ofNat_inj,← ha,e1,e2]) ?_|refine xf (by simpa [hi2,h0,Int.ofNat_inj,← ha,e1,e2]) ?_|apply wp_bs|apply wp_b|refine wp_sr ?_|refine wp_sx ?_|refine wp_ret' ?_|refine wp_skip' ?_|refine wp_exit' ?_)
        refine .inr ⟨rfl,by simp only [List.all_cons,rowOk,hc,Bool.false_and,Bool.and_false],rfl⟩
      | true =>
        rw [hc] at e2
        refine wp_loop ?_
        repeat (first|apply wp_as|apply wp_ss|refine wr (by simp [hi2,h0,Int.ofNat_inj,← ha,e1,e2,w2];with_reducible rfl) ?_|refine wq (by simp [hi2,h0,Int.ofNat_inj,← ha,e1,e2,w2];with_reducible rfl) ?_|refine wt (by simpa [hi2,h0,Int.ofNat_inj,← ha,e1,e2,w2]) ?_|refine wf (by simpa [hi2,h0,Int.ofNat_inj,← ha,e1,e2,w2]) ?_|refine xt (by simpa [hi2,h0,Int.ofNat_inj,← ha,e1,e2,w2]) ?_|refine xf (by simpa [hi2,h0,Int.ofNat_inj,← ha,e1,e2,w2]) ?_|apply wp_bs|apply wp_b|refine wp_sr ?_|refine wp_sx ?_|refine wp_ret' ?_|refine wp_skip' ?_|refine wp_exit' ?_)
        have:=ih (i+1) (by omega)
        have hro:rowOk (t.getD 0 []).length t[i]=true:=by simp only [rowOk,hg,← ha,hb,hc,decide_true,Bool.and_true]
        simp only [List.all_cons,hro,Bool.true_and] at this ⊢
        exact this
  have e1:=ev_lim (ev_in (t.length:Int) 1 5)
  refine call_of_wp zt27 rfl ?_
  repeat (first|apply wp_as|apply wp_ss|refine wr (by simp;with_reducible rfl) ?_|refine wq (by simp;with_reducible rfl) ?_|refine wt (by simpa) ?_|refine wf (by simpa) ?_|refine xt (by simpa) ?_|refine xf (by simpa) ?_|apply wp_bs|apply wp_b|refine wp_sr ?_|refine wp_sx ?_|refine wp_ret' ?_|refine wp_skip' ?_|refine wp_exit' ?_)
  refine wp_imp (loop t.length 0 (by simp)) ?_
  rintro ex st (⟨rfl,h,rfl⟩ | ⟨rfl,h,rfl⟩)
  · simp only [if_true]
    repeat (first|apply wp_as|apply wp_ss|refine wr (by simp [e1];with_reducible rfl) ?_|refine wq (by simp [e1];with_reducible rfl) ?_|refine wt (by simpa [e1]) ?_|refine wf (by simpa [e1]) ?_|refine xt (by simpa [e1]) ?_|refine xf (by simpa [e1]) ?_|apply wp_bs|apply wp_b|refine wp_sr ?_|refine wp_sx ?_|refine wp_ret' ?_|refine wp_skip' ?_|refine wp_exit' ?_)
    simp only [List.drop_zero] at h
    simp only [mOk,h]
    simp [zi27]
  · simp only [List.drop_zero] at h
    simp only [mOk,h]
    simp [zi27]
end Go.Idl
namespace Go.Idl
open Go
def Sq (t:List (List Int)):Prop:=∀ r ∈ t,r.length=t.length∧∀ x ∈ r,0≤x∧x≤1
def tAt (t:List (List Int)) (a b:Nat):Prop:=if a=b then g2 t a b=0 else g2 t a b+g2 t b a=1
def Tour (t:List (List Int)):Prop:=(1≤t.length∧t.length≤5)∧Sq t∧∀ a b:Nat,a < t.length→b < t.length→tAt t a b
theorem g2_eq {t:List (List Int)} {a b:Nat} (ha:a < t.length) (hb:b < t[a].length):g2 t a b=t[a][b]:=by
  simp [g2,List.getD_eq_getElem?_getD,List.getElem?_eq_getElem ha,List.getElem?_eq_getElem hb]
end Go.Idl
namespace Go.Idl
open Go
def Small2 (t:List (List Int)):Prop:=t.length≤1000∧∀ r ∈ t,r.length≤1000∧∀ x ∈ r,-1000≤x∧x≤1000
end Go.Idl
namespace Go.Idl
open Go
def asc0 (s:List Int):List Int:=(fall s).reverse
def overT (s:List Int) (i:Nat):Int:=((asc0 s).take (i+1)).sum - ((i:Int)+1) * i / 2
def over (s:List Int):List Int:=mapR s.length (overT s)
end Go.Idl
namespace Go.Idl
open Go
def scr (t:List (List Int)) (j:Nat):Int:=(t.getD j []).sum
def scores (t:List (List Int)):List Int:=mapR t.length (scr t)
theorem sum01 (r:List Int) (h:∀ x ∈ r,0≤x∧x≤1):0≤r.sum∧r.sum≤r.length:=by
  induction r with
  | nil=>simp
  | cons x xs ih =>
    have h1:=h x (by simp)
    have h2:=ih fun y hy=>h y (by simp [hy])
    simp only [List.sum_cons,List.length_cons];omega
theorem set_bound {B:List Int} {k:Nat} {b v:Int} (h:∀ x ∈ B,0≤x∧x≤b) (hv:0≤v∧v≤b+1) (hb:0≤b):∀ x ∈ B.set k v,0≤x∧x≤b+1:=by
  intro x hx
  rcases List.mem_or_eq_of_mem_set hx with hx | rfl
  · have:=h x hx;omega
  · exact hv
end Go.Idl
namespace Go.Idl
open Go
def sideOk (n:Int):Bool:=decide (1≤n) && decide (n≤5)
def inAll (r:List Int) (n:Int):Bool:=r.all fun x=>decide (0≤x) && decide (x≤n)
def vMar (r c:List Int):Bool:=sideOk r.length && (sideOk c.length && (inAll r c.length && inAll c r.length))
end Go.Idl
namespace Go.Idl
open Go
@[simp] theorem un_neg (n:Int):Op.unary .neg (.int .i64 n)=.pure (.int .i64 (IntKind.i64.wrap (-n))):=by
  rw [← Int.zero_sub];rfl
def gs (r c:List Int) (i:Nat):Int:=-((fall r).take (i+1)).sum+(c.map fun x:Int=>min x ((i:Int)+1)).sum
def gale (r c:List Int):List Int:=mapR r.length (gs r c)
theorem vMar_few {r c:List Int} (h:vMar r c=true):Few r∧Few c∧(1≤r.length∧r.length≤5)∧(1≤c.length∧c.length≤5):=by
  simp only [vMar,sideOk,inAll,Bool.and_eq_true,decide_eq_true_eq,List.all_eq_true] at h
  obtain ⟨h1,h2,h3,h4⟩:=h
  refine ⟨⟨by omega,fun x hx=>by have:=h3 x hx;omega⟩,⟨by omega,fun x hx=>by have:=h4 x hx;omega⟩,by omega,by omega⟩
end Go.Idl
namespace Go.Idl
open Go
def comp (d:List Int):List Int:=(List.range d.length).map fun k=>(d.length:Int) - 1 - d.getD k 0
def noneNeg (xs:List Int):Bool:=xs.all fun x=>decide (0≤x)
theorem code_ok {code:List Int} (h:∀ x ∈ code,0≤x∧x≤255):CodeOk (code.take 2000):=⟨by simp;omega,fun x hx=>h x (List.mem_of_mem_take hx)⟩
end Go.Idl
namespace Go.Idl
open Go
def TT (n:Nat) (t:List (List Int)):Prop:=t.length=n∧∀ r ∈ t,r.length=n∧∀ x ∈ r,0≤x∧x≤1
theorem TT.set {n:Nat} {t:List (List Int)} (h:TT n t) {a b:Nat} {v:Int} (ha:a < t.length) (hv:0≤v∧v≤1):TT n (t.set a (t[a].set b v)):=by
  refine ⟨by simpa using h.1,fun r hr=>?_⟩
  have h1:=h.2 _ (List.getElem_mem ha)
  rcases List.mem_or_eq_of_mem_set hr with hr | rfl
  · exact h.2 r hr
  · refine ⟨by simpa using h1.1,fun x hx=>?_⟩
    rcases List.mem_or_eq_of_mem_set hx with hx | rfl
    · exact h1.2 x hx
    · exact hv
end Go.Idl
namespace Go.Idl
open Go
def MM (h w:Nat) (t:List (List Int)):Prop:=t.length=h∧∀ r ∈ t,r.length=w∧∀ x ∈ r,0≤x∧x≤1
theorem am_in (code:List Int) (c:Bool) (hc:CodeOk code) (h w:Nat) (hw:w≤5) (bs:Boxes) (Ms:List Boxes) (t:List (List Int)) (i:Nat) :
    ∀ (m j cnt:Nat) (r:List Int),j+m=w→cnt+m≤90000→r.length=j→(∀ x ∈ r,0≤x∧x≤1) →
    wp tb (.loop z331l9) { T:=[(0,.bptr 0 0 0),(1,I h),(2,I w),(7,OT t),(8,I i),(9,O r),(10,I j)],loc:=[],M:=(R code c cnt::bs)::Ms }
      (fun ex st=>ex=.exit 2∧∃ (r':List Int) (k:Nat),(r'.length=w∧∀ x ∈ r',0≤x∧x≤1)∧k≤cnt+m ∧
        st={ T:=[(0,.bptr 0 0 0),(1,I h),(2,I w),(7,OT t),(8,I i),(9,O r'),(10,I w),(20,Bo false)],loc:=[],M:=(R code c k::bs)::Ms }):=by
  intro m
  induction m with
  | zero =>
    intro j cnt r hj hcn hr h01
    have h3:j=w:=hj
    subst h3
    refine wp_loop ?_
    repeat (first|apply wp_as|apply wp_ss|refine wr (by simp;with_reducible rfl) ?_|refine wq (by simp;with_reducible rfl) ?_|refine wt (by simpa) ?_|refine wf (by simpa) ?_|refine xt (by simpa) ?_|refine xf (by simpa) ?_|apply wp_bs|apply wp_b|refine wp_sr ?_|refine wp_sx ?_|refine wp_ret' ?_|refine wp_skip' ?_|refine wp_exit' ?_)
    exact ⟨rfl,r,cnt,⟨hr,h01⟩,by omega,rfl⟩
  | succ m ih =>
    intro j cnt r hj hcn hr h01
    have hjw:j < w:=by omega
    have w2:IntKind.i64.wrap ((j:Int)+1)=((j+1:Nat):Int):=wrapS (by omega)
    obtain ⟨v,k,hv,hk,e1⟩:=pick' code c hc cnt (by omega) 2 (by omega) bs (Ms++[[]])
    have hv:=hv (by omega)
    have hrl:r.length≤274877906943:=by omega
    have hrt:r.take r.length=r:=List.take_of_length_le (by omega)
    refine wp_loop ?_
    repeat (first|apply wp_as|apply wp_ss|refine wr (by simp [hjw,e1,w2,hrl,hrt];with_reducible rfl) ?_|refine wq (by simp [hjw,e1,w2,hrl,hrt];with_reducible rfl) ?_|refine wt (by simpa [hjw,e1,w2,hrl,hrt]) ?_|refine wf (by simpa [hjw,e1,w2,hrl,hrt]) ?_|refine xt (by simpa [hjw,e1,w2,hrl,hrt]) ?_|refine xf (by simpa [hjw,e1,w2,hrl,hrt]) ?_|apply wp_bs|apply wp_b|refine wp_sr ?_|refine wp_sx ?_|refine wp_ret' ?_|refine wp_skip' ?_|refine wp_exit' ?_)
    refine wp_imp (ih (j+1) k (r++[(v:Int)]) (by omega) (by omega) (by simp [hr]) (fun x hx=>?_)) ?_
    · rcases List.mem_append.1 hx with hx | hx
      · exact h01 x hx
      · simp at hx;omega
    · rintro ex st ⟨rfl,r',k',h1,h2,rfl⟩
      exact ⟨rfl,r',k',h1,by omega,rfl⟩
theorem am_out (code:List Int) (c:Bool) (hc:CodeOk code) (h w:Nat) (hh:h≤5) (hw:w≤5) (bs:Boxes) (Ms:List Boxes) :
    ∀ (m i cnt:Nat) (t:List (List Int)),i+m=h→cnt+5 * m≤90000→MM i w t →
    wp tb (.loop z331l12) { T:=[(0,.bptr 0 0 0),(1,I h),(2,I w),(7,OT t),(8,I i)],loc:=[],M:=(R code c cnt::bs)::Ms }
      (fun ex st=>ex=.exit 0∧∃ (t':List (List Int)) (k:Nat),MM h w t'∧k≤cnt+5 * m ∧
        st={ T:=[(0,.bptr 0 0 0),(1,I h),(2,I w),(7,OT t'),(8,I h),(14,Bo false)],loc:=[],M:=(R code c k::bs)::Ms }):=by
  intro m
  induction m with
  | zero =>
    intro i cnt t hi hcn ht
    have h3:i=h:=hi
    subst h3
    refine wp_loop ?_
    repeat (first|apply wp_as|apply wp_ss|refine wr (by simp;with_reducible rfl) ?_|refine wq (by simp;with_reducible rfl) ?_|refine wt (by simpa) ?_|refine wf (by simpa) ?_|refine xt (by simpa) ?_|refine xf (by simpa) ?_|apply wp_bs|apply wp_b|refine wp_sr ?_|refine wp_sx ?_|refine wp_ret' ?_|refine wp_skip' ?_|refine wp_exit' ?_)
    exact ⟨rfl,t,cnt,ht,by omega,rfl⟩
  | succ m ih =>
    intro i cnt t hi hcn ht
    have hih:i < h:=by omega
    have w2:IntKind.i64.wrap ((i:Int)+1)=((i+1:Nat):Int):=wrapS (by omega)
    refine wp_loop ?_
    repeat (first|apply wp_as|apply wp_ss|refine wr (by simp [hih];with_reducible rfl) ?_|refine wq (by simp [hih];with_reducible rfl) ?_|refine wt (by simpa [hih]) ?_|refine wf (by simpa [hih]) ?_|refine xt (by simpa [hih]) ?_|refine xf (by simpa [hih]) ?_|apply wp_bs|apply wp_b|refine wp_sr ?_|refine wp_sx ?_|refine wp_ret' ?_|refine wp_skip' ?_|refine wp_exit' ?_)
    have hin:=am_in code c hc h w hw bs Ms t i w 0 cnt [] (by omega) (by omega) rfl (by simp)
    rw [show ((0:Nat):Int)=0 from rfl] at hin
    refine wp_imp hin ?_
    rintro ex st ⟨rfl,r',k',h1,h2,rfl⟩
    simp only [if_true]
    have htl:=ht.1
    have htt:t.length≤274877906943:=by omega
    have hto:t.take t.length=t:=List.take_of_length_le (by omega)
    repeat (first|apply wp_as|apply wp_ss|refine wr (by simp [w2,htt,hto];with_reducible rfl) ?_|refine wq (by simp [w2,htt,hto];with_reducible rfl) ?_|refine wt (by simpa [w2,htt,hto]) ?_|refine wf (by simpa [w2,htt,hto]) ?_|refine xt (by simpa [w2,htt,hto]) ?_|refine xf (by simpa [w2,htt,hto]) ?_|apply wp_bs|apply wp_b|refine wp_sr ?_|refine wp_sx ?_|refine wp_ret' ?_|refine wp_skip' ?_|refine wp_exit' ?_)
    refine wp_imp (ih (i+1) k' (t++[r']) (by omega) (by omega) ⟨by simp [htl],fun r hr=>?_⟩) ?_
    · rcases List.mem_append.1 hr with hr | hr
      · exact ht.2 r hr
      · simp at hr;subst hr;exact h1
    · rintro ex st ⟨rfl,t'',k'',h3,h4,rfl⟩
      exact ⟨rfl,t'',k'',h3,by omega,rfl⟩
theorem ev_aMatrix (code:List Int) (c:Bool) (hc:CodeOk code) (cnt:Nat) (hn:cnt≤80000) (h w:Nat) (hh:h≤5) (hw:w≤5) (bs:Boxes) (Ms:List Boxes) :
    ∃ (t:List (List Int)) (k:Nat),MM h w t∧k≤cnt+25 ∧
      limF tb zl331 [] [.bptr 0 0 0,I h,I w] ((R code c cnt::bs)::Ms)=some ⟨OT t,[],(R code c k::bs)::Ms,[]⟩:=by
  suffices h:∃ r,(∃ (t:List (List Int)) (k:Nat),MM h w t∧k≤cnt+25∧r=⟨OT t,[],(R code c k::bs)::Ms,[]⟩)∧Ev tb zl331 [] [.bptr 0 0 0,I h,I w] ((R code c cnt::bs)::Ms) r by
    obtain ⟨r,⟨t,k,h1,h2,rfl⟩,h⟩:=h
    exact ⟨t,k,h1,h2,ev_lim h⟩
  refine call_ex zt331 rfl ?_
  repeat (first|apply wp_as|apply wp_ss|refine wr (by simp;with_reducible rfl) ?_|refine wq (by simp;with_reducible rfl) ?_|refine wt (by simpa) ?_|refine wf (by simpa) ?_|refine xt (by simpa) ?_|refine xf (by simpa) ?_|apply wp_bs|apply wp_b|refine wp_sr ?_|refine wp_sx ?_|refine wp_ret' ?_|refine wp_skip' ?_|refine wp_exit' ?_)
  have hin:=am_out code c hc h w hh hw bs Ms h 0 cnt [] (by omega) (by omega) ⟨rfl,by simp⟩
  rw [show ((0:Nat):Int)=0 from rfl] at hin
  refine wp_imp hin ?_
  rintro ex st ⟨rfl,t',k',h1,h2,rfl⟩
  simp only [if_true]
  repeat (first|apply wp_as|apply wp_ss|refine wr (by simp;with_reducible rfl) ?_|refine wq (by simp;with_reducible rfl) ?_|refine wt (by simpa) ?_|refine wf (by simpa) ?_|refine xt (by simpa) ?_|refine xf (by simpa) ?_|apply wp_bs|apply wp_b|refine wp_sr ?_|refine wp_sx ?_|refine wp_ret' ?_|refine wp_skip' ?_|refine wp_exit' ?_)
  exact ⟨.inr rfl,_,⟨t',k',h1,by omega,rfl⟩,by simp [zi331]⟩
end Go.Idl
namespace Go.Idl
open Go
def addR (k:Nat) (B r:List Int):List Int:=(List.range B.length).map fun j=>if k≤j then B.getD j 0+r.getD j 0 else B.getD j 0
theorem addR_len (k:Nat) (B r:List Int):(addR k B r).length=B.length:=by simp [addR]
theorem addR_end (B r:List Int):addR B.length B r=B:=by
  refine List.ext_getElem (by simp [addR]) fun j h1 h2=>?_
  have:¬ B.length≤j:=by omega
  simp [addR,this,List.getElem?_eq_getElem h2]
theorem addR_step (k:Nat) (B r:List Int) (hk:k < B.length):addR (k+1) (B.set k (B.getD k 0+r.getD k 0)) r=addR k B r:=by
  refine List.ext_getElem (by simp [addR]) fun j h1 h2=>?_
  have hj:j < B.length:=by simpa [addR] using h2
  simp only [addR,List.getElem_map,List.getElem_range,List.length_set]
  by_cases h:j=k
  · subst h
    rw [if_neg (by omega),if_pos (by omega)]
    simp [List.getD_eq_getElem?_getD,hk]
  · have e:(B.set k (B.getD k 0+r.getD k 0)).getD j 0=B.getD j 0:=by
      simp only [List.getD_eq_getElem?_getD]
      rw [List.getElem?_set_ne (fun q=>h q.symm)]
    rw [e]
    by_cases h3:k≤j
    · rw [if_pos (by omega),if_pos h3]
    · rw [if_neg (by omega),if_neg h3]
theorem addR_bound {B r:List Int} {b:Int} (hB:∀ x ∈ B,0≤x∧x≤b) (hr:∀ x ∈ r,0≤x∧x≤1) (hb:0≤b) (k:Nat):∀ x ∈ addR k B r,0≤x∧x≤b+1:=by
  intro x hx
  simp only [addR,List.mem_map,List.mem_range] at hx
  obtain ⟨j,hj,rfl⟩:=hx
  have h1:0≤B.getD j 0∧B.getD j 0≤b:=by
    rw [List.getD_eq_getElem?_getD,List.getElem?_eq_getElem hj];exact hB _ (List.getElem_mem hj)
  have h2:0≤r.getD j 0∧r.getD j 0≤1:=by
    rw [List.getD_eq_getElem?_getD]
    cases ho:r[j]? with
    | none=>simp
    | some y=>exact hr y (List.mem_of_getElem? ho)
  split <;> omega
def colT (w:Nat) (t:List (List Int)):List Int:=t.foldl (fun B r=>addR 0 B r) (List.replicate w 0)
theorem colT_take (w:Nat) (t:List (List Int)) (i:Nat) (h:i < t.length):colT w (t.take (i+1))=addR 0 (colT w (t.take i)) t[i]:=by
  rw [List.take_succ_eq_append_getElem h,colT,List.foldl_append];rfl
theorem colT_len (w:Nat) (t:List (List Int)):(colT w t).length=w:=by
  have:∀ (t:List (List Int)) (B:List Int),(t.foldl (fun B r=>addR 0 B r) B).length=B.length:=by
    intro t
    induction t with
    | nil=>intro B;rfl
    | cons r t ih=>intro B;rw [List.foldl_cons,ih,addR_len]
  rw [colT,this];simp
theorem colT_bound {w:Nat} {t:List (List Int)} (ht:∀ r ∈ t,∀ x ∈ r,0≤x∧x≤1):∀ x ∈ colT w t,0≤x∧x≤(t.length:Int):=by
  have:∀ (t:List (List Int)) (B:List Int) (b:Nat),(∀ r ∈ t,∀ x ∈ r,0≤x∧x≤1)→(∀ x ∈ B,0≤x∧x≤(b:Int))→∀ x ∈ t.foldl (fun B r=>addR 0 B r) B,0≤x∧x≤((b+t.length:Nat):Int):=by
    intro t
    induction t with
    | nil=>intro B b _ hB x hx;simpa using hB x hx
    | cons r t ih =>
      intro B b hr hB x hx
      have:=ih (addR 0 B r) (b+1) (fun q hq=>hr q (by simp [hq])) (fun y hy=>by have:=addR_bound hB (hr r (by simp)) (by omega) 0 y hy;omega) x hx
      simp only [List.length_cons]
      omega
  intro x hx
  have:=this t (List.replicate w 0) 0 ht (fun y hy=>by have:=List.eq_of_mem_replicate hy;omega) x hx
  omega
theorem mx_in (h w:Nat) (t:List (List Int)) (c:Bool) (i:Nat) (r:List Int) (hh:h≤5) (hw:w≤5) (hi:i < h) (hr:r.length=w) (h01:∀ x ∈ r,0≤x∧x≤1) :
    ∀ (m k:Nat) (A B:List Int) (b:Nat),k+m=w→A.length=h→B.length=w→(∀ x ∈ B,0≤x∧x≤(b:Int))→b+m≤1000→(∀ h:i < A.length,A[i]=(r.take k).sum) →
    wp tb (.loop z16l13) { T:=[(0,TL t c),(4,O A),(5,O B),(6,I i),(7,L r),(21,TL t c),(22,I h),(23,I i),(28,L r),(29,I w),(30,I k)],loc:=[],M:=[] }
      (fun ex st=>ex=.exit 2∧st={ T:=[(0,TL t c),(4,O (A.set i r.sum)),(5,O (addR k B r)),(6,I i),(7,L r),(21,TL t c),(22,I h),(23,I i),(28,L r),(29,I w),(30,I w),(31,Bo false)],loc:=[],M:=[] }):=by
  intro m
  induction m with
  | zero =>
    intro k A B b hk hA hB hb hbm hAi
    have h3:k=w:=hk
    subst h3
    have hi':i < A.length:=by omega
    have hs:A.set i r.sum=A:=by
      have:=hAi hi'
      rw [List.take_of_length_le (by omega)] at this
      rw [← this];simp
    have he:addR k B r=B:=by rw [← hB];exact addR_end B r
    refine wp_loop ?_
    repeat (first|apply wp_as|apply wp_ss|refine wr (by simp;with_reducible rfl) ?_|refine wq (by simp;with_reducible rfl) ?_|refine wt (by simpa) ?_|refine wf (by simpa) ?_|refine xt (by simpa) ?_|refine xf (by simpa) ?_|apply wp_bs|apply wp_b|refine wp_sr ?_|refine wp_sx ?_|refine wp_ret' ?_|refine wp_skip' ?_|refine wp_exit' ?_)
    exact ⟨rfl,by rw [hs,he]⟩
  | succ m ih =>
    intro k A B b hk hA hB hb hbm hAi
    have hkn:k < w:=by omega
    have hkr:k < r.length:=by omega
    have hiA:i < A.length:=by omega
    have hkB:k < B.length:=by omega
    have w2:IntKind.i64.wrap ((k:Int)+1)=((k+1:Nat):Int):=wrapS (by omega)
    have hx:=h01 _ (List.getElem_mem hkr)
    have hy:=hb _ (List.getElem_mem hkB)
    have ht:=(sum_take_succ hkr).symm
    have hbd:=sum01 (r.take (k+1)) (fun x hx=>h01 x (List.mem_of_mem_take hx))
    have hle:(r.take (k+1)).length≤5:=by simp;omega
    have hAi:=hAi hiA
    have hst:=addR_step k B r hkB
    have g1:B.getD k 0=B[k]:=by simp [List.getD_eq_getElem?_getD,List.getElem?_eq_getElem hkB]
    have g2:r.getD k 0=r[k]:=by simp [List.getD_eq_getElem?_getD,List.getElem?_eq_getElem hkr]
    rw [g1,g2] at hst
    generalize hs1:(r.take (k+1)).sum=s1 at *
    generalize (r.take k).sum=s0 at *
    have w1:IntKind.i64.wrap (s0+r[k])=s1:=by rw [← ht];exact wrap64 (by omega) (by omega)
    have w3:IntKind.i64.wrap (B[k]+r[k])=B[k]+r[k]:=wrap64 (by omega) (by omega)
    have hg:=ih (k+1) (A.set i s1) (B.set k (B[k]+r[k])) (b+1) (by omega) (by simp [hA]) (by simp [hB])
      (fun x hx=>by have:=set_bound hb (by omega:0≤B[k]+r[k]∧B[k]+r[k]≤(b:Int)+1) (by omega) x hx;omega) (by omega) (by intro h;simp [hs1])
    rw [hst] at hg
    refine wp_loop ?_
    repeat (first|apply wp_as|apply wp_ss|refine wr (by simp [hkn,hkr,hiA,hkB,hAi,w1,w2,w3];with_reducible rfl) ?_|refine wq (by simp [hkn,hkr,hiA,hkB,hAi,w1,w2,w3];with_reducible rfl) ?_|refine wt (by simpa [hkn,hkr,hiA,hkB,hAi,w1,w2,w3]) ?_|refine wf (by simpa [hkn,hkr,hiA,hkB,hAi,w1,w2,w3]) ?_|refine xt (by simpa [hkn,hkr,hiA,hkB,hAi,w1,w2,w3]) ?_|refine xf (by simpa [hkn,hkr,hiA,hkB,hAi,w1,w2,w3]) ?_|apply wp_bs|apply wp_b|refine wp_sr ?_|refine wp_sx ?_|refine wp_ret' ?_|refine wp_skip' ?_|refine wp_exit' ?_)
    refine wp_imp hg ?_
    rintro ex st ⟨rfl,rfl⟩
    exact ⟨rfl,by simp⟩
theorem mx_out (h w:Nat) (t:List (List Int)) (c:Bool) (hl:t.length=h) (hh:h≤5) (hw:w≤5) (hr:∀ r ∈ t,r.length=w∧∀ x ∈ r,0≤x∧x≤1) :
    ∀ (m i:Nat),i+m=h →
    wp tb (.loop z16l15) { T:=[(0,TL t c),(4,O (mapR i (scr t)++List.replicate (h - i) 0)),(5,O (colT w (t.take i))),(21,TL t c),(22,I h),(23,I i)],loc:=[],M:=[] }
      (fun ex st=>ex=.exit 0∧st={ T:=[(0,TL t c),(4,O (scores t)),(5,O (colT w t)),(21,TL t c),(22,I h),(23,I h),(24,Bo false)],loc:=[],M:=[] }):=by
  intro m
  induction m with
  | zero =>
    intro i hi
    have h3:i=h:=hi
    subst h3
    have ht:t.take i=t:=List.take_of_length_le (by omega)
    rw [ht]
    refine wp_loop ?_
    repeat (first|apply wp_as|apply wp_ss|refine wr (by simp;with_reducible rfl) ?_|refine wq (by simp;with_reducible rfl) ?_|refine wt (by simpa) ?_|refine wf (by simpa) ?_|refine xt (by simpa) ?_|refine xf (by simpa) ?_|apply wp_bs|apply wp_b|refine wp_sr ?_|refine wp_sx ?_|refine wp_ret' ?_|refine wp_skip' ?_|refine wp_exit' ?_)
    exact ⟨rfl,by simp [scores,hl]⟩
  | succ m ih =>
    intro i hi
    have hin:i < h:=by omega
    have hit:i < t.length:=by omega
    have w2:IntKind.i64.wrap ((i:Int)+1)=((i+1:Nat):Int):=wrapS (by omega)
    have hri:=hr _ (List.getElem_mem hit)
    have hrl:=hri.1
    have hA:(mapR i (scr t)++List.replicate (h - i) 0).length=h:=by simp [mapR];omega
    have hs:=mapR_succ_set (scr t) hin
    have hsc:scr t i=t[i].sum:=by simp [scr,List.getD_eq_getElem?_getD,List.getElem?_eq_getElem hit]
    have hcb:=colT_bound (w:=w) (t:=t.take i) (fun r hr'=>(hr r (List.mem_of_mem_take hr')).2)
    have hcl:=colT_len w (t.take i)
    have hct:=colT_take w t i hit
    have hg:=ih (i+1) (by omega)
    rw [hct] at hg
    have hml:=mx_in h w t c i t[i] hh hw hin hrl hri.2 w 0 (mapR i (scr t)++List.replicate (h - i) 0) (colT w (t.take i)) 5 (by omega) hA hcl (fun x hx=>by have:=hcb x hx;simp at this;omega) (by omega) (by
      intro h
      rw [List.getElem_append_right (by simp [mapR])];simp)
    rw [← hsc,hs] at hml
    generalize colT w (t.take i)=B at *
    refine wp_loop ?_
    repeat (first|apply wp_as|apply wp_ss|refine wr (by simp [hin,hit,hrl];with_reducible rfl) ?_|refine wq (by simp [hin,hit,hrl];with_reducible rfl) ?_|refine wt (by simpa [hin,hit,hrl]) ?_|refine wf (by simpa [hin,hit,hrl]) ?_|refine xt (by simpa [hin,hit,hrl]) ?_|refine xf (by simpa [hin,hit,hrl]) ?_|apply wp_bs|apply wp_b|refine wp_sr ?_|refine wp_sx ?_|refine wp_ret' ?_|refine wp_skip' ?_|refine wp_exit' ?_)
    refine wp_imp hml ?_
    rintro ex st ⟨rfl,rfl⟩
    simp only [if_true]
    repeat (first|apply wp_as|apply wp_ss|refine wr (by simp [w2];with_reducible rfl) ?_|refine wq (by simp [w2];with_reducible rfl) ?_|refine wt (by simpa [w2]) ?_|refine wf (by simpa [w2]) ?_|refine xt (by simpa [w2]) ?_|refine xf (by simpa [w2]) ?_|apply wp_bs|apply wp_b|refine wp_sr ?_|refine wp_sx ?_|refine wp_ret' ?_|refine wp_skip' ?_|refine wp_exit' ?_)
    exact hg
theorem ev_MarginsX (h w:Nat) (t:List (List Int)) (c:Bool) (hh:1≤h∧h≤5) (hw:1≤w∧w≤5) (hl:t.length=h) (hr:∀ r ∈ t,r.length=w∧∀ x ∈ r,0≤x∧x≤1) (hm:mOk t=true) :
    Ev tb zl16 [] [TL t c] [] ⟨.tup [O (scores t),O (colT w t)],[],[],[]⟩:=by
  have h0:0 < t.length:=by omega
  have hr0:=(hr _ (List.getElem_mem h0)).1
  have h0':0 < h:=by omega
  have e1:=ev_lim (ev_ValidMatrix t c (by omega) (fun r hr'=>by have:=(hr r hr').1;omega))
  rw [hm] at e1
  have hlo:=mx_out h w t c hl hh.2 hw.2 hr h 0 (by omega)
  rw [List.take_zero,show colT w []=List.replicate w 0 from rfl,show mapR 0 (scr t)=[] from rfl,List.nil_append,Nat.sub_zero,show ((0:Nat):Int)=0 from rfl] at hlo
  refine call_of_wp zt16 rfl ?_
  repeat (first|apply wp_as|apply wp_ss|refine wr (by simp [e1];with_reducible rfl) ?_|refine wq (by simp [e1];with_reducible rfl) ?_|refine wt (by simpa [e1]) ?_|refine wf (by simpa [e1]) ?_|refine xt (by simpa [e1]) ?_|refine xf (by simpa [e1]) ?_|apply wp_bs|apply wp_b|refine wp_sr ?_|refine wp_sx ?_|refine wp_ret' ?_|refine wp_skip' ?_|refine wp_exit' ?_)
  refine wp_rega (by simp [h0,h0',hl,hr0,show h≤274877906944 by omega,show w≤274877906944 by omega];with_reducible rfl) (by simp;with_reducible rfl) ?_ ?_
  · intro p hp
    simp only [List.mem_cons,List.not_mem_nil,or_false] at hp
    rcases hp with rfl | rfl | rfl | rfl | rfl
    · exact ⟨_,by simp [h0,h0',hl,hr0,show h≤274877906944 by omega,show w≤274877906944 by omega];with_reducible rfl,by simp⟩
    · exact ⟨_,by simp [h0,h0',hl,hr0,show h≤274877906944 by omega,show w≤274877906944 by omega];with_reducible rfl,by simp⟩
    · exact ⟨_,by simp [h0,h0',hl,hr0,show h≤274877906944 by omega,show w≤274877906944 by omega];with_reducible rfl,by simp⟩
    · exact ⟨_,by simp [h0,h0',hl,hr0,show h≤274877906944 by omega,show w≤274877906944 by omega];with_reducible rfl,by simp⟩
    · exact ⟨_,by simp [h0,h0',hl,hr0,show h≤274877906944 by omega,show w≤274877906944 by omega];with_reducible rfl,by simp⟩
  repeat (first|apply wp_as|apply wp_ss|refine wr (by simp [hl];with_reducible rfl) ?_|refine wq (by simp [hl];with_reducible rfl) ?_|refine wt (by simpa [hl]) ?_|refine wf (by simpa [hl]) ?_|refine xt (by simpa [hl]) ?_|refine xf (by simpa [hl]) ?_|apply wp_bs|apply wp_b|refine wp_sr ?_|refine wp_sx ?_|refine wp_ret' ?_|refine wp_skip' ?_|refine wp_exit' ?_)
  refine wp_imp hlo ?_
  rintro ex st ⟨rfl,rfl⟩
  simp only [if_true]
  repeat (first|apply wp_as|apply wp_ss|refine wr (by simp;with_reducible rfl) ?_|refine wq (by simp;with_reducible rfl) ?_|refine wt (by simpa) ?_|refine wf (by simpa) ?_|refine xt (by simpa) ?_|refine xf (by simpa) ?_|apply wp_bs|apply wp_b|refine wp_sr ?_|refine wp_sx ?_|refine wp_ret' ?_|refine wp_skip' ?_|refine wp_exit' ?_)
  simp [zi16]
end Go.Idl
namespace Go.Idl
def insC {α:Type} (lt:α→α→Bool) (x:α):List α→List α→List α
  | [],B=>x::B
  | a::r,B=>if lt x a then insC lt x r (a::B) else r.reverse++a::x::B
def srtC {α:Type} (lt:α→α→Bool):List α→List α→List α
  | S,[]=>S
  | S,x::r=>srtC lt (insC lt x S.reverse []) r
theorem insC_perm {α:Type} (lt:α→α→Bool) (x:α):∀ (r B:List α),(insC lt x r B).Perm (r.reverse++x::B)
  | [],B=>.refl _
  | a::r,B=>by
    unfold insC
    split
    · refine (insC_perm lt x r (a::B)).trans ?_
      rw [List.reverse_cons,List.append_assoc]
      exact List.Perm.append_left _ (.swap _ _ _)
    · rw [List.reverse_cons,List.append_assoc]
      exact .refl _
theorem insC_len {α:Type} (lt:α→α→Bool) (x:α) (S:List α):(insC lt x S.reverse []).length=S.length+1:=by
  have:=(insC_perm lt x S.reverse []).length_eq
  simpa using this
abbrev Srt {α:Type} (lt:α→α→Bool) (l:List α):Prop:=l.Pairwise fun a b=>lt b a=false
theorem insC_srt {α:Type} {lt:α→α→Bool} (ht:∀ a b c,lt b a=false→lt c b=false→lt c a=false) (ha:∀ a b,lt a b=true→lt b a=false) (x:α):∀ (r B:List α),Srt lt (r.reverse++B)→(∀ b ∈ B,lt x b=true)→Srt lt (insC lt x r B)
  | [],B,h,hb=>List.pairwise_cons.2 ⟨fun b hb'=>ha _ _ (hb b hb'),by simpa using h⟩
  | a::r,B,h,hb=>by
    rw [List.reverse_cons,List.append_assoc] at h
    unfold insC
    split
    · rename_i hx
      refine insC_srt ht ha x r (a::B) h fun b hb'=>?_
      rcases List.mem_cons.1 hb' with rfl | hb'
      · exact hx
      · exact hb b hb'
    · rename_i hx
      have hx:lt x a=false:=by simpa using hx
      obtain ⟨h1,h2,h3⟩:=List.pairwise_append.1 (show Srt lt (r.reverse++a::B) from h)
      have h2:=List.pairwise_cons.1 h2
      refine List.pairwise_append.2 ⟨h1,?_,fun p hp q hq=>?_⟩
      · refine List.pairwise_cons.2 ⟨fun q hq=>?_,List.pairwise_cons.2 ⟨fun b hb'=>ha _ _ (hb b hb'),h2.2⟩⟩
        rcases List.mem_cons.1 hq with rfl | hq
        · exact hx
        · exact h2.1 q hq
      · have h4:=h3 p hp a (by simp)
        rcases List.mem_cons.1 hq with rfl | hq
        · exact h4
        · rcases List.mem_cons.1 hq with rfl | hq
          · exact ht _ _ _ h4 hx
          · exact h3 p hp q (by simp [hq])
theorem srtC_ok {α:Type} {lt:α→α→Bool} (ht:∀ a b c,lt b a=false→lt c b=false→lt c a=false) (ha:∀ a b,lt a b=true→lt b a=false):∀ (r S:List α),Srt lt S→Srt lt (srtC lt S r)∧(srtC lt S r).Perm (S++r)
  | [],S,h=>⟨h,by simp [srtC]⟩
  | x::r,S,h=>by
    obtain ⟨h1,h2⟩:=srtC_ok ht ha r (insC lt x S.reverse []) (insC_srt ht ha x _ _ (by simpa using h) (by simp))
    refine ⟨h1,h2.trans ?_⟩
    have:=insC_perm lt x S.reverse []
    rw [List.reverse_reverse] at this
    refine (this.append_right r).trans ?_
    rw [List.append_assoc];exact .refl _
theorem srtC_perm {α:Type} (lt:α→α→Bool):∀ (r S:List α),(srtC lt S r).Perm (S++r)
  | [],S=>by simp [srtC]
  | x::r,S=>by
    refine (srtC_perm lt r _).trans ?_
    have:=insC_perm lt x S.reverse []
    rw [List.reverse_reverse] at this
    refine (this.append_right r).trans ?_
    rw [List.append_assoc];exact .refl _
end Go.Idl
namespace Go.Idl
open Go
abbrev vE (x:Int×Int):IV:=.agg [I x.1,I x.2]
theorem appc_get1 {α:Type} {A Z:List α} {a x:α}:(A++a::x::Z)[A.length+1]? = some x:=by
  rw [List.getElem?_append_right (by omega)];simp
theorem appc_get0 {α:Type} {A Z:List α} {a:α}:(A++a::Z)[A.length]? = some a:=by
  rw [List.getElem?_append_right (by omega)];simp
theorem appc_set {α:Type} {A Z:List α} {a x:α}:((A++a::x::Z).set (A.length+1) a).set A.length x=A++x::a::Z:=by
  rw [List.set_append_right _ _ (by omega),List.set_append_right _ _ (by omega)]
  simp
def CmpOK {α:Type} (v:α→IV) (F:Lab) (caps:List IV) (lt:α→α→Bool) (D:α→Prop) (M:List Boxes):Prop :=
  ∀ x y,D x→D y→∃ k:Int,decide (k < 0)=lt x y∧Ev tb F [] (v x::v y::caps) (M++[[]]) ⟨I k,[],M++[[]],[]⟩
theorem icle (F:Lab) (caps:List IV) (lt:(Int×Int)→(Int×Int)→Bool) (D:(Int×Int)→Prop) (M:List Boxes) (hc:CmpOK vE F caps lt D M) (P:List (Int×Int)) (n i:Int) (x:(Int×Int)) (rest:List (Int×Int)):∀ (k:Nat) (A B:List (Int×Int)),A.length=k→P.length+k+B.length+rest.length≤2000000→D x→(∀ a ∈ A,D a) →
    wp tb (.loop z277l6) { T:=[(0,O2 ((P++A)++x::(B++rest))),(1,I P.length),(2,I n),(3,.fn F caps),(8,I i),(9,I (P.length+k:Nat))],loc:=[],M:=M }
      (fun ex st=>ex=.exit 2∧∃ k':Int,st={ T:=[(0,O2 (P++(insC lt x A.reverse B++rest))),(1,I P.length),(2,I n),(3,.fn F caps),(8,I i),(9,I k'),(34,Bo false)],loc:=[],M:=M }):=by
  intro k
  induction k with
  | zero =>
    intro A B hA hl hx hD
    have:A=[]:=List.length_eq_zero_iff.1 hA
    subst this
    refine wp_loop ?_
    repeat (first|apply wp_as|apply wp_ss|refine wr (by simp;with_reducible rfl) ?_|refine wq (by simp;with_reducible rfl) ?_|refine wt (by simpa) ?_|refine wf (by simpa) ?_|refine xt (by simpa) ?_|refine xf (by simpa) ?_|apply wp_bs|apply wp_b|refine wp_sr ?_|refine wp_sx ?_|refine wp_ret' ?_|refine wp_skip' ?_|refine wp_exit' ?_)
    exact ⟨rfl,_,by simp [insC];rfl⟩
  | succ k ih =>
    intro A B hA hl hx hD
    obtain ⟨A',a,rfl⟩:∃ A' a,A=A'++[a]:=⟨A.dropLast,A.getLast (by intro h;subst h;simp at hA),(List.dropLast_concat_getLast _).symm⟩
    have hA':A'.length=k:=by simpa using hA
    subst hA'
    obtain ⟨c,hc1,hc2⟩:=hc x a hx (hD a (by simp))
    have e1:=ev_lim hc2
    have hPl:(P++A').length=P.length+A'.length:=by simp
    obtain ⟨Q,hQ⟩:∃ Q,Q=P++A':=⟨_,rfl⟩
    have hQl:P.length+A'.length=Q.length:=by rw [hQ];simp
    have hre:P++(A'++[a])++x::(B++rest)=Q++a::x::(B++rest):=by rw [hQ];simp
    rw [hre]
    have hk:((P.length+(A'.length+1):Nat):Int)=(Q.length:Int)+1:=by omega
    rw [hk]
    have w1:IntKind.i64.wrap (Q.length:Int)=(Q.length:Int):=wrap64 (by omega) (by omega)
    have w2:(P.length:Int) < (Q.length:Int)+1:=by omega
    by_cases hx0:c < 0
    · have hlt:lt x a=true:=by rw [← hc1];exact decide_eq_true hx0
      have:=ih A' (a::B) rfl (by simp;omega) hx (fun b hb=>hD b (by simp [hb]))
      rw [show P++A'++x::(a::B++rest)=Q++x::(a::(B++rest)) by rw [hQ];simp,hQl] at this
      refine wp_loop ?_
      repeat (first|apply wp_as|apply wp_ss|refine wr (by simp [e1,hx0,w1,w2,appc_get0,appc_get1,appc_set];with_reducible rfl) ?_|refine wq (by simp [e1,hx0,w1,w2,appc_get0,appc_get1,appc_set];with_reducible rfl) ?_|refine wt (by simpa [e1,hx0,w1,w2,appc_get0,appc_get1,appc_set]) ?_|refine wf (by simpa [e1,hx0,w1,w2,appc_get0,appc_get1,appc_set]) ?_|refine xt (by simpa [e1,hx0,w1,w2,appc_get0,appc_get1,appc_set]) ?_|refine xf (by simpa [e1,hx0,w1,w2,appc_get0,appc_get1,appc_set]) ?_|apply wp_bs|apply wp_b|refine wp_sr ?_|refine wp_sx ?_|refine wp_ret' ?_|refine wp_skip' ?_|refine wp_exit' ?_)
      simp only [List.reverse_append,List.reverse_cons,List.reverse_nil,List.nil_append,List.cons_append]
      simp only [insC,hlt,if_true]
      exact this
    · have hlt:lt x a=false:=by rw [← hc1];exact decide_eq_false hx0
      refine wp_loop ?_
      repeat (first|apply wp_as|apply wp_ss|refine wr (by simp [e1,hx0,w1,w2,appc_get0,appc_get1,appc_set];with_reducible rfl) ?_|refine wq (by simp [e1,hx0,w1,w2,appc_get0,appc_get1,appc_set];with_reducible rfl) ?_|refine wt (by simpa [e1,hx0,w1,w2,appc_get0,appc_get1,appc_set]) ?_|refine wf (by simpa [e1,hx0,w1,w2,appc_get0,appc_get1,appc_set]) ?_|refine xt (by simpa [e1,hx0,w1,w2,appc_get0,appc_get1,appc_set]) ?_|refine xf (by simpa [e1,hx0,w1,w2,appc_get0,appc_get1,appc_set]) ?_|apply wp_bs|apply wp_b|refine wp_sr ?_|refine wp_sx ?_|refine wp_ret' ?_|refine wp_skip' ?_|refine wp_exit' ?_)
      refine ⟨rfl,(Q.length:Int)+1,?_⟩
      simp only [List.reverse_append,List.reverse_cons,List.reverse_nil,List.nil_append,List.cons_append]
      simp only [insC,hlt,Bool.false_eq_true,if_false,List.reverse_reverse]
      rw [hQ]
      simp
theorem isoe (F:Lab) (caps:List IV) (lt:(Int×Int)→(Int×Int)→Bool) (D:(Int×Int)→Prop) (M:List Boxes) (hc:CmpOK vE F caps lt D M) (P Q:List (Int×Int)) (n:Int):∀ (r S:List (Int×Int)),n=(P.length+S.length+r.length:Nat)→P.length+S.length+r.length+Q.length≤900000→(∀ x ∈ S,D x)→(∀ x ∈ r,D x) →
    wp tb (.loop z277l8) { T:=[(0,O2 (P++(S++(r++Q)))),(1,I P.length),(2,I n),(3,.fn F caps),(8,I (P.length+S.length:Nat))],loc:=[],M:=M }
      (fun ex st=>ex=.exit 0∧∃ k':Int,st={ T:=[(0,O2 (P++(srtC lt S r++Q))),(1,I P.length),(2,I n),(3,.fn F caps),(8,I k'),(14,Bo false)],loc:=[],M:=M }):=by
  intro r
  induction r with
  | nil =>
    intro S hn hl hS hr
    have h1:¬ ((P.length:Int)+(S.length:Int)) < n:=by simp at hn;omega
    refine wp_loop ?_
    repeat (first|apply wp_as|apply wp_ss|refine wr (by simp [h1];with_reducible rfl) ?_|refine wq (by simp [h1];with_reducible rfl) ?_|refine wt (by simpa [h1]) ?_|refine wf (by simpa [h1]) ?_|refine xt (by simpa [h1]) ?_|refine xf (by simpa [h1]) ?_|apply wp_bs|apply wp_b|refine wp_sr ?_|refine wp_sx ?_|refine wp_ret' ?_|refine wp_skip' ?_|refine wp_exit' ?_)
    exact ⟨rfl,_,by simp [srtC];rfl⟩
  | cons x r ih =>
    intro S hn hl hS hr
    simp only [List.length_cons] at hn hl
    have h1:(P.length:Int)+(S.length:Int) < n:=by omega
    have w1:IntKind.i64.wrap ((P.length:Int)+(S.length:Int)+1)=(P.length:Int)+(S.length:Int)+1:=by rw [wrap64 (by omega) (by omega)]
    have hin:=icle F caps lt D M hc P n ((P.length:Int)+S.length) x (r++Q) S.length S [] rfl (by simp;omega) (hr x (by simp)) hS
    rw [show P++S++x::([]++(r++Q))=P++(S++(x::r++Q)) by simp,show ((P.length+S.length:Nat):Int)=(P.length:Int)+S.length by omega] at hin
    have hn2:=ih (insC lt x S.reverse []) (by rw [insC_len];omega) (by rw [insC_len];omega) (fun y hy=>by
      have:=(insC_perm lt x S.reverse []).mem_iff.1 hy
      simp only [List.reverse_reverse,List.mem_append,List.mem_cons,List.not_mem_nil,or_false] at this
      rcases this with h | rfl
      · exact hS y h
      · exact hr y (by simp)) (fun y hy=>hr y (by simp [hy]))
    rw [insC_len,show ((P.length+(S.length+1):Nat):Int)=(P.length:Int)+S.length+1 by omega] at hn2
    rw [show ((P.length+S.length:Nat):Int)=(P.length:Int)+S.length by omega]
    refine wp_loop ?_
    repeat (first|apply wp_as|apply wp_ss|refine wr (by simp [h1,w1];with_reducible rfl) ?_|refine wq (by simp [h1,w1];with_reducible rfl) ?_|refine wt (by simpa [h1,w1]) ?_|refine wf (by simpa [h1,w1]) ?_|refine xt (by simpa [h1,w1]) ?_|refine xf (by simpa [h1,w1]) ?_|apply wp_bs|apply wp_b|refine wp_sr ?_|refine wp_sx ?_|refine wp_ret' ?_|refine wp_skip' ?_|refine wp_exit' ?_)
    refine wp_imp hin ?_
    rintro ex st ⟨rfl,k',rfl⟩
    simp only [if_true]
    repeat (first|apply wp_as|apply wp_ss|refine wr (by simp [h1,w1];with_reducible rfl) ?_|refine wq (by simp [h1,w1];with_reducible rfl) ?_|refine wt (by simpa [h1,w1]) ?_|refine wf (by simpa [h1,w1]) ?_|refine xt (by simpa [h1,w1]) ?_|refine xf (by simpa [h1,w1]) ?_|apply wp_bs|apply wp_b|refine wp_sr ?_|refine wp_sx ?_|refine wp_ret' ?_|refine wp_skip' ?_|refine wp_exit' ?_)
    exact hn2
theorem ev_insCe (F:Lab) (caps:List IV) (lt:(Int×Int)→(Int×Int)→Bool) (D:(Int×Int)→Prop) (M:List Boxes) (hc:CmpOK vE F caps lt D M) (P Q seg:List (Int×Int)) (hl:P.length+seg.length+Q.length≤800000) (hD:∀ x ∈ seg,D x) :
    Ev tb zl277 [0] [O2 (P++(seg++Q)),I P.length,I (P.length+seg.length:Nat),.fn F caps] M ⟨.tup [],[O2 (P++(srtC lt [] seg++Q))],M,[]⟩:=by
  have w1:IntKind.i64.wrap ((P.length:Int)+1)=(P.length:Int)+1:=by rw [wrap64 (by omega) (by omega)]
  cases seg with
  | nil =>
    have h1:¬ (P.length:Int)+1 < ((P.length+([]:List (Int×Int)).length:Nat):Int):=by simp;omega
    simp only [List.length_nil,Nat.add_zero] at h1 ⊢
    refine call_of_wp zt277 rfl ?_
    repeat (first|apply wp_as|apply wp_ss|refine wr (by simp [w1];with_reducible rfl) ?_|refine wq (by simp [w1];with_reducible rfl) ?_|refine wt (by simpa [w1]) ?_|refine wf (by simpa [w1]) ?_|refine xt (by simpa [w1]) ?_|refine xf (by simpa [w1]) ?_|apply wp_bs|apply wp_b|refine wp_sr ?_|refine wp_sx ?_|refine wp_ret' ?_|refine wp_skip' ?_|refine wp_exit' ?_)
    refine wp_loop ?_
    repeat (first|apply wp_as|apply wp_ss|refine wr (by simp [h1];with_reducible rfl) ?_|refine wq (by simp [h1];with_reducible rfl) ?_|refine wt (by simpa [h1]) ?_|refine wf (by simpa [h1]) ?_|refine xt (by simpa [h1]) ?_|refine xf (by simpa [h1]) ?_|apply wp_bs|apply wp_b|refine wp_sr ?_|refine wp_sx ?_|refine wp_ret' ?_|refine wp_skip' ?_|refine wp_exit' ?_)
    simp [zi277,srtC]
  | cons x r =>
    have:=isoe F caps lt D M hc P Q (P.length+(x::r).length:Nat) r [x] (by simp;omega) (by simp at hl ⊢;omega) (fun y hy=>by simp at hy;subst hy;exact hD _ (by simp)) (fun y hy=>hD y (by simp [hy]))
    rw [show P++([x]++(r++Q))=P++(x::r++Q) by simp,show ((P.length+[x].length:Nat):Int)=(P.length:Int)+1 by simp] at this
    have hs:srtC lt [x] r=srtC lt [] (x::r):=by simp [srtC,insC]
    rw [hs] at this
    generalize ((P.length+(x::r).length:Nat):Int)=n at *
    refine call_of_wp zt277 rfl ?_
    repeat (first|apply wp_as|apply wp_ss|refine wr (by simp [w1];with_reducible rfl) ?_|refine wq (by simp [w1];with_reducible rfl) ?_|refine wt (by simpa [w1]) ?_|refine wf (by simpa [w1]) ?_|refine xt (by simpa [w1]) ?_|refine xf (by simpa [w1]) ?_|apply wp_bs|apply wp_b|refine wp_sr ?_|refine wp_sx ?_|refine wp_ret' ?_|refine wp_skip' ?_|refine wp_exit' ?_)
    refine wp_imp this ?_
    rintro ex st ⟨rfl,k',rfl⟩
    simp [zi277]
end Go.Idl
namespace Go.Idl
open Go
@[simp] theorem get_mid {α:Type} (A bs:List α) (x:α):(A++x::bs)[A.length]? = some x:=by simp
@[simp] theorem set_mid {α:Type} (A bs:List α) (x y:α):(A++x::bs).set A.length y=A++y::bs:=by
  rw [List.set_append_right _ _ (Nat.le_refl _)];simp
@[simp] theorem set_last {α:Type} (A:List α) (x y:α):(A++[x]).set A.length y=A++[y]:=set_mid A [] x y
end Go.Idl
namespace Go.Idl
open Go
theorem ev_SortDegrees (d:List Int) (c:Bool) (hv:valid d=true):Ev tb zl20 [] [L d c] [] ⟨O (fall d),[],[],[]⟩:=by
  have hl:=(valid_few hv).1
  have e1:=ev_lim (ev_ValidDegrees d c (by omega))
  have e2:=ev_lim (ev_falling d c (by omega))
  refine call_of_wp zt20 rfl ?_
  repeat (first|apply wp_as|apply wp_ss|refine wr (by simp [e1,e2,hv];with_reducible rfl) ?_|refine wq (by simp [e1,e2,hv];with_reducible rfl) ?_|refine wt (by simpa [e1,e2,hv]) ?_|refine wf (by simpa [e1,e2,hv]) ?_|refine xt (by simpa [e1,e2,hv]) ?_|refine xf (by simpa [e1,e2,hv]) ?_|apply wp_bs|apply wp_b|refine wp_sr ?_|refine wp_sx ?_|refine wp_ret' ?_|refine wp_skip' ?_|refine wp_exit' ?_)
  simp [zi20]
end Go.Idl
namespace Go.Idl
open Go
def ahead (x y:List Int) (i m:Nat):Bool:=(List.range m).all fun j=>decide ((y.take (i+j+1)).sum≤(x.take (i+j+1)).sum)
end Go.Idl
namespace Go.Idl
open Go
def Fit (es:List (Int×Int)):Prop:=∀ e ∈ es,-9223372036854775808≤e.1∧e.1 < 9223372036854775808∧-9223372036854775808≤e.2∧e.2 < 9223372036854775808
def below (a b:Int×Int):Bool:=decide (a.1 < b.1) || (decide (a.1=b.1) && decide (a.2 < b.2))
def cmpE (a b:Int×Int):Int:=if a.1=b.1 then a.2 - b.2 else a.1 - b.1
theorem cmpE_below (a b:Int×Int):(decide (cmpE a b < 0))=below a b:=by
  unfold cmpE below
  rw [Bool.eq_iff_iff]
  simp only [decide_eq_true_eq,Bool.or_eq_true,Bool.and_eq_true]
  split <;> omega
theorem ev_compareEdges (a b:Int×Int) (ha:0≤a.1∧a.1 < 9223372036854775808∧0≤a.2∧a.2 < 9223372036854775808) (hb:0≤b.1∧b.1 < 9223372036854775808∧0≤b.2∧b.2 < 9223372036854775808) (M:List Boxes) :
    Ev tb zl32 [] [.agg [I a.1,I a.2],.agg [I b.1,I b.2]] M ⟨I (cmpE a b),[],M,[]⟩:=by
  have w1:IntKind.i64.wrap (a.1 - b.1)=a.1 - b.1:=wrap64 (by omega) (by omega)
  have w2:IntKind.i64.wrap (a.2 - b.2)=a.2 - b.2:=wrap64 (by omega) (by omega)
  by_cases h:a.1=b.1
  · refine call_of_wp zt32 rfl ?_
    repeat (first|apply wp_as|apply wp_ss|refine wr (by simp [h,w2];with_reducible rfl) ?_|refine wq (by simp [h,w2];with_reducible rfl) ?_|refine wt (by simpa [h,w2]) ?_|refine wf (by simpa [h,w2]) ?_|refine xt (by simpa [h,w2]) ?_|refine xf (by simpa [h,w2]) ?_|apply wp_bs|apply wp_b|refine wp_sr ?_|refine wp_sx ?_|refine wp_ret' ?_|refine wp_skip' ?_|refine wp_exit' ?_)
    simp [zi32,cmpE,h]
  · have h2:(a.1 != b.1)=true:=by simp [h]
    refine call_of_wp zt32 rfl ?_
    repeat (first|apply wp_as|apply wp_ss|refine wr (by simp [h,h2,w1];with_reducible rfl) ?_|refine wq (by simp [h,h2,w1];with_reducible rfl) ?_|refine wt (by simpa [h,h2,w1]) ?_|refine wf (by simpa [h,h2,w1]) ?_|refine xt (by simpa [h,h2,w1]) ?_|refine xf (by simpa [h,h2,w1]) ?_|apply wp_bs|apply wp_b|refine wp_sr ?_|refine wp_sx ?_|refine wp_ret' ?_|refine wp_skip' ?_|refine wp_exit' ?_)
    simp [zi32,cmpE,h]
def okE (n:Int) (e:Int×Int):Bool:=decide (0≤e.1) && (decide (e.1 < e.2) && decide (e.2 < n))
def vEs (n:Int):Option (Int×Int)→List (Int×Int)→Bool
  | _,[]=>true
  | none,e::r=>okE n e && vEs n (some e) r
  | some q,e::r=>okE n e && (below q e && vEs n (some e) r)
def vGraph (n:Int) (es:List (Int×Int)):Bool:=vEs n none es && (decide (0≤n) && decide (n≤7))
theorem Fit.at {es:List (Int×Int)} (h:Fit es) {i:Nat} (hi:i < es.length):-9223372036854775808≤es[i].1∧es[i].1 < 9223372036854775808∧-9223372036854775808≤es[i].2∧es[i].2 < 9223372036854775808:=h _ (List.getElem_mem hi)
theorem validl (n:Int) (es:List (Int×Int)) (c:Bool) (hf:Fit es) (hl:es.length≤100000000):∀ (m i:Nat) (p:Option (Int×Int)) (bs:Boxes),i+m=es.length →
    (i=0∧p=none ∨ ∃ j,∃ h:j < es.length,i=j+1∧p=some es[j]∧0≤es[j].1∧0≤es[j].2) →
    wp tb (.loop z26l7) { T:=[(1,.bptr 0 0 0),(6,L2 es c),(7,I es.length),(8,I i)],loc:=[I n,L2 es c]::bs,M:=[] }
      (fun ex st=>(vEs n p (es.drop i)=true∧ex=.exit 0∧∃ bs',st={ T:=[(1,.bptr 0 0 0),(6,L2 es c),(7,I es.length),(8,I es.length),(9,Bo false)],loc:=[I n,L2 es c]::bs',M:=[] }) ∨
        (vEs n p (es.drop i)=false∧ex=.ret∧∃ bs',st={ T:=[(2,Bo false)],loc:=[I n,L2 es c]::bs',M:=[] })):=by
  intro m
  induction m with
  | zero =>
    intro i p bs hi hp
    have h3:i=es.length:=hi
    subst h3
    refine wp_loop ?_
    repeat (first|apply wp_as|apply wp_ss|refine wr (by simp;with_reducible rfl) ?_|refine wq (by simp;with_reducible rfl) ?_|refine wt (by simpa) ?_|refine wf (by simpa) ?_|refine xt (by simpa) ?_|refine xf (by simpa) ?_|apply wp_bs|apply wp_b|refine wp_sr ?_|refine wp_sx ?_|refine wp_ret' ?_|refine wp_skip' ?_|refine wp_exit' ?_)
    exact .inl ⟨by simp [vEs],rfl,bs,rfl⟩
  | succ m ih =>
    intro i p bs hi hp
    have hi2:i < es.length:=by omega
    have hd:es.drop i=es[i]::es.drop (i+1):=List.drop_eq_getElem_cons hi2
    have hfe:=hf.at hi2
    have w1:IntKind.i64.wrap ((i:Int)+1)=((i+1:Nat):Int):=wrapS (by omega)
    have bad:okE n es[i]=false→vEs n p (es.drop i)=false:=fun h=>by
      rw [hd];cases p <;> simp [vEs,h]
    by_cases h1:es[i].1 < 0
    · have hb:=bad (by simp [okE];omega)
      refine wp_loop ?_
      repeat (first|apply wp_as|apply wp_ss|refine wr (by simp [hi2,h1];with_reducible rfl) ?_|refine wq (by simp [hi2,h1];with_reducible rfl) ?_|refine wt (by simpa [hi2,h1]) ?_|refine wf (by simpa [hi2,h1]) ?_|refine xt (by simpa [hi2,h1]) ?_|refine xf (by simpa [hi2,h1]) ?_|apply wp_bs|apply wp_b|refine wp_sr ?_|refine wp_sx ?_|refine wp_ret' ?_|refine wp_skip' ?_|refine wp_exit' ?_)
      exact .inr ⟨hb,rfl,_,rfl⟩
    by_cases h2:es[i].2≤es[i].1
    · have hb:=bad (by simp [okE];omega)
      refine wp_loop ?_
      repeat (first|apply wp_as|apply wp_ss|refine wr (by simp [hi2,h1,h2];with_reducible rfl) ?_|refine wq (by simp [hi2,h1,h2];with_reducible rfl) ?_|refine wt (by simpa [hi2,h1,h2]) ?_|refine wf (by simpa [hi2,h1,h2]) ?_|refine xt (by simpa [hi2,h1,h2]) ?_|refine xf (by simpa [hi2,h1,h2]) ?_|apply wp_bs|apply wp_b|refine wp_sr ?_|refine wp_sx ?_|refine wp_ret' ?_|refine wp_skip' ?_|refine wp_exit' ?_)
      exact .inr ⟨hb,rfl,_,rfl⟩
    by_cases h3:n≤es[i].2
    · have hb:=bad (by simp [okE];omega)
      refine wp_loop ?_
      repeat (first|apply wp_as|apply wp_ss|refine wr (by simp [hi2,h1,h2,h3];with_reducible rfl) ?_|refine wq (by simp [hi2,h1,h2,h3];with_reducible rfl) ?_|refine wt (by simpa [hi2,h1,h2,h3]) ?_|refine wf (by simpa [hi2,h1,h2,h3]) ?_|refine xt (by simpa [hi2,h1,h2,h3]) ?_|refine xf (by simpa [hi2,h1,h2,h3]) ?_|apply wp_bs|apply wp_b|refine wp_sr ?_|refine wp_sx ?_|refine wp_ret' ?_|refine wp_skip' ?_|refine wp_exit' ?_)
      exact .inr ⟨hb,rfl,_,rfl⟩
    have hok:okE n es[i]=true:=by simp [okE];omega
    rcases hp with ⟨rfl,rfl⟩ | ⟨j,hj,rfl,rfl,q1,q2⟩
    · have hn:=ih 1 (some es[0]) (bs++[[I es[0].1,I es[0].2]]) (by omega) (.inr ⟨0,hi2,rfl,rfl,by omega,by omega⟩)
      rw [hd]
      simp only [vEs,hok,Bool.true_and]
      refine wp_loop ?_
      repeat (first|apply wp_as|apply wp_ss|refine wr (by simp [hi2,h1,h2,h3,show IntKind.i64.wrap (1:Int)=1 from rfl];with_reducible rfl) ?_|refine wq (by simp [hi2,h1,h2,h3,show IntKind.i64.wrap (1:Int)=1 from rfl];with_reducible rfl) ?_|refine wt (by simpa [hi2,h1,h2,h3,show IntKind.i64.wrap (1:Int)=1 from rfl]) ?_|refine wf (by simpa [hi2,h1,h2,h3,show IntKind.i64.wrap (1:Int)=1 from rfl]) ?_|refine xt (by simpa [hi2,h1,h2,h3,show IntKind.i64.wrap (1:Int)=1 from rfl]) ?_|refine xf (by simpa [hi2,h1,h2,h3,show IntKind.i64.wrap (1:Int)=1 from rfl]) ?_|apply wp_bs|apply wp_b|refine wp_sr ?_|refine wp_sx ?_|refine wp_ret' ?_|refine wp_skip' ?_|refine wp_exit' ?_)
      exact hn
    · have hfj:=hf.at hj
      have w2:IntKind.i64.wrap (j:Int)=(j:Int):=wrapN (by omega)
      have hj0:(0:Int) < (j:Int)+1:=by omega
      have hj1:(j:Int)+1 < (es.length:Int):=by omega
      have w3:IntKind.i64.wrap ((j:Int)+1+1)=((j+1+1:Nat):Int):=by rw [wrap64 (by omega) (by omega)];omega
      have e1:=ev_lim (ev_compareEdges es[j] es[j+1] ⟨q1,hfj.2.1,q2,hfj.2.2.2⟩ ⟨by omega,by omega,by omega,by omega⟩ [])
      have hcb:=cmpE_below es[j] es[j+1]
      rw [hd]
      simp only [vEs,hok,Bool.true_and,← hcb]
      by_cases h4:0≤cmpE es[j] es[j+1]
      · have h5:decide (cmpE es[j] es[j+1] < 0)=false:=decide_eq_false (by omega)
        rw [h5]
        refine wp_loop ?_
        repeat (first|apply wp_as|apply wp_ss|refine wr (by simp [hi2,hj,h1,h2,h3,w2,hj0,hj1,e1,h4];with_reducible rfl) ?_|refine wq (by simp [hi2,hj,h1,h2,h3,w2,hj0,hj1,e1,h4];with_reducible rfl) ?_|refine wt (by simpa [hi2,hj,h1,h2,h3,w2,hj0,hj1,e1,h4]) ?_|refine wf (by simpa [hi2,hj,h1,h2,h3,w2,hj0,hj1,e1,h4]) ?_|refine xt (by simpa [hi2,hj,h1,h2,h3,w2,hj0,hj1,e1,h4]) ?_|refine xf (by simpa [hi2,hj,h1,h2,h3,w2,hj0,hj1,e1,h4]) ?_|apply wp_bs|apply wp_b|refine wp_sr ?_|refine wp_sx ?_|refine wp_ret' ?_|refine wp_skip' ?_|refine wp_exit' ?_)
        exact .inr ⟨rfl,rfl,_,rfl⟩
      · have h5:decide (cmpE es[j] es[j+1] < 0)=true:=decide_eq_true (by omega)
        rw [h5]
        have hn:=ih (j+1+1) (some es[j+1]) (bs++[[I es[j+1].1,I es[j+1].2]]) (by omega) (.inr ⟨j+1,hi2,rfl,rfl,by omega,by omega⟩)
        simp only [Bool.true_and]
        refine wp_loop ?_
        repeat (first|apply wp_as|apply wp_ss|refine wr (by simp [hi2,hj,h1,h2,h3,w3,w2,hj0,hj1,e1,h4];with_reducible rfl) ?_|refine wq (by simp [hi2,hj,h1,h2,h3,w3,w2,hj0,hj1,e1,h4];with_reducible rfl) ?_|refine wt (by simpa [hi2,hj,h1,h2,h3,w3,w2,hj0,hj1,e1,h4]) ?_|refine wf (by simpa [hi2,hj,h1,h2,h3,w3,w2,hj0,hj1,e1,h4]) ?_|refine xt (by simpa [hi2,hj,h1,h2,h3,w3,w2,hj0,hj1,e1,h4]) ?_|refine xf (by simpa [hi2,hj,h1,h2,h3,w3,w2,hj0,hj1,e1,h4]) ?_|apply wp_bs|apply wp_b|refine wp_sr ?_|refine wp_sx ?_|refine wp_ret' ?_|refine wp_skip' ?_|refine wp_exit' ?_)
        exact hn
theorem ev_ValidGraph (n:Int) (es:List (Int×Int)) (c:Bool) (hf:Fit es) (hl:es.length≤100000000):Ev tb zl26 [] [Gr n es c] [] ⟨Bo (vGraph n es),[],[],[]⟩:=by
  have e1:=ev_lim (ev_in n 0 7)
  have hlo:=validl n es c hf hl es.length 0 none [] (by simp) (.inl ⟨rfl,rfl⟩)
  refine call_of_wp zt26 rfl ?_
  repeat (first|apply wp_as|apply wp_ss|refine wr (by simp;with_reducible rfl) ?_|refine wq (by simp;with_reducible rfl) ?_|refine wt (by simpa) ?_|refine wf (by simpa) ?_|refine xt (by simpa) ?_|refine xf (by simpa) ?_|apply wp_bs|apply wp_b|refine wp_sr ?_|refine wp_sx ?_|refine wp_ret' ?_|refine wp_skip' ?_|refine wp_exit' ?_)
  refine wp_imp hlo ?_
  rintro ex st (⟨hv,rfl,bs,rfl⟩ | ⟨hv,rfl,bs,rfl⟩)
  · try simp only [if_true]
    repeat (first|apply wp_as|apply wp_ss|refine wr (by simp [e1];with_reducible rfl) ?_|refine wq (by simp [e1];with_reducible rfl) ?_|refine wt (by simpa [e1]) ?_|refine wf (by simpa [e1]) ?_|refine xt (by simpa [e1]) ?_|refine xf (by simpa [e1]) ?_|apply wp_bs|apply wp_b|refine wp_sr ?_|refine wp_sx ?_|refine wp_ret' ?_|refine wp_skip' ?_|refine wp_exit' ?_)
    simp only [List.drop_zero] at hv
    simp [zi26,vGraph,hv]
  · simp only [List.drop_zero] at hv
    simp [zi26,vGraph,hv]
end Go.Idl
namespace Go.Idl
structure Seg {α:Type} (X X':List α) (a b:Nat):Prop where
  perm:X'.Perm X
  out:∀ k,k < a ∨ b≤k→X'[k]? = X[k]?
theorem Seg.len {α:Type} {X X':List α} {a b:Nat} (h:Seg X X' a b):X'.length=X.length:=h.perm.length_eq
theorem Seg.refl {α:Type} (X:List α) (a b:Nat):Seg X X a b:=⟨.refl _,fun _ _=>rfl⟩
theorem Seg.trans {α:Type} {X Y Z:List α} {a b:Nat} (h:Seg X Y a b) (k:Seg Y Z a b):Seg X Z a b:=⟨k.perm.trans h.perm,fun i hi=>(k.out i hi).trans (h.out i hi)⟩
theorem Seg.mono {α:Type} {X Y:List α} {a b a' b':Nat} (h:Seg X Y a b) (h1:a'≤a) (h2:b≤b'):Seg X Y a' b':=⟨h.perm,fun i hi=>h.out i (by omega)⟩
theorem Seg.nodup {α:Type} {X Y:List α} {a b:Nat} (h:Seg X Y a b) (hn:X.Nodup):Y.Nodup:=h.perm.nodup_iff.2 hn
def swapL {α:Type} (X:List α) (i j:Nat) (hi:i < X.length) (hj:j < X.length):List α:=(X.set i X[j]).set j X[i]
theorem swapL_len {α:Type} (X:List α) (i j:Nat) (hi hj):(swapL X i j hi hj).length=X.length:=by simp [swapL]
theorem swapL_get {α:Type} (X:List α) (i j:Nat) (hi:i < X.length) (hj:j < X.length) (k:Nat):(swapL X i j hi hj)[k]? = if k=j then some X[i] else if k=i then some X[j] else X[k]?:=by
  rw [swapL,List.getElem?_set,List.getElem?_set]
  by_cases h1:k=j
  · subst h1;simp [hj]
  · by_cases h2:k=i
    · subst h2;simp [hi,h1,Ne.symm h1]
    · simp [h1,h2,Ne.symm h1,Ne.symm h2]
theorem swapL_perm {α:Type} (X:List α) (i j:Nat) (hi:i < X.length) (hj:j < X.length):(swapL X i j hi hj).Perm X:=by
  exact List.set_set_perm hi hj
theorem swapL_seg {α:Type} (X:List α) (i j a b:Nat) (hi:i < X.length) (hj:j < X.length) (h1:a≤i∧i < b) (h2:a≤j∧j < b):Seg X (swapL X i j hi hj) a b :=
  ⟨swapL_perm X i j hi hj,fun k hk=>by rw [swapL_get,if_neg (by omega),if_neg (by omega)]⟩
theorem Seg.back {α:Type} {X Y:List α} {a b:Nat} (h:Seg X Y a b) (hn:X.Nodup) {k:Nat} (hk:a≤k∧k < b) {e:α} (he:Y[k]? = some e):∃ l,(a≤l∧l < b)∧X[l]? = some e:=by
  have hm:e ∈ X:=h.perm.mem_iff.1 (List.mem_of_getElem? he)
  obtain ⟨l,hl,rfl⟩:=List.getElem_of_mem hm
  by_cases hlb:a≤l∧l < b
  · exact ⟨l,hlb,List.getElem?_eq_getElem hl⟩
  · have h1:=h.out l (by omega)
    rw [List.getElem?_eq_getElem hl] at h1
    have hny:=h.nodup hn
    have hkl:k < Y.length:=(List.getElem?_eq_some_iff.1 he).1
    have hll:l < Y.length:=by rw [h.len];exact hl
    have h2:=(List.getElem?_eq_some_iff.1 he).2
    have h3:=(List.getElem?_eq_some_iff.1 h1).2
    have h4:k=l:=(List.getElem_inj hny).1 (h2.trans h3.symm)
    omega
end Go.Idl
namespace Go.Idl
open Go
def DE (x:Int×Int):Prop:=0≤x.1∧x.1 < 9223372036854775808∧0≤x.2∧x.2 < 9223372036854775808
abbrev fcE:IV:=.fn zl32 []
theorem ev_cmpE {a b:Int×Int} (ha:DE a) (hb:DE b) (M:List Boxes):Ev tb zl32 [] [.agg [I a.1,I a.2],.agg [I b.1,I b.2]] M ⟨I (cmpE a b),[],M,[]⟩:=ev_compareEdges a b ha hb M
theorem ev_order2 (X:List (Int×Int)) (hX:∀ x ∈ X,DE x) (i j s:Nat) (hi:i < X.length) (hj:j < X.length) (hs:s≤1000) (Ms Es:List Boxes) :
    Ev tb zl456 [0] [O2 X,I i,I j,.bptr Ms.length 0 0,fcE] (Ms++[[I s]]::Es)
      ⟨.tup (if below X[j] X[i] then [I j,I i] else [I i,I j]),[O2 X],Ms++[[I (if below X[j] X[i] then s+1 else s:Nat)]]::Es,[]⟩:=by
  have hb:=cmpE_below X[j] X[i]
  have e1:=fun M=>ev_lim (ev_cmpE (hX _ (List.getElem_mem hj)) (hX _ (List.getElem_mem hi)) M)
  have w1:IntKind.i64.wrap ((s:Int)+1)=(s:Int)+1:=wrap64 (by omega) (by omega)
  have hln:Ms.length+(Es.length+1+1)=Ms.length+(Es.length+1)+1:=by omega
  rw [← hb]
  by_cases hc:cmpE X[j] X[i] < 0
  · refine call_of_wp zt456 rfl ?_
    repeat (first|apply wp_as|apply wp_ss|refine wr (by simp [hi,hj,e1,hc,w1,hln];with_reducible rfl) ?_|refine wq (by simp [hi,hj,e1,hc,w1,hln];with_reducible rfl) ?_|refine wt (by simpa [hi,hj,e1,hc,w1,hln]) ?_|refine wf (by simpa [hi,hj,e1,hc,w1,hln]) ?_|refine xt (by simpa [hi,hj,e1,hc,w1,hln]) ?_|refine xf (by simpa [hi,hj,e1,hc,w1,hln]) ?_|apply wp_bs|apply wp_b|refine wp_sr ?_|refine wp_sx ?_|refine wp_ret' ?_|refine wp_skip' ?_|refine wp_exit' ?_)
    simp [zi456,hc]
  · refine call_of_wp zt456 rfl ?_
    repeat (first|apply wp_as|apply wp_ss|refine wr (by simp [hi,hj,e1,hc,w1,hln];with_reducible rfl) ?_|refine wq (by simp [hi,hj,e1,hc,w1,hln];with_reducible rfl) ?_|refine wt (by simpa [hi,hj,e1,hc,w1,hln]) ?_|refine wf (by simpa [hi,hj,e1,hc,w1,hln]) ?_|refine xt (by simpa [hi,hj,e1,hc,w1,hln]) ?_|refine xf (by simpa [hi,hj,e1,hc,w1,hln]) ?_|apply wp_bs|apply wp_b|refine wp_sr ?_|refine wp_sx ?_|refine wp_ret' ?_|refine wp_skip' ?_|refine wp_exit' ?_)
    simp [zi456,hc]
theorem below_total {a b:Int×Int} (h:a ≠ b):below a b=true ∨ below b a=true:=by
  simp only [below,Bool.or_eq_true,Bool.and_eq_true,decide_eq_true_eq]
  have:¬ (a.1=b.1∧a.2=b.2):=fun h2=>h (Prod.ext h2.1 h2.2)
  omega
theorem below_asymm {a b:Int×Int} (h:below a b=true):below b a=false:=by
  rw [← Bool.not_eq_true]
  simp only [below,Bool.or_eq_true,Bool.and_eq_true,decide_eq_true_eq] at *
  omega
theorem order2' (X:List (Int×Int)) (hX:∀ x ∈ X,DE x) (hn:X.Nodup) (i j s:Nat) (hi:i < X.length) (hj:j < X.length) (hij:i ≠ j) (hs:s≤1000) (Ms Es:List Boxes) :
    ∃ a b s':Nat,((a=i∧b=j) ∨ (a=j∧b=i))∧s'≤s+1∧(∀ ha hb,below (X[a]'ha) (X[b]'hb)=true) ∧
      limF tb zl456 [0] [O2 X,I i,I j,.bptr Ms.length 0 0,fcE] (Ms++[[I s]]::Es)=some ⟨.tup [I a,I b],[O2 X],Ms++[[I s']]::Es,[]⟩:=by
  have e:=ev_lim (ev_order2 X hX i j s hi hj hs Ms Es)
  have hne:X[i] ≠ X[j]:=fun h=>hij ((List.getElem_inj hn).1 h)
  cases hb:below X[j] X[i] with
  | true =>
    rw [hb] at e
    exact ⟨j,i,s+1,.inr ⟨rfl,rfl⟩,by omega,fun _ _=>hb,e⟩
  | false =>
    rw [hb] at e
    refine ⟨i,j,s,.inl ⟨rfl,rfl⟩,by omega,fun _ _=>?_,e⟩
    rcases below_total hne with h | h
    · exact h
    · rw [hb] at h;cases h
theorem ev_median (X:List (Int×Int)) (hX:∀ x ∈ X,DE x) (hn:X.Nodup) (i j k s:Nat) (hi:i < X.length) (hj:j < X.length) (hk:k < X.length) (hij:i ≠ j) (hik:i ≠ k) (hjk:j ≠ k) (hs:s≤900) (Ms Es:List Boxes) :
    ∃ m s':Nat,s'≤s+3∧(m=i ∨ m=j ∨ m=k)∧(∃ p,(p=i ∨ p=j ∨ p=k)∧∀ h1 h2,below (X[p]'h1) (X[m]'h2)=true)∧(∃ p,(p=i ∨ p=j ∨ p=k)∧∀ h1 h2,below (X[m]'h1) (X[p]'h2)=true) ∧
      Ev tb zl454 [0] [O2 X,I i,I j,I k,.bptr Ms.length 0 0,fcE] (Ms++[[I s]]::Es) ⟨I m,[O2 X],Ms++[[I s']]::Es,[]⟩:=by
  obtain ⟨a1,b1,s1,h1,k1,o1,e1⟩:=order2' X hX hn i j s hi hj hij (by omega) Ms (Es++[[]])
  have ha1:a1 < X.length:=by omega
  have hb1:b1 < X.length:=by omega
  obtain ⟨b2,c2,s2,h2,k2,o2,e2⟩:=order2' X hX hn b1 k s1 hb1 hk (by omega) (by omega) Ms (Es++[[]])
  have hb2:b2 < X.length:=by omega
  have hc2:c2 < X.length:=by omega
  obtain ⟨a3,b3,s3,h3,k3,o3,e3⟩:=order2' X hX hn a1 b2 s2 ha1 hb2 (by omega) (by omega) Ms (Es++[[]])
  have ha3:a3 < X.length:=by omega
  have hb3:b3 < X.length:=by omega
  refine ⟨b3,s3,by omega,by omega,⟨a3,by omega,fun _ _=>o3 ha3 hb3⟩,?_,?_⟩
  · rcases h3 with ⟨_,rfl⟩ | ⟨_,rfl⟩
    · exact ⟨c2,by omega,fun _ _=>o2 hb2 hc2⟩
    · exact ⟨b1,by omega,fun _ _=>o1 ha1 hb1⟩
  · have hln:Ms.length+(Es.length+1+1)=Ms.length+(Es.length+1)+1:=by omega
    refine call_of_wp zt454 rfl ?_
    repeat (first|apply wp_as|apply wp_ss|refine wr (by simp [e1,e2,e3,hln];with_reducible rfl) ?_|refine wq (by simp [e1,e2,e3,hln];with_reducible rfl) ?_|refine wt (by simpa [e1,e2,e3,hln]) ?_|refine wf (by simpa [e1,e2,e3,hln]) ?_|refine xt (by simpa [e1,e2,e3,hln]) ?_|refine xf (by simpa [e1,e2,e3,hln]) ?_|apply wp_bs|apply wp_b|refine wp_sr ?_|refine wp_sx ?_|refine wp_ret' ?_|refine wp_skip' ?_|refine wp_exit' ?_)
    simp [zi454]
set_option maxHeartbeats 2000000 in
theorem ev_choosePivot (X:List (Int×Int)) (hX:∀ x ∈ X,DE x) (hn:X.Nodup) (hl:X.length≤2000000) (a n:Nat) (hab:a+n≤X.length) (h13:13≤n) (h49:n≤49) (M:List Boxes) :
    ∃ (m:Nat) (hint:Int),(a≤m∧m < a+n)∧(hint=0 ∨ hint=1)∧(∃ p,(a≤p∧p < a+n)∧∀ h1 h2,below (X[p]'h1) (X[m]'h2)=true)∧(∃ p,(a≤p∧p < a+n)∧∀ h1 h2,below (X[m]'h1) (X[p]'h2)=true) ∧
      Ev tb zl450 [0] [O2 X,I a,I ((a:Int)+n),fcE] M ⟨.tup [I m,I hint],[O2 X],M,[]⟩:=by
  obtain ⟨q,hq⟩:∃ q,q=n / 4:=⟨_,rfl⟩
  have hq1:3≤q∧q * 3 < n:=by omega
  obtain ⟨m,s',h1,h2,⟨p1,h3,h4⟩,⟨p2,h5,h6⟩,e⟩:=ev_median X hX hn (a+q) (a+q * 2) (a+q * 3) 0 (by omega) (by omega) (by omega) (by omega) (by omega) (by omega) (by omega) M []
  have e1:=ev_lim e
  have t1:(n:Int).tdiv 4=(q:Int):=by rw [Int.tdiv_eq_ediv_of_nonneg (by omega)];omega
  have w0:IntKind.i64.wrap (n:Int)=(n:Int):=wrap64 (by omega) (by omega)
  have w00:(a:Int)+n - a=n:=by omega
  have w1:IntKind.i64.wrap (q:Int)=(q:Int):=wrap64 (by omega) (by omega)
  have w2:IntKind.i64.wrap ((q:Int) * 2)=(q:Int) * 2:=wrap64 (by omega) (by omega)
  have w3:IntKind.i64.wrap ((q:Int) * 3)=(q:Int) * 3:=wrap64 (by omega) (by omega)
  have w4:IntKind.i64.wrap ((a:Int)+q)=(a:Int)+q:=wrap64 (by omega) (by omega)
  have w5:IntKind.i64.wrap ((a:Int)+q * 2)=(a:Int)+q * 2:=wrap64 (by omega) (by omega)
  have w6:IntKind.i64.wrap ((a:Int)+q * 3)=(a:Int)+q * 3:=wrap64 (by omega) (by omega)
  have g1:(8:Int)≤n:=by omega
  have g1':8≤n:=by omega
  have g2:¬ (50:Int)≤n:=by omega
  have g2':¬ 50≤n:=by omega
  rw [show ((a+q:Nat):Int)=(a:Int)+q by omega,show ((a+q * 2:Nat):Int)=(a:Int)+q * 2 by omega,show ((a+q * 3:Nat):Int)=(a:Int)+q * 3 by omega,show ((0:Nat):Int)=0 from rfl] at e1
  by_cases hs0:s'=0
  · subst hs0
    refine ⟨m,1,by omega,.inr rfl,⟨p1,by omega,h4⟩,⟨p2,by omega,h6⟩,?_⟩
    refine call_of_wp zt450 rfl ?_
    repeat (first|apply wp_as|apply wp_ss|refine wr (by simp [e1,t1,w00,w0,w1,w2,w3,w4,w5,w6,g1,g2,g1',g2'];with_reducible rfl) ?_|refine wq (by simp [e1,t1,w00,w0,w1,w2,w3,w4,w5,w6,g1,g2,g1',g2'];with_reducible rfl) ?_|refine wt (by simpa [e1,t1,w00,w0,w1,w2,w3,w4,w5,w6,g1,g2,g1',g2']) ?_|refine wf (by simpa [e1,t1,w00,w0,w1,w2,w3,w4,w5,w6,g1,g2,g1',g2']) ?_|refine xt (by simpa [e1,t1,w00,w0,w1,w2,w3,w4,w5,w6,g1,g2,g1',g2']) ?_|refine xf (by simpa [e1,t1,w00,w0,w1,w2,w3,w4,w5,w6,g1,g2,g1',g2']) ?_|apply wp_bs|apply wp_b|refine wp_sr ?_|refine wp_sx ?_|refine wp_ret' ?_|refine wp_skip' ?_|refine wp_exit' ?_)
    simp [zi450]
  · have hs1:¬ (s':Int)=0:=by omega
    have hs2:¬ (s':Int)=12:=by omega
    have hs3:¬ s'=12:=by omega
    refine ⟨m,0,by omega,.inl rfl,⟨p1,by omega,h4⟩,⟨p2,by omega,h6⟩,?_⟩
    refine call_of_wp zt450 rfl ?_
    repeat (first|apply wp_as|apply wp_ss|refine wr (by simp [e1,t1,w00,w0,w1,w2,w3,w4,w5,w6,g1,g2,g1',g2',hs0,hs1,hs2,hs3];with_reducible rfl) ?_|refine wq (by simp [e1,t1,w00,w0,w1,w2,w3,w4,w5,w6,g1,g2,g1',g2',hs0,hs1,hs2,hs3];with_reducible rfl) ?_|refine wt (by simpa [e1,t1,w00,w0,w1,w2,w3,w4,w5,w6,g1,g2,g1',g2',hs0,hs1,hs2,hs3]) ?_|refine wf (by simpa [e1,t1,w00,w0,w1,w2,w3,w4,w5,w6,g1,g2,g1',g2',hs0,hs1,hs2,hs3]) ?_|refine xt (by simpa [e1,t1,w00,w0,w1,w2,w3,w4,w5,w6,g1,g2,g1',g2',hs0,hs1,hs2,hs3]) ?_|refine xf (by simpa [e1,t1,w00,w0,w1,w2,w3,w4,w5,w6,g1,g2,g1',g2',hs0,hs1,hs2,hs3]) ?_|apply wp_bs|apply wp_b|refine wp_sr ?_|refine wp_sx ?_|refine wp_ret' ?_|refine wp_skip' ?_|refine wp_exit' ?_)
    simp [zi450]
end Go.Idl
namespace Go.Idl
open Go
def BelowOn (X:List (Int×Int)) (lo hi:Nat) (x:Int×Int):Prop:=∀ k e,lo≤k→k < hi→X[k]? = some e→below e x=true
def AboveOn (X:List (Int×Int)) (lo hi:Nat) (x:Int×Int):Prop:=∀ k e,lo≤k→k < hi→X[k]? = some e→below e x=false
theorem AboveOn.cons {X:List (Int×Int)} {lo hi:Nat} {x:Int×Int} (h:AboveOn X (lo+1) hi x) (hl:lo < X.length) (hb:below X[lo] x=false):AboveOn X lo hi x:=fun k e h1 h2 he=>by
  by_cases hk:k=lo
  · subst hk
    rw [List.getElem?_eq_getElem hl] at he
    cases he;exact hb
  · exact h k e (by omega) h2 he
theorem part_ia (X:List (Int×Int)) (hX:∀ x ∈ X,DE x) (hl:X.length≤2000000) (a j:Nat) (ha:a < X.length) (hj:j < X.length) (M:List Boxes):∀ (m i:Nat),i+m=j+1 →
    wp tb (.loop z283l5) { T:=[(0,O2 X),(1,I a),(4,fcE),(12,I i),(13,I j)],loc:=[],M:=M }
      (fun ex st=>ex=.exit 0∧∃ i':Nat,(i≤i'∧i'≤j+1∧BelowOn X i i' X[a]∧(∀ h:i'≤j,below (X[i']'(by omega)) X[a]=false)) ∧
        st={ T:=[(0,O2 X),(1,I a),(4,fcE),(12,I i'),(13,I j),(47,Bo false)],loc:=[],M:=M }):=by
  intro m
  induction m with
  | zero =>
    intro i hi
    have h1:¬ i≤j:=by omega
    have h2:¬ (i:Int)≤j:=by omega
    refine wp_loop ?_
    repeat (first|apply wp_as|apply wp_ss|refine wr (by simp [h1,h2];with_reducible rfl) ?_|refine wq (by simp [h1,h2];with_reducible rfl) ?_|refine wt (by simpa [h1,h2]) ?_|refine wf (by simpa [h1,h2]) ?_|refine xt (by simpa [h1,h2]) ?_|refine xf (by simpa [h1,h2]) ?_|apply wp_bs|apply wp_b|refine wp_sr ?_|refine wp_sx ?_|refine wp_ret' ?_|refine wp_skip' ?_|refine wp_exit' ?_)
    exact ⟨rfl,i,⟨Nat.le_refl _,by omega,fun k e k1 k2 _=>by omega,fun h=>absurd h h1⟩,rfl⟩
  | succ m ih =>
    intro i hi
    have h1:i≤j:=by omega
    have h2:(i:Int)≤j:=by omega
    have hi2:i < X.length:=by omega
    have w1:IntKind.i64.wrap ((i:Int)+1)=((i+1:Nat):Int):=wrapS (by omega)
    have hb:=cmpE_below X[i] X[a]
    have e1:=fun M=>ev_lim (ev_cmpE (hX _ (List.getElem_mem hi2)) (hX _ (List.getElem_mem ha)) M)
    by_cases hc:cmpE X[i] X[a] < 0
    · have hbt:below X[i] X[a]=true:=by rw [← hb];exact decide_eq_true hc
      refine wp_loop ?_
      repeat (first|apply wp_as|apply wp_ss|refine wr (by simp [h1,h2,hi2,ha,e1,hc,w1];with_reducible rfl) ?_|refine wq (by simp [h1,h2,hi2,ha,e1,hc,w1];with_reducible rfl) ?_|refine wt (by simpa [h1,h2,hi2,ha,e1,hc,w1]) ?_|refine wf (by simpa [h1,h2,hi2,ha,e1,hc,w1]) ?_|refine xt (by simpa [h1,h2,hi2,ha,e1,hc,w1]) ?_|refine xf (by simpa [h1,h2,hi2,ha,e1,hc,w1]) ?_|apply wp_bs|apply wp_b|refine wp_sr ?_|refine wp_sx ?_|refine wp_ret' ?_|refine wp_skip' ?_|refine wp_exit' ?_)
      refine wp_imp (ih (i+1) (by omega)) ?_
      rintro ex st ⟨rfl,i',⟨k1,k2,k3,k4⟩,rfl⟩
      refine ⟨rfl,i',⟨by omega,k2,fun k e q1 q2 q3=>?_,k4⟩,rfl⟩
      by_cases hk:k=i
      · subst hk
        rw [List.getElem?_eq_getElem hi2] at q3
        cases q3;exact hbt
      · exact k3 k e (by omega) q2 q3
    · have hbt:below X[i] X[a]=false:=by rw [← hb];exact decide_eq_false hc
      refine wp_loop ?_
      repeat (first|apply wp_as|apply wp_ss|refine wr (by simp [h1,h2,hi2,ha,e1,hc,w1];with_reducible rfl) ?_|refine wq (by simp [h1,h2,hi2,ha,e1,hc,w1];with_reducible rfl) ?_|refine wt (by simpa [h1,h2,hi2,ha,e1,hc,w1]) ?_|refine wf (by simpa [h1,h2,hi2,ha,e1,hc,w1]) ?_|refine xt (by simpa [h1,h2,hi2,ha,e1,hc,w1]) ?_|refine xf (by simpa [h1,h2,hi2,ha,e1,hc,w1]) ?_|apply wp_bs|apply wp_b|refine wp_sr ?_|refine wp_sx ?_|refine wp_ret' ?_|refine wp_skip' ?_|refine wp_exit' ?_)
      exact ⟨rfl,i,⟨Nat.le_refl _,by omega,fun k e k1 k2 _=>by omega,fun _=>hbt⟩,rfl⟩
theorem part_ib (X:List (Int×Int)) (hX:∀ x ∈ X,DE x) (hl:X.length≤2000000) (a j:Nat) (ha:a < X.length) (hj:j < X.length) (M:List Boxes):∀ (m i:Nat),i+m=j+1 →
    wp tb (.loop z283l17) { T:=[(0,O2 X),(1,I a),(4,fcE),(12,I i),(13,I j)],loc:=[],M:=M }
      (fun ex st=>ex=.exit 6∧∃ i':Nat,(i≤i'∧i'≤j+1∧BelowOn X i i' X[a]∧(∀ h:i'≤j,below (X[i']'(by omega)) X[a]=false)) ∧
        st={ T:=[(0,O2 X),(1,I a),(4,fcE),(12,I i'),(13,I j),(120,Bo false)],loc:=[],M:=M }):=by
  intro m
  induction m with
  | zero =>
    intro i hi
    have h1:¬ i≤j:=by omega
    have h2:¬ (i:Int)≤j:=by omega
    refine wp_loop ?_
    repeat (first|apply wp_as|apply wp_ss|refine wr (by simp [h1,h2];with_reducible rfl) ?_|refine wq (by simp [h1,h2];with_reducible rfl) ?_|refine wt (by simpa [h1,h2]) ?_|refine wf (by simpa [h1,h2]) ?_|refine xt (by simpa [h1,h2]) ?_|refine xf (by simpa [h1,h2]) ?_|apply wp_bs|apply wp_b|refine wp_sr ?_|refine wp_sx ?_|refine wp_ret' ?_|refine wp_skip' ?_|refine wp_exit' ?_)
    exact ⟨rfl,i,⟨Nat.le_refl _,by omega,fun k e k1 k2 _=>by omega,fun h=>absurd h h1⟩,rfl⟩
  | succ m ih =>
    intro i hi
    have h1:i≤j:=by omega
    have h2:(i:Int)≤j:=by omega
    have hi2:i < X.length:=by omega
    have w1:IntKind.i64.wrap ((i:Int)+1)=((i+1:Nat):Int):=wrapS (by omega)
    have hb:=cmpE_below X[i] X[a]
    have e1:=fun M=>ev_lim (ev_cmpE (hX _ (List.getElem_mem hi2)) (hX _ (List.getElem_mem ha)) M)
    by_cases hc:cmpE X[i] X[a] < 0
    · have hbt:below X[i] X[a]=true:=by rw [← hb];exact decide_eq_true hc
      refine wp_loop ?_
      repeat (first|apply wp_as|apply wp_ss|refine wr (by simp [h1,h2,hi2,ha,e1,hc,w1];with_reducible rfl) ?_|refine wq (by simp [h1,h2,hi2,ha,e1,hc,w1];with_reducible rfl) ?_|refine wt (by simpa [h1,h2,hi2,ha,e1,hc,w1]) ?_|refine wf (by simpa [h1,h2,hi2,ha,e1,hc,w1]) ?_|refine xt (by simpa [h1,h2,hi2,ha,e1,hc,w1]) ?_|refine xf (by simpa [h1,h2,hi2,ha,e1,hc,w1]) ?_|apply wp_bs|apply wp_b|refine wp_sr ?_|refine wp_sx ?_|refine wp_ret' ?_|refine wp_skip' ?_|refine wp_exit' ?_)
      refine wp_imp (ih (i+1) (by omega)) ?_
      rintro ex st ⟨rfl,i',⟨k1,k2,k3,k4⟩,rfl⟩
      refine ⟨rfl,i',⟨by omega,k2,fun k e q1 q2 q3=>?_,k4⟩,rfl⟩
      by_cases hk:k=i
      · subst hk
        rw [List.getElem?_eq_getElem hi2] at q3
        cases q3;exact hbt
      · exact k3 k e (by omega) q2 q3
    · have hbt:below X[i] X[a]=false:=by rw [← hb];exact decide_eq_false hc
      refine wp_loop ?_
      repeat (first|apply wp_as|apply wp_ss|refine wr (by simp [h1,h2,hi2,ha,e1,hc,w1];with_reducible rfl) ?_|refine wq (by simp [h1,h2,hi2,ha,e1,hc,w1];with_reducible rfl) ?_|refine wt (by simpa [h1,h2,hi2,ha,e1,hc,w1]) ?_|refine wf (by simpa [h1,h2,hi2,ha,e1,hc,w1]) ?_|refine xt (by simpa [h1,h2,hi2,ha,e1,hc,w1]) ?_|refine xf (by simpa [h1,h2,hi2,ha,e1,hc,w1]) ?_|apply wp_bs|apply wp_b|refine wp_sr ?_|refine wp_sx ?_|refine wp_ret' ?_|refine wp_skip' ?_|refine wp_exit' ?_)
      exact ⟨rfl,i,⟨Nat.le_refl _,by omega,fun k e k1 k2 _=>by omega,fun _=>hbt⟩,rfl⟩
theorem part_ja (X:List (Int×Int)) (hX:∀ x ∈ X,DE x) (hl:X.length≤2000000) (a i:Nat) (ha:a < X.length) (h0:0 < i) (M:List Boxes):∀ (m j:Nat) (f:Bool),i+m=j+1→j < X.length →
    wp tb (.loop z283l8) { T:=[(0,O2 X),(1,I a),(4,fcE),(12,I i),(13,I j)]++(if f then [(47,Bo false)] else []),loc:=[],M:=M }
      (fun ex st=>ex=.exit 2∧∃ j':Nat,(j'≤j∧i≤j'+1∧AboveOn X (j'+1) (j+1) X[a]∧(i≤j'→∃ h:j' < X.length,below X[j'] X[a]=true)) ∧
        st={ T:=[(0,O2 X),(1,I a),(4,fcE),(12,I i),(13,I j'),(66,Bo false)],loc:=[],M:=M }):=by
  intro m
  induction m with
  | zero =>
    intro j f hj hjl
    have h1:¬ i≤j:=by omega
    have h2:¬ (i:Int)≤j:=by omega
    cases f
    all_goals
      simp only [if_true,if_false,Bool.false_eq_true,List.append_nil,List.cons_append,List.nil_append]
      refine wp_loop ?_
      repeat (first|apply wp_as|apply wp_ss|refine wr (by simp [h1,h2];with_reducible rfl) ?_|refine wq (by simp [h1,h2];with_reducible rfl) ?_|refine wt (by simpa [h1,h2]) ?_|refine wf (by simpa [h1,h2]) ?_|refine xt (by simpa [h1,h2]) ?_|refine xf (by simpa [h1,h2]) ?_|apply wp_bs|apply wp_b|refine wp_sr ?_|refine wp_sx ?_|refine wp_ret' ?_|refine wp_skip' ?_|refine wp_exit' ?_)
      exact ⟨rfl,j,⟨Nat.le_refl _,by omega,fun k e k1 k2 _=>by omega,fun h=>absurd h h1⟩,rfl⟩
  | succ m ih =>
    intro j f hj hjl
    have h1:i≤j:=by omega
    have h2:(i:Int)≤j:=by omega
    obtain ⟨q,rfl⟩:∃ q,j=q+1:=⟨j - 1,by omega⟩
    have w1:IntKind.i64.wrap (q:Int)=(q:Int):=wrap64 (by omega) (by omega)
    have hb:=cmpE_below X[q+1] X[a]
    have e1:=fun M=>ev_lim (ev_cmpE (hX _ (List.getElem_mem hjl)) (hX _ (List.getElem_mem ha)) M)
    have h3:(i:Int)≤(q:Int)+1:=by omega
    cases f
    all_goals
      simp only [if_true,if_false,Bool.false_eq_true,List.append_nil,List.cons_append,List.nil_append]
      by_cases hc:cmpE X[q+1] X[a] < 0
      · have hbt:below X[q+1] X[a]=true:=by rw [← hb];exact decide_eq_true hc
        refine wp_loop ?_
        repeat (first|apply wp_as|apply wp_ss|refine wr (by simp [h1,h2,h3,hjl,ha,e1,hc,w1];with_reducible rfl) ?_|refine wq (by simp [h1,h2,h3,hjl,ha,e1,hc,w1];with_reducible rfl) ?_|refine wt (by simpa [h1,h2,h3,hjl,ha,e1,hc,w1]) ?_|refine wf (by simpa [h1,h2,h3,hjl,ha,e1,hc,w1]) ?_|refine xt (by simpa [h1,h2,h3,hjl,ha,e1,hc,w1]) ?_|refine xf (by simpa [h1,h2,h3,hjl,ha,e1,hc,w1]) ?_|apply wp_bs|apply wp_b|refine wp_sr ?_|refine wp_sx ?_|refine wp_ret' ?_|refine wp_skip' ?_|refine wp_exit' ?_)
        exact ⟨rfl,q+1,⟨Nat.le_refl _,by omega,fun k e k1 k2 _=>by omega,fun _=>⟨hjl,hbt⟩⟩,rfl⟩
      · have hbt:below X[q+1] X[a]=false:=by rw [← hb];exact decide_eq_false hc
        refine wp_loop ?_
        repeat (first|apply wp_as|apply wp_ss|refine wr (by simp [h1,h2,h3,hjl,ha,e1,hc,w1];with_reducible rfl) ?_|refine wq (by simp [h1,h2,h3,hjl,ha,e1,hc,w1];with_reducible rfl) ?_|refine wt (by simpa [h1,h2,h3,hjl,ha,e1,hc,w1]) ?_|refine wf (by simpa [h1,h2,h3,hjl,ha,e1,hc,w1]) ?_|refine xt (by simpa [h1,h2,h3,hjl,ha,e1,hc,w1]) ?_|refine xf (by simpa [h1,h2,h3,hjl,ha,e1,hc,w1]) ?_|apply wp_bs|apply wp_b|refine wp_sr ?_|refine wp_sx ?_|refine wp_ret' ?_|refine wp_skip' ?_|refine wp_exit' ?_)
        refine wp_imp ((by simpa using ih q false (by omega) (by omega))) ?_
        rintro ex st ⟨rfl,j',⟨k1,k2,k3,k4⟩,rfl⟩
        refine ⟨rfl,j',⟨by omega,k2,fun k e q1 q2 q3=>?_,k4⟩,rfl⟩
        by_cases hk:k=q+1
        · subst hk
          rw [List.getElem?_eq_getElem hjl] at q3
          cases q3;exact hbt
        · exact k3 k e q1 (by omega) q3
theorem part_jb (X:List (Int×Int)) (hX:∀ x ∈ X,DE x) (hl:X.length≤2000000) (a i:Nat) (ha:a < X.length) (h0:0 < i) (M:List Boxes):∀ (m j:Nat) (f:Bool),i+m=j+1→j < X.length →
    wp tb (.loop z283l20) { T:=[(0,O2 X),(1,I a),(4,fcE),(12,I i),(13,I j)]++(if f then [(120,Bo false)] else []),loc:=[],M:=M }
      (fun ex st=>ex=.exit 8∧∃ j':Nat,(j'≤j∧i≤j'+1∧AboveOn X (j'+1) (j+1) X[a]∧(i≤j'→∃ h:j' < X.length,below X[j'] X[a]=true)) ∧
        st={ T:=[(0,O2 X),(1,I a),(4,fcE),(12,I i),(13,I j'),(139,Bo false)],loc:=[],M:=M }):=by
  intro m
  induction m with
  | zero =>
    intro j f hj hjl
    have h1:¬ i≤j:=by omega
    have h2:¬ (i:Int)≤j:=by omega
    cases f
    all_goals
      simp only [if_true,if_false,Bool.false_eq_true,List.append_nil,List.cons_append,List.nil_append]
      refine wp_loop ?_
      repeat (first|apply wp_as|apply wp_ss|refine wr (by simp [h1,h2];with_reducible rfl) ?_|refine wq (by simp [h1,h2];with_reducible rfl) ?_|refine wt (by simpa [h1,h2]) ?_|refine wf (by simpa [h1,h2]) ?_|refine xt (by simpa [h1,h2]) ?_|refine xf (by simpa [h1,h2]) ?_|apply wp_bs|apply wp_b|refine wp_sr ?_|refine wp_sx ?_|refine wp_ret' ?_|refine wp_skip' ?_|refine wp_exit' ?_)
      exact ⟨rfl,j,⟨Nat.le_refl _,by omega,fun k e k1 k2 _=>by omega,fun h=>absurd h h1⟩,rfl⟩
  | succ m ih =>
    intro j f hj hjl
    have h1:i≤j:=by omega
    have h2:(i:Int)≤j:=by omega
    obtain ⟨q,rfl⟩:∃ q,j=q+1:=⟨j - 1,by omega⟩
    have w1:IntKind.i64.wrap (q:Int)=(q:Int):=wrap64 (by omega) (by omega)
    have hb:=cmpE_below X[q+1] X[a]
    have e1:=fun M=>ev_lim (ev_cmpE (hX _ (List.getElem_mem hjl)) (hX _ (List.getElem_mem ha)) M)
    have h3:(i:Int)≤(q:Int)+1:=by omega
    cases f
    all_goals
      simp only [if_true,if_false,Bool.false_eq_true,List.append_nil,List.cons_append,List.nil_append]
      by_cases hc:cmpE X[q+1] X[a] < 0
      · have hbt:below X[q+1] X[a]=true:=by rw [← hb];exact decide_eq_true hc
        refine wp_loop ?_
        repeat (first|apply wp_as|apply wp_ss|refine wr (by simp [h1,h2,h3,hjl,ha,e1,hc,w1];with_reducible rfl) ?_|refine wq (by simp [h1,h2,h3,hjl,ha,e1,hc,w1];with_reducible rfl) ?_|refine wt (by simpa [h1,h2,h3,hjl,ha,e1,hc,w1]) ?_|refine wf (by simpa [h1,h2,h3,hjl,ha,e1,hc,w1]) ?_|refine xt (by simpa [h1,h2,h3,hjl,ha,e1,hc,w1]) ?_|refine xf (by simpa [h1,h2,h3,hjl,ha,e1,hc,w1]) ?_|apply wp_bs|apply wp_b|refine wp_sr ?_|refine wp_sx ?_|refine wp_ret' ?_|refine wp_skip' ?_|refine wp_exit' ?_)
        exact ⟨rfl,q+1,⟨Nat.le_refl _,by omega,fun k e k1 k2 _=>by omega,fun _=>⟨hjl,hbt⟩⟩,rfl⟩
      · have hbt:below X[q+1] X[a]=false:=by rw [← hb];exact decide_eq_false hc
        refine wp_loop ?_
        repeat (first|apply wp_as|apply wp_ss|refine wr (by simp [h1,h2,h3,hjl,ha,e1,hc,w1];with_reducible rfl) ?_|refine wq (by simp [h1,h2,h3,hjl,ha,e1,hc,w1];with_reducible rfl) ?_|refine wt (by simpa [h1,h2,h3,hjl,ha,e1,hc,w1]) ?_|refine wf (by simpa [h1,h2,h3,hjl,ha,e1,hc,w1]) ?_|refine xt (by simpa [h1,h2,h3,hjl,ha,e1,hc,w1]) ?_|refine xf (by simpa [h1,h2,h3,hjl,ha,e1,hc,w1]) ?_|apply wp_bs|apply wp_b|refine wp_sr ?_|refine wp_sx ?_|refine wp_ret' ?_|refine wp_skip' ?_|refine wp_exit' ?_)
        refine wp_imp ((by simpa using ih q false (by omega) (by omega))) ?_
        rintro ex st ⟨rfl,j',⟨k1,k2,k3,k4⟩,rfl⟩
        refine ⟨rfl,j',⟨by omega,k2,fun k e q1 q2 q3=>?_,k4⟩,rfl⟩
        by_cases hk:k=q+1
        · subst hk
          rw [List.getElem?_eq_getElem hjl] at q3
          cases q3;exact hbt
        · exact k3 k e q1 (by omega) q3
structure PInv (X0 X:List (Int×Int)) (a b i j:Nat) (x:Int×Int):Prop where
  seg:Seg X0 X a b
  piv:X[a]? = some x
  lo:BelowOn X (a+1) i x
  hi:AboveOn X (j+1) b x
  ai:a+1≤i
  ij:i≤j+1
  jb:j < b
  bl:b≤X.length
theorem PInv.al {X0 X a b i j x} (h:PInv X0 X a b i j x):a < X.length:=(List.getElem?_eq_some_iff.1 h.piv).1
theorem PInv.xa {X0 X a b i j x} (h:PInv X0 X a b i j x):X[a]'h.al=x:=(List.getElem?_eq_some_iff.1 h.piv).2
theorem PInv.swap {X0 X a b i j x} (h:PInv X0 X a b i j x) (hi:i < X.length) (hj:j < X.length) (hij:i≤j) (h1:below X[i] x=false) (h2:below X[j] x=true) :
    ∃ q,j=q+1∧i < j∧PInv X0 (swapL X i j hi hj) a b (i+1) q x:=by
  have hne:i ≠ j:=by rintro rfl;rw [h1] at h2;cases h2
  have hb:=h.bl
  have hjb:=h.jb
  have hai:=h.ai
  refine ⟨j - 1,by omega,by omega,h.seg.trans (swapL_seg X i j a b hi hj (by omega) (by omega)),?_,?_,?_,by omega,by omega,by omega,by rw [swapL_len];exact hb⟩
  · rw [swapL_get,if_neg (by omega),if_neg (by omega)];exact h.piv
  · intro k e k1 k2 he
    rw [swapL_get,if_neg (by omega)] at he
    by_cases hk:k=i
    · rw [if_pos hk] at he
      cases he;exact h2
    · rw [if_neg hk] at he
      exact h.lo k e k1 (by omega) he
  · intro k e k1 k2 he
    rw [swapL_get] at he
    by_cases hk:k=j
    · rw [if_pos hk] at he
      cases he;exact h1
    · rw [if_neg hk,if_neg (by omega)] at he
      exact h.hi k e (by omega) k2 he
theorem part_out (X0:List (Int×Int)) (hX0:∀ x ∈ X0,DE x) (hl:X0.length≤2000000) (a b:Nat) (x:Int×Int) (M:List Boxes):∀ (m:Nat) (X:List (Int×Int)) (i j:Nat),j+1≤i+m→PInv X0 X a b i j x →
    wp tb (.loop z283l25) { T:=[(0,O2 X),(1,I a),(4,fcE),(12,I i),(13,I j)],loc:=[],M:=M }
      (fun ex st=>ex=.exit 4∧∃ (X':List (Int×Int)) (j':Nat),PInv X0 X' a b (j'+1) j' x∧st={ T:=[(0,O2 X'),(1,I a),(4,fcE),(12,I (j'+1:Nat)),(13,I j'),(144,Bo true)],loc:=[],M:=M }):=by
  intro m
  induction m with
  | zero =>
    intro X i j hm h
    have hij:=h.ij
    have hi:i=j+1:=by omega
    subst hi
    have hXl:=h.seg.len
    have hX:∀ y ∈ X,DE y:=fun y hy=>hX0 y (h.seg.perm.mem_iff.1 hy)
    have hjl:j < X.length:=by have:=h.jb;have:=h.bl;omega
    have hA:=part_ib X hX (by omega) a j h.al hjl M 0 (j+1) (by omega)
    have hB:=part_jb X hX (by omega) a (j+1) h.al (by omega) M 0 j true (by omega) hjl
    have g1:((j+1:Nat):Int) > (j:Int):=by omega
    refine wp_loop ?_
    repeat (first|apply wp_as|apply wp_ss|refine wr (by simp;with_reducible rfl) ?_|refine wq (by simp;with_reducible rfl) ?_|refine wt (by simpa) ?_|refine wf (by simpa) ?_|refine xt (by simpa) ?_|refine xf (by simpa) ?_|apply wp_bs|apply wp_b|refine wp_sr ?_|refine wp_sx ?_|refine wp_ret' ?_|refine wp_skip' ?_|refine wp_exit' ?_)
    refine wp_imp hA ?_
    rintro ex st ⟨rfl,i',⟨k1,k2,-,-⟩,rfl⟩
    have:i'=j+1:=by omega
    subst this
    simp only [if_true]
    repeat (first|apply wp_as|apply wp_ss|refine wr (by simp;with_reducible rfl) ?_|refine wq (by simp;with_reducible rfl) ?_|refine wt (by simpa) ?_|refine wf (by simpa) ?_|refine xt (by simpa) ?_|refine xf (by simpa) ?_|apply wp_bs|apply wp_b|refine wp_sr ?_|refine wp_sx ?_|refine wp_ret' ?_|refine wp_skip' ?_|refine wp_exit' ?_)
    refine wp_imp hB ?_
    rintro ex st ⟨rfl,j',⟨k1,k2,-,-⟩,rfl⟩
    have:j'=j:=by omega
    subst this
    simp only [if_true]
    have g2:(j':Int) < (j':Int)+1:=by omega
    repeat (first|apply wp_as|apply wp_ss|refine wr (by simp [g2];with_reducible rfl) ?_|refine wq (by simp [g2];with_reducible rfl) ?_|refine wt (by simpa [g2]) ?_|refine wf (by simpa [g2]) ?_|refine xt (by simpa [g2]) ?_|refine xf (by simpa [g2]) ?_|apply wp_bs|apply wp_b|refine wp_sr ?_|refine wp_sx ?_|refine wp_ret' ?_|refine wp_skip' ?_|refine wp_exit' ?_)
    exact ⟨rfl,X,j',h,rfl⟩
  | succ m ih =>
    intro X i j hm h
    have hXl:=h.seg.len
    have hX:∀ y ∈ X,DE y:=fun y hy=>hX0 y (h.seg.perm.mem_iff.1 hy)
    have hjb:=h.jb
    have hbl:=h.bl
    have hai:=h.ai
    have hjl:j < X.length:=by omega
    have hxa:=h.xa
    obtain ⟨mm,hmm⟩:∃ mm,i+mm=j+1:=⟨j+1 - i,by have:=h.ij;omega⟩
    have hA:=part_ib X hX (by omega) a j h.al hjl M mm i hmm
    rw [hxa] at hA
    refine wp_loop ?_
    repeat (first|apply wp_as|apply wp_ss|refine wr (by simp;with_reducible rfl) ?_|refine wq (by simp;with_reducible rfl) ?_|refine wt (by simpa) ?_|refine wf (by simpa) ?_|refine xt (by simpa) ?_|refine xf (by simpa) ?_|apply wp_bs|apply wp_b|refine wp_sr ?_|refine wp_sx ?_|refine wp_ret' ?_|refine wp_skip' ?_|refine wp_exit' ?_)
    refine wp_imp hA ?_
    rintro ex st ⟨rfl,i',⟨k1,k2,k3,k4⟩,rfl⟩
    simp only [if_true]
    obtain ⟨m2,hm2⟩:∃ m2,i'+m2=j+1:=⟨j+1 - i',by omega⟩
    have hB:=part_jb X hX (by omega) a i' h.al (by omega) M m2 j true hm2 hjl
    rw [hxa] at hB
    repeat (first|apply wp_as|apply wp_ss|refine wr (by simp;with_reducible rfl) ?_|refine wq (by simp;with_reducible rfl) ?_|refine wt (by simpa) ?_|refine wf (by simpa) ?_|refine xt (by simpa) ?_|refine xf (by simpa) ?_|apply wp_bs|apply wp_b|refine wp_sr ?_|refine wp_sx ?_|refine wp_ret' ?_|refine wp_skip' ?_|refine wp_exit' ?_)
    refine wp_imp hB ?_
    rintro ex st ⟨rfl,j',⟨q1,q2,q3,q4⟩,rfl⟩
    simp only [if_true]
    have h':PInv X0 X a b i' j' x:=⟨h.seg,h.piv,fun k e a1 a2 a3=>by
      by_cases hk:k < i
      · exact h.lo k e a1 hk a3
      · exact k3 k e (by omega) a2 a3,fun k e a1 a2 a3=>by
      by_cases hk:j < k
      · exact h.hi k e (by omega) a2 a3
      · exact q3 k e a1 (by omega) a3,by omega,by omega,by omega,by omega⟩
    by_cases hij:i'≤j'
    · obtain ⟨hjl',hb2⟩:=q4 hij
      have hil':i' < X.length:=by omega
      obtain ⟨q,rfl,hlt,hP⟩:=h'.swap hil' hjl' hij (k4 (by omega)) hb2
      have g1:¬ ((q+1:Nat):Int) < (i':Int):=by omega
      have g2:¬ (q:Int)+1 < (i':Int):=by omega
      have w1:IntKind.i64.wrap ((i':Int)+1)=((i'+1:Nat):Int):=wrapS (by omega)
      have w2:IntKind.i64.wrap (q:Int)=(q:Int):=wrap64 (by omega) (by omega)
      have hn:=ih (swapL X i' (q+1) hil' hjl') (i'+1) q (by omega) hP
      repeat (first|apply wp_as|apply wp_ss|refine wr (by simp [g1,g2,hil',hjl',w1,w2];with_reducible rfl) ?_|refine wq (by simp [g1,g2,hil',hjl',w1,w2];with_reducible rfl) ?_|refine wt (by simpa [g1,g2,hil',hjl',w1,w2]) ?_|refine wf (by simpa [g1,g2,hil',hjl',w1,w2]) ?_|refine xt (by simpa [g1,g2,hil',hjl',w1,w2]) ?_|refine xf (by simpa [g1,g2,hil',hjl',w1,w2]) ?_|apply wp_bs|apply wp_b|refine wp_sr ?_|refine wp_sx ?_|refine wp_ret' ?_|refine wp_skip' ?_|refine wp_exit' ?_)
      exact hn
    · have hi3:i'=j'+1:=by omega
      subst hi3
      have g2:(j':Int) < (j':Int)+1:=by omega
      repeat (first|apply wp_as|apply wp_ss|refine wr (by simp [g2];with_reducible rfl) ?_|refine wq (by simp [g2];with_reducible rfl) ?_|refine wt (by simpa [g2]) ?_|refine wf (by simpa [g2]) ?_|refine xt (by simpa [g2]) ?_|refine xf (by simpa [g2]) ?_|apply wp_bs|apply wp_b|refine wp_sr ?_|refine wp_sx ?_|refine wp_ret' ?_|refine wp_skip' ?_|refine wp_exit' ?_)
      exact ⟨rfl,X,j',h',rfl⟩
theorem PInv.fin {X0 X a b j x} (h:PInv X0 X a b (j+1) j x) (hj:j < X.length):Seg X0 (swapL X j a hj h.al) a b∧(swapL X j a hj h.al)[j]? = some x∧BelowOn (swapL X j a hj h.al) a j x∧AboveOn (swapL X j a hj h.al) (j+1) b x:=by
  have hb:=h.bl
  have hjb:=h.jb
  have hai:=h.ai
  have hxa:=h.xa
  refine ⟨h.seg.trans (swapL_seg X j a a b hj h.al (by omega) (by omega)),?_,fun k e k1 k2 he=>?_,fun k e k1 k2 he=>?_⟩
  · rw [swapL_get]
    by_cases hja:j=a
    · subst hja;rw [if_pos rfl,hxa]
    · rw [if_neg hja,if_pos rfl,hxa]
  · rw [swapL_get] at he
    by_cases hka:k=a
    · rw [if_pos hka] at he
      cases he
      exact h.lo j _ (by omega) (by omega) (List.getElem?_eq_getElem hj)
    · rw [if_neg hka,if_neg (by omega)] at he
      exact h.lo k e (by omega) (by omega) he
  · rw [swapL_get,if_neg (by omega),if_neg (by omega)] at he
    exact h.hi k e k1 k2 he
theorem ev_partition (X:List (Int×Int)) (hX:∀ x ∈ X,DE x) (hl:X.length≤2000000) (a n p:Nat) (hn:2≤n) (hab:a+n≤X.length) (hp:a≤p∧p < a+n) (M:List Boxes) :
    ∃ (X':List (Int×Int)) (mid:Nat) (t:Bool),Seg X X' a (a+n)∧(a≤mid∧mid < a+n)∧X'[mid]? = X[p]?∧(∀ x,X[p]? = some x→BelowOn X' a mid x∧AboveOn X' (mid+1) (a+n) x) ∧
      Ev tb zl283 [0] [O2 X,I a,I ((a:Int)+n),I p,fcE] M ⟨.tup [I mid,Bo t],[O2 X'],M,[]⟩:=by
  have hpl:p < X.length:=by omega
  have hal:a < X.length:=by omega
  obtain ⟨x,hx⟩:∃ x,x=X[p]:=⟨_,rfl⟩
  obtain ⟨j0,hj0⟩:∃ j0,j0=a+n - 1:=⟨_,rfl⟩
  have hP1:PInv X (swapL X a p hal hpl) a (a+n) (a+1) j0 x:=by
    refine ⟨swapL_seg X a p a (a+n) hal hpl (by omega) (by omega),?_,fun k e k1 k2 _=>by omega,fun k e k1 k2 _=>by omega,by omega,by omega,by omega,by rw [swapL_len];exact hab⟩
    rw [swapL_get]
    by_cases hap:a=p
    · subst hap;rw [if_pos rfl,hx]
    · rw [if_neg hap,if_pos rfl,hx]
  have hXp:X[p]? = some x:=by rw [hx];exact List.getElem?_eq_getElem hpl
  rw [hXp]
  obtain ⟨X1,hX1⟩:∃ X1,X1=swapL X a p hal hpl:=⟨_,rfl⟩
  have hsw:(X.set a X[p]).set p X[a]=X1:=hX1.symm
  rw [← hX1] at hP1
  have hX1l:X1.length=X.length:=hP1.seg.len
  have hD1:∀ y ∈ X1,DE y:=fun y hy=>hX y (hP1.seg.perm.mem_iff.1 hy)
  have hj1:j0 < X1.length:=by omega
  have hal1:=hP1.al
  have hxa:=hP1.xa
  have w1:IntKind.i64.wrap ((a:Int)+1)=((a+1:Nat):Int):=wrapS (by omega)
  have w2:IntKind.i64.wrap ((a:Int)+n - 1)=(j0:Int):=by rw [wrap64 (by omega) (by omega)];omega
  suffices hh:∃ r,(∃ (X':List (Int×Int)) (mid:Nat) (t:Bool),Seg X X' a (a+n)∧(a≤mid∧mid < a+n)∧X'[mid]? = some x∧(BelowOn X' a mid x∧AboveOn X' (mid+1) (a+n) x)∧r=⟨.tup [I mid,Bo t],[O2 X'],M,[]⟩) ∧
      Ev tb zl283 [0] [O2 X,I a,I ((a:Int)+n),I p,fcE] M r by
    obtain ⟨r,⟨X',mid,t,q1,q2,q3,q4,rfl⟩,q5⟩:=hh
    exact ⟨X',mid,t,q1,q2,q3,fun y hy=>by cases hy;exact q4,q5⟩
  refine call_ex zt283 rfl ?_
  have hA:=part_ia X1 hD1 (by omega) a j0 hal1 hj1 M (j0 - a) (a+1) (by omega)
  rw [hxa] at hA
  repeat (first|apply wp_as|apply wp_ss|refine wr (by simp [hpl,hal,hsw,w1,w2];with_reducible rfl) ?_|refine wq (by simp [hpl,hal,hsw,w1,w2];with_reducible rfl) ?_|refine wt (by simpa [hpl,hal,hsw,w1,w2]) ?_|refine wf (by simpa [hpl,hal,hsw,w1,w2]) ?_|refine xt (by simpa [hpl,hal,hsw,w1,w2]) ?_|refine xf (by simpa [hpl,hal,hsw,w1,w2]) ?_|apply wp_bs|apply wp_b|refine wp_sr ?_|refine wp_sx ?_|refine wp_ret' ?_|refine wp_skip' ?_|refine wp_exit' ?_)
  refine wp_imp hA ?_
  rintro ex st ⟨rfl,i',⟨k1,k2,k3,k4⟩,rfl⟩
  simp only [if_true]
  have hB:=part_ja X1 hD1 (by omega) a i' hal1 (by omega) M (j0+1 - i') j0 true (by omega) hj1
  rw [hxa] at hB
  repeat (first|apply wp_as|apply wp_ss|refine wr (by simp;with_reducible rfl) ?_|refine wq (by simp;with_reducible rfl) ?_|refine wt (by simpa) ?_|refine wf (by simpa) ?_|refine xt (by simpa) ?_|refine xf (by simpa) ?_|apply wp_bs|apply wp_b|refine wp_sr ?_|refine wp_sx ?_|refine wp_ret' ?_|refine wp_skip' ?_|refine wp_exit' ?_)
  refine wp_imp hB ?_
  rintro ex st ⟨rfl,j',⟨q1,q2,q3,q4⟩,rfl⟩
  simp only [if_true]
  have h':PInv X X1 a (a+n) i' j' x:=⟨hP1.seg,hP1.piv,k3,fun k e a1 a2 a3=>q3 k e a1 (by omega) a3,by omega,by omega,by omega,by omega⟩
  have hjl':j' < X1.length:=by omega
  by_cases hij:i'≤j'
  · obtain ⟨_,hb2⟩:=q4 hij
    have hil':i' < X1.length:=by omega
    obtain ⟨q,rfl,hlt,hP⟩:=h'.swap hil' hjl' hij (k4 (by omega)) hb2
    have g2:¬ (q:Int)+1 < (i':Int):=by omega
    have w3:IntKind.i64.wrap ((i':Int)+1)=((i'+1:Nat):Int):=wrapS (by omega)
    have w4:IntKind.i64.wrap (q:Int)=(q:Int):=wrap64 (by omega) (by omega)
    repeat (first|apply wp_as|apply wp_ss|refine wr (by simp [g2,hil',hjl',w3,w4];with_reducible rfl) ?_|refine wq (by simp [g2,hil',hjl',w3,w4];with_reducible rfl) ?_|refine wt (by simpa [g2,hil',hjl',w3,w4]) ?_|refine wf (by simpa [g2,hil',hjl',w3,w4]) ?_|refine xt (by simpa [g2,hil',hjl',w3,w4]) ?_|refine xf (by simpa [g2,hil',hjl',w3,w4]) ?_|apply wp_bs|apply wp_b|refine wp_sr ?_|refine wp_sx ?_|refine wp_ret' ?_|refine wp_skip' ?_|refine wp_exit' ?_)
    refine wp_imp (part_out X hX hl a (a+n) x M (q+1) (swapL X1 i' (q+1) hil' hjl') (i'+1) q (by omega) hP) ?_
    rintro ex st ⟨rfl,X2,j2,hP2,rfl⟩
    simp only [if_true]
    have hj2:j2 < X2.length:=by have:=hP2.jb;have:=hP2.bl;omega
    have hal2:=hP2.al
    obtain ⟨f1,f2,f3,f4⟩:=hP2.fin hj2
    obtain ⟨X3,hX3⟩:∃ X3,X3=swapL X2 j2 a hj2 hal2:=⟨_,rfl⟩
    have hsw3:(X2.set j2 X2[a]).set a X2[j2]=X3:=hX3.symm
    rw [← hX3] at f1 f2 f3 f4
    repeat (first|apply wp_as|apply wp_ss|refine wr (by simp [hj2,hal2,hsw3];with_reducible rfl) ?_|refine wq (by simp [hj2,hal2,hsw3];with_reducible rfl) ?_|refine wt (by simpa [hj2,hal2,hsw3]) ?_|refine wf (by simpa [hj2,hal2,hsw3]) ?_|refine xt (by simpa [hj2,hal2,hsw3]) ?_|refine xf (by simpa [hj2,hal2,hsw3]) ?_|apply wp_bs|apply wp_b|refine wp_sr ?_|refine wp_sx ?_|refine wp_ret' ?_|refine wp_skip' ?_|refine wp_exit' ?_)
    refine ⟨.inr rfl,_,⟨X3,j2,false,f1,⟨by have:=hP2.ai;omega,hP2.jb⟩,f2,⟨f3,f4⟩,rfl⟩,?_⟩
    simp [zi283]
  · have hi3:i'=j'+1:=by omega
    subst hi3
    have g2:(j':Int) < (j':Int)+1:=by omega
    obtain ⟨f1,f2,f3,f4⟩:=h'.fin hjl'
    obtain ⟨X3,hX3⟩:∃ X3,X3=swapL X1 j' a hjl' hal1:=⟨_,rfl⟩
    have hsw3:(X1.set j' X1[a]).set a X1[j']=X3:=hX3.symm
    rw [← hX3] at f1 f2 f3 f4
    repeat (first|apply wp_as|apply wp_ss|refine wr (by simp [g2,hjl',hal1,hsw3];with_reducible rfl) ?_|refine wq (by simp [g2,hjl',hal1,hsw3];with_reducible rfl) ?_|refine wt (by simpa [g2,hjl',hal1,hsw3]) ?_|refine wf (by simpa [g2,hjl',hal1,hsw3]) ?_|refine xt (by simpa [g2,hjl',hal1,hsw3]) ?_|refine xf (by simpa [g2,hjl',hal1,hsw3]) ?_|apply wp_bs|apply wp_b|refine wp_sr ?_|refine wp_sx ?_|refine wp_ret' ?_|refine wp_skip' ?_|refine wp_exit' ?_)
    refine ⟨.inr rfl,_,⟨X3,j',true,f1,⟨by omega,by omega⟩,f2,⟨f3,f4⟩,rfl⟩,?_⟩
    simp [zi283]
end Go.Idl
namespace Go.Idl
open Go
abbrev U (n:Int):IV:=.sc (.int .u64 n)
def wU (n:Int):Int:=IntKind.u64.wrap n
def xorU (a b:Int):Int:=wU (BitVec.ofInt 64 a ^^^ BitVec.ofInt 64 b).toNat
def andU (a b:Int):Int:=wU (BitVec.ofInt 64 a &&& BitVec.ofInt 64 b).toNat
theorem b_xor (a b:Int):binOp .xor 0 (.int .u64 a) (.int .u64 b)=.pure (.int .u64 (xorU a b)):=rfl
theorem b_and (a b:Int):binOp .and 0 (.int .u64 a) (.int .u64 b)=.pure (.int .u64 (andU a b)):=rfl
theorem b_shl13 (a:Int):binOp .shl 0 (.int .u64 a) (.int .u64 13)=.pure (.int .u64 (wU (a * 2 ^ 13))):=rfl
theorem b_shl17 (a:Int):binOp .shl 0 (.int .u64 a) (.int .u64 17)=.pure (.int .u64 (wU (a * 2 ^ 17))):=rfl
theorem b_shr7 (a:Int):binOp .shr 0 (.int .u64 a) (.int .u64 7)=.pure (.int .u64 (a.fdiv (2 ^ 7))):=rfl
theorem wU_eq (n:Int):wU n=n % 18446744073709551616:=rfl
theorem andU_le {a b:Int} (h0:0≤b) (h1:b < 18446744073709551616):0≤andU a b∧andU a b≤b:=by
  have h2:(BitVec.ofInt 64 a &&& BitVec.ofInt 64 b).toNat≤(BitVec.ofInt 64 b).toNat:=by
    rw [BitVec.toNat_and];exact Nat.and_le_right
  have h3:(BitVec.ofInt 64 b).toNat=b.toNat:=by
    rw [BitVec.toNat_ofInt];congr 1;exact Int.emod_eq_of_lt h0 h1
  rw [h3] at h2
  rw [andU,wU_eq]
  generalize (BitVec.ofInt 64 a &&& BitVec.ofInt 64 b).toNat=z at *
  omega
theorem ev_Next (s:Int) (Ms Es:List Boxes):∃ s':Int,Ev tb zl106 [] [.bptr Ms.length 0 0] (Ms++[[U s]]::Es) ⟨U s',[],Ms++[[U s']]::Es,[]⟩:=by
  refine ⟨xorU (xorU (xorU s (wU (s * 2 ^ 13))) ((xorU s (wU (s * 2 ^ 13))).fdiv (2 ^ 7))) (wU (xorU (xorU s (wU (s * 2 ^ 13))) ((xorU s (wU (s * 2 ^ 13))).fdiv (2 ^ 7)) * 2 ^ 17)),?_⟩
  have x1:=b_xor s (wU (s * 2 ^ 13))
  have x0:=b_shl13 s
  generalize wU (s * 2 ^ 13)=a at *
  generalize xorU s a=b at *
  have y0:=b_shr7 b
  generalize b.fdiv (2 ^ 7)=c at *
  have y1:=b_xor b c
  generalize xorU b c=d at *
  have z0:=b_shl17 d
  generalize wU (d * 2 ^ 17)=e at *
  have z1:=b_xor d e
  generalize xorU d e=f at *
  refine call_of_wp zt106 rfl ?_
  repeat (first|apply wp_as|apply wp_ss|refine wr (by simp [x0,x1,y0,y1,z0,z1];with_reducible rfl) ?_|refine wq (by simp [x0,x1,y0,y1,z0,z1];with_reducible rfl) ?_|refine wt (by simpa [x0,x1,y0,y1,z0,z1]) ?_|refine wf (by simpa [x0,x1,y0,y1,z0,z1]) ?_|refine xt (by simpa [x0,x1,y0,y1,z0,z1]) ?_|refine xf (by simpa [x0,x1,y0,y1,z0,z1]) ?_|apply wp_bs|apply wp_b|refine wp_sr ?_|refine wp_sx ?_|refine wp_ret' ?_|refine wp_skip' ?_|refine wp_exit' ?_)
  simp [zi106]
theorem len_k (cf:CF) (n:Int) (m:Nat) (g:ByteArray) (b:UInt8) (k:Nat) (hw:IntKind.u8.wrap n=(m:Int)) (hb:g[m]? = some b) (hk:b.toNat=k) :
    ∃ st,execOps cf { T:=[(0,.sc (.int .u64 n)),(2,I 0),(14,Bo false)],loc:=[],M:=[] } [⟨some 19,none,.mv (.t 2)⟩,⟨some 20,none,.mv (.t 0)⟩,⟨some 21,none,.conv .u8 (.t 20)⟩,⟨some 22,none,.idxs (.c (.string g)) (.t 21)⟩,⟨some 23,none,.conv .i64 (.t 22)⟩,⟨some 24,none,.bin .add (.t 19) (.t 23)⟩,⟨some 2,none,.asg (.t 24)⟩]=some st∧st.cut [2]={ T:=[(2,I k)],loc:=[],M:=[] }:=by
  subst hk
  have hbl:b.toNat < 256:=b.toNat_lt
  have w1:IntKind.i64.wrap (b.toNat:Int)=(b.toNat:Int):=wrap64 (by omega) (by omega)
  refine ⟨_,by simp [hw,hb];rfl,by simp [w1]⟩
def lenB (n:Nat):Nat:=if n≤0 then 0 else if n≤1 then 1 else if n≤3 then 2 else if n≤7 then 3 else if n≤15 then 4 else 5
set_option maxRecDepth 100000 in
set_option maxHeartbeats 4000000 in
theorem ev_Len64k (n:Nat) (hn:n≤21):Ev tb zl68 [] [.sc (.int .u64 n)] [] ⟨I (lenB n),[],[],[]⟩:=by
  have cs:n=0 ∨ n=1 ∨ n=2 ∨ n=3 ∨ n=4 ∨ n=5 ∨ n=6 ∨ n=7 ∨ n=8 ∨ n=9 ∨ n=10 ∨ n=11 ∨ n=12 ∨ n=13 ∨ n=14 ∨ n=15 ∨ n=16 ∨ n=17 ∨ n=18 ∨ n=19 ∨ n=20 ∨ n=21:=by omega
  have w8:IntKind.u8.wrap (n:Int)=(n:Int):=by
    rcases cs with rfl | rfl | rfl | rfl | rfl | rfl | rfl | rfl | rfl | rfl | rfl | rfl | rfl | rfl | rfl | rfl | rfl | rfl | rfl | rfl | rfl | rfl <;> rfl
  have key:∃ st,execOps (limF tb) { T:=[(0,.sc (.int .u64 n)),(2,I 0),(14,Bo false)],loc:=[],M:=[] } (match z68r10 with | .reg ops _ _=>ops | _=>[])=some st∧st.cut [2]={ T:=[(2,I (lenB n))],loc:=[],M:=[] }:=by
    rcases cs with rfl | rfl | rfl | rfl | rfl | rfl | rfl | rfl | rfl | rfl | rfl | rfl | rfl | rfl | rfl | rfl | rfl | rfl | rfl | rfl | rfl | rfl
    all_goals
      exact len_k (limF tb) _ _ _ _ _ w8 rfl rfl
  obtain ⟨st,h1,h2⟩:=key
  have g1:¬ (4294967296:Int)≤n:=by omega
  have g2:¬ (65536:Int)≤n:=by omega
  have g3:¬ (256:Int)≤n:=by omega
  refine call_of_wp zt68 rfl ?_
  iterate 4 ((first|refine wp_as ?_|skip);refine wp_rs (by simp [g1,g2,g3];rfl) (by simp;rfl) ?_;(first|refine wp_ct (t:=false) (by simp) (by simp) (fun _=>?_)|skip);(first|refine wp_ss ?_|skip))
  refine wp_rs h1 h2 ?_
  refine wp_ret' ?_
  simp [zi68]
theorem ev_Lenk (n:Nat) (hn:n≤21):Ev tb zl66 [] [.sc (.int .u64 n)] [] ⟨I (lenB n),[],[],[]⟩:=by
  have e1:=ev_lim (ev_Len64k n hn)
  refine call_of_wp zt66 rfl ?_
  repeat (first|apply wp_as|apply wp_ss|refine wr (by simp [e1];with_reducible rfl) ?_|refine wq (by simp [e1];with_reducible rfl) ?_|refine wt (by simpa [e1]) ?_|refine wf (by simpa [e1]) ?_|refine xt (by simpa [e1]) ?_|refine xf (by simpa [e1]) ?_|apply wp_bs|apply wp_b|refine wp_sr ?_|refine wp_sx ?_|refine wp_ret' ?_|refine wp_skip' ?_|refine wp_exit' ?_)
  simp [zi66]
def npo (n:Nat):Int:=if n≤15 then 16 else 32
theorem ev_npo (n:Nat) (h1:13≤n) (h2:n≤21):Ev tb zl91 [] [I n] [] ⟨U (npo n),[],[],[]⟩:=by
  have e1:=ev_lim (ev_Lenk n h2)
  have w1:=@wrapU n (by omega)
  by_cases h:n≤15
  · rw [show lenB n=4 by rw [lenB,if_neg (by omega),if_neg (by omega),if_neg (by omega),if_neg (by omega),if_pos h],show ((4:Nat):Int)=4 from rfl] at e1
    have s1:binOp .shl 0 (.int .u64 1) (.int .i64 4)=.pure (.int .u64 16):=rfl
    rw [npo,if_pos h]
    refine call_of_wp zt91 rfl ?_
    repeat (first|apply wp_as|apply wp_ss|refine wr (by simp [e1,w1,s1];with_reducible rfl) ?_|refine wq (by simp [e1,w1,s1];with_reducible rfl) ?_|refine wt (by simpa [e1,w1,s1]) ?_|refine wf (by simpa [e1,w1,s1]) ?_|refine xt (by simpa [e1,w1,s1]) ?_|refine xf (by simpa [e1,w1,s1]) ?_|apply wp_bs|apply wp_b|refine wp_sr ?_|refine wp_sx ?_|refine wp_ret' ?_|refine wp_skip' ?_|refine wp_exit' ?_)
    simp [zi91]
    try rfl
  · rw [show lenB n=5 by rw [lenB,if_neg (by omega),if_neg (by omega),if_neg (by omega),if_neg (by omega),if_neg h],show ((5:Nat):Int)=5 from rfl] at e1
    have s1:binOp .shl 0 (.int .u64 1) (.int .i64 5)=.pure (.int .u64 32):=rfl
    rw [npo,if_neg h]
    refine call_of_wp zt91 rfl ?_
    repeat (first|apply wp_as|apply wp_ss|refine wr (by simp [e1,w1,s1];with_reducible rfl) ?_|refine wq (by simp [e1,w1,s1];with_reducible rfl) ?_|refine wt (by simpa [e1,w1,s1]) ?_|refine wf (by simpa [e1,w1,s1]) ?_|refine xt (by simpa [e1,w1,s1]) ?_|refine xf (by simpa [e1,w1,s1]) ?_|apply wp_bs|apply wp_b|refine wp_sr ?_|refine wp_sx ?_|refine wp_ret' ?_|refine wp_skip' ?_|refine wp_exit' ?_)
    simp [zi91]
    try rfl
set_option maxHeartbeats 2000000 in
theorem bp_loop (X0:List (Int×Int)) (hX0:X0.length≤2000000) (a n q:Nat) (hq:q=n / 4) (h13:13≤n) (h21:n≤21) (hab:a+n≤X0.length) (M:List Boxes):∀ (m:Nat) (X:List (Int×Int)) (k:Nat) (s:Int),k+m=a+q * 2+2→a≤k→Seg X0 X a (a+n) →
    wp tb (.loop z274l11) { T:=[(0,O2 X),(1,I a),(8,I n),(9,.bptr M.length 0 0),(10,U (npo n)),(11,I k)],loc:=[[U s]],M:=M }
      (fun ex st=>ex=.exit 0∧∃ (X':List (Int×Int)) (s':Int) (k':Nat),Seg X0 X' a (a+n)∧st={ T:=[(0,O2 X'),(1,I a),(8,I n),(9,.bptr M.length 0 0),(10,U (npo n)),(11,I k'),(35,Bo false)],loc:=[[U s']],M:=M }):=by
  have t1:(n:Int).tdiv 4=(q:Int):=by rw [Int.tdiv_eq_ediv_of_nonneg (by omega)];omega
  have w1:IntKind.i64.wrap (q:Int)=(q:Int):=wrap64 (by omega) (by omega)
  have w2:IntKind.i64.wrap ((q:Int) * 2)=(q:Int) * 2:=wrap64 (by omega) (by omega)
  have w3:IntKind.i64.wrap ((a:Int)+q * 2)=(a:Int)+q * 2:=wrap64 (by omega) (by omega)
  have w4:IntKind.i64.wrap ((a:Int)+q * 2+1)=(a:Int)+q * 2+1:=wrap64 (by omega) (by omega)
  intro m
  induction m with
  | zero =>
    intro X k s hk ha hS
    have g1:¬ (k:Int)≤(a:Int)+q * 2+1:=by omega
    refine wp_loop ?_
    repeat (first|apply wp_as|apply wp_ss|refine wr (by simp [t1,w1,w2,w3,w4,g1];with_reducible rfl) ?_|refine wq (by simp [t1,w1,w2,w3,w4,g1];with_reducible rfl) ?_|refine wt (by simpa [t1,w1,w2,w3,w4,g1]) ?_|refine wf (by simpa [t1,w1,w2,w3,w4,g1]) ?_|refine xt (by simpa [t1,w1,w2,w3,w4,g1]) ?_|refine xf (by simpa [t1,w1,w2,w3,w4,g1]) ?_|apply wp_bs|apply wp_b|refine wp_sr ?_|refine wp_sx ?_|refine wp_ret' ?_|refine wp_skip' ?_|refine wp_exit' ?_)
    exact ⟨rfl,X,s,k,hS,rfl⟩
  | succ m ih =>
    intro X k s hk ha hS
    have hXl:=hS.len
    have g1:(k:Int)≤(a:Int)+q * 2+1:=by omega
    have hkl:k < X.length:=by omega
    obtain ⟨s',hs'⟩:=ev_Next s M []
    have e1:=ev_lim hs'
    have hnp:npo n=16∧n≤15 ∨ npo n=32∧16≤n:=by
      rw [npo];split <;> omega
    have wU1:IntKind.u64.wrap (npo n - 1)=npo n - 1:=by
      rcases hnp with ⟨h,_⟩ | ⟨h,_⟩ <;> rw [h] <;> rfl
    have hand:=andU_le (a:=s') (b:=npo n - 1) (by omega) (by omega)
    have a1:=b_and s' (npo n - 1)
    generalize andU s' (npo n - 1)=o at *
    obtain ⟨o,rfl⟩:=Int.eq_ofNat_of_zero_le hand.1
    have w5:IntKind.i64.wrap (o:Int)=(o:Int):=wrap64 (by omega) (by omega)
    have w6:IntKind.i64.wrap ((k:Int)+1)=((k+1:Nat):Int):=wrapS (by omega)
    by_cases ho:(n:Int)≤o
    · have ho':n≤o:=by omega
      obtain ⟨p,hp⟩:∃ p,p=o - n:=⟨_,rfl⟩
      have w7:IntKind.i64.wrap ((o:Int) - n)=(p:Int):=by rw [wrap64 (by omega) (by omega)];omega
      have w8:IntKind.i64.wrap ((a:Int)+p)=(a:Int)+p:=wrap64 (by omega) (by omega)
      have hno:natOf (I ((a:Int)+p))=some (a+p):=natOf_nat (n:=a+p)
      have hpl:a+p < X.length:=by omega
      have hS2:=hS.trans (swapL_seg X k (a+p) a (a+n) hkl hpl (by omega) (by omega))
      have hn:=ih (swapL X k (a+p) hkl hpl) (k+1) s' (by omega) (by omega) hS2
      refine wp_loop ?_
      repeat (first|apply wp_as|apply wp_ss|refine wr (by simp [t1,w1,w2,w3,w4,g1,e1,wU1,a1,w5,ho,ho',w7,w8,hno,hkl,hpl,w6];with_reducible rfl) ?_|refine wq (by simp [t1,w1,w2,w3,w4,g1,e1,wU1,a1,w5,ho,ho',w7,w8,hno,hkl,hpl,w6];with_reducible rfl) ?_|refine wt (by simpa [t1,w1,w2,w3,w4,g1,e1,wU1,a1,w5,ho,ho',w7,w8,hno,hkl,hpl,w6]) ?_|refine wf (by simpa [t1,w1,w2,w3,w4,g1,e1,wU1,a1,w5,ho,ho',w7,w8,hno,hkl,hpl,w6]) ?_|refine xt (by simpa [t1,w1,w2,w3,w4,g1,e1,wU1,a1,w5,ho,ho',w7,w8,hno,hkl,hpl,w6]) ?_|refine xf (by simpa [t1,w1,w2,w3,w4,g1,e1,wU1,a1,w5,ho,ho',w7,w8,hno,hkl,hpl,w6]) ?_|apply wp_bs|apply wp_b|refine wp_sr ?_|refine wp_sx ?_|refine wp_ret' ?_|refine wp_skip' ?_|refine wp_exit' ?_)
      exact hn
    · have ho':¬ n≤o:=by omega
      have w8:IntKind.i64.wrap ((a:Int)+o)=(a:Int)+o:=wrap64 (by omega) (by omega)
      have hno:natOf (I ((a:Int)+o))=some (a+o):=natOf_nat (n:=a+o)
      have hpl:a+o < X.length:=by omega
      have hS2:=hS.trans (swapL_seg X k (a+o) a (a+n) hkl hpl (by omega) (by omega))
      have hn:=ih (swapL X k (a+o) hkl hpl) (k+1) s' (by omega) (by omega) hS2
      refine wp_loop ?_
      repeat (first|apply wp_as|apply wp_ss|refine wr (by simp [t1,w1,w2,w3,w4,g1,e1,wU1,a1,w5,ho,ho',w8,hno,hkl,hpl,w6];with_reducible rfl) ?_|refine wq (by simp [t1,w1,w2,w3,w4,g1,e1,wU1,a1,w5,ho,ho',w8,hno,hkl,hpl,w6];with_reducible rfl) ?_|refine wt (by simpa [t1,w1,w2,w3,w4,g1,e1,wU1,a1,w5,ho,ho',w8,hno,hkl,hpl,w6]) ?_|refine wf (by simpa [t1,w1,w2,w3,w4,g1,e1,wU1,a1,w5,ho,ho',w8,hno,hkl,hpl,w6]) ?_|refine xt (by simpa [t1,w1,w2,w3,w4,g1,e1,wU1,a1,w5,ho,ho',w8,hno,hkl,hpl,w6]) ?_|refine xf (by simpa [t1,w1,w2,w3,w4,g1,e1,wU1,a1,w5,ho,ho',w8,hno,hkl,hpl,w6]) ?_|apply wp_bs|apply wp_b|refine wp_sr ?_|refine wp_sx ?_|refine wp_ret' ?_|refine wp_skip' ?_|refine wp_exit' ?_)
      exact hn
set_option maxHeartbeats 2000000 in
theorem ev_breakPatterns (X:List (Int×Int)) (hl:X.length≤2000000) (a n:Nat) (h13:13≤n) (h21:n≤21) (hab:a+n≤X.length) (M:List Boxes) :
    ∃ X':List (Int×Int),Seg X X' a (a+n)∧Ev tb zl274 [0] [O2 X,I a,I ((a:Int)+n),fcE] M ⟨.tup [],[O2 X'],M,[]⟩:=by
  obtain ⟨q,hq⟩:∃ q,q=n / 4:=⟨_,rfl⟩
  have t1:(n:Int).tdiv 4=(q:Int):=by rw [Int.tdiv_eq_ediv_of_nonneg (by omega)];omega
  have w00:(a:Int)+n - a=n:=by omega
  have w0:IntKind.i64.wrap (n:Int)=(n:Int):=wrap64 (by omega) (by omega)
  have w1:IntKind.i64.wrap (q:Int)=(q:Int):=wrap64 (by omega) (by omega)
  have w2:IntKind.i64.wrap ((q:Int) * 2)=(q:Int) * 2:=wrap64 (by omega) (by omega)
  have w3:IntKind.i64.wrap ((a:Int)+q * 2)=(a:Int)+q * 2:=wrap64 (by omega) (by omega)
  have w4:IntKind.i64.wrap ((a:Int)+q * 2 - 1)=((a+q * 2 - 1:Nat):Int):=by rw [wrap64 (by omega) (by omega)];omega
  have wu:=@wrapU n (by omega)
  have g1:(8:Int)≤n:=by omega
  have g1':8≤n:=by omega
  have e1:=ev_lim (ev_npo n h13 h21)
  have hlo:=bp_loop X hl a n q hq h13 h21 hab M 3 X (a+q * 2 - 1) n (by omega) (by omega) (Seg.refl X a (a+n))
  generalize a+q * 2 - 1=k0 at *
  suffices hh:∃ r,(∃ X':List (Int×Int),Seg X X' a (a+n)∧r=⟨.tup [],[O2 X'],M,[]⟩)∧Ev tb zl274 [0] [O2 X,I a,I ((a:Int)+n),fcE] M r by
    obtain ⟨r,⟨X',q1,rfl⟩,q2⟩:=hh
    exact ⟨X',q1,q2⟩
  refine call_ex zt274 rfl ?_
  repeat (first|apply wp_as|apply wp_ss|refine wr (by simp [t1,w00,w0,w1,w2,w3,w4,wu,g1,g1',e1];with_reducible rfl) ?_|refine wq (by simp [t1,w00,w0,w1,w2,w3,w4,wu,g1,g1',e1];with_reducible rfl) ?_|refine wt (by simpa [t1,w00,w0,w1,w2,w3,w4,wu,g1,g1',e1]) ?_|refine wf (by simpa [t1,w00,w0,w1,w2,w3,w4,wu,g1,g1',e1]) ?_|refine xt (by simpa [t1,w00,w0,w1,w2,w3,w4,wu,g1,g1',e1]) ?_|refine xf (by simpa [t1,w00,w0,w1,w2,w3,w4,wu,g1,g1',e1]) ?_|apply wp_bs|apply wp_b|refine wp_sr ?_|refine wp_sx ?_|refine wp_ret' ?_|refine wp_skip' ?_|refine wp_exit' ?_)
  refine wp_imp hlo ?_
  rintro ex st ⟨rfl,X',s',k',hS,rfl⟩
  try simp only [if_true]
  repeat (first|apply wp_as|apply wp_ss|refine wr (by simp;with_reducible rfl) ?_|refine wq (by simp;with_reducible rfl) ?_|refine wt (by simpa) ?_|refine wf (by simpa) ?_|refine xt (by simpa) ?_|refine xf (by simpa) ?_|apply wp_bs|apply wp_b|refine wp_sr ?_|refine wp_sx ?_|refine wp_ret' ?_|refine wp_skip' ?_|refine wp_exit' ?_)
  refine ⟨by simp,_,⟨X',hS,rfl⟩,?_⟩
  simp [zi274]
theorem pi_loop (X:List (Int×Int)) (hX:∀ x ∈ X,DE x) (hl:X.length≤2000000) (a b:Nat) (hab:a < b) (hb:b≤X.length) (M:List Boxes):∀ (m i:Nat) (f:Bool),i+m=b→a < i →
    wp tb (.loop z282l6) { T:=[(0,O2 X),(1,I a),(2,I b),(3,fcE),(9,I i),(10,I 0)]++(if f then [(16,Bo true)] else []),loc:=[],M:=M }
      (fun ex st=>ex=.exit 2∧∃ i':Nat,(i≤i'∧i'≤b∧(∀ k,i≤k→k < i'→∀ h1 h2,below (X[k]'h1) (X[k - 1]'h2)=false))∧st={ T:=[(0,O2 X),(1,I a),(2,I b),(3,fcE),(9,I i'),(10,I 0),(36,Bo false)],loc:=[],M:=M }):=by
  intro m
  induction m with
  | zero =>
    intro i f hi ha
    have g1:¬ i < b:=by omega
    have g1':¬ (i:Int) < b:=by omega
    cases f
    all_goals
      simp only [if_true,if_false,Bool.false_eq_true,List.append_nil,List.cons_append,List.nil_append]
      refine wp_loop ?_
      repeat (first|apply wp_as|apply wp_ss|refine wr (by simp [g1,g1'];with_reducible rfl) ?_|refine wq (by simp [g1,g1'];with_reducible rfl) ?_|refine wt (by simpa [g1,g1']) ?_|refine wf (by simpa [g1,g1']) ?_|refine xt (by simpa [g1,g1']) ?_|refine xf (by simpa [g1,g1']) ?_|apply wp_bs|apply wp_b|refine wp_sr ?_|refine wp_sx ?_|refine wp_ret' ?_|refine wp_skip' ?_|refine wp_exit' ?_)
      exact ⟨rfl,i,⟨Nat.le_refl _,by omega,fun k k1 k2=>by omega⟩,rfl⟩
  | succ m ih =>
    intro i f hi ha
    obtain ⟨p,rfl⟩:∃ p,i=p+1:=⟨i - 1,by omega⟩
    have hil:p+1 < X.length:=by omega
    have hpl:p < X.length:=by omega
    have g1:p+1 < b:=by omega
    have g1':(p:Int)+1 < b:=by omega
    have w1:IntKind.i64.wrap (p:Int)=(p:Int):=wrap64 (by omega) (by omega)
    have w2:IntKind.i64.wrap ((p:Int)+1+1)=((p+1+1:Nat):Int):=by rw [wrap64 (by omega) (by omega)];omega
    have hbl:=cmpE_below X[p+1] X[p]
    have e1:=fun M=>ev_lim (ev_cmpE (hX _ (List.getElem_mem hil)) (hX _ (List.getElem_mem hpl)) M)
    cases f
    all_goals
      simp only [if_true,if_false,Bool.false_eq_true,List.append_nil,List.cons_append,List.nil_append]
      by_cases hc:cmpE X[p+1] X[p] < 0
      · refine wp_loop ?_
        repeat (first|apply wp_as|apply wp_ss|refine wr (by simp [g1,g1',hil,hpl,w1,e1,hc,w2];with_reducible rfl) ?_|refine wq (by simp [g1,g1',hil,hpl,w1,e1,hc,w2];with_reducible rfl) ?_|refine wt (by simpa [g1,g1',hil,hpl,w1,e1,hc,w2]) ?_|refine wf (by simpa [g1,g1',hil,hpl,w1,e1,hc,w2]) ?_|refine xt (by simpa [g1,g1',hil,hpl,w1,e1,hc,w2]) ?_|refine xf (by simpa [g1,g1',hil,hpl,w1,e1,hc,w2]) ?_|apply wp_bs|apply wp_b|refine wp_sr ?_|refine wp_sx ?_|refine wp_ret' ?_|refine wp_skip' ?_|refine wp_exit' ?_)
        exact ⟨rfl,p+1,⟨Nat.le_refl _,by omega,fun k k1 k2=>by omega⟩,rfl⟩
      · have hbt:below X[p+1] X[p]=false:=by rw [← hbl];exact decide_eq_false hc
        refine wp_loop ?_
        repeat (first|apply wp_as|apply wp_ss|refine wr (by simp [g1,g1',hil,hpl,w1,e1,hc,w2];with_reducible rfl) ?_|refine wq (by simp [g1,g1',hil,hpl,w1,e1,hc,w2];with_reducible rfl) ?_|refine wt (by simpa [g1,g1',hil,hpl,w1,e1,hc,w2]) ?_|refine wf (by simpa [g1,g1',hil,hpl,w1,e1,hc,w2]) ?_|refine xt (by simpa [g1,g1',hil,hpl,w1,e1,hc,w2]) ?_|refine xf (by simpa [g1,g1',hil,hpl,w1,e1,hc,w2]) ?_|apply wp_bs|apply wp_b|refine wp_sr ?_|refine wp_sx ?_|refine wp_ret' ?_|refine wp_skip' ?_|refine wp_exit' ?_)
        refine wp_imp (by simpa using ih (p+1+1) false (by omega) (by omega)) ?_
        rintro ex st ⟨rfl,i',⟨k1,k2,k3⟩,rfl⟩
        refine ⟨rfl,i',⟨by omega,k2,fun k q1 q2 h1 h2=>?_⟩,rfl⟩
        by_cases hk:k=p+1
        · subst hk;exact hbt
        · exact k3 k (by omega) q2 h1 h2
theorem ev_partialIns (X:List (Int×Int)) (hX:∀ x ∈ X,DE x) (hl:X.length≤2000000) (a n:Nat) (h1:1≤n) (h49:n≤49) (hab:a+n≤X.length) (M:List Boxes) :
    ∃ t:Bool,(t=true→∀ k,a < k→k < a+n→∀ h1 h2,below (X[k]'h1) (X[k - 1]'h2)=false)∧Ev tb zl282 [0] [O2 X,I a,I ((a:Int)+n),fcE] M ⟨Bo t,[O2 X],M,[]⟩:=by
  have w00:(a:Int)+n - a=n:=by omega
  have w0:IntKind.i64.wrap (n:Int)=(n:Int):=wrap64 (by omega) (by omega)
  have w1:IntKind.i64.wrap ((a:Int)+1)=((a+1:Nat):Int):=wrapS (by omega)
  have g1:(n:Int) < 50:=by omega
  have g1':n < 50:=by omega
  suffices hh:∃ r,(∃ t:Bool,(t=true→∀ k,a < k→k < a+n→∀ h1 h2,below (X[k]'h1) (X[k - 1]'h2)=false)∧r=⟨Bo t,[O2 X],M,[]⟩)∧Ev tb zl282 [0] [O2 X,I a,I ((a:Int)+n),fcE] M r by
    obtain ⟨r,⟨t,q1,rfl⟩,q2⟩:=hh
    exact ⟨t,q1,q2⟩
  have hlo:=pi_loop X hX hl a (a+n) (by omega) hab M (n - 1) (a+1) true (by omega) (by omega)
  rw [show ((a+n:Nat):Int)=(a:Int)+n by omega] at hlo
  refine call_ex zt282 rfl ?_
  repeat (first|apply wp_as|apply wp_ss|refine wr (by simp [w1];with_reducible rfl) ?_|refine wq (by simp [w1];with_reducible rfl) ?_|refine wt (by simpa [w1]) ?_|refine wf (by simpa [w1]) ?_|refine xt (by simpa [w1]) ?_|refine xf (by simpa [w1]) ?_|apply wp_bs|apply wp_b|refine wp_sr ?_|refine wp_sx ?_|refine wp_ret' ?_|refine wp_skip' ?_|refine wp_exit' ?_)
  refine wp_loop ?_
  repeat (first|apply wp_as|apply wp_ss|refine wr (by simp;with_reducible rfl) ?_|refine wq (by simp;with_reducible rfl) ?_|refine wt (by simpa) ?_|refine wf (by simpa) ?_|refine xt (by simpa) ?_|refine xf (by simpa) ?_|apply wp_bs|apply wp_b|refine wp_sr ?_|refine wp_sx ?_|refine wp_ret' ?_|refine wp_skip' ?_|refine wp_exit' ?_)
  refine wp_imp hlo ?_
  rintro ex st ⟨rfl,i',⟨k1,k2,k3⟩,rfl⟩
  try simp only [if_true]
  by_cases hi:i'=a+n
  · have g2:((i':Nat):Int)=(a:Int)+n:=by omega
    repeat (first|apply wp_as|apply wp_ss|refine wr (by simp [g2];with_reducible rfl) ?_|refine wq (by simp [g2];with_reducible rfl) ?_|refine wt (by simpa [g2]) ?_|refine wf (by simpa [g2]) ?_|refine xt (by simpa [g2]) ?_|refine xf (by simpa [g2]) ?_|apply wp_bs|apply wp_b|refine wp_sr ?_|refine wp_sx ?_|refine wp_ret' ?_|refine wp_skip' ?_|refine wp_exit' ?_)
    refine ⟨.inr rfl,_,⟨true,fun _ k q1 q2=>k3 k (by omega) (by omega),rfl⟩,?_⟩
    simp [zi282]
  · have g2:¬ ((i':Nat):Int)=(a:Int)+n:=by omega
    repeat (first|apply wp_as|apply wp_ss|refine wr (by simp [g2,w00,w0,g1,g1'];with_reducible rfl) ?_|refine wq (by simp [g2,w00,w0,g1,g1'];with_reducible rfl) ?_|refine wt (by simpa [g2,w00,w0,g1,g1']) ?_|refine wf (by simpa [g2,w00,w0,g1,g1']) ?_|refine xt (by simpa [g2,w00,w0,g1,g1']) ?_|refine xf (by simpa [g2,w00,w0,g1,g1']) ?_|apply wp_bs|apply wp_b|refine wp_sr ?_|refine wp_sx ?_|refine wp_ret' ?_|refine wp_skip' ?_|refine wp_exit' ?_)
    refine ⟨.inr rfl,_,⟨false,(fun h=>nomatch h),rfl⟩,?_⟩
    simp [zi282]
end Go.Idl
namespace Go.Idl
open Go
def nl2:List (Int×Int)→IV
  | []=>Z
  | e::es=>O2 (e::es)
@[simp] theorem nl2_nil:nl2 []=Z:=rfl
@[simp] theorem nl2_cons (e:Int×Int) (es:List (Int×Int)):nl2 (e::es)=O2 (e::es):=rfl
theorem nl2_app (acc:List (Int×Int)) (e:Int×Int):nl2 (acc++[e])=O2 (acc++[e]):=by
  cases acc <;> rfl
theorem ev_edge (a b:Int) (M:List Boxes):Ev tb zl36 [] [I a,I b] M ⟨.agg [I (min a b),I (max a b)],[],M,[]⟩:=by
  have h1:(if b < a then b else a)=min a b:=min_if a b
  have h2:(if a < b then b else a)=max a b:=max_if a b
  refine call_of_wp zt36 rfl ?_
  repeat (first|apply wp_as|apply wp_ss|refine wr (by simp;with_reducible rfl) ?_|refine wq (by simp;with_reducible rfl) ?_|refine wt (by simpa) ?_|refine wf (by simpa) ?_|refine xt (by simpa) ?_|refine xf (by simpa) ?_|apply wp_bs|apply wp_b|refine wp_sr ?_|refine wp_sx ?_|refine wp_ret' ?_|refine wp_skip' ?_|refine wp_exit' ?_)
  simp [zi36,h1,h2]
theorem ev_pairs_in (n a:Nat) (hn:n≤1000):∀ (m b:Nat) (acc:List (Int×Int)),b+m=n→acc.length+m≤2000000 →
    wp tb (.loop z216l9) { T:=[(0,I n),(3,nl2 acc),(4,I a),(5,I b),(6,I n),(7,I a)],loc:=[],M:=[] }
      (fun ex st=>ex=.exit 2∧st={ T:=[(0,I n),(3,nl2 (acc++row a b m)),(4,I a),(5,I n),(6,I n),(7,I a),(14,Bo false)],loc:=[],M:=[] }):=by
  intro m
  induction m with
  | zero =>
    intro b acc hb hl
    have h3:b=n:=hb
    subst h3
    refine wp_loop ?_
    cases acc with
    | nil =>
      repeat (first|apply wp_as|apply wp_ss|refine wr (by simp;with_reducible rfl) ?_|refine wq (by simp;with_reducible rfl) ?_|refine wt (by simpa) ?_|refine wf (by simpa) ?_|refine xt (by simpa) ?_|refine xf (by simpa) ?_|apply wp_bs|apply wp_b|refine wp_sr ?_|refine wp_sx ?_|refine wp_ret' ?_|refine wp_skip' ?_|refine wp_exit' ?_)
      exact ⟨rfl,by simp [row]⟩
    | cons e acc =>
      repeat (first|apply wp_as|apply wp_ss|refine wr (by simp;with_reducible rfl) ?_|refine wq (by simp;with_reducible rfl) ?_|refine wt (by simpa) ?_|refine wf (by simpa) ?_|refine xt (by simpa) ?_|refine xf (by simpa) ?_|apply wp_bs|apply wp_b|refine wp_sr ?_|refine wp_sx ?_|refine wp_ret' ?_|refine wp_skip' ?_|refine wp_exit' ?_)
      exact ⟨rfl,by simp [row]⟩
  | succ m ih =>
    intro b acc hb hl
    have hi2:b < n:=by omega
    have w1:IntKind.i64.wrap ((b:Int)+1)=((b+1:Nat):Int):=wrapS (by omega)
    have hn':=ih (b+1) (acc++[((a:Int),(b:Int))]) (by omega) (by simp;omega)
    rw [nl2_app] at hn'
    have hrow:acc++row a b (m+1)=(acc++[((a:Int),(b:Int))])++row a (b+1) m:=by simp [row]
    rw [hrow]
    have hl2:acc.length+1≤274877906944:=by omega
    cases acc with
    | nil =>
      refine wp_loop ?_
      repeat (first|apply wp_as|apply wp_ss|refine wr (by simp [hi2,w1];with_reducible rfl) ?_|refine wq (by simp [hi2,w1];with_reducible rfl) ?_|refine wt (by simpa [hi2,w1]) ?_|refine wf (by simpa [hi2,w1]) ?_|refine xt (by simpa [hi2,w1]) ?_|refine xf (by simpa [hi2,w1]) ?_|apply wp_bs|apply wp_b|refine wp_sr ?_|refine wp_sx ?_|refine wp_ret' ?_|refine wp_skip' ?_|refine wp_exit' ?_)
      exact hn'
    | cons e acc =>
      have ht:(e::acc).take (acc.length+1)=e::acc:=by rw [List.take_of_length_le (by simp)]
      have hl3:acc.length+1+1≤274877906944:=by simp at hl2;omega
      refine wp_loop ?_
      repeat (first|apply wp_as|apply wp_ss|refine wr (by simp [hi2,w1,hl3,ht];with_reducible rfl) ?_|refine wq (by simp [hi2,w1,hl3,ht];with_reducible rfl) ?_|refine wt (by simpa [hi2,w1,hl3,ht]) ?_|refine wf (by simpa [hi2,w1,hl3,ht]) ?_|refine xt (by simpa [hi2,w1,hl3,ht]) ?_|refine xf (by simpa [hi2,w1,hl3,ht]) ?_|apply wp_bs|apply wp_b|refine wp_sr ?_|refine wp_sx ?_|refine wp_ret' ?_|refine wp_skip' ?_|refine wp_exit' ?_)
      exact hn'
theorem ev_impl_pairs (n:Nat) (hn:n≤1000):Ev tb zl216 [] [I n] [] ⟨nl2 (prs n),[],[],[]⟩:=by
  have loop:∀ (m a:Nat) (acc:List (Int×Int)),a+m=n→acc.length+m * 1001≤1500000→wp tb (.loop z216l11) { T:=[(0,I n),(3,nl2 acc),(6,I n),(7,I a)],loc:=[],M:=[] }
      (fun ex st=>ex=.exit 0∧st={ T:=[(0,I n),(3,nl2 (acc++prsF a m)),(6,I n),(7,I n),(8,Bo false)],loc:=[],M:=[] }):=by
    intro m
    induction m with
    | zero =>
      intro a acc ha hl
      have h3:a=n:=ha
      subst h3
      refine wp_loop ?_
      cases acc with
      | nil =>
        repeat (first|apply wp_as|apply wp_ss|refine wr (by simp;with_reducible rfl) ?_|refine wq (by simp;with_reducible rfl) ?_|refine wt (by simpa) ?_|refine wf (by simpa) ?_|refine xt (by simpa) ?_|refine xf (by simpa) ?_|apply wp_bs|apply wp_b|refine wp_sr ?_|refine wp_sx ?_|refine wp_ret' ?_|refine wp_skip' ?_|refine wp_exit' ?_)
        exact ⟨rfl,by simp [prsF]⟩
      | cons e acc =>
        repeat (first|apply wp_as|apply wp_ss|refine wr (by simp;with_reducible rfl) ?_|refine wq (by simp;with_reducible rfl) ?_|refine wt (by simpa) ?_|refine wf (by simpa) ?_|refine xt (by simpa) ?_|refine xf (by simpa) ?_|apply wp_bs|apply wp_b|refine wp_sr ?_|refine wp_sx ?_|refine wp_ret' ?_|refine wp_skip' ?_|refine wp_exit' ?_)
        exact ⟨rfl,by simp [prsF]⟩
    | succ m ih =>
      intro a acc ha hl
      have hi2:a < n:=by omega
      have w1:IntKind.i64.wrap ((a:Int)+1)=((a+1:Nat):Int):=wrapS (by omega)
      have hin:=ev_pairs_in n a hn m (a+1) acc (by omega) (by omega)
      have hout:=ih (a+1) (acc++row a (a+1) m) (by omega) (by rw [List.length_append,row_len,Nat.succ_mul] at *;omega)
      have hr:acc++prsF a (m+1)=(acc++row a (a+1) m)++prsF (a+1) m:=by simp [prsF]
      rw [hr]
      generalize acc++row a (a+1) m=acc2 at *
      refine wp_loop ?_
      cases acc with
      | nil =>
        repeat (first|apply wp_as|apply wp_ss|refine wr (by simp [hi2,w1];with_reducible rfl) ?_|refine wq (by simp [hi2,w1];with_reducible rfl) ?_|refine wt (by simpa [hi2,w1]) ?_|refine wf (by simpa [hi2,w1]) ?_|refine xt (by simpa [hi2,w1]) ?_|refine xf (by simpa [hi2,w1]) ?_|apply wp_bs|apply wp_b|refine wp_sr ?_|refine wp_sx ?_|refine wp_ret' ?_|refine wp_skip' ?_|refine wp_exit' ?_)
        refine wp_imp hin ?_
        rintro ex st ⟨rfl,rfl⟩
        try simp only [if_true]
        cases acc2 <;>
        repeat (first|apply wp_as|apply wp_ss|refine wr (by simp [w1];with_reducible rfl) ?_|refine wq (by simp [w1];with_reducible rfl) ?_|refine wt (by simpa [w1]) ?_|refine wf (by simpa [w1]) ?_|refine xt (by simpa [w1]) ?_|refine xf (by simpa [w1]) ?_|apply wp_bs|apply wp_b|refine wp_sr ?_|refine wp_sx ?_|refine wp_ret' ?_|refine wp_skip' ?_|refine wp_exit' ?_)
        · exact hout
        · exact hout
      | cons e acc =>
        repeat (first|apply wp_as|apply wp_ss|refine wr (by simp [hi2,w1];with_reducible rfl) ?_|refine wq (by simp [hi2,w1];with_reducible rfl) ?_|refine wt (by simpa [hi2,w1]) ?_|refine wf (by simpa [hi2,w1]) ?_|refine xt (by simpa [hi2,w1]) ?_|refine xf (by simpa [hi2,w1]) ?_|apply wp_bs|apply wp_b|refine wp_sr ?_|refine wp_sx ?_|refine wp_ret' ?_|refine wp_skip' ?_|refine wp_exit' ?_)
        refine wp_imp hin ?_
        rintro ex st ⟨rfl,rfl⟩
        try simp only [if_true]
        cases acc2 <;>
        repeat (first|apply wp_as|apply wp_ss|refine wr (by simp [w1];with_reducible rfl) ?_|refine wq (by simp [w1];with_reducible rfl) ?_|refine wt (by simpa [w1]) ?_|refine wf (by simpa [w1]) ?_|refine xt (by simpa [w1]) ?_|refine xf (by simpa [w1]) ?_|apply wp_bs|apply wp_b|refine wp_sr ?_|refine wp_sx ?_|refine wp_ret' ?_|refine wp_skip' ?_|refine wp_exit' ?_)
        · exact hout
        · exact hout
  refine call_of_wp zt216 rfl ?_
  repeat (first|apply wp_as|apply wp_ss|refine wr (by simp;with_reducible rfl) ?_|refine wq (by simp;with_reducible rfl) ?_|refine wt (by simpa) ?_|refine wf (by simpa) ?_|refine xt (by simpa) ?_|refine xf (by simpa) ?_|apply wp_bs|apply wp_b|refine wp_sr ?_|refine wp_sx ?_|refine wp_ret' ?_|refine wp_skip' ?_|refine wp_exit' ?_)
  refine wp_imp (loop n 0 [] (by simp) (by simp;omega)) ?_
  rintro ex st ⟨rfl,rfl⟩
  try simp only [if_true]
  rw [List.nil_append,← prs]
  cases hp:prs n <;>
  repeat (first|apply wp_as|apply wp_ss|refine wr (by simp;with_reducible rfl) ?_|refine wq (by simp;with_reducible rfl) ?_|refine wt (by simpa) ?_|refine wf (by simpa) ?_|refine xt (by simpa) ?_|refine xf (by simpa) ?_|apply wp_bs|apply wp_b|refine wp_sr ?_|refine wp_sx ?_|refine wp_ret' ?_|refine wp_skip' ?_|refine wp_exit' ?_)
  · simp [zi216]
  · simp [zi216]
end Go.Idl
