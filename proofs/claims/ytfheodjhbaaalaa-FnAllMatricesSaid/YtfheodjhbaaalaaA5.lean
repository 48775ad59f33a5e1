/- Part 5 of a proof by an ideal interpreter of the code: its definitions and lemmas. Conditions: none. -/
import Derived.KernelRfl
import Derived.Test.YtfheodjhbaaalaaA4
set_option linter.all false
set_option linter.unusedVariables false
set_option linter.unusedSimpArgs false
namespace Go.Idl
open Go
theorem ev_in (n lo hi:Int):Ev tb zl38 [] [I n,I lo,I hi] [] ⟨Bo (decide (lo≤n) && decide (n≤hi)),[],[],[]⟩:=by
  refine call_of_wp zt38 rfl ?_
  refine wp_rs (by simp;rfl) (by simp;rfl) ?_
  by_cases h:lo≤n
  · refine wp_rs (by simp [h];rfl) (by simp;rfl) ?_
    refine wp_ret' ?_
    simp [h,zi38]
  · refine wp_rs (by simp [h];rfl) (by simp;rfl) ?_
    refine wp_ret' ?_
    simp [h,zi38]
theorem ev_inRange (n lo hi:Int):Ev tb zl132 [] [I n,I lo,I hi] [] ⟨Bo (decide (lo≤n) && decide (n≤hi)),[],[],[]⟩:=by
  refine call_of_wp zt132 rfl ?_
  refine wp_rs (by simp;rfl) (by simp;rfl) ?_
  by_cases h:lo≤n
  · refine wp_rs (by simp [h];rfl) (by simp;rfl) ?_
    refine wp_ret' ?_
    simp [h,zi132]
  · refine wp_rs (by simp [h];rfl) (by simp;rfl) ?_
    refine wp_ret' ?_
    simp [h,zi132]
def SmallSum (xs:List Int):Prop:=xs.length≤2000000∧∀ k,-4611686018427387904≤(xs.take k).sum∧(xs.take k).sum≤4611686018427387904
theorem sum_take_succ {xs:List Int} {i:Nat} (h:i < xs.length):(xs.take i).sum+xs[i]=(xs.take (i+1)).sum:=by
  rw [List.take_succ_eq_append_getElem h,List.sum_append];simp
theorem ev_sum (xs:List Int) (c:Bool) (hs:SmallSum xs):Ev tb zl40 [] [.lst 1 (ints xs) c] [] ⟨I xs.sum,[],[],[]⟩:=by
  obtain ⟨hl,hs⟩:=hs
  have loop:∀ (m i:Nat),i+m=xs.length→wp tb (.loop z40l7) { T:=[(0,.lst 1 (ints xs) c),(3,I (xs.take i).sum),(6,.lst 1 (ints xs) c),(7,I xs.length),(8,I i)],loc:=[],M:=[] }
      (fun ex st=>ex=.exit 0∧st={ T:=[(0,.lst 1 (ints xs) c),(3,I xs.sum),(6,.lst 1 (ints xs) c),(7,I xs.length),(8,I xs.length),(9,Bo false)],loc:=[],M:=[] }):=by
    intro m
    induction m with
    | zero =>
      intro i hi
      have hi':i=xs.length:=by omega
      subst hi'
      apply wp_loop
      refine wp_rs (by simp;rfl) (by simp;rfl) ?_
      refine wp_ct rfl (by simp) fun _=>wp_sx ?_
      simp
    | succ m ih =>
      intro i hi
      have hi':i < xs.length:=by omega
      have h1:=hs (i+1)
      rw [← sum_take_succ hi'] at h1
      apply wp_loop
      refine wp_rs (by simp;rfl) (by simp;rfl) ?_
      refine wp_ct rfl (fun _=>wp_ss ?_) (by simp [hi'])
      refine wp_bs ?_
      refine wp_rs (by simp [hi'];rfl) (by simp;rfl) ?_
      refine wp_reg (by simp;rfl) (by simp;rfl) ?_
      refine wp_reg (by simp;rfl) (by simp;rfl) ?_
      have:=ih (i+1) (by omega)
      rw [wrapS (by omega),wrap64 (by omega) (by omega),sum_take_succ hi']
      exact this
  refine call_of_wp zt40 rfl ?_
  refine wp_rs (by simp;rfl) (by simp;rfl) ?_
  refine wp_rs (by simp;rfl) (by simp;rfl) ?_
  refine wp_as (wp_rs (by simp;rfl) (by simp;rfl) ?_)
  refine wp_bs (wp_imp (loop xs.length 0 (by simp)) ?_)
  rintro ex st ⟨rfl,rfl⟩
  simp only [if_true]
  refine wp_rs (by simp;rfl) (by simp;rfl) ?_
  refine wp_ret' ?_
  simp [zi40]
theorem ev_Clip (xs:List Int):Ev tb zl70 [] [.own 1 (ints xs)] [] ⟨.own 1 (ints xs),[],[],[]⟩:=by
  refine call_of_wp zt70 rfl ?_
  refine wp_rs (by simp;rfl) (by simp;rfl) ?_
  refine wp_rs (by simp;rfl) (by simp;rfl) ?_
  refine wp_ret' ?_
  simp [zi70]
theorem ev_Clone (xs:List Int) (c:Bool) (hl:xs.length≤2000000):Ev tb zl71 [] [.lst 1 (ints xs) c] [] ⟨.own 1 (ints xs),[],[],[]⟩:=by
  refine call_of_wp zt71 rfl ?_
  refine wp_rs (by simp;rfl) (by simp;rfl) ?_
  refine wp_nil2 (b:=xs.isEmpty) (by simp [z71r1];rfl) (by simp) ?_ ?_ ?_ (ex:=.ret) (st':={ T:=[(2,.own 1 (ints xs))],loc:=[],M:=[] })
  · refine wp_ct (t:=false) (by simp) (by simp) fun _=>wp_ss ?_
    refine wp_rs (by simp [show xs.length≤274877906944 by omega];rfl) (by simp;rfl) ?_
    refine wp_ret' ?_
    simp
  · intro he
    have:xs=[]:=by simpa using he
    subst this
    refine wp_ct (t:=true) (by simp) (fun _=>wp_as ?_) (by simp)
    refine wp_rs (by simp;rfl) (by simp;rfl) ?_
    refine wp_sr ?_
    simp
  · simp [zi71]
theorem ev_clone (xs:List Int) (c:Bool) (hl:xs.length≤2000000) :
    Ev tb zl31 [] [.lst 1 (ints xs) c] [] ⟨.own 1 (ints xs),[],[],[]⟩:=by
  have e1:=ev_lim (ev_Clone xs c hl)
  have e2:=ev_lim (ev_Clip xs)
  refine call_of_wp zt31 rfl ?_
  refine wp_rs (by simp;rfl) (by simp;rfl) ?_
  refine wp_rs (by simp [e1,e2];rfl) (by simp;rfl) ?_
  refine wp_ret' ?_
  simp [zi31]
theorem ev_spec_sum (xs:List Int) (c:Bool) (hs:SmallSum xs):Ev tb zl382 [] [.lst 1 (ints xs) c] [] ⟨I xs.sum,[],[],[]⟩:=by
  obtain ⟨hl,hs⟩:=hs
  have loop:∀ (m i:Nat),i+m=xs.length→wp tb (.loop z382l6) { T:=[(0,.lst 1 (ints xs) c),(3,I (xs.take i).sum),(4,I i)],loc:=[],M:=[] }
      (fun ex st=>ex=.exit 0∧st={ T:=[(0,.lst 1 (ints xs) c),(3,I xs.sum),(4,I xs.length),(8,Bo false)],loc:=[],M:=[] }):=by
    intro m
    induction m with
    | zero =>
      intro i hi
      have hi':i=xs.length:=by omega
      subst hi'
      refine wp_loop (wp_as (wp_rs (by simp;rfl) (by simp;rfl) ?_))
      exact wp_ct rfl (by simp) fun _=>wp_sx (by simp)
    | succ m ih =>
      intro i hi
      have hi':i < xs.length:=by omega
      have h1:=hs (i+1)
      rw [← sum_take_succ hi'] at h1
      refine wp_loop (wp_as (wp_rs (by simp;rfl) (by simp;rfl) ?_))
      refine wp_ct rfl (fun _=>wp_ss ?_) (by simp [hi'])
      refine wp_bs (wp_reg (by simp [hi'];rfl) (by simp;rfl) ?_)
      refine wp_reg (by simp;rfl) (by simp;rfl) ?_
      have:=ih (i+1) (by omega)
      rw [wrapS (by omega),wrap64 (by omega) (by omega),sum_take_succ hi']
      exact this
  refine call_of_wp zt382 rfl ?_
  refine wp_rs (by simp;rfl) (by simp;rfl) ?_
  refine wp_rs (by simp;rfl) (by simp;rfl) ?_
  refine wp_as (wp_rs (by simp;rfl) (by simp;rfl) ?_)
  refine wp_bs (wp_imp (loop xs.length 0 (by simp)) ?_)
  rintro ex st ⟨rfl,rfl⟩
  simp only [if_true]
  refine wp_rs (by simp;rfl) (by simp;rfl) ?_
  exact wp_ret' (by simp [zi382])
theorem ev_total (xs:List Int) (c:Bool) (hs:SmallSum xs):Ev tb zl65 [] [.lst 1 (ints xs) c] [] ⟨I xs.sum,[],[],[]⟩:=by
  obtain ⟨hl,hs⟩:=hs
  have loop:∀ (m i:Nat),i+m=xs.length→wp tb (.loop z65l6) { T:=[(0,.lst 1 (ints xs) c),(3,I (xs.take i).sum),(4,I i)],loc:=[],M:=[] }
      (fun ex st=>ex=.exit 0∧st={ T:=[(0,.lst 1 (ints xs) c),(3,I xs.sum),(4,I xs.length),(8,Bo false)],loc:=[],M:=[] }):=by
    intro m
    induction m with
    | zero =>
      intro i hi
      have hi':i=xs.length:=by omega
      subst hi'
      refine wp_loop (wp_as (wp_rs (by simp;rfl) (by simp;rfl) ?_))
      exact wp_ct rfl (by simp) fun _=>wp_sx (by simp)
    | succ m ih =>
      intro i hi
      have hi':i < xs.length:=by omega
      have h1:=hs (i+1)
      rw [← sum_take_succ hi'] at h1
      refine wp_loop (wp_as (wp_rs (by simp;rfl) (by simp;rfl) ?_))
      refine wp_ct rfl (fun _=>wp_ss ?_) (by simp [hi'])
      refine wp_bs (wp_reg (by simp [hi'];rfl) (by simp;rfl) ?_)
      refine wp_reg (by simp;rfl) (by simp;rfl) ?_
      have:=ih (i+1) (by omega)
      rw [wrapS (by omega),wrap64 (by omega) (by omega),sum_take_succ hi']
      exact this
  refine call_of_wp zt65 rfl ?_
  refine wp_rs (by simp;rfl) (by simp;rfl) ?_
  refine wp_rs (by simp;rfl) (by simp;rfl) ?_
  refine wp_as (wp_rs (by simp;rfl) (by simp;rfl) ?_)
  refine wp_bs (wp_imp (loop xs.length 0 (by simp)) ?_)
  rintro ex st ⟨rfl,rfl⟩
  simp only [if_true]
  refine wp_rs (by simp;rfl) (by simp;rfl) ?_
  exact wp_ret' (by simp [zi65])
end Go.Idl
namespace Go.Idl
def insD (x:Int):List Int→List Int
  | []=>[x]
  | y::ys=>if x≤y then y::insD x ys else x::y::ys
def fall (xs:List Int):List Int:=xs.foldl (fun out x=>insD x out) []
abbrev Desc (xs:List Int):Prop:=xs.Pairwise (fun a b=>b≤a)
abbrev Asc (xs:List Int):Prop:=xs.Pairwise (fun a b=>a≤b)
theorem insD_perm (x:Int) (ys:List Int):(insD x ys).Perm (x::ys):=by
  induction ys with
  | nil=>exact .refl _
  | cons y ys ih =>
    unfold insD
    split
    · exact (ih.cons y).trans (.swap x y ys)
    · exact .refl _
theorem insD_desc (x:Int) (ys:List Int) (h:Desc ys):Desc (insD x ys):=by
  induction ys with
  | nil=>simp [insD]
  | cons y ys ih =>
    unfold insD
    have h:=List.pairwise_cons.1 h
    split
    · refine List.pairwise_cons.2 ⟨fun a ha=>?_,ih h.2⟩
      rcases List.mem_cons.1 ((insD_perm x ys).mem_iff.1 ha) with rfl | ha
      · assumption
      · exact h.1 a ha
    · rename_i hx
      refine List.pairwise_cons.2 ⟨fun a ha=>?_,List.pairwise_cons.2 h⟩
      rcases List.mem_cons.1 ha with rfl | ha
      · omega
      · have:=h.1 a ha;omega
theorem fall_aux (xs:List Int):∀ ys,Desc ys→Desc (xs.foldl (fun out x=>insD x out) ys)∧(xs.foldl (fun out x=>insD x out) ys).Perm (xs++ys):=by
  induction xs with
  | nil=>intro ys h;exact ⟨h,.refl _⟩
  | cons x xs ih =>
    intro ys h
    obtain ⟨h1,h2⟩:=ih (insD x ys) (insD_desc x ys h)
    refine ⟨h1,h2.trans ?_⟩
    exact ((insD_perm x ys).append_left xs).trans List.perm_middle
theorem fall_desc (xs:List Int):Desc (fall xs):=(fall_aux xs [] .nil).1
theorem fall_perm (xs:List Int):(fall xs).Perm xs:=by simpa [fall] using (fall_aux xs [] .nil).2
theorem fall_len (xs:List Int):(fall xs).length=xs.length:=(fall_perm xs).length_eq
theorem desc_unique {xs ys:List Int} (hx:Desc xs) (hy:Desc ys) (h:xs.Perm ys):xs=ys:=by
  refine List.Perm.eq_of_pairwise (le:=fun a b=>b≤a) (fun a b _ _ h1 h2=>by omega) hx hy h
theorem fall_unique {xs ys:List Int} (hy:Desc ys) (h:ys.Perm xs):ys=fall xs:=desc_unique hy (fall_desc xs) (h.trans (fall_perm xs).symm)
theorem perm_sum {xs ys:List Int} (h:xs.Perm ys):xs.sum=ys.sum:=by
  induction h with
  | nil=>rfl
  | cons x _ ih=>simp [ih]
  | swap x y l=>simp;omega
  | trans _ _ h1 h2=>exact h1.trans h2
theorem fall_sum (xs:List Int):(fall xs).sum=xs.sum:=perm_sum (fall_perm xs)
theorem fall_mem {xs:List Int} {x:Int}:x ∈ fall xs ↔ x ∈ xs:=(fall_perm xs).mem_iff
def insR (x:Int):List Int→List Int→List Int
  | [],B=>x::B
  | a::r,B=>if x < a then insR x r (a::B) else r.reverse++a::x::B
theorem insR_perm (x:Int):∀ (r B:List Int),(insR x r B).Perm (r.reverse++x::B)
  | [],B=>.refl _
  | a::r,B=>by
    unfold insR
    split
    · refine (insR_perm x r (a::B)).trans ?_
      rw [List.reverse_cons,List.append_assoc]
      exact List.Perm.append_left _ (.swap _ _ _)
    · rw [List.reverse_cons,List.append_assoc]
      exact .refl _
theorem insR_asc (x:Int):∀ (r B:List Int),Asc (r.reverse++B)→(∀ b ∈ B,x≤b)→Asc (insR x r B)
  | [],B,h,hb=>List.pairwise_cons.2 ⟨hb,by simpa using h⟩
  | a::r,B,h,hb=>by
    rw [List.reverse_cons,List.append_assoc] at h
    unfold insR
    split
    · rename_i hx
      refine insR_asc x r (a::B) h fun b hb'=>?_
      rcases List.mem_cons.1 hb' with rfl | hb'
      · omega
      · exact hb b hb'
    · rename_i hx
      obtain ⟨h1,h2,h3⟩:=List.pairwise_append.1 (show Asc (r.reverse++a::B) from h)
      have h2:=List.pairwise_cons.1 h2
      refine List.pairwise_append.2 ⟨h1,?_,fun p hp q hq=>?_⟩
      · refine List.pairwise_cons.2 ⟨fun q hq=>?_,List.pairwise_cons.2 ⟨hb,h2.2⟩⟩
        rcases List.mem_cons.1 hq with rfl | hq
        · omega
        · exact h2.1 q hq
      · have ha:=h3 p hp a (by simp)
        rcases List.mem_cons.1 hq with rfl | hq
        · exact ha
        · rcases List.mem_cons.1 hq with rfl | hq
          · omega
          · exact h3 p hp q (by simp [hq])
def asc:Nat→List Int→List Int→List Int
  | _,S,[]=>S
  | n,S,x::r=>asc n (insR x S.reverse []) r
theorem asc_ok:∀ (r S:List Int),Asc S→Asc (asc 0 S r)∧(asc 0 S r).Perm (S++r)
  | [],S,h=>⟨h,by simp [asc]⟩
  | x::r,S,h=>by
    obtain ⟨h1,h2⟩:=asc_ok r (insR x S.reverse []) (insR_asc x _ _ (by simpa using h) (by simp))
    refine ⟨h1,h2.trans ?_⟩
    have:=insR_perm x S.reverse []
    rw [List.reverse_reverse] at this
    refine (this.append_right r).trans ?_
    rw [List.append_assoc];exact .refl _
theorem asc_rev (xs:List Int):(asc 0 [] xs).reverse=fall xs:=by
  obtain ⟨h1,h2⟩:=asc_ok xs [] .nil
  refine fall_unique ?_ ((List.reverse_perm _).trans (by simpa using h2))
  rw [Desc,List.pairwise_reverse];exact h1
theorem asc_len (xs:List Int):(asc 0 [] xs).length=xs.length:=by simpa using (asc_ok xs [] .nil).2.length_eq
end Go.Idl
namespace Go.Idl
open Go
abbrev L (xs:List Int) (c:Bool:=false):IV:=.lst 1 (ints xs) c
abbrev O (xs:List Int):IV:=.own 1 (ints xs)
theorem ev_isNaN (n:Int):Ev tb zl4 [] [I n] [] ⟨Bo false,[],[],[]⟩:=by
  refine call_of_wp zt4 rfl ?_
  repeat (first|apply wp_as|apply wp_ss|refine wr (by simp;with_reducible rfl) ?_|refine wq (by simp;with_reducible rfl) ?_|refine wt (by simpa) ?_|refine wf (by simpa) ?_|refine xt (by simpa) ?_|refine xf (by simpa) ?_|apply wp_bs|apply wp_b|refine wp_sr ?_|refine wp_sx ?_|refine wp_ret' ?_|refine wp_skip' ?_|refine wp_exit' ?_)
  simp [zi4]
theorem ev_Less (a b:Int):Ev tb zl2 [] [I a,I b] [] ⟨Bo (decide (a < b)),[],[],[]⟩:=by
  have e1:=fun n=>ev_lim (ev_isNaN n)
  refine call_of_wp zt2 rfl ?_
  repeat (first|apply wp_as|apply wp_ss|refine wr (by simp [e1];with_reducible rfl) ?_|refine wq (by simp [e1];with_reducible rfl) ?_|refine wt (by simpa [e1]) ?_|refine wf (by simpa [e1]) ?_|refine xt (by simpa [e1]) ?_|refine xf (by simpa [e1]) ?_|apply wp_bs|apply wp_b|refine wp_sr ?_|refine wp_sx ?_|refine wp_ret' ?_|refine wp_skip' ?_|refine wp_exit' ?_)
  simp [zi2]
theorem app_get1 {A Z:List Int} {a x:Int}:(A++a::x::Z)[A.length+1]? = some x:=by
  rw [List.getElem?_append_right (by omega)];simp
theorem app_get0 {A Z:List Int} {a:Int}:(A++a::Z)[A.length]? = some a:=by
  rw [List.getElem?_append_right (by omega)];simp
theorem app_set {A Z:List Int} {a x:Int}:((A++a::x::Z).set (A.length+1) a).set A.length x=A++x::a::Z:=by
  rw [List.set_append_right _ _ (by omega),List.set_append_right _ _ (by omega)]
  simp
theorem insl (n i:Int) (x:Int) (rest:List Int) (M:List Boxes):∀ (k:Nat) (A B:List Int),A.length=k→k+B.length+rest.length≤2000000 →
    wp tb (.loop z86l6) { T:=[(0,O (A++x::(B++rest))),(1,I 0),(2,I n),(6,I i),(7,I k)],loc:=[],M:=M }
      (fun ex st=>ex=.exit 2∧∃ k':Int,st={ T:=[(0,O (insR x A.reverse B++rest)),(1,I 0),(2,I n),(6,I i),(7,I k'),(30,Bo false)],loc:=[],M:=M }):=by
  have e1:=fun a b=>ev_lim (ev_Less a b)
  intro k
  induction k with
  | zero =>
    intro A B hA hl
    have:A=[]:=List.length_eq_zero_iff.1 hA
    subst this
    refine wp_loop ?_
    repeat (first|apply wp_as|apply wp_ss|refine wr (by simp;with_reducible rfl) ?_|refine wq (by simp;with_reducible rfl) ?_|refine wt (by simpa) ?_|refine wf (by simpa) ?_|refine xt (by simpa) ?_|refine xf (by simpa) ?_|apply wp_bs|apply wp_b|refine wp_sr ?_|refine wp_sx ?_|refine wp_ret' ?_|refine wp_skip' ?_|refine wp_exit' ?_)
    exact ⟨rfl,_,by simp [insR];rfl⟩
  | succ k ih =>
    intro A B hA hl
    obtain ⟨A',a,rfl⟩:∃ A' a,A=A'++[a]:=⟨A.dropLast,A.getLast (by intro h;subst h;simp at hA),(List.dropLast_concat_getLast _).symm⟩
    have hA':A'.length=k:=by simpa using hA
    subst hA'
    have w1:IntKind.i64.wrap (A'.length:Int)=(A'.length:Int):=wrapN (by omega)
    have w2:(0:Int) < (A'.length:Int)+1:=by omega
    simp only [List.append_assoc,List.singleton_append]
    by_cases hx:x < a
    · refine wp_loop ?_
      repeat (first|apply wp_as|apply wp_ss|refine wr (by simp [e1,hx,w1,w2,app_get0,app_get1,app_set];with_reducible rfl) ?_|refine wq (by simp [e1,hx,w1,w2,app_get0,app_get1,app_set];with_reducible rfl) ?_|refine wt (by simpa [e1,hx,w1,w2,app_get0,app_get1,app_set]) ?_|refine wf (by simpa [e1,hx,w1,w2,app_get0,app_get1,app_set]) ?_|refine xt (by simpa [e1,hx,w1,w2,app_get0,app_get1,app_set]) ?_|refine xf (by simpa [e1,hx,w1,w2,app_get0,app_get1,app_set]) ?_|apply wp_bs|apply wp_b|refine wp_sr ?_|refine wp_sx ?_|refine wp_ret' ?_|refine wp_skip' ?_|refine wp_exit' ?_)
      have:=ih A' (a::B) rfl (by simp;omega)
      simp only [List.cons_append,List.reverse_append,List.reverse_cons,List.reverse_nil,List.nil_append] at this ⊢
      simp only [insR,hx,if_true]
      exact this
    · refine wp_loop ?_
      repeat (first|apply wp_as|apply wp_ss|refine wr (by simp [e1,hx,w1,w2,app_get0,app_get1,app_set];with_reducible rfl) ?_|refine wq (by simp [e1,hx,w1,w2,app_get0,app_get1,app_set];with_reducible rfl) ?_|refine wt (by simpa [e1,hx,w1,w2,app_get0,app_get1,app_set]) ?_|refine wf (by simpa [e1,hx,w1,w2,app_get0,app_get1,app_set]) ?_|refine xt (by simpa [e1,hx,w1,w2,app_get0,app_get1,app_set]) ?_|refine xf (by simpa [e1,hx,w1,w2,app_get0,app_get1,app_set]) ?_|apply wp_bs|apply wp_b|refine wp_sr ?_|refine wp_sx ?_|refine wp_ret' ?_|refine wp_skip' ?_|refine wp_exit' ?_)
      refine ⟨rfl,((A'.length+1:Nat):Int),?_⟩
      simp only [List.reverse_append,List.reverse_cons,List.reverse_nil,List.nil_append,List.cons_append]
      simp only [insR,hx,if_false,List.reverse_reverse,List.append_assoc,List.cons_append]
      rfl
theorem insr_len (x:Int) (S:List Int):(insR x S.reverse []).length=S.length+1:=by
  have:=(insR_perm x S.reverse []).length_eq
  simpa using this
theorem sortl (M:List Boxes) (n:Int):∀ (r S:List Int),n=(S.length+r.length:Nat)→S.length+r.length≤2000000 →
    wp tb (.loop z86l8) { T:=[(0,O (S++r)),(1,I 0),(2,I n),(6,I S.length)],loc:=[],M:=M }
      (fun ex st=>ex=.exit 0∧∃ k':Int,st={ T:=[(0,O (asc 0 S r)),(1,I 0),(2,I n),(6,I k'),(12,Bo false)],loc:=[],M:=M }):=by
  intro r
  induction r with
  | nil =>
    intro S hn hl
    refine wp_loop ?_
    have h1:¬ (S.length:Int) < n:=by simp at hn;omega
    repeat (first|apply wp_as|apply wp_ss|refine wr (by simp [h1];with_reducible rfl) ?_|refine wq (by simp [h1];with_reducible rfl) ?_|refine wt (by simpa [h1]) ?_|refine wf (by simpa [h1]) ?_|refine xt (by simpa [h1]) ?_|refine xf (by simpa [h1]) ?_|apply wp_bs|apply wp_b|refine wp_sr ?_|refine wp_sx ?_|refine wp_ret' ?_|refine wp_skip' ?_|refine wp_exit' ?_)
    exact ⟨rfl,_,by simp [asc];rfl⟩
  | cons x r ih =>
    intro S hn hl
    refine wp_loop ?_
    simp only [List.length_cons] at hn hl
    have h1:(S.length:Int) < n:=by omega
    have w1:IntKind.i64.wrap ((S.length:Int)+1)=(S.length:Int)+1:=by rw [wrap64 (by omega) (by omega)]
    repeat (first|apply wp_as|apply wp_ss|refine wr (by simp [h1,w1];with_reducible rfl) ?_|refine wq (by simp [h1,w1];with_reducible rfl) ?_|refine wt (by simpa [h1,w1]) ?_|refine wf (by simpa [h1,w1]) ?_|refine xt (by simpa [h1,w1]) ?_|refine xf (by simpa [h1,w1]) ?_|apply wp_bs|apply wp_b|refine wp_sr ?_|refine wp_sx ?_|refine wp_ret' ?_|refine wp_skip' ?_|refine wp_exit' ?_)
    refine wp_imp (insl n S.length x r M S.length S [] rfl (by simp;omega)) ?_
    rintro ex st ⟨rfl,k',rfl⟩
    simp only [if_true]
    repeat (first|apply wp_as|apply wp_ss|refine wr (by simp [h1,w1];with_reducible rfl) ?_|refine wq (by simp [h1,w1];with_reducible rfl) ?_|refine wt (by simpa [h1,w1]) ?_|refine wf (by simpa [h1,w1]) ?_|refine xt (by simpa [h1,w1]) ?_|refine xf (by simpa [h1,w1]) ?_|apply wp_bs|apply wp_b|refine wp_sr ?_|refine wp_sx ?_|refine wp_ret' ?_|refine wp_skip' ?_|refine wp_exit' ?_)
    have:=ih (insR x S.reverse []) (by rw [insr_len];omega) (by rw [insr_len];omega)
    rw [insr_len] at this
    exact this
theorem ev_insertionSort (xs:List Int) (hl:xs.length≤1000) (M:List Boxes) :
    Ev tb zl86 [0] [O xs,I 0,I xs.length] M ⟨.tup [],[O (asc 0 [] xs)],M,[]⟩:=by
  refine call_of_wp zt86 rfl ?_
  repeat (first|apply wp_as|apply wp_ss|refine wr (by simp;with_reducible rfl) ?_|refine wq (by simp;with_reducible rfl) ?_|refine wt (by simpa) ?_|refine wf (by simpa) ?_|refine xt (by simpa) ?_|refine xf (by simpa) ?_|apply wp_bs|apply wp_b|refine wp_sr ?_|refine wp_sx ?_|refine wp_ret' ?_|refine wp_skip' ?_|refine wp_exit' ?_)
  cases xs with
  | nil =>
    refine wp_loop ?_
    repeat (first|apply wp_as|apply wp_ss|refine wr (by simp;with_reducible rfl) ?_|refine wq (by simp;with_reducible rfl) ?_|refine wt (by simpa) ?_|refine wf (by simpa) ?_|refine xt (by simpa) ?_|refine xf (by simpa) ?_|apply wp_bs|apply wp_b|refine wp_sr ?_|refine wp_sx ?_|refine wp_ret' ?_|refine wp_skip' ?_|refine wp_exit' ?_)
    simp [zi86,asc]
  | cons x r =>
    simp only [List.length_cons] at hl
    refine wp_imp (sortl M _ r [x] (by simp;omega) (by simp;omega)) ?_
    rintro ex st ⟨rfl,k',rfl⟩
    simp [zi86,asc,insR]
theorem ev_pdqsort (xs:List Int) (hl:xs.length≤12) (k:Int) (M:List Boxes) :
    Ev tb zl101 [0] [O xs,I 0,I xs.length,I k] M ⟨.tup [],[O (asc 0 [] xs)],M,[]⟩:=by
  have e1:=ev_lim (ev_insertionSort xs (by omega) (M++[[]]))
  have w1:IntKind.i64.wrap (xs.length:Int)=(xs.length:Int):=wrapN (by omega)
  refine call_of_wp zt101 rfl ?_
  repeat (first|apply wp_as|apply wp_ss|refine wr (by simp;with_reducible rfl) ?_|refine wq (by simp;with_reducible rfl) ?_|refine wt (by simpa) ?_|refine wf (by simpa) ?_|refine xt (by simpa) ?_|refine xf (by simpa) ?_|apply wp_bs|apply wp_b|refine wp_sr ?_|refine wp_sx ?_|refine wp_ret' ?_|refine wp_skip' ?_|refine wp_exit' ?_)
  refine wp_loop ?_
  have h:(xs.length:Int)≤12:=by omega
  repeat (first|apply wp_as|apply wp_ss|refine wr (by simp [e1,w1,hl,h];with_reducible rfl) ?_|refine wq (by simp [e1,w1,hl,h];with_reducible rfl) ?_|refine wt (by simpa [e1,w1,hl,h]) ?_|refine wf (by simpa [e1,w1,hl,h]) ?_|refine xt (by simpa [e1,w1,hl,h]) ?_|refine xf (by simpa [e1,w1,hl,h]) ?_|apply wp_bs|apply wp_b|refine wp_sr ?_|refine wp_sx ?_|refine wp_ret' ?_|refine wp_skip' ?_|refine wp_exit' ?_)
  simp [zi101]
theorem len_r (cf:CF) (n:Int) (m:Nat) (g:ByteArray) (hw:IntKind.u8.wrap n=(m:Int)) (hb:(g[m]?).isSome=true) :
    ∃ k st,execOps cf { T:=[(0,.sc (.int .u64 n)),(2,I 0),(14,Bo false)],loc:=[],M:=[] } [⟨some 19,none,.mv (.t 2)⟩,⟨some 20,none,.mv (.t 0)⟩,⟨some 21,none,.conv .u8 (.t 20)⟩,⟨some 22,none,.idxs (.c (.string g)) (.t 21)⟩,⟨some 23,none,.conv .i64 (.t 22)⟩,⟨some 24,none,.bin .add (.t 19) (.t 23)⟩,⟨some 2,none,.asg (.t 24)⟩]=some st∧st.cut [2]={ T:=[(2,I k)],loc:=[],M:=[] }:=by
  obtain ⟨b,hb⟩:=Option.isSome_iff_exists.1 hb
  refine ⟨_,_,by simp [hw,hb];rfl,by simp;rfl⟩
set_option maxRecDepth 100000 in
theorem ev_Len64 (n:Nat) (hn:n≤12):∃ k:Int,Ev tb zl68 [] [.sc (.int .u64 n)] [] ⟨I k,[],[],[]⟩:=by
  have w8:IntKind.u8.wrap (n:Int)=(n:Int):=by
    have:n=0 ∨ n=1 ∨ n=2 ∨ n=3 ∨ n=4 ∨ n=5 ∨ n=6 ∨ n=7 ∨ n=8 ∨ n=9 ∨ n=10 ∨ n=11 ∨ n=12:=by omega
    rcases this with rfl | rfl | rfl | rfl | rfl | rfl | rfl | rfl | rfl | rfl | rfl | rfl | rfl <;> rfl
  have key:∃ k:Int,∃ st,execOps (limF tb) { T:=[(0,.sc (.int .u64 n)),(2,I 0),(14,Bo false)],loc:=[],M:=[] } (match z68r10 with | .reg ops _ _=>ops | _=>[])=some st∧st.cut [2]={ T:=[(2,I k)],loc:=[],M:=[] }:=by
    have:n=0 ∨ n=1 ∨ n=2 ∨ n=3 ∨ n=4 ∨ n=5 ∨ n=6 ∨ n=7 ∨ n=8 ∨ n=9 ∨ n=10 ∨ n=11 ∨ n=12:=by omega
    rcases this with rfl | rfl | rfl | rfl | rfl | rfl | rfl | rfl | rfl | rfl | rfl | rfl | rfl
    all_goals
      refine len_r (limF tb) _ _ _ w8 ?_
      rfl
  obtain ⟨k,st,h1,h2⟩:=key
  have g1:¬ (4294967296:Int)≤n:=by omega
  have g2:¬ (65536:Int)≤n:=by omega
  have g3:¬ (256:Int)≤n:=by omega
  refine ⟨k,?_⟩
  refine call_of_wp zt68 rfl ?_
  iterate 4 ((first|refine wp_as ?_|skip);refine wp_rs (by simp [g1,g2,g3];rfl) (by simp;rfl) ?_;(first|refine wp_ct (t:=false) (by simp) (by simp) (fun _=>?_)|skip);(first|refine wp_ss ?_|skip))
  refine wp_rs h1 h2 ?_
  refine wp_ret' ?_
  simp [zi68]
theorem ev_Len (n:Nat) (hn:n≤12):∃ k:Int,Ev tb zl66 [] [.sc (.int .u64 n)] [] ⟨I k,[],[],[]⟩:=by
  obtain ⟨k,hk⟩:=ev_Len64 n hn
  have e1:=ev_lim hk
  refine ⟨k,?_⟩
  refine call_of_wp zt66 rfl ?_
  repeat (first|apply wp_as|apply wp_ss|refine wr (by simp [e1];with_reducible rfl) ?_|refine wq (by simp [e1];with_reducible rfl) ?_|refine wt (by simpa [e1]) ?_|refine wf (by simpa [e1]) ?_|refine xt (by simpa [e1]) ?_|refine xf (by simpa [e1]) ?_|apply wp_bs|apply wp_b|refine wp_sr ?_|refine wp_sx ?_|refine wp_ret' ?_|refine wp_skip' ?_|refine wp_exit' ?_)
  simp [zi66]
theorem wrapU {n:Nat} (h:n < 2000000):IntKind.u64.wrap (n:Int)=(n:Int):=by
  have e1:(2:Int) ^ IntKind.u64.bits=18446744073709551616:=by decide
  have e3:IntKind.u64.signed=false:=rfl
  unfold IntKind.wrap
  rw [e1,e3]
  simp
  omega
theorem ev_Sort (xs:List Int) (hl:xs.length≤12) (M:List Boxes) :
    Ev tb zl78 [0] [O xs] M ⟨.tup [],[O (asc 0 [] xs)],M,[]⟩:=by
  obtain ⟨k,hk⟩:=ev_Len xs.length hl
  have e1:=ev_lim hk
  have e2:=ev_lim (ev_pdqsort xs hl k (M++[[]]))
  have w1:=@wrapU xs.length (by omega)
  refine call_of_wp zt78 rfl ?_
  repeat (first|apply wp_as|apply wp_ss|refine wr (by simp [e1,e2,w1];with_reducible rfl) ?_|refine wq (by simp [e1,e2,w1];with_reducible rfl) ?_|refine wt (by simpa [e1,e2,w1]) ?_|refine wf (by simpa [e1,e2,w1]) ?_|refine xt (by simpa [e1,e2,w1]) ?_|refine xf (by simpa [e1,e2,w1]) ?_|apply wp_bs|apply wp_b|refine wp_sr ?_|refine wp_sx ?_|refine wp_ret' ?_|refine wp_skip' ?_|refine wp_exit' ?_)
  simp [zi78]
end Go.Idl
namespace Go.Idl
open Go
theorem natOf_add2 {k:IntKind} {a b:Nat}:natOf (.sc (.int k ((a:Int)+(b:Int)+1)))=some (a+b+1):=natOf_nat (n:=a+b+1)
theorem rv_get {A m B:List Int} {x y:Int}:(A++x::(m++y::B))[A.length+m.length+1]? = some y:=by
  rw [List.getElem?_append_right (by omega),show A.length+m.length+1 - A.length=m.length+1 by omega,List.getElem?_cons_succ,List.getElem?_append_right (by omega)];simp
theorem rv_getE {A m B:List Int} {x y:Int} {h}:(A++x::(m++y::B))[A.length+m.length+1]'h=y:=by
  have:=@rv_get A m B x y
  rw [List.getElem?_eq_getElem h] at this
  exact Option.some.inj this
theorem rv_set {A m B:List Int} {v x y:Int}:(A++v::(m++y::B)).set (A.length+m.length+1) x=A++v::(m++x::B):=by
  rw [List.set_append_right _ _ (by omega)]
  simp [show A.length+m.length+1 - A.length=m.length+1 by omega]
theorem revl (M:List Boxes):∀ (k:Nat) (A m B:List Int),m.length≤k→A.length+m.length+B.length≤2000000 →
    wp tb (.loop z76l4) { T:=[(0,O (A++(m++B))),(2,I A.length),(3,I ((A.length:Int)+m.length - 1))],loc:=[],M:=M }
      (fun ex st=>ex=.exit 0∧∃ a b:Int,st={ T:=[(0,O (A++(m.reverse++B))),(2,I a),(3,I b),(9,Bo false)],loc:=[],M:=M }):=by
  intro k
  induction k with
  | zero =>
    intro A m B hk hl
    have:m=[]:=List.length_eq_zero_iff.1 (by omega)
    subst this
    refine wp_loop ?_
    have h:¬ ((A.length:Int) < A.length - 1):=by omega
    repeat (first|apply wp_as|apply wp_ss|refine wr (by simp [h];with_reducible rfl) ?_|refine wq (by simp [h];with_reducible rfl) ?_|refine wt (by simpa [h]) ?_|refine wf (by simpa [h]) ?_|refine xt (by simpa [h]) ?_|refine xf (by simpa [h]) ?_|apply wp_bs|apply wp_b|refine wp_sr ?_|refine wp_sx ?_|refine wp_ret' ?_|refine wp_skip' ?_|refine wp_exit' ?_)
    exact ⟨rfl,_,_,rfl⟩
  | succ k ih =>
    intro A m B hk hl
    match m,hk,hl with
    | [],hk,hl =>
      refine wp_loop ?_
      have h:¬ ((A.length:Int) < A.length - 1):=by omega
      repeat (first|apply wp_as|apply wp_ss|refine wr (by simp [h];with_reducible rfl) ?_|refine wq (by simp [h];with_reducible rfl) ?_|refine wt (by simpa [h]) ?_|refine wf (by simpa [h]) ?_|refine xt (by simpa [h]) ?_|refine xf (by simpa [h]) ?_|apply wp_bs|apply wp_b|refine wp_sr ?_|refine wp_sx ?_|refine wp_ret' ?_|refine wp_skip' ?_|refine wp_exit' ?_)
      exact ⟨rfl,_,_,rfl⟩
    | [x],hk,hl =>
      refine wp_loop ?_
      repeat (first|apply wp_as|apply wp_ss|refine wr (by simp;with_reducible rfl) ?_|refine wq (by simp;with_reducible rfl) ?_|refine wt (by simpa) ?_|refine wf (by simpa) ?_|refine xt (by simpa) ?_|refine xf (by simpa) ?_|apply wp_bs|apply wp_b|refine wp_sr ?_|refine wp_sx ?_|refine wp_ret' ?_|refine wp_skip' ?_|refine wp_exit' ?_)
      exact ⟨rfl,_,_,rfl⟩
    | x::z::m',hk,hl =>
      obtain ⟨m,y,hm⟩:∃ m y,z::m'=m++[y]:=⟨(z::m').dropLast,(z::m').getLast (by simp),(List.dropLast_concat_getLast _).symm⟩
      rw [hm] at hk hl ⊢
      simp only [List.length_cons,List.length_append,List.length_nil] at hk hl
      have hj:(A.length:Int)+(x::(m++[y])).length - 1=(A.length:Int)+m.length+1:=by simp;omega
      rw [hj]
      simp only [List.cons_append,List.append_assoc,List.nil_append]
      refine wp_loop ?_
      have h:(A.length:Int) < A.length+m.length+1:=by omega
      have h2:A.length < A.length+(m.length+(B.length+1)+1):=by omega
      have h3:A.length+m.length+1 < A.length+(m.length+(B.length+1)+1):=by omega
      have w1:IntKind.i64.wrap ((A.length:Int)+1)=((A++[y]).length:Int):=by rw [wrap64 (by omega) (by omega)];simp
      have w2:IntKind.i64.wrap ((A.length:Int)+m.length)=((A++[y]).length:Int)+m.length - 1:=by rw [wrap64 (by omega) (by omega)];simp;omega
      repeat (first|apply wp_as|apply wp_ss|refine wr (by simp [h,h2,h3,w1,w2,rv_get,rv_getE,rv_set,natOf_add2,app_get0];with_reducible rfl) ?_|refine wq (by simp [h,h2,h3,w1,w2,rv_get,rv_getE,rv_set,natOf_add2,app_get0];with_reducible rfl) ?_|refine wt (by simpa [h,h2,h3,w1,w2,rv_get,rv_getE,rv_set,natOf_add2,app_get0]) ?_|refine wf (by simpa [h,h2,h3,w1,w2,rv_get,rv_getE,rv_set,natOf_add2,app_get0]) ?_|refine xt (by simpa [h,h2,h3,w1,w2,rv_get,rv_getE,rv_set,natOf_add2,app_get0]) ?_|refine xf (by simpa [h,h2,h3,w1,w2,rv_get,rv_getE,rv_set,natOf_add2,app_get0]) ?_|apply wp_bs|apply wp_b|refine wp_sr ?_|refine wp_sx ?_|refine wp_ret' ?_|refine wp_skip' ?_|refine wp_exit' ?_)
      have:=ih (A++[y]) m (x::B) (by omega) (by simp;omega)
      simp at this ⊢
      exact this
theorem ev_Reverse (xs:List Int) (hl:xs.length≤2000000) (M:List Boxes) :
    Ev tb zl76 [0] [O xs] M ⟨.tup [],[O xs.reverse],M,[]⟩:=by
  have w1:IntKind.i64.wrap ((xs.length:Int) - 1)=(xs.length:Int) - 1:=wrap64 (by omega) (by omega)
  refine call_of_wp zt76 rfl ?_
  repeat (first|apply wp_as|apply wp_ss|refine wr (by simp [w1];with_reducible rfl) ?_|refine wq (by simp [w1];with_reducible rfl) ?_|refine wt (by simpa [w1]) ?_|refine wf (by simpa [w1]) ?_|refine xt (by simpa [w1]) ?_|refine xf (by simpa [w1]) ?_|apply wp_bs|apply wp_b|refine wp_sr ?_|refine wp_sx ?_|refine wp_ret' ?_|refine wp_skip' ?_|refine wp_exit' ?_)
  have:=revl M xs.length [] xs [] (by omega) (by simp;omega)
  simp at this
  refine wp_imp this ?_
  rintro ex st ⟨rfl,a,b,rfl⟩
  simp [zi76]
theorem ev_falling (xs:List Int) (c:Bool) (hl:xs.length≤12) :
    Ev tb zl37 [] [L xs c] [] ⟨O (fall xs),[],[],[]⟩:=by
  have e1:=ev_lim (ev_clone xs c (by omega))
  have e2:=ev_lim (ev_Sort xs hl [[]])
  have e3:=ev_lim (ev_Reverse (asc 0 [] xs) (by rw [asc_len];omega) [[]])
  refine call_of_wp zt37 rfl ?_
  repeat (first|apply wp_as|apply wp_ss|refine wr (by simp [e1,e2,e3,asc_rev];with_reducible rfl) ?_|refine wq (by simp [e1,e2,e3,asc_rev];with_reducible rfl) ?_|refine wt (by simpa [e1,e2,e3,asc_rev]) ?_|refine wf (by simpa [e1,e2,e3,asc_rev]) ?_|refine xt (by simpa [e1,e2,e3,asc_rev]) ?_|refine xf (by simpa [e1,e2,e3,asc_rev]) ?_|apply wp_bs|apply wp_b|refine wp_sr ?_|refine wp_sx ?_|refine wp_ret' ?_|refine wp_skip' ?_|refine wp_exit' ?_)
  simp [zi37]
theorem drop_get {xs:List Int} {i m:Nat} (h:i+(m+1)=xs.length):∃ h:i < xs.length,xs.drop i=xs[i]::xs.drop (i+1)∧xs[i] ∈ xs:=by
  have hi:i < xs.length:=by omega
  exact ⟨hi,List.drop_eq_getElem_cons hi,List.getElem_mem hi⟩
theorem drop_end {xs:List Int} {i:Nat} (h:i+0=xs.length):xs[i]? = none∧xs.drop i=[]:=by
  have:i=xs.length:=by omega
  subst this
  simp
def idx (p:Int→Bool):Int→List Int→Int
  | _,[]=>-1
  | i,x::r=>if p x then i else idx p (i+1) r
theorem ev_IndexFunc (xs:List Int) (c:Bool) (F:Lab) (caps:List IV) (M:List Boxes) (p:Int→Bool) (hl:xs.length≤2000000)
    (hp:∀ x ∈ xs,Ev tb F [] (I x::caps) (M++[[]]) ⟨Bo (p x),[],M++[[]],[]⟩) :
    Ev tb zl73 [] [L xs c,.fn F caps] M ⟨I (idx p 0 xs),[],M,[]⟩:=by
  have loop:∀ (m i:Nat),i+m=xs.length→wp tb (.loop z73l7) { T:=[(0,L xs c),(1,.fn F caps),(7,I xs.length),(8,I i)],loc:=[],M:=M }
      (fun ex st=>(ex=.exit 0∧idx p i (xs.drop i)=-1∧st={ T:=[(0,L xs c),(1,.fn F caps),(7,I xs.length),(8,I xs.length),(9,Bo false)],loc:=[],M:=M }) ∨
        ex=.ret∧st={ T:=[(4,I (idx p i (xs.drop i)))],loc:=[],M:=M }):=by
    intro m
    induction m with
    | zero =>
      intro i hi
      obtain ⟨h1,h2⟩:=drop_end hi
      have h3:i=xs.length:=hi
      subst h3
      refine wp_loop ?_
      repeat (first|apply wp_as|apply wp_ss|refine wr (by simp;with_reducible rfl) ?_|refine wq (by simp;with_reducible rfl) ?_|refine wt (by simpa) ?_|refine wf (by simpa) ?_|refine xt (by simpa) ?_|refine xf (by simpa) ?_|apply wp_bs|apply wp_b|refine wp_sr ?_|refine wp_sx ?_|refine wp_ret' ?_|refine wp_skip' ?_|refine wp_exit' ?_)
      refine .inl ⟨rfl,by rw [h2];rfl,rfl⟩
    | succ m ih =>
      intro i hi
      obtain ⟨hi2,h2,h3⟩:=drop_get hi
      have e1:=ev_lim (hp _ h3)
      have w1:IntKind.i64.wrap ((i:Int)+1)=((i+1:Nat):Int):=wrapS (by omega)
      rw [h2]
      cases hpx:p xs[i] with
      | true =>
        refine wp_loop ?_
        repeat (first|apply wp_as|apply wp_ss|refine wr (by simp [e1,hi2,w1,hpx];with_reducible rfl) ?_|refine wq (by simp [e1,hi2,w1,hpx];with_reducible rfl) ?_|refine wt (by simpa [e1,hi2,w1,hpx]) ?_|refine wf (by simpa [e1,hi2,w1,hpx]) ?_|refine xt (by simpa [e1,hi2,w1,hpx]) ?_|refine xf (by simpa [e1,hi2,w1,hpx]) ?_|apply wp_bs|apply wp_b|refine wp_sr ?_|refine wp_sx ?_|refine wp_ret' ?_|refine wp_skip' ?_|refine wp_exit' ?_)
        refine .inr ⟨rfl,by simp [idx,hpx]⟩
      | false =>
        refine wp_loop ?_
        repeat (first|apply wp_as|apply wp_ss|refine wr (by simp [e1,hi2,w1,hpx];with_reducible rfl) ?_|refine wq (by simp [e1,hi2,w1,hpx];with_reducible rfl) ?_|refine wt (by simpa [e1,hi2,w1,hpx]) ?_|refine wf (by simpa [e1,hi2,w1,hpx]) ?_|refine xt (by simpa [e1,hi2,w1,hpx]) ?_|refine xf (by simpa [e1,hi2,w1,hpx]) ?_|apply wp_bs|apply wp_b|refine wp_sr ?_|refine wp_sx ?_|refine wp_ret' ?_|refine wp_skip' ?_|refine wp_exit' ?_)
        have:=ih (i+1) (by omega)
        simp only [idx,hpx] at this ⊢
        exact this
  refine call_of_wp zt73 rfl ?_
  repeat (first|apply wp_as|apply wp_ss|refine wr (by simp;with_reducible rfl) ?_|refine wq (by simp;with_reducible rfl) ?_|refine wt (by simpa) ?_|refine wf (by simpa) ?_|refine xt (by simpa) ?_|refine xf (by simpa) ?_|apply wp_bs|apply wp_b|refine wp_sr ?_|refine wp_sx ?_|refine wp_ret' ?_|refine wp_skip' ?_|refine wp_exit' ?_)
  refine wp_imp (loop xs.length 0 (by simp)) ?_
  rintro ex st (⟨rfl,h,rfl⟩ | ⟨rfl,rfl⟩)
  · simp only [if_true]
    repeat (first|apply wp_as|apply wp_ss|refine wr (by simp;with_reducible rfl) ?_|refine wq (by simp;with_reducible rfl) ?_|refine wt (by simpa) ?_|refine wf (by simpa) ?_|refine xt (by simpa) ?_|refine xf (by simpa) ?_|apply wp_bs|apply wp_b|refine wp_sr ?_|refine wp_sx ?_|refine wp_ret' ?_|refine wp_skip' ?_|refine wp_exit' ?_)
    simp at h
    simp [zi73,h]
  · simp [zi73]
end Go.Idl
namespace Go.Idl
open Go
theorem ev_allIn_F1 (x lo hi:Int):Ev tb zl30 [] [I x,.bptr 0 0 0,.bptr 0 1 0] [[[I lo],[I hi]],[],[]] ⟨Bo (!(decide (lo≤x) && decide (x≤hi))),[],[[[I lo],[I hi]],[],[]],[]⟩:=by
  have e1:=ev_lim (ev_in x lo hi)
  refine call_of_wp zt30 rfl ?_
  repeat (first|apply wp_as|apply wp_ss|refine wr (by simp [e1];with_reducible rfl) ?_|refine wq (by simp [e1];with_reducible rfl) ?_|refine wt (by simpa [e1]) ?_|refine wf (by simpa [e1]) ?_|refine xt (by simpa [e1]) ?_|refine xf (by simpa [e1]) ?_|apply wp_bs|apply wp_b|refine wp_sr ?_|refine wp_sx ?_|refine wp_ret' ?_|refine wp_skip' ?_|refine wp_exit' ?_)
  simp [zi30]
theorem ev_ContainsFunc (xs:List Int) (c:Bool) (F:Lab) (caps:List IV) (M:List Boxes) (p:Int→Bool) (hl:xs.length≤2000000)
    (hp:∀ x ∈ xs,Ev tb F [] (I x::caps) (M++[[],[]]) ⟨Bo (p x),[],M++[[],[]],[]⟩) :
    Ev tb zl72 [] [L xs c,.fn F caps] M ⟨Bo (decide (0≤idx p 0 xs)),[],M,[]⟩:=by
  have e1:=ev_lim (ev_IndexFunc xs c F caps (M++[[]]) p hl (by simpa using hp))
  refine call_of_wp zt72 rfl ?_
  repeat (first|apply wp_as|apply wp_ss|refine wr (by simp [e1];with_reducible rfl) ?_|refine wq (by simp [e1];with_reducible rfl) ?_|refine wt (by simpa [e1]) ?_|refine wf (by simpa [e1]) ?_|refine xt (by simpa [e1]) ?_|refine xf (by simpa [e1]) ?_|apply wp_bs|apply wp_b|refine wp_sr ?_|refine wp_sx ?_|refine wp_ret' ?_|refine wp_skip' ?_|refine wp_exit' ?_)
  simp [zi72]
theorem idx_ge (p:Int→Bool):∀ (xs:List Int) (i:Int),0≤i→(decide (0≤idx p i xs)=xs.any p)
  | [],i,h=>by simp [idx]
  | x::r,i,h=>by
    unfold idx
    cases hp:p x with
    | true=>simp [hp,h]
    | false=>simp [hp];simpa using idx_ge p r (i+1) (by omega)
theorem ev_allIn (xs:List Int) (c:Bool) (lo hi:Int) (hl:xs.length≤2000000) :
    Ev tb zl29 [] [L xs c,I lo,I hi] [] ⟨Bo (xs.all fun x=>decide (lo≤x) && decide (x≤hi)),[],[],[]⟩:=by
  have e1:=ev_lim (ev_ContainsFunc xs c zl30 [.bptr 0 0 0,.bptr 0 1 0] [[[I lo],[I hi]]] _ hl (fun x _=>ev_allIn_F1 x lo hi))
  refine call_of_wp zt29 rfl ?_
  repeat (first|apply wp_as|apply wp_ss|refine wr (by simp [e1,idx_ge];with_reducible rfl) ?_|refine wq (by simp [e1,idx_ge];with_reducible rfl) ?_|refine wt (by simpa [e1,idx_ge]) ?_|refine wf (by simpa [e1,idx_ge]) ?_|refine xt (by simpa [e1,idx_ge]) ?_|refine xf (by simpa [e1,idx_ge]) ?_|apply wp_bs|apply wp_b|refine wp_sr ?_|refine wp_sx ?_|refine wp_ret' ?_|refine wp_skip' ?_|refine wp_exit' ?_)
  simp [zi29,List.all_eq_not_any_not]
def valid (d:List Int):Bool:=decide (d.length≤7) && d.all fun x=>decide (0≤x) && decide (x < d.length)
theorem ev_ValidDegrees (xs:List Int) (c:Bool) (hl:xs.length≤2000000):Ev tb zl25 [] [L xs c] [] ⟨Bo (valid xs),[],[],[]⟩:=by
  have e1:=ev_lim (ev_allIn xs c 0 ((xs.length:Int) - 1) hl)
  have w1:IntKind.i64.wrap ((xs.length:Int) - 1)=(xs.length:Int) - 1:=wrap64 (by omega) (by omega)
  have hx:∀ x:Int,(x≤(xs.length:Int) - 1) ↔ x < (xs.length:Int):=fun x=>by omega
  simp only [hx] at e1
  have h2:((xs.length:Int)≤7) ↔ xs.length≤7:=by omega
  by_cases h:xs.length≤7
  · refine call_of_wp zt25 rfl ?_
    repeat (first|apply wp_as|apply wp_ss|refine wr (by simp [e1,w1,h2,h];with_reducible rfl) ?_|refine wq (by simp [e1,w1,h2,h];with_reducible rfl) ?_|refine wt (by simpa [e1,w1,h2,h]) ?_|refine wf (by simpa [e1,w1,h2,h]) ?_|refine xt (by simpa [e1,w1,h2,h]) ?_|refine xf (by simpa [e1,w1,h2,h]) ?_|apply wp_bs|apply wp_b|refine wp_sr ?_|refine wp_sx ?_|refine wp_ret' ?_|refine wp_skip' ?_|refine wp_exit' ?_)
    simp [zi25,valid,h]
  · refine call_of_wp zt25 rfl ?_
    repeat (first|apply wp_as|apply wp_ss|refine wr (by simp [e1,w1,h2,h];with_reducible rfl) ?_|refine wq (by simp [e1,w1,h2,h];with_reducible rfl) ?_|refine wt (by simpa [e1,w1,h2,h]) ?_|refine wf (by simpa [e1,w1,h2,h]) ?_|refine xt (by simpa [e1,w1,h2,h]) ?_|refine xf (by simpa [e1,w1,h2,h]) ?_|apply wp_bs|apply wp_b|refine wp_sr ?_|refine wp_sx ?_|refine wp_ret' ?_|refine wp_skip' ?_|refine wp_exit' ?_)
    simp [zi25,valid,h]
theorem ev_copyInts (xs:List Int) (c:Bool) (hl:xs.length≤2000000):Ev tb zl123 [] [L xs c] [] ⟨O xs,[],[],[]⟩:=by
  refine call_of_wp zt123 rfl ?_
  repeat (first|apply wp_as|apply wp_ss|refine wr (by simp [show xs.length≤274877906944 by omega];with_reducible rfl) ?_|refine wq (by simp [show xs.length≤274877906944 by omega];with_reducible rfl) ?_|refine wt (by simpa [show xs.length≤274877906944 by omega]) ?_|refine wf (by simpa [show xs.length≤274877906944 by omega]) ?_|refine xt (by simpa [show xs.length≤274877906944 by omega]) ?_|refine xf (by simpa [show xs.length≤274877906944 by omega]) ?_|apply wp_bs|apply wp_b|refine wp_sr ?_|refine wp_sx ?_|refine wp_ret' ?_|refine wp_skip' ?_|refine wp_exit' ?_)
  simp [zi123]
theorem ev_equalInts (xs ys:List Int) (c d:Bool) (hl:xs.length≤2000000) (hm:ys.length≤2000000):Ev tb zl53 [] [L xs c,L ys d] [] ⟨Bo (decide (xs=ys)),[],[],[]⟩:=by
  by_cases he:xs.length=ys.length
  · have loop:∀ (m i:Nat),i+m=xs.length→wp tb (.loop z53l8) { T:=[(0,L xs c),(1,L ys d),(5,I i)],loc:=[],M:=[] }
      (fun ex st=>(ex=.exit 0∧xs.drop i=ys.drop i∧st={ T:=[(0,L xs c),(1,L ys d),(5,I xs.length),(14,Bo false)],loc:=[],M:=[] }) ∨
        ex=.ret∧xs.drop i ≠ ys.drop i∧st={ T:=[(4,Bo false)],loc:=[],M:=[] }):=by
      intro m
      induction m with
      | zero =>
        intro i hi
        obtain ⟨h1,h2⟩:=drop_end hi
        obtain ⟨h1',h2'⟩:=drop_end (he ▸ hi)
        have h3:i=xs.length:=hi
        subst h3
        refine wp_loop ?_
        repeat (first|apply wp_as|apply wp_ss|refine wr (by simp;with_reducible rfl) ?_|refine wq (by simp;with_reducible rfl) ?_|refine wt (by simpa) ?_|refine wf (by simpa) ?_|refine xt (by simpa) ?_|refine xf (by simpa) ?_|apply wp_bs|apply wp_b|refine wp_sr ?_|refine wp_sx ?_|refine wp_ret' ?_|refine wp_skip' ?_|refine wp_exit' ?_)
        refine .inl ⟨rfl,by rw [h2,h2'],rfl⟩
      | succ m ih =>
        intro i hi
        obtain ⟨hi2,h2,h3⟩:=drop_get hi
        obtain ⟨hi2',h2',h3'⟩:=drop_get (he ▸ hi)
        have w2:IntKind.i64.wrap ((i:Int)+1)=((i+1:Nat):Int):=wrapS (by omega)
        rw [h2,h2']
        by_cases hx:xs[i]=ys[i]
        · refine wp_loop ?_
          repeat (first|apply wp_as|apply wp_ss|refine wr (by simp [hi2,hi2',w2,hx];with_reducible rfl) ?_|refine wq (by simp [hi2,hi2',w2,hx];with_reducible rfl) ?_|refine wt (by simpa [hi2,hi2',w2,hx]) ?_|refine wf (by simpa [hi2,hi2',w2,hx]) ?_|refine xt (by simpa [hi2,hi2',w2,hx]) ?_|refine xf (by simpa [hi2,hi2',w2,hx]) ?_|apply wp_bs|apply wp_b|refine wp_sr ?_|refine wp_sx ?_|refine wp_ret' ?_|refine wp_skip' ?_|refine wp_exit' ?_)
          have:=ih (i+1) (by omega)
          simp only [List.cons.injEq,true_and,ne_eq,hx] at this ⊢
          exact this
        · refine wp_loop ?_
          repeat (first|apply wp_as|apply wp_ss|refine wr (by simp [hi2,hi2',w2,hx];with_reducible rfl) ?_|refine wq (by simp [hi2,hi2',w2,hx];with_reducible rfl) ?_|refine wt (by simpa [hi2,hi2',w2,hx]) ?_|refine wf (by simpa [hi2,hi2',w2,hx]) ?_|refine xt (by simpa [hi2,hi2',w2,hx]) ?_|refine xf (by simpa [hi2,hi2',w2,hx]) ?_|apply wp_bs|apply wp_b|refine wp_sr ?_|refine wp_sx ?_|refine wp_ret' ?_|refine wp_skip' ?_|refine wp_exit' ?_)
          refine .inr ⟨rfl,by simp only [ne_eq,List.cons.injEq,hx,false_and,not_false_eq_true],rfl⟩
    refine call_of_wp zt53 rfl ?_
    repeat (first|apply wp_as|apply wp_ss|refine wr (by simp [he];with_reducible rfl) ?_|refine wq (by simp [he];with_reducible rfl) ?_|refine wt (by simpa [he]) ?_|refine wf (by simpa [he]) ?_|refine xt (by simpa [he]) ?_|refine xf (by simpa [he]) ?_|apply wp_bs|apply wp_b|refine wp_sr ?_|refine wp_sx ?_|refine wp_ret' ?_|refine wp_skip' ?_|refine wp_exit' ?_)
    refine wp_imp (loop xs.length 0 (by simp)) ?_
    rintro ex st (⟨rfl,h,rfl⟩ | ⟨rfl,h,rfl⟩)
    · simp only [if_true]
      repeat (first|apply wp_as|apply wp_ss|refine wr (by simp;with_reducible rfl) ?_|refine wq (by simp;with_reducible rfl) ?_|refine wt (by simpa) ?_|refine wf (by simpa) ?_|refine xt (by simpa) ?_|refine xf (by simpa) ?_|apply wp_bs|apply wp_b|refine wp_sr ?_|refine wp_sx ?_|refine wp_ret' ?_|refine wp_skip' ?_|refine wp_exit' ?_)
      simp only [List.drop_zero] at h
      simp [zi53,h]
    · simp only [List.drop_zero] at h
      simp [zi53,h]
  · have hne:xs ≠ ys:=fun h=>he (by rw [h])
    have h2:((xs.length:Int)=ys.length) ↔ xs.length=ys.length:=by omega
    refine call_of_wp zt53 rfl ?_
    repeat (first|apply wp_as|apply wp_ss|refine wr (by simp [he,h2];with_reducible rfl) ?_|refine wq (by simp [he,h2];with_reducible rfl) ?_|refine wt (by simpa [he,h2]) ?_|refine wf (by simpa [he,h2]) ?_|refine xt (by simpa [he,h2]) ?_|refine xf (by simpa [he,h2]) ?_|apply wp_bs|apply wp_b|refine wp_sr ?_|refine wp_sx ?_|refine wp_ret' ?_|refine wp_skip' ?_|refine wp_exit' ?_)
    simp [zi53,hne]
end Go.Idl
namespace Go.Idl
open Go
def bytes (xs:List Int):List (List IV):=xs.map fun n=>[.sc (.int .u8 n)]
@[simp] theorem bytes_len (xs:List Int):(bytes xs).length=xs.length:=by simp [bytes]
@[simp] theorem bytes_take (xs:List Int) (n:Nat):(bytes xs).take n=bytes (xs.take n):=by simp [bytes,List.map_take]
@[simp] theorem bytes_get? (xs:List Int) (i:Nat):(bytes xs)[i]? = xs[i]?.map fun n=>[IV.sc (.int .u8 n)]:=by simp [bytes]
@[simp] theorem bytes_get (xs:List Int) (i:Nat) (h:i < (bytes xs).length):(bytes xs)[i]=[IV.sc (.int .u8 (xs[i]'(by simpa [bytes] using h)))]:=by simp [bytes]
@[simp] theorem bytes_emp (xs:List Int):(bytes xs).isEmpty=xs.isEmpty:=by cases xs <;> rfl
@[simp] theorem bytes_all1 (xs:List Int):((bytes xs).all fun x=>x.all IV.plain1)=true:=by
  induction xs with
  | nil=>rfl
  | cons x xs ih=>simp only [bytes,List.map_cons,List.all_cons] at *;rw [ih];rfl
@[simp] theorem bytes_all2 (xs:List Int):((bytes xs).all fun x=>x.all IV.isData)=true:=by
  induction xs with
  | nil=>rfl
  | cons x xs ih=>simp only [bytes,List.map_cons,List.all_cons] at *;rw [ih];rfl
@[simp] theorem bytes_noLst (xs:List Int):noLstLL (bytes xs)=true:=by
  induction xs with
  | nil=>rfl
  | cons x xs ih=>simp only [bytes,List.map_cons,noLstLL,noLstL,noLstV] at *;rw [ih];rfl
abbrev R (code:List Int) (c:Bool) (n:Int):List IV:=[.lst 1 (bytes code) c,I n]
def CodeOk (code:List Int):Prop:=code.length≤2000∧∀ x ∈ code,0≤x∧x≤255
theorem xor_ok (a b:Nat) (ha:a < 2 ^ 40) (hb:b < 2 ^ 40):∃ n:Nat,n < 2 ^ 40∧binOp .xor 0 (Value.int .i64 a) (Value.int .i64 b)=Sem.pure (Value.int .i64 n):=by
  refine ⟨a ^^^ b,Nat.xor_lt_two_pow ha hb,?_⟩
  have h:=Nat.xor_lt_two_pow ha hb
  have e:IntKind.i64.wrap (((BitVec.ofInt 64 (a:Int)) ^^^ (BitVec.ofInt 64 (b:Int))).toNat:Int)=((a ^^^ b:Nat):Int):=by
    have h1:((BitVec.ofInt 64 (a:Int)) ^^^ (BitVec.ofInt 64 (b:Int))).toNat=a ^^^ b:=by
      rw [BitVec.toNat_xor,BitVec.ofInt_natCast,BitVec.ofInt_natCast,BitVec.toNat_ofNat,BitVec.toNat_ofNat,Nat.mod_eq_of_lt (by omega),Nat.mod_eq_of_lt (by omega)]
    rw [h1,wrapN (by omega)]
  show Sem.pure (Value.int .i64 (IntKind.i64.wrap (((BitVec.ofInt 64 (a:Int)) ^^^ (BitVec.ofInt 64 (b:Int))).toNat:Int)))=_
  rw [e]
theorem tmod_range {x n:Int} (hx:0≤x) (hn:1≤n):0≤x.tmod n∧x.tmod n < n:=by
  rw [Int.tmod_eq_emod_of_nonneg hx]
  exact ⟨Int.emod_nonneg _ (by omega),Int.emod_lt_of_pos _ (by omega)⟩
theorem ev_pick (code:List Int) (c:Bool) (hc:CodeOk code) (cnt:Nat) (hn:cnt≤2000000) (n:Int) (hn2:n≤2000000) (bs:Boxes) (Ms:List Boxes) :
    ∃ v:Nat,(1≤n→(v:Int) < n)∧Ev tb zl140 [] [.bptr 0 0 0,I n] ((R code c cnt::bs)::Ms) ⟨I v,[],(R code c ((cnt+1:Nat):Int)::bs)::Ms,[]⟩:=by
  have w1:IntKind.i64.wrap ((cnt:Int)+1)=((cnt+1:Nat):Int):=wrapS (by omega)
  by_cases h1:n < 1
  · refine ⟨0,by omega,?_⟩
    refine call_of_wp zt140 rfl ?_
    repeat (first|apply wp_as|apply wp_ss|refine wr (by simp [w1,h1];with_reducible rfl) ?_|refine wq (by simp [w1,h1];with_reducible rfl) ?_|refine wt (by simpa [w1,h1]) ?_|refine wf (by simpa [w1,h1]) ?_|refine xt (by simpa [w1,h1]) ?_|refine xf (by simpa [w1,h1]) ?_|apply wp_bs|apply wp_b|refine wp_sr ?_|refine wp_sx ?_|refine wp_ret' ?_|refine wp_skip' ?_|refine wp_exit' ?_)
    simp [zi140]
  by_cases h2:code=[]
  · subst h2
    refine ⟨0,by omega,?_⟩
    refine call_of_wp zt140 rfl ?_
    repeat (first|apply wp_as|apply wp_ss|refine wr (by simp [w1,h1];with_reducible rfl) ?_|refine wq (by simp [w1,h1];with_reducible rfl) ?_|refine wt (by simpa [w1,h1]) ?_|refine wf (by simpa [w1,h1]) ?_|refine xt (by simpa [w1,h1]) ?_|refine xf (by simpa [w1,h1]) ?_|apply wp_bs|apply wp_b|refine wp_sr ?_|refine wp_sx ?_|refine wp_ret' ?_|refine wp_skip' ?_|refine wp_exit' ?_)
    simp [zi140]
  have h2':¬ (code.length:Int)=0:=by
    have:code.length ≠ 0:=fun h=>h2 (List.length_eq_zero_iff.1 h)
    omega
  have w2:IntKind.i64.wrap (cnt:Int)=(cnt:Int):=wrapN (by omega)
  have hn0:¬ n=0:=by omega
  by_cases h3:cnt < code.length
  · have hb:=hc.2 code[cnt] (List.getElem_mem h3)
    have w3:IntKind.i64.wrap code[cnt]=code[cnt]:=wrap64 (by omega) (by omega)
    have hr:=tmod_range hb.1 (n:=n) (by omega)
    obtain ⟨v,hv⟩:=Int.eq_ofNat_of_zero_le hr.1
    rw [hv] at hr
    refine ⟨v,fun _=>hr.2,?_⟩
    refine call_of_wp zt140 rfl ?_
    repeat (first|apply wp_as|apply wp_ss|refine wr (by simp [w1,w2,h1,h2,h2',h3,w3,hn0,hv];with_reducible rfl) ?_|refine wq (by simp [w1,w2,h1,h2,h2',h3,w3,hn0,hv];with_reducible rfl) ?_|refine wt (by simpa [w1,w2,h1,h2,h2',h3,w3,hn0,hv]) ?_|refine wf (by simpa [w1,w2,h1,h2,h2',h3,w3,hn0,hv]) ?_|refine xt (by simpa [w1,w2,h1,h2,h2',h3,w3,hn0,hv]) ?_|refine xf (by simpa [w1,w2,h1,h2,h2',h3,w3,hn0,hv]) ?_|apply wp_bs|apply wp_b|refine wp_sr ?_|refine wp_sx ?_|refine wp_ret' ?_|refine wp_skip' ?_|refine wp_exit' ?_)
    simp [zi140]
  have hl0:0 < code.length:=by omega
  have hlen:=hc.1
  obtain ⟨i1,hi1,m1⟩:∃ i1:Nat,i1 < code.length∧(cnt:Int).tmod (code.length:Int)=(i1:Int) :=
    ⟨cnt % code.length,Nat.mod_lt _ hl0,rfl⟩
  obtain ⟨i2,hi2,m2⟩:∃ i2:Nat,i2 < code.length∧((cnt:Int) * 7+3).tmod (code.length:Int)=(i2:Int) :=
    ⟨(cnt * 7+3) % code.length,Nat.mod_lt _ hl0,rfl⟩
  obtain ⟨q,hq,m3⟩:∃ q:Nat,q≤cnt∧(cnt:Int).tdiv (code.length:Int)=(q:Int) :=
    ⟨cnt / code.length,Nat.div_le_self _ _,rfl⟩
  have hb1:=hc.2 code[i1] (List.getElem_mem hi1)
  have hb2:=hc.2 code[i2] (List.getElem_mem hi2)
  generalize hx1:code[i1]=b1 at hb1
  generalize hx2:code[i2]=b2 at hb2
  have v1:IntKind.i64.wrap b1=b1:=wrap64 (by omega) (by omega)
  have v2:IntKind.i64.wrap b2=b2:=wrap64 (by omega) (by omega)
  have v3:IntKind.i64.wrap (b1 * 131)=b1 * 131:=wrap64 (by omega) (by omega)
  have v4:IntKind.i64.wrap (b2 * 1117)=b2 * 1117:=wrap64 (by omega) (by omega)
  have v5:IntKind.i64.wrap (b1 * 131+b2 * 1117)=b1 * 131+b2 * 1117:=wrap64 (by omega) (by omega)
  have v6:IntKind.i64.wrap ((cnt:Int) * 7)=(cnt:Int) * 7:=wrap64 (by omega) (by omega)
  have v7:IntKind.i64.wrap ((cnt:Int) * 7+3)=(cnt:Int) * 7+3:=wrap64 (by omega) (by omega)
  have v8:IntKind.i64.wrap ((cnt:Int) * 29)=(cnt:Int) * 29:=wrap64 (by omega) (by omega)
  have v9:IntKind.i64.wrap (q:Int)=(q:Int):=wrap64 (by omega) (by omega)
  have v10:IntKind.i64.wrap ((q:Int) * 53)=(q:Int) * 53:=wrap64 (by omega) (by omega)
  have v11:IntKind.i64.wrap (b1 * 131+b2 * 1117+(cnt:Int) * 29)=b1 * 131+b2 * 1117+(cnt:Int) * 29:=wrap64 (by omega) (by omega)
  obtain ⟨x,hx,ex⟩:∃ x:Nat,x < 2 ^ 40∧b1 * 131+b2 * 1117+(cnt:Int) * 29+(q:Int) * 53=(x:Int) :=
    ⟨(b1 * 131+b2 * 1117+(cnt:Int) * 29+(q:Int) * 53).toNat,by omega,by omega⟩
  have v12:IntKind.i64.wrap (x:Int)=(x:Int):=wrap64 (by omega) (by omega)
  obtain ⟨y,hy,ey⟩:∃ y:Nat,y < 2 ^ 40∧(x:Int).tdiv 64=(y:Int):=⟨x / 64,by omega,rfl⟩
  have ey2:(x:Int) / 64=(y:Int):=ey
  have v13:IntKind.i64.wrap (y:Int)=(y:Int):=wrap64 (by omega) (by omega)
  obtain ⟨z,hz,ez⟩:=xor_ok x y hx hy
  have hr:=tmod_range (x:=(z:Int)) (by omega) (n:=n) (by omega)
  obtain ⟨v,hv⟩:=Int.eq_ofNat_of_zero_le hr.1
  rw [hv] at hr
  refine ⟨v,fun _=>hr.2,?_⟩
  refine call_of_wp zt140 rfl ?_
  repeat (first|apply wp_as|apply wp_ss|refine wr (by simp [w1,w2,h1,h2,h2',h3,hn0,m1,m2,m3,hi1,hi2,hx1,hx2,v1,v2,v3,v4,v5,v6,v7,v8,v9,v10,v11,ex,v12,ey,ey2,v13,ez,hv];with_reducible rfl) ?_|refine wq (by simp [w1,w2,h1,h2,h2',h3,hn0,m1,m2,m3,hi1,hi2,hx1,hx2,v1,v2,v3,v4,v5,v6,v7,v8,v9,v10,v11,ex,v12,ey,ey2,v13,ez,hv];with_reducible rfl) ?_|refine wt (by simpa [w1,w2,h1,h2,h2',h3,hn0,m1,m2,m3,hi1,hi2,hx1,hx2,v1,v2,v3,v4,v5,v6,v7,v8,v9,v10,v11,ex,v12,ey,ey2,v13,ez,hv]) ?_|refine wf (by simpa [w1,w2,h1,h2,h2',h3,hn0,m1,m2,m3,hi1,hi2,hx1,hx2,v1,v2,v3,v4,v5,v6,v7,v8,v9,v10,v11,ex,v12,ey,ey2,v13,ez,hv]) ?_|refine xt (by simpa [w1,w2,h1,h2,h2',h3,hn0,m1,m2,m3,hi1,hi2,hx1,hx2,v1,v2,v3,v4,v5,v6,v7,v8,v9,v10,v11,ex,v12,ey,ey2,v13,ez,hv]) ?_|refine xf (by simpa [w1,w2,h1,h2,h2',h3,hn0,m1,m2,m3,hi1,hi2,hx1,hx2,v1,v2,v3,v4,v5,v6,v7,v8,v9,v10,v11,ex,v12,ey,ey2,v13,ez,hv]) ?_|apply wp_bs|apply wp_b|refine wp_sr ?_|refine wp_sx ?_|refine wp_ret' ?_|refine wp_skip' ?_|refine wp_exit' ?_)
  simp [zi140]
theorem ev_newReader (code:List Int) (c:Bool) (M:List Boxes) (hl:code.length≤274877906944) :
    ∃ c',Ev tb zl137 [] [.lst 1 (bytes code) c] M ⟨.bptr M.length 0 0,[],M,[R (code.take 2000) c' 0]⟩:=by
  have hi:((code.length:Int)≤2000) ↔ code.length≤2000:=by omega
  by_cases h:2000 < code.length
  · refine ⟨false,?_⟩
    have h2:¬ code.length≤2000:=by omega
    have h3:(2000:Int) < code.length:=by omega
    refine call_of_wp zt137 rfl ?_
    repeat (first|apply wp_as|apply wp_ss|refine wr (by simp [h,h2,h3,show 2000≤code.length by omega,natOf];with_reducible rfl) ?_|refine wq (by simp [h,h2,h3,show 2000≤code.length by omega,natOf];with_reducible rfl) ?_|refine wt (by simpa [h,h2,h3,show 2000≤code.length by omega,natOf]) ?_|refine wf (by simpa [h,h2,h3,show 2000≤code.length by omega,natOf]) ?_|refine xt (by simpa [h,h2,h3,show 2000≤code.length by omega,natOf]) ?_|refine xf (by simpa [h,h2,h3,show 2000≤code.length by omega,natOf]) ?_|apply wp_bs|apply wp_b|refine wp_sr ?_|refine wp_sx ?_|refine wp_ret' ?_|refine wp_skip' ?_|refine wp_exit' ?_)
    simp [zi137,h2,h3]
    intro _;omega
  · refine ⟨c,?_⟩
    have h2:code.length≤2000:=by omega
    have h3:¬ (2000:Int) < code.length:=by omega
    refine call_of_wp zt137 rfl ?_
    repeat (first|apply wp_as|apply wp_ss|refine wr (by simp [h,h2,h3];with_reducible rfl) ?_|refine wq (by simp [h,h2,h3];with_reducible rfl) ?_|refine wt (by simpa [h,h2,h3]) ?_|refine wf (by simpa [h,h2,h3]) ?_|refine xt (by simpa [h,h2,h3]) ?_|refine xf (by simpa [h,h2,h3]) ?_|apply wp_bs|apply wp_b|refine wp_sr ?_|refine wp_sx ?_|refine wp_ret' ?_|refine wp_skip' ?_|refine wp_exit' ?_)
    simp [zi137,List.take_of_length_le h2]
theorem ev_one (code:List Int) (c:Bool) (hc:CodeOk code) (cnt:Nat) (hn:cnt≤2000000) (xs:List Int) (d:Bool) (hl:0 < xs.length∧xs.length≤1000) (bs:Boxes) (Ms:List Boxes) :
    ∃ x:Int,x ∈ xs∧Ev tb zl139 [] [.bptr 0 0 0,L xs d] ((R code c cnt::bs)::Ms) ⟨I x,[],(R code c ((cnt+1:Nat):Int)::bs)::Ms,[]⟩:=by
  obtain ⟨v,hv,e⟩:=ev_pick code c hc cnt hn (xs.length:Int) (by omega) bs (Ms++[[]])
  have hv:=hv (by omega)
  have hv2:v < xs.length:=by omega
  have e1:=ev_lim e
  refine ⟨xs[v],List.getElem_mem hv2,?_⟩
  refine call_of_wp zt139 rfl ?_
  repeat (first|apply wp_as|apply wp_ss|refine wr (by simp [e1,hv2];with_reducible rfl) ?_|refine wq (by simp [e1,hv2];with_reducible rfl) ?_|refine wt (by simpa [e1,hv2]) ?_|refine wf (by simpa [e1,hv2]) ?_|refine xt (by simpa [e1,hv2]) ?_|refine xf (by simpa [e1,hv2]) ?_|apply wp_bs|apply wp_b|refine wp_sr ?_|refine wp_sx ?_|refine wp_ret' ?_|refine wp_skip' ?_|refine wp_exit' ?_)
  simp [zi139]
end Go.Idl
namespace Go.Idl
open Go
def eds (xs:List (Int×Int)):List (List IV):=xs.map fun e=>[I e.1,I e.2]
abbrev L2 (xs:List (Int×Int)) (c:Bool:=false):IV:=.lst 2 (eds xs) c
abbrev O2 (xs:List (Int×Int)):IV:=.own 2 (eds xs)
@[simp] theorem eds_len (xs:List (Int×Int)):(eds xs).length=xs.length:=by simp [eds]
@[simp] theorem eds_nil:eds []=[]:=rfl
@[simp] theorem eds_take (xs:List (Int×Int)) (n:Nat):(eds xs).take n=eds (xs.take n):=by simp [eds,List.map_take]
@[simp] theorem eds_drop (xs:List (Int×Int)) (n:Nat):(eds xs).drop n=eds (xs.drop n):=by simp [eds,List.map_drop]
@[simp] theorem eds_app (xs ys:List (Int×Int)):eds xs++eds ys=eds (xs++ys):=by simp [eds]
@[simp] theorem eds_one (xs:List (Int×Int)) (a b:Int):eds xs++[[IV.sc (.int .i64 a),IV.sc (.int .i64 b)]]=eds (xs++[(a,b)]):=by simp [eds]
@[simp] theorem eds_get? (xs:List (Int×Int)) (i:Nat):(eds xs)[i]? = xs[i]?.map fun e=>[IV.sc (.int .i64 e.1),IV.sc (.int .i64 e.2)]:=by simp [eds]
@[simp] theorem eds_get (xs:List (Int×Int)) (i:Nat) (h:i < (eds xs).length):(eds xs)[i]=[IV.sc (.int .i64 (xs[i]'(by simpa [eds] using h)).1),IV.sc (.int .i64 (xs[i]'(by simpa [eds] using h)).2)]:=by simp [eds]
@[simp] theorem eds_emp (xs:List (Int×Int)):(eds xs).isEmpty=xs.isEmpty:=by cases xs <;> rfl
@[simp] theorem eds_set (xs:List (Int×Int)) (i:Nat) (a b:Int):(eds xs).set i [IV.sc (.int .i64 a),IV.sc (.int .i64 b)]=eds (xs.set i (a,b)):=by
  simp [eds,List.map_set]
@[simp] theorem eds_all1 (xs:List (Int×Int)):((eds xs).all fun x=>x.all IV.plain1)=true:=by
  induction xs with
  | nil=>rfl
  | cons x xs ih=>simp only [eds,List.map_cons,List.all_cons] at *;rw [ih];rfl
@[simp] theorem eds_all2 (xs:List (Int×Int)):((eds xs).all fun x=>x.all IV.isData)=true:=by
  induction xs with
  | nil=>rfl
  | cons x xs ih=>simp only [eds,List.map_cons,List.all_cons] at *;rw [ih];rfl
@[simp] theorem eds_noLst (xs:List (Int×Int)):noLstLL (eds xs)=true:=by
  induction xs with
  | nil=>rfl
  | cons x xs ih=>simp only [eds,List.map_cons,noLstLL,noLstL,noLstV] at *;rw [ih];rfl
@[simp] theorem frz_eds (xs:List (Int×Int)):frzLL (eds xs)=eds xs:=by
  induction xs with
  | nil=>rfl
  | cons x xs ih=>simp only [eds,List.map_cons,frzLL,frzL,frzV] at *;rw [ih]
def row (a b:Nat):Nat→List (Int×Int)
  | 0=>[]
  | m+1=>((a:Int),(b:Int))::row a (b+1) m
def prsF (a:Nat):Nat→List (Int×Int)
  | 0=>[]
  | m+1=>row a (a+1) m++prsF (a+1) m
def prs (n:Nat):List (Int×Int):=prsF 0 n
theorem row_len (a:Nat):∀ (m b:Nat),(row a b m).length=m
  | 0,b=>rfl
  | m+1,b=>by simp [row,row_len a m]
theorem row_mem (a:Nat):∀ (m b:Nat) (e:Int×Int),e ∈ row a b m→e.1=a∧(b:Int)≤e.2∧e.2 < b+m
  | 0,b,e,h=>by simp [row] at h
  | m+1,b,e,h=>by
    rcases List.mem_cons.1 h with rfl | h
    · simp;omega
    · have:=row_mem a m (b+1) e h;omega
theorem prsF_mem:∀ (m a:Nat) (e:Int×Int),e ∈ prsF a m→0≤e.1∧e.1 < e.2∧e.2 < a+m
  | 0,a,e,h=>by simp [prsF] at h
  | m+1,a,e,h=>by
    rcases List.mem_append.1 h with h | h
    · have:=row_mem a m (a+1) e h;omega
    · have:=prsF_mem m (a+1) e h;omega
def isE (a b:Int) (e:Int×Int):Bool:=decide (e.1=a) && decide (e.2=b) || decide (e.1=b) && decide (e.2=a)
def has (es:List (Int×Int)) (a b:Int):Bool:=es.any (isE a b)
end Go.Idl
namespace Go.Idl
open Go
theorem call_ex {f:Lab} {fn:IFun} (hf:tb f=some fn) {lent:List Nat} {args:List IV} {M:List Boxes} (hl:lent.all fn.keep.contains=true) {P:Ret→Prop}
    (h:wp tb fn.body { T:=args.zipIdx.map fun (v,i)=>(i,v),loc:=[],M:=M } fun ex st=>(ex=.normal ∨ ex=.ret)∧∃ r,P r∧finish fn lent st=some r):∃ r,P r∧Ev tb f lent args M r:=by
  obtain ⟨ex,st',⟨h1,r,hP,h2⟩,-,back⟩:=wp_sound h
  exact ⟨r,hP,call_of_wp hf hl (back _ ⟨h1,h2⟩)⟩
theorem pick' (code:List Int) (c:Bool) (hc:CodeOk code) (cnt:Nat) (hn:cnt≤2000000) (n:Int) (hn2:n≤2000000) (bs:Boxes) (Ms:List Boxes) :
    ∃ v k:Nat,(1≤n→(v:Int) < n)∧k≤cnt+1∧limF tb zl140 [] [.bptr 0 0 0,I n] ((R code c cnt::bs)::Ms)=some ⟨I v,[],(R code c k::bs)::Ms,[]⟩:=by
  obtain ⟨v,h,e⟩:=ev_pick code c hc cnt hn n hn2 bs Ms
  exact ⟨v,cnt+1,h,by omega,ev_lim e⟩
end Go.Idl
namespace Go.Idl
theorem sumB {B:Int} (hB:0≤B):∀ {xs:List Int},(∀ x ∈ xs,0≤x∧x≤B)→0≤xs.sum∧xs.sum≤B * xs.length
  | [],_=>by simp
  | x::r,h=>by
    have h1:=h x (by simp)
    have h2:=sumB hB (xs:=r) (fun y hy=>h y (by simp [hy]))
    have e:B * ((x::r).length:Int)=B * r.length+B:=by
      rw [List.length_cons,Int.natCast_add,Int.mul_add];simp
    rw [List.sum_cons,e]
    omega
def least (xs:List Int):Int:=xs.foldl (fun n x=>min n x) 0
theorem least_aux:∀ (xs:List Int) (n:Int),xs.foldl (fun n x=>min n x) n≤n∧((xs.foldl (fun n x=>min n x) n=n) ↔ ∀ x ∈ xs,n≤x)
  | [],n=>by simp
  | x::r,n=>by
    obtain ⟨h1,h2⟩:=least_aux r (min n x)
    simp only [List.foldl_cons,List.mem_cons,forall_eq_or_imp]
    by_cases hx:n≤x
    · rw [Int.min_eq_left hx] at h1 h2 ⊢
      exact ⟨h1,h2.trans ⟨fun h=>⟨hx,h⟩,fun h=>h.2⟩⟩
    · rw [Int.min_eq_right (by omega)] at h1 h2 ⊢
      exact ⟨by omega,⟨fun h=>by omega,fun h=>absurd h.1 hx⟩⟩
theorem least_zero (xs:List Int):least xs=0 ↔ ∀ x ∈ xs,0≤x:=(least_aux xs 0).2
end Go.Idl
namespace Go.Idl
open Go
abbrev Z:IV:=.lst 0 [] true
def Few (xs:List Int):Prop:=xs.length≤7∧∀ x ∈ xs,0≤x∧x≤6
theorem valid_few {xs:List Int} (h:valid xs=true):Few xs:=by
  simp only [valid,Bool.and_eq_true,decide_eq_true_eq,List.all_eq_true] at h
  refine ⟨h.1,fun x hx=>?_⟩
  have:=h.2 x hx
  omega
theorem Few.small {xs:List Int} (h:Few xs):SmallSum xs:=by
  refine ⟨by have:=h.1;omega,fun k=>?_⟩
  have h1:=sumB (B:=6) (by omega) (xs:=xs.take k) (fun x hx=>h.2 x (List.mem_of_mem_take hx))
  have h2:(xs.take k).length≤7:=by have:=h.1;simp;omega
  omega
theorem Few.take {xs:List Int} (h:Few xs) (k:Nat):Few (xs.take k):=⟨by have:=h.1;simp;omega,fun x hx=>h.2 x (List.mem_of_mem_take hx)⟩
theorem Few.drop {xs:List Int} (h:Few xs) (k:Nat):Few (xs.drop k):=⟨by have:=h.1;simp;omega,fun x hx=>h.2 x (List.mem_of_mem_drop hx)⟩
theorem Few.fall {xs:List Int} (h:Few xs):Few (fall xs):=⟨by rw [fall_len];exact h.1,fun x hx=>h.2 x (fall_mem.1 hx)⟩
theorem Few.sum {xs:List Int} (h:Few xs):0≤xs.sum∧xs.sum≤42:=by
  have h1:=sumB (B:=6) (by omega) h.2
  have:=h.1
  omega
def mapR (n:Nat) (g:Nat→Int):List Int:=(List.range n).map g
theorem mapR_succ_set {n i:Nat} (g:Nat→Int) (h:i < n):(mapR i g++List.replicate (n - i) 0).set i (g i)=mapR (i+1) g++List.replicate (n - (i+1)) 0:=by
  have e:n - i=(n - (i+1))+1:=by omega
  rw [e,List.replicate_succ,List.set_append_right _ _ (by simp [mapR])]
  simp [mapR,List.range_succ]
@[simp] theorem ints_rep (n:Nat):List.replicate n [IV.sc (.int .i64 0)]=ints (List.replicate n 0):=by simp [ints]
theorem min_if (a b:Int):(if b < a then b else a)=min a b:=by split <;> omega
theorem min_if' (a b:Int):(if a < b then a else b)=min a b:=by split <;> omega
end Go.Idl
namespace Go.Idl
open Go
def bump (o:List Int) (i:Nat):List Int:=o.set i (o.getD i 0+1)
def dfold (o:List Int) (es:List (Int×Int)):List Int:=es.foldl (fun o e=>bump (bump o e.1.toNat) e.2.toNat) o
def degs (n:Nat) (es:List (Int×Int)):List Int:=dfold (List.replicate n 0) es
def EdgesIn (n:Nat) (es:List (Int×Int)):Prop:=∀ e ∈ es,0≤e.1∧e.1 < n∧0≤e.2∧e.2 < n
theorem bump_len (o:List Int) (i:Nat):(bump o i).length=o.length:=by simp [bump]
theorem dfold_len:∀ (es:List (Int×Int)) (o:List Int),(dfold o es).length=o.length
  | [],o=>rfl
  | e::es,o=>by simp only [dfold,List.foldl_cons];rw [← dfold,dfold_len es];simp [bump_len]
theorem prs_in {n:Nat} {es:List (Int×Int)} (h:es.Sublist (prs n)):EdgesIn n es:=by
  intro e he
  have:=prsF_mem n 0 e (h.mem he)
  omega
def Low (B:Int) (d:List Int):Prop:=∀ x ∈ d,-B≤x∧x≤B
theorem Low.set {B:Int} {d:List Int} (h:Low B d) {i:Nat} {x:Int} (hx:-B≤x∧x≤B):Low B (d.set i x):=by
  intro y hy
  rcases List.mem_or_eq_of_mem_set hy with hy | rfl
  · exact h y hy
  · exact hx
theorem Low.app {B:Int} {d:List Int} (h:Low B d) {x:Int} (hx:-B≤x∧x≤B):Low B (d++[x]):=by
  intro y hy
  rcases List.mem_append.1 hy with hy | hy
  · exact h y hy
  · simp at hy;subst hy;exact hx
theorem Low.mono {B C:Int} {d:List Int} (h:Low B d) (hc:B≤C):Low C d:=fun x hx=>by have:=h x hx;omega
theorem one2 (code:List Int) (c:Bool) (hc:CodeOk code) (cnt:Nat) (hn:cnt≤2000000) (xs:List Int) (hl:0 < xs.length∧xs.length≤1000) (bs:Boxes) (Ms:List Boxes) :
    ∃ (x:Int) (k:Nat),x ∈ xs∧k≤cnt+1∧limF tb zl139 [] [.bptr 0 0 0,.lst 1 (ints xs) false] ((R code c cnt::bs)::Ms)=some ⟨I x,[],(R code c k::bs)::Ms,[]⟩:=by
  obtain ⟨v,h,e⟩:=ev_one code c hc cnt hn xs false hl bs Ms
  exact ⟨v,cnt+1,h,by omega,ev_lim e⟩
end Go.Idl
namespace Go.Idl
open Go
def tab (t:List (List Int)):List (List IV):=t.map fun r=>[.lst 1 (ints r) false]
def oab (t:List (List Int)):List (List IV):=t.map fun r=>[.own 1 (ints r)]
abbrev TL (t:List (List Int)) (c:Bool:=false):IV:=.lst 1 (tab t) c
abbrev OT (t:List (List Int)):IV:=.own 1 (oab t)
@[simp] theorem tab_len (t:List (List Int)):(tab t).length=t.length:=by simp [tab]
@[simp] theorem oab_len (t:List (List Int)):(oab t).length=t.length:=by simp [oab]
@[simp] theorem oab_nil:oab []=[]:=rfl
@[simp] theorem tab_get? (t:List (List Int)) (i:Nat):(tab t)[i]? = t[i]?.map fun r=>[IV.lst 1 (ints r) false]:=by simp [tab]
@[simp] theorem tab_get (t:List (List Int)) (i:Nat) (h:i < (tab t).length):(tab t)[i]=[IV.lst 1 (ints (t[i]'(by simpa [tab] using h))) false]:=by simp [tab]
@[simp] theorem oab_get? (t:List (List Int)) (i:Nat):(oab t)[i]? = t[i]?.map fun r=>[IV.own 1 (ints r)]:=by simp [oab]
@[simp] theorem oab_get (t:List (List Int)) (i:Nat) (h:i < (oab t).length):(oab t)[i]=[IV.own 1 (ints (t[i]'(by simpa [oab] using h)))]:=by simp [oab]
@[simp] theorem oab_one (t:List (List Int)) (r:List Int):oab t++[[IV.own 1 (ints r)]]=oab (t++[r]):=by simp [oab]
@[simp] theorem oab_set (t:List (List Int)) (i:Nat) (r:List Int):(oab t).set i [IV.own 1 (ints r)]=oab (t.set i r):=by simp [oab,List.map_set]
@[simp] theorem oab_take (t:List (List Int)) (n:Nat):(oab t).take n=oab (t.take n):=by simp [oab,List.map_take]
@[simp] theorem frz_oab (t:List (List Int)):frzLL (oab t)=tab t:=by
  induction t with
  | nil=>rfl
  | cons x xs ih =>
    simp only [oab,tab,List.map_cons,frzLL,frzL,frzV] at *
    rw [ih]
    have:frzLL (ints x)=ints x:=by
      clear ih
      induction x with
      | nil=>rfl
      | cons y ys ih=>simp only [ints,List.map_cons,frzLL,frzL,frzV] at *;rw [ih]
    rw [this]
@[simp] theorem tab_all1 (t:List (List Int)):((tab t).all fun x=>x.all IV.plain1)=true:=by
  induction t with
  | nil=>rfl
  | cons x xs ih=>simp only [tab,List.map_cons,List.all_cons] at *;rw [ih];rfl
theorem drop_getA {α} {xs:List α} {i m:Nat} (h:i+(m+1)=xs.length):∃ h:i < xs.length,xs.drop i=xs[i]::xs.drop (i+1)∧xs[i] ∈ xs:=by
  have hi:i < xs.length:=by omega
  exact ⟨hi,List.drop_eq_getElem_cons hi,List.getElem_mem hi⟩
theorem drop_endA {α} {xs:List α} {i:Nat} (h:i+0=xs.length):xs[i]? = none∧xs.drop i=[]:=by
  have:i=xs.length:=by omega
  subst this
  simp
@[simp] theorem oab_noLst (t:List (List Int)):noLstLL (oab t)=true:=by
  induction t with
  | nil=>rfl
  | cons x xs ih =>
    simp only [oab,List.map_cons,noLstLL,noLstL,noLstV] at *
    rw [ih,ints_noLst];rfl
def g2 (t:List (List Int)) (a b:Nat):Int:=(t.getD a []).getD b 0
def rowOk (w:Nat) (r:List Int):Bool:=decide (r.length=w) && (decide (1≤(r.length:Int)) && decide ((r.length:Int)≤5)) && r.all fun x=>decide (0≤x) && decide (x≤1)
def mOk (t:List (List Int)):Bool:=(t.all (rowOk (t.getD 0 []).length)) && (decide (1≤(t.length:Int)) && decide ((t.length:Int)≤5))
theorem ev_ValidMatrix (t:List (List Int)) (c:Bool) (hl:t.length≤2000000) (hr:∀ r ∈ t,r.length≤2000000) :
    Ev tb zl27 [] [TL t c] [] ⟨Bo (mOk t),[],[],[]⟩:=by
  have loop:∀ (m i:Nat),i+m=t.length→wp tb (.loop z27l7) { T:=[(0,TL t c),(5,TL t c),(6,I t.length),(7,I i)],loc:=[],M:=[] }
      (fun ex st=>(ex=.exit 0∧((t.drop i).all (rowOk (t.getD 0 []).length))=true∧st={ T:=[(0,TL t c),(5,TL t c),(6,I t.length),(7,I t.length),(8,Bo false)],loc:=[],M:=[] }) ∨
        ex=.ret∧((t.drop i).all (rowOk (t.getD 0 []).length))=false∧st={ T:=[(2,Bo false)],loc:=[],M:=[] }):=by
    intro m
    induction m with
    | zero =>
      intro i hi
      obtain ⟨h1,h2⟩:=drop_endA hi
      have h3:i=t.length:=hi
      subst h3
      refine wp_loop ?_
      repeat (first|apply wp_as|apply wp_ss|refine wr (by simp;with_reducible rfl) ?_|refine wq (by simp;with_reducible rfl) ?_|refine wt (by simpa) ?_|refine wf (by simpa) ?_|refine xt (by simpa) ?_|refine xf (by simpa) ?_|apply wp_bs|apply wp_b|refine wp_sr ?_|refine wp_sx ?_|refine wp_ret' ?_|refine wp_skip' ?_|refine wp_exit' ?_)
      refine .inl ⟨rfl,by rw [h2];rfl,rfl⟩
    | succ m ih =>
      intro i hi
      obtain ⟨hi2,h2,h3⟩:=drop_getA hi
      have w2:IntKind.i64.wrap ((i:Int)+1)=((i+1:Nat):Int):=wrapS (by omega)
      have h0:0 < t.length:=by omega
      have e1:=ev_lim (ev_in (t[i].length:Int) 1 5)
      have e2:=ev_lim (ev_allIn t[i] false 0 1 (hr _ (List.getElem_mem hi2)))
      have hg:(t.getD 0 []).length=t[0].length:=by simp [List.getD_eq_getElem?_getD,List.getElem?_eq_getElem h0]
      rw [h2]
      by_cases ha:t[i].length=t[0].length
      rotate_left
      · refine wp_loop ?_
        repeat (first|apply wp_as|apply wp_ss|refine wr (by simp [hi2,h0,Int.ofNat_inj,ha];with_reducible rfl) ?_|refine wq (by simp [hi2,h0,Int.ofNat_inj,ha];with_reducible rfl) ?_|refine wt (by simpa [hi2,h0,Int.ofNat_inj,ha]) ?_|refine wf (by simpa [hi2,h0,Int.ofNat_inj,ha]) ?_|refine xt (by simpa [hi2,h0,Int.ofNat_inj,ha]) ?_|refine xf (by simpa [hi2,h0,Int.ofNat_inj,ha]) ?_|apply wp_bs|apply wp_b|refine wp_sr ?_|refine wp_sx ?_|refine wp_ret' ?_|refine wp_skip' ?_|refine wp_exit' ?_)
        refine .inr ⟨rfl,by simp only [List.all_cons,rowOk,hg,ha,decide_false,Bool.false_and],rfl⟩
      cases hb:(decide (1≤(t[i].length:Int)) && decide ((t[i].length:Int)≤5)) with
      | false =>
        rw [hb] at e1
        refine wp_loop ?_
        repeat (first|apply wp_as|apply wp_ss|refine wr (by simp [hi2,h0,Int.ofNat_inj,← ha,e1];with_reducible rfl) ?_|refine wq (by simp [hi2,h0,Int.ofNat_inj,← ha,e1];with_reducible rfl) ?_|refine wt (by simpa [hi2,h0,Int.ofNat_inj,← ha,e1]) ?_|refine wf (by simpa [hi2,h0,Int.ofNat_inj,← ha,e1]) ?_|refine xt (by simpa [hi2,h0,Int.ofNat_inj,← ha,e1]) ?_|refine xf (by simpa [hi2,h0,Int.ofNat_inj,← ha,e1]) ?_|apply wp_bs|apply wp_b|refine wp_sr ?_|refine wp_sx ?_|refine wp_ret' ?_|refine wp_skip' ?_|refine wp_exit' ?_)
        refine .inr ⟨rfl,by simp only [List.all_cons,rowOk,hb,Bool.false_and,Bool.and_false],rfl⟩
      | true =>
      rw [hb] at e1
      cases hc:(t[i].all fun x=>decide (0≤x) && decide (x≤1)) with
      | false =>
        rw [hc] at e2
        refine wp_loop ?_
        repeat (first|apply wp_as|apply wp_ss|refine wr (by simp [hi2,h0,Int.ofNat_inj,← ha,e1,e2];with_reducible rfl) ?_|refine wq (by simp [hi2,h0,Int.ofNat_inj,← ha,e1,e2];with_reducible rfl) ?_|refine wt (by simpa [hi2,h0,Int.ofNat_inj,← ha,e1,e2]) ?_|refine wf (by simpa [hi2,h0,Int.ofNat_inj,← ha,e1,e2]) ?_|refine xt (by simpa [hi2,h0,Int.ofNat_inj,← ha,e1,e2]) ?_|refine xf (by simpa [hi2,h0,Int.ofNat_inj,← ha,e1,e2]) ?_|apply wp_bs|apply wp_b|refine wp_sr ?_|refine wp_sx ?_|refine wp_ret' ?_|refine wp_skip' ?_|refine wp_exit' ?_)
        refine .inr ⟨rfl,by simp only [List.all_cons,rowOk,hc,Bool.false_and,Bool.and_false],rfl⟩
      | true =>
        rw [hc] at e2
        refine wp_loop ?_
        repeat (first|apply wp_as|apply wp_ss|refine wr (by simp [hi2,h0,Int.ofNat_inj,← ha,e1,e2,w2];with_reducible rfl) ?_|refine wq (by simp [hi2,h0,Int.ofNat_inj,← ha,e1,e2,w2];with_reducible rfl) ?_|refine wt (by simpa [hi2,h0,Int.ofNat_inj,← ha,e1,e2,w2]) ?_|refine wf (by simpa [hi2,h0,Int.ofNat_inj,← ha,e1,e2,w2]) ?_|refine xt (by simpa [hi2,h0,Int.ofNat_inj,← ha,e1,e2,w2]) ?_|refine xf (by simpa [hi2,h0,Int.ofNat_inj,← ha,e1,e2,w2]) ?_|apply wp_bs|apply wp_b|refine wp_sr ?_|refine wp_sx ?_|refine wp_ret' ?_|refine wp_skip' ?_|refine wp_exit' ?_)
        have:=ih (i+1) (by omega)
        have hro:rowOk (t.getD 0 []).length t[i]=true:=by simp only [rowOk,hg,← ha,hb,hc,decide_true,Bool.and_true]
        simp only [List.all_cons,hro,Bool.true_and] at this ⊢
        exact this
  have e1:=ev_lim (ev_in (t.length:Int) 1 5)
  refine call_of_wp zt27 rfl ?_
  repeat (first|apply wp_as|apply wp_ss|refine wr (by simp;with_reducible rfl) ?_|refine wq (by simp;with_reducible rfl) ?_|refine wt (by simpa) ?_|refine wf (by simpa) ?_|refine xt (by simpa) ?_|refine xf (by simpa) ?_|apply wp_bs|apply wp_b|refine wp_sr ?_|refine wp_sx ?_|refine wp_ret' ?_|refine wp_skip' ?_|refine wp_exit' ?_)
  refine wp_imp (loop t.length 0 (by simp)) ?_
  rintro ex st (⟨rfl,h,rfl⟩ | ⟨rfl,h,rfl⟩)
  · simp only [if_true]
    repeat (first|apply wp_as|apply wp_ss|refine wr (by simp [e1];with_reducible rfl) ?_|refine wq (by simp [e1];with_reducible rfl) ?_|refine wt (by simpa [e1]) ?_|refine wf (by simpa [e1]) ?_|refine xt (by simpa [e1]) ?_|refine xf (by simpa [e1]) ?_|apply wp_bs|apply wp_b|refine wp_sr ?_|refine wp_sx ?_|refine wp_ret' ?_|refine wp_skip' ?_|refine wp_exit' ?_)
    simp only [List.drop_zero] at h
    simp only [mOk,h]
    simp [zi27]
  · simp only [List.drop_zero] at h
    simp only [mOk,h]
    simp [zi27]
end Go.Idl
namespace Go.Idl
open Go
def Sq (t:List (List Int)):Prop:=∀ r ∈ t,r.length=t.length∧∀ x ∈ r,0≤x∧x≤1
def tAt (t:List (List Int)) (a b:Nat):Prop:=if a=b then g2 t a b=0 else g2 t a b+g2 t b a=1
def Tour (t:List (List Int)):Prop:=(1≤t.length∧t.length≤5)∧Sq t∧∀ a b:Nat,a < t.length→b < t.length→tAt t a b
theorem g2_eq {t:List (List Int)} {a b:Nat} (ha:a < t.length) (hb:b < t[a].length):g2 t a b=t[a][b]:=by
  simp [g2,List.getD_eq_getElem?_getD,List.getElem?_eq_getElem ha,List.getElem?_eq_getElem hb]
end Go.Idl
namespace Go.Idl
open Go
theorem ev_least (xs:List Int) (c:Bool) (hl:xs.length≤2000000):Ev tb zl360 [] [L xs c] [] ⟨I (least xs),[],[],[]⟩:=by
  have loop:∀ (m i:Nat),i+m=xs.length→wp tb (.loop z360l6) { T:=[(0,L xs c),(3,I (least (xs.take i))),(4,I i)],loc:=[],M:=[] }
      (fun ex st=>ex=.exit 0∧st={ T:=[(0,L xs c),(3,I (least xs)),(4,I xs.length),(8,Bo false)],loc:=[],M:=[] }):=by
    intro m
    induction m with
    | zero =>
      intro i hi
      have h3:i=xs.length:=hi
      subst h3
      refine wp_loop ?_
      repeat (first|apply wp_as|apply wp_ss|refine wr (by simp;with_reducible rfl) ?_|refine wq (by simp;with_reducible rfl) ?_|refine wt (by simpa) ?_|refine wf (by simpa) ?_|refine xt (by simpa) ?_|refine xf (by simpa) ?_|apply wp_bs|apply wp_b|refine wp_sr ?_|refine wp_sx ?_|refine wp_ret' ?_|refine wp_skip' ?_|refine wp_exit' ?_)
      simp
    | succ m ih =>
      intro i hi
      have hi2:i < xs.length:=by omega
      have w1:IntKind.i64.wrap ((i:Int)+1)=((i+1:Nat):Int):=wrapS (by omega)
      have hn:least (xs.take (i+1))=min (least (xs.take i)) xs[i]:=by
        rw [List.take_succ_eq_append_getElem hi2,least,List.foldl_append];rfl
      have:=ih (i+1) (by omega)
      rw [hn] at this
      refine wp_loop ?_
      repeat (first|apply wp_as|apply wp_ss|refine wr (by simp [hi2,w1,min_if];with_reducible rfl) ?_|refine wq (by simp [hi2,w1,min_if];with_reducible rfl) ?_|refine wt (by simpa [hi2,w1,min_if]) ?_|refine wf (by simpa [hi2,w1,min_if]) ?_|refine xt (by simpa [hi2,w1,min_if]) ?_|refine xf (by simpa [hi2,w1,min_if]) ?_|apply wp_bs|apply wp_b|refine wp_sr ?_|refine wp_sx ?_|refine wp_ret' ?_|refine wp_skip' ?_|refine wp_exit' ?_)
      exact this
  refine call_of_wp zt360 rfl ?_
  repeat (first|apply wp_as|apply wp_ss|refine wr (by simp;with_reducible rfl) ?_|refine wq (by simp;with_reducible rfl) ?_|refine wt (by simpa) ?_|refine wf (by simpa) ?_|refine xt (by simpa) ?_|refine xf (by simpa) ?_|apply wp_bs|apply wp_b|refine wp_sr ?_|refine wp_sx ?_|refine wp_ret' ?_|refine wp_skip' ?_|refine wp_exit' ?_)
  refine wp_imp (loop xs.length 0 (by simp)) ?_
  rintro ex st ⟨rfl,rfl⟩
  simp only [if_true]
  repeat (first|apply wp_as|apply wp_ss|refine wr (by simp;with_reducible rfl) ?_|refine wq (by simp;with_reducible rfl) ?_|refine wt (by simpa) ?_|refine wf (by simpa) ?_|refine xt (by simpa) ?_|refine xf (by simpa) ?_|apply wp_bs|apply wp_b|refine wp_sr ?_|refine wp_sx ?_|refine wp_ret' ?_|refine wp_skip' ?_|refine wp_exit' ?_)
  simp [zi360]
end Go.Idl
namespace Go.Idl
open Go
def Small2 (t:List (List Int)):Prop:=t.length≤1000∧∀ r ∈ t,r.length≤1000∧∀ x ∈ r,-1000≤x∧x≤1000
end Go.Idl
namespace Go.Idl
open Go
def least1:Int→List Int→Int
  | m,[]=>m
  | m,x::r=>least1 (min m x) r
theorem ev_Min (x:Int) (r:List Int) (c:Bool) (hl:r.length≤2000000) :
    Ev tb zl75 [] [L (x::r) c] [] ⟨I (least1 x r),[],[],[]⟩:=by
  have loop:∀ (m i:Nat) (y:Int),i+m=r.length→wp tb (.loop z75l8) { T:=[(0,L (x::r) c),(3,I y),(4,I (i+1))],loc:=[],M:=[] }
      (fun ex st=>ex=.exit 0∧st={ T:=[(0,L (x::r) c),(3,I (least1 y (r.drop i))),(4,I (r.length+1)),(15,Bo false)],loc:=[],M:=[] }):=by
    intro m
    induction m with
    | zero =>
      intro i y hi
      obtain ⟨h1,h2⟩:=drop_end hi
      have h3:i=r.length:=hi
      subst h3
      refine wp_loop ?_
      repeat (first|apply wp_as|apply wp_ss|refine wr (by simp;with_reducible rfl) ?_|refine wq (by simp;with_reducible rfl) ?_|refine wt (by simpa) ?_|refine wf (by simpa) ?_|refine xt (by simpa) ?_|refine xf (by simpa) ?_|apply wp_bs|apply wp_b|refine wp_sr ?_|refine wp_sx ?_|refine wp_ret' ?_|refine wp_skip' ?_|refine wp_exit' ?_)
      exact ⟨rfl,by simp [least1]⟩
    | succ m ih =>
      intro i y hi
      obtain ⟨hi2,h2,h3⟩:=drop_get hi
      have w2:IntKind.i64.wrap ((i:Int)+1+1)=(i:Int)+1+1:=wrap64 (by omega) (by omega)
      have h4:(i:Int) < r.length:=by omega
      rw [h2]
      refine wp_loop ?_
      repeat (first|apply wp_as|apply wp_ss|refine wr (by simp [hi2,w2,h4];with_reducible rfl) ?_|refine wq (by simp [hi2,w2,h4];with_reducible rfl) ?_|refine wt (by simpa [hi2,w2,h4]) ?_|refine wf (by simpa [hi2,w2,h4]) ?_|refine xt (by simpa [hi2,w2,h4]) ?_|refine xf (by simpa [hi2,w2,h4]) ?_|apply wp_bs|apply wp_b|refine wp_sr ?_|refine wp_sx ?_|refine wp_ret' ?_|refine wp_skip' ?_|refine wp_exit' ?_)
      have:=ih (i+1) (min y r[i]) (by omega)
      simp only [min_if,min_if',least1] at this ⊢
      exact this
  have h0:¬ ((r.length:Int)+1 < 1):=by omega
  refine call_of_wp zt75 rfl ?_
  repeat (first|apply wp_as|apply wp_ss|refine wr (by simp [h0];with_reducible rfl) ?_|refine wq (by simp [h0];with_reducible rfl) ?_|refine wt (by simpa [h0]) ?_|refine wf (by simpa [h0]) ?_|refine xt (by simpa [h0]) ?_|refine xf (by simpa [h0]) ?_|apply wp_bs|apply wp_b|refine wp_sr ?_|refine wp_sx ?_|refine wp_ret' ?_|refine wp_skip' ?_|refine wp_exit' ?_)
  have:=loop r.length 0 x (by omega)
  simp at this
  refine wp_imp this ?_
  rintro ex st ⟨rfl,rfl⟩
  simp only [if_true]
  repeat (first|apply wp_as|apply wp_ss|refine wr (by simp;with_reducible rfl) ?_|refine wq (by simp;with_reducible rfl) ?_|refine wt (by simpa) ?_|refine wf (by simpa) ?_|refine xt (by simpa) ?_|refine xf (by simpa) ?_|apply wp_bs|apply wp_b|refine wp_sr ?_|refine wp_sx ?_|refine wp_ret' ?_|refine wp_skip' ?_|refine wp_exit' ?_)
  simp [zi75]
theorem least1_ge:∀ (r:List Int) (m b:Int),(b≤least1 m r) ↔ b≤m∧∀ x ∈ r,b≤x
  | [],m,b=>by simp [least1]
  | x::r,m,b=>by
    rw [least1,least1_ge r]
    constructor
    · rintro ⟨h1,h2⟩
      exact ⟨by omega,by intro y hy;rcases List.mem_cons.1 hy with rfl | hy;omega;exact h2 y hy⟩
    · rintro ⟨h1,h2⟩
      have:=h2 x (by simp)
      exact ⟨by omega,fun y hy=>h2 y (by simp [hy])⟩
def asc0 (s:List Int):List Int:=(fall s).reverse
def overT (s:List Int) (i:Nat):Int:=((asc0 s).take (i+1)).sum - ((i:Int)+1) * i / 2
def over (s:List Int):List Int:=mapR s.length (overT s)
end Go.Idl
namespace Go.Idl
open Go
def scr (t:List (List Int)) (j:Nat):Int:=(t.getD j []).sum
def scores (t:List (List Int)):List Int:=mapR t.length (scr t)
theorem sum01 (r:List Int) (h:∀ x ∈ r,0≤x∧x≤1):0≤r.sum∧r.sum≤r.length:=by
  induction r with
  | nil=>simp
  | cons x xs ih =>
    have h1:=h x (by simp)
    have h2:=ih fun y hy=>h y (by simp [hy])
    simp only [List.sum_cons,List.length_cons];omega
theorem set_bound {B:List Int} {k:Nat} {b v:Int} (h:∀ x ∈ B,0≤x∧x≤b) (hv:0≤v∧v≤b+1) (hb:0≤b):∀ x ∈ B.set k v,0≤x∧x≤b+1:=by
  intro x hx
  rcases List.mem_or_eq_of_mem_set hx with hx | rfl
  · have:=h x hx;omega
  · exact hv
end Go.Idl
namespace Go.Idl
open Go
def sideOk (n:Int):Bool:=decide (1≤n) && decide (n≤5)
def inAll (r:List Int) (n:Int):Bool:=r.all fun x=>decide (0≤x) && decide (x≤n)
def vMar (r c:List Int):Bool:=sideOk r.length && (sideOk c.length && (inAll r c.length && inAll c r.length))
theorem ev_ValidMargins (r c:List Int) (k l:Bool) (hr:r.length≤2000000) (hc:c.length≤2000000) :
    Ev tb zl200 [] [L r k,L c l] [] ⟨Bo (vMar r c),[],[],[]⟩:=by
  have e1:=ev_lim (ev_in (r.length:Int) 1 5)
  have e2:=ev_lim (ev_in (c.length:Int) 1 5)
  have e3:=ev_lim (ev_allIn r k 0 (c.length:Int) hr)
  have e4:=ev_lim (ev_allIn c l 0 (r.length:Int) hc)
  unfold vMar inAll sideOk
  generalize (decide (1≤(r.length:Int)) && decide ((r.length:Int)≤5))=b1 at *
  generalize (decide (1≤(c.length:Int)) && decide ((c.length:Int)≤5))=b2 at *
  generalize (r.all fun x=>decide (0≤x) && decide (x≤(c.length:Int)))=b3 at *
  generalize (c.all fun x=>decide (0≤x) && decide (x≤(r.length:Int)))=b4 at *
  cases b1 with
  | false =>
    refine call_of_wp zt200 rfl ?_
    repeat (first|apply wp_as|apply wp_ss|refine wr (by simp [e1];with_reducible rfl) ?_|refine wq (by simp [e1];with_reducible rfl) ?_|refine wt (by simpa [e1]) ?_|refine wf (by simpa [e1]) ?_|refine xt (by simpa [e1]) ?_|refine xf (by simpa [e1]) ?_|apply wp_bs|apply wp_b|refine wp_sr ?_|refine wp_sx ?_|refine wp_ret' ?_|refine wp_skip' ?_|refine wp_exit' ?_)
    simp [zi200]
  | true =>
  cases b2 with
  | false =>
    refine call_of_wp zt200 rfl ?_
    repeat (first|apply wp_as|apply wp_ss|refine wr (by simp [e1,e2];with_reducible rfl) ?_|refine wq (by simp [e1,e2];with_reducible rfl) ?_|refine wt (by simpa [e1,e2]) ?_|refine wf (by simpa [e1,e2]) ?_|refine xt (by simpa [e1,e2]) ?_|refine xf (by simpa [e1,e2]) ?_|apply wp_bs|apply wp_b|refine wp_sr ?_|refine wp_sx ?_|refine wp_ret' ?_|refine wp_skip' ?_|refine wp_exit' ?_)
    simp [zi200]
  | true =>
  cases b3 with
  | false =>
    refine call_of_wp zt200 rfl ?_
    repeat (first|apply wp_as|apply wp_ss|refine wr (by simp [e1,e2,e3];with_reducible rfl) ?_|refine wq (by simp [e1,e2,e3];with_reducible rfl) ?_|refine wt (by simpa [e1,e2,e3]) ?_|refine wf (by simpa [e1,e2,e3]) ?_|refine xt (by simpa [e1,e2,e3]) ?_|refine xf (by simpa [e1,e2,e3]) ?_|apply wp_bs|apply wp_b|refine wp_sr ?_|refine wp_sx ?_|refine wp_ret' ?_|refine wp_skip' ?_|refine wp_exit' ?_)
    simp [zi200]
  | true =>
    refine call_of_wp zt200 rfl ?_
    repeat (first|apply wp_as|apply wp_ss|refine wr (by simp [e1,e2,e3,e4];with_reducible rfl) ?_|refine wq (by simp [e1,e2,e3,e4];with_reducible rfl) ?_|refine wt (by simpa [e1,e2,e3,e4]) ?_|refine wf (by simpa [e1,e2,e3,e4]) ?_|refine xt (by simpa [e1,e2,e3,e4]) ?_|refine xf (by simpa [e1,e2,e3,e4]) ?_|apply wp_bs|apply wp_b|refine wp_sr ?_|refine wp_sx ?_|refine wp_ret' ?_|refine wp_skip' ?_|refine wp_exit' ?_)
    simp [zi200]
theorem vm_r (r c:List Int) (k l:Bool) (hr:r.length≤2000000):∀ (m i:Nat),i+m=r.length →
    wp tb (.loop z387l6) { T:=[(0,L r k),(1,L c l),(5,I i)],loc:=[],M:=[] }
      (fun ex st=>(ex=.exit 0∧inAll (r.drop i) c.length=true∧st={ T:=[(0,L r k),(1,L c l),(5,I r.length),(10,Bo false)],loc:=[],M:=[] }) ∨
        ex=.ret∧inAll (r.drop i) c.length=false∧st={ T:=[(4,Bo false)],loc:=[],M:=[] }):=by
  intro m
  induction m with
  | zero =>
    intro i hi
    obtain ⟨h1,h2⟩:=drop_end hi
    have h3:i=r.length:=hi
    subst h3
    refine wp_loop ?_
    repeat (first|apply wp_as|apply wp_ss|refine wr (by simp;with_reducible rfl) ?_|refine wq (by simp;with_reducible rfl) ?_|refine wt (by simpa) ?_|refine wf (by simpa) ?_|refine xt (by simpa) ?_|refine xf (by simpa) ?_|apply wp_bs|apply wp_b|refine wp_sr ?_|refine wp_sx ?_|refine wp_ret' ?_|refine wp_skip' ?_|refine wp_exit' ?_)
    exact .inl ⟨rfl,by rw [h2];rfl,rfl⟩
  | succ m ih =>
    intro i hi
    obtain ⟨hi2,h2,h3⟩:=drop_get hi
    have w2:IntKind.i64.wrap ((i:Int)+1)=((i+1:Nat):Int):=wrapS (by omega)
    have e1:=ev_lim (ev_inRange r[i] 0 (c.length:Int))
    rw [h2]
    cases hp:(decide (0≤r[i]) && decide (r[i]≤(c.length:Int))) with
    | false =>
      rw [hp] at e1
      refine wp_loop ?_
      repeat (first|apply wp_as|apply wp_ss|refine wr (by simp [hi2,e1];with_reducible rfl) ?_|refine wq (by simp [hi2,e1];with_reducible rfl) ?_|refine wt (by simpa [hi2,e1]) ?_|refine wf (by simpa [hi2,e1]) ?_|refine xt (by simpa [hi2,e1]) ?_|refine xf (by simpa [hi2,e1]) ?_|apply wp_bs|apply wp_b|refine wp_sr ?_|refine wp_sx ?_|refine wp_ret' ?_|refine wp_skip' ?_|refine wp_exit' ?_)
      exact .inr ⟨rfl,by simp only [inAll,List.all_cons,hp,Bool.false_and],rfl⟩
    | true =>
      rw [hp] at e1
      refine wp_loop ?_
      repeat (first|apply wp_as|apply wp_ss|refine wr (by simp [hi2,e1,w2];with_reducible rfl) ?_|refine wq (by simp [hi2,e1,w2];with_reducible rfl) ?_|refine wt (by simpa [hi2,e1,w2]) ?_|refine wf (by simpa [hi2,e1,w2]) ?_|refine xt (by simpa [hi2,e1,w2]) ?_|refine xf (by simpa [hi2,e1,w2]) ?_|apply wp_bs|apply wp_b|refine wp_sr ?_|refine wp_sx ?_|refine wp_ret' ?_|refine wp_skip' ?_|refine wp_exit' ?_)
      have:=ih (i+1) (by omega)
      simp only [inAll,List.all_cons,hp,Bool.true_and] at this ⊢
      exact this
theorem vm_c (r c:List Int) (k l:Bool) (hc:c.length≤2000000):∀ (m i:Nat),i+m=c.length →
    wp tb (.loop z387l12) { T:=[(0,L r k),(1,L c l),(6,I i)],loc:=[],M:=[] }
      (fun ex st=>(ex=.exit 2∧inAll (c.drop i) r.length=true∧st={ T:=[(0,L r k),(1,L c l),(6,I c.length),(24,Bo false)],loc:=[],M:=[] }) ∨
        ex=.ret∧inAll (c.drop i) r.length=false∧st={ T:=[(4,Bo false)],loc:=[],M:=[] }):=by
  intro m
  induction m with
  | zero =>
    intro i hi
    obtain ⟨h1,h2⟩:=drop_end hi
    have h3:i=c.length:=hi
    subst h3
    refine wp_loop ?_
    repeat (first|apply wp_as|apply wp_ss|refine wr (by simp;with_reducible rfl) ?_|refine wq (by simp;with_reducible rfl) ?_|refine wt (by simpa) ?_|refine wf (by simpa) ?_|refine xt (by simpa) ?_|refine xf (by simpa) ?_|apply wp_bs|apply wp_b|refine wp_sr ?_|refine wp_sx ?_|refine wp_ret' ?_|refine wp_skip' ?_|refine wp_exit' ?_)
    exact .inl ⟨rfl,by rw [h2];rfl,rfl⟩
  | succ m ih =>
    intro i hi
    obtain ⟨hi2,h2,h3⟩:=drop_get hi
    have w2:IntKind.i64.wrap ((i:Int)+1)=((i+1:Nat):Int):=wrapS (by omega)
    have e1:=ev_lim (ev_inRange c[i] 0 (r.length:Int))
    rw [h2]
    cases hp:(decide (0≤c[i]) && decide (c[i]≤(r.length:Int))) with
    | false =>
      rw [hp] at e1
      refine wp_loop ?_
      repeat (first|apply wp_as|apply wp_ss|refine wr (by simp [hi2,e1];with_reducible rfl) ?_|refine wq (by simp [hi2,e1];with_reducible rfl) ?_|refine wt (by simpa [hi2,e1]) ?_|refine wf (by simpa [hi2,e1]) ?_|refine xt (by simpa [hi2,e1]) ?_|refine xf (by simpa [hi2,e1]) ?_|apply wp_bs|apply wp_b|refine wp_sr ?_|refine wp_sx ?_|refine wp_ret' ?_|refine wp_skip' ?_|refine wp_exit' ?_)
      exact .inr ⟨rfl,by simp only [inAll,List.all_cons,hp,Bool.false_and],rfl⟩
    | true =>
      rw [hp] at e1
      refine wp_loop ?_
      repeat (first|apply wp_as|apply wp_ss|refine wr (by simp [hi2,e1,w2];with_reducible rfl) ?_|refine wq (by simp [hi2,e1,w2];with_reducible rfl) ?_|refine wt (by simpa [hi2,e1,w2]) ?_|refine wf (by simpa [hi2,e1,w2]) ?_|refine xt (by simpa [hi2,e1,w2]) ?_|refine xf (by simpa [hi2,e1,w2]) ?_|apply wp_bs|apply wp_b|refine wp_sr ?_|refine wp_sx ?_|refine wp_ret' ?_|refine wp_skip' ?_|refine wp_exit' ?_)
      have:=ih (i+1) (by omega)
      simp only [inAll,List.all_cons,hp,Bool.true_and] at this ⊢
      exact this
theorem ev_validMargins (r c:List Int) (k l:Bool) (hr:r.length≤2000000) (hc:c.length≤2000000) :
    Ev tb zl387 [] [L r k,L c l] [] ⟨Bo (vMar r c),[],[],[]⟩:=by
  have e1:=ev_lim (ev_inRange (r.length:Int) 1 5)
  have e2:=ev_lim (ev_inRange (c.length:Int) 1 5)
  have hv:vMar r c=(sideOk r.length && (sideOk c.length && (inAll r c.length && inAll c r.length))):=rfl
  have s1:sideOk r.length=(decide (1≤(r.length:Int)) && decide ((r.length:Int)≤5)):=rfl
  have s2:sideOk c.length=(decide (1≤(c.length:Int)) && decide ((c.length:Int)≤5)):=rfl
  rw [← s1] at e1
  rw [← s2] at e2
  refine call_of_wp zt387 rfl ?_
  repeat (first|apply wp_as|apply wp_ss|refine wr (by simp;with_reducible rfl) ?_|refine wq (by simp;with_reducible rfl) ?_|refine wt (by simpa) ?_|refine wf (by simpa) ?_|refine xt (by simpa) ?_|refine xf (by simpa) ?_|apply wp_bs|apply wp_b|refine wp_sr ?_|refine wp_sx ?_|refine wp_ret' ?_|refine wp_skip' ?_|refine wp_exit' ?_)
  refine wp_imp (vm_r r c k l hr r.length 0 (by omega)) ?_
  rintro ex st (⟨rfl,h,rfl⟩ | ⟨rfl,h,rfl⟩)
  rotate_left
  · simp only [List.drop_zero] at h
    rw [hv,h]
    simp [zi387]
  simp only [if_true]
  simp only [List.drop_zero] at h
  repeat (first|apply wp_as|apply wp_ss|refine wr (by simp;with_reducible rfl) ?_|refine wq (by simp;with_reducible rfl) ?_|refine wt (by simpa) ?_|refine wf (by simpa) ?_|refine xt (by simpa) ?_|refine xf (by simpa) ?_|apply wp_bs|apply wp_b|refine wp_sr ?_|refine wp_sx ?_|refine wp_ret' ?_|refine wp_skip' ?_|refine wp_exit' ?_)
  refine wp_imp (vm_c r c k l hc c.length 0 (by omega)) ?_
  rintro ex st (⟨rfl,h',rfl⟩ | ⟨rfl,h',rfl⟩)
  rotate_left
  · simp only [List.drop_zero] at h'
    rw [hv,h']
    simp [zi387]
  simp only [if_true]
  simp only [List.drop_zero] at h'
  rw [hv,h,h']
  generalize sideOk r.length=b1 at *
  generalize sideOk c.length=b2 at *
  cases b1 with
  | false =>
    repeat (first|apply wp_as|apply wp_ss|refine wr (by simp [e1];with_reducible rfl) ?_|refine wq (by simp [e1];with_reducible rfl) ?_|refine wt (by simpa [e1]) ?_|refine wf (by simpa [e1]) ?_|refine xt (by simpa [e1]) ?_|refine xf (by simpa [e1]) ?_|apply wp_bs|apply wp_b|refine wp_sr ?_|refine wp_sx ?_|refine wp_ret' ?_|refine wp_skip' ?_|refine wp_exit' ?_)
    simp [zi387]
  | true =>
    repeat (first|apply wp_as|apply wp_ss|refine wr (by simp [e1,e2];with_reducible rfl) ?_|refine wq (by simp [e1,e2];with_reducible rfl) ?_|refine wt (by simpa [e1,e2]) ?_|refine wf (by simpa [e1,e2]) ?_|refine xt (by simpa [e1,e2]) ?_|refine xf (by simpa [e1,e2]) ?_|apply wp_bs|apply wp_b|refine wp_sr ?_|refine wp_sx ?_|refine wp_ret' ?_|refine wp_skip' ?_|refine wp_exit' ?_)
    simp [zi387]
end Go.Idl
namespace Go.Idl
open Go
@[simp] theorem un_neg (n:Int):Op.unary .neg (.int .i64 n)=.pure (.int .i64 (IntKind.i64.wrap (-n))):=by
  rw [← Int.zero_sub];rfl
def gs (r c:List Int) (i:Nat):Int:=-((fall r).take (i+1)).sum+(c.map fun x:Int=>min x ((i:Int)+1)).sum
def gale (r c:List Int):List Int:=mapR r.length (gs r c)
theorem vMar_few {r c:List Int} (h:vMar r c=true):Few r∧Few c∧(1≤r.length∧r.length≤5)∧(1≤c.length∧c.length≤5):=by
  simp only [vMar,sideOk,inAll,Bool.and_eq_true,decide_eq_true_eq,List.all_eq_true] at h
  obtain ⟨h1,h2,h3,h4⟩:=h
  refine ⟨⟨by omega,fun x hx=>by have:=h3 x hx;omega⟩,⟨by omega,fun x hx=>by have:=h4 x hx;omega⟩,by omega,by omega⟩
theorem mins_bound (i:Nat):∀ (c:List Int),(∀ x ∈ c,0≤x∧x≤6)→0≤(c.map fun x:Int=>min x ((i:Int)+1)).sum∧(c.map fun x:Int=>min x ((i:Int)+1)).sum≤6 * c.length
  | [],_=>by simp
  | x::r,h=>by
    have h1:=h x (by simp)
    have h2:=mins_bound i r fun y hy=>h y (by simp [hy])
    simp only [List.map_cons,List.sum_cons,List.length_cons];omega
theorem gl_in (r c:List Int) (l:Bool) (n i:Nat) (hi:i < n) (hn:n≤7) (hc:Few c) (v0:Int) (hv:-1000≤v0∧v0≤1000) (S:IV):∀ (m k:Nat) (A:List Int),k+m=c.length→A.length=n →
    (∀ h:i < A.length,A[i]=v0+((c.take k).map fun x:Int=>min x ((i:Int)+1)).sum) →
    wp tb (.loop z165l14) { T:=[(1,L c l),(5,O r),(6,O A),(7,I i),(20,I n),(21,I i),(33,L c l),(34,I c.length),(35,I k)],loc:=[],M:=[] }
      (fun ex st=>ex=.exit 2∧st={ T:=[(1,L c l),(5,O r),(6,O (A.set i (v0+(c.map fun x:Int=>min x ((i:Int)+1)).sum))),(7,I i),(20,I n),(21,I i),(33,L c l),(34,I c.length),(35,I c.length),(36,Bo false)],loc:=[],M:=[] }):=by
  intro m
  induction m with
  | zero =>
    intro k A hk hA hAi
    have h3:k=c.length:=hk
    subst h3
    have hi':i < A.length:=by omega
    have hs:A.set i (v0+(c.map fun x:Int=>min x ((i:Int)+1)).sum)=A:=by
      have:=hAi hi'
      rw [List.take_of_length_le (by omega)] at this
      rw [← this];simp
    refine wp_loop ?_
    repeat (first|apply wp_as|apply wp_ss|refine wr (by simp;with_reducible rfl) ?_|refine wq (by simp;with_reducible rfl) ?_|refine wt (by simpa) ?_|refine wf (by simpa) ?_|refine xt (by simpa) ?_|refine xf (by simpa) ?_|apply wp_bs|apply wp_b|refine wp_sr ?_|refine wp_sx ?_|refine wp_ret' ?_|refine wp_skip' ?_|refine wp_exit' ?_)
    exact ⟨rfl,by rw [hs]⟩
  | succ m ih =>
    intro k A hk hA hAi
    obtain ⟨hk2,h2,h3⟩:=drop_get hk
    have hiA:i < A.length:=by omega
    have hAi:=hAi hiA
    have hcl:=hc.1
    have w2:IntKind.i64.wrap ((k:Int)+1)=((k+1:Nat):Int):=wrapS (by omega)
    have w3:IntKind.i64.wrap ((i:Int)+1)=(i:Int)+1:=wrap64 (by omega) (by omega)
    have hb:=mins_bound i (c.take (k+1)) (fun x hx=>hc.2 x (List.mem_of_mem_take hx))
    have hbl:(c.take (k+1)).length≤7:=by simp;omega
    have ht:((c.take (k+1)).map fun x:Int=>min x ((i:Int)+1)).sum=((c.take k).map fun x:Int=>min x ((i:Int)+1)).sum+min c[k] ((i:Int)+1):=by
      rw [List.take_succ_eq_append_getElem hk2]
      simp only [List.map_append,List.sum_append,List.map_cons,List.map_nil,List.sum_cons,List.sum_nil];omega
    have hg:=fun (A':List Int) h1 h2=>ih (k+1) A' (by omega) h1 h2
    generalize ((c.take (k+1)).map fun x:Int=>min x ((i:Int)+1)).sum=s1 at *
    generalize ((c.take k).map fun x:Int=>min x ((i:Int)+1)).sum=s0 at *
    have w1:IntKind.i64.wrap (v0+s0+min c[k] ((i:Int)+1))=v0+s1:=by rw [show v0+s0+min c[k] ((i:Int)+1)=v0+s1 by omega];exact wrap64 (by omega) (by omega)
    have hx1:i < n:=hi
    refine wp_loop ?_
    repeat (first|apply wp_as|apply wp_ss|refine wr (by simp [hk2,hiA,hA,hx1,hAi,w1,w2,w3,min_if,min_if'];with_reducible rfl) ?_|refine wq (by simp [hk2,hiA,hA,hx1,hAi,w1,w2,w3,min_if,min_if'];with_reducible rfl) ?_|refine wt (by simpa [hk2,hiA,hA,hx1,hAi,w1,w2,w3,min_if,min_if']) ?_|refine wf (by simpa [hk2,hiA,hA,hx1,hAi,w1,w2,w3,min_if,min_if']) ?_|refine xt (by simpa [hk2,hiA,hA,hx1,hAi,w1,w2,w3,min_if,min_if']) ?_|refine xf (by simpa [hk2,hiA,hA,hx1,hAi,w1,w2,w3,min_if,min_if']) ?_|apply wp_bs|apply wp_b|refine wp_sr ?_|refine wp_sx ?_|refine wp_ret' ?_|refine wp_skip' ?_|refine wp_exit' ?_)
    refine wp_imp (hg (A.set i (v0+s1)) (by simp [hA]) (by intro h;simp)) ?_
    rintro ex st ⟨rfl,rfl⟩
    exact ⟨rfl,by simp⟩
theorem gl_out (r c:List Int) (l:Bool) (hr:Few r) (hc:Few c):∀ (m i:Nat),i+m=r.length →
    wp tb (.loop z165l16) { T:=[(1,L c l),(5,O (fall r)),(6,O (mapR i (gs r c)++List.replicate (r.length - i) 0)),(20,I r.length),(21,I i)],loc:=[],M:=[] }
      (fun ex st=>ex=.exit 0∧st={ T:=[(1,L c l),(5,O (fall r)),(6,O (gale r c)),(20,I r.length),(21,I r.length),(22,Bo false)],loc:=[],M:=[] }):=by
  intro m
  induction m with
  | zero =>
    intro i hi
    have h3:i=r.length:=hi
    subst h3
    refine wp_loop ?_
    repeat (first|apply wp_as|apply wp_ss|refine wr (by simp;with_reducible rfl) ?_|refine wq (by simp;with_reducible rfl) ?_|refine wt (by simpa) ?_|refine wf (by simpa) ?_|refine xt (by simpa) ?_|refine xf (by simpa) ?_|apply wp_bs|apply wp_b|refine wp_sr ?_|refine wp_sx ?_|refine wp_ret' ?_|refine wp_skip' ?_|refine wp_exit' ?_)
    exact ⟨rfl,by simp [gale]⟩
  | succ m ih =>
    intro i hi
    have hi2:i < r.length:=by omega
    have hrl:=hr.1
    have w2:IntKind.i64.wrap ((i:Int)+1)=(i:Int)+1:=wrap64 (by omega) (by omega)
    have hfl:(fall r).length=r.length:=fall_len r
    have hft:=hr.fall.take (i+1)
    have hsum:=hft.sum
    have e3:=fun cc=>ev_lim (ev_sum ((fall r).take (i+1)) cc hft.small)
    have w3:IntKind.i64.wrap (-((fall r).take (i+1)).sum)=-((fall r).take (i+1)).sum:=wrap64 (by omega) (by omega)
    have h5:i+1≤r.length:=by omega
    have hA:(mapR i (gs r c)++List.replicate (r.length - i) 0).length=r.length:=by simp [mapR];omega
    have hs:=mapR_succ_set (gs r c) hi2
    have hin:=gl_in (fall r) c l r.length i hi2 hrl hc (-((fall r).take (i+1)).sum) (by omega) Z c.length 0
      ((mapR i (gs r c)++List.replicate (r.length - i) 0).set i (-((fall r).take (i+1)).sum)) (by omega) (by rw [List.length_set];exact hA) (by intro h;simp)
    rw [show ((0:Nat):Int)=0 from rfl] at hin
    simp only [List.set_set] at hin
    have hgs:-((fall r).take (i+1)).sum+(c.map fun x:Int=>min x ((i:Int)+1)).sum=gs r c i:=rfl
    rw [hgs] at hin
    generalize (mapR i (gs r c)++List.replicate (r.length - i) 0)=A at *
    have hiA:i < A.length:=by omega
    have hnx:=ih (i+1) (by omega)
    rw [← hs] at hnx
    rw [Int.natCast_add,Int.natCast_one] at hnx
    refine wp_loop ?_
    repeat (first|apply wp_as|apply wp_ss|refine wr (by simp [hi2,hfl,w2,h5,e3,w3,hA,hiA];with_reducible rfl) ?_|refine wq (by simp [hi2,hfl,w2,h5,e3,w3,hA,hiA];with_reducible rfl) ?_|refine wt (by simpa [hi2,hfl,w2,h5,e3,w3,hA,hiA]) ?_|refine wf (by simpa [hi2,hfl,w2,h5,e3,w3,hA,hiA]) ?_|refine xt (by simpa [hi2,hfl,w2,h5,e3,w3,hA,hiA]) ?_|refine xf (by simpa [hi2,hfl,w2,h5,e3,w3,hA,hiA]) ?_|apply wp_bs|apply wp_b|refine wp_sr ?_|refine wp_sx ?_|refine wp_ret' ?_|refine wp_skip' ?_|refine wp_exit' ?_)
    refine wp_imp hin ?_
    rintro ex st ⟨rfl,rfl⟩
    simp only [if_true]
    repeat (first|apply wp_as|apply wp_ss|refine wr (by simp [w2];with_reducible rfl) ?_|refine wq (by simp [w2];with_reducible rfl) ?_|refine wt (by simpa [w2]) ?_|refine wf (by simpa [w2]) ?_|refine xt (by simpa [w2]) ?_|refine xf (by simpa [w2]) ?_|apply wp_bs|apply wp_b|refine wp_sr ?_|refine wp_sx ?_|refine wp_ret' ?_|refine wp_skip' ?_|refine wp_exit' ?_)
    exact hnx
theorem ev_GaleSlacks (r c:List Int) (k l:Bool) (hv:vMar r c=true) :
    Ev tb zl165 [] [L r k,L c l] [] ⟨O (gale r c),[],[],[]⟩:=by
  obtain ⟨hr,hc,hr5,hc5⟩:=vMar_few hv
  have e1:=ev_lim (ev_ValidMargins r c k l (by omega) (by omega))
  rw [hv] at e1
  have e2:=ev_lim (ev_falling r k (by omega))
  have hfl:(fall r).length=r.length:=fall_len r
  refine call_of_wp zt165 rfl ?_
  repeat (first|apply wp_as|apply wp_ss|refine wr (by simp [e1,e2,show r.length≤274877906944 by omega];with_reducible rfl) ?_|refine wq (by simp [e1,e2,show r.length≤274877906944 by omega];with_reducible rfl) ?_|refine wt (by simpa [e1,e2,show r.length≤274877906944 by omega]) ?_|refine wf (by simpa [e1,e2,show r.length≤274877906944 by omega]) ?_|refine xt (by simpa [e1,e2,show r.length≤274877906944 by omega]) ?_|refine xf (by simpa [e1,e2,show r.length≤274877906944 by omega]) ?_|apply wp_bs|apply wp_b|refine wp_sr ?_|refine wp_sx ?_|refine wp_ret' ?_|refine wp_skip' ?_|refine wp_exit' ?_)
  have:=gl_out r c l hr hc r.length 0 (by omega)
  simp [mapR] at this
  refine wp_imp this ?_
  rintro ex st ⟨rfl,rfl⟩
  simp only [if_true]
  repeat (first|apply wp_as|apply wp_ss|refine wr (by simp;with_reducible rfl) ?_|refine wq (by simp;with_reducible rfl) ?_|refine wt (by simpa) ?_|refine wf (by simpa) ?_|refine xt (by simpa) ?_|refine xf (by simpa) ?_|apply wp_bs|apply wp_b|refine wp_sr ?_|refine wp_sx ?_|refine wp_ret' ?_|refine wp_skip' ?_|refine wp_exit' ?_)
  simp [zi165,gale,mapR]
end Go.Idl
namespace Go.Idl
open Go
def comp (d:List Int):List Int:=(List.range d.length).map fun k=>(d.length:Int) - 1 - d.getD k 0
def noneNeg (xs:List Int):Bool:=xs.all fun x=>decide (0≤x)
theorem code_ok {code:List Int} (h:∀ x ∈ code,0≤x∧x≤255):CodeOk (code.take 2000):=⟨by simp;omega,fun x hx=>h x (List.mem_of_mem_take hx)⟩
end Go.Idl
namespace Go.Idl
open Go
def bigr (r c:List Int):Bool:=vMar r c && (decide (r.sum=c.sum) && noneNeg (gale r c))
theorem gale_len (r c:List Int):(gale r c).length=r.length:=by simp [gale,mapR]
theorem ev_IsBigraphic (r c:List Int) (k l:Bool) (hr:r.length≤2000000) (hc:c.length≤2000000) :
    Ev tb zl176 [] [L r k,L c l] [] ⟨Bo (bigr r c),[],[],[]⟩:=by
  have e1:=ev_lim (ev_ValidMargins r c k l hr hc)
  unfold bigr
  cases hv:vMar r c with
  | false =>
    rw [hv] at e1
    refine call_of_wp zt176 rfl ?_
    repeat (first|apply wp_as|apply wp_ss|refine wr (by simp [e1];with_reducible rfl) ?_|refine wq (by simp [e1];with_reducible rfl) ?_|refine wt (by simpa [e1]) ?_|refine wf (by simpa [e1]) ?_|refine xt (by simpa [e1]) ?_|refine xf (by simpa [e1]) ?_|apply wp_bs|apply wp_b|refine wp_sr ?_|refine wp_sx ?_|refine wp_ret' ?_|refine wp_skip' ?_|refine wp_exit' ?_)
    simp [zi176]
  | true =>
  rw [hv] at e1
  obtain ⟨fr,fc,hr5,hc5⟩:=vMar_few hv
  have e2:=ev_lim (ev_sum r k fr.small)
  have e3:=ev_lim (ev_sum c l fc.small)
  have e4:=ev_lim (ev_GaleSlacks r c k l hv)
  by_cases hs:r.sum=c.sum
  rotate_left
  · refine call_of_wp zt176 rfl ?_
    repeat (first|apply wp_as|apply wp_ss|refine wr (by simp [e1,e2,e3,hs];with_reducible rfl) ?_|refine wq (by simp [e1,e2,e3,hs];with_reducible rfl) ?_|refine wt (by simpa [e1,e2,e3,hs]) ?_|refine wf (by simpa [e1,e2,e3,hs]) ?_|refine xt (by simpa [e1,e2,e3,hs]) ?_|refine xf (by simpa [e1,e2,e3,hs]) ?_|apply wp_bs|apply wp_b|refine wp_sr ?_|refine wp_sx ?_|refine wp_ret' ?_|refine wp_skip' ?_|refine wp_exit' ?_)
    simp [zi176,hs]
  have hgl:=gale_len r c
  obtain ⟨mn,e5,hg⟩:∃ mn,limF tb zl75 [] [L (gale r c)] []=some ⟨I mn,[],[],[]⟩∧(0≤mn ↔ noneNeg (gale r c)=true):=by
    cases ho:gale r c with
    | nil=>rw [ho] at hgl;simp at hgl;omega
    | cons x q =>
      rw [ho] at hgl
      simp only [List.length_cons] at hgl
      refine ⟨_,ev_lim (ev_Min x q false (by omega)),?_⟩
      rw [least1_ge q x 0]
      simp [noneNeg]
  by_cases h1:0≤mn
  · have h2:=hg.1 h1
    refine call_of_wp zt176 rfl ?_
    repeat (first|apply wp_as|apply wp_ss|refine wr (by simp [e1,e2,e3,hs,e4,e5,h1];with_reducible rfl) ?_|refine wq (by simp [e1,e2,e3,hs,e4,e5,h1];with_reducible rfl) ?_|refine wt (by simpa [e1,e2,e3,hs,e4,e5,h1]) ?_|refine wf (by simpa [e1,e2,e3,hs,e4,e5,h1]) ?_|refine xt (by simpa [e1,e2,e3,hs,e4,e5,h1]) ?_|refine xf (by simpa [e1,e2,e3,hs,e4,e5,h1]) ?_|apply wp_bs|apply wp_b|refine wp_sr ?_|refine wp_sx ?_|refine wp_ret' ?_|refine wp_skip' ?_|refine wp_exit' ?_)
    simp [zi176,hs,h2]
  · have h2:noneNeg (gale r c)=false:=by rw [← Bool.not_eq_true];exact fun h=>h1 (hg.2 h)
    refine call_of_wp zt176 rfl ?_
    repeat (first|apply wp_as|apply wp_ss|refine wr (by simp [e1,e2,e3,hs,e4,e5,h1];with_reducible rfl) ?_|refine wq (by simp [e1,e2,e3,hs,e4,e5,h1];with_reducible rfl) ?_|refine wt (by simpa [e1,e2,e3,hs,e4,e5,h1]) ?_|refine wf (by simpa [e1,e2,e3,hs,e4,e5,h1]) ?_|refine xt (by simpa [e1,e2,e3,hs,e4,e5,h1]) ?_|refine xf (by simpa [e1,e2,e3,hs,e4,e5,h1]) ?_|apply wp_bs|apply wp_b|refine wp_sr ?_|refine wp_sx ?_|refine wp_ret' ?_|refine wp_skip' ?_|refine wp_exit' ?_)
    simp [zi176,hs,h2]
end Go.Idl
namespace Go.Idl
open Go
def tabF (w h:Nat) (g:Nat→Nat→Int):List (List Int):=(List.range w).map fun i=>mapR h (g i)
theorem tabl_in (w h:Nat) (F:Lab) (caps:List IV) (M:List Boxes) (g:Nat→Nat→Int) (i:Nat) (hi:i < w) (hh:h≤1000) (hw:w≤1000)
    (hF:∀ k,k < h→Ev tb F [] (I i::I k::caps) (M++[[]]) ⟨I (g i k),[],M++[[]],[]⟩) :
    ∀ (m k:Nat) (C:List (List IV)),k+m=h→C.length=w→(∀ hc:i < C.length,C[i]=[O (mapR k (g i)++List.replicate (h - k) 0)]) →
    wp tb (.loop z41l11) { T:=[(1,I h),(2,.fn F caps),(7,.own 1 C),(8,I i),(13,I w),(14,I i),(26,I h),(27,I k)],loc:=[],M:=M }
      (fun ex st=>ex=.exit 2∧st={ T:=[(1,I h),(2,.fn F caps),(7,.own 1 (C.set i [O (mapR h (g i))])),(8,I i),(13,I w),(14,I i),(26,I h),(27,I h),(28,Bo false)],loc:=[],M:=M }):=by
  intro m
  induction m with
  | zero =>
    intro k C hk hC hCi
    have h3:k=h:=hk
    subst h3
    have hi':i < C.length:=by omega
    have hs:C.set i [O (mapR k (g i))]=C:=by
      have:=hCi hi'
      simp only [Nat.sub_self,List.replicate_zero,List.append_nil] at this
      rw [← this];simp
    refine wp_loop ?_
    repeat (first|apply wp_as|apply wp_ss|refine wr (by simp;with_reducible rfl) ?_|refine wq (by simp;with_reducible rfl) ?_|refine wt (by simpa) ?_|refine wf (by simpa) ?_|refine xt (by simpa) ?_|refine xf (by simpa) ?_|apply wp_bs|apply wp_b|refine wp_sr ?_|refine wp_sx ?_|refine wp_ret' ?_|refine wp_skip' ?_|refine wp_exit' ?_)
    exact ⟨rfl,by rw [hs]⟩
  | succ m ih =>
    intro k C hk hC hCi
    have hkn:k < h:=by omega
    have hiC:i < C.length:=by omega
    have hCi:=hCi hiC
    have e1:=ev_lim (hF k hkn)
    have w2:IntKind.i64.wrap ((k:Int)+1)=((k+1:Nat):Int):=wrapS (by omega)
    have hln:(mapR k (g i)).length=k:=by simp [mapR]
    have hlt:k < k+(h - k):=by omega
    have hs':=mapR_succ_set (g i) hkn
    have hx:i < w:=hi
    refine wp_loop ?_
    repeat (first|apply wp_as|apply wp_ss|refine wr (by simp [hkn];with_reducible rfl) ?_|refine wq (by simp [hkn];with_reducible rfl) ?_|refine wt (by simpa [hkn]) ?_|refine wf (by simpa [hkn]) ?_|refine xt (by simpa [hkn]) ?_|refine xf (by simpa [hkn]) ?_|apply wp_bs|apply wp_b|refine wp_sr ?_|refine wp_sx ?_|refine wp_ret' ?_|refine wp_skip' ?_|refine wp_exit' ?_)
    refine wp_rega (by simp [hkn,hC,hx,hCi,e1,hln,hlt,hs'];with_reducible rfl) (by simp;with_reducible rfl) ?_ ?_
    · intro p hp
      simp only [List.mem_cons,List.not_mem_nil,or_false] at hp
      subst hp
      exact ⟨_,by simp [hkn,hC,hx,hCi,e1,hln,hlt,hs'];with_reducible rfl,by simp⟩
    repeat (first|apply wp_as|apply wp_ss|refine wr (by simp [w2];with_reducible rfl) ?_|refine wq (by simp [w2];with_reducible rfl) ?_|refine wt (by simpa [w2]) ?_|refine wf (by simpa [w2]) ?_|refine xt (by simpa [w2]) ?_|refine xf (by simpa [w2]) ?_|apply wp_bs|apply wp_b|refine wp_sr ?_|refine wp_sx ?_|refine wp_ret' ?_|refine wp_skip' ?_|refine wp_exit' ?_)
    refine wp_imp (ih (k+1) _ (by omega) (by simp [hC]) (by intro hc;simp)) ?_
    rintro ex st ⟨rfl,rfl⟩
    exact ⟨rfl,by simp⟩
theorem tabl_out (w h:Nat) (F:Lab) (caps:List IV) (M:List Boxes) (g:Nat→Nat→Int) (hh:h≤1000) (hw:w≤1000)
    (hF:∀ i k,i < w→k < h→Ev tb F [] (I i::I k::caps) (M++[[]]) ⟨I (g i k),[],M++[[]],[]⟩) :
    ∀ (m i:Nat) ,i+m=w →
    wp tb (.loop z41l13) { T:=[(1,I h),(2,.fn F caps),(7,.own 1 (oab (tabF i h g)++List.replicate (w - i) [Z])),(13,I w),(14,I i)],loc:=[],M:=M }
      (fun ex st=>ex=.exit 0∧st={ T:=[(1,I h),(2,.fn F caps),(7,OT (tabF w h g)),(13,I w),(14,I w),(15,Bo false)],loc:=[],M:=M }):=by
  intro m
  induction m with
  | zero =>
    intro i hi
    have h3:i=w:=hi
    subst h3
    refine wp_loop ?_
    repeat (first|apply wp_as|apply wp_ss|refine wr (by simp;with_reducible rfl) ?_|refine wq (by simp;with_reducible rfl) ?_|refine wt (by simpa) ?_|refine wf (by simpa) ?_|refine xt (by simpa) ?_|refine xf (by simpa) ?_|apply wp_bs|apply wp_b|refine wp_sr ?_|refine wp_sx ?_|refine wp_ret' ?_|refine wp_skip' ?_|refine wp_exit' ?_)
    exact ⟨rfl,by simp⟩
  | succ m ih =>
    intro i hi
    have hin:i < w:=by omega
    have w2:IntKind.i64.wrap ((i:Int)+1)=((i+1:Nat):Int):=wrapS (by omega)
    have hC:(oab (tabF i h g)++List.replicate (w - i) [Z]).length=w:=by simp [tabF];omega
    have hst:∀ r,(oab (tabF i h g)++List.replicate (w - i) [Z]).set i [O r]=oab (tabF i h g++[r])++List.replicate (w - (i+1)) [Z]:=by
      intro r
      have e:w - i=(w - (i+1))+1:=by omega
      rw [e,List.replicate_succ,List.set_append_right _ _ (by simp [tabF]),← oab_one]
      simp [tabF]
      simp [oab]
    have hCi:∀ hc:i < (oab (tabF i h g)++List.replicate (w - i) [Z]).length,(oab (tabF i h g)++List.replicate (w - i) [Z])[i]=[Z]:=by
      intro hc
      rw [List.getElem_append_right (by simp [tabF])];simp
    have hb:h≤274877906944:=by omega
    have ht:tabF i h g++[mapR h (g i)]=tabF (i+1) h g:=by simp [tabF,List.range_succ]
    have hin2:=tabl_in w h F caps M g i hin hh hw (fun k hk=>hF i k hin hk) h 0 ((oab (tabF i h g)++List.replicate (w - i) [Z]).set i [O (List.replicate h 0)])
      (by omega) (by rw [List.length_set];exact hC) (by intro hc;simp [mapR])
    simp only [List.set_set] at hin2
    rw [show ((0:Nat):Int)=0 from rfl] at hin2
    generalize (oab (tabF i h g)++List.replicate (w - i) [Z])=C at *
    refine wp_loop ?_
    have hiC:i < C.length:=by omega
    have hCi:=hCi hiC
    repeat (first|apply wp_as|apply wp_ss|refine wr (by simp [hin,hC,hb,hCi];with_reducible rfl) ?_|refine wq (by simp [hin,hC,hb,hCi];with_reducible rfl) ?_|refine wt (by simpa [hin,hC,hb,hCi]) ?_|refine wf (by simpa [hin,hC,hb,hCi]) ?_|refine xt (by simpa [hin,hC,hb,hCi]) ?_|refine xf (by simpa [hin,hC,hb,hCi]) ?_|apply wp_bs|apply wp_b|refine wp_sr ?_|refine wp_sx ?_|refine wp_ret' ?_|refine wp_skip' ?_|refine wp_exit' ?_)
    refine wp_imp hin2 ?_
    rintro ex st ⟨rfl,rfl⟩
    simp only [if_true]
    rw [hst,ht]
    repeat (first|apply wp_as|apply wp_ss|refine wr (by simp [w2];with_reducible rfl) ?_|refine wq (by simp [w2];with_reducible rfl) ?_|refine wt (by simpa [w2]) ?_|refine wf (by simpa [w2]) ?_|refine xt (by simpa [w2]) ?_|refine xf (by simpa [w2]) ?_|apply wp_bs|apply wp_b|refine wp_sr ?_|refine wp_sx ?_|refine wp_ret' ?_|refine wp_skip' ?_|refine wp_exit' ?_)
    exact ih (i+1) (by omega)
theorem ev_table (w h:Nat) (F:Lab) (caps:List IV) (M:List Boxes) (g:Nat→Nat→Int) (hh:h≤1000) (hw:w≤1000)
    (hF:∀ i k,i < w→k < h→Ev tb F [] (I i::I k::caps) (M++[[]]) ⟨I (g i k),[],M++[[]],[]⟩) :
    Ev tb zl41 [] [I w,I h,.fn F caps] M ⟨OT (tabF w h g),[],M,[]⟩:=by
  have hb:w≤274877906944:=by omega
  refine call_of_wp zt41 rfl ?_
  repeat (first|apply wp_as|apply wp_ss|refine wr (by simp [hb];with_reducible rfl) ?_|refine wq (by simp [hb];with_reducible rfl) ?_|refine wt (by simpa [hb]) ?_|refine wf (by simpa [hb]) ?_|refine xt (by simpa [hb]) ?_|refine xf (by simpa [hb]) ?_|apply wp_bs|apply wp_b|refine wp_sr ?_|refine wp_sx ?_|refine wp_ret' ?_|refine wp_skip' ?_|refine wp_exit' ?_)
  have:=tabl_out w h F caps M g hh hw hF w 0 (by omega)
  simp [tabF] at this
  refine wp_imp this ?_
  rintro ex st ⟨rfl,rfl⟩
  simp only [if_true]
  repeat (first|apply wp_as|apply wp_ss|refine wr (by simp;with_reducible rfl) ?_|refine wq (by simp;with_reducible rfl) ?_|refine wt (by simpa) ?_|refine wf (by simpa) ?_|refine xt (by simpa) ?_|refine xf (by simpa) ?_|apply wp_bs|apply wp_b|refine wp_sr ?_|refine wp_sx ?_|refine wp_ret' ?_|refine wp_skip' ?_|refine wp_exit' ?_)
  simp [zi41,tabF]
  rw [List.take_of_length_le (by simp)]
end Go.Idl
namespace Go.Idl
open Go
def TT (n:Nat) (t:List (List Int)):Prop:=t.length=n∧∀ r ∈ t,r.length=n∧∀ x ∈ r,0≤x∧x≤1
theorem TT.set {n:Nat} {t:List (List Int)} (h:TT n t) {a b:Nat} {v:Int} (ha:a < t.length) (hv:0≤v∧v≤1):TT n (t.set a (t[a].set b v)):=by
  refine ⟨by simpa using h.1,fun r hr=>?_⟩
  have h1:=h.2 _ (List.getElem_mem ha)
  rcases List.mem_or_eq_of_mem_set hr with hr | rfl
  · exact h.2 r hr
  · refine ⟨by simpa using h1.1,fun x hx=>?_⟩
    rcases List.mem_or_eq_of_mem_set hx with hx | rfl
    · exact h1.2 x hx
    · exact hv
end Go.Idl
namespace Go.Idl
open Go
def MM (h w:Nat) (t:List (List Int)):Prop:=t.length=h∧∀ r ∈ t,r.length=w∧∀ x ∈ r,0≤x∧x≤1
theorem am_in (code:List Int) (c:Bool) (hc:CodeOk code) (h w:Nat) (hw:w≤5) (bs:Boxes) (Ms:List Boxes) (t:List (List Int)) (i:Nat) :
    ∀ (m j cnt:Nat) (r:List Int),j+m=w→cnt+m≤90000→r.length=j→(∀ x ∈ r,0≤x∧x≤1) →
    wp tb (.loop z331l9) { T:=[(0,.bptr 0 0 0),(1,I h),(2,I w),(7,OT t),(8,I i),(9,O r),(10,I j)],loc:=[],M:=(R code c cnt::bs)::Ms }
      (fun ex st=>ex=.exit 2∧∃ (r':List Int) (k:Nat),(r'.length=w∧∀ x ∈ r',0≤x∧x≤1)∧k≤cnt+m ∧
        st={ T:=[(0,.bptr 0 0 0),(1,I h),(2,I w),(7,OT t),(8,I i),(9,O r'),(10,I w),(20,Bo false)],loc:=[],M:=(R code c k::bs)::Ms }):=by
  intro m
  induction m with
  | zero =>
    intro j cnt r hj hcn hr h01
    have h3:j=w:=hj
    subst h3
    refine wp_loop ?_
    repeat (first|apply wp_as|apply wp_ss|refine wr (by simp;with_reducible rfl) ?_|refine wq (by simp;with_reducible rfl) ?_|refine wt (by simpa) ?_|refine wf (by simpa) ?_|refine xt (by simpa) ?_|refine xf (by simpa) ?_|apply wp_bs|apply wp_b|refine wp_sr ?_|refine wp_sx ?_|refine wp_ret' ?_|refine wp_skip' ?_|refine wp_exit' ?_)
    exact ⟨rfl,r,cnt,⟨hr,h01⟩,by omega,rfl⟩
  | succ m ih =>
    intro j cnt r hj hcn hr h01
    have hjw:j < w:=by omega
    have w2:IntKind.i64.wrap ((j:Int)+1)=((j+1:Nat):Int):=wrapS (by omega)
    obtain ⟨v,k,hv,hk,e1⟩:=pick' code c hc cnt (by omega) 2 (by omega) bs (Ms++[[]])
    have hv:=hv (by omega)
    have hrl:r.length≤274877906943:=by omega
    have hrt:r.take r.length=r:=List.take_of_length_le (by omega)
    refine wp_loop ?_
    repeat (first|apply wp_as|apply wp_ss|refine wr (by simp [hjw,e1,w2,hrl,hrt];with_reducible rfl) ?_|refine wq (by simp [hjw,e1,w2,hrl,hrt];with_reducible rfl) ?_|refine wt (by simpa [hjw,e1,w2,hrl,hrt]) ?_|refine wf (by simpa [hjw,e1,w2,hrl,hrt]) ?_|refine xt (by simpa [hjw,e1,w2,hrl,hrt]) ?_|refine xf (by simpa [hjw,e1,w2,hrl,hrt]) ?_|apply wp_bs|apply wp_b|refine wp_sr ?_|refine wp_sx ?_|refine wp_ret' ?_|refine wp_skip' ?_|refine wp_exit' ?_)
    refine wp_imp (ih (j+1) k (r++[(v:Int)]) (by omega) (by omega) (by simp [hr]) (fun x hx=>?_)) ?_
    · rcases List.mem_append.1 hx with hx | hx
      · exact h01 x hx
      · simp at hx;omega
    · rintro ex st ⟨rfl,r',k',h1,h2,rfl⟩
      exact ⟨rfl,r',k',h1,by omega,rfl⟩
theorem am_out (code:List Int) (c:Bool) (hc:CodeOk code) (h w:Nat) (hh:h≤5) (hw:w≤5) (bs:Boxes) (Ms:List Boxes) :
    ∀ (m i cnt:Nat) (t:List (List Int)),i+m=h→cnt+5 * m≤90000→MM i w t →
    wp tb (.loop z331l12) { T:=[(0,.bptr 0 0 0),(1,I h),(2,I w),(7,OT t),(8,I i)],loc:=[],M:=(R code c cnt::bs)::Ms }
      (fun ex st=>ex=.exit 0∧∃ (t':List (List Int)) (k:Nat),MM h w t'∧k≤cnt+5 * m ∧
        st={ T:=[(0,.bptr 0 0 0),(1,I h),(2,I w),(7,OT t'),(8,I h),(14,Bo false)],loc:=[],M:=(R code c k::bs)::Ms }):=by
  intro m
  induction m with
  | zero =>
    intro i cnt t hi hcn ht
    have h3:i=h:=hi
    subst h3
    refine wp_loop ?_
    repeat (first|apply wp_as|apply wp_ss|refine wr (by simp;with_reducible rfl) ?_|refine wq (by simp;with_reducible rfl) ?_|refine wt (by simpa) ?_|refine wf (by simpa) ?_|refine xt (by simpa) ?_|refine xf (by simpa) ?_|apply wp_bs|apply wp_b|refine wp_sr ?_|refine wp_sx ?_|refine wp_ret' ?_|refine wp_skip' ?_|refine wp_exit' ?_)
    exact ⟨rfl,t,cnt,ht,by omega,rfl⟩
  | succ m ih =>
    intro i cnt t hi hcn ht
    have hih:i < h:=by omega
    have w2:IntKind.i64.wrap ((i:Int)+1)=((i+1:Nat):Int):=wrapS (by omega)
    refine wp_loop ?_
    repeat (first|apply wp_as|apply wp_ss|refine wr (by simp [hih];with_reducible rfl) ?_|refine wq (by simp [hih];with_reducible rfl) ?_|refine wt (by simpa [hih]) ?_|refine wf (by simpa [hih]) ?_|refine xt (by simpa [hih]) ?_|refine xf (by simpa [hih]) ?_|apply wp_bs|apply wp_b|refine wp_sr ?_|refine wp_sx ?_|refine wp_ret' ?_|refine wp_skip' ?_|refine wp_exit' ?_)
    have hin:=am_in code c hc h w hw bs Ms t i w 0 cnt [] (by omega) (by omega) rfl (by simp)
    rw [show ((0:Nat):Int)=0 from rfl] at hin
    refine wp_imp hin ?_
    rintro ex st ⟨rfl,r',k',h1,h2,rfl⟩
    simp only [if_true]
    have htl:=ht.1
    have htt:t.length≤274877906943:=by omega
    have hto:t.take t.length=t:=List.take_of_length_le (by omega)
    repeat (first|apply wp_as|apply wp_ss|refine wr (by simp [w2,htt,hto];with_reducible rfl) ?_|refine wq (by simp [w2,htt,hto];with_reducible rfl) ?_|refine wt (by simpa [w2,htt,hto]) ?_|refine wf (by simpa [w2,htt,hto]) ?_|refine xt (by simpa [w2,htt,hto]) ?_|refine xf (by simpa [w2,htt,hto]) ?_|apply wp_bs|apply wp_b|refine wp_sr ?_|refine wp_sx ?_|refine wp_ret' ?_|refine wp_skip' ?_|refine wp_exit' ?_)
    refine wp_imp (ih (i+1) k' (t++[r']) (by omega) (by omega) ⟨by simp [htl],fun r hr=>?_⟩) ?_
    · rcases List.mem_append.1 hr with hr | hr
      · exact ht.2 r hr
      · simp at hr;subst hr;exact h1
    · rintro ex st ⟨rfl,t'',k'',h3,h4,rfl⟩
      exact ⟨rfl,t'',k'',h3,by omega,rfl⟩
theorem ev_aMatrix (code:List Int) (c:Bool) (hc:CodeOk code) (cnt:Nat) (hn:cnt≤80000) (h w:Nat) (hh:h≤5) (hw:w≤5) (bs:Boxes) (Ms:List Boxes) :
    ∃ (t:List (List Int)) (k:Nat),MM h w t∧k≤cnt+25 ∧
      limF tb zl331 [] [.bptr 0 0 0,I h,I w] ((R code c cnt::bs)::Ms)=some ⟨OT t,[],(R code c k::bs)::Ms,[]⟩:=by
  suffices h:∃ r,(∃ (t:List (List Int)) (k:Nat),MM h w t∧k≤cnt+25∧r=⟨OT t,[],(R code c k::bs)::Ms,[]⟩)∧Ev tb zl331 [] [.bptr 0 0 0,I h,I w] ((R code c cnt::bs)::Ms) r by
    obtain ⟨r,⟨t,k,h1,h2,rfl⟩,h⟩:=h
    exact ⟨t,k,h1,h2,ev_lim h⟩
  refine call_ex zt331 rfl ?_
  repeat (first|apply wp_as|apply wp_ss|refine wr (by simp;with_reducible rfl) ?_|refine wq (by simp;with_reducible rfl) ?_|refine wt (by simpa) ?_|refine wf (by simpa) ?_|refine xt (by simpa) ?_|refine xf (by simpa) ?_|apply wp_bs|apply wp_b|refine wp_sr ?_|refine wp_sx ?_|refine wp_ret' ?_|refine wp_skip' ?_|refine wp_exit' ?_)
  have hin:=am_out code c hc h w hh hw bs Ms h 0 cnt [] (by omega) (by omega) ⟨rfl,by simp⟩
  rw [show ((0:Nat):Int)=0 from rfl] at hin
  refine wp_imp hin ?_
  rintro ex st ⟨rfl,t',k',h1,h2,rfl⟩
  simp only [if_true]
  repeat (first|apply wp_as|apply wp_ss|refine wr (by simp;with_reducible rfl) ?_|refine wq (by simp;with_reducible rfl) ?_|refine wt (by simpa) ?_|refine wf (by simpa) ?_|refine xt (by simpa) ?_|refine xf (by simpa) ?_|apply wp_bs|apply wp_b|refine wp_sr ?_|refine wp_sx ?_|refine wp_ret' ?_|refine wp_skip' ?_|refine wp_exit' ?_)
  exact ⟨.inr rfl,_,⟨t',k',h1,by omega,rfl⟩,by simp [zi331]⟩
theorem ev_rowSums (t:List (List Int)) (c:Bool) (hl:t.length≤1000) (h:∀ r ∈ t,Few r) :
    Ev tb zl371 [] [TL t c] [] ⟨O (t.map List.sum),[],[],[]⟩:=by
  have loop:∀ (m i:Nat),i+m=t.length→wp tb (.loop z371l6) { T:=[(0,TL t c),(3,O ((t.take i).map List.sum)),(4,I i)],loc:=[],M:=[] }
      (fun ex st=>ex=.exit 0∧st={ T:=[(0,TL t c),(3,O (t.map List.sum)),(4,I t.length),(9,Bo false)],loc:=[],M:=[] }):=by
    intro m
    induction m with
    | zero =>
      intro i hi
      have h3:i=t.length:=hi
      subst h3
      refine wp_loop ?_
      repeat (first|apply wp_as|apply wp_ss|refine wr (by simp;with_reducible rfl) ?_|refine wq (by simp;with_reducible rfl) ?_|refine wt (by simpa) ?_|refine wf (by simpa) ?_|refine xt (by simpa) ?_|refine xf (by simpa) ?_|apply wp_bs|apply wp_b|refine wp_sr ?_|refine wp_sx ?_|refine wp_ret' ?_|refine wp_skip' ?_|refine wp_exit' ?_)
      exact ⟨rfl,by simp⟩
    | succ m ih =>
      intro i hi
      have hi2:i < t.length:=by omega
      have w2:IntKind.i64.wrap ((i:Int)+1)=((i+1:Nat):Int):=wrapS (by omega)
      have e1:=ev_lim (ev_spec_sum t[i] false (h _ (List.getElem_mem hi2)).small)
      have hs:(t.take (i+1)).map List.sum=(t.take i).map List.sum++[t[i].sum]:=by
        rw [List.take_succ_eq_append_getElem hi2,List.map_append];rfl
      have hg:=ih (i+1) (by omega)
      have hlt:((t.take i).map List.sum).length≤274877906943:=by simp;omega
      rw [hs] at hg
      generalize (t.take i).map List.sum=o at *
      have hot:o.take o.length=o:=List.take_of_length_le (by omega)
      refine wp_loop ?_
      repeat (first|apply wp_as|apply wp_ss|refine wr (by simp [hi2,e1,hlt,w2,hot];with_reducible rfl) ?_|refine wq (by simp [hi2,e1,hlt,w2,hot];with_reducible rfl) ?_|refine wt (by simpa [hi2,e1,hlt,w2,hot]) ?_|refine wf (by simpa [hi2,e1,hlt,w2,hot]) ?_|refine xt (by simpa [hi2,e1,hlt,w2,hot]) ?_|refine xf (by simpa [hi2,e1,hlt,w2,hot]) ?_|apply wp_bs|apply wp_b|refine wp_sr ?_|refine wp_sx ?_|refine wp_ret' ?_|refine wp_skip' ?_|refine wp_exit' ?_)
      exact hg
  refine call_of_wp zt371 rfl ?_
  repeat (first|apply wp_as|apply wp_ss|refine wr (by simp;with_reducible rfl) ?_|refine wq (by simp;with_reducible rfl) ?_|refine wt (by simpa) ?_|refine wf (by simpa) ?_|refine xt (by simpa) ?_|refine xf (by simpa) ?_|apply wp_bs|apply wp_b|refine wp_sr ?_|refine wp_sx ?_|refine wp_ret' ?_|refine wp_skip' ?_|refine wp_exit' ?_)
  have:=loop t.length 0 (by omega)
  simp at this
  refine wp_imp this ?_
  rintro ex st ⟨rfl,rfl⟩
  simp only [if_true]
  repeat (first|apply wp_as|apply wp_ss|refine wr (by simp;with_reducible rfl) ?_|refine wq (by simp;with_reducible rfl) ?_|refine wt (by simpa) ?_|refine wf (by simpa) ?_|refine xt (by simpa) ?_|refine xf (by simpa) ?_|apply wp_bs|apply wp_b|refine wp_sr ?_|refine wp_sx ?_|refine wp_ret' ?_|refine wp_skip' ?_|refine wp_exit' ?_)
  simp [zi371]
  rw [List.take_of_length_le (by simp)]
end Go.Idl
namespace Go.Idl
open Go
def rwS:Nat→List Int→Nat→List (List Int)
  | 0,pre,k=>if k=0 then [pre] else []
  | m+1,pre,k=>(if 0 < k then rwS m (pre++[1]) (k - 1) else [])++rwS m (pre++[0]) k
theorem rwS_len:∀ m pre k,(rwS m pre k).length≤2 ^ m
  | 0,pre,k=>by rw [rwS];split <;> simp
  | m+1,pre,k=>by
    have h1:=rwS_len m (pre++[1]) (k - 1)
    have h2:=rwS_len m (pre++[0]) k
    rw [rwS,List.length_append,Nat.pow_succ]
    split
    · omega
    · simp only [List.length_nil];omega
theorem oab_app2 (a b:List (List Int)):oab a++oab b=oab (a++b):=by simp [oab]
@[simp] theorem oab_allD (t:List (List Int)):((oab t).all fun x=>x.all IV.isData)=true:=by
  induction t with
  | nil=>rfl
  | cons x xs ih=>simp only [oab,List.map_cons,List.all_cons] at *;rw [ih];rfl
theorem ev_rowsOf (w:Nat) (hw:w≤5):∀ (m:Nat) (pre:List Int) (k:Nat) (c:Bool),pre.length+m=w→k≤1000 →
    Ev tb zl594 [] [L pre c,I w,I k] [] ⟨OT (rwS m pre k),[],[],[]⟩:=by
  intro m
  induction m with
  | zero =>
    intro pre k c hp hk
    have e1:=ev_lim (ev_copyInts pre c (by omega))
    have hp':pre.length=w:=hp
    by_cases h:k=0
    · subst h
      rw [show ((0:Nat):Int)=0 from rfl]
      refine call_of_wp zt594 rfl ?_
      repeat (first|apply wp_as|apply wp_ss|refine wr (by simp [hp',e1];with_reducible rfl) ?_|refine wq (by simp [hp',e1];with_reducible rfl) ?_|refine wt (by simpa [hp',e1]) ?_|refine wf (by simpa [hp',e1]) ?_|refine xt (by simpa [hp',e1]) ?_|refine xf (by simpa [hp',e1]) ?_|apply wp_bs|apply wp_b|refine wp_sr ?_|refine wp_sx ?_|refine wp_ret' ?_|refine wp_skip' ?_|refine wp_exit' ?_)
      simp [zi594,rwS,oab]
    · have h':¬ (k:Int)=0:=by omega
      refine call_of_wp zt594 rfl ?_
      repeat (first|apply wp_as|apply wp_ss|refine wr (by simp [hp',e1,h,h'];with_reducible rfl) ?_|refine wq (by simp [hp',e1,h,h'];with_reducible rfl) ?_|refine wt (by simpa [hp',e1,h,h']) ?_|refine wf (by simpa [hp',e1,h,h']) ?_|refine xt (by simpa [hp',e1,h,h']) ?_|refine xf (by simpa [hp',e1,h,h']) ?_|apply wp_bs|apply wp_b|refine wp_sr ?_|refine wp_sx ?_|refine wp_ret' ?_|refine wp_skip' ?_|refine wp_exit' ?_)
      simp [zi594,rwS,h]
  | succ m ih =>
    intro pre k c hp hk
    have e1:=ev_lim (ev_copyInts pre c (by omega))
    have hne:¬ pre.length=w:=by omega
    have hne':¬ (pre.length:Int)=(w:Int):=by omega
    have hpt:pre.take pre.length=pre:=List.take_of_length_le (by omega)
    have hp1:pre.length+1≤274877906944:=by omega
    have e3:=fun c=>ev_lim (ih (pre++[0]) k c (by simp;omega) hk)
    have h3:=rwS_len m (pre++[0]) k
    have hm5:2 ^ m≤2 ^ 5:=Nat.pow_le_pow_right (by omega) (by omega)
    have hb3:(rwS m (pre++[0]) k).length≤274877906944:=by omega
    have ht3:(rwS m (pre++[0]) k).take (rwS m (pre++[0]) k).length=rwS m (pre++[0]) k:=List.take_of_length_le (by omega)
    by_cases h:0 < k
    · obtain ⟨j,rfl⟩:∃ j,k=j+1:=⟨k - 1,by omega⟩
      have hi:(0:Int) < (j:Int)+1:=by omega
      have wk:IntKind.i64.wrap (j:Int)=(j:Int):=wrap64 (by omega) (by omega)
      have wk2:IntKind.i64.wrap ((j:Int)+1 - 1)=(j:Int):=by rw [Int.add_sub_cancel];exact wk
      have e2:=fun c=>ev_lim (ih (pre++[1]) j c (by simp;omega) (by omega))
      have h2:=rwS_len m (pre++[1]) j
      have hb2:(rwS m (pre++[1]) j).length≤274877906944:=by omega
      have hb4:(rwS m (pre++[1]) j).length+(rwS m (pre++[0]) (j+1)).length≤274877906944:=by omega
      have ht2:(rwS m (pre++[1]) j).take (rwS m (pre++[1]) j).length=rwS m (pre++[1]) j:=List.take_of_length_le (by omega)
      rw [rwS,if_pos h,Nat.add_sub_cancel]
      rw [show ((j+1:Nat):Int)=(j:Int)+1 from rfl] at e3 ⊢
      generalize rwS m (pre++[1]) j=A at *
      generalize rwS m (pre++[0]) (j+1)=B at *
      refine call_of_wp zt594 rfl ?_
      repeat (first|apply wp_as|apply wp_ss|refine wr (by simp [hne,hne',e1,hi,hpt,hp1,wk,wk2,e2,e3,hb2,hb3,hb4,ht2,ht3,oab_app2];with_reducible rfl) ?_|refine wq (by simp [hne,hne',e1,hi,hpt,hp1,wk,wk2,e2,e3,hb2,hb3,hb4,ht2,ht3,oab_app2];with_reducible rfl) ?_|refine wt (by simpa [hne,hne',e1,hi,hpt,hp1,wk,wk2,e2,e3,hb2,hb3,hb4,ht2,ht3,oab_app2]) ?_|refine wf (by simpa [hne,hne',e1,hi,hpt,hp1,wk,wk2,e2,e3,hb2,hb3,hb4,ht2,ht3,oab_app2]) ?_|refine xt (by simpa [hne,hne',e1,hi,hpt,hp1,wk,wk2,e2,e3,hb2,hb3,hb4,ht2,ht3,oab_app2]) ?_|refine xf (by simpa [hne,hne',e1,hi,hpt,hp1,wk,wk2,e2,e3,hb2,hb3,hb4,ht2,ht3,oab_app2]) ?_|apply wp_bs|apply wp_b|refine wp_sr ?_|refine wp_sx ?_|refine wp_ret' ?_|refine wp_skip' ?_|refine wp_exit' ?_)
      simp [zi594,oab_app2]
    · have hi:¬ (0:Int) < (k:Int):=by omega
      rw [rwS,if_neg h,List.nil_append]
      generalize rwS m (pre++[0]) k=B at *
      refine call_of_wp zt594 rfl ?_
      repeat (first|apply wp_as|apply wp_ss|refine wr (by simp [hne,hne',e1,hi,h,hpt,hp1,e3,hb3,ht3,oab_app2];with_reducible rfl) ?_|refine wq (by simp [hne,hne',e1,hi,h,hpt,hp1,e3,hb3,ht3,oab_app2];with_reducible rfl) ?_|refine wt (by simpa [hne,hne',e1,hi,h,hpt,hp1,e3,hb3,ht3,oab_app2]) ?_|refine wf (by simpa [hne,hne',e1,hi,h,hpt,hp1,e3,hb3,ht3,oab_app2]) ?_|refine xt (by simpa [hne,hne',e1,hi,h,hpt,hp1,e3,hb3,ht3,oab_app2]) ?_|refine xf (by simpa [hne,hne',e1,hi,h,hpt,hp1,e3,hb3,ht3,oab_app2]) ?_|apply wp_bs|apply wp_b|refine wp_sr ?_|refine wp_sx ?_|refine wp_ret' ?_|refine wp_skip' ?_|refine wp_exit' ?_)
      simp [zi594]
end Go.Idl
namespace Go.Idl
open Go
def TS (t:List (List Int)):Prop:=(1≤t.length∧t.length≤5)∧∀ r ∈ t,r.length≤5∧∀ x ∈ r,0≤x∧x≤1
theorem TS.small {t:List (List Int)} (h:TS t):Small2 t:=⟨by have:=h.1;omega,fun r hr=>⟨by have:=(h.2 r hr).1;omega,fun x hx=>by have:=(h.2 r hr).2 x hx;omega⟩⟩
theorem TT.ts {n:Nat} {t:List (List Int)} (h:TT n t) (h1:1≤n) (h5:n≤5):TS t:=⟨by have:=h.1;omega,fun r hr=>⟨by have:=(h.2 r hr).1;omega,(h.2 r hr).2⟩⟩
end Go.Idl
namespace Go.Idl
open Go
def sN (l:List Nat) (f:Nat→Int):Int:=(l.map f).sum
theorem sN_cons (x:Nat) (r:List Nat) (f:Nat→Int):sN (x::r) f=f x+sN r f:=by simp [sN]
theorem sN_add (l:List Nat) (f g:Nat→Int):sN l (fun a=>f a+g a)=sN l f+sN l g:=by
  induction l with
  | nil=>simp [sN]
  | cons x r ih=>simp only [sN_cons,ih];omega
theorem sN_congr {l:List Nat} {f g:Nat→Int} (h:∀ a ∈ l,f a=g a):sN l f=sN l g:=by
  unfold sN;rw [List.map_congr_left h]
theorem sN_one (l:List Nat):sN l (fun _=>1)=l.length:=by
  induction l with
  | nil=>simp [sN]
  | cons y r ih=>rw [sN_cons,ih];simp;omega
theorem within {g:Nat→Nat→Int}:∀ (X:List Nat),X.Nodup→(∀ a ∈ X,g a a=0)→(∀ a ∈ X,∀ b ∈ X,a ≠ b→g a b+g b a=1) →
    2 * sN X (fun a=>sN X (g a))=(X.length:Int) * ((X.length:Int) - 1)
  | [],_,_,_=>by simp [sN]
  | x::r,hd,h0,h1=>by
    have hd':=List.nodup_cons.1 hd
    have ih:=within r hd'.2 (fun a ha=>h0 a (by simp [ha])) (fun a ha b hb=>h1 a (by simp [ha]) b (by simp [hb]))
    have e1:sN r (fun a=>sN (x::r) (g a))=sN r (fun a=>g a x)+sN r (fun a=>sN r (g a)):=by
      rw [← sN_add];exact sN_congr fun a _=>sN_cons x r (g a)
    have e2:sN r (g x)+sN r (fun a=>g a x)=r.length:=by
      rw [← sN_add,sN_congr (g:=fun _=>1) (fun a ha=>h1 x (by simp) a (by simp [ha]) (fun e=>hd'.1 (by rw [e];exact ha))),sN_one]
    have e3:=h0 x (by simp)
    rw [sN_cons,sN_cons,e1,e3]
    simp only [List.length_cons]
    have:((r.length+1:Nat):Int) * (((r.length+1:Nat):Int) - 1)=(r.length:Int) * ((r.length:Int) - 1)+2 * r.length:=by
      rw [Int.natCast_add,Int.natCast_one,Int.add_sub_cancel,Int.add_mul,Int.mul_sub];omega
    rw [this,← ih];omega
end Go.Idl
namespace Go.Idl
open Go
theorem Tour.small {t:List (List Int)} (ht:Tour t):Small2 t :=
  ⟨by have:=ht.1;omega,fun r hr=>⟨by have:=(ht.2.1 r hr).1;have:=ht.1;omega,fun x hx=>by have:=(ht.2.1 r hr).2 x hx;omega⟩⟩
end Go.Idl
namespace Go.Idl
open Go
theorem ev_copyTable_F1 (t:List (List Int)) (c:Bool) (i k:Nat) (hi:i < t.length) (hk:k < t[i].length) :
    Ev tb zl34 [] [I i,I k,.bptr 0 0 0] [[[TL t c]],[]] ⟨I (g2 t i k),[],[[[TL t c]],[]],[]⟩:=by
  have hg:=g2_eq hi hk
  refine call_of_wp zt34 rfl ?_
  repeat (first|apply wp_as|apply wp_ss|refine wr (by simp [hi,hk];with_reducible rfl) ?_|refine wq (by simp [hi,hk];with_reducible rfl) ?_|refine wt (by simpa [hi,hk]) ?_|refine wf (by simpa [hi,hk]) ?_|refine xt (by simpa [hi,hk]) ?_|refine xf (by simpa [hi,hk]) ?_|apply wp_bs|apply wp_b|refine wp_sr ?_|refine wp_sx ?_|refine wp_ret' ?_|refine wp_skip' ?_|refine wp_exit' ?_)
  simp [zi34,hg]
theorem tabF_self {n:Nat} {t:List (List Int)} (h:TT n t):tabF n n (g2 t)=t:=by
  refine List.ext_getElem (by simp [tabF,h.1]) fun i h1 h2=>?_
  have hr:=h.2 _ (List.getElem_mem h2)
  refine List.ext_getElem (by simp [tabF,mapR,hr.1]) fun k h3 h4=>?_
  simp [tabF,mapR,g2_eq h2 h4]
theorem ev_equalLists (t u:List (List Int)) (c d:Bool) (ht:Small2 t) (hu:Small2 u) :
    Ev tb zl54 [] [TL t c,TL u d] [] ⟨Bo (decide (t=u)),[],[],[]⟩:=by
  have hl:=ht.1
  have hm:=hu.1
  by_cases he:t.length=u.length
  · have loop:∀ (m i:Nat),i+m=t.length→wp tb (.loop z54l8) { T:=[(0,TL t c),(1,TL u d),(5,I i)],loc:=[],M:=[] }
      (fun ex st=>(ex=.exit 0∧t.drop i=u.drop i∧st={ T:=[(0,TL t c),(1,TL u d),(5,I t.length),(14,Bo false)],loc:=[],M:=[] }) ∨
        ex=.ret∧t.drop i ≠ u.drop i∧st={ T:=[(4,Bo false)],loc:=[],M:=[] }):=by
      intro m
      induction m with
      | zero =>
        intro i hi
        obtain ⟨h1,h2⟩:=drop_endA hi
        obtain ⟨h1',h2'⟩:=drop_endA (he ▸ hi)
        have h3:i=t.length:=hi
        subst h3
        refine wp_loop ?_
        repeat (first|apply wp_as|apply wp_ss|refine wr (by simp;with_reducible rfl) ?_|refine wq (by simp;with_reducible rfl) ?_|refine wt (by simpa) ?_|refine wf (by simpa) ?_|refine xt (by simpa) ?_|refine xf (by simpa) ?_|apply wp_bs|apply wp_b|refine wp_sr ?_|refine wp_sx ?_|refine wp_ret' ?_|refine wp_skip' ?_|refine wp_exit' ?_)
        refine .inl ⟨rfl,by rw [h2,h2'],rfl⟩
      | succ m ih =>
        intro i hi
        obtain ⟨hi2,h2,h3⟩:=drop_getA hi
        obtain ⟨hi2',h2',h3'⟩:=drop_getA (he ▸ hi)
        have w2:IntKind.i64.wrap ((i:Int)+1)=((i+1:Nat):Int):=wrapS (by omega)
        have e1:=ev_lim (ev_equalInts t[i] u[i] false false (by have:=(ht.2 _ h3).1;omega) (by have:=(hu.2 _ h3').1;omega))
        rw [h2,h2']
        by_cases hx:t[i]=u[i]
        · rw [decide_eq_true hx] at e1
          refine wp_loop ?_
          repeat (first|apply wp_as|apply wp_ss|refine wr (by simp [hi2,hi2',w2,e1];with_reducible rfl) ?_|refine wq (by simp [hi2,hi2',w2,e1];with_reducible rfl) ?_|refine wt (by simpa [hi2,hi2',w2,e1]) ?_|refine wf (by simpa [hi2,hi2',w2,e1]) ?_|refine xt (by simpa [hi2,hi2',w2,e1]) ?_|refine xf (by simpa [hi2,hi2',w2,e1]) ?_|apply wp_bs|apply wp_b|refine wp_sr ?_|refine wp_sx ?_|refine wp_ret' ?_|refine wp_skip' ?_|refine wp_exit' ?_)
          have:=ih (i+1) (by omega)
          simp only [List.cons.injEq,true_and,ne_eq,hx] at this ⊢
          exact this
        · rw [decide_eq_false hx] at e1
          refine wp_loop ?_
          repeat (first|apply wp_as|apply wp_ss|refine wr (by simp [hi2,hi2',w2,e1];with_reducible rfl) ?_|refine wq (by simp [hi2,hi2',w2,e1];with_reducible rfl) ?_|refine wt (by simpa [hi2,hi2',w2,e1]) ?_|refine wf (by simpa [hi2,hi2',w2,e1]) ?_|refine xt (by simpa [hi2,hi2',w2,e1]) ?_|refine xf (by simpa [hi2,hi2',w2,e1]) ?_|apply wp_bs|apply wp_b|refine wp_sr ?_|refine wp_sx ?_|refine wp_ret' ?_|refine wp_skip' ?_|refine wp_exit' ?_)
          refine .inr ⟨rfl,by simp only [ne_eq,List.cons.injEq,hx,false_and,not_false_eq_true],rfl⟩
    refine call_of_wp zt54 rfl ?_
    repeat (first|apply wp_as|apply wp_ss|refine wr (by simp [he];with_reducible rfl) ?_|refine wq (by simp [he];with_reducible rfl) ?_|refine wt (by simpa [he]) ?_|refine wf (by simpa [he]) ?_|refine xt (by simpa [he]) ?_|refine xf (by simpa [he]) ?_|apply wp_bs|apply wp_b|refine wp_sr ?_|refine wp_sx ?_|refine wp_ret' ?_|refine wp_skip' ?_|refine wp_exit' ?_)
    refine wp_imp (loop t.length 0 (by simp)) ?_
    rintro ex st (⟨rfl,h,rfl⟩ | ⟨rfl,h,rfl⟩)
    · simp only [if_true]
      repeat (first|apply wp_as|apply wp_ss|refine wr (by simp;with_reducible rfl) ?_|refine wq (by simp;with_reducible rfl) ?_|refine wt (by simpa) ?_|refine wf (by simpa) ?_|refine xt (by simpa) ?_|refine xf (by simpa) ?_|apply wp_bs|apply wp_b|refine wp_sr ?_|refine wp_sx ?_|refine wp_ret' ?_|refine wp_skip' ?_|refine wp_exit' ?_)
      simp only [List.drop_zero] at h
      simp [zi54,h]
    · simp only [List.drop_zero] at h
      simp [zi54,h]
  · have hne:t ≠ u:=fun h=>he (by rw [h])
    have h2:((t.length:Int)=u.length) ↔ t.length=u.length:=by omega
    refine call_of_wp zt54 rfl ?_
    repeat (first|apply wp_as|apply wp_ss|refine wr (by simp [he,h2];with_reducible rfl) ?_|refine wq (by simp [he,h2];with_reducible rfl) ?_|refine wt (by simpa [he,h2]) ?_|refine wf (by simpa [he,h2]) ?_|refine xt (by simpa [he,h2]) ?_|refine xf (by simpa [he,h2]) ?_|apply wp_bs|apply wp_b|refine wp_sr ?_|refine wp_sx ?_|refine wp_ret' ?_|refine wp_skip' ?_|refine wp_exit' ?_)
    simp [zi54,hne]
end Go.Idl
namespace Go.Idl
open Go
@[simp] theorem get_mid {α:Type} (A bs:List α) (x:α):(A++x::bs)[A.length]? = some x:=by simp
@[simp] theorem set_mid {α:Type} (A bs:List α) (x y:α):(A++x::bs).set A.length y=A++y::bs:=by
  rw [List.set_append_right _ _ (Nat.le_refl _)];simp
@[simp] theorem set_last {α:Type} (A:List α) (x y:α):(A++[x]).set A.length y=A++[y]:=set_mid A [] x y
end Go.Idl
namespace Go.Idl
open Go
def ahead (x y:List Int) (i m:Nat):Bool:=(List.range m).all fun j=>decide ((y.take (i+j+1)).sum≤(x.take (i+j+1)).sum)
end Go.Idl
namespace Go.Idl
open Go
def Fit (es:List (Int×Int)):Prop:=∀ e ∈ es,-9223372036854775808≤e.1∧e.1 < 9223372036854775808∧-9223372036854775808≤e.2∧e.2 < 9223372036854775808
def below (a b:Int×Int):Bool:=decide (a.1 < b.1) || (decide (a.1=b.1) && decide (a.2 < b.2))
def okE (n:Int) (e:Int×Int):Bool:=decide (0≤e.1) && (decide (e.1 < e.2) && decide (e.2 < n))
def vEs (n:Int):Option (Int×Int)→List (Int×Int)→Bool
  | _,[]=>true
  | none,e::r=>okE n e && vEs n (some e) r
  | some q,e::r=>okE n e && (below q e && vEs n (some e) r)
def vGraph (n:Int) (es:List (Int×Int)):Bool:=vEs n none es && (decide (0≤n) && decide (n≤7))
theorem Fit.at {es:List (Int×Int)} (h:Fit es) {i:Nat} (hi:i < es.length):-9223372036854775808≤es[i].1∧es[i].1 < 9223372036854775808∧-9223372036854775808≤es[i].2∧es[i].2 < 9223372036854775808:=h _ (List.getElem_mem hi)
end Go.Idl
namespace Go.Idl
open Go
def nl2:List (Int×Int)→IV
  | []=>Z
  | e::es=>O2 (e::es)
@[simp] theorem nl2_nil:nl2 []=Z:=rfl
@[simp] theorem nl2_cons (e:Int×Int) (es:List (Int×Int)):nl2 (e::es)=O2 (e::es):=rfl
theorem nl2_app (acc:List (Int×Int)) (e:Int×Int):nl2 (acc++[e])=O2 (acc++[e]):=by
  cases acc <;> rfl
theorem ev_pairs_in (n a:Nat) (hn:n≤1000):∀ (m b:Nat) (acc:List (Int×Int)),b+m=n→acc.length+m≤2000000 →
    wp tb (.loop z216l9) { T:=[(0,I n),(3,nl2 acc),(4,I a),(5,I b),(6,I n),(7,I a)],loc:=[],M:=[] }
      (fun ex st=>ex=.exit 2∧st={ T:=[(0,I n),(3,nl2 (acc++row a b m)),(4,I a),(5,I n),(6,I n),(7,I a),(14,Bo false)],loc:=[],M:=[] }):=by
  intro m
  induction m with
  | zero =>
    intro b acc hb hl
    have h3:b=n:=hb
    subst h3
    refine wp_loop ?_
    cases acc with
    | nil =>
      repeat (first|apply wp_as|apply wp_ss|refine wr (by simp;with_reducible rfl) ?_|refine wq (by simp;with_reducible rfl) ?_|refine wt (by simpa) ?_|refine wf (by simpa) ?_|refine xt (by simpa) ?_|refine xf (by simpa) ?_|apply wp_bs|apply wp_b|refine wp_sr ?_|refine wp_sx ?_|refine wp_ret' ?_|refine wp_skip' ?_|refine wp_exit' ?_)
      exact ⟨rfl,by simp [row]⟩
    | cons e acc =>
      repeat (first|apply wp_as|apply wp_ss|refine wr (by simp;with_reducible rfl) ?_|refine wq (by simp;with_reducible rfl) ?_|refine wt (by simpa) ?_|refine wf (by simpa) ?_|refine xt (by simpa) ?_|refine xf (by simpa) ?_|apply wp_bs|apply wp_b|refine wp_sr ?_|refine wp_sx ?_|refine wp_ret' ?_|refine wp_skip' ?_|refine wp_exit' ?_)
      exact ⟨rfl,by simp [row]⟩
  | succ m ih =>
    intro b acc hb hl
    have hi2:b < n:=by omega
    have w1:IntKind.i64.wrap ((b:Int)+1)=((b+1:Nat):Int):=wrapS (by omega)
    have hn':=ih (b+1) (acc++[((a:Int),(b:Int))]) (by omega) (by simp;omega)
    rw [nl2_app] at hn'
    have hrow:acc++row a b (m+1)=(acc++[((a:Int),(b:Int))])++row a (b+1) m:=by simp [row]
    rw [hrow]
    have hl2:acc.length+1≤274877906944:=by omega
    cases acc with
    | nil =>
      refine wp_loop ?_
      repeat (first|apply wp_as|apply wp_ss|refine wr (by simp [hi2,w1];with_reducible rfl) ?_|refine wq (by simp [hi2,w1];with_reducible rfl) ?_|refine wt (by simpa [hi2,w1]) ?_|refine wf (by simpa [hi2,w1]) ?_|refine xt (by simpa [hi2,w1]) ?_|refine xf (by simpa [hi2,w1]) ?_|apply wp_bs|apply wp_b|refine wp_sr ?_|refine wp_sx ?_|refine wp_ret' ?_|refine wp_skip' ?_|refine wp_exit' ?_)
      exact hn'
    | cons e acc =>
      have ht:(e::acc).take (acc.length+1)=e::acc:=by rw [List.take_of_length_le (by simp)]
      have hl3:acc.length+1+1≤274877906944:=by simp at hl2;omega
      refine wp_loop ?_
      repeat (first|apply wp_as|apply wp_ss|refine wr (by simp [hi2,w1,hl3,ht];with_reducible rfl) ?_|refine wq (by simp [hi2,w1,hl3,ht];with_reducible rfl) ?_|refine wt (by simpa [hi2,w1,hl3,ht]) ?_|refine wf (by simpa [hi2,w1,hl3,ht]) ?_|refine xt (by simpa [hi2,w1,hl3,ht]) ?_|refine xf (by simpa [hi2,w1,hl3,ht]) ?_|apply wp_bs|apply wp_b|refine wp_sr ?_|refine wp_sx ?_|refine wp_ret' ?_|refine wp_skip' ?_|refine wp_exit' ?_)
      exact hn'
theorem ev_impl_pairs (n:Nat) (hn:n≤1000):Ev tb zl216 [] [I n] [] ⟨nl2 (prs n),[],[],[]⟩:=by
  have loop:∀ (m a:Nat) (acc:List (Int×Int)),a+m=n→acc.length+m * 1001≤1500000→wp tb (.loop z216l11) { T:=[(0,I n),(3,nl2 acc),(6,I n),(7,I a)],loc:=[],M:=[] }
      (fun ex st=>ex=.exit 0∧st={ T:=[(0,I n),(3,nl2 (acc++prsF a m)),(6,I n),(7,I n),(8,Bo false)],loc:=[],M:=[] }):=by
    intro m
    induction m with
    | zero =>
      intro a acc ha hl
      have h3:a=n:=ha
      subst h3
      refine wp_loop ?_
      cases acc with
      | nil =>
        repeat (first|apply wp_as|apply wp_ss|refine wr (by simp;with_reducible rfl) ?_|refine wq (by simp;with_reducible rfl) ?_|refine wt (by simpa) ?_|refine wf (by simpa) ?_|refine xt (by simpa) ?_|refine xf (by simpa) ?_|apply wp_bs|apply wp_b|refine wp_sr ?_|refine wp_sx ?_|refine wp_ret' ?_|refine wp_skip' ?_|refine wp_exit' ?_)
        exact ⟨rfl,by simp [prsF]⟩
      | cons e acc =>
        repeat (first|apply wp_as|apply wp_ss|refine wr (by simp;with_reducible rfl) ?_|refine wq (by simp;with_reducible rfl) ?_|refine wt (by simpa) ?_|refine wf (by simpa) ?_|refine xt (by simpa) ?_|refine xf (by simpa) ?_|apply wp_bs|apply wp_b|refine wp_sr ?_|refine wp_sx ?_|refine wp_ret' ?_|refine wp_skip' ?_|refine wp_exit' ?_)
        exact ⟨rfl,by simp [prsF]⟩
    | succ m ih =>
      intro a acc ha hl
      have hi2:a < n:=by omega
      have w1:IntKind.i64.wrap ((a:Int)+1)=((a+1:Nat):Int):=wrapS (by omega)
      have hin:=ev_pairs_in n a hn m (a+1) acc (by omega) (by omega)
      have hout:=ih (a+1) (acc++row a (a+1) m) (by omega) (by rw [List.length_append,row_len,Nat.succ_mul] at *;omega)
      have hr:acc++prsF a (m+1)=(acc++row a (a+1) m)++prsF (a+1) m:=by simp [prsF]
      rw [hr]
      generalize acc++row a (a+1) m=acc2 at *
      refine wp_loop ?_
      cases acc with
      | nil =>
        repeat (first|apply wp_as|apply wp_ss|refine wr (by simp [hi2,w1];with_reducible rfl) ?_|refine wq (by simp [hi2,w1];with_reducible rfl) ?_|refine wt (by simpa [hi2,w1]) ?_|refine wf (by simpa [hi2,w1]) ?_|refine xt (by simpa [hi2,w1]) ?_|refine xf (by simpa [hi2,w1]) ?_|apply wp_bs|apply wp_b|refine wp_sr ?_|refine wp_sx ?_|refine wp_ret' ?_|refine wp_skip' ?_|refine wp_exit' ?_)
        refine wp_imp hin ?_
        rintro ex st ⟨rfl,rfl⟩
        try simp only [if_true]
        cases acc2 <;>
        repeat (first|apply wp_as|apply wp_ss|refine wr (by simp [w1];with_reducible rfl) ?_|refine wq (by simp [w1];with_reducible rfl) ?_|refine wt (by simpa [w1]) ?_|refine wf (by simpa [w1]) ?_|refine xt (by simpa [w1]) ?_|refine xf (by simpa [w1]) ?_|apply wp_bs|apply wp_b|refine wp_sr ?_|refine wp_sx ?_|refine wp_ret' ?_|refine wp_skip' ?_|refine wp_exit' ?_)
        · exact hout
        · exact hout
      | cons e acc =>
        repeat (first|apply wp_as|apply wp_ss|refine wr (by simp [hi2,w1];with_reducible rfl) ?_|refine wq (by simp [hi2,w1];with_reducible rfl) ?_|refine wt (by simpa [hi2,w1]) ?_|refine wf (by simpa [hi2,w1]) ?_|refine xt (by simpa [hi2,w1]) ?_|refine xf (by simpa [hi2,w1]) ?_|apply wp_bs|apply wp_b|refine wp_sr ?_|refine wp_sx ?_|refine wp_ret' ?_|refine wp_skip' ?_|refine wp_exit' ?_)
        refine wp_imp hin ?_
        rintro ex st ⟨rfl,rfl⟩
        try simp only [if_true]
        cases acc2 <;>
        repeat (first|apply wp_as|apply wp_ss|refine wr (by simp [w1];with_reducible rfl) ?_|refine wq (by simp [w1];with_reducible rfl) ?_|refine wt (by simpa [w1]) ?_|refine wf (by simpa [w1]) ?_|refine xt (by simpa [w1]) ?_|refine xf (by simpa [w1]) ?_|apply wp_bs|apply wp_b|refine wp_sr ?_|refine wp_sx ?_|refine wp_ret' ?_|refine wp_skip' ?_|refine wp_exit' ?_)
        · exact hout
        · exact hout
  refine call_of_wp zt216 rfl ?_
  repeat (first|apply wp_as|apply wp_ss|refine wr (by simp;with_reducible rfl) ?_|refine wq (by simp;with_reducible rfl) ?_|refine wt (by simpa) ?_|refine wf (by simpa) ?_|refine xt (by simpa) ?_|refine xf (by simpa) ?_|apply wp_bs|apply wp_b|refine wp_sr ?_|refine wp_sx ?_|refine wp_ret' ?_|refine wp_skip' ?_|refine wp_exit' ?_)
  refine wp_imp (loop n 0 [] (by simp) (by simp;omega)) ?_
  rintro ex st ⟨rfl,rfl⟩
  try simp only [if_true]
  rw [List.nil_append,← prs]
  cases hp:prs n <;>
  repeat (first|apply wp_as|apply wp_ss|refine wr (by simp;with_reducible rfl) ?_|refine wq (by simp;with_reducible rfl) ?_|refine wt (by simpa) ?_|refine wf (by simpa) ?_|refine xt (by simpa) ?_|refine xf (by simpa) ?_|apply wp_bs|apply wp_b|refine wp_sr ?_|refine wp_sx ?_|refine wp_ret' ?_|refine wp_skip' ?_|refine wp_exit' ?_)
  · simp [zi216]
  · simp [zi216]
end Go.Idl
namespace Go.Idl
open Go
theorem ev_Clip2 (xs:List (Int×Int)):Ev tb zl258 [] [O2 xs] [] ⟨O2 xs,[],[],[]⟩:=by
  refine call_of_wp zt258 rfl ?_
  repeat (first|apply wp_as|apply wp_ss|refine wr (by simp;with_reducible rfl) ?_|refine wq (by simp;with_reducible rfl) ?_|refine wt (by simpa) ?_|refine wf (by simpa) ?_|refine xt (by simpa) ?_|refine xf (by simpa) ?_|apply wp_bs|apply wp_b|refine wp_sr ?_|refine wp_sx ?_|refine wp_ret' ?_|refine wp_skip' ?_|refine wp_exit' ?_)
  simp [zi258]
end Go.Idl
namespace Go.Idl
open Go
def decAt (o:List Int) (i:Nat):List Int:=o.set i (o.getD i 0 - 1)
def subs:List (Int×Int)→List Int→List (Int×Int)→List (List (Int×Int))
  | [],left,chosen=>if left.all (fun x=>decide (x=0)) then [chosen] else []
  | e::r,left,chosen =>
    (if 0 < left.getD e.1.toNat 0∧0 < left.getD e.2.toNat 0 then subs r (decAt (decAt left e.1.toNat) e.2.toNat) (chosen++[e]) else [])++subs r left chosen
def upTo (more:List (Int×Int)→Bool):List (List (Int×Int))→List (List (Int×Int))×Bool
  | []=>([],true)
  | g::r=>if more g then (g::(upTo more r).1,(upTo more r).2) else ([g],false)
theorem upTo_app (more) (a b:List (List (Int×Int))):upTo more (a++b)=if (upTo more a).2 then ((upTo more a).1++(upTo more b).1,(upTo more b).2) else upTo more a:=by
  induction a with
  | nil=>simp [upTo]
  | cons g r ih =>
    simp only [List.cons_append,upTo,ih]
    by_cases hm:more g=true
    · simp only [if_pos hm]
      by_cases hq:(upTo more r).2=true <;> simp [hq]
    · simp only [if_neg hm];simp
def EdRep (x:IV) (es:List (Int×Int)):Prop:=x=O2 es ∨ (es=[]∧x=Z)
theorem ev_Clone2 (e0:Nat) (es:List (Int×Int)) (c:Bool) (he0:e0=2 ∨ es=[]) (hl:es.length≤2000000):Ev tb zl261 [] [.lst e0 (eds es) c] [] ⟨O2 es,[],[],[]⟩:=by
  rcases he0 with rfl | rfl
  · refine call_of_wp zt261 rfl ?_
    refine wp_rs (by simp;rfl) (by simp;rfl) ?_
    refine wp_nil2 (b:=es.isEmpty) (by simp [z261r1];rfl) (by simp) ?_ ?_ ?_ (ex:=.ret) (st':={ T:=[(2,.own 2 (eds es))],loc:=[],M:=[] })
    · refine wp_ct (t:=false) (by simp) (by simp) fun _=>wp_ss ?_
      refine wp_rs (by simp [show es.length≤274877906944 by omega];rfl) (by simp;rfl) ?_
      refine wp_ret' ?_
      simp
    · intro he
      have:es=[]:=by simpa using he
      subst this
      refine wp_ct (t:=true) (by simp) (fun _=>wp_as ?_) (by simp)
      refine wp_rs (by simp;rfl) (by simp;rfl) ?_
      refine wp_sr ?_
      simp
    · simp [zi261]
  · refine call_of_wp zt261 rfl ?_
    refine wp_rs (by simp;rfl) (by simp;rfl) ?_
    refine wp_nil2 (b:=([]:List (Int×Int)).isEmpty) (by simp [z261r1];rfl) (by simp) ?_ ?_ ?_ (ex:=.ret) (st':={ T:=[(2,.own 2 (eds ([]:List (Int×Int))))],loc:=[],M:=[] })
    · refine wp_ct (t:=false) (by simp) (by simp) fun _=>wp_ss ?_
      refine wp_rs (by simp;rfl) (by simp;rfl) ?_
      refine wp_ret' ?_
      simp
    · intro he
      refine wp_ct (t:=true) (by simp) (fun _=>wp_as ?_) (by simp)
      refine wp_rs (by simp;rfl) (by simp;rfl) ?_
      refine wp_sr ?_
      simp
    · simp [zi261]
theorem ev_clone2 (e0:Nat) (es:List (Int×Int)) (c:Bool) (he0:e0=2 ∨ es=[]) (hl:es.length≤2000000):Ev tb zl204 [] [.lst e0 (eds es) c] [] ⟨O2 es,[],[],[]⟩:=by
  have e1:=ev_lim (ev_Clone2 e0 es c he0 hl)
  have e2:=ev_lim (ev_Clip2 es)
  refine call_of_wp zt204 rfl ?_
  repeat (first|apply wp_as|apply wp_ss|refine wr (by simp [e1,e2];with_reducible rfl) ?_|refine wq (by simp [e1,e2];with_reducible rfl) ?_|refine wt (by simpa [e1,e2]) ?_|refine wf (by simpa [e1,e2]) ?_|refine xt (by simpa [e1,e2]) ?_|refine xf (by simpa [e1,e2]) ?_|apply wp_bs|apply wp_b|refine wp_sr ?_|refine wp_sx ?_|refine wp_ret' ?_|refine wp_skip' ?_|refine wp_exit' ?_)
  simp [zi204]
end Go.Idl
namespace Go.Idl
open Go
def RT (w h:Nat) (t:List (List Int)):Prop:=t.length=w∧∀ r ∈ t,r.length=h
def set2 (t:List (List Int)) (i j:Nat) (v:Int):List (List Int):=t.set i ((t.getD i []).set j v)
theorem RT.set2 {w h:Nat} {t:List (List Int)} (ht:RT w h t) (i j:Nat) (v:Int) (hi:i < w):RT w h (set2 t i j v):=by
  have hi2:i < t.length:=by rw [ht.1];exact hi
  refine ⟨by simp [Go.Idl.set2,ht.1],fun r hr=>?_⟩
  rcases List.mem_or_eq_of_mem_set hr with hr | rfl
  · exact ht.2 r hr
  · have:t.getD i []=t[i]:=by simp [List.getD_eq_getElem?_getD,List.getElem?_eq_getElem hi2]
    rw [this,List.length_set]
    exact ht.2 _ (List.getElem_mem hi2)
def upT {α:Type} (more:α→Bool):List α→List α×Bool
  | []=>([],true)
  | g::r=>if more g then (g::(upT more r).1,(upT more r).2) else ([g],false)
theorem upT_app {α:Type} (more:α→Bool) (a b:List α):upT more (a++b)=if (upT more a).2 then ((upT more a).1++(upT more b).1,(upT more b).2) else upT more a:=by
  induction a with
  | nil=>simp [upT]
  | cons g r ih =>
    simp only [List.cons_append,upT,ih]
    by_cases hm:more g=true
    · simp only [if_pos hm]
      by_cases hq:(upT more r).2=true <;> simp [hq]
    · simp only [if_neg hm];simp
def mts (may:Nat→Nat→Bool) (h:Nat):Nat→Nat→List Int→List Int→List (List Int)→List (List (List Int))
  | 0,_,l,r,t=>if 0 < l.sum ∨ 0 < r.sum then [] else [t]
  | m+1,k,l,r,t=>if (h:Int) - ((k % h:Nat):Int) < l.getD (k / h) 0 then [] else
     (if may (k / h) (k % h)=true∧0 < l.getD (k / h) 0∧0 < r.getD (k % h) 0 then mts may h m (k+1) (decAt l (k / h)) (decAt r (k % h)) (set2 t (k / h) (k % h) 1) else []) ++
     mts may h m (k+1) l r t
def capsM:List IV:=[.bptr 1 0 0,.bptr 1 1 0,.bptr 1 4 0,.bptr 1 5 0,.bptr 1 3 0,.bptr 1 6 0,.bptr 1 2 0,.bptr 1 7 0]
def boxM (rows cols:List Int) (cr cc:Bool) (A:Lab) (F:Lab) (caps:List IV) (l r:List Int) (t:List (List Int)):Boxes :=
  [[L rows cr],[L cols cc],[.fn A []],[.fn F caps],[O l],[O r],[OT t],[.fn zl413 capsM]]
def CallsBackM (w h:Nat) (F:Lab) (caps:List IV) (more:List (List Int)→Bool) (P:List (List (List Int))→Boxes→Prop):Prop :=
  ∀ gl bs t,P gl bs→gl.length≤40000000→RT w h t→∃ bs',P (gl++[t]) bs'∧∀ B Es,Ev tb F [] (OT t::caps) (bs::B::Es) ⟨Bo (more t),[],bs'::B::Es,[]⟩
theorem tabF_selfR {w h:Nat} {t:List (List Int)} (ht:RT w h t):tabF w h (g2 t)=t:=by
  refine List.ext_getElem (by simp [tabF,ht.1]) fun i h1 h2=>?_
  have hr:=ht.2 _ (List.getElem_mem h2)
  refine List.ext_getElem (by simp [tabF,mapR,hr]) fun k h3 h4=>?_
  simp [tabF,mapR,g2_eq h2 h4]
theorem ev_copyTableR (w h:Nat) (t:List (List Int)) (c:Bool) (ht:RT w h t) (h0:0 < w) (hw:w≤5) (hh:h≤5) :
    Ev tb zl33 [] [TL t c] [] ⟨OT t,[],[],[]⟩:=by
  have hl:=ht.1
  have h0':0 < t.length:=by omega
  have hr0:=ht.2 _ (List.getElem_mem h0')
  have e2:=ev_lim (ev_table w h zl34 [.bptr 0 0 0] [[[TL t c]]] (g2 t) (by omega) (by omega)
    (fun i k hi hk=>ev_copyTable_F1 t c i k (by omega) (by have:=ht.2 _ (List.getElem_mem (by omega:i < t.length));omega)))
  rw [tabF_selfR ht] at e2
  refine call_of_wp zt33 rfl ?_
  repeat (first|apply wp_as|apply wp_ss|refine wr (by simp [e2,h0,h0',hr0,hl];with_reducible rfl) ?_|refine wq (by simp [e2,h0,h0',hr0,hl];with_reducible rfl) ?_|refine wt (by simpa [e2,h0,h0',hr0,hl]) ?_|refine wf (by simpa [e2,h0,h0',hr0,hl]) ?_|refine xt (by simpa [e2,h0,h0',hr0,hl]) ?_|refine xf (by simpa [e2,h0,h0',hr0,hl]) ?_|apply wp_bs|apply wp_b|refine wp_sr ?_|refine wp_sx ?_|refine wp_ret' ?_|refine wp_skip' ?_|refine wp_exit' ?_)
  simp [zi33]
def Lil (xs:List Int):Prop:=∀ x ∈ xs,0≤x∧x≤1000
theorem Lil.sum {xs:List Int} (h:Lil xs):0≤xs.sum∧xs.sum≤1000 * xs.length:=by
  induction xs with
  | nil=>simp
  | cons x r ih =>
    have h1:=h x (by simp)
    have h2:=ih fun y hy=>h y (by simp [hy])
    simp only [List.sum_cons,List.length_cons];omega
theorem Lil.small {xs:List Int} (h:Lil xs) (hl:xs.length≤1000):SmallSum xs:=⟨by omega,fun k=>by
  have h1:Lil (xs.take k):=fun x hx=>h x (List.mem_of_mem_take hx)
  have h2:=h1.sum
  have h3:(xs.take k).length≤xs.length:=by simp;omega
  omega⟩
theorem Lil.dec {xs:List Int} (h:Lil xs) {i:Nat} (h0:0 < xs.getD i 0):Lil (decAt xs i):=fun x hx=>by
  rcases List.mem_or_eq_of_mem_set hx with hx | rfl
  · exact h x hx
  · rw [List.getD_eq_getElem?_getD] at h0 ⊢
    cases ho:xs[i]? with
    | none=>rw [ho] at h0;simp at h0
    | some y=>rw [ho] at h0;have:=h y (List.mem_of_getElem? ho);simp at h0 ⊢;omega
theorem mt_end (w h:Nat) (rows cols:List Int) (cr cc:Bool) (A F:Lab) (caps:List IV) (more:List (List Int)→Bool) (P:List (List (List Int))→Boxes→Prop) (hcb:CallsBackM w h F caps more P)
    (h0:0 < w) (hw:w≤5) (hh:h≤5) (hrl:rows.length=w) (hcl:cols.length=h) (may:Nat→Nat→Bool) (l r:List Int) (t:List (List Int)) (gl:List (List (List Int))) (bs:Boxes) (Es:List Boxes) (hP:P gl bs) (hgl:gl.length≤40000000)
    (hl:Lil l) (hr:Lil r) (hll:l.length=w) (hrr:r.length=h) (ht:RT w h t) (k:Nat) (hk:k=w * h) :
    ∃ bs',P (gl++(upT more (mts may h 0 k l r t)).1) bs' ∧
      Ev tb zl413 [] (I k::capsM) (bs::boxM rows cols cr cc A F caps l r t::Es) ⟨Bo (upT more (mts may h 0 k l r t)).2,[],bs'::boxM rows cols cr cc A F caps l r t::Es,[]⟩:=by
  have e1:=fun c=>ev_lim (ev_sum l c (hl.small (by omega)))
  have e2:=fun c=>ev_lim (ev_sum r c (hr.small (by omega)))
  have hlt:l.take w=l:=List.take_of_length_le (by omega)
  have hrt:r.take h=r:=List.take_of_length_le (by omega)
  have htt:t.take w=t:=List.take_of_length_le (by rw [ht.1];omega)
  have hw5:IntKind.i64.wrap ((w:Int) * (h:Int))=(k:Int):=by
    have:w * h≤5 * 5:=Nat.mul_le_mul hw hh
    have h3:((w:Int) * (h:Int))=((w * h:Nat):Int):=by omega
    rw [h3,← hk];exact wrap64 (by omega) (by omega)
  unfold mts
  by_cases hs:0 < l.sum ∨ 0 < r.sum
  · rw [if_pos hs]
    refine ⟨bs,by simpa [upT] using hP,?_⟩
    simp only [upT,boxM,capsM]
    by_cases hs1:0 < l.sum
    · refine call_of_wp zt413 rfl ?_
      repeat (first|apply wp_as|apply wp_ss|refine wr (by simp [hrl,hcl,hw5];with_reducible rfl) ?_|refine wq (by simp [hrl,hcl,hw5];with_reducible rfl) ?_|refine wt (by simpa [hrl,hcl,hw5]) ?_|refine wf (by simpa [hrl,hcl,hw5]) ?_|refine xt (by simpa [hrl,hcl,hw5]) ?_|refine xf (by simpa [hrl,hcl,hw5]) ?_|apply wp_bs|apply wp_b|refine wp_sr ?_|refine wp_sx ?_|refine wp_ret' ?_|refine wp_skip' ?_|refine wp_exit' ?_)
      refine wp_ra (by simp [e1,e2,hll,hrr,hlt,hrt,hs1];with_reducible rfl) (by simp;with_reducible rfl) ?_ ?_
      · intro p hp
        simp only [List.mem_cons,List.not_mem_nil,or_false] at hp
        subst hp
        exact ⟨_,by simp [e1,e2,hll,hrr,hlt,hrt,hs1];with_reducible rfl,by simp⟩
      repeat (first|apply wp_as|apply wp_ss|refine wr (by simp;with_reducible rfl) ?_|refine wq (by simp;with_reducible rfl) ?_|refine wt (by simpa) ?_|refine wf (by simpa) ?_|refine xt (by simpa) ?_|refine xf (by simpa) ?_|apply wp_bs|apply wp_b|refine wp_sr ?_|refine wp_sx ?_|refine wp_ret' ?_|refine wp_skip' ?_|refine wp_exit' ?_)
      simp [zi413]
    · have hs2:0 < r.sum:=hs.resolve_left hs1
      refine call_of_wp zt413 rfl ?_
      repeat (first|apply wp_as|apply wp_ss|refine wr (by simp [hrl,hcl,hw5];with_reducible rfl) ?_|refine wq (by simp [hrl,hcl,hw5];with_reducible rfl) ?_|refine wt (by simpa [hrl,hcl,hw5]) ?_|refine wf (by simpa [hrl,hcl,hw5]) ?_|refine xt (by simpa [hrl,hcl,hw5]) ?_|refine xf (by simpa [hrl,hcl,hw5]) ?_|apply wp_bs|apply wp_b|refine wp_sr ?_|refine wp_sx ?_|refine wp_ret' ?_|refine wp_skip' ?_|refine wp_exit' ?_)
      refine wp_ra (by simp [e1,e2,hll,hrr,hlt,hrt,hs1,hs2];with_reducible rfl) (by simp;with_reducible rfl) ?_ ?_
      · intro p hp
        simp only [List.mem_cons,List.not_mem_nil,or_false] at hp
        subst hp
        exact ⟨_,by simp [e1,e2,hll,hrr,hlt,hrt,hs1,hs2];with_reducible rfl,by simp⟩
      repeat (first|apply wp_as|apply wp_ss|refine wr (by simp;with_reducible rfl) ?_|refine wq (by simp;with_reducible rfl) ?_|refine wt (by simpa) ?_|refine wf (by simpa) ?_|refine xt (by simpa) ?_|refine xf (by simpa) ?_|apply wp_bs|apply wp_b|refine wp_sr ?_|refine wp_sx ?_|refine wp_ret' ?_|refine wp_skip' ?_|refine wp_exit' ?_)
      simp [zi413]
  · rw [if_neg hs]
    have hs1:¬ 0 < l.sum:=fun q=>hs (.inl q)
    have hs2:¬ 0 < r.sum:=fun q=>hs (.inr q)
    obtain ⟨bs',hP',hF⟩:=hcb gl bs t hP hgl ht
    have hu:upT more [t]=([t],more t):=by simp only [upT];cases more t <;> rfl
    rw [hu]
    refine ⟨bs',hP',?_⟩
    have e3:=fun B Es=>ev_lim (hF B Es)
    have e4:=fun c=>ev_lim (ev_copyTableR w h t c ht h0 hw hh)
    have htl:=ht.1
    generalize more t=b at *
    simp only [boxM,capsM] at e3 ⊢
    refine call_of_wp zt413 rfl ?_
    repeat (first|apply wp_as|apply wp_ss|refine wr (by simp [hrl,hcl,hw5];with_reducible rfl) ?_|refine wq (by simp [hrl,hcl,hw5];with_reducible rfl) ?_|refine wt (by simpa [hrl,hcl,hw5]) ?_|refine wf (by simpa [hrl,hcl,hw5]) ?_|refine xt (by simpa [hrl,hcl,hw5]) ?_|refine xf (by simpa [hrl,hcl,hw5]) ?_|apply wp_bs|apply wp_b|refine wp_sr ?_|refine wp_sx ?_|refine wp_ret' ?_|refine wp_skip' ?_|refine wp_exit' ?_)
    refine wp_ra (by simp [e1,e2,e3,e4,hll,hrr,hlt,hrt,hs1,hs2,htl,htt];with_reducible rfl) (by simp;with_reducible rfl) ?_ ?_
    · intro p hp
      simp only [List.mem_cons,List.not_mem_nil,or_false] at hp
      subst hp
      exact ⟨_,by simp [e1,e2,e3,e4,hll,hrr,hlt,hrt,hs1,hs2,htl,htt];with_reducible rfl,by simp⟩
    repeat (first|apply wp_as|apply wp_ss|refine wr (by simp;with_reducible rfl) ?_|refine wq (by simp;with_reducible rfl) ?_|refine wt (by simpa) ?_|refine wf (by simpa) ?_|refine xt (by simpa) ?_|refine xf (by simpa) ?_|apply wp_bs|apply wp_b|refine wp_sr ?_|refine wp_sx ?_|refine wp_ret' ?_|refine wp_skip' ?_|refine wp_exit' ?_)
    simp [zi413]
end Go.Idl
namespace Go.Idl
open Go
structure Cel (w h k i j:Nat):Prop where
  w5:w≤5
  h5:h≤5
  lt:k < w * h
  iw:i < w
  jh:j < h
  q1:(k:Int).tdiv (h:Int)=(i:Int)
  q2:(k:Int).tmod (h:Int)=(j:Int)
theorem Cel.mk2 {w h k:Nat} (hw:w≤5) (hh:h≤5) (hk:k < w * h):Cel w h k (k / h) (k % h):=by
  have h0:0 < h:=by rcases Nat.eq_zero_or_pos h with rfl | h0;simp at hk;exact h0
  refine ⟨hw,hh,hk,Nat.div_lt_of_lt_mul (by rw [Nat.mul_comm];exact hk),Nat.mod_lt _ h0,?_,?_⟩
  · rw [Int.tdiv_eq_ediv_of_nonneg (by omega)];rfl
  · rw [Int.tmod_eq_emod_of_nonneg (by omega)];rfl
theorem Cel.n {w h k i j:Nat} (c:Cel w h k i j):IntKind.i64.wrap ((w:Int) * (h:Int))=((w * h:Nat):Int):=by
  have h1:w * h≤5 * 5:=Nat.mul_le_mul c.w5 c.h5
  rw [show ((w:Int) * (h:Int))=((w * h:Nat):Int) by omega]
  exact wrap64 (by omega) (by omega)
theorem Cel.k25 {w h k i j:Nat} (c:Cel w h k i j):k < 25:=by
  have h1:w * h≤5 * 5:=Nat.mul_le_mul c.w5 c.h5
  have:=c.lt;omega
section
variable (w h:Nat) (rows cols:List Int) (cr cc:Bool) (A F:Lab) (caps:List IV) (hrl:rows.length=w) (hcl:cols.length=h) (may:Nat→Nat→Bool)
  (k i j:Nat) (hC:Cel w h k i j) (l r:List Int) (hll:l.length=w) (hrr:r.length=h) (t:List (List Int)) (il:i < l.length) (jr:j < r.length)
include hrl hcl hC hll hrr in
theorem mt_over (bl:l[i]≤1000) (hov:(h:Int) - (j:Int) < l[i]) (bs:Boxes) (Es:List Boxes) :
    Ev tb zl413 [] (I k::capsM) (bs::boxM rows cols cr cc A F caps l r t::Es) ⟨Bo true,[],bs::boxM rows cols cr cc A F caps l r t::Es,[]⟩:=by
  obtain ⟨w5,h5,lt,iw,jh,q1,q2⟩:=id hC
  have w1:=hC.n
  have k25:=hC.k25
  have w2:IntKind.i64.wrap (i:Int)=(i:Int):=wrap64 (by omega) (by omega)
  have w3:IntKind.i64.wrap (j:Int)=(j:Int):=wrap64 (by omega) (by omega)
  have w4:IntKind.i64.wrap ((h:Int) - (j:Int))=(h:Int) - (j:Int):=wrap64 (by omega) (by omega)
  have hne:¬ k=w * h:=by omega
  have hh0:¬ h=0:=by omega
  generalize w * h=N at *
  have hnf:((k:Int) == (N:Int))=false:=by simp;omega
  have hnf2:¬ (k:Int)=(N:Int):=by omega
  simp only [boxM,capsM]
  refine call_of_wp zt413 rfl ?_
  repeat (first|apply wp_as|apply wp_ss|refine wr (by simp [hrl,hcl,w1,w2,w3,w4,hne,hnf,hnf2,hh0,q1,q2,il,hov,hll,iw];with_reducible rfl) ?_|refine wq (by simp [hrl,hcl,w1,w2,w3,w4,hne,hnf,hnf2,hh0,q1,q2,il,hov,hll,iw];with_reducible rfl) ?_|refine wt (by simpa [hrl,hcl,w1,w2,w3,w4,hne,hnf,hnf2,hh0,q1,q2,il,hov,hll,iw]) ?_|refine wf (by simpa [hrl,hcl,w1,w2,w3,w4,hne,hnf,hnf2,hh0,q1,q2,il,hov,hll,iw]) ?_|refine xt (by simpa [hrl,hcl,w1,w2,w3,w4,hne,hnf,hnf2,hh0,q1,q2,il,hov,hll,iw]) ?_|refine xf (by simpa [hrl,hcl,w1,w2,w3,w4,hne,hnf,hnf2,hh0,q1,q2,il,hov,hll,iw]) ?_|apply wp_bs|apply wp_b|refine wp_sr ?_|refine wp_sx ?_|refine wp_ret' ?_|refine wp_skip' ?_|refine wp_exit' ?_)
  refine wp_ra (by simp [hrl,hcl,w1,w2,w3,w4,hne,hnf,hnf2,hh0,q1,q2,il,hov,hll,iw];with_reducible rfl) (by simp;with_reducible rfl) ?_ ?_
  · intro p hp
    simp only [List.mem_cons,List.not_mem_nil,or_false] at hp
    subst hp
    exact ⟨_,by simp [hrl,hcl,w1,w2,w3,w4,hne,hnf,hnf2,hh0,q1,q2,il,hov,hll,iw];with_reducible rfl,by simp⟩
  repeat (first|apply wp_as|apply wp_ss|refine wr (by simp [hrl,hcl,w1,w2,w3,w4,hne,hnf,hnf2,hh0,q1,q2,il,hov,hll,iw];with_reducible rfl) ?_|refine wq (by simp [hrl,hcl,w1,w2,w3,w4,hne,hnf,hnf2,hh0,q1,q2,il,hov,hll,iw];with_reducible rfl) ?_|refine wt (by simpa [hrl,hcl,w1,w2,w3,w4,hne,hnf,hnf2,hh0,q1,q2,il,hov,hll,iw]) ?_|refine wf (by simpa [hrl,hcl,w1,w2,w3,w4,hne,hnf,hnf2,hh0,q1,q2,il,hov,hll,iw]) ?_|refine xt (by simpa [hrl,hcl,w1,w2,w3,w4,hne,hnf,hnf2,hh0,q1,q2,il,hov,hll,iw]) ?_|refine xf (by simpa [hrl,hcl,w1,w2,w3,w4,hne,hnf,hnf2,hh0,q1,q2,il,hov,hll,iw]) ?_|apply wp_bs|apply wp_b|refine wp_sr ?_|refine wp_sx ?_|refine wp_ret' ?_|refine wp_skip' ?_|refine wp_exit' ?_)
  simp [zi413]
include hrl hcl hC hll hrr in
theorem mt_skip (hA:∀ M:List Boxes,Ev tb A [] [I i,I j] M ⟨Bo (may i j),[],M,[]⟩) (hov:¬ (h:Int) - (j:Int) < l[i])
    (hno:¬ (may i j=true∧0 < l[i]∧0 < r[j])) (bs bs':Boxes) (Es:List Boxes) (b:Bool)
    (e1:Ev tb zl413 [] (I ((k+1:Nat):Int)::capsM) (bs::boxM rows cols cr cc A F caps l r t::(Es++[[]])) ⟨Bo b,[],bs'::boxM rows cols cr cc A F caps l r t::(Es++[[]]),[]⟩) :
    Ev tb zl413 [] (I k::capsM) (bs::boxM rows cols cr cc A F caps l r t::Es) ⟨Bo b,[],bs'::boxM rows cols cr cc A F caps l r t::Es,[]⟩:=by
  obtain ⟨w5,h5,lt,iw,jh,q1,q2⟩:=id hC
  have w1:=hC.n
  have k25:=hC.k25
  have w2:IntKind.i64.wrap (i:Int)=(i:Int):=wrap64 (by omega) (by omega)
  have w3:IntKind.i64.wrap (j:Int)=(j:Int):=wrap64 (by omega) (by omega)
  have w4:IntKind.i64.wrap ((h:Int) - (j:Int))=(h:Int) - (j:Int):=wrap64 (by omega) (by omega)
  have w6:IntKind.i64.wrap ((k:Int)+1)=(k:Int)+1:=wrap64 (by omega) (by omega)
  have hne:¬ k=w * h:=by omega
  have hh0:¬ h=0:=by omega
  have e1:=ev_lim e1
  rw [show ((k+1:Nat):Int)=(k:Int)+1 by omega] at e1
  have e2:=fun M=>ev_lim (hA M)
  generalize w * h=N at *
  have hnf:((k:Int) == (N:Int))=false:=by simp;omega
  have hnf2:¬ (k:Int)=(N:Int):=by omega
  simp only [boxM,capsM] at e1 ⊢
  cases hm:may i j with
  | false =>
    rw [hm] at e2
    refine call_of_wp zt413 rfl ?_
    repeat (first|apply wp_as|apply wp_ss|refine wr (by simp [hrl,hcl,w1,w2,w3,w4,hne,hnf,hnf2,hh0,q1,q2,il,jr,hov,hll,hrr,iw,jh,e1,e2,w6];with_reducible rfl) ?_|refine wq (by simp [hrl,hcl,w1,w2,w3,w4,hne,hnf,hnf2,hh0,q1,q2,il,jr,hov,hll,hrr,iw,jh,e1,e2,w6];with_reducible rfl) ?_|refine wt (by simpa [hrl,hcl,w1,w2,w3,w4,hne,hnf,hnf2,hh0,q1,q2,il,jr,hov,hll,hrr,iw,jh,e1,e2,w6]) ?_|refine wf (by simpa [hrl,hcl,w1,w2,w3,w4,hne,hnf,hnf2,hh0,q1,q2,il,jr,hov,hll,hrr,iw,jh,e1,e2,w6]) ?_|refine xt (by simpa [hrl,hcl,w1,w2,w3,w4,hne,hnf,hnf2,hh0,q1,q2,il,jr,hov,hll,hrr,iw,jh,e1,e2,w6]) ?_|refine xf (by simpa [hrl,hcl,w1,w2,w3,w4,hne,hnf,hnf2,hh0,q1,q2,il,jr,hov,hll,hrr,iw,jh,e1,e2,w6]) ?_|apply wp_bs|apply wp_b|refine wp_sr ?_|refine wp_sx ?_|refine wp_ret' ?_|refine wp_skip' ?_|refine wp_exit' ?_)
    refine wp_ra (by simp [hrl,hcl,w1,w2,w3,w4,hne,hnf,hnf2,hh0,q1,q2,il,jr,hov,hll,hrr,iw,jh,e1,e2,w6];with_reducible rfl) (by simp;with_reducible rfl) ?_ ?_
    · intro p hp
      simp only [List.mem_cons,List.not_mem_nil,or_false] at hp
      subst hp
      exact ⟨_,by simp [hrl,hcl,w1,w2,w3,w4,hne,hnf,hnf2,hh0,q1,q2,il,jr,hov,hll,hrr,iw,jh,e1,e2,w6];with_reducible rfl,by simp⟩
    repeat (first|apply wp_as|apply wp_ss|refine wr (by simp [hrl,hcl,w1,w2,w3,w4,hne,hnf,hnf2,hh0,q1,q2,il,jr,hov,hll,hrr,iw,jh,e1,e2,w6];with_reducible rfl) ?_|refine wq (by simp [hrl,hcl,w1,w2,w3,w4,hne,hnf,hnf2,hh0,q1,q2,il,jr,hov,hll,hrr,iw,jh,e1,e2,w6];with_reducible rfl) ?_|refine wt (by simpa [hrl,hcl,w1,w2,w3,w4,hne,hnf,hnf2,hh0,q1,q2,il,jr,hov,hll,hrr,iw,jh,e1,e2,w6]) ?_|refine wf (by simpa [hrl,hcl,w1,w2,w3,w4,hne,hnf,hnf2,hh0,q1,q2,il,jr,hov,hll,hrr,iw,jh,e1,e2,w6]) ?_|refine xt (by simpa [hrl,hcl,w1,w2,w3,w4,hne,hnf,hnf2,hh0,q1,q2,il,jr,hov,hll,hrr,iw,jh,e1,e2,w6]) ?_|refine xf (by simpa [hrl,hcl,w1,w2,w3,w4,hne,hnf,hnf2,hh0,q1,q2,il,jr,hov,hll,hrr,iw,jh,e1,e2,w6]) ?_|apply wp_bs|apply wp_b|refine wp_sr ?_|refine wp_sx ?_|refine wp_ret' ?_|refine wp_skip' ?_|refine wp_exit' ?_)
    simp [zi413]
  | true =>
    rw [hm] at e2
    by_cases hl0:0 < l[i]
    · have hr0:¬ 0 < r[j]:=fun q=>hno ⟨hm,hl0,q⟩
      refine call_of_wp zt413 rfl ?_
      repeat (first|apply wp_as|apply wp_ss|refine wr (by simp [hrl,hcl,w1,w2,w3,w4,hne,hnf,hnf2,hh0,q1,q2,il,jr,hov,hll,hrr,iw,jh,e1,e2,w6,hl0,hr0];with_reducible rfl) ?_|refine wq (by simp [hrl,hcl,w1,w2,w3,w4,hne,hnf,hnf2,hh0,q1,q2,il,jr,hov,hll,hrr,iw,jh,e1,e2,w6,hl0,hr0];with_reducible rfl) ?_|refine wt (by simpa [hrl,hcl,w1,w2,w3,w4,hne,hnf,hnf2,hh0,q1,q2,il,jr,hov,hll,hrr,iw,jh,e1,e2,w6,hl0,hr0]) ?_|refine wf (by simpa [hrl,hcl,w1,w2,w3,w4,hne,hnf,hnf2,hh0,q1,q2,il,jr,hov,hll,hrr,iw,jh,e1,e2,w6,hl0,hr0]) ?_|refine xt (by simpa [hrl,hcl,w1,w2,w3,w4,hne,hnf,hnf2,hh0,q1,q2,il,jr,hov,hll,hrr,iw,jh,e1,e2,w6,hl0,hr0]) ?_|refine xf (by simpa [hrl,hcl,w1,w2,w3,w4,hne,hnf,hnf2,hh0,q1,q2,il,jr,hov,hll,hrr,iw,jh,e1,e2,w6,hl0,hr0]) ?_|apply wp_bs|apply wp_b|refine wp_sr ?_|refine wp_sx ?_|refine wp_ret' ?_|refine wp_skip' ?_|refine wp_exit' ?_)
      refine wp_ra (by simp [hrl,hcl,w1,w2,w3,w4,hne,hnf,hnf2,hh0,q1,q2,il,jr,hov,hll,hrr,iw,jh,e1,e2,w6,hl0,hr0];with_reducible rfl) (by simp;with_reducible rfl) ?_ ?_
      · intro p hp
        simp only [List.mem_cons,List.not_mem_nil,or_false] at hp
        subst hp
        exact ⟨_,by simp [hrl,hcl,w1,w2,w3,w4,hne,hnf,hnf2,hh0,q1,q2,il,jr,hov,hll,hrr,iw,jh,e1,e2,w6,hl0,hr0];with_reducible rfl,by simp⟩
      repeat (first|apply wp_as|apply wp_ss|refine wr (by simp [hrl,hcl,w1,w2,w3,w4,hne,hnf,hnf2,hh0,q1,q2,il,jr,hov,hll,hrr,iw,jh,e1,e2,w6,hl0,hr0];with_reducible rfl) ?_|refine wq (by simp [hrl,hcl,w1,w2,w3,w4,hne,hnf,hnf2,hh0,q1,q2,il,jr,hov,hll,hrr,iw,jh,e1,e2,w6,hl0,hr0];with_reducible rfl) ?_|refine wt (by simpa [hrl,hcl,w1,w2,w3,w4,hne,hnf,hnf2,hh0,q1,q2,il,jr,hov,hll,hrr,iw,jh,e1,e2,w6,hl0,hr0]) ?_|refine wf (by simpa [hrl,hcl,w1,w2,w3,w4,hne,hnf,hnf2,hh0,q1,q2,il,jr,hov,hll,hrr,iw,jh,e1,e2,w6,hl0,hr0]) ?_|refine xt (by simpa [hrl,hcl,w1,w2,w3,w4,hne,hnf,hnf2,hh0,q1,q2,il,jr,hov,hll,hrr,iw,jh,e1,e2,w6,hl0,hr0]) ?_|refine xf (by simpa [hrl,hcl,w1,w2,w3,w4,hne,hnf,hnf2,hh0,q1,q2,il,jr,hov,hll,hrr,iw,jh,e1,e2,w6,hl0,hr0]) ?_|apply wp_bs|apply wp_b|refine wp_sr ?_|refine wp_sx ?_|refine wp_ret' ?_|refine wp_skip' ?_|refine wp_exit' ?_)
      simp [zi413]
    · refine call_of_wp zt413 rfl ?_
      repeat (first|apply wp_as|apply wp_ss|refine wr (by simp [hrl,hcl,w1,w2,w3,w4,hne,hnf,hnf2,hh0,q1,q2,il,jr,hov,hll,hrr,iw,jh,e1,e2,w6,hl0];with_reducible rfl) ?_|refine wq (by simp [hrl,hcl,w1,w2,w3,w4,hne,hnf,hnf2,hh0,q1,q2,il,jr,hov,hll,hrr,iw,jh,e1,e2,w6,hl0];with_reducible rfl) ?_|refine wt (by simpa [hrl,hcl,w1,w2,w3,w4,hne,hnf,hnf2,hh0,q1,q2,il,jr,hov,hll,hrr,iw,jh,e1,e2,w6,hl0]) ?_|refine wf (by simpa [hrl,hcl,w1,w2,w3,w4,hne,hnf,hnf2,hh0,q1,q2,il,jr,hov,hll,hrr,iw,jh,e1,e2,w6,hl0]) ?_|refine xt (by simpa [hrl,hcl,w1,w2,w3,w4,hne,hnf,hnf2,hh0,q1,q2,il,jr,hov,hll,hrr,iw,jh,e1,e2,w6,hl0]) ?_|refine xf (by simpa [hrl,hcl,w1,w2,w3,w4,hne,hnf,hnf2,hh0,q1,q2,il,jr,hov,hll,hrr,iw,jh,e1,e2,w6,hl0]) ?_|apply wp_bs|apply wp_b|refine wp_sr ?_|refine wp_sx ?_|refine wp_ret' ?_|refine wp_skip' ?_|refine wp_exit' ?_)
      refine wp_ra (by simp [hrl,hcl,w1,w2,w3,w4,hne,hnf,hnf2,hh0,q1,q2,il,jr,hov,hll,hrr,iw,jh,e1,e2,w6,hl0];with_reducible rfl) (by simp;with_reducible rfl) ?_ ?_
      · intro p hp
        simp only [List.mem_cons,List.not_mem_nil,or_false] at hp
        subst hp
        exact ⟨_,by simp [hrl,hcl,w1,w2,w3,w4,hne,hnf,hnf2,hh0,q1,q2,il,jr,hov,hll,hrr,iw,jh,e1,e2,w6,hl0];with_reducible rfl,by simp⟩
      repeat (first|apply wp_as|apply wp_ss|refine wr (by simp [hrl,hcl,w1,w2,w3,w4,hne,hnf,hnf2,hh0,q1,q2,il,jr,hov,hll,hrr,iw,jh,e1,e2,w6,hl0];with_reducible rfl) ?_|refine wq (by simp [hrl,hcl,w1,w2,w3,w4,hne,hnf,hnf2,hh0,q1,q2,il,jr,hov,hll,hrr,iw,jh,e1,e2,w6,hl0];with_reducible rfl) ?_|refine wt (by simpa [hrl,hcl,w1,w2,w3,w4,hne,hnf,hnf2,hh0,q1,q2,il,jr,hov,hll,hrr,iw,jh,e1,e2,w6,hl0]) ?_|refine wf (by simpa [hrl,hcl,w1,w2,w3,w4,hne,hnf,hnf2,hh0,q1,q2,il,jr,hov,hll,hrr,iw,jh,e1,e2,w6,hl0]) ?_|refine xt (by simpa [hrl,hcl,w1,w2,w3,w4,hne,hnf,hnf2,hh0,q1,q2,il,jr,hov,hll,hrr,iw,jh,e1,e2,w6,hl0]) ?_|refine xf (by simpa [hrl,hcl,w1,w2,w3,w4,hne,hnf,hnf2,hh0,q1,q2,il,jr,hov,hll,hrr,iw,jh,e1,e2,w6,hl0]) ?_|apply wp_bs|apply wp_b|refine wp_sr ?_|refine wp_sx ?_|refine wp_ret' ?_|refine wp_skip' ?_|refine wp_exit' ?_)
      simp [zi413]
structure DecB (l l1:List Int) (p:Nat) (hp:p < l.length):Prop where
  e1:l.set p (l[p] - 1)=l1
  n1:l1.length=l.length
  g1:∀ h:p < l1.length,l1[p]=l[p] - 1
  e2:l1.set p l[p]=l
structure SetB (t t1:List (List Int)) (i j:Nat) (hi:i < t.length):Prop where
  e1:t.set i (t[i].set j 1)=t1
  n1:t1.length=t.length
  n2:∀ h:i < t1.length,t1[i].length=t[i].length
  e2:∀ h:i < t1.length,t1.set i (t1[i].set j 0)=t
include hrl hcl hC hll hrr in
set_option maxHeartbeats 2000000 in
theorem mt_take (hA:∀ M:List Boxes,Ev tb A [] [I i,I j] M ⟨Bo true,[],M,[]⟩) (hov:¬ (h:Int) - (j:Int) < l[i]) (hl0:0 < l[i]) (hr0:0 < r[j]) (bl:l[i]≤1000) (br:r[j]≤1000)
    (l1 r1:List Int) (hL:DecB l l1 i il) (hR:DecB r r1 j jr) (t1:List (List Int)) (it:i < t.length) (htl:t.length=w) (hth:t[i].length=h) (hT:SetB t t1 i j it)
    (bs bs1 bs':Boxes) (Es:List Boxes) (b1 b:Bool)
    (e1:Ev tb zl413 [] (I ((k+1:Nat):Int)::capsM) (bs::boxM rows cols cr cc A F caps l1 r1 t1::(Es++[[]])) ⟨Bo b1,[],bs1::boxM rows cols cr cc A F caps l1 r1 t1::(Es++[[]]),[]⟩)
    (e2:b1=true→Ev tb zl413 [] (I ((k+1:Nat):Int)::capsM) (bs1::boxM rows cols cr cc A F caps l r t::(Es++[[]])) ⟨Bo b,[],bs'::boxM rows cols cr cc A F caps l r t::(Es++[[]]),[]⟩)
    (e3:b1=false→b=false∧bs'=bs1) :
    Ev tb zl413 [] (I k::capsM) (bs::boxM rows cols cr cc A F caps l r t::Es) ⟨Bo b,[],bs'::boxM rows cols cr cc A F caps l r t::Es,[]⟩:=by
  obtain ⟨w5,h5,lt,iw,jh,q1,q2⟩:=id hC
  obtain ⟨d1,n1,g1,d2⟩:=hL
  obtain ⟨d3,n3,g3,d4⟩:=hR
  obtain ⟨d5,n5,n6,d6⟩:=hT
  have w1:=hC.n
  have k25:=hC.k25
  have w2:IntKind.i64.wrap (i:Int)=(i:Int):=wrap64 (by omega) (by omega)
  have w3:IntKind.i64.wrap (j:Int)=(j:Int):=wrap64 (by omega) (by omega)
  have w4:IntKind.i64.wrap ((h:Int) - (j:Int))=(h:Int) - (j:Int):=wrap64 (by omega) (by omega)
  have w6:IntKind.i64.wrap ((k:Int)+1)=(k:Int)+1:=wrap64 (by omega) (by omega)
  have w7:IntKind.i64.wrap (l[i] - 1)=l[i] - 1:=wrap64 (by omega) (by omega)
  have w8:IntKind.i64.wrap (r[j] - 1)=r[j] - 1:=wrap64 (by omega) (by omega)
  have w9:IntKind.i64.wrap l[i]=l[i]:=wrap64 (by omega) (by omega)
  have w10:IntKind.i64.wrap r[j]=r[j]:=wrap64 (by omega) (by omega)
  have hne:¬ k=w * h:=by omega
  have hh0:¬ h=0:=by omega
  have e1:=ev_lim e1
  rw [show ((k+1:Nat):Int)=(k:Int)+1 by omega] at e1
  have e4:=fun M=>ev_lim (hA M)
  rw [hll] at n1
  rw [hrr] at n3
  rw [htl] at n5
  rw [hth] at n6
  generalize w * h=N at *
  have hnf:((k:Int) == (N:Int))=false:=by simp;omega
  have hnf2:¬ (k:Int)=(N:Int):=by omega
  simp only [boxM,capsM] at e1 ⊢
  cases b1 with
  | false =>
    obtain ⟨rfl,rfl⟩:=e3 rfl
    refine call_of_wp zt413 rfl ?_
    repeat (first|apply wp_as|apply wp_ss|refine wr (by simp [hrl,hcl,w1,w2,w3,w4,hne,hnf,hnf2,hh0,q1,q2,il,jr,hov,hll,hrr,iw,jh,e1,e4,w6,hl0,hr0,w7,w8,w9,w10,d1,n1,g1,d2,d3,n3,g3,d4,d5,n5,n6,d6,it,htl,hth];with_reducible rfl) ?_|refine wq (by simp [hrl,hcl,w1,w2,w3,w4,hne,hnf,hnf2,hh0,q1,q2,il,jr,hov,hll,hrr,iw,jh,e1,e4,w6,hl0,hr0,w7,w8,w9,w10,d1,n1,g1,d2,d3,n3,g3,d4,d5,n5,n6,d6,it,htl,hth];with_reducible rfl) ?_|refine wt (by simpa [hrl,hcl,w1,w2,w3,w4,hne,hnf,hnf2,hh0,q1,q2,il,jr,hov,hll,hrr,iw,jh,e1,e4,w6,hl0,hr0,w7,w8,w9,w10,d1,n1,g1,d2,d3,n3,g3,d4,d5,n5,n6,d6,it,htl,hth]) ?_|refine wf (by simpa [hrl,hcl,w1,w2,w3,w4,hne,hnf,hnf2,hh0,q1,q2,il,jr,hov,hll,hrr,iw,jh,e1,e4,w6,hl0,hr0,w7,w8,w9,w10,d1,n1,g1,d2,d3,n3,g3,d4,d5,n5,n6,d6,it,htl,hth]) ?_|refine xt (by simpa [hrl,hcl,w1,w2,w3,w4,hne,hnf,hnf2,hh0,q1,q2,il,jr,hov,hll,hrr,iw,jh,e1,e4,w6,hl0,hr0,w7,w8,w9,w10,d1,n1,g1,d2,d3,n3,g3,d4,d5,n5,n6,d6,it,htl,hth]) ?_|refine xf (by simpa [hrl,hcl,w1,w2,w3,w4,hne,hnf,hnf2,hh0,q1,q2,il,jr,hov,hll,hrr,iw,jh,e1,e4,w6,hl0,hr0,w7,w8,w9,w10,d1,n1,g1,d2,d3,n3,g3,d4,d5,n5,n6,d6,it,htl,hth]) ?_|apply wp_bs|apply wp_b|refine wp_sr ?_|refine wp_sx ?_|refine wp_ret' ?_|refine wp_skip' ?_|refine wp_exit' ?_)
    refine wp_ra (by simp [hrl,hcl,w1,w2,w3,w4,hne,hnf,hnf2,hh0,q1,q2,il,jr,hov,hll,hrr,iw,jh,e1,e4,w6,hl0,hr0,w7,w8,w9,w10,d1,n1,g1,d2,d3,n3,g3,d4,d5,n5,n6,d6,it,htl,hth];with_reducible rfl) (by simp;with_reducible rfl) ?_ ?_
    · intro p hp
      simp only [List.mem_cons,List.not_mem_nil,or_false] at hp
      subst hp
      exact ⟨_,by simp [hrl,hcl,w1,w2,w3,w4,hne,hnf,hnf2,hh0,q1,q2,il,jr,hov,hll,hrr,iw,jh,e1,e4,w6,hl0,hr0,w7,w8,w9,w10,d1,n1,g1,d2,d3,n3,g3,d4,d5,n5,n6,d6,it,htl,hth];with_reducible rfl,by simp⟩
    repeat (first|apply wp_as|apply wp_ss|refine wr (by simp [hrl,hcl,w1,w2,w3,w4,hne,hnf,hnf2,hh0,q1,q2,il,jr,hov,hll,hrr,iw,jh,e1,e4,w6,hl0,hr0,w7,w8,w9,w10,d1,n1,g1,d2,d3,n3,g3,d4,d5,n5,n6,d6,it,htl,hth];with_reducible rfl) ?_|refine wq (by simp [hrl,hcl,w1,w2,w3,w4,hne,hnf,hnf2,hh0,q1,q2,il,jr,hov,hll,hrr,iw,jh,e1,e4,w6,hl0,hr0,w7,w8,w9,w10,d1,n1,g1,d2,d3,n3,g3,d4,d5,n5,n6,d6,it,htl,hth];with_reducible rfl) ?_|refine wt (by simpa [hrl,hcl,w1,w2,w3,w4,hne,hnf,hnf2,hh0,q1,q2,il,jr,hov,hll,hrr,iw,jh,e1,e4,w6,hl0,hr0,w7,w8,w9,w10,d1,n1,g1,d2,d3,n3,g3,d4,d5,n5,n6,d6,it,htl,hth]) ?_|refine wf (by simpa [hrl,hcl,w1,w2,w3,w4,hne,hnf,hnf2,hh0,q1,q2,il,jr,hov,hll,hrr,iw,jh,e1,e4,w6,hl0,hr0,w7,w8,w9,w10,d1,n1,g1,d2,d3,n3,g3,d4,d5,n5,n6,d6,it,htl,hth]) ?_|refine xt (by simpa [hrl,hcl,w1,w2,w3,w4,hne,hnf,hnf2,hh0,q1,q2,il,jr,hov,hll,hrr,iw,jh,e1,e4,w6,hl0,hr0,w7,w8,w9,w10,d1,n1,g1,d2,d3,n3,g3,d4,d5,n5,n6,d6,it,htl,hth]) ?_|refine xf (by simpa [hrl,hcl,w1,w2,w3,w4,hne,hnf,hnf2,hh0,q1,q2,il,jr,hov,hll,hrr,iw,jh,e1,e4,w6,hl0,hr0,w7,w8,w9,w10,d1,n1,g1,d2,d3,n3,g3,d4,d5,n5,n6,d6,it,htl,hth]) ?_|apply wp_bs|apply wp_b|refine wp_sr ?_|refine wp_sx ?_|refine wp_ret' ?_|refine wp_skip' ?_|refine wp_exit' ?_)
    simp [zi413]
  | true =>
    have e2:=ev_lim (e2 rfl)
    rw [show ((k+1:Nat):Int)=(k:Int)+1 by omega] at e2
    simp only [boxM,capsM] at e2
    refine call_of_wp zt413 rfl ?_
    repeat (first|apply wp_as|apply wp_ss|refine wr (by simp [hrl,hcl,w1,w2,w3,w4,hne,hnf,hnf2,hh0,q1,q2,il,jr,hov,hll,hrr,iw,jh,e1,e2,e4,w6,hl0,hr0,w7,w8,w9,w10,d1,n1,g1,d2,d3,n3,g3,d4,d5,n5,n6,d6,it,htl,hth];with_reducible rfl) ?_|refine wq (by simp [hrl,hcl,w1,w2,w3,w4,hne,hnf,hnf2,hh0,q1,q2,il,jr,hov,hll,hrr,iw,jh,e1,e2,e4,w6,hl0,hr0,w7,w8,w9,w10,d1,n1,g1,d2,d3,n3,g3,d4,d5,n5,n6,d6,it,htl,hth];with_reducible rfl) ?_|refine wt (by simpa [hrl,hcl,w1,w2,w3,w4,hne,hnf,hnf2,hh0,q1,q2,il,jr,hov,hll,hrr,iw,jh,e1,e2,e4,w6,hl0,hr0,w7,w8,w9,w10,d1,n1,g1,d2,d3,n3,g3,d4,d5,n5,n6,d6,it,htl,hth]) ?_|refine wf (by simpa [hrl,hcl,w1,w2,w3,w4,hne,hnf,hnf2,hh0,q1,q2,il,jr,hov,hll,hrr,iw,jh,e1,e2,e4,w6,hl0,hr0,w7,w8,w9,w10,d1,n1,g1,d2,d3,n3,g3,d4,d5,n5,n6,d6,it,htl,hth]) ?_|refine xt (by simpa [hrl,hcl,w1,w2,w3,w4,hne,hnf,hnf2,hh0,q1,q2,il,jr,hov,hll,hrr,iw,jh,e1,e2,e4,w6,hl0,hr0,w7,w8,w9,w10,d1,n1,g1,d2,d3,n3,g3,d4,d5,n5,n6,d6,it,htl,hth]) ?_|refine xf (by simpa [hrl,hcl,w1,w2,w3,w4,hne,hnf,hnf2,hh0,q1,q2,il,jr,hov,hll,hrr,iw,jh,e1,e2,e4,w6,hl0,hr0,w7,w8,w9,w10,d1,n1,g1,d2,d3,n3,g3,d4,d5,n5,n6,d6,it,htl,hth]) ?_|apply wp_bs|apply wp_b|refine wp_sr ?_|refine wp_sx ?_|refine wp_ret' ?_|refine wp_skip' ?_|refine wp_exit' ?_)
    refine wp_ra (by simp [hrl,hcl,w1,w2,w3,w4,hne,hnf,hnf2,hh0,q1,q2,il,jr,hov,hll,hrr,iw,jh,e1,e2,e4,w6,hl0,hr0,w7,w8,w9,w10,d1,n1,g1,d2,d3,n3,g3,d4,d5,n5,n6,d6,it,htl,hth];with_reducible rfl) (by simp;with_reducible rfl) ?_ ?_
    · intro p hp
      simp only [List.mem_cons,List.not_mem_nil,or_false] at hp
      subst hp
      exact ⟨_,by simp [hrl,hcl,w1,w2,w3,w4,hne,hnf,hnf2,hh0,q1,q2,il,jr,hov,hll,hrr,iw,jh,e1,e2,e4,w6,hl0,hr0,w7,w8,w9,w10,d1,n1,g1,d2,d3,n3,g3,d4,d5,n5,n6,d6,it,htl,hth];with_reducible rfl,by simp⟩
    repeat (first|apply wp_as|apply wp_ss|refine wr (by simp [hrl,hcl,w1,w2,w3,w4,hne,hnf,hnf2,hh0,q1,q2,il,jr,hov,hll,hrr,iw,jh,e1,e2,e4,w6,hl0,hr0,w7,w8,w9,w10,d1,n1,g1,d2,d3,n3,g3,d4,d5,n5,n6,d6,it,htl,hth];with_reducible rfl) ?_|refine wq (by simp [hrl,hcl,w1,w2,w3,w4,hne,hnf,hnf2,hh0,q1,q2,il,jr,hov,hll,hrr,iw,jh,e1,e2,e4,w6,hl0,hr0,w7,w8,w9,w10,d1,n1,g1,d2,d3,n3,g3,d4,d5,n5,n6,d6,it,htl,hth];with_reducible rfl) ?_|refine wt (by simpa [hrl,hcl,w1,w2,w3,w4,hne,hnf,hnf2,hh0,q1,q2,il,jr,hov,hll,hrr,iw,jh,e1,e2,e4,w6,hl0,hr0,w7,w8,w9,w10,d1,n1,g1,d2,d3,n3,g3,d4,d5,n5,n6,d6,it,htl,hth]) ?_|refine wf (by simpa [hrl,hcl,w1,w2,w3,w4,hne,hnf,hnf2,hh0,q1,q2,il,jr,hov,hll,hrr,iw,jh,e1,e2,e4,w6,hl0,hr0,w7,w8,w9,w10,d1,n1,g1,d2,d3,n3,g3,d4,d5,n5,n6,d6,it,htl,hth]) ?_|refine xt (by simpa [hrl,hcl,w1,w2,w3,w4,hne,hnf,hnf2,hh0,q1,q2,il,jr,hov,hll,hrr,iw,jh,e1,e2,e4,w6,hl0,hr0,w7,w8,w9,w10,d1,n1,g1,d2,d3,n3,g3,d4,d5,n5,n6,d6,it,htl,hth]) ?_|refine xf (by simpa [hrl,hcl,w1,w2,w3,w4,hne,hnf,hnf2,hh0,q1,q2,il,jr,hov,hll,hrr,iw,jh,e1,e2,e4,w6,hl0,hr0,w7,w8,w9,w10,d1,n1,g1,d2,d3,n3,g3,d4,d5,n5,n6,d6,it,htl,hth]) ?_|apply wp_bs|apply wp_b|refine wp_sr ?_|refine wp_sx ?_|refine wp_ret' ?_|refine wp_skip' ?_|refine wp_exit' ?_)
    simp [zi413]
end
end Go.Idl
namespace Go.Idl
open Go
theorem mts_len (may) (h:Nat):∀ (m k:Nat) (l r:List Int) (t:List (List Int)),(mts may h m k l r t).length≤2 ^ m
  | 0,k,l,r,t=>by rw [mts];split <;> simp
  | m+1,k,l,r,t=>by
    have h1:=mts_len may h m (k+1) (decAt l (k / h)) (decAt r (k % h)) (set2 t (k / h) (k % h) 1)
    have h2:=mts_len may h m (k+1) l r t
    rw [mts,Nat.pow_succ]
    split
    · simp
    · rw [List.length_append]
      split
      · omega
      · simp;omega
theorem upT_len {α:Type} (more:α→Bool):∀ l:List α,(upT more l).1.length≤l.length
  | []=>by simp [upT]
  | g::r=>by
    have:=upT_len more r
    rw [upT]
    split
    · simp;exact this
    · simp
theorem getD_get {xs:List Int} {i:Nat} (h:i < xs.length):xs.getD i 0=xs[i]:=by simp [List.getD_eq_getElem?_getD,List.getElem?_eq_getElem h]
theorem decB_ok {l:List Int} {p:Nat} (hp:p < l.length):DecB l (decAt l p) p hp:=by
  have h1:decAt l p=l.set p (l[p] - 1):=by rw [decAt,getD_get hp]
  rw [h1]
  refine ⟨rfl,by simp,fun h=>by simp,?_⟩
  rw [List.set_set,List.set_getElem_self]
theorem setB_ok {t:List (List Int)} {i j:Nat} (hi:i < t.length) (hz:g2 t i j=0) (hj:j < t[i].length):SetB t (set2 t i j 1) i j hi:=by
  have h0:t.getD i []=t[i]:=by simp [List.getD_eq_getElem?_getD,List.getElem?_eq_getElem hi]
  have h1:set2 t i j 1=t.set i (t[i].set j 1):=by rw [set2,h0]
  rw [h1]
  refine ⟨rfl,by simp,fun h=>by simp,fun h=>?_⟩
  rw [List.set_set,List.getElem_set_self,List.set_set]
  have h2:t[i].set j 0=t[i]:=by
    rw [g2_eq hi hj] at hz
    rw [← hz,List.set_getElem_self]
  rw [h2,List.set_getElem_self]
def Zf (w h k:Nat) (t:List (List Int)):Prop:=∀ i j,i < w→j < h→k≤i * h+j→g2 t i j=0
theorem Zf.succ {w h k:Nat} {t:List (List Int)} (hz:Zf w h k t):Zf w h (k+1) t:=fun i j hi hj hk=>hz i j hi hj (by omega)
theorem g2_set2 (t:List (List Int)) (i j a b:Nat) (v:Int) (hne:¬ (a=i∧b=j)):g2 (set2 t i j v) a b=g2 t a b:=by
  simp only [g2,set2,List.getD_eq_getElem?_getD,List.getElem?_set]
  by_cases hai:i=a
  · subst hai
    by_cases hi:i < t.length
    · simp only [hi,if_true,Option.getD_some,List.getElem?_set,List.getElem?_eq_getElem hi]
      rw [if_neg (fun q=>hne ⟨rfl,q.symm⟩)]
    · simp [hi]
  · rw [if_neg hai]
theorem Zf.set2 {w h k:Nat} {t:List (List Int)} (hz:Zf w h k t):Zf w h (k+1) (set2 t (k / h) (k % h) 1):=fun i j hi hj hk=>by
  rw [g2_set2]
  · exact hz i j hi hj (by omega)
  · rintro ⟨rfl,rfl⟩
    have:=Nat.div_add_mod k h
    rw [Nat.mul_comm] at this
    omega
theorem mt_walk (w h:Nat) (rows cols:List Int) (cr cc:Bool) (A F:Lab) (caps:List IV) (more:List (List Int)→Bool) (P:List (List (List Int))→Boxes→Prop) (hcb:CallsBackM w h F caps more P)
    (h0:0 < w) (hw:w≤5) (hh:h≤5) (hrl:rows.length=w) (hcl:cols.length=h) (may:Nat→Nat→Bool) (hA:∀ i j,i < w→j < h→∀ M:List Boxes,Ev tb A [] [I i,I j] M ⟨Bo (may i j),[],M,[]⟩) :
    ∀ (m k:Nat) (l r:List Int) (t:List (List Int)) (gl:List (List (List Int))) (bs:Boxes) (Es:List Boxes),k+m=w * h→P gl bs→Lil l→Lil r→l.length=w→r.length=h→RT w h t→Zf w h k t→gl.length+2 ^ m≤40000000 →
    ∃ bs',P (gl++(upT more (mts may h m k l r t)).1) bs' ∧
      Ev tb zl413 [] (I k::capsM) (bs::boxM rows cols cr cc A F caps l r t::Es) ⟨Bo (upT more (mts may h m k l r t)).2,[],bs'::boxM rows cols cr cc A F caps l r t::Es,[]⟩:=by
  intro m
  induction m with
  | zero =>
    intro k l r t gl bs Es hk hP hl hr hll hrr ht hz hgl
    exact mt_end w h rows cols cr cc A F caps more P hcb h0 hw hh hrl hcl may l r t gl bs Es hP (by omega) hl hr hll hrr ht k hk
  | succ m ih =>
    intro k l r t gl bs Es hk hP hl hr hll hrr ht hz hgl
    rw [Nat.pow_succ] at hgl
    have hC:=Cel.mk2 hw hh (show k < w * h by omega)
    have iw:=hC.iw
    have jh:=hC.jh
    have il:k / h < l.length:=by omega
    have jr:k % h < r.length:=by omega
    have bl:=hl _ (List.getElem_mem il)
    have br:=hr _ (List.getElem_mem jr)
    rw [mts,getD_get il,getD_get jr]
    by_cases hov:(h:Int) - ((k % h:Nat):Int) < l[k / h]
    · rw [if_pos hov]
      refine ⟨bs,by simpa [upT] using hP,?_⟩
      exact mt_over w h rows cols cr cc A F caps hrl hcl k (k / h) (k % h) hC l r hll hrr t il bl.2 hov bs Es
    · rw [if_neg hov]
      by_cases htk:may (k / h) (k % h)=true∧0 < l[k / h]∧0 < r[k % h]
      rotate_left
      · rw [if_neg htk,List.nil_append]
        obtain ⟨bs',k1,k2⟩:=ih (k+1) l r t gl bs (Es++[[]]) (by omega) hP hl hr hll hrr ht hz.succ (by omega)
        exact ⟨bs',k1,mt_skip w h rows cols cr cc A F caps hrl hcl may k (k / h) (k % h) hC l r hll hrr t il jr (hA _ _ iw jh) hov htk bs bs' Es _ k2⟩
      · rw [if_pos htk,upT_app]
        obtain ⟨hm,hl0,hr0⟩:=htk
        have it:k / h < t.length:=by rw [ht.1];exact iw
        have hth:t[k / h].length=h:=ht.2 _ (List.getElem_mem it)
        have hz0:g2 t (k / h) (k % h)=0:=hz _ _ iw jh (by
          have:=Nat.div_add_mod k h
          rw [Nat.mul_comm] at this
          omega)
        have hA1:=hA _ _ iw jh
        rw [hm] at hA1
        obtain ⟨bs1,k1,k2⟩:=ih (k+1) (decAt l (k / h)) (decAt r (k % h)) (set2 t (k / h) (k % h) 1) gl bs (Es++[[]]) (by omega) hP
          (hl.dec (by rw [getD_get il];exact hl0)) (hr.dec (by rw [getD_get jr];exact hr0)) (by simp [decAt,hll]) (by simp [decAt,hrr]) (ht.set2 _ _ _ iw) hz.set2 (by omega)
        have h1:=upT_len more (mts may h m (k+1) (decAt l (k / h)) (decAt r (k % h)) (set2 t (k / h) (k % h) 1))
        have h2:=mts_len may h m (k+1) (decAt l (k / h)) (decAt r (k % h)) (set2 t (k / h) (k % h) 1)
        generalize upT more (mts may h m (k+1) (decAt l (k / h)) (decAt r (k % h)) (set2 t (k / h) (k % h) 1))=u at *
        obtain ⟨g1,b1⟩:=u
        cases b1 with
        | false =>
          simp only [Bool.false_eq_true,if_false]
          exact ⟨bs1,k1,mt_take w h rows cols cr cc A F caps hrl hcl k (k / h) (k % h) hC l r hll hrr t il jr hA1 hov hl0 hr0 bl.2 br.2 _ _ (decB_ok il) (decB_ok jr) _ it ht.1 hth (setB_ok it hz0 (by omega)) bs bs1 bs1 Es false false k2 (fun q=>by cases q) (fun _=>⟨rfl,rfl⟩)⟩
        | true =>
          simp only [if_true]
          obtain ⟨bs2,j1,j2⟩:=ih (k+1) l r t (gl++g1) bs1 (Es++[[]]) (by omega) k1 hl hr hll hrr ht hz.succ (by simp only [List.length_append] at *;omega)
          refine ⟨bs2,by rw [← List.append_assoc];exact j1,?_⟩
          exact mt_take w h rows cols cr cc A F caps hrl hcl k (k / h) (k % h) hC l r hll hrr t il jr hA1 hov hl0 hr0 bl.2 br.2 _ _ (decB_ok il) (decB_ok jr) _ it ht.1 hth (setB_ok it hz0 (by omega)) bs bs1 bs2 Es true _ k2 (fun _=>j2) (fun q=>by cases q)
end Go.Idl
namespace Go.Idl
open Go
theorem vEs_in (n:Int):∀ (p:Option (Int×Int)) (es:List (Int×Int)),vEs n p es=true→∀ e ∈ es,okE n e=true
  | _,[],_=>by simp
  | none,e::r,h=>by
    simp only [vEs,Bool.and_eq_true] at h
    intro x hx
    rcases List.mem_cons.1 hx with rfl | hx
    · exact h.1
    · exact vEs_in n _ r h.2 x hx
  | some q,e::r,h=>by
    simp only [vEs,Bool.and_eq_true] at h
    intro x hx
    rcases List.mem_cons.1 hx with rfl | hx
    · exact h.1
    · exact vEs_in n _ r h.2.2 x hx
theorem vG_edges {n:Int} {es:List (Int×Int)} (h:vGraph n es=true):∀ e ∈ es,0≤e.1∧e.1 < e.2∧e.2 < n:=by
  simp only [vGraph,Bool.and_eq_true] at h
  intro e he
  have:=vEs_in n none es h.1 e he
  simpa [okE] using this
theorem vG_n {n:Int} {es:List (Int×Int)} (h:vGraph n es=true):0≤n∧n≤7:=by
  simp only [vGraph,Bool.and_eq_true,decide_eq_true_eq] at h;omega
end Go.Idl
namespace Go.Idl
open Go
theorem ev_matrices_F1 (i j:Nat) (M:List Boxes):Ev tb zl412 [] [I i,I j] M ⟨I 0,[],M,[]⟩:=by
  refine call_of_wp zt412 rfl ?_
  repeat (first|apply wp_as|apply wp_ss|refine wr (by simp;with_reducible rfl) ?_|refine wq (by simp;with_reducible rfl) ?_|refine wt (by simpa) ?_|refine wf (by simpa) ?_|refine xt (by simpa) ?_|refine xf (by simpa) ?_|apply wp_bs|apply wp_b|refine wp_sr ?_|refine wp_sx ?_|refine wp_ret' ?_|refine wp_skip' ?_|refine wp_exit' ?_)
  simp [zi412]
def zeroT (w h:Nat):List (List Int):=tabF w h fun _ _=>0
theorem zeroT_RT (w h:Nat):RT w h (zeroT w h):=by
  refine ⟨by simp [zeroT,tabF],fun r hr=>?_⟩
  simp only [zeroT,tabF,List.mem_map] at hr
  obtain ⟨i,_,rfl⟩:=hr
  simp [mapR]
theorem zeroT_Zf (w h:Nat):Zf w h 0 (zeroT w h):=fun i j hi hj _=>by
  simp [g2,zeroT,tabF,mapR,hi,hj]
theorem ev_matrices (rows cols:List Int) (cr cc:Bool) (A F:Lab) (caps:List IV) (more:List (List Int)→Bool) (P:List (List (List Int))→Boxes→Prop) (hcb:CallsBackM rows.length cols.length F caps more P)
    (h0:0 < rows.length) (hw:rows.length≤5) (hh:cols.length≤5) (may:Nat→Nat→Bool) (hA:∀ i j,i < rows.length→j < cols.length→∀ M:List Boxes,Ev tb A [] [I i,I j] M ⟨Bo (may i j),[],M,[]⟩)
    (hr:Lil rows) (hc:Lil cols) (hk:IV.noK 1 4 5 (.fn F caps)=true) (bs:Boxes) (hP:P [] bs) :
    ∃ bs',P (upT more (mts may cols.length (rows.length * cols.length) 0 rows cols (zeroT rows.length cols.length))).1 bs' ∧
      Ev tb zl215 [] [L rows cr,L cols cc,.fn A [],.fn F caps] [bs] ⟨.tup [],[],[bs'],[]⟩:=by
  have hm:rows.length * cols.length≤25:=Nat.mul_le_mul hw hh
  obtain ⟨bs',k1,k2⟩:=mt_walk rows.length cols.length rows cols cr cc A F caps more P hcb h0 hw hh rfl rfl may hA (rows.length * cols.length) 0 rows cols (zeroT rows.length cols.length) [] bs [] (by omega) hP hr hc rfl rfl (zeroT_RT _ _) (zeroT_Zf _ _) (by
    have:=Nat.pow_le_pow_right (show 0 < 2 by decide) hm
    simp only [List.length_nil];omega)
  refine ⟨bs',by simpa using k1,?_⟩
  have e1:=ev_lim k2
  have e2:=fun c=>ev_lim (ev_clone rows c (by omega))
  have e3:=fun c=>ev_lim (ev_clone cols c (by omega))
  have e4:=fun M=>ev_lim (ev_table rows.length cols.length zl412 [] M (fun _ _=>0) (by omega) (by omega) fun i k _ _=>ev_matrices_F1 i k _)
  simp only [boxM,capsM,zeroT] at e1
  rw [show ((0:Nat):Int)=0 from rfl] at e1
  refine call_of_wp zt215 rfl ?_
  iterate 1 (first|apply wp_as|apply wp_ss|refine wr (by simp [e1,e2,e3,e4];with_reducible rfl) ?_|refine wq (by simp [e1,e2,e3,e4];with_reducible rfl) ?_|refine wt (by simpa [e1,e2,e3,e4]) ?_|refine wf (by simpa [e1,e2,e3,e4]) ?_|refine xt (by simpa [e1,e2,e3,e4]) ?_|refine xf (by simpa [e1,e2,e3,e4]) ?_|apply wp_bs|apply wp_b|refine wp_sr ?_|refine wp_sx ?_|refine wp_ret' ?_|refine wp_skip' ?_|refine wp_exit' ?_)
  refine wp_rdws (by simp [NHops]) (by simp [e2,e3];with_reducible rfl) (by simp;with_reducible rfl) ?_ ?_
  · intro p hp
    simp only [List.mem_cons,List.not_mem_nil,or_false] at hp
    subst hp
    refine ⟨_,by simp [e2,e3];with_reducible rfl,.inr ⟨4,5,by simp,by simp,?_⟩⟩
    have f1:∀ a,IV.noK 1 4 5 (.own 1 (ints a))=true:=fun _=>rfl
    have f2:∀ a c,IV.noK 1 4 5 (.lst 1 (ints a) c)=true:=fun _ _=>rfl
    have f3:IV.noK 1 4 5 (.fn A [])=true:=rfl
    simp [St.swB,hk,f1,f2,f3,IV.flat,IV.swb,swN]
  repeat (first|apply wp_as|apply wp_ss|refine wr (by simp [e1,e2,e3,e4];with_reducible rfl) ?_|refine wq (by simp [e1,e2,e3,e4];with_reducible rfl) ?_|refine wt (by simpa [e1,e2,e3,e4]) ?_|refine wf (by simpa [e1,e2,e3,e4]) ?_|refine xt (by simpa [e1,e2,e3,e4]) ?_|refine xf (by simpa [e1,e2,e3,e4]) ?_|apply wp_bs|apply wp_b|refine wp_sr ?_|refine wp_sx ?_|refine wp_ret' ?_|refine wp_skip' ?_|refine wp_exit' ?_)
  simp [zi215]
end Go.Idl
namespace Go.Idl
open Go
def cub (gl:List (List (List Int))):List (List IV):=gl.map fun t=>[OT t]
def lub (gl:List (List (List Int))):List (List IV):=gl.map fun t=>[TL t false]
@[simp] theorem cub_len (gl):(cub gl).length=gl.length:=by simp [cub]
@[simp] theorem lub_len (gl):(lub gl).length=gl.length:=by simp [lub]
@[simp] theorem lub_get? (gl) (i:Nat):(lub gl)[i]? = gl[i]?.map fun t=>[TL t false]:=by simp [lub]
@[simp] theorem lub_get (gl) (i:Nat) (h:i < (lub gl).length):(lub gl)[i]=[TL (gl[i]'(by simpa using h)) false]:=by simp [lub]
@[simp] theorem cub_get? (gl) (i:Nat):(cub gl)[i]? = gl[i]?.map fun t=>[OT t]:=by simp [cub]
@[simp] theorem cub_get (gl) (i:Nat) (h:i < (cub gl).length):(cub gl)[i]=[OT (gl[i]'(by simpa using h))]:=by simp [cub]
@[simp] theorem cub_one (gl) (t:List (List Int)):cub gl++[[IV.own 1 (oab t)]]=cub (gl++[t]):=by simp [cub]
@[simp] theorem cub_emp (gl):(cub gl).isEmpty=gl.isEmpty:=by cases gl <;> rfl
@[simp] theorem cub_take (gl) (k:Nat):(cub gl).take k=cub (gl.take k):=by simp [cub,List.map_take]
@[simp] theorem cub_noLst (gl):noLstLL (cub gl)=true:=by
  induction gl with
  | nil=>rfl
  | cons x xs ih=>simp only [cub,List.map_cons,noLstLL,noLstL,noLstV,oab_noLst] at *;rw [ih];rfl
@[simp] theorem frz_cub (gl):frzLL (cub gl)=lub gl:=by
  induction gl with
  | nil=>rfl
  | cons x xs ih=>simp only [cub,lub,List.map_cons,frzLL,frzL,frzV,frz_oab] at *;rw [ih]
def ncub:List (List (List Int))→IV
  | []=>Z
  | g::gl=>.own 1 (cub (g::gl))
theorem ev_AllMatrices_F1 (i j:Nat) (M:List Boxes):Ev tb zl497 [] [I i,I j] M ⟨Bo true,[],M,[]⟩:=by
  refine call_of_wp zt497 rfl ?_
  repeat (first|apply wp_as|apply wp_ss|refine wr (by simp;with_reducible rfl) ?_|refine wq (by simp;with_reducible rfl) ?_|refine wt (by simpa) ?_|refine wf (by simpa) ?_|refine xt (by simpa) ?_|refine xf (by simpa) ?_|apply wp_bs|apply wp_b|refine wp_sr ?_|refine wp_sx ?_|refine wp_ret' ?_|refine wp_skip' ?_|refine wp_exit' ?_)
  simp [zi497]
theorem ev_AllMatrices_F2 (gl:List (List (List Int))) (t:List (List Int)) (B:Boxes) (Es:List Boxes) (hl:gl.length≤100000000) :
    Ev tb zl498 [] [OT t,.bptr 0 0 0] ([[ncub gl]]::B::Es) ⟨Bo true,[],[[ncub (gl++[t])]]::B::Es,[]⟩:=by
  cases gl with
  | nil =>
    simp only [ncub,List.nil_append]
    refine call_of_wp zt498 rfl ?_
    repeat (first|apply wp_as|apply wp_ss|refine wr (by simp;with_reducible rfl) ?_|refine wq (by simp;with_reducible rfl) ?_|refine wt (by simpa) ?_|refine wf (by simpa) ?_|refine xt (by simpa) ?_|refine xf (by simpa) ?_|apply wp_bs|apply wp_b|refine wp_sr ?_|refine wp_sx ?_|refine wp_ret' ?_|refine wp_skip' ?_|refine wp_exit' ?_)
    simp [zi498,cub]
  | cons g gl =>
    simp only [ncub,List.cons_append]
    rw [← List.cons_append]
    have h1:gl.length+1+1≤274877906944:=by simp at hl;omega
    have h2:(cub (g::gl)).take (gl.length+1)=cub (g::gl):=List.take_of_length_le (by simp)
    refine call_of_wp zt498 rfl ?_
    repeat (first|apply wp_as|apply wp_ss|refine wr (by simp [h1,h2];with_reducible rfl) ?_|refine wq (by simp [h1,h2];with_reducible rfl) ?_|refine wt (by simpa [h1,h2]) ?_|refine wf (by simpa [h1,h2]) ?_|refine xt (by simpa [h1,h2]) ?_|refine xf (by simpa [h1,h2]) ?_|apply wp_bs|apply wp_b|refine wp_sr ?_|refine wp_sx ?_|refine wp_ret' ?_|refine wp_skip' ?_|refine wp_exit' ?_)
    simp [zi498]
theorem callsM_all (w h:Nat):CallsBackM w h zl498 [.bptr 0 0 0] (fun _=>true) (fun gl bs=>bs=[[ncub gl]]):=by
  intro gl bs t hP hl ht
  exact ⟨[[ncub (gl++[t])]],rfl,fun B Es=>by rw [hP];exact ev_AllMatrices_F2 gl t B Es (by omega)⟩
theorem upT_true {α:Type} (l:List α):upT (fun _=>true) l=(l,true):=by
  induction l with
  | nil=>rfl
  | cons x r ih=>simp [upT,ih]
theorem ev_ClipC (gl:List (List (List Int))):Ev tb zl547 [] [ncub gl] [] ⟨ncub gl,[],[],[]⟩:=by
  cases gl with
  | nil =>
    simp only [ncub]
    refine call_of_wp zt547 rfl ?_
    repeat (first|apply wp_as|apply wp_ss|refine wr (by simp;with_reducible rfl) ?_|refine wq (by simp;with_reducible rfl) ?_|refine wt (by simpa) ?_|refine wf (by simpa) ?_|refine xt (by simpa) ?_|refine xf (by simpa) ?_|apply wp_bs|apply wp_b|refine wp_sr ?_|refine wp_sx ?_|refine wp_ret' ?_|refine wp_skip' ?_|refine wp_exit' ?_)
    simp [zi547]
  | cons g gl =>
    simp only [ncub]
    have h2:(cub (g::gl)).take (gl.length+1)=cub (g::gl):=List.take_of_length_le (by simp)
    refine call_of_wp zt547 rfl ?_
    repeat (first|apply wp_as|apply wp_ss|refine wr (by simp [h2];with_reducible rfl) ?_|refine wq (by simp [h2];with_reducible rfl) ?_|refine wt (by simpa [h2]) ?_|refine wf (by simpa [h2]) ?_|refine xt (by simpa [h2]) ?_|refine xf (by simpa [h2]) ?_|apply wp_bs|apply wp_b|refine wp_sr ?_|refine wp_sx ?_|refine wp_ret' ?_|refine wp_skip' ?_|refine wp_exit' ?_)
    simp [zi547,h2]
theorem vMar_iff {r c:List Int} (h:vMar r c=true):(1≤r.length∧r.length≤5)∧(1≤c.length∧c.length≤5)∧(∀ x ∈ r,0≤x∧x≤(c.length:Int))∧∀ x ∈ c,0≤x∧x≤(r.length:Int):=by
  simp only [vMar,sideOk,inAll,Bool.and_eq_true,List.all_eq_true,decide_eq_true_eq] at h
  obtain ⟨h1,h2,h3,h4⟩:=h
  exact ⟨by omega,by omega,fun x hx=>h3 x hx,fun x hx=>h4 x hx⟩
def mtA (r c:List Int):List (List (List Int)):=mts (fun _ _=>true) c.length (r.length * c.length) 0 r c (zeroT r.length c.length)
theorem ev_impl_AllMatrices (r c:List Int) (k l:Bool) (hv:vMar r c=true) (h4:r.length≤4) (h5:c.length≤4) :
    Ev tb zl496 [] [L r k,L c l] [] ⟨ncub (mtA r c),[],[],[]⟩:=by
  obtain ⟨q1,q2,q3,q4⟩:=vMar_iff hv
  have e1:=ev_lim (ev_ValidMargins r c k l (by omega) (by omega))
  rw [hv] at e1
  have n1:¬ ((4:Int) < (r.length:Int)):=by omega
  have n2:¬ ((4:Int) < (c.length:Int)):=by omega
  have n3:¬ (4 < r.length):=by omega
  have n4:¬ (4 < c.length):=by omega
  obtain ⟨bs',k1,k2⟩:=ev_matrices r c k l zl497 zl498 [.bptr 0 0 0] (fun _=>true) _ (callsM_all r.length c.length) (by omega) (by omega) (by omega)
    (fun _ _=>true) (fun i j _ _ M=>ev_AllMatrices_F1 i j M) (fun x hx=>by have:=q3 x hx;omega) (fun x hx=>by have:=q4 x hx;omega) rfl [[Z]] rfl
  rw [upT_true] at k1
  simp only at k1
  rw [show mts (fun _ _=>true) c.length (r.length * c.length) 0 r c (zeroT r.length c.length)=mtA r c from rfl] at k1
  subst k1
  have e2:=ev_lim k2
  have e3:=ev_lim (ev_ClipC (mtA r c))
  generalize mtA r c=G at *
  cases G with
  | nil =>
    simp only [ncub] at e2 e3 ⊢
    refine call_of_wp zt496 rfl ?_
    repeat (first|apply wp_as|apply wp_ss|refine wr (by simp [e1,e2,e3,n1,n2,n3,n4];with_reducible rfl) ?_|refine wq (by simp [e1,e2,e3,n1,n2,n3,n4];with_reducible rfl) ?_|refine wt (by simpa [e1,e2,e3,n1,n2,n3,n4]) ?_|refine wf (by simpa [e1,e2,e3,n1,n2,n3,n4]) ?_|refine xt (by simpa [e1,e2,e3,n1,n2,n3,n4]) ?_|refine xf (by simpa [e1,e2,e3,n1,n2,n3,n4]) ?_|apply wp_bs|apply wp_b|refine wp_sr ?_|refine wp_sx ?_|refine wp_ret' ?_|refine wp_skip' ?_|refine wp_exit' ?_)
    simp [zi496]
  | cons g G =>
    simp only [ncub] at e2 e3 ⊢
    refine call_of_wp zt496 rfl ?_
    repeat (first|apply wp_as|apply wp_ss|refine wr (by simp [e1,e2,e3,n1,n2,n3,n4];with_reducible rfl) ?_|refine wq (by simp [e1,e2,e3,n1,n2,n3,n4];with_reducible rfl) ?_|refine wt (by simpa [e1,e2,e3,n1,n2,n3,n4]) ?_|refine wf (by simpa [e1,e2,e3,n1,n2,n3,n4]) ?_|refine xt (by simpa [e1,e2,e3,n1,n2,n3,n4]) ?_|refine xf (by simpa [e1,e2,e3,n1,n2,n3,n4]) ?_|apply wp_bs|apply wp_b|refine wp_sr ?_|refine wp_sx ?_|refine wp_ret' ?_|refine wp_skip' ?_|refine wp_exit' ?_)
    simp [zi496]
theorem ev_impl_AllMatrices_no (r c:List Int) (k l:Bool) (hr:r.length≤1000) (hc:c.length≤1000) (h:¬ (vMar r c=true∧r.length≤4∧c.length≤4)) :
    Ev tb zl496 [] [L r k,L c l] [] ⟨Z,[],[],[]⟩:=by
  have e1:=ev_lim (ev_ValidMargins r c k l (by omega) (by omega))
  cases hv:vMar r c with
  | false =>
    rw [hv] at e1
    refine call_of_wp zt496 rfl ?_
    repeat (first|apply wp_as|apply wp_ss|refine wr (by simp [e1];with_reducible rfl) ?_|refine wq (by simp [e1];with_reducible rfl) ?_|refine wt (by simpa [e1]) ?_|refine wf (by simpa [e1]) ?_|refine xt (by simpa [e1]) ?_|refine xf (by simpa [e1]) ?_|apply wp_bs|apply wp_b|refine wp_sr ?_|refine wp_sx ?_|refine wp_ret' ?_|refine wp_skip' ?_|refine wp_exit' ?_)
    simp [zi496]
  | true =>
    rw [hv] at e1
    have h':¬ (r.length≤4∧c.length≤4):=fun q=>h ⟨hv,q⟩
    by_cases q:r.length≤4
    · have n1:¬ ((4:Int) < (r.length:Int)):=by omega
      have n2:((4:Int) < (c.length:Int)):=by omega
      have n3:¬ (4 < r.length):=by omega
      have n4:(4 < c.length):=by omega
      refine call_of_wp zt496 rfl ?_
      repeat (first|apply wp_as|apply wp_ss|refine wr (by simp [e1,n1,n2,n3,n4];with_reducible rfl) ?_|refine wq (by simp [e1,n1,n2,n3,n4];with_reducible rfl) ?_|refine wt (by simpa [e1,n1,n2,n3,n4]) ?_|refine wf (by simpa [e1,n1,n2,n3,n4]) ?_|refine xt (by simpa [e1,n1,n2,n3,n4]) ?_|refine xf (by simpa [e1,n1,n2,n3,n4]) ?_|apply wp_bs|apply wp_b|refine wp_sr ?_|refine wp_sx ?_|refine wp_ret' ?_|refine wp_skip' ?_|refine wp_exit' ?_)
      simp [zi496]
    · have n1:((4:Int) < (r.length:Int)):=by omega
      have n3:(4 < r.length):=by omega
      refine call_of_wp zt496 rfl ?_
      repeat (first|apply wp_as|apply wp_ss|refine wr (by simp [e1,n1,n3];with_reducible rfl) ?_|refine wq (by simp [e1,n1,n3];with_reducible rfl) ?_|refine wt (by simpa [e1,n1,n3]) ?_|refine wf (by simpa [e1,n1,n3]) ?_|refine xt (by simpa [e1,n1,n3]) ?_|refine xf (by simpa [e1,n1,n3]) ?_|apply wp_bs|apply wp_b|refine wp_sr ?_|refine wp_sx ?_|refine wp_ret' ?_|refine wp_skip' ?_|refine wp_exit' ?_)
      simp [zi496]
end Go.Idl
namespace Go.Idl
open Go
def fl (t:List (List Int)) (a b:Nat):List (List Int):=(t.set a ((t.getD a []).set b 0)).set b ((t.getD b []).set a 1)
theorem fl_eq {t:List (List Int)} {a b:Nat} (ha:a < t.length) (hb:b < t.length):fl t a b=(t.set a (t[a].set b 0)).set b (t[b].set a 1):=by
  simp [fl,List.getD_eq_getElem?_getD,List.getElem?_eq_getElem ha,List.getElem?_eq_getElem hb]
theorem TT.fl {n:Nat} {t:List (List Int)} (h:TT n t) {a b:Nat} (ha:a < n) (hb:b < n) (hne:a ≠ b):TT n (fl t a b):=by
  have ha':a < t.length:=by rw [h.1];exact ha
  have hb':b < t.length:=by rw [h.1];exact hb
  rw [fl_eq ha' hb']
  have h1:=h.set (b:=b) (v:=0) ha' (by omega)
  have hb2:b < (t.set a (t[a].set b 0)).length:=by simpa using hb'
  have h2:=h1.set (b:=a) (v:=1) hb2 (by omega)
  have:(t.set a (t[a].set b 0))[b]=t[b]:=by rw [List.getElem_set_ne hne]
  rw [this] at h2
  exact h2
def turned (t:List (List Int)) (a b c:Nat):List (List Int):=fl (fl (fl t a b) b c) c a
theorem Tour.tt {t:List (List Int)} (h:Tour t):TT t.length t:=⟨rfl,fun r hr=>⟨(h.2.1 r hr).1,(h.2.1 r hr).2⟩⟩
end Go.Idl
namespace Go.Idl
open Go
theorem TT.row {n:Nat} {t:List (List Int)} (h:TT n t) {a:Nat} (ha:a < n):(t.getD a []).length=n:=by
  have ha':a < t.length:=by rw [h.1];exact ha
  rw [List.getD_eq_getElem?_getD,List.getElem?_eq_getElem ha',Option.getD_some]
  exact (h.2 _ (List.getElem_mem ha')).1
theorem TT.ext {n:Nat} {t u:List (List Int)} (ht:TT n t) (hu:TT n u) (h:∀ i j,i < n→j < n→g2 t i j=g2 u i j):t=u:=by
  rw [← tabF_self ht,← tabF_self hu]
  unfold tabF
  refine List.map_congr_left fun i hi=>?_
  unfold mapR
  exact List.map_congr_left fun j hj=>h i j (List.mem_range.1 hi) (List.mem_range.1 hj)
end Go.Idl
namespace Go.Idl
open Go
theorem ev_equalCubes (gl:List (List (List Int))) (c d:Bool) (hl:gl.length≤1000000) (hb:∀ t ∈ gl,Small2 t) :
    Ev tb zl543 [] [.lst 1 (lub gl) c,.lst 1 (lub gl) d] [] ⟨Bo true,[],[],[]⟩:=by
  have loop:∀ (m i:Nat),i+m=gl.length→wp tb (.loop z543l8) { T:=[(0,.lst 1 (lub gl) c),(1,.lst 1 (lub gl) d),(5,I i)],loc:=[],M:=[] }
      (fun ex st=>ex=.exit 0∧st={ T:=[(0,.lst 1 (lub gl) c),(1,.lst 1 (lub gl) d),(5,I gl.length),(14,Bo false)],loc:=[],M:=[] }):=by
    intro m
    induction m with
    | zero =>
      intro i hi
      have h3:i=gl.length:=hi
      subst h3
      refine wp_loop ?_
      repeat (first|apply wp_as|apply wp_ss|refine wr (by simp;with_reducible rfl) ?_|refine wq (by simp;with_reducible rfl) ?_|refine wt (by simpa) ?_|refine wf (by simpa) ?_|refine xt (by simpa) ?_|refine xf (by simpa) ?_|apply wp_bs|apply wp_b|refine wp_sr ?_|refine wp_sx ?_|refine wp_ret' ?_|refine wp_skip' ?_|refine wp_exit' ?_)
      first | done | exact ⟨rfl,rfl⟩
    | succ m ih =>
      intro i hi
      have hi2:i < gl.length:=by omega
      have w2:IntKind.i64.wrap ((i:Int)+1)=((i+1:Nat):Int):=wrapS (by omega)
      have hq:=hb _ (List.getElem_mem hi2)
      have e1:=ev_lim (ev_equalLists gl[i] gl[i] false false hq hq)
      simp only [decide_true] at e1
      have hg:=ih (i+1) (by omega)
      refine wp_loop ?_
      repeat (first|apply wp_as|apply wp_ss|refine wr (by simp [hi2,e1,w2];with_reducible rfl) ?_|refine wq (by simp [hi2,e1,w2];with_reducible rfl) ?_|refine wt (by simpa [hi2,e1,w2]) ?_|refine wf (by simpa [hi2,e1,w2]) ?_|refine xt (by simpa [hi2,e1,w2]) ?_|refine xf (by simpa [hi2,e1,w2]) ?_|apply wp_bs|apply wp_b|refine wp_sr ?_|refine wp_sx ?_|refine wp_ret' ?_|refine wp_skip' ?_|refine wp_exit' ?_)
      exact hg
  refine call_of_wp zt543 rfl ?_
  repeat (first|apply wp_as|apply wp_ss|refine wr (by simp;with_reducible rfl) ?_|refine wq (by simp;with_reducible rfl) ?_|refine wt (by simpa) ?_|refine wf (by simpa) ?_|refine xt (by simpa) ?_|refine xf (by simpa) ?_|apply wp_bs|apply wp_b|refine wp_sr ?_|refine wp_sx ?_|refine wp_ret' ?_|refine wp_skip' ?_|refine wp_exit' ?_)
  have h0:=loop gl.length 0 (by omega)
  rw [show ((0:Nat):Int)=0 from rfl] at h0
  refine wp_imp h0 ?_
  rintro ex st ⟨rfl,rfl⟩
  simp only [if_true]
  repeat (first|apply wp_as|apply wp_ss|refine wr (by simp;with_reducible rfl) ?_|refine wq (by simp;with_reducible rfl) ?_|refine wt (by simpa) ?_|refine wf (by simpa) ?_|refine xt (by simpa) ?_|refine xf (by simpa) ?_|apply wp_bs|apply wp_b|refine wp_sr ?_|refine wp_sx ?_|refine wp_ret' ?_|refine wp_skip' ?_|refine wp_exit' ?_)
  simp [zi543]
theorem ev_equalCubes_Z:Ev tb zl543 [] [Z,Z] [] ⟨Bo true,[],[],[]⟩:=by
  refine call_of_wp zt543 rfl ?_
  repeat (first|apply wp_as|apply wp_ss|refine wr (by simp;with_reducible rfl) ?_|refine wq (by simp;with_reducible rfl) ?_|refine wt (by simpa) ?_|refine wf (by simpa) ?_|refine xt (by simpa) ?_|refine xf (by simpa) ?_|apply wp_bs|apply wp_b|refine wp_sr ?_|refine wp_sx ?_|refine wp_ret' ?_|refine wp_skip' ?_|refine wp_exit' ?_)
  refine wp_loop ?_
  repeat (first|apply wp_as|apply wp_ss|refine wr (by simp;with_reducible rfl) ?_|refine wq (by simp;with_reducible rfl) ?_|refine wt (by simpa) ?_|refine wf (by simpa) ?_|refine xt (by simpa) ?_|refine xf (by simpa) ?_|apply wp_bs|apply wp_b|refine wp_sr ?_|refine wp_sx ?_|refine wp_ret' ?_|refine wp_skip' ?_|refine wp_exit' ?_)
  simp [zi543]
theorem ev_equalCubes_Z2 (c:Bool):Ev tb zl543 [] [Z,.lst 1 [] c] [] ⟨Bo true,[],[],[]⟩:=by
  refine call_of_wp zt543 rfl ?_
  repeat (first|apply wp_as|apply wp_ss|refine wr (by simp;with_reducible rfl) ?_|refine wq (by simp;with_reducible rfl) ?_|refine wt (by simpa) ?_|refine wf (by simpa) ?_|refine xt (by simpa) ?_|refine xf (by simpa) ?_|apply wp_bs|apply wp_b|refine wp_sr ?_|refine wp_sx ?_|refine wp_ret' ?_|refine wp_skip' ?_|refine wp_exit' ?_)
  refine wp_loop ?_
  repeat (first|apply wp_as|apply wp_ss|refine wr (by simp;with_reducible rfl) ?_|refine wq (by simp;with_reducible rfl) ?_|refine wt (by simpa) ?_|refine wf (by simpa) ?_|refine xt (by simpa) ?_|refine xf (by simpa) ?_|apply wp_bs|apply wp_b|refine wp_sr ?_|refine wp_sx ?_|refine wp_ret' ?_|refine wp_skip' ?_|refine wp_exit' ?_)
  simp [zi543]
end Go.Idl
