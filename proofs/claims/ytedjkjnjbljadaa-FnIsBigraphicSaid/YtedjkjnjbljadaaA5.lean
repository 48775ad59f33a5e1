/- Part 5 of a proof by an ideal interpreter of the code: its definitions and lemmas. Conditions: none. -/
import Derived.KernelRfl
import Derived.Test.YtedjkjnjbljadaaA4
set_option linter.all false
set_option linter.unusedVariables false
set_option linter.unusedSimpArgs false
namespace Go.Idl
open Go
theorem ev_in (n lo hi:Int):Ev tb zl38 [] [I n,I lo,I hi] [] ⟨Bo (decide (lo≤n) && decide (n≤hi)),[],[],[]⟩:=by
  refine call_of_wp zt38 rfl ?_
  refine wp_rs (by simp;rfl) (by simp;rfl) ?_
  by_cases h:lo≤n
  · refine wp_rs (by simp [h];rfl) (by simp;rfl) ?_
    refine wp_ret' ?_
    simp [h,zi38]
  · refine wp_rs (by simp [h];rfl) (by simp;rfl) ?_
    refine wp_ret' ?_
    simp [h,zi38]
theorem ev_inRange (n lo hi:Int):Ev tb zl132 [] [I n,I lo,I hi] [] ⟨Bo (decide (lo≤n) && decide (n≤hi)),[],[],[]⟩:=by
  refine call_of_wp zt132 rfl ?_
  refine wp_rs (by simp;rfl) (by simp;rfl) ?_
  by_cases h:lo≤n
  · refine wp_rs (by simp [h];rfl) (by simp;rfl) ?_
    refine wp_ret' ?_
    simp [h,zi132]
  · refine wp_rs (by simp [h];rfl) (by simp;rfl) ?_
    refine wp_ret' ?_
    simp [h,zi132]
def SmallSum (xs:List Int):Prop:=xs.length≤1000000∧∀ k,-4611686018427387904≤(xs.take k).sum∧(xs.take k).sum≤4611686018427387904
theorem sum_take_succ {xs:List Int} {i:Nat} (h:i < xs.length):(xs.take i).sum+xs[i]=(xs.take (i+1)).sum:=by
  rw [List.take_succ_eq_append_getElem h,List.sum_append];simp
theorem ev_sum (xs:List Int) (c:Bool) (hs:SmallSum xs):Ev tb zl40 [] [.lst 1 (ints xs) c] [] ⟨I xs.sum,[],[],[]⟩:=by
  obtain ⟨hl,hs⟩:=hs
  have loop:∀ (m i:Nat),i+m=xs.length→wp tb (.loop z40l7) { T:=[(0,.lst 1 (ints xs) c),(3,I (xs.take i).sum),(6,.lst 1 (ints xs) c),(7,I xs.length),(8,I i)],loc:=[],M:=[] }
      (fun ex st=>ex=.exit 0∧st={ T:=[(0,.lst 1 (ints xs) c),(3,I xs.sum),(6,.lst 1 (ints xs) c),(7,I xs.length),(8,I xs.length),(9,Bo false)],loc:=[],M:=[] }):=by
    intro m
    induction m with
    | zero =>
      intro i hi
      have hi':i=xs.length:=by omega
      subst hi'
      apply wp_loop
      refine wp_rs (by simp;rfl) (by simp;rfl) ?_
      refine wp_ct rfl (by simp) fun _=>wp_sx ?_
      simp
    | succ m ih =>
      intro i hi
      have hi':i < xs.length:=by omega
      have h1:=hs (i+1)
      rw [← sum_take_succ hi'] at h1
      apply wp_loop
      refine wp_rs (by simp;rfl) (by simp;rfl) ?_
      refine wp_ct rfl (fun _=>wp_ss ?_) (by simp [hi'])
      refine wp_bs ?_
      refine wp_rs (by simp [hi'];rfl) (by simp;rfl) ?_
      refine wp_reg (by simp;rfl) (by simp;rfl) ?_
      refine wp_reg (by simp;rfl) (by simp;rfl) ?_
      have:=ih (i+1) (by omega)
      rw [wrapS (by omega),wrap64 (by omega) (by omega),sum_take_succ hi']
      exact this
  refine call_of_wp zt40 rfl ?_
  refine wp_rs (by simp;rfl) (by simp;rfl) ?_
  refine wp_rs (by simp;rfl) (by simp;rfl) ?_
  refine wp_as (wp_rs (by simp;rfl) (by simp;rfl) ?_)
  refine wp_bs (wp_imp (loop xs.length 0 (by simp)) ?_)
  rintro ex st ⟨rfl,rfl⟩
  simp only [if_true]
  refine wp_rs (by simp;rfl) (by simp;rfl) ?_
  refine wp_ret' ?_
  simp [zi40]
theorem ev_Clip (xs:List Int):Ev tb zl70 [] [.own 1 (ints xs)] [] ⟨.own 1 (ints xs),[],[],[]⟩:=by
  refine call_of_wp zt70 rfl ?_
  refine wp_rs (by simp;rfl) (by simp;rfl) ?_
  refine wp_rs (by simp;rfl) (by simp;rfl) ?_
  refine wp_ret' ?_
  simp [zi70]
theorem ev_Clone (xs:List Int) (c:Bool) (hl:xs.length≤1000000):Ev tb zl71 [] [.lst 1 (ints xs) c] [] ⟨.own 1 (ints xs),[],[],[]⟩:=by
  refine call_of_wp zt71 rfl ?_
  refine wp_rs (by simp;rfl) (by simp;rfl) ?_
  refine wp_nil2 (b:=xs.isEmpty) (by simp [z71r1];rfl) (by simp) ?_ ?_ ?_ (ex:=.ret) (st':={ T:=[(2,.own 1 (ints xs))],loc:=[],M:=[] })
  · refine wp_ct (t:=false) (by simp) (by simp) fun _=>wp_ss ?_
    refine wp_rs (by simp [show xs.length≤274877906944 by omega];rfl) (by simp;rfl) ?_
    refine wp_ret' ?_
    simp
  · intro he
    have:xs=[]:=by simpa using he
    subst this
    refine wp_ct (t:=true) (by simp) (fun _=>wp_as ?_) (by simp)
    refine wp_rs (by simp;rfl) (by simp;rfl) ?_
    refine wp_sr ?_
    simp
  · simp [zi71]
theorem ev_clone (xs:List Int) (c:Bool) (hl:xs.length≤1000000) :
    Ev tb zl31 [] [.lst 1 (ints xs) c] [] ⟨.own 1 (ints xs),[],[],[]⟩:=by
  have e1:=ev_lim (ev_Clone xs c hl)
  have e2:=ev_lim (ev_Clip xs)
  refine call_of_wp zt31 rfl ?_
  refine wp_rs (by simp;rfl) (by simp;rfl) ?_
  refine wp_rs (by simp [e1,e2];rfl) (by simp;rfl) ?_
  refine wp_ret' ?_
  simp [zi31]
theorem ev_spec_sum (xs:List Int) (c:Bool) (hs:SmallSum xs):Ev tb zl382 [] [.lst 1 (ints xs) c] [] ⟨I xs.sum,[],[],[]⟩:=by
  obtain ⟨hl,hs⟩:=hs
  have loop:∀ (m i:Nat),i+m=xs.length→wp tb (.loop z382l6) { T:=[(0,.lst 1 (ints xs) c),(3,I (xs.take i).sum),(4,I i)],loc:=[],M:=[] }
      (fun ex st=>ex=.exit 0∧st={ T:=[(0,.lst 1 (ints xs) c),(3,I xs.sum),(4,I xs.length),(8,Bo false)],loc:=[],M:=[] }):=by
    intro m
    induction m with
    | zero =>
      intro i hi
      have hi':i=xs.length:=by omega
      subst hi'
      refine wp_loop (wp_as (wp_rs (by simp;rfl) (by simp;rfl) ?_))
      exact wp_ct rfl (by simp) fun _=>wp_sx (by simp)
    | succ m ih =>
      intro i hi
      have hi':i < xs.length:=by omega
      have h1:=hs (i+1)
      rw [← sum_take_succ hi'] at h1
      refine wp_loop (wp_as (wp_rs (by simp;rfl) (by simp;rfl) ?_))
      refine wp_ct rfl (fun _=>wp_ss ?_) (by simp [hi'])
      refine wp_bs (wp_reg (by simp [hi'];rfl) (by simp;rfl) ?_)
      refine wp_reg (by simp;rfl) (by simp;rfl) ?_
      have:=ih (i+1) (by omega)
      rw [wrapS (by omega),wrap64 (by omega) (by omega),sum_take_succ hi']
      exact this
  refine call_of_wp zt382 rfl ?_
  refine wp_rs (by simp;rfl) (by simp;rfl) ?_
  refine wp_rs (by simp;rfl) (by simp;rfl) ?_
  refine wp_as (wp_rs (by simp;rfl) (by simp;rfl) ?_)
  refine wp_bs (wp_imp (loop xs.length 0 (by simp)) ?_)
  rintro ex st ⟨rfl,rfl⟩
  simp only [if_true]
  refine wp_rs (by simp;rfl) (by simp;rfl) ?_
  exact wp_ret' (by simp [zi382])
end Go.Idl
namespace Go.Idl
def insD (x:Int):List Int→List Int
  | []=>[x]
  | y::ys=>if x≤y then y::insD x ys else x::y::ys
def fall (xs:List Int):List Int:=xs.foldl (fun out x=>insD x out) []
abbrev Desc (xs:List Int):Prop:=xs.Pairwise (fun a b=>b≤a)
abbrev Asc (xs:List Int):Prop:=xs.Pairwise (fun a b=>a≤b)
theorem insD_perm (x:Int) (ys:List Int):(insD x ys).Perm (x::ys):=by
  induction ys with
  | nil=>exact .refl _
  | cons y ys ih =>
    unfold insD
    split
    · exact (ih.cons y).trans (.swap x y ys)
    · exact .refl _
theorem insD_desc (x:Int) (ys:List Int) (h:Desc ys):Desc (insD x ys):=by
  induction ys with
  | nil=>simp [insD]
  | cons y ys ih =>
    unfold insD
    have h:=List.pairwise_cons.1 h
    split
    · refine List.pairwise_cons.2 ⟨fun a ha=>?_,ih h.2⟩
      rcases List.mem_cons.1 ((insD_perm x ys).mem_iff.1 ha) with rfl | ha
      · assumption
      · exact h.1 a ha
    · rename_i hx
      refine List.pairwise_cons.2 ⟨fun a ha=>?_,List.pairwise_cons.2 h⟩
      rcases List.mem_cons.1 ha with rfl | ha
      · omega
      · have:=h.1 a ha;omega
theorem fall_aux (xs:List Int):∀ ys,Desc ys→Desc (xs.foldl (fun out x=>insD x out) ys)∧(xs.foldl (fun out x=>insD x out) ys).Perm (xs++ys):=by
  induction xs with
  | nil=>intro ys h;exact ⟨h,.refl _⟩
  | cons x xs ih =>
    intro ys h
    obtain ⟨h1,h2⟩:=ih (insD x ys) (insD_desc x ys h)
    refine ⟨h1,h2.trans ?_⟩
    exact ((insD_perm x ys).append_left xs).trans List.perm_middle
theorem fall_desc (xs:List Int):Desc (fall xs):=(fall_aux xs [] .nil).1
theorem fall_perm (xs:List Int):(fall xs).Perm xs:=by simpa [fall] using (fall_aux xs [] .nil).2
theorem fall_len (xs:List Int):(fall xs).length=xs.length:=(fall_perm xs).length_eq
theorem desc_unique {xs ys:List Int} (hx:Desc xs) (hy:Desc ys) (h:xs.Perm ys):xs=ys:=by
  refine List.Perm.eq_of_pairwise (le:=fun a b=>b≤a) (fun a b _ _ h1 h2=>by omega) hx hy h
theorem fall_unique {xs ys:List Int} (hy:Desc ys) (h:ys.Perm xs):ys=fall xs:=desc_unique hy (fall_desc xs) (h.trans (fall_perm xs).symm)
theorem perm_sum {xs ys:List Int} (h:xs.Perm ys):xs.sum=ys.sum:=by
  induction h with
  | nil=>rfl
  | cons x _ ih=>simp [ih]
  | swap x y l=>simp;omega
  | trans _ _ h1 h2=>exact h1.trans h2
theorem fall_sum (xs:List Int):(fall xs).sum=xs.sum:=perm_sum (fall_perm xs)
theorem fall_mem {xs:List Int} {x:Int}:x ∈ fall xs ↔ x ∈ xs:=(fall_perm xs).mem_iff
def insR (x:Int):List Int→List Int→List Int
  | [],B=>x::B
  | a::r,B=>if x < a then insR x r (a::B) else r.reverse++a::x::B
theorem insR_perm (x:Int):∀ (r B:List Int),(insR x r B).Perm (r.reverse++x::B)
  | [],B=>.refl _
  | a::r,B=>by
    unfold insR
    split
    · refine (insR_perm x r (a::B)).trans ?_
      rw [List.reverse_cons,List.append_assoc]
      exact List.Perm.append_left _ (.swap _ _ _)
    · rw [List.reverse_cons,List.append_assoc]
      exact .refl _
theorem insR_asc (x:Int):∀ (r B:List Int),Asc (r.reverse++B)→(∀ b ∈ B,x≤b)→Asc (insR x r B)
  | [],B,h,hb=>List.pairwise_cons.2 ⟨hb,by simpa using h⟩
  | a::r,B,h,hb=>by
    rw [List.reverse_cons,List.append_assoc] at h
    unfold insR
    split
    · rename_i hx
      refine insR_asc x r (a::B) h fun b hb'=>?_
      rcases List.mem_cons.1 hb' with rfl | hb'
      · omega
      · exact hb b hb'
    · rename_i hx
      obtain ⟨h1,h2,h3⟩:=List.pairwise_append.1 (show Asc (r.reverse++a::B) from h)
      have h2:=List.pairwise_cons.1 h2
      refine List.pairwise_append.2 ⟨h1,?_,fun p hp q hq=>?_⟩
      · refine List.pairwise_cons.2 ⟨fun q hq=>?_,List.pairwise_cons.2 ⟨hb,h2.2⟩⟩
        rcases List.mem_cons.1 hq with rfl | hq
        · omega
        · exact h2.1 q hq
      · have ha:=h3 p hp a (by simp)
        rcases List.mem_cons.1 hq with rfl | hq
        · exact ha
        · rcases List.mem_cons.1 hq with rfl | hq
          · omega
          · exact h3 p hp q (by simp [hq])
def asc:Nat→List Int→List Int→List Int
  | _,S,[]=>S
  | n,S,x::r=>asc n (insR x S.reverse []) r
theorem asc_ok:∀ (r S:List Int),Asc S→Asc (asc 0 S r)∧(asc 0 S r).Perm (S++r)
  | [],S,h=>⟨h,by simp [asc]⟩
  | x::r,S,h=>by
    obtain ⟨h1,h2⟩:=asc_ok r (insR x S.reverse []) (insR_asc x _ _ (by simpa using h) (by simp))
    refine ⟨h1,h2.trans ?_⟩
    have:=insR_perm x S.reverse []
    rw [List.reverse_reverse] at this
    refine (this.append_right r).trans ?_
    rw [List.append_assoc];exact .refl _
theorem asc_rev (xs:List Int):(asc 0 [] xs).reverse=fall xs:=by
  obtain ⟨h1,h2⟩:=asc_ok xs [] .nil
  refine fall_unique ?_ ((List.reverse_perm _).trans (by simpa using h2))
  rw [Desc,List.pairwise_reverse];exact h1
theorem asc_len (xs:List Int):(asc 0 [] xs).length=xs.length:=by simpa using (asc_ok xs [] .nil).2.length_eq
end Go.Idl
namespace Go.Idl
open Go
abbrev L (xs:List Int) (c:Bool:=false):IV:=.lst 1 (ints xs) c
abbrev O (xs:List Int):IV:=.own 1 (ints xs)
theorem ev_isNaN (n:Int):Ev tb zl4 [] [I n] [] ⟨Bo false,[],[],[]⟩:=by
  refine call_of_wp zt4 rfl ?_
  repeat (first|refine wp_as ?_|refine wp_ss ?_|refine wr (by simp;with_reducible rfl) ?_|refine wq (by simp;with_reducible rfl) ?_|refine wt (by simp) ?_|refine wf (by simp) ?_|refine xt (by simp) ?_|refine xf (by simp) ?_|refine wp_bs ?_|refine wp_b ?_|refine wp_sr ?_|refine wp_sx ?_|refine wp_ret' ?_|refine wp_skip' ?_|refine wp_exit' ?_)
  simp [zi4]
theorem ev_Less (a b:Int):Ev tb zl2 [] [I a,I b] [] ⟨Bo (decide (a < b)),[],[],[]⟩:=by
  have e1:=fun n=>ev_lim (ev_isNaN n)
  refine call_of_wp zt2 rfl ?_
  repeat (first|refine wp_as ?_|refine wp_ss ?_|refine wr (by simp [e1];with_reducible rfl) ?_|refine wq (by simp [e1];with_reducible rfl) ?_|refine wt (by simp [e1]) ?_|refine wf (by simp [e1]) ?_|refine xt (by simp [e1]) ?_|refine xf (by simp [e1]) ?_|refine wp_bs ?_|refine wp_b ?_|refine wp_sr ?_|refine wp_sx ?_|refine wp_ret' ?_|refine wp_skip' ?_|refine wp_exit' ?_)
  simp [zi2]
theorem app_get1 {A Z:List Int} {a x:Int}:(A++a::x::Z)[A.length+1]? = some x:=by
  rw [List.getElem?_append_right (by omega)];simp
theorem app_get0 {A Z:List Int} {a:Int}:(A++a::Z)[A.length]? = some a:=by
  rw [List.getElem?_append_right (by omega)];simp
theorem app_set {A Z:List Int} {a x:Int}:((A++a::x::Z).set (A.length+1) a).set A.length x=A++x::a::Z:=by
  rw [List.set_append_right _ _ (by omega),List.set_append_right _ _ (by omega)]
  simp
theorem insl (n i:Int) (x:Int) (rest:List Int) (M:List Boxes):∀ (k:Nat) (A B:List Int),A.length=k→k+B.length+rest.length≤1000000 →
    wp tb (.loop z86l6) { T:=[(0,O (A++x::(B++rest))),(1,I 0),(2,I n),(6,I i),(7,I k)],loc:=[],M:=M }
      (fun ex st=>ex=.exit 2∧∃ k':Int,st={ T:=[(0,O (insR x A.reverse B++rest)),(1,I 0),(2,I n),(6,I i),(7,I k'),(30,Bo false)],loc:=[],M:=M }):=by
  have e1:=fun a b=>ev_lim (ev_Less a b)
  intro k
  induction k with
  | zero =>
    intro A B hA hl
    have:A=[]:=List.length_eq_zero_iff.1 hA
    subst this
    refine wp_loop ?_
    repeat (first|refine wp_as ?_|refine wp_ss ?_|refine wr (by simp;with_reducible rfl) ?_|refine wq (by simp;with_reducible rfl) ?_|refine wt (by simp) ?_|refine wf (by simp) ?_|refine xt (by simp) ?_|refine xf (by simp) ?_|refine wp_bs ?_|refine wp_b ?_|refine wp_sr ?_|refine wp_sx ?_|refine wp_ret' ?_|refine wp_skip' ?_|refine wp_exit' ?_)
    exact ⟨rfl,_,by simp [insR];rfl⟩
  | succ k ih =>
    intro A B hA hl
    obtain ⟨A',a,rfl⟩:∃ A' a,A=A'++[a]:=⟨A.dropLast,A.getLast (by intro h;subst h;simp at hA),(List.dropLast_concat_getLast _).symm⟩
    have hA':A'.length=k:=by simpa using hA
    subst hA'
    have w1:IntKind.i64.wrap (A'.length:Int)=(A'.length:Int):=wrapN (by omega)
    have w2:(0:Int) < (A'.length:Int)+1:=by omega
    simp only [List.append_assoc,List.singleton_append]
    by_cases hx:x < a
    · refine wp_loop ?_
      repeat (first|refine wp_as ?_|refine wp_ss ?_|refine wr (by simp [e1,hx,w1,w2,app_get0,app_get1,app_set];with_reducible rfl) ?_|refine wq (by simp [e1,hx,w1,w2,app_get0,app_get1,app_set];with_reducible rfl) ?_|refine wt (by simp [e1,hx,w1,w2,app_get0,app_get1,app_set]) ?_|refine wf (by simp [e1,hx,w1,w2,app_get0,app_get1,app_set]) ?_|refine xt (by simp [e1,hx,w1,w2,app_get0,app_get1,app_set]) ?_|refine xf (by simp [e1,hx,w1,w2,app_get0,app_get1,app_set]) ?_|refine wp_bs ?_|refine wp_b ?_|refine wp_sr ?_|refine wp_sx ?_|refine wp_ret' ?_|refine wp_skip' ?_|refine wp_exit' ?_)
      have:=ih A' (a::B) rfl (by simp;omega)
      simp only [List.cons_append,List.reverse_append,List.reverse_cons,List.reverse_nil,List.nil_append] at this ⊢
      simp only [insR,hx,if_true]
      exact this
    · refine wp_loop ?_
      repeat (first|refine wp_as ?_|refine wp_ss ?_|refine wr (by simp [e1,hx,w1,w2,app_get0,app_get1,app_set];with_reducible rfl) ?_|refine wq (by simp [e1,hx,w1,w2,app_get0,app_get1,app_set];with_reducible rfl) ?_|refine wt (by simp [e1,hx,w1,w2,app_get0,app_get1,app_set]) ?_|refine wf (by simp [e1,hx,w1,w2,app_get0,app_get1,app_set]) ?_|refine xt (by simp [e1,hx,w1,w2,app_get0,app_get1,app_set]) ?_|refine xf (by simp [e1,hx,w1,w2,app_get0,app_get1,app_set]) ?_|refine wp_bs ?_|refine wp_b ?_|refine wp_sr ?_|refine wp_sx ?_|refine wp_ret' ?_|refine wp_skip' ?_|refine wp_exit' ?_)
      refine ⟨rfl,((A'.length+1:Nat):Int),?_⟩
      simp only [List.reverse_append,List.reverse_cons,List.reverse_nil,List.nil_append,List.cons_append]
      simp only [insR,hx,if_false,List.reverse_reverse,List.append_assoc,List.cons_append]
      rfl
theorem insr_len (x:Int) (S:List Int):(insR x S.reverse []).length=S.length+1:=by
  have:=(insR_perm x S.reverse []).length_eq
  simpa using this
theorem sortl (M:List Boxes) (n:Int):∀ (r S:List Int),n=(S.length+r.length:Nat)→S.length+r.length≤1000000 →
    wp tb (.loop z86l8) { T:=[(0,O (S++r)),(1,I 0),(2,I n),(6,I S.length)],loc:=[],M:=M }
      (fun ex st=>ex=.exit 0∧∃ k':Int,st={ T:=[(0,O (asc 0 S r)),(1,I 0),(2,I n),(6,I k'),(12,Bo false)],loc:=[],M:=M }):=by
  intro r
  induction r with
  | nil =>
    intro S hn hl
    refine wp_loop ?_
    have h1:¬ (S.length:Int) < n:=by simp at hn;omega
    repeat (first|refine wp_as ?_|refine wp_ss ?_|refine wr (by simp [h1];with_reducible rfl) ?_|refine wq (by simp [h1];with_reducible rfl) ?_|refine wt (by simp [h1]) ?_|refine wf (by simp [h1]) ?_|refine xt (by simp [h1]) ?_|refine xf (by simp [h1]) ?_|refine wp_bs ?_|refine wp_b ?_|refine wp_sr ?_|refine wp_sx ?_|refine wp_ret' ?_|refine wp_skip' ?_|refine wp_exit' ?_)
    exact ⟨rfl,_,by simp [asc];rfl⟩
  | cons x r ih =>
    intro S hn hl
    refine wp_loop ?_
    simp only [List.length_cons] at hn hl
    have h1:(S.length:Int) < n:=by omega
    have w1:IntKind.i64.wrap ((S.length:Int)+1)=(S.length:Int)+1:=by rw [wrap64 (by omega) (by omega)]
    repeat (first|refine wp_as ?_|refine wp_ss ?_|refine wr (by simp [h1,w1];with_reducible rfl) ?_|refine wq (by simp [h1,w1];with_reducible rfl) ?_|refine wt (by simp [h1,w1]) ?_|refine wf (by simp [h1,w1]) ?_|refine xt (by simp [h1,w1]) ?_|refine xf (by simp [h1,w1]) ?_|refine wp_bs ?_|refine wp_b ?_|refine wp_sr ?_|refine wp_sx ?_|refine wp_ret' ?_|refine wp_skip' ?_|refine wp_exit' ?_)
    refine wp_imp (insl n S.length x r M S.length S [] rfl (by simp;omega)) ?_
    rintro ex st ⟨rfl,k',rfl⟩
    simp only [if_true]
    repeat (first|refine wp_as ?_|refine wp_ss ?_|refine wr (by simp [h1,w1];with_reducible rfl) ?_|refine wq (by simp [h1,w1];with_reducible rfl) ?_|refine wt (by simp [h1,w1]) ?_|refine wf (by simp [h1,w1]) ?_|refine xt (by simp [h1,w1]) ?_|refine xf (by simp [h1,w1]) ?_|refine wp_bs ?_|refine wp_b ?_|refine wp_sr ?_|refine wp_sx ?_|refine wp_ret' ?_|refine wp_skip' ?_|refine wp_exit' ?_)
    have:=ih (insR x S.reverse []) (by rw [insr_len];omega) (by rw [insr_len];omega)
    rw [insr_len] at this
    exact this
theorem ev_insertionSort (xs:List Int) (hl:xs.length≤1000) (M:List Boxes) :
    Ev tb zl86 [0] [O xs,I 0,I xs.length] M ⟨.tup [],[O (asc 0 [] xs)],M,[]⟩:=by
  refine call_of_wp zt86 rfl ?_
  repeat (first|refine wp_as ?_|refine wp_ss ?_|refine wr (by simp;with_reducible rfl) ?_|refine wq (by simp;with_reducible rfl) ?_|refine wt (by simp) ?_|refine wf (by simp) ?_|refine xt (by simp) ?_|refine xf (by simp) ?_|refine wp_bs ?_|refine wp_b ?_|refine wp_sr ?_|refine wp_sx ?_|refine wp_ret' ?_|refine wp_skip' ?_|refine wp_exit' ?_)
  cases xs with
  | nil =>
    refine wp_loop ?_
    repeat (first|refine wp_as ?_|refine wp_ss ?_|refine wr (by simp;with_reducible rfl) ?_|refine wq (by simp;with_reducible rfl) ?_|refine wt (by simp) ?_|refine wf (by simp) ?_|refine xt (by simp) ?_|refine xf (by simp) ?_|refine wp_bs ?_|refine wp_b ?_|refine wp_sr ?_|refine wp_sx ?_|refine wp_ret' ?_|refine wp_skip' ?_|refine wp_exit' ?_)
    simp [zi86,asc]
  | cons x r =>
    simp only [List.length_cons] at hl
    refine wp_imp (sortl M _ r [x] (by simp;omega) (by simp;omega)) ?_
    rintro ex st ⟨rfl,k',rfl⟩
    simp [zi86,asc,insR]
theorem ev_pdqsort (xs:List Int) (hl:xs.length≤12) (k:Int) (M:List Boxes) :
    Ev tb zl101 [0] [O xs,I 0,I xs.length,I k] M ⟨.tup [],[O (asc 0 [] xs)],M,[]⟩:=by
  have e1:=ev_lim (ev_insertionSort xs (by omega) (M++[[]]))
  have w1:IntKind.i64.wrap (xs.length:Int)=(xs.length:Int):=wrapN (by omega)
  refine call_of_wp zt101 rfl ?_
  repeat (first|refine wp_as ?_|refine wp_ss ?_|refine wr (by simp;with_reducible rfl) ?_|refine wq (by simp;with_reducible rfl) ?_|refine wt (by simp) ?_|refine wf (by simp) ?_|refine xt (by simp) ?_|refine xf (by simp) ?_|refine wp_bs ?_|refine wp_b ?_|refine wp_sr ?_|refine wp_sx ?_|refine wp_ret' ?_|refine wp_skip' ?_|refine wp_exit' ?_)
  refine wp_loop ?_
  have h:(xs.length:Int)≤12:=by omega
  repeat (first|refine wp_as ?_|refine wp_ss ?_|refine wr (by simp [e1,w1,hl,h];with_reducible rfl) ?_|refine wq (by simp [e1,w1,hl,h];with_reducible rfl) ?_|refine wt (by simp [e1,w1,hl,h]) ?_|refine wf (by simp [e1,w1,hl,h]) ?_|refine xt (by simp [e1,w1,hl,h]) ?_|refine xf (by simp [e1,w1,hl,h]) ?_|refine wp_bs ?_|refine wp_b ?_|refine wp_sr ?_|refine wp_sx ?_|refine wp_ret' ?_|refine wp_skip' ?_|refine wp_exit' ?_)
  simp [zi101]
theorem len_r (cf:CF) (n:Int) (m:Nat) (g:ByteArray) (hw:IntKind.u8.wrap n=(m:Int)) (hb:(g[m]?).isSome=true) :
    ∃ k st,execOps cf { T:=[(0,.sc (.int .u64 n)),(2,I 0),(14,Bo false)],loc:=[],M:=[] } [⟨some 19,none,.mv (.t 2)⟩,⟨some 20,none,.mv (.t 0)⟩,⟨some 21,none,.conv .u8 (.t 20)⟩,⟨some 22,none,.idxs (.c (.string g)) (.t 21)⟩,⟨some 23,none,.conv .i64 (.t 22)⟩,⟨some 24,none,.bin .add (.t 19) (.t 23)⟩,⟨some 2,none,.asg (.t 24)⟩]=some st∧st.cut [2]={ T:=[(2,I k)],loc:=[],M:=[] }:=by
  obtain ⟨b,hb⟩:=Option.isSome_iff_exists.1 hb
  refine ⟨_,_,by simp [hw,hb];rfl,by simp;rfl⟩
set_option maxRecDepth 100000 in
theorem ev_Len64 (n:Nat) (hn:n≤12):∃ k:Int,Ev tb zl68 [] [.sc (.int .u64 n)] [] ⟨I k,[],[],[]⟩:=by
  have w8:IntKind.u8.wrap (n:Int)=(n:Int):=by
    have:n=0 ∨ n=1 ∨ n=2 ∨ n=3 ∨ n=4 ∨ n=5 ∨ n=6 ∨ n=7 ∨ n=8 ∨ n=9 ∨ n=10 ∨ n=11 ∨ n=12:=by omega
    rcases this with rfl | rfl | rfl | rfl | rfl | rfl | rfl | rfl | rfl | rfl | rfl | rfl | rfl <;> rfl
  have key:∃ k:Int,∃ st,execOps (limF tb) { T:=[(0,.sc (.int .u64 n)),(2,I 0),(14,Bo false)],loc:=[],M:=[] } (match z68r10 with | .reg ops _ _=>ops | _=>[])=some st∧st.cut [2]={ T:=[(2,I k)],loc:=[],M:=[] }:=by
    have:n=0 ∨ n=1 ∨ n=2 ∨ n=3 ∨ n=4 ∨ n=5 ∨ n=6 ∨ n=7 ∨ n=8 ∨ n=9 ∨ n=10 ∨ n=11 ∨ n=12:=by omega
    rcases this with rfl | rfl | rfl | rfl | rfl | rfl | rfl | rfl | rfl | rfl | rfl | rfl | rfl
    all_goals
      refine len_r (limF tb) _ _ _ w8 ?_
      rfl
  obtain ⟨k,st,h1,h2⟩:=key
  have g1:¬ (4294967296:Int)≤n:=by omega
  have g2:¬ (65536:Int)≤n:=by omega
  have g3:¬ (256:Int)≤n:=by omega
  refine ⟨k,?_⟩
  refine call_of_wp zt68 rfl ?_
  iterate 4 ((first|refine wp_as ?_|skip);refine wp_rs (by simp [g1,g2,g3];rfl) (by simp;rfl) ?_;(first|refine wp_ct (t:=false) (by simp) (by simp) (fun _=>?_)|skip);(first|refine wp_ss ?_|skip))
  refine wp_rs h1 h2 ?_
  refine wp_ret' ?_
  simp [zi68]
theorem ev_Len (n:Nat) (hn:n≤12):∃ k:Int,Ev tb zl66 [] [.sc (.int .u64 n)] [] ⟨I k,[],[],[]⟩:=by
  obtain ⟨k,hk⟩:=ev_Len64 n hn
  have e1:=ev_lim hk
  refine ⟨k,?_⟩
  refine call_of_wp zt66 rfl ?_
  repeat (first|refine wp_as ?_|refine wp_ss ?_|refine wr (by simp [e1];with_reducible rfl) ?_|refine wq (by simp [e1];with_reducible rfl) ?_|refine wt (by simp [e1]) ?_|refine wf (by simp [e1]) ?_|refine xt (by simp [e1]) ?_|refine xf (by simp [e1]) ?_|refine wp_bs ?_|refine wp_b ?_|refine wp_sr ?_|refine wp_sx ?_|refine wp_ret' ?_|refine wp_skip' ?_|refine wp_exit' ?_)
  simp [zi66]
theorem wrapU {n:Nat} (h:n < 1000000):IntKind.u64.wrap (n:Int)=(n:Int):=by
  have e1:(2:Int) ^ IntKind.u64.bits=18446744073709551616:=by decide
  have e3:IntKind.u64.signed=false:=rfl
  unfold IntKind.wrap
  rw [e1,e3]
  simp
  omega
theorem ev_Sort (xs:List Int) (hl:xs.length≤12) (M:List Boxes) :
    Ev tb zl78 [0] [O xs] M ⟨.tup [],[O (asc 0 [] xs)],M,[]⟩:=by
  obtain ⟨k,hk⟩:=ev_Len xs.length hl
  have e1:=ev_lim hk
  have e2:=ev_lim (ev_pdqsort xs hl k (M++[[]]))
  have w1:=@wrapU xs.length (by omega)
  refine call_of_wp zt78 rfl ?_
  repeat (first|refine wp_as ?_|refine wp_ss ?_|refine wr (by simp [e1,e2,w1];with_reducible rfl) ?_|refine wq (by simp [e1,e2,w1];with_reducible rfl) ?_|refine wt (by simp [e1,e2,w1]) ?_|refine wf (by simp [e1,e2,w1]) ?_|refine xt (by simp [e1,e2,w1]) ?_|refine xf (by simp [e1,e2,w1]) ?_|refine wp_bs ?_|refine wp_b ?_|refine wp_sr ?_|refine wp_sx ?_|refine wp_ret' ?_|refine wp_skip' ?_|refine wp_exit' ?_)
  simp [zi78]
end Go.Idl
namespace Go.Idl
open Go
theorem natOf_add2 {k:IntKind} {a b:Nat}:natOf (.sc (.int k ((a:Int)+(b:Int)+1)))=some (a+b+1):=natOf_nat (n:=a+b+1)
theorem rv_get {A m B:List Int} {x y:Int}:(A++x::(m++y::B))[A.length+m.length+1]? = some y:=by
  rw [List.getElem?_append_right (by omega),show A.length+m.length+1 - A.length=m.length+1 by omega,List.getElem?_cons_succ,List.getElem?_append_right (by omega)];simp
theorem rv_getE {A m B:List Int} {x y:Int} {h}:(A++x::(m++y::B))[A.length+m.length+1]'h=y:=by
  have:=@rv_get A m B x y
  rw [List.getElem?_eq_getElem h] at this
  exact Option.some.inj this
theorem rv_set {A m B:List Int} {v x y:Int}:(A++v::(m++y::B)).set (A.length+m.length+1) x=A++v::(m++x::B):=by
  rw [List.set_append_right _ _ (by omega)]
  simp [show A.length+m.length+1 - A.length=m.length+1 by omega]
theorem revl (M:List Boxes):∀ (k:Nat) (A m B:List Int),m.length≤k→A.length+m.length+B.length≤1000000 →
    wp tb (.loop z76l4) { T:=[(0,O (A++(m++B))),(2,I A.length),(3,I ((A.length:Int)+m.length - 1))],loc:=[],M:=M }
      (fun ex st=>ex=.exit 0∧∃ a b:Int,st={ T:=[(0,O (A++(m.reverse++B))),(2,I a),(3,I b),(9,Bo false)],loc:=[],M:=M }):=by
  intro k
  induction k with
  | zero =>
    intro A m B hk hl
    have:m=[]:=List.length_eq_zero_iff.1 (by omega)
    subst this
    refine wp_loop ?_
    have h:¬ ((A.length:Int) < A.length - 1):=by omega
    repeat (first|refine wp_as ?_|refine wp_ss ?_|refine wr (by simp [h];with_reducible rfl) ?_|refine wq (by simp [h];with_reducible rfl) ?_|refine wt (by simp [h]) ?_|refine wf (by simp [h]) ?_|refine xt (by simp [h]) ?_|refine xf (by simp [h]) ?_|refine wp_bs ?_|refine wp_b ?_|refine wp_sr ?_|refine wp_sx ?_|refine wp_ret' ?_|refine wp_skip' ?_|refine wp_exit' ?_)
    exact ⟨rfl,_,_,rfl⟩
  | succ k ih =>
    intro A m B hk hl
    match m,hk,hl with
    | [],hk,hl =>
      refine wp_loop ?_
      have h:¬ ((A.length:Int) < A.length - 1):=by omega
      repeat (first|refine wp_as ?_|refine wp_ss ?_|refine wr (by simp [h];with_reducible rfl) ?_|refine wq (by simp [h];with_reducible rfl) ?_|refine wt (by simp [h]) ?_|refine wf (by simp [h]) ?_|refine xt (by simp [h]) ?_|refine xf (by simp [h]) ?_|refine wp_bs ?_|refine wp_b ?_|refine wp_sr ?_|refine wp_sx ?_|refine wp_ret' ?_|refine wp_skip' ?_|refine wp_exit' ?_)
      exact ⟨rfl,_,_,rfl⟩
    | [x],hk,hl =>
      refine wp_loop ?_
      repeat (first|refine wp_as ?_|refine wp_ss ?_|refine wr (by simp;with_reducible rfl) ?_|refine wq (by simp;with_reducible rfl) ?_|refine wt (by simp) ?_|refine wf (by simp) ?_|refine xt (by simp) ?_|refine xf (by simp) ?_|refine wp_bs ?_|refine wp_b ?_|refine wp_sr ?_|refine wp_sx ?_|refine wp_ret' ?_|refine wp_skip' ?_|refine wp_exit' ?_)
      exact ⟨rfl,_,_,rfl⟩
    | x::z::m',hk,hl =>
      obtain ⟨m,y,hm⟩:∃ m y,z::m'=m++[y]:=⟨(z::m').dropLast,(z::m').getLast (by simp),(List.dropLast_concat_getLast _).symm⟩
      rw [hm] at hk hl ⊢
      simp only [List.length_cons,List.length_append,List.length_nil] at hk hl
      have hj:(A.length:Int)+(x::(m++[y])).length - 1=(A.length:Int)+m.length+1:=by simp;omega
      rw [hj]
      simp only [List.cons_append,List.append_assoc,List.nil_append]
      refine wp_loop ?_
      have h:(A.length:Int) < A.length+m.length+1:=by omega
      have h2:A.length < A.length+(m.length+(B.length+1)+1):=by omega
      have h3:A.length+m.length+1 < A.length+(m.length+(B.length+1)+1):=by omega
      have w1:IntKind.i64.wrap ((A.length:Int)+1)=((A++[y]).length:Int):=by rw [wrap64 (by omega) (by omega)];simp
      have w2:IntKind.i64.wrap ((A.length:Int)+m.length)=((A++[y]).length:Int)+m.length - 1:=by rw [wrap64 (by omega) (by omega)];simp;omega
      repeat (first|refine wp_as ?_|refine wp_ss ?_|refine wr (by simp [h,h2,h3,w1,w2,rv_get,rv_getE,rv_set,natOf_add2,app_get0];with_reducible rfl) ?_|refine wq (by simp [h,h2,h3,w1,w2,rv_get,rv_getE,rv_set,natOf_add2,app_get0];with_reducible rfl) ?_|refine wt (by simp [h,h2,h3,w1,w2,rv_get,rv_getE,rv_set,natOf_add2,app_get0]) ?_|refine wf (by simp [h,h2,h3,w1,w2,rv_get,rv_getE,rv_set,natOf_add2,app_get0]) ?_|refine xt (by simp [h,h2,h3,w1,w2,rv_get,rv_getE,rv_set,natOf_add2,app_get0]) ?_|refine xf (by simp [h,h2,h3,w1,w2,rv_get,rv_getE,rv_set,natOf_add2,app_get0]) ?_|refine wp_bs ?_|refine wp_b ?_|refine wp_sr ?_|refine wp_sx ?_|refine wp_ret' ?_|refine wp_skip' ?_|refine wp_exit' ?_)
      have:=ih (A++[y]) m (x::B) (by omega) (by simp;omega)
      simp at this ⊢
      exact this
theorem ev_Reverse (xs:List Int) (hl:xs.length≤1000000) (M:List Boxes) :
    Ev tb zl76 [0] [O xs] M ⟨.tup [],[O xs.reverse],M,[]⟩:=by
  have w1:IntKind.i64.wrap ((xs.length:Int) - 1)=(xs.length:Int) - 1:=wrap64 (by omega) (by omega)
  refine call_of_wp zt76 rfl ?_
  repeat (first|refine wp_as ?_|refine wp_ss ?_|refine wr (by simp [w1];with_reducible rfl) ?_|refine wq (by simp [w1];with_reducible rfl) ?_|refine wt (by simp [w1]) ?_|refine wf (by simp [w1]) ?_|refine xt (by simp [w1]) ?_|refine xf (by simp [w1]) ?_|refine wp_bs ?_|refine wp_b ?_|refine wp_sr ?_|refine wp_sx ?_|refine wp_ret' ?_|refine wp_skip' ?_|refine wp_exit' ?_)
  have:=revl M xs.length [] xs [] (by omega) (by simp;omega)
  simp at this
  refine wp_imp this ?_
  rintro ex st ⟨rfl,a,b,rfl⟩
  simp [zi76]
theorem ev_falling (xs:List Int) (c:Bool) (hl:xs.length≤12) :
    Ev tb zl37 [] [L xs c] [] ⟨O (fall xs),[],[],[]⟩:=by
  have e1:=ev_lim (ev_clone xs c (by omega))
  have e2:=ev_lim (ev_Sort xs hl [[]])
  have e3:=ev_lim (ev_Reverse (asc 0 [] xs) (by rw [asc_len];omega) [[]])
  refine call_of_wp zt37 rfl ?_
  repeat (first|refine wp_as ?_|refine wp_ss ?_|refine wr (by simp [e1,e2,e3,asc_rev];with_reducible rfl) ?_|refine wq (by simp [e1,e2,e3,asc_rev];with_reducible rfl) ?_|refine wt (by simp [e1,e2,e3,asc_rev]) ?_|refine wf (by simp [e1,e2,e3,asc_rev]) ?_|refine xt (by simp [e1,e2,e3,asc_rev]) ?_|refine xf (by simp [e1,e2,e3,asc_rev]) ?_|refine wp_bs ?_|refine wp_b ?_|refine wp_sr ?_|refine wp_sx ?_|refine wp_ret' ?_|refine wp_skip' ?_|refine wp_exit' ?_)
  simp [zi37]
theorem drop_get {xs:List Int} {i m:Nat} (h:i+(m+1)=xs.length):∃ h:i < xs.length,xs.drop i=xs[i]::xs.drop (i+1)∧xs[i] ∈ xs:=by
  have hi:i < xs.length:=by omega
  exact ⟨hi,List.drop_eq_getElem_cons hi,List.getElem_mem hi⟩
theorem drop_end {xs:List Int} {i:Nat} (h:i+0=xs.length):xs[i]? = none∧xs.drop i=[]:=by
  have:i=xs.length:=by omega
  subst this
  simp
def idx (p:Int→Bool):Int→List Int→Int
  | _,[]=>-1
  | i,x::r=>if p x then i else idx p (i+1) r
theorem ev_IndexFunc (xs:List Int) (c:Bool) (F:Lab) (caps:List IV) (M:List Boxes) (p:Int→Bool) (hl:xs.length≤1000000)
    (hp:∀ x ∈ xs,Ev tb F [] (I x::caps) (M++[[]]) ⟨Bo (p x),[],M++[[]],[]⟩) :
    Ev tb zl73 [] [L xs c,.fn F caps] M ⟨I (idx p 0 xs),[],M,[]⟩:=by
  have loop:∀ (m i:Nat),i+m=xs.length→wp tb (.loop z73l7) { T:=[(0,L xs c),(1,.fn F caps),(7,I xs.length),(8,I i)],loc:=[],M:=M }
      (fun ex st=>(ex=.exit 0∧idx p i (xs.drop i)=-1∧st={ T:=[(0,L xs c),(1,.fn F caps),(7,I xs.length),(8,I xs.length),(9,Bo false)],loc:=[],M:=M }) ∨
        ex=.ret∧st={ T:=[(4,I (idx p i (xs.drop i)))],loc:=[],M:=M }):=by
    intro m
    induction m with
    | zero =>
      intro i hi
      obtain ⟨h1,h2⟩:=drop_end hi
      have h3:i=xs.length:=hi
      subst h3
      refine wp_loop ?_
      repeat (first|refine wp_as ?_|refine wp_ss ?_|refine wr (by simp;with_reducible rfl) ?_|refine wq (by simp;with_reducible rfl) ?_|refine wt (by simp) ?_|refine wf (by simp) ?_|refine xt (by simp) ?_|refine xf (by simp) ?_|refine wp_bs ?_|refine wp_b ?_|refine wp_sr ?_|refine wp_sx ?_|refine wp_ret' ?_|refine wp_skip' ?_|refine wp_exit' ?_)
      refine .inl ⟨rfl,by rw [h2];rfl,rfl⟩
    | succ m ih =>
      intro i hi
      obtain ⟨hi2,h2,h3⟩:=drop_get hi
      have e1:=ev_lim (hp _ h3)
      have w1:IntKind.i64.wrap ((i:Int)+1)=((i+1:Nat):Int):=wrapS (by omega)
      rw [h2]
      cases hpx:p xs[i] with
      | true =>
        refine wp_loop ?_
        repeat (first|refine wp_as ?_|refine wp_ss ?_|refine wr (by simp [e1,hi2,w1,hpx];with_reducible rfl) ?_|refine wq (by simp [e1,hi2,w1,hpx];with_reducible rfl) ?_|refine wt (by simp [e1,hi2,w1,hpx]) ?_|refine wf (by simp [e1,hi2,w1,hpx]) ?_|refine xt (by simp [e1,hi2,w1,hpx]) ?_|refine xf (by simp [e1,hi2,w1,hpx]) ?_|refine wp_bs ?_|refine wp_b ?_|refine wp_sr ?_|refine wp_sx ?_|refine wp_ret' ?_|refine wp_skip' ?_|refine wp_exit' ?_)
        refine .inr ⟨rfl,by simp [idx,hpx]⟩
      | false =>
        refine wp_loop ?_
        repeat (first|refine wp_as ?_|refine wp_ss ?_|refine wr (by simp [e1,hi2,w1,hpx];with_reducible rfl) ?_|refine wq (by simp [e1,hi2,w1,hpx];with_reducible rfl) ?_|refine wt (by simp [e1,hi2,w1,hpx]) ?_|refine wf (by simp [e1,hi2,w1,hpx]) ?_|refine xt (by simp [e1,hi2,w1,hpx]) ?_|refine xf (by simp [e1,hi2,w1,hpx]) ?_|refine wp_bs ?_|refine wp_b ?_|refine wp_sr ?_|refine wp_sx ?_|refine wp_ret' ?_|refine wp_skip' ?_|refine wp_exit' ?_)
        have:=ih (i+1) (by omega)
        simp only [idx,hpx] at this ⊢
        exact this
  refine call_of_wp zt73 rfl ?_
  repeat (first|refine wp_as ?_|refine wp_ss ?_|refine wr (by simp;with_reducible rfl) ?_|refine wq (by simp;with_reducible rfl) ?_|refine wt (by simp) ?_|refine wf (by simp) ?_|refine xt (by simp) ?_|refine xf (by simp) ?_|refine wp_bs ?_|refine wp_b ?_|refine wp_sr ?_|refine wp_sx ?_|refine wp_ret' ?_|refine wp_skip' ?_|refine wp_exit' ?_)
  refine wp_imp (loop xs.length 0 (by simp)) ?_
  rintro ex st (⟨rfl,h,rfl⟩ | ⟨rfl,rfl⟩)
  · simp only [if_true]
    repeat (first|refine wp_as ?_|refine wp_ss ?_|refine wr (by simp;with_reducible rfl) ?_|refine wq (by simp;with_reducible rfl) ?_|refine wt (by simp) ?_|refine wf (by simp) ?_|refine xt (by simp) ?_|refine xf (by simp) ?_|refine wp_bs ?_|refine wp_b ?_|refine wp_sr ?_|refine wp_sx ?_|refine wp_ret' ?_|refine wp_skip' ?_|refine wp_exit' ?_)
    simp at h
    simp [zi73,h]
  · simp [zi73]
end Go.Idl
namespace Go.Idl
open Go
theorem ev_allIn_F1 (x lo hi:Int):Ev tb zl30 [] [I x,.bptr 0 0 0,.bptr 0 1 0] [[[I lo],[I hi]],[],[]] ⟨Bo (!(decide (lo≤x) && decide (x≤hi))),[],[[[I lo],[I hi]],[],[]],[]⟩:=by
  have e1:=ev_lim (ev_in x lo hi)
  refine call_of_wp zt30 rfl ?_
  repeat (first|refine wp_as ?_|refine wp_ss ?_|refine wr (by simp [e1];with_reducible rfl) ?_|refine wq (by simp [e1];with_reducible rfl) ?_|refine wt (by simp [e1]) ?_|refine wf (by simp [e1]) ?_|refine xt (by simp [e1]) ?_|refine xf (by simp [e1]) ?_|refine wp_bs ?_|refine wp_b ?_|refine wp_sr ?_|refine wp_sx ?_|refine wp_ret' ?_|refine wp_skip' ?_|refine wp_exit' ?_)
  simp [zi30]
theorem ev_ContainsFunc (xs:List Int) (c:Bool) (F:Lab) (caps:List IV) (M:List Boxes) (p:Int→Bool) (hl:xs.length≤1000000)
    (hp:∀ x ∈ xs,Ev tb F [] (I x::caps) (M++[[],[]]) ⟨Bo (p x),[],M++[[],[]],[]⟩) :
    Ev tb zl72 [] [L xs c,.fn F caps] M ⟨Bo (decide (0≤idx p 0 xs)),[],M,[]⟩:=by
  have e1:=ev_lim (ev_IndexFunc xs c F caps (M++[[]]) p hl (by simpa using hp))
  refine call_of_wp zt72 rfl ?_
  repeat (first|refine wp_as ?_|refine wp_ss ?_|refine wr (by simp [e1];with_reducible rfl) ?_|refine wq (by simp [e1];with_reducible rfl) ?_|refine wt (by simp [e1]) ?_|refine wf (by simp [e1]) ?_|refine xt (by simp [e1]) ?_|refine xf (by simp [e1]) ?_|refine wp_bs ?_|refine wp_b ?_|refine wp_sr ?_|refine wp_sx ?_|refine wp_ret' ?_|refine wp_skip' ?_|refine wp_exit' ?_)
  simp [zi72]
theorem idx_ge (p:Int→Bool):∀ (xs:List Int) (i:Int),0≤i→(decide (0≤idx p i xs)=xs.any p)
  | [],i,h=>by simp [idx]
  | x::r,i,h=>by
    unfold idx
    cases hp:p x with
    | true=>simp [hp,h]
    | false=>simp [hp];simpa using idx_ge p r (i+1) (by omega)
theorem ev_allIn (xs:List Int) (c:Bool) (lo hi:Int) (hl:xs.length≤1000000) :
    Ev tb zl29 [] [L xs c,I lo,I hi] [] ⟨Bo (xs.all fun x=>decide (lo≤x) && decide (x≤hi)),[],[],[]⟩:=by
  have e1:=ev_lim (ev_ContainsFunc xs c zl30 [.bptr 0 0 0,.bptr 0 1 0] [[[I lo],[I hi]]] _ hl (fun x _=>ev_allIn_F1 x lo hi))
  refine call_of_wp zt29 rfl ?_
  repeat (first|refine wp_as ?_|refine wp_ss ?_|refine wr (by simp [e1,idx_ge];with_reducible rfl) ?_|refine wq (by simp [e1,idx_ge];with_reducible rfl) ?_|refine wt (by simp [e1,idx_ge]) ?_|refine wf (by simp [e1,idx_ge]) ?_|refine xt (by simp [e1,idx_ge]) ?_|refine xf (by simp [e1,idx_ge]) ?_|refine wp_bs ?_|refine wp_b ?_|refine wp_sr ?_|refine wp_sx ?_|refine wp_ret' ?_|refine wp_skip' ?_|refine wp_exit' ?_)
  simp [zi29,List.all_eq_not_any_not]
theorem ev_copyInts (xs:List Int) (c:Bool) (hl:xs.length≤1000000):Ev tb zl123 [] [L xs c] [] ⟨O xs,[],[],[]⟩:=by
  refine call_of_wp zt123 rfl ?_
  repeat (first|refine wp_as ?_|refine wp_ss ?_|refine wr (by simp [show xs.length≤274877906944 by omega];with_reducible rfl) ?_|refine wq (by simp [show xs.length≤274877906944 by omega];with_reducible rfl) ?_|refine wt (by simp [show xs.length≤274877906944 by omega]) ?_|refine wf (by simp [show xs.length≤274877906944 by omega]) ?_|refine xt (by simp [show xs.length≤274877906944 by omega]) ?_|refine xf (by simp [show xs.length≤274877906944 by omega]) ?_|refine wp_bs ?_|refine wp_b ?_|refine wp_sr ?_|refine wp_sx ?_|refine wp_ret' ?_|refine wp_skip' ?_|refine wp_exit' ?_)
  simp [zi123]
end Go.Idl
namespace Go.Idl
open Go
def bytes (xs:List Int):List (List IV):=xs.map fun n=>[.sc (.int .u8 n)]
@[simp] theorem bytes_len (xs:List Int):(bytes xs).length=xs.length:=by simp [bytes]
@[simp] theorem bytes_take (xs:List Int) (n:Nat):(bytes xs).take n=bytes (xs.take n):=by simp [bytes,List.map_take]
@[simp] theorem bytes_get? (xs:List Int) (i:Nat):(bytes xs)[i]? = xs[i]?.map fun n=>[IV.sc (.int .u8 n)]:=by simp [bytes]
@[simp] theorem bytes_get (xs:List Int) (i:Nat) (h:i < (bytes xs).length):(bytes xs)[i]=[IV.sc (.int .u8 (xs[i]'(by simpa [bytes] using h)))]:=by simp [bytes]
@[simp] theorem bytes_emp (xs:List Int):(bytes xs).isEmpty=xs.isEmpty:=by cases xs <;> rfl
@[simp] theorem bytes_all1 (xs:List Int):((bytes xs).all fun x=>x.all IV.plain1)=true:=by
  induction xs with
  | nil=>rfl
  | cons x xs ih=>simp only [bytes,List.map_cons,List.all_cons] at *;rw [ih];rfl
@[simp] theorem bytes_all2 (xs:List Int):((bytes xs).all fun x=>x.all IV.isData)=true:=by
  induction xs with
  | nil=>rfl
  | cons x xs ih=>simp only [bytes,List.map_cons,List.all_cons] at *;rw [ih];rfl
@[simp] theorem bytes_noLst (xs:List Int):noLstLL (bytes xs)=true:=by
  induction xs with
  | nil=>rfl
  | cons x xs ih=>simp only [bytes,List.map_cons,noLstLL,noLstL,noLstV] at *;rw [ih];rfl
abbrev R (code:List Int) (c:Bool) (n:Int):List IV:=[.lst 1 (bytes code) c,I n]
def CodeOk (code:List Int):Prop:=code.length≤2000∧∀ x ∈ code,0≤x∧x≤255
theorem xor_ok (a b:Nat) (ha:a < 2 ^ 40) (hb:b < 2 ^ 40):∃ n:Nat,n < 2 ^ 40∧binOp .xor 0 (Value.int .i64 a) (Value.int .i64 b)=Sem.pure (Value.int .i64 n):=by
  refine ⟨a ^^^ b,Nat.xor_lt_two_pow ha hb,?_⟩
  have h:=Nat.xor_lt_two_pow ha hb
  have e:IntKind.i64.wrap (((BitVec.ofInt 64 (a:Int)) ^^^ (BitVec.ofInt 64 (b:Int))).toNat:Int)=((a ^^^ b:Nat):Int):=by
    have h1:((BitVec.ofInt 64 (a:Int)) ^^^ (BitVec.ofInt 64 (b:Int))).toNat=a ^^^ b:=by
      rw [BitVec.toNat_xor,BitVec.ofInt_natCast,BitVec.ofInt_natCast,BitVec.toNat_ofNat,BitVec.toNat_ofNat,Nat.mod_eq_of_lt (by omega),Nat.mod_eq_of_lt (by omega)]
    rw [h1,wrapN (by omega)]
  show Sem.pure (Value.int .i64 (IntKind.i64.wrap (((BitVec.ofInt 64 (a:Int)) ^^^ (BitVec.ofInt 64 (b:Int))).toNat:Int)))=_
  rw [e]
theorem tmod_range {x n:Int} (hx:0≤x) (hn:1≤n):0≤x.tmod n∧x.tmod n < n:=by
  rw [Int.tmod_eq_emod_of_nonneg hx]
  exact ⟨Int.emod_nonneg _ (by omega),Int.emod_lt_of_pos _ (by omega)⟩
theorem ev_pick (code:List Int) (c:Bool) (hc:CodeOk code) (cnt:Nat) (hn:cnt≤1000000) (n:Int) (hn2:n≤1000000) (bs:Boxes) (Ms:List Boxes) :
    ∃ v:Nat,(1≤n→(v:Int) < n)∧Ev tb zl140 [] [.bptr 0 0 0,I n] ((R code c cnt::bs)::Ms) ⟨I v,[],(R code c ((cnt+1:Nat):Int)::bs)::Ms,[]⟩:=by
  have w1:IntKind.i64.wrap ((cnt:Int)+1)=((cnt+1:Nat):Int):=wrapS (by omega)
  by_cases h1:n < 1
  · refine ⟨0,by omega,?_⟩
    refine call_of_wp zt140 rfl ?_
    repeat (first|refine wp_as ?_|refine wp_ss ?_|refine wr (by simp [w1,h1];with_reducible rfl) ?_|refine wq (by simp [w1,h1];with_reducible rfl) ?_|refine wt (by simpa [w1,h1]) ?_|refine wf (by simpa [w1,h1]) ?_|refine xt (by simpa [w1,h1]) ?_|refine xf (by simpa [w1,h1]) ?_|refine wp_bs ?_|refine wp_b ?_|refine wp_sr ?_|refine wp_sx ?_|refine wp_ret' ?_|refine wp_skip' ?_|refine wp_exit' ?_)
    simp [zi140]
  by_cases h2:code=[]
  · subst h2
    refine ⟨0,by omega,?_⟩
    refine call_of_wp zt140 rfl ?_
    repeat (first|refine wp_as ?_|refine wp_ss ?_|refine wr (by simp [w1,h1];with_reducible rfl) ?_|refine wq (by simp [w1,h1];with_reducible rfl) ?_|refine wt (by simpa [w1,h1]) ?_|refine wf (by simpa [w1,h1]) ?_|refine xt (by simpa [w1,h1]) ?_|refine xf (by simpa [w1,h1]) ?_|refine wp_bs ?_|refine wp_b ?_|refine wp_sr ?_|refine wp_sx ?_|refine wp_ret' ?_|refine wp_skip' ?_|refine wp_exit' ?_)
    simp [zi140]
  have h2':¬ (code.length:Int)=0:=by
    have:code.length ≠ 0:=fun h=>h2 (List.length_eq_zero_iff.1 h)
    omega
  have w2:IntKind.i64.wrap (cnt:Int)=(cnt:Int):=wrapN (by omega)
  have hn0:¬ n=0:=by omega
  by_cases h3:cnt < code.length
  · have hb:=hc.2 code[cnt] (List.getElem_mem h3)
    have w3:IntKind.i64.wrap code[cnt]=code[cnt]:=wrap64 (by omega) (by omega)
    have hr:=tmod_range hb.1 (n:=n) (by omega)
    obtain ⟨v,hv⟩:=Int.eq_ofNat_of_zero_le hr.1
    rw [hv] at hr
    refine ⟨v,fun _=>hr.2,?_⟩
    refine call_of_wp zt140 rfl ?_
    repeat (first|refine wp_as ?_|refine wp_ss ?_|refine wr (by simp [w1,w2,h1,h2,h2',h3,w3,hn0,hv];with_reducible rfl) ?_|refine wq (by simp [w1,w2,h1,h2,h2',h3,w3,hn0,hv];with_reducible rfl) ?_|refine wt (by simpa [w1,w2,h1,h2,h2',h3,w3,hn0,hv]) ?_|refine wf (by simpa [w1,w2,h1,h2,h2',h3,w3,hn0,hv]) ?_|refine xt (by simpa [w1,w2,h1,h2,h2',h3,w3,hn0,hv]) ?_|refine xf (by simpa [w1,w2,h1,h2,h2',h3,w3,hn0,hv]) ?_|refine wp_bs ?_|refine wp_b ?_|refine wp_sr ?_|refine wp_sx ?_|refine wp_ret' ?_|refine wp_skip' ?_|refine wp_exit' ?_)
    simp [zi140]
  have hl0:0 < code.length:=by omega
  have hlen:=hc.1
  obtain ⟨i1,hi1,m1⟩:∃ i1:Nat,i1 < code.length∧(cnt:Int).tmod (code.length:Int)=(i1:Int) :=
    ⟨cnt % code.length,Nat.mod_lt _ hl0,rfl⟩
  obtain ⟨i2,hi2,m2⟩:∃ i2:Nat,i2 < code.length∧((cnt:Int) * 7+3).tmod (code.length:Int)=(i2:Int) :=
    ⟨(cnt * 7+3) % code.length,Nat.mod_lt _ hl0,rfl⟩
  obtain ⟨q,hq,m3⟩:∃ q:Nat,q≤cnt∧(cnt:Int).tdiv (code.length:Int)=(q:Int) :=
    ⟨cnt / code.length,Nat.div_le_self _ _,rfl⟩
  have hb1:=hc.2 code[i1] (List.getElem_mem hi1)
  have hb2:=hc.2 code[i2] (List.getElem_mem hi2)
  generalize hx1:code[i1]=b1 at hb1
  generalize hx2:code[i2]=b2 at hb2
  have v1:IntKind.i64.wrap b1=b1:=wrap64 (by omega) (by omega)
  have v2:IntKind.i64.wrap b2=b2:=wrap64 (by omega) (by omega)
  have v3:IntKind.i64.wrap (b1 * 131)=b1 * 131:=wrap64 (by omega) (by omega)
  have v4:IntKind.i64.wrap (b2 * 1117)=b2 * 1117:=wrap64 (by omega) (by omega)
  have v5:IntKind.i64.wrap (b1 * 131+b2 * 1117)=b1 * 131+b2 * 1117:=wrap64 (by omega) (by omega)
  have v6:IntKind.i64.wrap ((cnt:Int) * 7)=(cnt:Int) * 7:=wrap64 (by omega) (by omega)
  have v7:IntKind.i64.wrap ((cnt:Int) * 7+3)=(cnt:Int) * 7+3:=wrap64 (by omega) (by omega)
  have v8:IntKind.i64.wrap ((cnt:Int) * 29)=(cnt:Int) * 29:=wrap64 (by omega) (by omega)
  have v9:IntKind.i64.wrap (q:Int)=(q:Int):=wrap64 (by omega) (by omega)
  have v10:IntKind.i64.wrap ((q:Int) * 53)=(q:Int) * 53:=wrap64 (by omega) (by omega)
  have v11:IntKind.i64.wrap (b1 * 131+b2 * 1117+(cnt:Int) * 29)=b1 * 131+b2 * 1117+(cnt:Int) * 29:=wrap64 (by omega) (by omega)
  obtain ⟨x,hx,ex⟩:∃ x:Nat,x < 2 ^ 40∧b1 * 131+b2 * 1117+(cnt:Int) * 29+(q:Int) * 53=(x:Int) :=
    ⟨(b1 * 131+b2 * 1117+(cnt:Int) * 29+(q:Int) * 53).toNat,by omega,by omega⟩
  have v12:IntKind.i64.wrap (x:Int)=(x:Int):=wrap64 (by omega) (by omega)
  obtain ⟨y,hy,ey⟩:∃ y:Nat,y < 2 ^ 40∧(x:Int).tdiv 64=(y:Int):=⟨x / 64,by omega,rfl⟩
  have ey2:(x:Int) / 64=(y:Int):=ey
  have v13:IntKind.i64.wrap (y:Int)=(y:Int):=wrap64 (by omega) (by omega)
  obtain ⟨z,hz,ez⟩:=xor_ok x y hx hy
  have hr:=tmod_range (x:=(z:Int)) (by omega) (n:=n) (by omega)
  obtain ⟨v,hv⟩:=Int.eq_ofNat_of_zero_le hr.1
  rw [hv] at hr
  refine ⟨v,fun _=>hr.2,?_⟩
  refine call_of_wp zt140 rfl ?_
  repeat (first|refine wp_as ?_|refine wp_ss ?_|refine wr (by simp [w1,w2,h1,h2,h2',h3,hn0,m1,m2,m3,hi1,hi2,hx1,hx2,v1,v2,v3,v4,v5,v6,v7,v8,v9,v10,v11,ex,v12,ey,ey2,v13,ez,hv];with_reducible rfl) ?_|refine wq (by simp [w1,w2,h1,h2,h2',h3,hn0,m1,m2,m3,hi1,hi2,hx1,hx2,v1,v2,v3,v4,v5,v6,v7,v8,v9,v10,v11,ex,v12,ey,ey2,v13,ez,hv];with_reducible rfl) ?_|refine wt (by simpa [w1,w2,h1,h2,h2',h3,hn0,m1,m2,m3,hi1,hi2,hx1,hx2,v1,v2,v3,v4,v5,v6,v7,v8,v9,v10,v11,ex,v12,ey,ey2,v13,ez,hv]) ?_|refine wf (by simpa [w1,w2,h1,h2,h2',h3,hn0,m1,m2,m3,hi1,hi2,hx1,hx2,v1,v2,v3,v4,v5,v6,v7,v8,v9,v10,v11,ex,v12,ey,ey2,v13,ez,hv]) ?_|refine xt (by simpa [w1,w2,h1,h2,h2',h3,hn0,m1,m2,m3,hi1,hi2,hx1,hx2,v1,v2,v3,v4,v5,v6,v7,v8,v9,v10,v11,ex,v12,ey,ey2,v13,ez,hv]) ?_|refine xf (by simpa [w1,w2,h1,h2,h2',h3,hn0,m1,m2,m3,hi1,hi2,hx1,hx2,v1,v2,v3,v4,v5,v6,v7,v8,v9,v10,v11,ex,v12,ey,ey2,v13,ez,hv]) ?_|refine wp_bs ?_|refine wp_b ?_|refine wp_sr ?_|refine wp_sx ?_|refine wp_ret' ?_|refine wp_skip' ?_|refine wp_exit' ?_)
  simp [zi140]
theorem ev_newReader (code:List Int) (c:Bool) (M:List Boxes) (hl:code.length≤274877906944) :
    ∃ c',Ev tb zl137 [] [.lst 1 (bytes code) c] M ⟨.bptr M.length 0 0,[],M,[R (code.take 2000) c' 0]⟩:=by
  have hi:((code.length:Int)≤2000) ↔ code.length≤2000:=by omega
  by_cases h:2000 < code.length
  · refine ⟨false,?_⟩
    have h2:¬ code.length≤2000:=by omega
    have h3:(2000:Int) < code.length:=by omega
    refine call_of_wp zt137 rfl ?_
    repeat (first|refine wp_as ?_|refine wp_ss ?_|refine wr (by simp [h,h2,h3,show 2000≤code.length by omega,natOf];with_reducible rfl) ?_|refine wq (by simp [h,h2,h3,show 2000≤code.length by omega,natOf];with_reducible rfl) ?_|refine wt (by simpa [h,h2,h3,show 2000≤code.length by omega,natOf]) ?_|refine wf (by simpa [h,h2,h3,show 2000≤code.length by omega,natOf]) ?_|refine xt (by simpa [h,h2,h3,show 2000≤code.length by omega,natOf]) ?_|refine xf (by simpa [h,h2,h3,show 2000≤code.length by omega,natOf]) ?_|refine wp_bs ?_|refine wp_b ?_|refine wp_sr ?_|refine wp_sx ?_|refine wp_ret' ?_|refine wp_skip' ?_|refine wp_exit' ?_)
    simp [zi137,h2,h3]
    intro _;omega
  · refine ⟨c,?_⟩
    have h2:code.length≤2000:=by omega
    have h3:¬ (2000:Int) < code.length:=by omega
    refine call_of_wp zt137 rfl ?_
    repeat (first|refine wp_as ?_|refine wp_ss ?_|refine wr (by simp [h,h2,h3];with_reducible rfl) ?_|refine wq (by simp [h,h2,h3];with_reducible rfl) ?_|refine wt (by simpa [h,h2,h3]) ?_|refine wf (by simpa [h,h2,h3]) ?_|refine xt (by simpa [h,h2,h3]) ?_|refine xf (by simpa [h,h2,h3]) ?_|refine wp_bs ?_|refine wp_b ?_|refine wp_sr ?_|refine wp_sx ?_|refine wp_ret' ?_|refine wp_skip' ?_|refine wp_exit' ?_)
    simp [zi137,List.take_of_length_le h2]
theorem ev_one (code:List Int) (c:Bool) (hc:CodeOk code) (cnt:Nat) (hn:cnt≤1000000) (xs:List Int) (d:Bool) (hl:0 < xs.length∧xs.length≤1000) (bs:Boxes) (Ms:List Boxes) :
    ∃ x:Int,x ∈ xs∧Ev tb zl139 [] [.bptr 0 0 0,L xs d] ((R code c cnt::bs)::Ms) ⟨I x,[],(R code c ((cnt+1:Nat):Int)::bs)::Ms,[]⟩:=by
  obtain ⟨v,hv,e⟩:=ev_pick code c hc cnt hn (xs.length:Int) (by omega) bs (Ms++[[]])
  have hv:=hv (by omega)
  have hv2:v < xs.length:=by omega
  have e1:=ev_lim e
  refine ⟨xs[v],List.getElem_mem hv2,?_⟩
  refine call_of_wp zt139 rfl ?_
  repeat (first|refine wp_as ?_|refine wp_ss ?_|refine wr (by simp [e1,hv2];with_reducible rfl) ?_|refine wq (by simp [e1,hv2];with_reducible rfl) ?_|refine wt (by simpa [e1,hv2]) ?_|refine wf (by simpa [e1,hv2]) ?_|refine xt (by simpa [e1,hv2]) ?_|refine xf (by simpa [e1,hv2]) ?_|refine wp_bs ?_|refine wp_b ?_|refine wp_sr ?_|refine wp_sx ?_|refine wp_ret' ?_|refine wp_skip' ?_|refine wp_exit' ?_)
  simp [zi139]
end Go.Idl
namespace Go.Idl
open Go
def eds (xs:List (Int×Int)):List (List IV):=xs.map fun e=>[I e.1,I e.2]
abbrev O2 (xs:List (Int×Int)):IV:=.own 2 (eds xs)
@[simp] theorem eds_len (xs:List (Int×Int)):(eds xs).length=xs.length:=by simp [eds]
@[simp] theorem eds_nil:eds []=[]:=rfl
@[simp] theorem eds_take (xs:List (Int×Int)) (n:Nat):(eds xs).take n=eds (xs.take n):=by simp [eds,List.map_take]
@[simp] theorem eds_drop (xs:List (Int×Int)) (n:Nat):(eds xs).drop n=eds (xs.drop n):=by simp [eds,List.map_drop]
@[simp] theorem eds_app (xs ys:List (Int×Int)):eds xs++eds ys=eds (xs++ys):=by simp [eds]
@[simp] theorem eds_one (xs:List (Int×Int)) (a b:Int):eds xs++[[IV.sc (.int .i64 a),IV.sc (.int .i64 b)]]=eds (xs++[(a,b)]):=by simp [eds]
@[simp] theorem eds_get? (xs:List (Int×Int)) (i:Nat):(eds xs)[i]? = xs[i]?.map fun e=>[IV.sc (.int .i64 e.1),IV.sc (.int .i64 e.2)]:=by simp [eds]
@[simp] theorem eds_get (xs:List (Int×Int)) (i:Nat) (h:i < (eds xs).length):(eds xs)[i]=[IV.sc (.int .i64 (xs[i]'(by simpa [eds] using h)).1),IV.sc (.int .i64 (xs[i]'(by simpa [eds] using h)).2)]:=by simp [eds]
@[simp] theorem eds_emp (xs:List (Int×Int)):(eds xs).isEmpty=xs.isEmpty:=by cases xs <;> rfl
@[simp] theorem eds_set (xs:List (Int×Int)) (i:Nat) (a b:Int):(eds xs).set i [IV.sc (.int .i64 a),IV.sc (.int .i64 b)]=eds (xs.set i (a,b)):=by
  simp [eds,List.map_set]
@[simp] theorem eds_all1 (xs:List (Int×Int)):((eds xs).all fun x=>x.all IV.plain1)=true:=by
  induction xs with
  | nil=>rfl
  | cons x xs ih=>simp only [eds,List.map_cons,List.all_cons] at *;rw [ih];rfl
@[simp] theorem eds_all2 (xs:List (Int×Int)):((eds xs).all fun x=>x.all IV.isData)=true:=by
  induction xs with
  | nil=>rfl
  | cons x xs ih=>simp only [eds,List.map_cons,List.all_cons] at *;rw [ih];rfl
@[simp] theorem eds_noLst (xs:List (Int×Int)):noLstLL (eds xs)=true:=by
  induction xs with
  | nil=>rfl
  | cons x xs ih=>simp only [eds,List.map_cons,noLstLL,noLstL,noLstV] at *;rw [ih];rfl
@[simp] theorem frz_eds (xs:List (Int×Int)):frzLL (eds xs)=eds xs:=by
  induction xs with
  | nil=>rfl
  | cons x xs ih=>simp only [eds,List.map_cons,frzLL,frzL,frzV] at *;rw [ih]
def row (a b:Nat):Nat→List (Int×Int)
  | 0=>[]
  | m+1=>((a:Int),(b:Int))::row a (b+1) m
def isE (a b:Int) (e:Int×Int):Bool:=decide (e.1=a) && decide (e.2=b) || decide (e.1=b) && decide (e.2=a)
def has (es:List (Int×Int)) (a b:Int):Bool:=es.any (isE a b)
end Go.Idl
namespace Go.Idl
open Go
theorem call_ex {f:Lab} {fn:IFun} (hf:tb f=some fn) {lent:List Nat} {args:List IV} {M:List Boxes} (hl:lent.all fn.keep.contains=true) {P:Ret→Prop}
    (h:wp tb fn.body { T:=args.zipIdx.map fun (v,i)=>(i,v),loc:=[],M:=M } fun ex st=>(ex=.normal ∨ ex=.ret)∧∃ r,P r∧finish fn lent st=some r):∃ r,P r∧Ev tb f lent args M r:=by
  obtain ⟨ex,st',⟨h1,r,hP,h2⟩,-,back⟩:=wp_sound h
  exact ⟨r,hP,call_of_wp hf hl (back _ ⟨h1,h2⟩)⟩
theorem pick' (code:List Int) (c:Bool) (hc:CodeOk code) (cnt:Nat) (hn:cnt≤1000000) (n:Int) (hn2:n≤1000000) (bs:Boxes) (Ms:List Boxes) :
    ∃ v k:Nat,(1≤n→(v:Int) < n)∧k≤cnt+1∧limF tb zl140 [] [.bptr 0 0 0,I n] ((R code c cnt::bs)::Ms)=some ⟨I v,[],(R code c k::bs)::Ms,[]⟩:=by
  obtain ⟨v,h,e⟩:=ev_pick code c hc cnt hn n hn2 bs Ms
  exact ⟨v,cnt+1,h,by omega,ev_lim e⟩
end Go.Idl
namespace Go.Idl
theorem sumB {B:Int} (hB:0≤B):∀ {xs:List Int},(∀ x ∈ xs,0≤x∧x≤B)→0≤xs.sum∧xs.sum≤B * xs.length
  | [],_=>by simp
  | x::r,h=>by
    have h1:=h x (by simp)
    have h2:=sumB hB (xs:=r) (fun y hy=>h y (by simp [hy]))
    have e:B * ((x::r).length:Int)=B * r.length+B:=by
      rw [List.length_cons,Int.natCast_add,Int.mul_add];simp
    rw [List.sum_cons,e]
    omega
def least (xs:List Int):Int:=xs.foldl (fun n x=>min n x) 0
theorem least_aux:∀ (xs:List Int) (n:Int),xs.foldl (fun n x=>min n x) n≤n∧((xs.foldl (fun n x=>min n x) n=n) ↔ ∀ x ∈ xs,n≤x)
  | [],n=>by simp
  | x::r,n=>by
    obtain ⟨h1,h2⟩:=least_aux r (min n x)
    simp only [List.foldl_cons,List.mem_cons,forall_eq_or_imp]
    by_cases hx:n≤x
    · rw [Int.min_eq_left hx] at h1 h2 ⊢
      exact ⟨h1,h2.trans ⟨fun h=>⟨hx,h⟩,fun h=>h.2⟩⟩
    · rw [Int.min_eq_right (by omega)] at h1 h2 ⊢
      exact ⟨by omega,⟨fun h=>by omega,fun h=>absurd h.1 hx⟩⟩
theorem least_zero (xs:List Int):least xs=0 ↔ ∀ x ∈ xs,0≤x:=(least_aux xs 0).2
end Go.Idl
namespace Go.Idl
open Go
abbrev Z:IV:=.lst 0 [] true
def Few (xs:List Int):Prop:=xs.length≤7∧∀ x ∈ xs,0≤x∧x≤6
theorem Few.small {xs:List Int} (h:Few xs):SmallSum xs:=by
  refine ⟨by have:=h.1;omega,fun k=>?_⟩
  have h1:=sumB (B:=6) (by omega) (xs:=xs.take k) (fun x hx=>h.2 x (List.mem_of_mem_take hx))
  have h2:(xs.take k).length≤7:=by have:=h.1;simp;omega
  omega
theorem Few.take {xs:List Int} (h:Few xs) (k:Nat):Few (xs.take k):=⟨by have:=h.1;simp;omega,fun x hx=>h.2 x (List.mem_of_mem_take hx)⟩
theorem Few.drop {xs:List Int} (h:Few xs) (k:Nat):Few (xs.drop k):=⟨by have:=h.1;simp;omega,fun x hx=>h.2 x (List.mem_of_mem_drop hx)⟩
theorem Few.fall {xs:List Int} (h:Few xs):Few (fall xs):=⟨by rw [fall_len];exact h.1,fun x hx=>h.2 x (fall_mem.1 hx)⟩
theorem Few.sum {xs:List Int} (h:Few xs):0≤xs.sum∧xs.sum≤42:=by
  have h1:=sumB (B:=6) (by omega) h.2
  have:=h.1
  omega
def mapR (n:Nat) (g:Nat→Int):List Int:=(List.range n).map g
theorem mapR_succ_set {n i:Nat} (g:Nat→Int) (h:i < n):(mapR i g++List.replicate (n - i) 0).set i (g i)=mapR (i+1) g++List.replicate (n - (i+1)) 0:=by
  have e:n - i=(n - (i+1))+1:=by omega
  rw [e,List.replicate_succ,List.set_append_right _ _ (by simp [mapR])]
  simp [mapR,List.range_succ]
@[simp] theorem ints_rep (n:Nat):List.replicate n [IV.sc (.int .i64 0)]=ints (List.replicate n 0):=by simp [ints]
theorem min_if (a b:Int):(if b < a then b else a)=min a b:=by split <;> omega
theorem min_if' (a b:Int):(if a < b then a else b)=min a b:=by split <;> omega
end Go.Idl
namespace Go.Idl
open Go
def Low (B:Int) (d:List Int):Prop:=∀ x ∈ d,-B≤x∧x≤B
theorem Low.set {B:Int} {d:List Int} (h:Low B d) {i:Nat} {x:Int} (hx:-B≤x∧x≤B):Low B (d.set i x):=by
  intro y hy
  rcases List.mem_or_eq_of_mem_set hy with hy | rfl
  · exact h y hy
  · exact hx
theorem Low.app {B:Int} {d:List Int} (h:Low B d) {x:Int} (hx:-B≤x∧x≤B):Low B (d++[x]):=by
  intro y hy
  rcases List.mem_append.1 hy with hy | hy
  · exact h y hy
  · simp at hy;subst hy;exact hx
theorem Low.mono {B C:Int} {d:List Int} (h:Low B d) (hc:B≤C):Low C d:=fun x hx=>by have:=h x hx;omega
theorem one2 (code:List Int) (c:Bool) (hc:CodeOk code) (cnt:Nat) (hn:cnt≤1000000) (xs:List Int) (hl:0 < xs.length∧xs.length≤1000) (bs:Boxes) (Ms:List Boxes) :
    ∃ (x:Int) (k:Nat),x ∈ xs∧k≤cnt+1∧limF tb zl139 [] [.bptr 0 0 0,.lst 1 (ints xs) false] ((R code c cnt::bs)::Ms)=some ⟨I x,[],(R code c k::bs)::Ms,[]⟩:=by
  obtain ⟨v,h,e⟩:=ev_one code c hc cnt hn xs false hl bs Ms
  exact ⟨v,cnt+1,h,by omega,ev_lim e⟩
end Go.Idl
namespace Go.Idl
def bAll:Nat→(Nat→Bool)→Bool
  | 0,_=>true
  | k+1,f=>f k && bAll k f
def bSum:List Nat→Nat
  | []=>0
  | x::r=>Nat.add x (bSum r)
def bMin (k:Nat):List Nat→Nat
  | []=>0
  | x::r=>Nat.add (cond (Nat.ble x k) x k) (bMin k r)
def bGr:List Nat→Nat→Nat→List Nat→Bool
  | [],_,_,_=>true
  | x::r,k,s,c=>Nat.ble (Nat.add s x) (bMin (Nat.succ k) c) && bGr r (Nat.succ k) (Nat.add s x) c
def bPos:Nat→List Nat→Bool
  | 0,_=>true
  | _+1,[]=>false
  | x+1,y::r=>Nat.blt 0 y && bPos x r
def bDec:Nat→List Nat→List Nat
  | 0,c=>c
  | _+1,[]=>[]
  | x+1,y::r=>Nat.pred y::bDec x r
def bNth:Nat→List Nat→Nat
  | _,[]=>0
  | 0,x::_=>x
  | p+1,_::r=>bNth p r
def bDel:Nat→List Nat→List Nat
  | _,[]=>[]
  | 0,_::r=>r
  | p+1,x::r=>x::bDel p r
def bEq:Bool→Bool→Bool
  | true,b=>b
  | false,b=>!b
def bStep (r c:List Nat) (p:Nat):Bool:=bEq (bGr r 0 0 c) (bPos (bNth p r) c && bGr (bDel p r) 0 0 (bDec (bNth p r) c))
def bChk (r c:List Nat):Bool:=bAll r.length (bStep r c) && bEq (bGr r 0 0 c) (bGr c 0 0 r)
def bAllF:Nat→Nat→(List Nat→Bool)→Bool
  | 0,_,f=>f []
  | m+1,t,f=>bAll (Nat.succ t) fun x=>bAllF m x fun l=>f (x::l)
def bAllG:Nat→Nat→Nat→(List Nat→Bool)→Bool
  | 0,_,s,f=>cond (Nat.beq s 0) (f []) true
  | m+1,t,s,f=>bAll (Nat.succ t) fun x=>cond (Nat.ble x s) (bAllG m x (Nat.sub s x) fun l=>f (x::l)) true
def bRow (h:Nat) (r:List Nat):Bool:=bAllG h 5 (bSum r) fun c=>bChk r c
theorem bAll_in {f:Nat→Bool}:∀ {k:Nat},(∀ i,i < k→f i=true)→bAll k f=true
  | 0,_=>rfl
  | k+1,h=>by rw [bAll,h k (by omega),bAll_in fun i hi=>h i (by omega)];rfl
set_option maxRecDepth 100000 in
theorem bc_1_1:bAllF 1 1 (bRow 1)=true:=by kernel_rfl
set_option maxRecDepth 100000 in
theorem bc_1_2:bAllF 1 2 (bRow 2)=true:=by kernel_rfl
set_option maxRecDepth 100000 in
theorem bc_1_3:bAllF 1 3 (bRow 3)=true:=by kernel_rfl
set_option maxRecDepth 100000 in
theorem bc_1_4:bAllF 1 4 (bRow 4)=true:=by kernel_rfl
set_option maxRecDepth 100000 in
theorem bc_1_5:bAllF 1 5 (bRow 5)=true:=by kernel_rfl
set_option maxRecDepth 100000 in
theorem bc_2_1:bAllF 2 1 (bRow 1)=true:=by kernel_rfl
set_option maxRecDepth 100000 in
theorem bc_2_2:bAllF 2 2 (bRow 2)=true:=by kernel_rfl
set_option maxRecDepth 100000 in
theorem bc_2_3:bAllF 2 3 (bRow 3)=true:=by kernel_rfl
set_option maxRecDepth 100000 in
theorem bc_2_4:bAllF 2 4 (bRow 4)=true:=by kernel_rfl
set_option maxRecDepth 100000 in
theorem bc_2_5:bAllF 2 5 (bRow 5)=true:=by kernel_rfl
set_option maxRecDepth 100000 in
theorem bc_3_1:bAllF 3 1 (bRow 1)=true:=by kernel_rfl
set_option maxRecDepth 100000 in
theorem bc_3_2:bAllF 3 2 (bRow 2)=true:=by kernel_rfl
set_option maxRecDepth 100000 in
theorem bc_3_3:bAllF 3 3 (bRow 3)=true:=by kernel_rfl
set_option maxRecDepth 100000 in
theorem bc_3_4:bAllF 3 4 (bRow 4)=true:=by kernel_rfl
set_option maxRecDepth 100000 in
theorem bc_3_5:bAllF 3 5 (bRow 5)=true:=by kernel_rfl
set_option maxRecDepth 100000 in
theorem bc_4_1:bAllF 4 1 (bRow 1)=true:=by kernel_rfl
set_option maxRecDepth 100000 in
theorem bc_4_2:bAllF 4 2 (bRow 2)=true:=by kernel_rfl
set_option maxRecDepth 100000 in
theorem bc_4_3:bAllF 4 3 (bRow 3)=true:=by kernel_rfl
set_option maxRecDepth 100000 in
theorem bc_4_4:bAllF 4 4 (bRow 4)=true:=by kernel_rfl
set_option maxRecDepth 100000 in
theorem bc_4_5:bAllF 4 5 (bRow 5)=true:=by kernel_rfl
set_option maxRecDepth 100000 in
theorem bc_5_1:bAllF 5 1 (bRow 1)=true:=by kernel_rfl
set_option maxRecDepth 100000 in
theorem bc_5_2:bAllF 5 2 (bRow 2)=true:=by kernel_rfl
set_option maxRecDepth 100000 in
theorem bc_5_3:bAllF 5 3 (bRow 3)=true:=by kernel_rfl
set_option maxRecDepth 100000 in
theorem bc_5_4_0:bAllF 4 0 (fun l=>bRow 4 (0::l))=true:=by kernel_rfl
set_option maxRecDepth 100000 in
theorem bc_5_4_1:bAllF 4 1 (fun l=>bRow 4 (1::l))=true:=by kernel_rfl
set_option maxRecDepth 100000 in
theorem bc_5_4_2:bAllF 4 2 (fun l=>bRow 4 (2::l))=true:=by kernel_rfl
set_option maxRecDepth 100000 in
theorem bc_5_4_3:bAllF 4 3 (fun l=>bRow 4 (3::l))=true:=by kernel_rfl
set_option maxRecDepth 100000 in
theorem bc_5_4_4:bAllF 4 4 (fun l=>bRow 4 (4::l))=true:=by kernel_rfl
theorem bc_5_4:bAllF 5 4 (bRow 4)=true:=bAll_in fun x hx=>match x,hx with
  | 0,_=>bc_5_4_0
  | 1,_=>bc_5_4_1
  | 2,_=>bc_5_4_2
  | 3,_=>bc_5_4_3
  | 4,_=>bc_5_4_4
  | n+5,h=>absurd h (by omega)
set_option maxRecDepth 100000 in
theorem bc_5_5_0:bAllF 4 0 (fun l=>bRow 5 (0::l))=true:=by kernel_rfl
set_option maxRecDepth 100000 in
theorem bc_5_5_1:bAllF 4 1 (fun l=>bRow 5 (1::l))=true:=by kernel_rfl
set_option maxRecDepth 100000 in
theorem bc_5_5_2:bAllF 4 2 (fun l=>bRow 5 (2::l))=true:=by kernel_rfl
set_option maxRecDepth 100000 in
theorem bc_5_5_3:bAllF 4 3 (fun l=>bRow 5 (3::l))=true:=by kernel_rfl
set_option maxRecDepth 100000 in
theorem bc_5_5_4:bAllF 4 4 (fun l=>bRow 5 (4::l))=true:=by kernel_rfl
set_option maxRecDepth 100000 in
theorem bc_5_5_5:bAllF 4 5 (fun l=>bRow 5 (5::l))=true:=by kernel_rfl
theorem bc_5_5:bAllF 5 5 (bRow 5)=true:=bAll_in fun x hx=>match x,hx with
  | 0,_=>bc_5_5_0
  | 1,_=>bc_5_5_1
  | 2,_=>bc_5_5_2
  | 3,_=>bc_5_5_3
  | 4,_=>bc_5_5_4
  | 5,_=>bc_5_5_5
  | n+6,h=>absurd h (by omega)
theorem bc_all:∀ w h:Nat,1≤w→w≤5→1≤h→h≤5→bAllF w h (bRow h)=true:=fun w h h1 h2 h3 h4=>match w,h,h1,h2,h3,h4 with
  | 1,1,_,_,_,_=>bc_1_1
  | 1,2,_,_,_,_=>bc_1_2
  | 1,3,_,_,_,_=>bc_1_3
  | 1,4,_,_,_,_=>bc_1_4
  | 1,5,_,_,_,_=>bc_1_5
  | 2,1,_,_,_,_=>bc_2_1
  | 2,2,_,_,_,_=>bc_2_2
  | 2,3,_,_,_,_=>bc_2_3
  | 2,4,_,_,_,_=>bc_2_4
  | 2,5,_,_,_,_=>bc_2_5
  | 3,1,_,_,_,_=>bc_3_1
  | 3,2,_,_,_,_=>bc_3_2
  | 3,3,_,_,_,_=>bc_3_3
  | 3,4,_,_,_,_=>bc_3_4
  | 3,5,_,_,_,_=>bc_3_5
  | 4,1,_,_,_,_=>bc_4_1
  | 4,2,_,_,_,_=>bc_4_2
  | 4,3,_,_,_,_=>bc_4_3
  | 4,4,_,_,_,_=>bc_4_4
  | 4,5,_,_,_,_=>bc_4_5
  | 5,1,_,_,_,_=>bc_5_1
  | 5,2,_,_,_,_=>bc_5_2
  | 5,3,_,_,_,_=>bc_5_3
  | 5,4,_,_,_,_=>bc_5_4
  | 5,5,_,_,_,_=>bc_5_5
  | 0,_,h,_,_,_=>absurd h (by omega)
  | _,0,_,_,h,_=>absurd h (by omega)
  | n+6,_,_,h,_,_=>absurd h (by omega)
  | _,n+6,_,_,_,h=>absurd h (by omega)
theorem bAll_ok {f:Nat→Bool}:∀ {k:Nat},bAll k f=true→∀ i,i < k→f i=true
  | 0,_,i,hi=>absurd hi (by omega)
  | k+1,h,i,hi=>by
    rw [bAll,Bool.and_eq_true] at h
    by_cases he:i=k
    · subst he;exact h.1
    · exact bAll_ok h.2 i (by omega)
def FalN:Nat→List Nat→Prop
  | _,[]=>True
  | t,x::r=>x≤t∧FalN x r
theorem bAllF_ok:∀ (m t:Nat) (f:List Nat→Bool) (l:List Nat),bAllF m t f=true→l.length=m→FalN t l→f l=true
  | 0,t,f,l,h,hl,_=>by
    have:l=[]:=List.length_eq_zero_iff.1 hl
    subst this;exact h
  | m+1,t,f,[],h,hl,_=>by simp at hl
  | m+1,t,f,x::r,h,hl,hf=>bAllF_ok m x (fun l=>f (x::l)) r (bAll_ok h x (by have:=hf.1;omega)) (by simpa using hl) hf.2
theorem bAllG_ok:∀ (m t s:Nat) (f:List Nat→Bool) (l:List Nat),bAllG m t s f=true→l.length=m→FalN t l→bSum l=s→f l=true
  | 0,t,s,f,l,h,hl,_,hs=>by
    have:l=[]:=List.length_eq_zero_iff.1 hl
    subst this
    have:s=0:=hs.symm
    subst this;exact h
  | m+1,t,s,f,[],h,hl,_,_=>by simp at hl
  | m+1,t,s,f,x::r,h,hl,hf,hs=>by
    have hs':x+bSum r=s:=hs
    have h1:=bAll_ok h x (by have:=hf.1;omega)
    have hb:Nat.ble x s=true:=by rw [Nat.ble_eq];omega
    simp only [hb,cond_true] at h1
    exact bAllG_ok m x _ (fun l=>f (x::l)) r h1 (by simpa using hl) hf.2 (by show bSum r=s - x;omega)
theorem bEq_ok:∀ {a b:Bool},bEq a b=true→a=b
  | true,true,_=>rfl
  | false,false,_=>rfl
  | true,false,h=>by cases h
  | false,true,h=>by cases h
theorem bChk_ok {w h:Nat} {r c:List Nat} (h1:1≤w) (h2:w≤5) (h3:1≤h) (h4:h≤5) (hr:r.length=w) (hc:c.length=h) (fr:FalN h r) (fc:FalN 5 c) (hs:bSum r=bSum c) :
    (∀ p,p < w→bGr r 0 0 c=(bPos (bNth p r) c && bGr (bDel p r) 0 0 (bDec (bNth p r) c)))∧bGr r 0 0 c=bGr c 0 0 r:=by
  have e1:=bAllF_ok w h (bRow h) r (bc_all w h h1 h2 h3 h4) hr fr
  have e2:=bAllG_ok h 5 _ (fun c=>bChk r c) c e1 hc fc hs.symm
  simp only [bChk,Bool.and_eq_true] at e2
  exact ⟨fun p hp=>bEq_ok (bAll_ok e2.1 p (by omega)),bEq_ok e2.2⟩
end Go.Idl
namespace Go.Idl
open Go
def tab (t:List (List Int)):List (List IV):=t.map fun r=>[.lst 1 (ints r) false]
def oab (t:List (List Int)):List (List IV):=t.map fun r=>[.own 1 (ints r)]
abbrev TL (t:List (List Int)) (c:Bool:=false):IV:=.lst 1 (tab t) c
abbrev OT (t:List (List Int)):IV:=.own 1 (oab t)
@[simp] theorem tab_len (t:List (List Int)):(tab t).length=t.length:=by simp [tab]
@[simp] theorem oab_len (t:List (List Int)):(oab t).length=t.length:=by simp [oab]
@[simp] theorem oab_nil:oab []=[]:=rfl
@[simp] theorem tab_get? (t:List (List Int)) (i:Nat):(tab t)[i]? = t[i]?.map fun r=>[IV.lst 1 (ints r) false]:=by simp [tab]
@[simp] theorem tab_get (t:List (List Int)) (i:Nat) (h:i < (tab t).length):(tab t)[i]=[IV.lst 1 (ints (t[i]'(by simpa [tab] using h))) false]:=by simp [tab]
@[simp] theorem oab_get? (t:List (List Int)) (i:Nat):(oab t)[i]? = t[i]?.map fun r=>[IV.own 1 (ints r)]:=by simp [oab]
@[simp] theorem oab_get (t:List (List Int)) (i:Nat) (h:i < (oab t).length):(oab t)[i]=[IV.own 1 (ints (t[i]'(by simpa [oab] using h)))]:=by simp [oab]
@[simp] theorem oab_one (t:List (List Int)) (r:List Int):oab t++[[IV.own 1 (ints r)]]=oab (t++[r]):=by simp [oab]
@[simp] theorem oab_set (t:List (List Int)) (i:Nat) (r:List Int):(oab t).set i [IV.own 1 (ints r)]=oab (t.set i r):=by simp [oab,List.map_set]
@[simp] theorem oab_take (t:List (List Int)) (n:Nat):(oab t).take n=oab (t.take n):=by simp [oab,List.map_take]
@[simp] theorem frz_oab (t:List (List Int)):frzLL (oab t)=tab t:=by
  induction t with
  | nil=>rfl
  | cons x xs ih =>
    simp only [oab,tab,List.map_cons,frzLL,frzL,frzV] at *
    rw [ih]
    have:frzLL (ints x)=ints x:=by
      clear ih
      induction x with
      | nil=>rfl
      | cons y ys ih=>simp only [ints,List.map_cons,frzLL,frzL,frzV] at *;rw [ih]
    rw [this]
@[simp] theorem tab_all1 (t:List (List Int)):((tab t).all fun x=>x.all IV.plain1)=true:=by
  induction t with
  | nil=>rfl
  | cons x xs ih=>simp only [tab,List.map_cons,List.all_cons] at *;rw [ih];rfl
@[simp] theorem oab_noLst (t:List (List Int)):noLstLL (oab t)=true:=by
  induction t with
  | nil=>rfl
  | cons x xs ih =>
    simp only [oab,List.map_cons,noLstLL,noLstL,noLstV] at *
    rw [ih,ints_noLst];rfl
def g2 (t:List (List Int)) (a b:Nat):Int:=(t.getD a []).getD b 0
end Go.Idl
namespace Go.Idl
open Go
def Sq (t:List (List Int)):Prop:=∀ r ∈ t,r.length=t.length∧∀ x ∈ r,0≤x∧x≤1
def tAt (t:List (List Int)) (a b:Nat):Prop:=if a=b then g2 t a b=0 else g2 t a b+g2 t b a=1
def Tour (t:List (List Int)):Prop:=(1≤t.length∧t.length≤5)∧Sq t∧∀ a b:Nat,a < t.length→b < t.length→tAt t a b
theorem g2_eq {t:List (List Int)} {a b:Nat} (ha:a < t.length) (hb:b < t[a].length):g2 t a b=t[a][b]:=by
  simp [g2,List.getD_eq_getElem?_getD,List.getElem?_eq_getElem ha,List.getElem?_eq_getElem hb]
end Go.Idl
namespace Go.Idl
open Go
theorem insD_step {x:Int} {out:List Int} {k:Nat} (h:k < out.length) (hx:x≤out[k]) (hi:insD x out=out.take k++insD x (out.drop k)) :
    insD x out=out.take (k+1)++insD x (out.drop (k+1)):=by
  rw [List.drop_eq_getElem_cons h] at hi
  rw [hi,insD,if_pos hx,List.take_succ_eq_append_getElem h,List.append_assoc]
  rfl
theorem insD_stop {x:Int} {out:List Int} {k:Nat} (h:k < out.length) (hx:¬ x≤out[k]) (hi:insD x out=out.take k++insD x (out.drop k)) :
    insD x out=out.take k++x::out.drop k:=by
  rw [hi]
  conv=>lhs;rw [List.drop_eq_getElem_cons h]
  rw [insD,if_neg hx,← List.drop_eq_getElem_cons h]
theorem insD_end {x:Int} {out:List Int} {k:Nat} (h:k=out.length) (hi:insD x out=out.take k++insD x (out.drop k)) :
    insD x out=out.take k++x::out.drop k:=by
  rw [hi];subst h;simp [insD]
theorem sfall_in (xs out:List Int) (c:Bool) (i:Nat) (hi:i < xs.length) (ho:out.length≤1000000):∀ (m k:Nat),k+m=out.length→insD xs[i] out=out.take k++insD xs[i] (out.drop k) →
    wp tb (.loop z127l7) { T:=[(0,L xs c),(3,O out),(4,I i),(5,I k)],loc:=[],M:=[] }
      (fun ex st=>ex=.exit 2∧∃ k':Nat,k'≤out.length∧insD xs[i] out=out.take k'++xs[i]::out.drop k'∧st={ T:=[(0,L xs c),(3,O out),(4,I i),(5,I k'),(27,Bo false)],loc:=[],M:=[] }):=by
  intro m
  induction m with
  | zero =>
    intro k hk hinv
    have h3:k=out.length:=hk
    have h4:¬ k < out.length:=by omega
    refine wp_loop ?_
    repeat (first|refine wp_as ?_|refine wp_ss ?_|refine wr (by simp [h4];with_reducible rfl) ?_|refine wq (by simp [h4];with_reducible rfl) ?_|refine wt (by simpa [h4]) ?_|refine wf (by simpa [h4]) ?_|refine xt (by simpa [h4]) ?_|refine xf (by simpa [h4]) ?_|refine wp_bs ?_|refine wp_b ?_|refine wp_sr ?_|refine wp_sx ?_|refine wp_ret' ?_|refine wp_skip' ?_|refine wp_exit' ?_)
    exact ⟨rfl,k,by omega,insD_end h3 hinv,rfl⟩
  | succ m ih =>
    intro k hk hinv
    have hk2:k < out.length:=by omega
    have w1:IntKind.i64.wrap ((k:Int)+1)=((k+1:Nat):Int):=wrapS (by omega)
    by_cases hx:xs[i]≤out[k]
    · refine wp_loop ?_
      repeat (first|refine wp_as ?_|refine wp_ss ?_|refine wr (by simp [hk2,hx,hi,w1];with_reducible rfl) ?_|refine wq (by simp [hk2,hx,hi,w1];with_reducible rfl) ?_|refine wt (by simpa [hk2,hx,hi,w1]) ?_|refine wf (by simpa [hk2,hx,hi,w1]) ?_|refine xt (by simpa [hk2,hx,hi,w1]) ?_|refine xf (by simpa [hk2,hx,hi,w1]) ?_|refine wp_bs ?_|refine wp_b ?_|refine wp_sr ?_|refine wp_sx ?_|refine wp_ret' ?_|refine wp_skip' ?_|refine wp_exit' ?_)
      exact ih (k+1) (by omega) (insD_step hk2 hx hinv)
    · refine wp_loop ?_
      repeat (first|refine wp_as ?_|refine wp_ss ?_|refine wr (by simp [hk2,hx,hi,w1];with_reducible rfl) ?_|refine wq (by simp [hk2,hx,hi,w1];with_reducible rfl) ?_|refine wt (by simpa [hk2,hx,hi,w1]) ?_|refine wf (by simpa [hk2,hx,hi,w1]) ?_|refine xt (by simpa [hk2,hx,hi,w1]) ?_|refine xf (by simpa [hk2,hx,hi,w1]) ?_|refine wp_bs ?_|refine wp_b ?_|refine wp_sr ?_|refine wp_sx ?_|refine wp_ret' ?_|refine wp_skip' ?_|refine wp_exit' ?_)
      exact ⟨rfl,k,by omega,insD_stop hk2 hx hinv,rfl⟩
theorem foldl_take_succ {xs:List Int} {i:Nat} (h:i < xs.length):(xs.take (i+1)).foldl (fun out x=>insD x out) []=insD xs[i] ((xs.take i).foldl (fun out x=>insD x out) []):=by
  rw [List.take_succ_eq_append_getElem h,List.foldl_append];rfl
theorem ev_spec_falling (xs:List Int) (c:Bool) (hl:xs.length≤1000) :
    Ev tb zl127 [] [L xs c] [] ⟨O (fall xs),[],[],[]⟩:=by
  have cp:∀ (ys:List Int) (c:Bool),ys.length≤1000→limF tb zl123 [] [L ys c] []=some ⟨O ys,[],[],[]⟩:=fun ys c h=>ev_lim (ev_copyInts ys c (by omega))
  have loop:∀ (m i:Nat),i+m=xs.length→wp tb (.loop z127l10) { T:=[(0,L xs c),(3,O (fall (xs.take i))),(4,I i)],loc:=[],M:=[] }
      (fun ex st=>ex=.exit 0∧st={ T:=[(0,L xs c),(3,O (fall xs)),(4,I xs.length),(10,Bo false)],loc:=[],M:=[] }):=by
    intro m
    induction m with
    | zero =>
      intro i hi
      have h3:i=xs.length:=hi
      subst h3
      refine wp_loop ?_
      repeat (first|refine wp_as ?_|refine wp_ss ?_|refine wr (by simp;with_reducible rfl) ?_|refine wq (by simp;with_reducible rfl) ?_|refine wt (by simpa) ?_|refine wf (by simpa) ?_|refine xt (by simpa) ?_|refine xf (by simpa) ?_|refine wp_bs ?_|refine wp_b ?_|refine wp_sr ?_|refine wp_sx ?_|refine wp_ret' ?_|refine wp_skip' ?_|refine wp_exit' ?_)
      simp
    | succ m ih =>
      intro i hi
      have hi2:i < xs.length:=by omega
      have w1:IntKind.i64.wrap ((i:Int)+1)=((i+1:Nat):Int):=wrapS (by omega)
      have hfl:(fall (xs.take i)).length=i:=by rw [fall_len];simp;omega
      have hfs:fall (xs.take (i+1))=insD xs[i] (fall (xs.take i)):=foldl_take_succ hi2
      have:=ih (i+1) (by omega)
      rw [hfs] at this
      revert this
      generalize fall (xs.take i)=out at hfl
      intro hnext
      refine wp_loop ?_
      repeat (first|refine wp_as ?_|refine wp_ss ?_|refine wr (by simp [hi2];with_reducible rfl) ?_|refine wq (by simp [hi2];with_reducible rfl) ?_|refine wt (by simpa [hi2]) ?_|refine wf (by simpa [hi2]) ?_|refine xt (by simpa [hi2]) ?_|refine xf (by simpa [hi2]) ?_|refine wp_bs ?_|refine wp_b ?_|refine wp_sr ?_|refine wp_sx ?_|refine wp_ret' ?_|refine wp_skip' ?_|refine wp_exit' ?_)
      refine wp_imp (sfall_in xs out c i hi2 (by omega) out.length 0 (by simp) (by simp)) ?_
      rintro ex st ⟨rfl,k,hk,hins,rfl⟩
      simp only [if_true]
      have hk2:k≤out.length:=hk
      have c1:=cp (out.take k) false (by simp;omega)
      have hb:out.length≤274877906944:=by omega
      have hb2:k≤274877906943:=by omega
      have hb3:k+1+(out.length - k)≤274877906944:=by omega
      have hb4:k+(out.length - k+1)≤274877906944:=by omega
      have hb5:out.length≤274877906943:=by omega
      refine wp_rega (by simp [hi2,hk2,c1,hb,hb2,hb3,hb4,hb5];with_reducible rfl) (by simp;with_reducible rfl) ?_ ?_
      · intro p hp
        simp only [List.mem_cons,List.not_mem_nil,or_false] at hp
        rcases hp with rfl | rfl
        · exact ⟨_,by simp [hi2,hk2,c1,hb,hb2,hb3,hb4,hb5];with_reducible rfl,by simp⟩
        · exact ⟨_,by simp [hi2,hk2,c1,hb,hb2,hb3,hb4,hb5];with_reducible rfl,by simp⟩
      repeat (first|refine wp_as ?_|refine wp_ss ?_|refine wr (by simp [w1];with_reducible rfl) ?_|refine wq (by simp [w1];with_reducible rfl) ?_|refine wt (by simpa [w1]) ?_|refine wf (by simpa [w1]) ?_|refine xt (by simpa [w1]) ?_|refine xf (by simpa [w1]) ?_|refine wp_bs ?_|refine wp_b ?_|refine wp_sr ?_|refine wp_sx ?_|refine wp_ret' ?_|refine wp_skip' ?_|refine wp_exit' ?_)
      rw [List.take_of_length_le (l:=out.drop k) (by simp),← hins]
      exact hnext
  refine call_of_wp zt127 rfl ?_
  repeat (first|refine wp_as ?_|refine wp_ss ?_|refine wr (by simp;with_reducible rfl) ?_|refine wq (by simp;with_reducible rfl) ?_|refine wt (by simpa) ?_|refine wf (by simpa) ?_|refine xt (by simpa) ?_|refine xf (by simpa) ?_|refine wp_bs ?_|refine wp_b ?_|refine wp_sr ?_|refine wp_sx ?_|refine wp_ret' ?_|refine wp_skip' ?_|refine wp_exit' ?_)
  have:=loop xs.length 0 (by simp)
  simp only [List.take_zero] at this
  refine wp_imp this ?_
  rintro ex st ⟨rfl,rfl⟩
  simp only [if_true]
  repeat (first|refine wp_as ?_|refine wp_ss ?_|refine wr (by simp;with_reducible rfl) ?_|refine wq (by simp;with_reducible rfl) ?_|refine wt (by simpa) ?_|refine wf (by simpa) ?_|refine xt (by simpa) ?_|refine xf (by simpa) ?_|refine wp_bs ?_|refine wp_b ?_|refine wp_sr ?_|refine wp_sx ?_|refine wp_ret' ?_|refine wp_skip' ?_|refine wp_exit' ?_)
  simp [zi127]
theorem ev_least (xs:List Int) (c:Bool) (hl:xs.length≤1000000):Ev tb zl360 [] [L xs c] [] ⟨I (least xs),[],[],[]⟩:=by
  have loop:∀ (m i:Nat),i+m=xs.length→wp tb (.loop z360l6) { T:=[(0,L xs c),(3,I (least (xs.take i))),(4,I i)],loc:=[],M:=[] }
      (fun ex st=>ex=.exit 0∧st={ T:=[(0,L xs c),(3,I (least xs)),(4,I xs.length),(8,Bo false)],loc:=[],M:=[] }):=by
    intro m
    induction m with
    | zero =>
      intro i hi
      have h3:i=xs.length:=hi
      subst h3
      refine wp_loop ?_
      repeat (first|refine wp_as ?_|refine wp_ss ?_|refine wr (by simp;with_reducible rfl) ?_|refine wq (by simp;with_reducible rfl) ?_|refine wt (by simpa) ?_|refine wf (by simpa) ?_|refine xt (by simpa) ?_|refine xf (by simpa) ?_|refine wp_bs ?_|refine wp_b ?_|refine wp_sr ?_|refine wp_sx ?_|refine wp_ret' ?_|refine wp_skip' ?_|refine wp_exit' ?_)
      simp
    | succ m ih =>
      intro i hi
      have hi2:i < xs.length:=by omega
      have w1:IntKind.i64.wrap ((i:Int)+1)=((i+1:Nat):Int):=wrapS (by omega)
      have hn:least (xs.take (i+1))=min (least (xs.take i)) xs[i]:=by
        rw [List.take_succ_eq_append_getElem hi2,least,List.foldl_append];rfl
      have:=ih (i+1) (by omega)
      rw [hn] at this
      refine wp_loop ?_
      repeat (first|refine wp_as ?_|refine wp_ss ?_|refine wr (by simp [hi2,w1,min_if];with_reducible rfl) ?_|refine wq (by simp [hi2,w1,min_if];with_reducible rfl) ?_|refine wt (by simpa [hi2,w1,min_if]) ?_|refine wf (by simpa [hi2,w1,min_if]) ?_|refine xt (by simpa [hi2,w1,min_if]) ?_|refine xf (by simpa [hi2,w1,min_if]) ?_|refine wp_bs ?_|refine wp_b ?_|refine wp_sr ?_|refine wp_sx ?_|refine wp_ret' ?_|refine wp_skip' ?_|refine wp_exit' ?_)
      exact this
  refine call_of_wp zt360 rfl ?_
  repeat (first|refine wp_as ?_|refine wp_ss ?_|refine wr (by simp;with_reducible rfl) ?_|refine wq (by simp;with_reducible rfl) ?_|refine wt (by simpa) ?_|refine wf (by simpa) ?_|refine xt (by simpa) ?_|refine xf (by simpa) ?_|refine wp_bs ?_|refine wp_b ?_|refine wp_sr ?_|refine wp_sx ?_|refine wp_ret' ?_|refine wp_skip' ?_|refine wp_exit' ?_)
  refine wp_imp (loop xs.length 0 (by simp)) ?_
  rintro ex st ⟨rfl,rfl⟩
  simp only [if_true]
  repeat (first|refine wp_as ?_|refine wp_ss ?_|refine wr (by simp;with_reducible rfl) ?_|refine wq (by simp;with_reducible rfl) ?_|refine wt (by simpa) ?_|refine wf (by simpa) ?_|refine xt (by simpa) ?_|refine xf (by simpa) ?_|refine wp_bs ?_|refine wp_b ?_|refine wp_sr ?_|refine wp_sx ?_|refine wp_ret' ?_|refine wp_skip' ?_|refine wp_exit' ?_)
  simp [zi360]
end Go.Idl
namespace Go.Idl
open Go
def Small2 (t:List (List Int)):Prop:=t.length≤1000∧∀ r ∈ t,r.length≤1000∧∀ x ∈ r,-1000≤x∧x≤1000
end Go.Idl
namespace Go.Idl
open Go
def least1:Int→List Int→Int
  | m,[]=>m
  | m,x::r=>least1 (min m x) r
theorem ev_Min (x:Int) (r:List Int) (c:Bool) (hl:r.length≤1000000) :
    Ev tb zl75 [] [L (x::r) c] [] ⟨I (least1 x r),[],[],[]⟩:=by
  have loop:∀ (m i:Nat) (y:Int),i+m=r.length→wp tb (.loop z75l8) { T:=[(0,L (x::r) c),(3,I y),(4,I (i+1))],loc:=[],M:=[] }
      (fun ex st=>ex=.exit 0∧st={ T:=[(0,L (x::r) c),(3,I (least1 y (r.drop i))),(4,I (r.length+1)),(15,Bo false)],loc:=[],M:=[] }):=by
    intro m
    induction m with
    | zero =>
      intro i y hi
      obtain ⟨h1,h2⟩:=drop_end hi
      have h3:i=r.length:=hi
      subst h3
      refine wp_loop ?_
      repeat (first|refine wp_as ?_|refine wp_ss ?_|refine wr (by simp;with_reducible rfl) ?_|refine wq (by simp;with_reducible rfl) ?_|refine wt (by simpa) ?_|refine wf (by simpa) ?_|refine xt (by simpa) ?_|refine xf (by simpa) ?_|refine wp_bs ?_|refine wp_b ?_|refine wp_sr ?_|refine wp_sx ?_|refine wp_ret' ?_|refine wp_skip' ?_|refine wp_exit' ?_)
      exact ⟨rfl,by simp [least1]⟩
    | succ m ih =>
      intro i y hi
      obtain ⟨hi2,h2,h3⟩:=drop_get hi
      have w2:IntKind.i64.wrap ((i:Int)+1+1)=(i:Int)+1+1:=wrap64 (by omega) (by omega)
      have h4:(i:Int) < r.length:=by omega
      rw [h2]
      refine wp_loop ?_
      repeat (first|refine wp_as ?_|refine wp_ss ?_|refine wr (by simp [hi2,w2,h4];with_reducible rfl) ?_|refine wq (by simp [hi2,w2,h4];with_reducible rfl) ?_|refine wt (by simpa [hi2,w2,h4]) ?_|refine wf (by simpa [hi2,w2,h4]) ?_|refine xt (by simpa [hi2,w2,h4]) ?_|refine xf (by simpa [hi2,w2,h4]) ?_|refine wp_bs ?_|refine wp_b ?_|refine wp_sr ?_|refine wp_sx ?_|refine wp_ret' ?_|refine wp_skip' ?_|refine wp_exit' ?_)
      have:=ih (i+1) (min y r[i]) (by omega)
      simp only [min_if,min_if',least1] at this ⊢
      exact this
  have h0:¬ ((r.length:Int)+1 < 1):=by omega
  refine call_of_wp zt75 rfl ?_
  repeat (first|refine wp_as ?_|refine wp_ss ?_|refine wr (by simp [h0];with_reducible rfl) ?_|refine wq (by simp [h0];with_reducible rfl) ?_|refine wt (by simpa [h0]) ?_|refine wf (by simpa [h0]) ?_|refine xt (by simpa [h0]) ?_|refine xf (by simpa [h0]) ?_|refine wp_bs ?_|refine wp_b ?_|refine wp_sr ?_|refine wp_sx ?_|refine wp_ret' ?_|refine wp_skip' ?_|refine wp_exit' ?_)
  have:=loop r.length 0 x (by omega)
  simp at this
  refine wp_imp this ?_
  rintro ex st ⟨rfl,rfl⟩
  simp only [if_true]
  repeat (first|refine wp_as ?_|refine wp_ss ?_|refine wr (by simp;with_reducible rfl) ?_|refine wq (by simp;with_reducible rfl) ?_|refine wt (by simpa) ?_|refine wf (by simpa) ?_|refine xt (by simpa) ?_|refine xf (by simpa) ?_|refine wp_bs ?_|refine wp_b ?_|refine wp_sr ?_|refine wp_sx ?_|refine wp_ret' ?_|refine wp_skip' ?_|refine wp_exit' ?_)
  simp [zi75]
theorem least1_ge:∀ (r:List Int) (m b:Int),(b≤least1 m r) ↔ b≤m∧∀ x ∈ r,b≤x
  | [],m,b=>by simp [least1]
  | x::r,m,b=>by
    rw [least1,least1_ge r]
    constructor
    · rintro ⟨h1,h2⟩
      exact ⟨by omega,by intro y hy;rcases List.mem_cons.1 hy with rfl | hy;omega;exact h2 y hy⟩
    · rintro ⟨h1,h2⟩
      have:=h2 x (by simp)
      exact ⟨by omega,fun y hy=>h2 y (by simp [hy])⟩
def asc0 (s:List Int):List Int:=(fall s).reverse
def overT (s:List Int) (i:Nat):Int:=((asc0 s).take (i+1)).sum - ((i:Int)+1) * i / 2
def over (s:List Int):List Int:=mapR s.length (overT s)
end Go.Idl
namespace Go.Idl
open Go
theorem sum01 (r:List Int) (h:∀ x ∈ r,0≤x∧x≤1):0≤r.sum∧r.sum≤r.length:=by
  induction r with
  | nil=>simp
  | cons x xs ih =>
    have h1:=h x (by simp)
    have h2:=ih fun y hy=>h y (by simp [hy])
    simp only [List.sum_cons,List.length_cons];omega
end Go.Idl
namespace Go.Idl
open Go
def tabF (w h:Nat) (g:Nat→Nat→Int):List (List Int):=(List.range w).map fun i=>mapR h (g i)
theorem tabl_in (w h:Nat) (F:Lab) (caps:List IV) (M:List Boxes) (g:Nat→Nat→Int) (i:Nat) (hi:i < w) (hh:h≤1000) (hw:w≤1000)
    (hF:∀ k,k < h→Ev tb F [] (I i::I k::caps) (M++[[]]) ⟨I (g i k),[],M++[[]],[]⟩) :
    ∀ (m k:Nat) (C:List (List IV)),k+m=h→C.length=w→(∀ hc:i < C.length,C[i]=[O (mapR k (g i)++List.replicate (h - k) 0)]) →
    wp tb (.loop z41l11) { T:=[(1,I h),(2,.fn F caps),(7,.own 1 C),(8,I i),(13,I w),(14,I i),(26,I h),(27,I k)],loc:=[],M:=M }
      (fun ex st=>ex=.exit 2∧st={ T:=[(1,I h),(2,.fn F caps),(7,.own 1 (C.set i [O (mapR h (g i))])),(8,I i),(13,I w),(14,I i),(26,I h),(27,I h),(28,Bo false)],loc:=[],M:=M }):=by
  intro m
  induction m with
  | zero =>
    intro k C hk hC hCi
    have h3:k=h:=hk
    subst h3
    have hi':i < C.length:=by omega
    have hs:C.set i [O (mapR k (g i))]=C:=by
      have:=hCi hi'
      simp only [Nat.sub_self,List.replicate_zero,List.append_nil] at this
      rw [← this];simp
    refine wp_loop ?_
    repeat (first|refine wp_as ?_|refine wp_ss ?_|refine wr (by simp;with_reducible rfl) ?_|refine wq (by simp;with_reducible rfl) ?_|refine wt (by simpa) ?_|refine wf (by simpa) ?_|refine xt (by simpa) ?_|refine xf (by simpa) ?_|refine wp_bs ?_|refine wp_b ?_|refine wp_sr ?_|refine wp_sx ?_|refine wp_ret' ?_|refine wp_skip' ?_|refine wp_exit' ?_)
    exact ⟨rfl,by rw [hs]⟩
  | succ m ih =>
    intro k C hk hC hCi
    have hkn:k < h:=by omega
    have hiC:i < C.length:=by omega
    have hCi:=hCi hiC
    have e1:=ev_lim (hF k hkn)
    have w2:IntKind.i64.wrap ((k:Int)+1)=((k+1:Nat):Int):=wrapS (by omega)
    have hln:(mapR k (g i)).length=k:=by simp [mapR]
    have hlt:k < k+(h - k):=by omega
    have hs':=mapR_succ_set (g i) hkn
    have hx:i < w:=hi
    refine wp_loop ?_
    repeat (first|refine wp_as ?_|refine wp_ss ?_|refine wr (by simp [hkn];with_reducible rfl) ?_|refine wq (by simp [hkn];with_reducible rfl) ?_|refine wt (by simpa [hkn]) ?_|refine wf (by simpa [hkn]) ?_|refine xt (by simpa [hkn]) ?_|refine xf (by simpa [hkn]) ?_|refine wp_bs ?_|refine wp_b ?_|refine wp_sr ?_|refine wp_sx ?_|refine wp_ret' ?_|refine wp_skip' ?_|refine wp_exit' ?_)
    refine wp_rega (by simp [hkn,hC,hx,hCi,e1,hln,hlt,hs'];with_reducible rfl) (by simp;with_reducible rfl) ?_ ?_
    · intro p hp
      simp only [List.mem_cons,List.not_mem_nil,or_false] at hp
      subst hp
      exact ⟨_,by simp [hkn,hC,hx,hCi,e1,hln,hlt,hs'];with_reducible rfl,by simp⟩
    repeat (first|refine wp_as ?_|refine wp_ss ?_|refine wr (by simp [w2];with_reducible rfl) ?_|refine wq (by simp [w2];with_reducible rfl) ?_|refine wt (by simpa [w2]) ?_|refine wf (by simpa [w2]) ?_|refine xt (by simpa [w2]) ?_|refine xf (by simpa [w2]) ?_|refine wp_bs ?_|refine wp_b ?_|refine wp_sr ?_|refine wp_sx ?_|refine wp_ret' ?_|refine wp_skip' ?_|refine wp_exit' ?_)
    refine wp_imp (ih (k+1) _ (by omega) (by simp [hC]) (by intro hc;simp)) ?_
    rintro ex st ⟨rfl,rfl⟩
    exact ⟨rfl,by simp⟩
theorem tabl_out (w h:Nat) (F:Lab) (caps:List IV) (M:List Boxes) (g:Nat→Nat→Int) (hh:h≤1000) (hw:w≤1000)
    (hF:∀ i k,i < w→k < h→Ev tb F [] (I i::I k::caps) (M++[[]]) ⟨I (g i k),[],M++[[]],[]⟩) :
    ∀ (m i:Nat) ,i+m=w →
    wp tb (.loop z41l13) { T:=[(1,I h),(2,.fn F caps),(7,.own 1 (oab (tabF i h g)++List.replicate (w - i) [Z])),(13,I w),(14,I i)],loc:=[],M:=M }
      (fun ex st=>ex=.exit 0∧st={ T:=[(1,I h),(2,.fn F caps),(7,OT (tabF w h g)),(13,I w),(14,I w),(15,Bo false)],loc:=[],M:=M }):=by
  intro m
  induction m with
  | zero =>
    intro i hi
    have h3:i=w:=hi
    subst h3
    refine wp_loop ?_
    repeat (first|refine wp_as ?_|refine wp_ss ?_|refine wr (by simp;with_reducible rfl) ?_|refine wq (by simp;with_reducible rfl) ?_|refine wt (by simpa) ?_|refine wf (by simpa) ?_|refine xt (by simpa) ?_|refine xf (by simpa) ?_|refine wp_bs ?_|refine wp_b ?_|refine wp_sr ?_|refine wp_sx ?_|refine wp_ret' ?_|refine wp_skip' ?_|refine wp_exit' ?_)
    exact ⟨rfl,by simp⟩
  | succ m ih =>
    intro i hi
    have hin:i < w:=by omega
    have w2:IntKind.i64.wrap ((i:Int)+1)=((i+1:Nat):Int):=wrapS (by omega)
    have hC:(oab (tabF i h g)++List.replicate (w - i) [Z]).length=w:=by simp [tabF];omega
    have hst:∀ r,(oab (tabF i h g)++List.replicate (w - i) [Z]).set i [O r]=oab (tabF i h g++[r])++List.replicate (w - (i+1)) [Z]:=by
      intro r
      have e:w - i=(w - (i+1))+1:=by omega
      rw [e,List.replicate_succ,List.set_append_right _ _ (by simp [tabF]),← oab_one]
      simp [tabF]
      simp [oab]
    have hCi:∀ hc:i < (oab (tabF i h g)++List.replicate (w - i) [Z]).length,(oab (tabF i h g)++List.replicate (w - i) [Z])[i]=[Z]:=by
      intro hc
      rw [List.getElem_append_right (by simp [tabF])];simp
    have hb:h≤274877906944:=by omega
    have ht:tabF i h g++[mapR h (g i)]=tabF (i+1) h g:=by simp [tabF,List.range_succ]
    have hin2:=tabl_in w h F caps M g i hin hh hw (fun k hk=>hF i k hin hk) h 0 ((oab (tabF i h g)++List.replicate (w - i) [Z]).set i [O (List.replicate h 0)])
      (by omega) (by rw [List.length_set];exact hC) (by intro hc;simp [mapR])
    simp only [List.set_set] at hin2
    rw [show ((0:Nat):Int)=0 from rfl] at hin2
    generalize (oab (tabF i h g)++List.replicate (w - i) [Z])=C at *
    refine wp_loop ?_
    have hiC:i < C.length:=by omega
    have hCi:=hCi hiC
    repeat (first|refine wp_as ?_|refine wp_ss ?_|refine wr (by simp [hin,hC,hb,hCi];with_reducible rfl) ?_|refine wq (by simp [hin,hC,hb,hCi];with_reducible rfl) ?_|refine wt (by simpa [hin,hC,hb,hCi]) ?_|refine wf (by simpa [hin,hC,hb,hCi]) ?_|refine xt (by simpa [hin,hC,hb,hCi]) ?_|refine xf (by simpa [hin,hC,hb,hCi]) ?_|refine wp_bs ?_|refine wp_b ?_|refine wp_sr ?_|refine wp_sx ?_|refine wp_ret' ?_|refine wp_skip' ?_|refine wp_exit' ?_)
    refine wp_imp hin2 ?_
    rintro ex st ⟨rfl,rfl⟩
    simp only [if_true]
    rw [hst,ht]
    repeat (first|refine wp_as ?_|refine wp_ss ?_|refine wr (by simp [w2];with_reducible rfl) ?_|refine wq (by simp [w2];with_reducible rfl) ?_|refine wt (by simpa [w2]) ?_|refine wf (by simpa [w2]) ?_|refine xt (by simpa [w2]) ?_|refine xf (by simpa [w2]) ?_|refine wp_bs ?_|refine wp_b ?_|refine wp_sr ?_|refine wp_sx ?_|refine wp_ret' ?_|refine wp_skip' ?_|refine wp_exit' ?_)
    exact ih (i+1) (by omega)
theorem ev_table (w h:Nat) (F:Lab) (caps:List IV) (M:List Boxes) (g:Nat→Nat→Int) (hh:h≤1000) (hw:w≤1000)
    (hF:∀ i k,i < w→k < h→Ev tb F [] (I i::I k::caps) (M++[[]]) ⟨I (g i k),[],M++[[]],[]⟩) :
    Ev tb zl41 [] [I w,I h,.fn F caps] M ⟨OT (tabF w h g),[],M,[]⟩:=by
  have hb:w≤274877906944:=by omega
  refine call_of_wp zt41 rfl ?_
  repeat (first|refine wp_as ?_|refine wp_ss ?_|refine wr (by simp [hb];with_reducible rfl) ?_|refine wq (by simp [hb];with_reducible rfl) ?_|refine wt (by simpa [hb]) ?_|refine wf (by simpa [hb]) ?_|refine xt (by simpa [hb]) ?_|refine xf (by simpa [hb]) ?_|refine wp_bs ?_|refine wp_b ?_|refine wp_sr ?_|refine wp_sx ?_|refine wp_ret' ?_|refine wp_skip' ?_|refine wp_exit' ?_)
  have:=tabl_out w h F caps M g hh hw hF w 0 (by omega)
  simp [tabF] at this
  refine wp_imp this ?_
  rintro ex st ⟨rfl,rfl⟩
  simp only [if_true]
  repeat (first|refine wp_as ?_|refine wp_ss ?_|refine wr (by simp;with_reducible rfl) ?_|refine wq (by simp;with_reducible rfl) ?_|refine wt (by simpa) ?_|refine wf (by simpa) ?_|refine xt (by simpa) ?_|refine xf (by simpa) ?_|refine wp_bs ?_|refine wp_b ?_|refine wp_sr ?_|refine wp_sx ?_|refine wp_ret' ?_|refine wp_skip' ?_|refine wp_exit' ?_)
  simp [zi41,tabF]
  rw [List.take_of_length_le (by simp)]
end Go.Idl
namespace Go.Idl
open Go
def comp (d:List Int):List Int:=(List.range d.length).map fun k=>(d.length:Int) - 1 - d.getD k 0
def noneNeg (xs:List Int):Bool:=xs.all fun x=>decide (0≤x)
theorem code_ok {code:List Int} (h:∀ x ∈ code,0≤x∧x≤255):CodeOk (code.take 2000):=⟨by simp;omega,fun x hx=>h x (List.mem_of_mem_take hx)⟩
end Go.Idl
namespace Go.Idl
open Go
def TT (n:Nat) (t:List (List Int)):Prop:=t.length=n∧∀ r ∈ t,r.length=n∧∀ x ∈ r,0≤x∧x≤1
theorem TT.set {n:Nat} {t:List (List Int)} (h:TT n t) {a b:Nat} {v:Int} (ha:a < t.length) (hv:0≤v∧v≤1):TT n (t.set a (t[a].set b v)):=by
  refine ⟨by simpa using h.1,fun r hr=>?_⟩
  have h1:=h.2 _ (List.getElem_mem ha)
  rcases List.mem_or_eq_of_mem_set hr with hr | rfl
  · exact h.2 r hr
  · refine ⟨by simpa using h1.1,fun x hx=>?_⟩
    rcases List.mem_or_eq_of_mem_set hx with hx | rfl
    · exact h1.2 x hx
    · exact hv
end Go.Idl
namespace Go.Idl
open Go
def TS (t:List (List Int)):Prop:=(1≤t.length∧t.length≤5)∧∀ r ∈ t,r.length≤5∧∀ x ∈ r,0≤x∧x≤1
theorem TS.small {t:List (List Int)} (h:TS t):Small2 t:=⟨by have:=h.1;omega,fun r hr=>⟨by have:=(h.2 r hr).1;omega,fun x hx=>by have:=(h.2 r hr).2 x hx;omega⟩⟩
theorem TT.ts {n:Nat} {t:List (List Int)} (h:TT n t) (h1:1≤n) (h5:n≤5):TS t:=⟨by have:=h.1;omega,fun r hr=>⟨by have:=(h.2 r hr).1;omega,(h.2 r hr).2⟩⟩
end Go.Idl
namespace Go.Idl
open Go
def sN (l:List Nat) (f:Nat→Int):Int:=(l.map f).sum
theorem sN_cons (x:Nat) (r:List Nat) (f:Nat→Int):sN (x::r) f=f x+sN r f:=by simp [sN]
theorem sN_add (l:List Nat) (f g:Nat→Int):sN l (fun a=>f a+g a)=sN l f+sN l g:=by
  induction l with
  | nil=>simp [sN]
  | cons x r ih=>simp only [sN_cons,ih];omega
theorem sN_congr {l:List Nat} {f g:Nat→Int} (h:∀ a ∈ l,f a=g a):sN l f=sN l g:=by
  unfold sN;rw [List.map_congr_left h]
theorem sN_one (l:List Nat):sN l (fun _=>1)=l.length:=by
  induction l with
  | nil=>simp [sN]
  | cons y r ih=>rw [sN_cons,ih];simp;omega
theorem within {g:Nat→Nat→Int}:∀ (X:List Nat),X.Nodup→(∀ a ∈ X,g a a=0)→(∀ a ∈ X,∀ b ∈ X,a ≠ b→g a b+g b a=1) →
    2 * sN X (fun a=>sN X (g a))=(X.length:Int) * ((X.length:Int) - 1)
  | [],_,_,_=>by simp [sN]
  | x::r,hd,h0,h1=>by
    have hd':=List.nodup_cons.1 hd
    have ih:=within r hd'.2 (fun a ha=>h0 a (by simp [ha])) (fun a ha b hb=>h1 a (by simp [ha]) b (by simp [hb]))
    have e1:sN r (fun a=>sN (x::r) (g a))=sN r (fun a=>g a x)+sN r (fun a=>sN r (g a)):=by
      rw [← sN_add];exact sN_congr fun a _=>sN_cons x r (g a)
    have e2:sN r (g x)+sN r (fun a=>g a x)=r.length:=by
      rw [← sN_add,sN_congr (g:=fun _=>1) (fun a ha=>h1 x (by simp) a (by simp [ha]) (fun e=>hd'.1 (by rw [e];exact ha))),sN_one]
    have e3:=h0 x (by simp)
    rw [sN_cons,sN_cons,e1,e3]
    simp only [List.length_cons]
    have:((r.length+1:Nat):Int) * (((r.length+1:Nat):Int) - 1)=(r.length:Int) * ((r.length:Int) - 1)+2 * r.length:=by
      rw [Int.natCast_add,Int.natCast_one,Int.add_sub_cancel,Int.add_mul,Int.mul_sub];omega
    rw [this,← ih];omega
end Go.Idl
namespace Go.Idl
open Go
theorem Tour.small {t:List (List Int)} (ht:Tour t):Small2 t :=
  ⟨by have:=ht.1;omega,fun r hr=>⟨by have:=(ht.2.1 r hr).1;have:=ht.1;omega,fun x hx=>by have:=(ht.2.1 r hr).2 x hx;omega⟩⟩
end Go.Idl
namespace Go.Idl
open Go
@[simp] theorem get_mid {α:Type} (A bs:List α) (x:α):(A++x::bs)[A.length]? = some x:=by simp
@[simp] theorem set_mid {α:Type} (A bs:List α) (x y:α):(A++x::bs).set A.length y=A++y::bs:=by
  rw [List.set_append_right _ _ (Nat.le_refl _)];simp
@[simp] theorem set_last {α:Type} (A:List α) (x y:α):(A++[x]).set A.length y=A++[y]:=set_mid A [] x y
end Go.Idl
namespace Go.Idl
open Go
def ahead (x y:List Int) (i m:Nat):Bool:=(List.range m).all fun j=>decide ((y.take (i+j+1)).sum≤(x.take (i+j+1)).sum)
end Go.Idl
namespace Go.Idl
open Go
def Fit (es:List (Int×Int)):Prop:=∀ e ∈ es,-9223372036854775808≤e.1∧e.1 < 9223372036854775808∧-9223372036854775808≤e.2∧e.2 < 9223372036854775808
def below (a b:Int×Int):Bool:=decide (a.1 < b.1) || (decide (a.1=b.1) && decide (a.2 < b.2))
theorem Fit.at {es:List (Int×Int)} (h:Fit es) {i:Nat} (hi:i < es.length):-9223372036854775808≤es[i].1∧es[i].1 < 9223372036854775808∧-9223372036854775808≤es[i].2∧es[i].2 < 9223372036854775808:=h _ (List.getElem_mem hi)
end Go.Idl
namespace Go.Idl
open Go
def nl2:List (Int×Int)→IV
  | []=>Z
  | e::es=>O2 (e::es)
@[simp] theorem nl2_nil:nl2 []=Z:=rfl
@[simp] theorem nl2_cons (e:Int×Int) (es:List (Int×Int)):nl2 (e::es)=O2 (e::es):=rfl
end Go.Idl
namespace Go.Idl
open Go
def decAt (o:List Int) (i:Nat):List Int:=o.set i (o.getD i 0 - 1)
def subs:List (Int×Int)→List Int→List (Int×Int)→List (List (Int×Int))
  | [],left,chosen=>if left.all (fun x=>decide (x=0)) then [chosen] else []
  | e::r,left,chosen =>
    (if 0 < left.getD e.1.toNat 0∧0 < left.getD e.2.toNat 0 then subs r (decAt (decAt left e.1.toNat) e.2.toNat) (chosen++[e]) else [])++subs r left chosen
end Go.Idl
namespace Go.Idl
open Go
def RT (w h:Nat) (t:List (List Int)):Prop:=t.length=w∧∀ r ∈ t,r.length=h
def set2 (t:List (List Int)) (i j:Nat) (v:Int):List (List Int):=t.set i ((t.getD i []).set j v)
theorem RT.set2 {w h:Nat} {t:List (List Int)} (ht:RT w h t) (i j:Nat) (v:Int) (hi:i < w):RT w h (set2 t i j v):=by
  have hi2:i < t.length:=by rw [ht.1];exact hi
  refine ⟨by simp [Go.Idl.set2,ht.1],fun r hr=>?_⟩
  rcases List.mem_or_eq_of_mem_set hr with hr | rfl
  · exact ht.2 r hr
  · have:t.getD i []=t[i]:=by simp [List.getD_eq_getElem?_getD,List.getElem?_eq_getElem hi2]
    rw [this,List.length_set]
    exact ht.2 _ (List.getElem_mem hi2)
def Lil (xs:List Int):Prop:=∀ x ∈ xs,0≤x∧x≤1000
theorem Lil.sum {xs:List Int} (h:Lil xs):0≤xs.sum∧xs.sum≤1000 * xs.length:=by
  induction xs with
  | nil=>simp
  | cons x r ih =>
    have h1:=h x (by simp)
    have h2:=ih fun y hy=>h y (by simp [hy])
    simp only [List.sum_cons,List.length_cons];omega
theorem Lil.small {xs:List Int} (h:Lil xs) (hl:xs.length≤1000):SmallSum xs:=⟨by omega,fun k=>by
  have h1:Lil (xs.take k):=fun x hx=>h x (List.mem_of_mem_take hx)
  have h2:=h1.sum
  have h3:(xs.take k).length≤xs.length:=by simp;omega
  omega⟩
theorem Lil.dec {xs:List Int} (h:Lil xs) {i:Nat} (h0:0 < xs.getD i 0):Lil (decAt xs i):=fun x hx=>by
  rcases List.mem_or_eq_of_mem_set hx with hx | rfl
  · exact h x hx
  · rw [List.getD_eq_getElem?_getD] at h0 ⊢
    cases ho:xs[i]? with
    | none=>rw [ho] at h0;simp at h0
    | some y=>rw [ho] at h0;have:=h y (List.mem_of_getElem? ho);simp at h0 ⊢;omega
end Go.Idl
namespace Go.Idl
open Go
structure Cel (w h k i j:Nat):Prop where
  w5:w≤5
  h5:h≤5
  lt:k < w * h
  iw:i < w
  jh:j < h
  q1:(k:Int).tdiv (h:Int)=(i:Int)
  q2:(k:Int).tmod (h:Int)=(j:Int)
theorem Cel.n {w h k i j:Nat} (c:Cel w h k i j):IntKind.i64.wrap ((w:Int) * (h:Int))=((w * h:Nat):Int):=by
  have h1:w * h≤5 * 5:=Nat.mul_le_mul c.w5 c.h5
  rw [show ((w:Int) * (h:Int))=((w * h:Nat):Int) by omega]
  exact wrap64 (by omega) (by omega)
section
variable (w h:Nat) (rows cols:List Int) (cr cc:Bool) (A F:Lab) (caps:List IV) (hrl:rows.length=w) (hcl:cols.length=h) (may:Nat→Nat→Bool)
  (k i j:Nat) (hC:Cel w h k i j) (l r:List Int) (hll:l.length=w) (hrr:r.length=h) (t:List (List Int)) (il:i < l.length) (jr:j < r.length)
include hrl hcl hC hll hrr in
end
end Go.Idl
namespace Go.Idl
open Go
theorem getD_get {xs:List Int} {i:Nat} (h:i < xs.length):xs.getD i 0=xs[i]:=by simp [List.getD_eq_getElem?_getD,List.getElem?_eq_getElem h]
def Zf (w h k:Nat) (t:List (List Int)):Prop:=∀ i j,i < w→j < h→k≤i * h+j→g2 t i j=0
theorem Zf.succ {w h k:Nat} {t:List (List Int)} (hz:Zf w h k t):Zf w h (k+1) t:=fun i j hi hj hk=>hz i j hi hj (by omega)
theorem g2_set2 (t:List (List Int)) (i j a b:Nat) (v:Int) (hne:¬ (a=i∧b=j)):g2 (set2 t i j v) a b=g2 t a b:=by
  simp only [g2,set2,List.getD_eq_getElem?_getD,List.getElem?_set]
  by_cases hai:i=a
  · subst hai
    by_cases hi:i < t.length
    · simp only [hi,if_true,Option.getD_some,List.getElem?_set,List.getElem?_eq_getElem hi]
      rw [if_neg (fun q=>hne ⟨rfl,q.symm⟩)]
    · simp [hi]
  · rw [if_neg hai]
theorem Zf.set2 {w h k:Nat} {t:List (List Int)} (hz:Zf w h k t):Zf w h (k+1) (set2 t (k / h) (k % h) 1):=fun i j hi hj hk=>by
  rw [g2_set2]
  · exact hz i j hi hj (by omega)
  · rintro ⟨rfl,rfl⟩
    have:=Nat.div_add_mod k h
    rw [Nat.mul_comm] at this
    omega
end Go.Idl
namespace Go.Idl
open Go
def zeroT (w h:Nat):List (List Int):=tabF w h fun _ _=>0
theorem zeroT_RT (w h:Nat):RT w h (zeroT w h):=by
  refine ⟨by simp [zeroT,tabF],fun r hr=>?_⟩
  simp only [zeroT,tabF,List.mem_map] at hr
  obtain ⟨i,_,rfl⟩:=hr
  simp [mapR]
end Go.Idl
namespace Go.Idl
def insC {α:Type} (lt:α→α→Bool) (x:α):List α→List α→List α
  | [],B=>x::B
  | a::r,B=>if lt x a then insC lt x r (a::B) else r.reverse++a::x::B
def srtC {α:Type} (lt:α→α→Bool):List α→List α→List α
  | S,[]=>S
  | S,x::r=>srtC lt (insC lt x S.reverse []) r
theorem insC_perm {α:Type} (lt:α→α→Bool) (x:α):∀ (r B:List α),(insC lt x r B).Perm (r.reverse++x::B)
  | [],B=>.refl _
  | a::r,B=>by
    unfold insC
    split
    · refine (insC_perm lt x r (a::B)).trans ?_
      rw [List.reverse_cons,List.append_assoc]
      exact List.Perm.append_left _ (.swap _ _ _)
    · rw [List.reverse_cons,List.append_assoc]
      exact .refl _
theorem insC_len {α:Type} (lt:α→α→Bool) (x:α) (S:List α):(insC lt x S.reverse []).length=S.length+1:=by
  have:=(insC_perm lt x S.reverse []).length_eq
  simpa using this
abbrev Srt {α:Type} (lt:α→α→Bool) (l:List α):Prop:=l.Pairwise fun a b=>lt b a=false
theorem insC_srt {α:Type} {lt:α→α→Bool} (ht:∀ a b c,lt b a=false→lt c b=false→lt c a=false) (ha:∀ a b,lt a b=true→lt b a=false) (x:α):∀ (r B:List α),Srt lt (r.reverse++B)→(∀ b ∈ B,lt x b=true)→Srt lt (insC lt x r B)
  | [],B,h,hb=>List.pairwise_cons.2 ⟨fun b hb'=>ha _ _ (hb b hb'),by simpa using h⟩
  | a::r,B,h,hb=>by
    rw [List.reverse_cons,List.append_assoc] at h
    unfold insC
    split
    · rename_i hx
      refine insC_srt ht ha x r (a::B) h fun b hb'=>?_
      rcases List.mem_cons.1 hb' with rfl | hb'
      · exact hx
      · exact hb b hb'
    · rename_i hx
      have hx:lt x a=false:=by simpa using hx
      obtain ⟨h1,h2,h3⟩:=List.pairwise_append.1 (show Srt lt (r.reverse++a::B) from h)
      have h2:=List.pairwise_cons.1 h2
      refine List.pairwise_append.2 ⟨h1,?_,fun p hp q hq=>?_⟩
      · refine List.pairwise_cons.2 ⟨fun q hq=>?_,List.pairwise_cons.2 ⟨fun b hb'=>ha _ _ (hb b hb'),h2.2⟩⟩
        rcases List.mem_cons.1 hq with rfl | hq
        · exact hx
        · exact h2.1 q hq
      · have h4:=h3 p hp a (by simp)
        rcases List.mem_cons.1 hq with rfl | hq
        · exact h4
        · rcases List.mem_cons.1 hq with rfl | hq
          · exact ht _ _ _ h4 hx
          · exact h3 p hp q (by simp [hq])
theorem srtC_ok {α:Type} {lt:α→α→Bool} (ht:∀ a b c,lt b a=false→lt c b=false→lt c a=false) (ha:∀ a b,lt a b=true→lt b a=false):∀ (r S:List α),Srt lt S→Srt lt (srtC lt S r)∧(srtC lt S r).Perm (S++r)
  | [],S,h=>⟨h,by simp [srtC]⟩
  | x::r,S,h=>by
    obtain ⟨h1,h2⟩:=srtC_ok ht ha r (insC lt x S.reverse []) (insC_srt ht ha x _ _ (by simpa using h) (by simp))
    refine ⟨h1,h2.trans ?_⟩
    have:=insC_perm lt x S.reverse []
    rw [List.reverse_reverse] at this
    refine (this.append_right r).trans ?_
    rw [List.append_assoc];exact .refl _
theorem srtC_perm {α:Type} (lt:α→α→Bool):∀ (r S:List α),(srtC lt S r).Perm (S++r)
  | [],S=>by simp [srtC]
  | x::r,S=>by
    refine (srtC_perm lt r _).trans ?_
    have:=insC_perm lt x S.reverse []
    rw [List.reverse_reverse] at this
    refine (this.append_right r).trans ?_
    rw [List.append_assoc];exact .refl _
end Go.Idl
namespace Go.Idl
open Go
abbrev vI (x:Int):IV:=I x
theorem appc_get1 {α:Type} {A Z:List α} {a x:α}:(A++a::x::Z)[A.length+1]? = some x:=by
  rw [List.getElem?_append_right (by omega)];simp
theorem appc_get0 {α:Type} {A Z:List α} {a:α}:(A++a::Z)[A.length]? = some a:=by
  rw [List.getElem?_append_right (by omega)];simp
theorem appc_set {α:Type} {A Z:List α} {a x:α}:((A++a::x::Z).set (A.length+1) a).set A.length x=A++x::a::Z:=by
  rw [List.set_append_right _ _ (by omega),List.set_append_right _ _ (by omega)]
  simp
def CmpOK {α:Type} (v:α→IV) (F:Lab) (caps:List IV) (lt:α→α→Bool) (D:α→Prop) (M:List Boxes):Prop :=
  ∀ x y,D x→D y→∃ k:Int,decide (k < 0)=lt x y∧Ev tb F [] (v x::v y::caps) (M++[[]]) ⟨I k,[],M++[[]],[]⟩
theorem icli (F:Lab) (caps:List IV) (lt:Int→Int→Bool) (D:Int→Prop) (M:List Boxes) (hc:CmpOK vI F caps lt D M) (P:List Int) (n i:Int) (x:Int) (rest:List Int):∀ (k:Nat) (A B:List Int),A.length=k→P.length+k+B.length+rest.length≤1000000→D x→(∀ a ∈ A,D a) →
    wp tb (.loop z278l6) { T:=[(0,O ((P++A)++x::(B++rest))),(1,I P.length),(2,I n),(3,.fn F caps),(8,I i),(9,I (P.length+k:Nat))],loc:=[],M:=M }
      (fun ex st=>ex=.exit 2∧∃ k':Int,st={ T:=[(0,O (P++(insC lt x A.reverse B++rest))),(1,I P.length),(2,I n),(3,.fn F caps),(8,I i),(9,I k'),(34,Bo false)],loc:=[],M:=M }):=by
  intro k
  induction k with
  | zero =>
    intro A B hA hl hx hD
    have:A=[]:=List.length_eq_zero_iff.1 hA
    subst this
    refine wp_loop ?_
    repeat (first|refine wp_as ?_|refine wp_ss ?_|refine wr (by simp;with_reducible rfl) ?_|refine wq (by simp;with_reducible rfl) ?_|refine wt (by simpa) ?_|refine wf (by simpa) ?_|refine xt (by simpa) ?_|refine xf (by simpa) ?_|refine wp_bs ?_|refine wp_b ?_|refine wp_sr ?_|refine wp_sx ?_|refine wp_ret' ?_|refine wp_skip' ?_|refine wp_exit' ?_)
    exact ⟨rfl,_,by simp [insC];rfl⟩
  | succ k ih =>
    intro A B hA hl hx hD
    obtain ⟨A',a,rfl⟩:∃ A' a,A=A'++[a]:=⟨A.dropLast,A.getLast (by intro h;subst h;simp at hA),(List.dropLast_concat_getLast _).symm⟩
    have hA':A'.length=k:=by simpa using hA
    subst hA'
    obtain ⟨c,hc1,hc2⟩:=hc x a hx (hD a (by simp))
    have e1:=ev_lim hc2
    have hPl:(P++A').length=P.length+A'.length:=by simp
    obtain ⟨Q,hQ⟩:∃ Q,Q=P++A':=⟨_,rfl⟩
    have hQl:P.length+A'.length=Q.length:=by rw [hQ];simp
    have hre:P++(A'++[a])++x::(B++rest)=Q++a::x::(B++rest):=by rw [hQ];simp
    rw [hre]
    have hk:((P.length+(A'.length+1):Nat):Int)=(Q.length:Int)+1:=by omega
    rw [hk]
    have w1:IntKind.i64.wrap (Q.length:Int)=(Q.length:Int):=wrap64 (by omega) (by omega)
    have w2:(P.length:Int) < (Q.length:Int)+1:=by omega
    by_cases hx0:c < 0
    · have hlt:lt x a=true:=by rw [← hc1];exact decide_eq_true hx0
      have:=ih A' (a::B) rfl (by simp;omega) hx (fun b hb=>hD b (by simp [hb]))
      rw [show P++A'++x::(a::B++rest)=Q++x::(a::(B++rest)) by rw [hQ];simp,hQl] at this
      refine wp_loop ?_
      repeat (first|refine wp_as ?_|refine wp_ss ?_|refine wr (by simp [e1,hx0,w1,w2,appc_get0,appc_get1,appc_set];with_reducible rfl) ?_|refine wq (by simp [e1,hx0,w1,w2,appc_get0,appc_get1,appc_set];with_reducible rfl) ?_|refine wt (by simpa [e1,hx0,w1,w2,appc_get0,appc_get1,appc_set]) ?_|refine wf (by simpa [e1,hx0,w1,w2,appc_get0,appc_get1,appc_set]) ?_|refine xt (by simpa [e1,hx0,w1,w2,appc_get0,appc_get1,appc_set]) ?_|refine xf (by simpa [e1,hx0,w1,w2,appc_get0,appc_get1,appc_set]) ?_|refine wp_bs ?_|refine wp_b ?_|refine wp_sr ?_|refine wp_sx ?_|refine wp_ret' ?_|refine wp_skip' ?_|refine wp_exit' ?_)
      simp only [List.reverse_append,List.reverse_cons,List.reverse_nil,List.nil_append,List.cons_append]
      simp only [insC,hlt,if_true]
      exact this
    · have hlt:lt x a=false:=by rw [← hc1];exact decide_eq_false hx0
      refine wp_loop ?_
      repeat (first|refine wp_as ?_|refine wp_ss ?_|refine wr (by simp [e1,hx0,w1,w2,appc_get0,appc_get1,appc_set];with_reducible rfl) ?_|refine wq (by simp [e1,hx0,w1,w2,appc_get0,appc_get1,appc_set];with_reducible rfl) ?_|refine wt (by simpa [e1,hx0,w1,w2,appc_get0,appc_get1,appc_set]) ?_|refine wf (by simpa [e1,hx0,w1,w2,appc_get0,appc_get1,appc_set]) ?_|refine xt (by simpa [e1,hx0,w1,w2,appc_get0,appc_get1,appc_set]) ?_|refine xf (by simpa [e1,hx0,w1,w2,appc_get0,appc_get1,appc_set]) ?_|refine wp_bs ?_|refine wp_b ?_|refine wp_sr ?_|refine wp_sx ?_|refine wp_ret' ?_|refine wp_skip' ?_|refine wp_exit' ?_)
      refine ⟨rfl,(Q.length:Int)+1,?_⟩
      simp only [List.reverse_append,List.reverse_cons,List.reverse_nil,List.nil_append,List.cons_append]
      simp only [insC,hlt,Bool.false_eq_true,if_false,List.reverse_reverse]
      rw [hQ]
      simp
theorem isoi (F:Lab) (caps:List IV) (lt:Int→Int→Bool) (D:Int→Prop) (M:List Boxes) (hc:CmpOK vI F caps lt D M) (P Q:List Int) (n:Int):∀ (r S:List Int),n=(P.length+S.length+r.length:Nat)→P.length+S.length+r.length+Q.length≤900000→(∀ x ∈ S,D x)→(∀ x ∈ r,D x) →
    wp tb (.loop z278l8) { T:=[(0,O (P++(S++(r++Q)))),(1,I P.length),(2,I n),(3,.fn F caps),(8,I (P.length+S.length:Nat))],loc:=[],M:=M }
      (fun ex st=>ex=.exit 0∧∃ k':Int,st={ T:=[(0,O (P++(srtC lt S r++Q))),(1,I P.length),(2,I n),(3,.fn F caps),(8,I k'),(14,Bo false)],loc:=[],M:=M }):=by
  intro r
  induction r with
  | nil =>
    intro S hn hl hS hr
    have h1:¬ ((P.length:Int)+(S.length:Int)) < n:=by simp at hn;omega
    refine wp_loop ?_
    repeat (first|refine wp_as ?_|refine wp_ss ?_|refine wr (by simp [h1];with_reducible rfl) ?_|refine wq (by simp [h1];with_reducible rfl) ?_|refine wt (by simpa [h1]) ?_|refine wf (by simpa [h1]) ?_|refine xt (by simpa [h1]) ?_|refine xf (by simpa [h1]) ?_|refine wp_bs ?_|refine wp_b ?_|refine wp_sr ?_|refine wp_sx ?_|refine wp_ret' ?_|refine wp_skip' ?_|refine wp_exit' ?_)
    exact ⟨rfl,_,by simp [srtC];rfl⟩
  | cons x r ih =>
    intro S hn hl hS hr
    simp only [List.length_cons] at hn hl
    have h1:(P.length:Int)+(S.length:Int) < n:=by omega
    have w1:IntKind.i64.wrap ((P.length:Int)+(S.length:Int)+1)=(P.length:Int)+(S.length:Int)+1:=by rw [wrap64 (by omega) (by omega)]
    have hin:=icli F caps lt D M hc P n ((P.length:Int)+S.length) x (r++Q) S.length S [] rfl (by simp;omega) (hr x (by simp)) hS
    rw [show P++S++x::([]++(r++Q))=P++(S++(x::r++Q)) by simp,show ((P.length+S.length:Nat):Int)=(P.length:Int)+S.length by omega] at hin
    have hn2:=ih (insC lt x S.reverse []) (by rw [insC_len];omega) (by rw [insC_len];omega) (fun y hy=>by
      have:=(insC_perm lt x S.reverse []).mem_iff.1 hy
      simp only [List.reverse_reverse,List.mem_append,List.mem_cons,List.not_mem_nil,or_false] at this
      rcases this with h | rfl
      · exact hS y h
      · exact hr y (by simp)) (fun y hy=>hr y (by simp [hy]))
    rw [insC_len,show ((P.length+(S.length+1):Nat):Int)=(P.length:Int)+S.length+1 by omega] at hn2
    rw [show ((P.length+S.length:Nat):Int)=(P.length:Int)+S.length by omega]
    refine wp_loop ?_
    repeat (first|refine wp_as ?_|refine wp_ss ?_|refine wr (by simp [h1,w1];with_reducible rfl) ?_|refine wq (by simp [h1,w1];with_reducible rfl) ?_|refine wt (by simpa [h1,w1]) ?_|refine wf (by simpa [h1,w1]) ?_|refine xt (by simpa [h1,w1]) ?_|refine xf (by simpa [h1,w1]) ?_|refine wp_bs ?_|refine wp_b ?_|refine wp_sr ?_|refine wp_sx ?_|refine wp_ret' ?_|refine wp_skip' ?_|refine wp_exit' ?_)
    refine wp_imp hin ?_
    rintro ex st ⟨rfl,k',rfl⟩
    simp only [if_true]
    repeat (first|refine wp_as ?_|refine wp_ss ?_|refine wr (by simp [h1,w1];with_reducible rfl) ?_|refine wq (by simp [h1,w1];with_reducible rfl) ?_|refine wt (by simpa [h1,w1]) ?_|refine wf (by simpa [h1,w1]) ?_|refine xt (by simpa [h1,w1]) ?_|refine xf (by simpa [h1,w1]) ?_|refine wp_bs ?_|refine wp_b ?_|refine wp_sr ?_|refine wp_sx ?_|refine wp_ret' ?_|refine wp_skip' ?_|refine wp_exit' ?_)
    exact hn2
theorem ev_insCi (F:Lab) (caps:List IV) (lt:Int→Int→Bool) (D:Int→Prop) (M:List Boxes) (hc:CmpOK vI F caps lt D M) (P Q seg:List Int) (hl:P.length+seg.length+Q.length≤800000) (hD:∀ x ∈ seg,D x) :
    Ev tb zl278 [0] [O (P++(seg++Q)),I P.length,I (P.length+seg.length:Nat),.fn F caps] M ⟨.tup [],[O (P++(srtC lt [] seg++Q))],M,[]⟩:=by
  have w1:IntKind.i64.wrap ((P.length:Int)+1)=(P.length:Int)+1:=by rw [wrap64 (by omega) (by omega)]
  cases seg with
  | nil =>
    have h1:¬ (P.length:Int)+1 < ((P.length+([]:List Int).length:Nat):Int):=by simp;omega
    simp only [List.length_nil,Nat.add_zero] at h1 ⊢
    refine call_of_wp zt278 rfl ?_
    repeat (first|refine wp_as ?_|refine wp_ss ?_|refine wr (by simp [w1];with_reducible rfl) ?_|refine wq (by simp [w1];with_reducible rfl) ?_|refine wt (by simpa [w1]) ?_|refine wf (by simpa [w1]) ?_|refine xt (by simpa [w1]) ?_|refine xf (by simpa [w1]) ?_|refine wp_bs ?_|refine wp_b ?_|refine wp_sr ?_|refine wp_sx ?_|refine wp_ret' ?_|refine wp_skip' ?_|refine wp_exit' ?_)
    refine wp_loop ?_
    repeat (first|refine wp_as ?_|refine wp_ss ?_|refine wr (by simp [h1];with_reducible rfl) ?_|refine wq (by simp [h1];with_reducible rfl) ?_|refine wt (by simpa [h1]) ?_|refine wf (by simpa [h1]) ?_|refine xt (by simpa [h1]) ?_|refine xf (by simpa [h1]) ?_|refine wp_bs ?_|refine wp_b ?_|refine wp_sr ?_|refine wp_sx ?_|refine wp_ret' ?_|refine wp_skip' ?_|refine wp_exit' ?_)
    simp [zi278,srtC]
  | cons x r =>
    have:=isoi F caps lt D M hc P Q (P.length+(x::r).length:Nat) r [x] (by simp;omega) (by simp at hl ⊢;omega) (fun y hy=>by simp at hy;subst hy;exact hD _ (by simp)) (fun y hy=>hD y (by simp [hy]))
    rw [show P++([x]++(r++Q))=P++(x::r++Q) by simp,show ((P.length+[x].length:Nat):Int)=(P.length:Int)+1 by simp] at this
    have hs:srtC lt [x] r=srtC lt [] (x::r):=by simp [srtC,insC]
    rw [hs] at this
    generalize ((P.length+(x::r).length:Nat):Int)=n at *
    refine call_of_wp zt278 rfl ?_
    repeat (first|refine wp_as ?_|refine wp_ss ?_|refine wr (by simp [w1];with_reducible rfl) ?_|refine wq (by simp [w1];with_reducible rfl) ?_|refine wt (by simpa [w1]) ?_|refine wf (by simpa [w1]) ?_|refine xt (by simpa [w1]) ?_|refine xf (by simpa [w1]) ?_|refine wp_bs ?_|refine wp_b ?_|refine wp_sr ?_|refine wp_sx ?_|refine wp_ret' ?_|refine wp_skip' ?_|refine wp_exit' ?_)
    refine wp_imp this ?_
    rintro ex st ⟨rfl,k',rfl⟩
    simp [zi278]
end Go.Idl
namespace Go.Idl
open Go
theorem ev_stable (F:Lab) (caps:List IV) (lt:Int→Int→Bool) (D:Int→Prop) (M:List Boxes) (hc:CmpOK vI F caps lt D (M++[[]])) (xs:List Int) (hl:xs.length≤19) (hD:∀ x ∈ xs,D x) :
    Ev tb zl289 [0] [O xs,I xs.length,.fn F caps] M ⟨.tup [],[O (srtC lt [] xs)],M,[]⟩:=by
  have e1:=ev_lim (ev_insCi F caps lt D (M++[[]]) hc [] [] xs (by simp;omega) hD)
  simp only [List.nil_append,List.append_nil,List.length_nil,Nat.zero_add] at e1
  rw [show ((0:Nat):Int)=0 from rfl] at e1
  have h1:¬ (20:Int)≤xs.length:=by omega
  have h2:¬ (20:Int) < xs.length:=by omega
  have h3:¬ 20≤xs.length:=by omega
  have h4:¬ 20 < xs.length:=by omega
  refine call_of_wp zt289 rfl ?_
  repeat (first|refine wp_as ?_|refine wp_ss ?_|refine wr (by simp;with_reducible rfl) ?_|refine wq (by simp;with_reducible rfl) ?_|refine wt (by simpa) ?_|refine wf (by simpa) ?_|refine xt (by simpa) ?_|refine xf (by simpa) ?_|refine wp_bs ?_|refine wp_b ?_|refine wp_sr ?_|refine wp_sx ?_|refine wp_ret' ?_|refine wp_skip' ?_|refine wp_exit' ?_)
  refine wp_loop ?_
  repeat (first|refine wp_as ?_|refine wp_ss ?_|refine wr (by simp [h1,h2,h3,h4,e1];with_reducible rfl) ?_|refine wq (by simp [h1,h2,h3,h4,e1];with_reducible rfl) ?_|refine wt (by simpa [h1,h2,h3,h4,e1]) ?_|refine wf (by simpa [h1,h2,h3,h4,e1]) ?_|refine xt (by simpa [h1,h2,h3,h4,e1]) ?_|refine xf (by simpa [h1,h2,h3,h4,e1]) ?_|refine wp_bs ?_|refine wp_b ?_|refine wp_sr ?_|refine wp_sx ?_|refine wp_ret' ?_|refine wp_skip' ?_|refine wp_exit' ?_)
  refine wp_loop ?_
  repeat (first|refine wp_as ?_|refine wp_ss ?_|refine wr (by simp [h1,h2,h3,h4,e1];with_reducible rfl) ?_|refine wq (by simp [h1,h2,h3,h4,e1];with_reducible rfl) ?_|refine wt (by simpa [h1,h2,h3,h4,e1]) ?_|refine wf (by simpa [h1,h2,h3,h4,e1]) ?_|refine xt (by simpa [h1,h2,h3,h4,e1]) ?_|refine xf (by simpa [h1,h2,h3,h4,e1]) ?_|refine wp_bs ?_|refine wp_b ?_|refine wp_sr ?_|refine wp_sx ?_|refine wp_ret' ?_|refine wp_skip' ?_|refine wp_exit' ?_)
  simp [zi289]
theorem ev_SortStable (F:Lab) (caps:List IV) (lt:Int→Int→Bool) (D:Int→Prop) (M:List Boxes) (hc:CmpOK vI F caps lt D (M++[[],[]])) (xs:List Int) (hl:xs.length≤19) (hD:∀ x ∈ xs,D x) :
    Ev tb zl273 [0] [O xs,.fn F caps] M ⟨.tup [],[O (srtC lt [] xs)],M,[]⟩:=by
  have e1:=ev_lim (ev_stable F caps lt D (M++[[]]) (by rw [List.append_assoc];exact hc) xs hl hD)
  refine call_of_wp zt273 rfl ?_
  repeat (first|refine wp_as ?_|refine wp_ss ?_|refine wr (by simp [e1];with_reducible rfl) ?_|refine wq (by simp [e1];with_reducible rfl) ?_|refine wt (by simpa [e1]) ?_|refine wf (by simpa [e1]) ?_|refine xt (by simpa [e1]) ?_|refine xf (by simpa [e1]) ?_|refine wp_bs ?_|refine wp_b ?_|refine wp_sr ?_|refine wp_sx ?_|refine wp_ret' ?_|refine wp_skip' ?_|refine wp_exit' ?_)
  simp [zi273]
def idxB (n:Nat) (but:Int):List Int:=((List.range n).map fun v:Nat=>(v:Int)).filter fun v=>decide (v ≠ but)
def nlI:List Int→IV
  | []=>Z
  | x::r=>O (x::r)
theorem ev_indices (n:Nat) (but:Int) (hn:n≤1000):Ev tb zl212 [] [I n,I but] [] ⟨nlI (idxB n but),[],[],[]⟩:=by
  have loop:∀ (m i:Nat),i+m=n→wp tb (.loop z212l8) { T:=[(1,I but),(5,nlI (idxB i but)),(7,I n),(8,I i)],loc:=[],M:=[] }
      (fun ex st=>ex=.exit 0∧st={ T:=[(1,I but),(5,nlI (idxB n but)),(7,I n),(8,I n),(9,Bo false)],loc:=[],M:=[] }):=by
    intro m
    induction m with
    | zero =>
      intro i hi
      have h3:i=n:=hi
      subst h3
      cases idxB i but with
      | nil =>
        simp only [nlI]
        refine wp_loop ?_
        repeat (first|refine wp_as ?_|refine wp_ss ?_|refine wr (by simp;with_reducible rfl) ?_|refine wq (by simp;with_reducible rfl) ?_|refine wt (by simpa) ?_|refine wf (by simpa) ?_|refine xt (by simpa) ?_|refine xf (by simpa) ?_|refine wp_bs ?_|refine wp_b ?_|refine wp_sr ?_|refine wp_sx ?_|refine wp_ret' ?_|refine wp_skip' ?_|refine wp_exit' ?_)
        exact ⟨rfl,rfl⟩
      | cons x r =>
        simp only [nlI]
        refine wp_loop ?_
        repeat (first|refine wp_as ?_|refine wp_ss ?_|refine wr (by simp;with_reducible rfl) ?_|refine wq (by simp;with_reducible rfl) ?_|refine wt (by simpa) ?_|refine wf (by simpa) ?_|refine xt (by simpa) ?_|refine xf (by simpa) ?_|refine wp_bs ?_|refine wp_b ?_|refine wp_sr ?_|refine wp_sx ?_|refine wp_ret' ?_|refine wp_skip' ?_|refine wp_exit' ?_)
        exact ⟨rfl,rfl⟩
    | succ m ih =>
      intro i hi
      have hi2:i < n:=by omega
      have w2:IntKind.i64.wrap ((i:Int)+1)=((i+1:Nat):Int):=wrapS (by omega)
      have hn2:=ih (i+1) (by omega)
      have hs:idxB (i+1) but=idxB i but++if (i:Int)=but then [] else [(i:Int)]:=by
        simp only [idxB,List.range_succ,List.map_append,List.map_cons,List.map_nil,List.filter_append,List.filter_cons,List.filter_nil]
        congr 1
        by_cases h:(i:Int)=but <;> simp [h]
      rw [hs] at hn2
      have hal:(idxB i but).length≤i:=Nat.le_trans (List.length_filter_le _ _) (by simp)
      generalize idxB i but=A at *
      by_cases hb:but=(i:Int)
      · subst hb
        rw [if_pos rfl,List.append_nil] at hn2
        cases A with
        | nil =>
          rw [show nlI []=Z from rfl] at hn2 ⊢
          refine wp_loop ?_
          repeat (first|refine wp_as ?_|refine wp_ss ?_|refine wr (by simp [hi2,w2];with_reducible rfl) ?_|refine wq (by simp [hi2,w2];with_reducible rfl) ?_|refine wt (by simpa [hi2,w2]) ?_|refine wf (by simpa [hi2,w2]) ?_|refine xt (by simpa [hi2,w2]) ?_|refine xf (by simpa [hi2,w2]) ?_|refine wp_bs ?_|refine wp_b ?_|refine wp_sr ?_|refine wp_sx ?_|refine wp_ret' ?_|refine wp_skip' ?_|refine wp_exit' ?_)
          exact hn2
        | cons x r =>
          rw [show nlI (x::r)=O (x::r) from rfl] at hn2 ⊢
          refine wp_loop ?_
          repeat (first|refine wp_as ?_|refine wp_ss ?_|refine wr (by simp [hi2,w2];with_reducible rfl) ?_|refine wq (by simp [hi2,w2];with_reducible rfl) ?_|refine wt (by simpa [hi2,w2]) ?_|refine wf (by simpa [hi2,w2]) ?_|refine xt (by simpa [hi2,w2]) ?_|refine xf (by simpa [hi2,w2]) ?_|refine wp_bs ?_|refine wp_b ?_|refine wp_sr ?_|refine wp_sx ?_|refine wp_ret' ?_|refine wp_skip' ?_|refine wp_exit' ?_)
          exact hn2
      · have hb':¬ (i:Int)=but:=fun h=>hb h.symm
        rw [if_neg hb'] at hn2
        cases A with
        | nil =>
          rw [List.nil_append,show nlI [(i:Int)]=O [(i:Int)] from rfl] at hn2
          rw [show nlI []=Z from rfl]
          refine wp_loop ?_
          repeat (first|refine wp_as ?_|refine wp_ss ?_|refine wr (by simp [hi2,w2,hb'];with_reducible rfl) ?_|refine wq (by simp [hi2,w2,hb'];with_reducible rfl) ?_|refine wt (by simpa [hi2,w2,hb']) ?_|refine wf (by simpa [hi2,w2,hb']) ?_|refine xt (by simpa [hi2,w2,hb']) ?_|refine xf (by simpa [hi2,w2,hb']) ?_|refine wp_bs ?_|refine wp_b ?_|refine wp_sr ?_|refine wp_sx ?_|refine wp_ret' ?_|refine wp_skip' ?_|refine wp_exit' ?_)
          exact hn2
        | cons x r =>
          rw [show nlI (x::r++[(i:Int)])=O (x::r++[(i:Int)]) from rfl] at hn2
          rw [show nlI (x::r)=O (x::r) from rfl]
          have hal1:r.length+1+1≤274877906944:=by simp at hal;omega
          have hat:(x::r).take (r.length+1)=x::r:=List.take_of_length_le (by simp)
          refine wp_loop ?_
          repeat (first|refine wp_as ?_|refine wp_ss ?_|refine wr (by simp [hi2,w2,hb',hal1,hat];with_reducible rfl) ?_|refine wq (by simp [hi2,w2,hb',hal1,hat];with_reducible rfl) ?_|refine wt (by simpa [hi2,w2,hb',hal1,hat]) ?_|refine wf (by simpa [hi2,w2,hb',hal1,hat]) ?_|refine xt (by simpa [hi2,w2,hb',hal1,hat]) ?_|refine xf (by simpa [hi2,w2,hb',hal1,hat]) ?_|refine wp_bs ?_|refine wp_b ?_|refine wp_sr ?_|refine wp_sx ?_|refine wp_ret' ?_|refine wp_skip' ?_|refine wp_exit' ?_)
          exact hn2
  refine call_of_wp zt212 rfl ?_
  repeat (first|refine wp_as ?_|refine wp_ss ?_|refine wr (by simp;with_reducible rfl) ?_|refine wq (by simp;with_reducible rfl) ?_|refine wt (by simpa) ?_|refine wf (by simpa) ?_|refine xt (by simpa) ?_|refine xf (by simpa) ?_|refine wp_bs ?_|refine wp_b ?_|refine wp_sr ?_|refine wp_sx ?_|refine wp_ret' ?_|refine wp_skip' ?_|refine wp_exit' ?_)
  refine wp_imp (loop n 0 (by simp)) ?_
  rintro ex st ⟨rfl,rfl⟩
  try simp only [if_true]
  cases idxB n but with
  | nil =>
    simp only [nlI]
    repeat (first|refine wp_as ?_|refine wp_ss ?_|refine wr (by simp;with_reducible rfl) ?_|refine wq (by simp;with_reducible rfl) ?_|refine wt (by simpa) ?_|refine wf (by simpa) ?_|refine xt (by simpa) ?_|refine xf (by simpa) ?_|refine wp_bs ?_|refine wp_b ?_|refine wp_sr ?_|refine wp_sx ?_|refine wp_ret' ?_|refine wp_skip' ?_|refine wp_exit' ?_)
    simp [zi212]
  | cons x r =>
    simp only [nlI]
    repeat (first|refine wp_as ?_|refine wp_ss ?_|refine wr (by simp;with_reducible rfl) ?_|refine wq (by simp;with_reducible rfl) ?_|refine wt (by simpa) ?_|refine wf (by simpa) ?_|refine xt (by simpa) ?_|refine xf (by simpa) ?_|refine wp_bs ?_|refine wp_b ?_|refine wp_sr ?_|refine wp_sx ?_|refine wp_ret' ?_|refine wp_skip' ?_|refine wp_exit' ?_)
    simp [zi212]
end Go.Idl
namespace Go.Idl
open Go
theorem ev_CloneI_Z:Ev tb zl71 [] [Z] [] ⟨O [],[],[],[]⟩:=by
  refine call_of_wp zt71 rfl ?_
  refine wp_rs (by simp;rfl) (by simp;rfl) ?_
  refine wp_nil2 (b:=([]:List Int).isEmpty) (by simp [z71r1];rfl) (by simp) ?_ ?_ ?_ (ex:=.ret) (st':={ T:=[(2,.own 1 (ints []))],loc:=[],M:=[] })
  · refine wp_ct (t:=false) (by simp) (by simp) fun _=>wp_ss ?_
    refine wp_rs (by simp;rfl) (by simp;rfl) ?_
    refine wp_ret' ?_
    simp
  · intro he
    refine wp_ct (t:=true) (by simp) (fun _=>wp_as ?_) (by simp)
    refine wp_rs (by simp;rfl) (by simp;rfl) ?_
    refine wp_sr ?_
    simp
  · simp [zi71]
theorem ev_clone_Z:Ev tb zl31 [] [Z] [] ⟨O [],[],[],[]⟩:=by
  have e1:=ev_lim ev_CloneI_Z
  have e2:=ev_lim (ev_Clip [])
  simp only [O,ints_nil] at e1 e2 ⊢
  refine call_of_wp zt31 rfl ?_
  repeat (first|refine wp_as ?_|refine wp_ss ?_|refine wr (by simp [e1,e2];with_reducible rfl) ?_|refine wq (by simp [e1,e2];with_reducible rfl) ?_|refine wt (by simpa [e1,e2]) ?_|refine wf (by simpa [e1,e2]) ?_|refine xt (by simpa [e1,e2]) ?_|refine xf (by simpa [e1,e2]) ?_|refine wp_bs ?_|refine wp_b ?_|refine wp_sr ?_|refine wp_sx ?_|refine wp_ret' ?_|refine wp_skip' ?_|refine wp_exit' ?_)
  simp [zi31]
def gtD (d:List Int) (a b:Int):Bool:=decide (d.getD b.toNat 0 < d.getD a.toNat 0)
def topD (d:List Int) (from_:List Int) (k:Nat):List Int:=(srtC (gtD d) [] from_).take k
theorem ev_greatest_F1 (d:List Int) (c:Bool) (hd:∀ x ∈ d,-1000≤x∧x≤1000) (a b:Nat) (ha:a < d.length) (hb:b < d.length) (Es:List Boxes) :
    Ev tb zl211 [] [I a,I b,.bptr 0 0 0] ([[L d c]]::Es) ⟨I (d[b] - d[a]),[],[[L d c]]::Es,[]⟩:=by
  have h1:=hd _ (List.getElem_mem ha)
  have h2:=hd _ (List.getElem_mem hb)
  have w1:IntKind.i64.wrap (d[b] - d[a])=d[b] - d[a]:=wrap64 (by omega) (by omega)
  refine call_of_wp zt211 rfl ?_
  repeat (first|refine wp_as ?_|refine wp_ss ?_|refine wr (by simp [ha,hb,w1];with_reducible rfl) ?_|refine wq (by simp [ha,hb,w1];with_reducible rfl) ?_|refine wt (by simpa [ha,hb,w1]) ?_|refine wf (by simpa [ha,hb,w1]) ?_|refine xt (by simpa [ha,hb,w1]) ?_|refine xf (by simpa [ha,hb,w1]) ?_|refine wp_bs ?_|refine wp_b ?_|refine wp_sr ?_|refine wp_sx ?_|refine wp_ret' ?_|refine wp_skip' ?_|refine wp_exit' ?_)
  simp [zi211]
theorem cmp_greatest (d:List Int) (c:Bool) (hd:∀ x ∈ d,-1000≤x∧x≤1000):CmpOK vI zl211 [.bptr 0 0 0] (gtD d) (fun x=>0≤x∧x < d.length) [[[L d c]],[],[]]:=by
  intro x y hx hy
  obtain ⟨a,rfl⟩:=Int.eq_ofNat_of_zero_le hx.1
  obtain ⟨b,rfl⟩:=Int.eq_ofNat_of_zero_le hy.1
  have ha:a < d.length:=by omega
  have hb:b < d.length:=by omega
  refine ⟨d[b] - d[a],?_,ev_greatest_F1 d c hd a b ha hb [[],[],[]]⟩
  simp only [gtD,Int.toNat_natCast,List.getD_eq_getElem?_getD,List.getElem?_eq_getElem ha,List.getElem?_eq_getElem hb,Option.getD_some]
  rw [decide_eq_decide];omega
theorem topD_len (d from_:List Int) (k:Nat):(srtC (gtD d) [] from_).length=from_.length:=by
  simpa using (srtC_perm (gtD d) from_ []).length_eq
theorem ev_greatest (d:List Int) (c:Bool) (hd:∀ x ∈ d,-1000≤x∧x≤1000) (x:IV) (from_:List Int) (hx:(∃ c',x=L from_ c') ∨ (from_=[]∧x=Z)) (hf:from_.length≤19) (hD:∀ v ∈ from_,0≤v∧v < d.length) (k:Nat) (hk:k≤from_.length) :
    Ev tb zl210 [] [L d c,x,I k] [] ⟨O (topD d from_ k),[],[],[]⟩:=by
  have e1:limF tb zl31 [] [x] []=some ⟨O from_,[],[],[]⟩:=by
    rcases hx with ⟨c',rfl⟩ | ⟨rfl,rfl⟩
    · exact ev_lim (ev_clone from_ c' (by omega))
    · exact ev_lim ev_clone_Z
  have e2:=ev_lim (ev_SortStable zl211 [.bptr 0 0 0] (gtD d) (fun x=>0≤x∧x < d.length) [[[L d c]]] (cmp_greatest d c hd) from_ hf hD)
  have hl:=topD_len d from_ k
  unfold topD
  generalize srtC (gtD d) [] from_=s at *
  have hks:k≤s.length:=by omega
  rcases hx with ⟨c',rfl⟩ | ⟨rfl,rfl⟩
  · refine call_of_wp zt210 rfl ?_
    repeat (first|refine wp_as ?_|refine wp_ss ?_|refine wr (by simp [e1,e2,hks];with_reducible rfl) ?_|refine wq (by simp [e1,e2,hks];with_reducible rfl) ?_|refine wt (by simpa [e1,e2,hks]) ?_|refine wf (by simpa [e1,e2,hks]) ?_|refine xt (by simpa [e1,e2,hks]) ?_|refine xf (by simpa [e1,e2,hks]) ?_|refine wp_bs ?_|refine wp_b ?_|refine wp_sr ?_|refine wp_sx ?_|refine wp_ret' ?_|refine wp_skip' ?_|refine wp_exit' ?_)
    simp [zi210]
  · have hs:s=[]:=List.length_eq_zero_iff.1 (by simpa using hl)
    subst hs
    have hk0:k=0:=by simpa using hk
    subst hk0
    simp only [O,ints_nil] at e1 e2
    refine call_of_wp zt210 rfl ?_
    repeat (first|refine wp_as ?_|refine wp_ss ?_|refine wr (by simp [e1,e2];with_reducible rfl) ?_|refine wq (by simp [e1,e2];with_reducible rfl) ?_|refine wt (by simpa [e1,e2]) ?_|refine wf (by simpa [e1,e2]) ?_|refine xt (by simpa [e1,e2]) ?_|refine xf (by simpa [e1,e2]) ?_|refine wp_bs ?_|refine wp_b ?_|refine wp_sr ?_|refine wp_sx ?_|refine wp_ret' ?_|refine wp_skip' ?_|refine wp_exit' ?_)
    simp [zi210]
end Go.Idl
namespace Go.Idl
open Go
def sideOk (n:Int):Bool:=decide (1≤n) && decide (n≤5)
def inAll (r:List Int) (n:Int):Bool:=r.all fun x=>decide (0≤x) && decide (x≤n)
def vMar (r c:List Int):Bool:=sideOk r.length && (sideOk c.length && (inAll r c.length && inAll c r.length))
theorem ev_ValidMargins (r c:List Int) (k l:Bool) (hr:r.length≤1000000) (hc:c.length≤1000000) :
    Ev tb zl200 [] [L r k,L c l] [] ⟨Bo (vMar r c),[],[],[]⟩:=by
  have e1:=ev_lim (ev_in (r.length:Int) 1 5)
  have e2:=ev_lim (ev_in (c.length:Int) 1 5)
  have e3:=ev_lim (ev_allIn r k 0 (c.length:Int) hr)
  have e4:=ev_lim (ev_allIn c l 0 (r.length:Int) hc)
  unfold vMar inAll sideOk
  generalize (decide (1≤(r.length:Int)) && decide ((r.length:Int)≤5))=b1 at *
  generalize (decide (1≤(c.length:Int)) && decide ((c.length:Int)≤5))=b2 at *
  generalize (r.all fun x=>decide (0≤x) && decide (x≤(c.length:Int)))=b3 at *
  generalize (c.all fun x=>decide (0≤x) && decide (x≤(r.length:Int)))=b4 at *
  cases b1 with
  | false =>
    refine call_of_wp zt200 rfl ?_
    repeat (first|refine wp_as ?_|refine wp_ss ?_|refine wr (by simp [e1];with_reducible rfl) ?_|refine wq (by simp [e1];with_reducible rfl) ?_|refine wt (by simpa [e1]) ?_|refine wf (by simpa [e1]) ?_|refine xt (by simpa [e1]) ?_|refine xf (by simpa [e1]) ?_|refine wp_bs ?_|refine wp_b ?_|refine wp_sr ?_|refine wp_sx ?_|refine wp_ret' ?_|refine wp_skip' ?_|refine wp_exit' ?_)
    simp [zi200]
  | true =>
  cases b2 with
  | false =>
    refine call_of_wp zt200 rfl ?_
    repeat (first|refine wp_as ?_|refine wp_ss ?_|refine wr (by simp [e1,e2];with_reducible rfl) ?_|refine wq (by simp [e1,e2];with_reducible rfl) ?_|refine wt (by simpa [e1,e2]) ?_|refine wf (by simpa [e1,e2]) ?_|refine xt (by simpa [e1,e2]) ?_|refine xf (by simpa [e1,e2]) ?_|refine wp_bs ?_|refine wp_b ?_|refine wp_sr ?_|refine wp_sx ?_|refine wp_ret' ?_|refine wp_skip' ?_|refine wp_exit' ?_)
    simp [zi200]
  | true =>
  cases b3 with
  | false =>
    refine call_of_wp zt200 rfl ?_
    repeat (first|refine wp_as ?_|refine wp_ss ?_|refine wr (by simp [e1,e2,e3];with_reducible rfl) ?_|refine wq (by simp [e1,e2,e3];with_reducible rfl) ?_|refine wt (by simpa [e1,e2,e3]) ?_|refine wf (by simpa [e1,e2,e3]) ?_|refine xt (by simpa [e1,e2,e3]) ?_|refine xf (by simpa [e1,e2,e3]) ?_|refine wp_bs ?_|refine wp_b ?_|refine wp_sr ?_|refine wp_sx ?_|refine wp_ret' ?_|refine wp_skip' ?_|refine wp_exit' ?_)
    simp [zi200]
  | true =>
    refine call_of_wp zt200 rfl ?_
    repeat (first|refine wp_as ?_|refine wp_ss ?_|refine wr (by simp [e1,e2,e3,e4];with_reducible rfl) ?_|refine wq (by simp [e1,e2,e3,e4];with_reducible rfl) ?_|refine wt (by simpa [e1,e2,e3,e4]) ?_|refine wf (by simpa [e1,e2,e3,e4]) ?_|refine xt (by simpa [e1,e2,e3,e4]) ?_|refine xf (by simpa [e1,e2,e3,e4]) ?_|refine wp_bs ?_|refine wp_b ?_|refine wp_sr ?_|refine wp_sx ?_|refine wp_ret' ?_|refine wp_skip' ?_|refine wp_exit' ?_)
    simp [zi200]
theorem vm_r (r c:List Int) (k l:Bool) (hr:r.length≤1000000):∀ (m i:Nat),i+m=r.length →
    wp tb (.loop z387l6) { T:=[(0,L r k),(1,L c l),(5,I i)],loc:=[],M:=[] }
      (fun ex st=>(ex=.exit 0∧inAll (r.drop i) c.length=true∧st={ T:=[(0,L r k),(1,L c l),(5,I r.length),(10,Bo false)],loc:=[],M:=[] }) ∨
        ex=.ret∧inAll (r.drop i) c.length=false∧st={ T:=[(4,Bo false)],loc:=[],M:=[] }):=by
  intro m
  induction m with
  | zero =>
    intro i hi
    obtain ⟨h1,h2⟩:=drop_end hi
    have h3:i=r.length:=hi
    subst h3
    refine wp_loop ?_
    repeat (first|refine wp_as ?_|refine wp_ss ?_|refine wr (by simp;with_reducible rfl) ?_|refine wq (by simp;with_reducible rfl) ?_|refine wt (by simpa) ?_|refine wf (by simpa) ?_|refine xt (by simpa) ?_|refine xf (by simpa) ?_|refine wp_bs ?_|refine wp_b ?_|refine wp_sr ?_|refine wp_sx ?_|refine wp_ret' ?_|refine wp_skip' ?_|refine wp_exit' ?_)
    exact .inl ⟨rfl,by rw [h2];rfl,rfl⟩
  | succ m ih =>
    intro i hi
    obtain ⟨hi2,h2,h3⟩:=drop_get hi
    have w2:IntKind.i64.wrap ((i:Int)+1)=((i+1:Nat):Int):=wrapS (by omega)
    have e1:=ev_lim (ev_inRange r[i] 0 (c.length:Int))
    rw [h2]
    cases hp:(decide (0≤r[i]) && decide (r[i]≤(c.length:Int))) with
    | false =>
      rw [hp] at e1
      refine wp_loop ?_
      repeat (first|refine wp_as ?_|refine wp_ss ?_|refine wr (by simp [hi2,e1];with_reducible rfl) ?_|refine wq (by simp [hi2,e1];with_reducible rfl) ?_|refine wt (by simpa [hi2,e1]) ?_|refine wf (by simpa [hi2,e1]) ?_|refine xt (by simpa [hi2,e1]) ?_|refine xf (by simpa [hi2,e1]) ?_|refine wp_bs ?_|refine wp_b ?_|refine wp_sr ?_|refine wp_sx ?_|refine wp_ret' ?_|refine wp_skip' ?_|refine wp_exit' ?_)
      exact .inr ⟨rfl,by simp only [inAll,List.all_cons,hp,Bool.false_and],rfl⟩
    | true =>
      rw [hp] at e1
      refine wp_loop ?_
      repeat (first|refine wp_as ?_|refine wp_ss ?_|refine wr (by simp [hi2,e1,w2];with_reducible rfl) ?_|refine wq (by simp [hi2,e1,w2];with_reducible rfl) ?_|refine wt (by simpa [hi2,e1,w2]) ?_|refine wf (by simpa [hi2,e1,w2]) ?_|refine xt (by simpa [hi2,e1,w2]) ?_|refine xf (by simpa [hi2,e1,w2]) ?_|refine wp_bs ?_|refine wp_b ?_|refine wp_sr ?_|refine wp_sx ?_|refine wp_ret' ?_|refine wp_skip' ?_|refine wp_exit' ?_)
      have:=ih (i+1) (by omega)
      simp only [inAll,List.all_cons,hp,Bool.true_and] at this ⊢
      exact this
theorem vm_c (r c:List Int) (k l:Bool) (hc:c.length≤1000000):∀ (m i:Nat),i+m=c.length →
    wp tb (.loop z387l12) { T:=[(0,L r k),(1,L c l),(6,I i)],loc:=[],M:=[] }
      (fun ex st=>(ex=.exit 2∧inAll (c.drop i) r.length=true∧st={ T:=[(0,L r k),(1,L c l),(6,I c.length),(24,Bo false)],loc:=[],M:=[] }) ∨
        ex=.ret∧inAll (c.drop i) r.length=false∧st={ T:=[(4,Bo false)],loc:=[],M:=[] }):=by
  intro m
  induction m with
  | zero =>
    intro i hi
    obtain ⟨h1,h2⟩:=drop_end hi
    have h3:i=c.length:=hi
    subst h3
    refine wp_loop ?_
    repeat (first|refine wp_as ?_|refine wp_ss ?_|refine wr (by simp;with_reducible rfl) ?_|refine wq (by simp;with_reducible rfl) ?_|refine wt (by simpa) ?_|refine wf (by simpa) ?_|refine xt (by simpa) ?_|refine xf (by simpa) ?_|refine wp_bs ?_|refine wp_b ?_|refine wp_sr ?_|refine wp_sx ?_|refine wp_ret' ?_|refine wp_skip' ?_|refine wp_exit' ?_)
    exact .inl ⟨rfl,by rw [h2];rfl,rfl⟩
  | succ m ih =>
    intro i hi
    obtain ⟨hi2,h2,h3⟩:=drop_get hi
    have w2:IntKind.i64.wrap ((i:Int)+1)=((i+1:Nat):Int):=wrapS (by omega)
    have e1:=ev_lim (ev_inRange c[i] 0 (r.length:Int))
    rw [h2]
    cases hp:(decide (0≤c[i]) && decide (c[i]≤(r.length:Int))) with
    | false =>
      rw [hp] at e1
      refine wp_loop ?_
      repeat (first|refine wp_as ?_|refine wp_ss ?_|refine wr (by simp [hi2,e1];with_reducible rfl) ?_|refine wq (by simp [hi2,e1];with_reducible rfl) ?_|refine wt (by simpa [hi2,e1]) ?_|refine wf (by simpa [hi2,e1]) ?_|refine xt (by simpa [hi2,e1]) ?_|refine xf (by simpa [hi2,e1]) ?_|refine wp_bs ?_|refine wp_b ?_|refine wp_sr ?_|refine wp_sx ?_|refine wp_ret' ?_|refine wp_skip' ?_|refine wp_exit' ?_)
      exact .inr ⟨rfl,by simp only [inAll,List.all_cons,hp,Bool.false_and],rfl⟩
    | true =>
      rw [hp] at e1
      refine wp_loop ?_
      repeat (first|refine wp_as ?_|refine wp_ss ?_|refine wr (by simp [hi2,e1,w2];with_reducible rfl) ?_|refine wq (by simp [hi2,e1,w2];with_reducible rfl) ?_|refine wt (by simpa [hi2,e1,w2]) ?_|refine wf (by simpa [hi2,e1,w2]) ?_|refine xt (by simpa [hi2,e1,w2]) ?_|refine xf (by simpa [hi2,e1,w2]) ?_|refine wp_bs ?_|refine wp_b ?_|refine wp_sr ?_|refine wp_sx ?_|refine wp_ret' ?_|refine wp_skip' ?_|refine wp_exit' ?_)
      have:=ih (i+1) (by omega)
      simp only [inAll,List.all_cons,hp,Bool.true_and] at this ⊢
      exact this
theorem ev_validMargins (r c:List Int) (k l:Bool) (hr:r.length≤1000000) (hc:c.length≤1000000) :
    Ev tb zl387 [] [L r k,L c l] [] ⟨Bo (vMar r c),[],[],[]⟩:=by
  have e1:=ev_lim (ev_inRange (r.length:Int) 1 5)
  have e2:=ev_lim (ev_inRange (c.length:Int) 1 5)
  have hv:vMar r c=(sideOk r.length && (sideOk c.length && (inAll r c.length && inAll c r.length))):=rfl
  have s1:sideOk r.length=(decide (1≤(r.length:Int)) && decide ((r.length:Int)≤5)):=rfl
  have s2:sideOk c.length=(decide (1≤(c.length:Int)) && decide ((c.length:Int)≤5)):=rfl
  rw [← s1] at e1
  rw [← s2] at e2
  refine call_of_wp zt387 rfl ?_
  repeat (first|refine wp_as ?_|refine wp_ss ?_|refine wr (by simp;with_reducible rfl) ?_|refine wq (by simp;with_reducible rfl) ?_|refine wt (by simpa) ?_|refine wf (by simpa) ?_|refine xt (by simpa) ?_|refine xf (by simpa) ?_|refine wp_bs ?_|refine wp_b ?_|refine wp_sr ?_|refine wp_sx ?_|refine wp_ret' ?_|refine wp_skip' ?_|refine wp_exit' ?_)
  refine wp_imp (vm_r r c k l hr r.length 0 (by omega)) ?_
  rintro ex st (⟨rfl,h,rfl⟩ | ⟨rfl,h,rfl⟩)
  rotate_left
  · simp only [List.drop_zero] at h
    rw [hv,h]
    simp [zi387]
  simp only [if_true]
  simp only [List.drop_zero] at h
  repeat (first|refine wp_as ?_|refine wp_ss ?_|refine wr (by simp;with_reducible rfl) ?_|refine wq (by simp;with_reducible rfl) ?_|refine wt (by simpa) ?_|refine wf (by simpa) ?_|refine xt (by simpa) ?_|refine xf (by simpa) ?_|refine wp_bs ?_|refine wp_b ?_|refine wp_sr ?_|refine wp_sx ?_|refine wp_ret' ?_|refine wp_skip' ?_|refine wp_exit' ?_)
  refine wp_imp (vm_c r c k l hc c.length 0 (by omega)) ?_
  rintro ex st (⟨rfl,h',rfl⟩ | ⟨rfl,h',rfl⟩)
  rotate_left
  · simp only [List.drop_zero] at h'
    rw [hv,h']
    simp [zi387]
  simp only [if_true]
  simp only [List.drop_zero] at h'
  rw [hv,h,h']
  generalize sideOk r.length=b1 at *
  generalize sideOk c.length=b2 at *
  cases b1 with
  | false =>
    repeat (first|refine wp_as ?_|refine wp_ss ?_|refine wr (by simp [e1];with_reducible rfl) ?_|refine wq (by simp [e1];with_reducible rfl) ?_|refine wt (by simpa [e1]) ?_|refine wf (by simpa [e1]) ?_|refine xt (by simpa [e1]) ?_|refine xf (by simpa [e1]) ?_|refine wp_bs ?_|refine wp_b ?_|refine wp_sr ?_|refine wp_sx ?_|refine wp_ret' ?_|refine wp_skip' ?_|refine wp_exit' ?_)
    simp [zi387]
  | true =>
    repeat (first|refine wp_as ?_|refine wp_ss ?_|refine wr (by simp [e1,e2];with_reducible rfl) ?_|refine wq (by simp [e1,e2];with_reducible rfl) ?_|refine wt (by simpa [e1,e2]) ?_|refine wf (by simpa [e1,e2]) ?_|refine xt (by simpa [e1,e2]) ?_|refine xf (by simpa [e1,e2]) ?_|refine wp_bs ?_|refine wp_b ?_|refine wp_sr ?_|refine wp_sx ?_|refine wp_ret' ?_|refine wp_skip' ?_|refine wp_exit' ?_)
    simp [zi387]
end Go.Idl
namespace Go.Idl
open Go
@[simp] theorem un_neg (n:Int):Op.unary .neg (.int .i64 n)=.pure (.int .i64 (IntKind.i64.wrap (-n))):=by
  rw [← Int.zero_sub];rfl
def gs (r c:List Int) (i:Nat):Int:=-((fall r).take (i+1)).sum+(c.map fun x:Int=>min x ((i:Int)+1)).sum
def gale (r c:List Int):List Int:=mapR r.length (gs r c)
theorem vMar_few {r c:List Int} (h:vMar r c=true):Few r∧Few c∧(1≤r.length∧r.length≤5)∧(1≤c.length∧c.length≤5):=by
  simp only [vMar,sideOk,inAll,Bool.and_eq_true,decide_eq_true_eq,List.all_eq_true] at h
  obtain ⟨h1,h2,h3,h4⟩:=h
  refine ⟨⟨by omega,fun x hx=>by have:=h3 x hx;omega⟩,⟨by omega,fun x hx=>by have:=h4 x hx;omega⟩,by omega,by omega⟩
theorem mins_bound (i:Nat):∀ (c:List Int),(∀ x ∈ c,0≤x∧x≤6)→0≤(c.map fun x:Int=>min x ((i:Int)+1)).sum∧(c.map fun x:Int=>min x ((i:Int)+1)).sum≤6 * c.length
  | [],_=>by simp
  | x::r,h=>by
    have h1:=h x (by simp)
    have h2:=mins_bound i r fun y hy=>h y (by simp [hy])
    simp only [List.map_cons,List.sum_cons,List.length_cons];omega
theorem gl_in (r c:List Int) (l:Bool) (n i:Nat) (hi:i < n) (hn:n≤7) (hc:Few c) (v0:Int) (hv:-1000≤v0∧v0≤1000) (S:IV):∀ (m k:Nat) (A:List Int),k+m=c.length→A.length=n →
    (∀ h:i < A.length,A[i]=v0+((c.take k).map fun x:Int=>min x ((i:Int)+1)).sum) →
    wp tb (.loop z165l14) { T:=[(1,L c l),(5,O r),(6,O A),(7,I i),(20,I n),(21,I i),(33,L c l),(34,I c.length),(35,I k)],loc:=[],M:=[] }
      (fun ex st=>ex=.exit 2∧st={ T:=[(1,L c l),(5,O r),(6,O (A.set i (v0+(c.map fun x:Int=>min x ((i:Int)+1)).sum))),(7,I i),(20,I n),(21,I i),(33,L c l),(34,I c.length),(35,I c.length),(36,Bo false)],loc:=[],M:=[] }):=by
  intro m
  induction m with
  | zero =>
    intro k A hk hA hAi
    have h3:k=c.length:=hk
    subst h3
    have hi':i < A.length:=by omega
    have hs:A.set i (v0+(c.map fun x:Int=>min x ((i:Int)+1)).sum)=A:=by
      have:=hAi hi'
      rw [List.take_of_length_le (by omega)] at this
      rw [← this];simp
    refine wp_loop ?_
    repeat (first|refine wp_as ?_|refine wp_ss ?_|refine wr (by simp;with_reducible rfl) ?_|refine wq (by simp;with_reducible rfl) ?_|refine wt (by simpa) ?_|refine wf (by simpa) ?_|refine xt (by simpa) ?_|refine xf (by simpa) ?_|refine wp_bs ?_|refine wp_b ?_|refine wp_sr ?_|refine wp_sx ?_|refine wp_ret' ?_|refine wp_skip' ?_|refine wp_exit' ?_)
    exact ⟨rfl,by rw [hs]⟩
  | succ m ih =>
    intro k A hk hA hAi
    obtain ⟨hk2,h2,h3⟩:=drop_get hk
    have hiA:i < A.length:=by omega
    have hAi:=hAi hiA
    have hcl:=hc.1
    have w2:IntKind.i64.wrap ((k:Int)+1)=((k+1:Nat):Int):=wrapS (by omega)
    have w3:IntKind.i64.wrap ((i:Int)+1)=(i:Int)+1:=wrap64 (by omega) (by omega)
    have hb:=mins_bound i (c.take (k+1)) (fun x hx=>hc.2 x (List.mem_of_mem_take hx))
    have hbl:(c.take (k+1)).length≤7:=by simp;omega
    have ht:((c.take (k+1)).map fun x:Int=>min x ((i:Int)+1)).sum=((c.take k).map fun x:Int=>min x ((i:Int)+1)).sum+min c[k] ((i:Int)+1):=by
      rw [List.take_succ_eq_append_getElem hk2]
      simp only [List.map_append,List.sum_append,List.map_cons,List.map_nil,List.sum_cons,List.sum_nil];omega
    have hg:=fun (A':List Int) h1 h2=>ih (k+1) A' (by omega) h1 h2
    generalize ((c.take (k+1)).map fun x:Int=>min x ((i:Int)+1)).sum=s1 at *
    generalize ((c.take k).map fun x:Int=>min x ((i:Int)+1)).sum=s0 at *
    have w1:IntKind.i64.wrap (v0+s0+min c[k] ((i:Int)+1))=v0+s1:=by rw [show v0+s0+min c[k] ((i:Int)+1)=v0+s1 by omega];exact wrap64 (by omega) (by omega)
    have hx1:i < n:=hi
    refine wp_loop ?_
    repeat (first|refine wp_as ?_|refine wp_ss ?_|refine wr (by simp [hk2,hiA,hA,hx1,hAi,w1,w2,w3,min_if,min_if'];with_reducible rfl) ?_|refine wq (by simp [hk2,hiA,hA,hx1,hAi,w1,w2,w3,min_if,min_if'];with_reducible rfl) ?_|refine wt (by simpa [hk2,hiA,hA,hx1,hAi,w1,w2,w3,min_if,min_if']) ?_|refine wf (by simpa [hk2,hiA,hA,hx1,hAi,w1,w2,w3,min_if,min_if']) ?_|refine xt (by simpa [hk2,hiA,hA,hx1,hAi,w1,w2,w3,min_if,min_if']) ?_|refine xf (by simpa [hk2,hiA,hA,hx1,hAi,w1,w2,w3,min_if,min_if']) ?_|refine wp_bs ?_|refine wp_b ?_|refine wp_sr ?_|refine wp_sx ?_|refine wp_ret' ?_|refine wp_skip' ?_|refine wp_exit' ?_)
    refine wp_imp (hg (A.set i (v0+s1)) (by simp [hA]) (by intro h;simp)) ?_
    rintro ex st ⟨rfl,rfl⟩
    exact ⟨rfl,by simp⟩
theorem gl_out (r c:List Int) (l:Bool) (hr:Few r) (hc:Few c):∀ (m i:Nat),i+m=r.length →
    wp tb (.loop z165l16) { T:=[(1,L c l),(5,O (fall r)),(6,O (mapR i (gs r c)++List.replicate (r.length - i) 0)),(20,I r.length),(21,I i)],loc:=[],M:=[] }
      (fun ex st=>ex=.exit 0∧st={ T:=[(1,L c l),(5,O (fall r)),(6,O (gale r c)),(20,I r.length),(21,I r.length),(22,Bo false)],loc:=[],M:=[] }):=by
  intro m
  induction m with
  | zero =>
    intro i hi
    have h3:i=r.length:=hi
    subst h3
    refine wp_loop ?_
    repeat (first|refine wp_as ?_|refine wp_ss ?_|refine wr (by simp;with_reducible rfl) ?_|refine wq (by simp;with_reducible rfl) ?_|refine wt (by simpa) ?_|refine wf (by simpa) ?_|refine xt (by simpa) ?_|refine xf (by simpa) ?_|refine wp_bs ?_|refine wp_b ?_|refine wp_sr ?_|refine wp_sx ?_|refine wp_ret' ?_|refine wp_skip' ?_|refine wp_exit' ?_)
    exact ⟨rfl,by simp [gale]⟩
  | succ m ih =>
    intro i hi
    have hi2:i < r.length:=by omega
    have hrl:=hr.1
    have w2:IntKind.i64.wrap ((i:Int)+1)=(i:Int)+1:=wrap64 (by omega) (by omega)
    have hfl:(fall r).length=r.length:=fall_len r
    have hft:=hr.fall.take (i+1)
    have hsum:=hft.sum
    have e3:=fun cc=>ev_lim (ev_sum ((fall r).take (i+1)) cc hft.small)
    have w3:IntKind.i64.wrap (-((fall r).take (i+1)).sum)=-((fall r).take (i+1)).sum:=wrap64 (by omega) (by omega)
    have h5:i+1≤r.length:=by omega
    have hA:(mapR i (gs r c)++List.replicate (r.length - i) 0).length=r.length:=by simp [mapR];omega
    have hs:=mapR_succ_set (gs r c) hi2
    have hin:=gl_in (fall r) c l r.length i hi2 hrl hc (-((fall r).take (i+1)).sum) (by omega) Z c.length 0
      ((mapR i (gs r c)++List.replicate (r.length - i) 0).set i (-((fall r).take (i+1)).sum)) (by omega) (by rw [List.length_set];exact hA) (by intro h;simp)
    rw [show ((0:Nat):Int)=0 from rfl] at hin
    simp only [List.set_set] at hin
    have hgs:-((fall r).take (i+1)).sum+(c.map fun x:Int=>min x ((i:Int)+1)).sum=gs r c i:=rfl
    rw [hgs] at hin
    generalize (mapR i (gs r c)++List.replicate (r.length - i) 0)=A at *
    have hiA:i < A.length:=by omega
    have hnx:=ih (i+1) (by omega)
    rw [← hs] at hnx
    rw [Int.natCast_add,Int.natCast_one] at hnx
    refine wp_loop ?_
    repeat (first|refine wp_as ?_|refine wp_ss ?_|refine wr (by simp [hi2,hfl,w2,h5,e3,w3,hA,hiA];with_reducible rfl) ?_|refine wq (by simp [hi2,hfl,w2,h5,e3,w3,hA,hiA];with_reducible rfl) ?_|refine wt (by simpa [hi2,hfl,w2,h5,e3,w3,hA,hiA]) ?_|refine wf (by simpa [hi2,hfl,w2,h5,e3,w3,hA,hiA]) ?_|refine xt (by simpa [hi2,hfl,w2,h5,e3,w3,hA,hiA]) ?_|refine xf (by simpa [hi2,hfl,w2,h5,e3,w3,hA,hiA]) ?_|refine wp_bs ?_|refine wp_b ?_|refine wp_sr ?_|refine wp_sx ?_|refine wp_ret' ?_|refine wp_skip' ?_|refine wp_exit' ?_)
    refine wp_imp hin ?_
    rintro ex st ⟨rfl,rfl⟩
    simp only [if_true]
    repeat (first|refine wp_as ?_|refine wp_ss ?_|refine wr (by simp [w2];with_reducible rfl) ?_|refine wq (by simp [w2];with_reducible rfl) ?_|refine wt (by simpa [w2]) ?_|refine wf (by simpa [w2]) ?_|refine xt (by simpa [w2]) ?_|refine xf (by simpa [w2]) ?_|refine wp_bs ?_|refine wp_b ?_|refine wp_sr ?_|refine wp_sx ?_|refine wp_ret' ?_|refine wp_skip' ?_|refine wp_exit' ?_)
    exact hnx
theorem ev_GaleSlacks (r c:List Int) (k l:Bool) (hv:vMar r c=true) :
    Ev tb zl165 [] [L r k,L c l] [] ⟨O (gale r c),[],[],[]⟩:=by
  obtain ⟨hr,hc,hr5,hc5⟩:=vMar_few hv
  have e1:=ev_lim (ev_ValidMargins r c k l (by omega) (by omega))
  rw [hv] at e1
  have e2:=ev_lim (ev_falling r k (by omega))
  have hfl:(fall r).length=r.length:=fall_len r
  refine call_of_wp zt165 rfl ?_
  repeat (first|refine wp_as ?_|refine wp_ss ?_|refine wr (by simp [e1,e2,show r.length≤274877906944 by omega];with_reducible rfl) ?_|refine wq (by simp [e1,e2,show r.length≤274877906944 by omega];with_reducible rfl) ?_|refine wt (by simpa [e1,e2,show r.length≤274877906944 by omega]) ?_|refine wf (by simpa [e1,e2,show r.length≤274877906944 by omega]) ?_|refine xt (by simpa [e1,e2,show r.length≤274877906944 by omega]) ?_|refine xf (by simpa [e1,e2,show r.length≤274877906944 by omega]) ?_|refine wp_bs ?_|refine wp_b ?_|refine wp_sr ?_|refine wp_sx ?_|refine wp_ret' ?_|refine wp_skip' ?_|refine wp_exit' ?_)
  have:=gl_out r c l hr hc r.length 0 (by omega)
  simp [mapR] at this
  refine wp_imp this ?_
  rintro ex st ⟨rfl,rfl⟩
  simp only [if_true]
  repeat (first|refine wp_as ?_|refine wp_ss ?_|refine wr (by simp;with_reducible rfl) ?_|refine wq (by simp;with_reducible rfl) ?_|refine wt (by simpa) ?_|refine wf (by simpa) ?_|refine xt (by simpa) ?_|refine xf (by simpa) ?_|refine wp_bs ?_|refine wp_b ?_|refine wp_sr ?_|refine wp_sx ?_|refine wp_ret' ?_|refine wp_skip' ?_|refine wp_exit' ?_)
  simp [zi165,gale,mapR]
end Go.Idl
namespace Go.Idl
open Go
theorem sg_in (c:List Int) (l:Bool) (i:Nat) (hi:i < 7) (hc:Few c) (f o:List Int):∀ (m k:Nat),k+m=c.length →
    wp tb (.loop z351l10) { T:=[(1,L c l),(5,O f),(6,O o),(7,I ((i:Int)+1)),(8,I ((c.take k).map fun x:Int=>min x ((i:Int)+1)).sum),(9,I k)],loc:=[],M:=[] }
      (fun ex st=>ex=.exit 2∧st={ T:=[(1,L c l),(5,O f),(6,O o),(7,I ((i:Int)+1)),(8,I (c.map fun x:Int=>min x ((i:Int)+1)).sum),(9,I c.length),(22,Bo false)],loc:=[],M:=[] }):=by
  intro m
  induction m with
  | zero =>
    intro k hk
    have h3:k=c.length:=hk
    subst h3
    rw [List.take_of_length_le (by omega)]
    refine wp_loop ?_
    repeat (first|refine wp_as ?_|refine wp_ss ?_|refine wr (by simp;with_reducible rfl) ?_|refine wq (by simp;with_reducible rfl) ?_|refine wt (by simpa) ?_|refine wf (by simpa) ?_|refine xt (by simpa) ?_|refine xf (by simpa) ?_|refine wp_bs ?_|refine wp_b ?_|refine wp_sr ?_|refine wp_sx ?_|refine wp_ret' ?_|refine wp_skip' ?_|refine wp_exit' ?_)
    exact ⟨rfl,rfl⟩
  | succ m ih =>
    intro k hk
    obtain ⟨hk2,h2,h3⟩:=drop_get hk
    have hcl:=hc.1
    have w2:IntKind.i64.wrap ((k:Int)+1)=((k+1:Nat):Int):=wrapS (by omega)
    have hb:=mins_bound i (c.take (k+1)) (fun x hx=>hc.2 x (List.mem_of_mem_take hx))
    have hbl:(c.take (k+1)).length≤7:=by simp;omega
    have ht:((c.take (k+1)).map fun x:Int=>min x ((i:Int)+1)).sum=((c.take k).map fun x:Int=>min x ((i:Int)+1)).sum+min c[k] ((i:Int)+1):=by
      rw [List.take_succ_eq_append_getElem hk2]
      simp only [List.map_append,List.sum_append,List.map_cons,List.map_nil,List.sum_cons,List.sum_nil];omega
    have hg:=ih (k+1) (by omega)
    generalize ((c.take (k+1)).map fun x:Int=>min x ((i:Int)+1)).sum=s1 at *
    generalize ((c.take k).map fun x:Int=>min x ((i:Int)+1)).sum=s0 at *
    have w1:IntKind.i64.wrap (s0+min c[k] ((i:Int)+1))=s1:=by rw [← ht];exact wrap64 (by omega) (by omega)
    refine wp_loop ?_
    repeat (first|refine wp_as ?_|refine wp_ss ?_|refine wr (by simp [hk2,w1,w2,min_if,min_if'];with_reducible rfl) ?_|refine wq (by simp [hk2,w1,w2,min_if,min_if'];with_reducible rfl) ?_|refine wt (by simpa [hk2,w1,w2,min_if,min_if']) ?_|refine wf (by simpa [hk2,w1,w2,min_if,min_if']) ?_|refine xt (by simpa [hk2,w1,w2,min_if,min_if']) ?_|refine xf (by simpa [hk2,w1,w2,min_if,min_if']) ?_|refine wp_bs ?_|refine wp_b ?_|refine wp_sr ?_|refine wp_sx ?_|refine wp_ret' ?_|refine wp_skip' ?_|refine wp_exit' ?_)
    exact hg
theorem ev_galeSlacks (r c:List Int) (k l:Bool) (hr:Few r) (hc:Few c) :
    Ev tb zl351 [] [L r k,L c l] [] ⟨O (gale r c),[],[],[]⟩:=by
  have hrl:=hr.1
  have e1:=ev_lim (ev_spec_falling r k (by omega))
  have hfl:(fall r).length=r.length:=fall_len r
  have loop:∀ (m i:Nat),i+m=r.length→wp tb (.loop z351l13) { T:=[(1,L c l),(5,O (fall r)),(6,O (mapR i (gs r c))),(7,I ((i:Int)+1))],loc:=[],M:=[] }
      (fun ex st=>ex=.exit 0∧st={ T:=[(1,L c l),(5,O (fall r)),(6,O (gale r c)),(7,I ((r.length:Int)+1)),(16,Bo false)],loc:=[],M:=[] }):=by
    intro m
    induction m with
    | zero =>
      intro i hi
      have h3:i=r.length:=hi
      subst h3
      have h4:¬ (r.length:Int)+1≤r.length:=by omega
      refine wp_loop ?_
      repeat (first|refine wp_as ?_|refine wp_ss ?_|refine wr (by simp [h4,hfl];with_reducible rfl) ?_|refine wq (by simp [h4,hfl];with_reducible rfl) ?_|refine wt (by simpa [h4,hfl]) ?_|refine wf (by simpa [h4,hfl]) ?_|refine xt (by simpa [h4,hfl]) ?_|refine xf (by simpa [h4,hfl]) ?_|refine wp_bs ?_|refine wp_b ?_|refine wp_sr ?_|refine wp_sx ?_|refine wp_ret' ?_|refine wp_skip' ?_|refine wp_exit' ?_)
      exact ⟨rfl,rfl⟩
    | succ m ih =>
      intro i hi
      have hi2:i < r.length:=by omega
      have h4:(i:Int)+1≤r.length:=by omega
      have h5:i+1≤r.length:=by omega
      have w4:IntKind.i64.wrap ((i:Int)+1+1)=(i:Int)+1+1:=wrap64 (by omega) (by omega)
      have hft:=hr.fall.take (i+1)
      have hsum:=hft.sum
      have e3:=fun cc=>ev_lim (ev_spec_sum ((fall r).take (i+1)) cc hft.small)
      have hb:=mins_bound i c hc.2
      have hcl:=hc.1
      have hgs:(c.map fun x:Int=>min x ((i:Int)+1)).sum - ((fall r).take (i+1)).sum=gs r c i:=by rw [gs];omega
      have w3:IntKind.i64.wrap ((c.map fun x:Int=>min x ((i:Int)+1)).sum - ((fall r).take (i+1)).sum)=gs r c i:=by rw [← hgs];exact wrap64 (by omega) (by omega)
      have hin:=sg_in c l i (by omega) hc (fall r) (mapR i (gs r c)) c.length 0 (by omega)
      simp only [List.take_zero,List.map_nil,List.sum_nil] at hin
      rw [show ((0:Nat):Int)=0 from rfl] at hin
      have hm:mapR (i+1) (gs r c)=mapR i (gs r c)++[gs r c i]:=by simp [mapR,List.range_succ]
      have hnx:=ih (i+1) (by omega)
      rw [hm,Int.natCast_add,Int.natCast_one] at hnx
      have hol:(mapR i (gs r c)).length≤274877906943:=by simp [mapR];omega
      have hot:(mapR i (gs r c)).take (mapR i (gs r c)).length=mapR i (gs r c):=List.take_of_length_le (by omega)
      generalize mapR i (gs r c)=o at *
      refine wp_loop ?_
      repeat (first|refine wp_as ?_|refine wp_ss ?_|refine wr (by simp [h4,hfl];with_reducible rfl) ?_|refine wq (by simp [h4,hfl];with_reducible rfl) ?_|refine wt (by simpa [h4,hfl]) ?_|refine wf (by simpa [h4,hfl]) ?_|refine xt (by simpa [h4,hfl]) ?_|refine xf (by simpa [h4,hfl]) ?_|refine wp_bs ?_|refine wp_b ?_|refine wp_sr ?_|refine wp_sx ?_|refine wp_ret' ?_|refine wp_skip' ?_|refine wp_exit' ?_)
      refine wp_imp hin ?_
      rintro ex st ⟨rfl,rfl⟩
      simp only [if_true]
      generalize (c.map fun x:Int=>min x ((i:Int)+1)).sum=q at *
      repeat (first|refine wp_as ?_|refine wp_ss ?_|refine wr (by simp [h4,h5,hfl,e3,w3,w4,hol,hot];with_reducible rfl) ?_|refine wq (by simp [h4,h5,hfl,e3,w3,w4,hol,hot];with_reducible rfl) ?_|refine wt (by simpa [h4,h5,hfl,e3,w3,w4,hol,hot]) ?_|refine wf (by simpa [h4,h5,hfl,e3,w3,w4,hol,hot]) ?_|refine xt (by simpa [h4,h5,hfl,e3,w3,w4,hol,hot]) ?_|refine xf (by simpa [h4,h5,hfl,e3,w3,w4,hol,hot]) ?_|refine wp_bs ?_|refine wp_b ?_|refine wp_sr ?_|refine wp_sx ?_|refine wp_ret' ?_|refine wp_skip' ?_|refine wp_exit' ?_)
      exact hnx
  refine call_of_wp zt351 rfl ?_
  repeat (first|refine wp_as ?_|refine wp_ss ?_|refine wr (by simp [e1];with_reducible rfl) ?_|refine wq (by simp [e1];with_reducible rfl) ?_|refine wt (by simpa [e1]) ?_|refine wf (by simpa [e1]) ?_|refine xt (by simpa [e1]) ?_|refine xf (by simpa [e1]) ?_|refine wp_bs ?_|refine wp_b ?_|refine wp_sr ?_|refine wp_sx ?_|refine wp_ret' ?_|refine wp_skip' ?_|refine wp_exit' ?_)
  have:=loop r.length 0 (by omega)
  simp [mapR] at this
  refine wp_imp this ?_
  rintro ex st ⟨rfl,rfl⟩
  simp only [if_true]
  repeat (first|refine wp_as ?_|refine wp_ss ?_|refine wr (by simp;with_reducible rfl) ?_|refine wq (by simp;with_reducible rfl) ?_|refine wt (by simpa) ?_|refine wf (by simpa) ?_|refine xt (by simpa) ?_|refine xf (by simpa) ?_|refine wp_bs ?_|refine wp_b ?_|refine wp_sr ?_|refine wp_sx ?_|refine wp_ret' ?_|refine wp_skip' ?_|refine wp_exit' ?_)
  simp [zi351]
end Go.Idl
namespace Go.Idl
open Go
def bigr (r c:List Int):Bool:=vMar r c && (decide (r.sum=c.sum) && noneNeg (gale r c))
theorem gale_len (r c:List Int):(gale r c).length=r.length:=by simp [gale,mapR]
theorem ev_IsBigraphic (r c:List Int) (k l:Bool) (hr:r.length≤1000000) (hc:c.length≤1000000) :
    Ev tb zl176 [] [L r k,L c l] [] ⟨Bo (bigr r c),[],[],[]⟩:=by
  have e1:=ev_lim (ev_ValidMargins r c k l hr hc)
  unfold bigr
  cases hv:vMar r c with
  | false =>
    rw [hv] at e1
    refine call_of_wp zt176 rfl ?_
    repeat (first|refine wp_as ?_|refine wp_ss ?_|refine wr (by simp [e1];with_reducible rfl) ?_|refine wq (by simp [e1];with_reducible rfl) ?_|refine wt (by simpa [e1]) ?_|refine wf (by simpa [e1]) ?_|refine xt (by simpa [e1]) ?_|refine xf (by simpa [e1]) ?_|refine wp_bs ?_|refine wp_b ?_|refine wp_sr ?_|refine wp_sx ?_|refine wp_ret' ?_|refine wp_skip' ?_|refine wp_exit' ?_)
    simp [zi176]
  | true =>
  rw [hv] at e1
  obtain ⟨fr,fc,hr5,hc5⟩:=vMar_few hv
  have e2:=ev_lim (ev_sum r k fr.small)
  have e3:=ev_lim (ev_sum c l fc.small)
  have e4:=ev_lim (ev_GaleSlacks r c k l hv)
  by_cases hs:r.sum=c.sum
  rotate_left
  · refine call_of_wp zt176 rfl ?_
    repeat (first|refine wp_as ?_|refine wp_ss ?_|refine wr (by simp [e1,e2,e3,hs];with_reducible rfl) ?_|refine wq (by simp [e1,e2,e3,hs];with_reducible rfl) ?_|refine wt (by simpa [e1,e2,e3,hs]) ?_|refine wf (by simpa [e1,e2,e3,hs]) ?_|refine xt (by simpa [e1,e2,e3,hs]) ?_|refine xf (by simpa [e1,e2,e3,hs]) ?_|refine wp_bs ?_|refine wp_b ?_|refine wp_sr ?_|refine wp_sx ?_|refine wp_ret' ?_|refine wp_skip' ?_|refine wp_exit' ?_)
    simp [zi176,hs]
  have hgl:=gale_len r c
  obtain ⟨mn,e5,hg⟩:∃ mn,limF tb zl75 [] [L (gale r c)] []=some ⟨I mn,[],[],[]⟩∧(0≤mn ↔ noneNeg (gale r c)=true):=by
    cases ho:gale r c with
    | nil=>rw [ho] at hgl;simp at hgl;omega
    | cons x q =>
      rw [ho] at hgl
      simp only [List.length_cons] at hgl
      refine ⟨_,ev_lim (ev_Min x q false (by omega)),?_⟩
      rw [least1_ge q x 0]
      simp [noneNeg]
  by_cases h1:0≤mn
  · have h2:=hg.1 h1
    refine call_of_wp zt176 rfl ?_
    repeat (first|refine wp_as ?_|refine wp_ss ?_|refine wr (by simp [e1,e2,e3,hs,e4,e5,h1];with_reducible rfl) ?_|refine wq (by simp [e1,e2,e3,hs,e4,e5,h1];with_reducible rfl) ?_|refine wt (by simpa [e1,e2,e3,hs,e4,e5,h1]) ?_|refine wf (by simpa [e1,e2,e3,hs,e4,e5,h1]) ?_|refine xt (by simpa [e1,e2,e3,hs,e4,e5,h1]) ?_|refine xf (by simpa [e1,e2,e3,hs,e4,e5,h1]) ?_|refine wp_bs ?_|refine wp_b ?_|refine wp_sr ?_|refine wp_sx ?_|refine wp_ret' ?_|refine wp_skip' ?_|refine wp_exit' ?_)
    simp [zi176,hs,h2]
  · have h2:noneNeg (gale r c)=false:=by rw [← Bool.not_eq_true];exact fun h=>h1 (hg.2 h)
    refine call_of_wp zt176 rfl ?_
    repeat (first|refine wp_as ?_|refine wp_ss ?_|refine wr (by simp [e1,e2,e3,hs,e4,e5,h1];with_reducible rfl) ?_|refine wq (by simp [e1,e2,e3,hs,e4,e5,h1];with_reducible rfl) ?_|refine wt (by simpa [e1,e2,e3,hs,e4,e5,h1]) ?_|refine wf (by simpa [e1,e2,e3,hs,e4,e5,h1]) ?_|refine xt (by simpa [e1,e2,e3,hs,e4,e5,h1]) ?_|refine xf (by simpa [e1,e2,e3,hs,e4,e5,h1]) ?_|refine wp_bs ?_|refine wp_b ?_|refine wp_sr ?_|refine wp_sx ?_|refine wp_ret' ?_|refine wp_skip' ?_|refine wp_exit' ?_)
    simp [zi176,hs,h2]
theorem ev_spec_IsBigraphic (r c:List Int) (k l:Bool) (hr:r.length≤1000000) (hc:c.length≤1000000) :
    Ev tb zl315 [] [L r k,L c l] [] ⟨Bo (bigr r c),[],[],[]⟩:=by
  have e1:=ev_lim (ev_validMargins r c k l hr hc)
  unfold bigr
  cases hv:vMar r c with
  | false =>
    rw [hv] at e1
    refine call_of_wp zt315 rfl ?_
    repeat (first|refine wp_as ?_|refine wp_ss ?_|refine wr (by simp [e1];with_reducible rfl) ?_|refine wq (by simp [e1];with_reducible rfl) ?_|refine wt (by simpa [e1]) ?_|refine wf (by simpa [e1]) ?_|refine xt (by simpa [e1]) ?_|refine xf (by simpa [e1]) ?_|refine wp_bs ?_|refine wp_b ?_|refine wp_sr ?_|refine wp_sx ?_|refine wp_ret' ?_|refine wp_skip' ?_|refine wp_exit' ?_)
    simp [zi315]
  | true =>
  rw [hv] at e1
  obtain ⟨fr,fc,hr5,hc5⟩:=vMar_few hv
  have e2:=ev_lim (ev_spec_sum r k fr.small)
  have e3:=ev_lim (ev_spec_sum c l fc.small)
  have e4:=ev_lim (ev_galeSlacks r c k l fr fc)
  have hgl:=gale_len r c
  have e5:=ev_lim (ev_least (gale r c) false (by omega))
  have hg:(decide (least (gale r c)=0))=noneNeg (gale r c):=by
    rw [Bool.eq_iff_iff,decide_eq_true_eq,least_zero];simp [noneNeg]
  have e6:limF tb zl353 [] [L r k,L c l] []=some ⟨Bo (decide (r.sum=c.sum) && noneNeg (gale r c)),[],[],[]⟩:=by
    refine ev_lim ?_
    rw [← hg]
    by_cases hs:r.sum=c.sum
    · refine call_of_wp zt353 rfl ?_
      repeat (first|refine wp_as ?_|refine wp_ss ?_|refine wr (by simp [e2,e3,hs,e4,e5];with_reducible rfl) ?_|refine wq (by simp [e2,e3,hs,e4,e5];with_reducible rfl) ?_|refine wt (by simpa [e2,e3,hs,e4,e5]) ?_|refine wf (by simpa [e2,e3,hs,e4,e5]) ?_|refine xt (by simpa [e2,e3,hs,e4,e5]) ?_|refine xf (by simpa [e2,e3,hs,e4,e5]) ?_|refine wp_bs ?_|refine wp_b ?_|refine wp_sr ?_|refine wp_sx ?_|refine wp_ret' ?_|refine wp_skip' ?_|refine wp_exit' ?_)
      simp [zi353,hs]
      try rfl
    · refine call_of_wp zt353 rfl ?_
      repeat (first|refine wp_as ?_|refine wp_ss ?_|refine wr (by simp [e2,e3,hs];with_reducible rfl) ?_|refine wq (by simp [e2,e3,hs];with_reducible rfl) ?_|refine wt (by simpa [e2,e3,hs]) ?_|refine wf (by simpa [e2,e3,hs]) ?_|refine xt (by simpa [e2,e3,hs]) ?_|refine xf (by simpa [e2,e3,hs]) ?_|refine wp_bs ?_|refine wp_b ?_|refine wp_sr ?_|refine wp_sx ?_|refine wp_ret' ?_|refine wp_skip' ?_|refine wp_exit' ?_)
      simp [zi353,hs]
  generalize (decide (r.sum=c.sum) && noneNeg (gale r c))=b at *
  refine call_of_wp zt315 rfl ?_
  repeat (first|refine wp_as ?_|refine wp_ss ?_|refine wr (by simp [e1,e6];with_reducible rfl) ?_|refine wq (by simp [e1,e6];with_reducible rfl) ?_|refine wt (by simpa [e1,e6]) ?_|refine wf (by simpa [e1,e6]) ?_|refine xt (by simpa [e1,e6]) ?_|refine xf (by simpa [e1,e6]) ?_|refine wp_bs ?_|refine wp_b ?_|refine wp_sr ?_|refine wp_sx ?_|refine wp_ret' ?_|refine wp_skip' ?_|refine wp_exit' ?_)
  simp [zi315]
end Go.Idl
namespace Go.Idl
open Go
def takeT (i:Nat):List Int→List Int→List (List Int)→Option (List Int×List (List Int))
  | [],c,t=>some (c,t)
  | j::js,c,t=>if c.getD j.toNat 0=0 then none else takeT i js (decAt c j.toNat) (set2 t i j.toNat 1)
def fillR (h:Nat):List Int→Nat→List Int→List (List Int)→Option (List Int×List (List Int))
  | [],_,c,t=>some (c,t)
  | x::xs,i,c,t=>match takeT i (topD c (idxB h (-1)) x.toNat) c t with
    | none=>none
    | some (c',t')=>fillR h xs (i+1) c' t'
theorem takeT_ok {w h:Nat} (i:Nat) (hi:i < w):∀ (js c:List Int) (t:List (List Int)) (c':List Int) (t':List (List Int)),Lil c→c.length=h→RT w h t→takeT i js c t=some (c',t')→Lil c'∧c'.length=h∧RT w h t'
  | [],c,t,c',t',h1,h2,h3,he=>by
    simp only [takeT,Option.some.injEq,Prod.mk.injEq] at he
    obtain ⟨rfl,rfl⟩:=he
    exact ⟨h1,h2,h3⟩
  | j::js,c,t,c',t',h1,h2,h3,he=>by
    rw [takeT] at he
    split at he
    · cases he
    · rename_i hne
      have hp:0 < c.getD j.toNat 0:=by
        rw [List.getD_eq_getElem?_getD] at hne ⊢
        cases ho:c[j.toNat]? with
        | none=>rw [ho] at hne;simp at hne
        | some y=>rw [ho] at hne;have:=h1 y (List.mem_of_getElem? ho);simp at hne ⊢;omega
      exact takeT_ok i hi js _ _ c' t' (h1.dec hp) (by simpa [decAt] using h2) (h3.set2 _ _ _ hi) he
set_option maxHeartbeats 1000000 in
theorem fm_in (r c0:List Int) (cr cc:Bool) (w h:Nat) (i:Nat) (hi:i < w) (hw:w≤5) (hh:h≤5) (js:List Int) (hjl:js.length≤1000) (hj:∀ j ∈ js,0≤j∧j < h) :
    ∀ (m k:Nat) (c:List Int) (t:List (List Int)),k+m=js.length→Lil c→c.length=h→RT w h t →
    wp tb (.loop z504l16) { T:=[(0,L r cr),(1,L c0 cc),(6,O c),(7,OT t),(8,I i),(23,L r cr),(24,I w),(25,I i),(35,O js),(36,I js.length),(37,I k)],loc:=[],M:=[] }
      (fun ex st=>match takeT i (js.drop k) c t with
        | some (c',t')=>ex=.exit 2∧st={ T:=[(0,L r cr),(1,L c0 cc),(6,O c'),(7,OT t'),(8,I i),(23,L r cr),(24,I w),(25,I i),(35,O js),(36,I js.length),(37,I js.length),(38,Bo false)],loc:=[],M:=[] }
        | none=>ex=.ret∧∃ t',st={ T:=[(4,Z),(5,Bo false),(7,OT t')],loc:=[],M:=[] }):=by
  intro m
  induction m with
  | zero =>
    intro k c t hk hl hcl ht
    obtain ⟨h1,h2⟩:=drop_end hk
    have h3:k=js.length:=hk
    subst h3
    rw [h2]
    refine wp_loop ?_
    repeat (first|apply wp_as|apply wp_ss|refine wr (by simp;with_reducible rfl) ?_|refine wq (by simp;with_reducible rfl) ?_|refine wt (by simpa) ?_|refine wf (by simpa) ?_|refine xt (by simpa) ?_|refine xf (by simpa) ?_|apply wp_bs|apply wp_b|refine wp_sr ?_|refine wp_sx ?_|refine wp_ret' ?_|refine wp_skip' ?_|refine wp_exit' ?_)
    exact ⟨rfl,rfl⟩
  | succ m ih =>
    intro k c t hk hl hcl ht
    obtain ⟨hk2,h2,h3⟩:=drop_get hk
    obtain ⟨j,hjj⟩:=Int.eq_ofNat_of_zero_le (hj _ h3).1
    have hjh:=(hj _ h3).2
    rw [h2,takeT]
    have hjn:js[k].toNat=j:=by omega
    rw [hjn]
    have jc:j < c.length:=by omega
    have hit:i < t.length:=by rw [ht.1];exact hi
    have hij:j < t[i].length:=by rw [ht.2 _ (List.getElem_mem hit)];omega
    have w2:IntKind.i64.wrap ((k:Int)+1)=((k+1:Nat):Int):=wrapS (by omega)
    have hb:=hl _ (List.getElem_mem jc)
    rw [getD_get jc]
    by_cases hz:c[j]=0
    · rw [if_pos hz]
      refine wp_loop ?_
      repeat (first|apply wp_as|apply wp_ss|refine wr (by simp [hk2,hjj,jc,hz];with_reducible rfl) ?_|refine wq (by simp [hk2,hjj,jc,hz];with_reducible rfl) ?_|refine wt (by simpa [hk2,hjj,jc,hz]) ?_|refine wf (by simpa [hk2,hjj,jc,hz]) ?_|refine xt (by simpa [hk2,hjj,jc,hz]) ?_|refine xf (by simpa [hk2,hjj,jc,hz]) ?_|apply wp_bs|apply wp_b|refine wp_sr ?_|refine wp_sx ?_|refine wp_ret' ?_|refine wp_skip' ?_|refine wp_exit' ?_)
      exact ⟨rfl,t,rfl⟩
    · rw [if_neg hz]
      have w3:IntKind.i64.wrap (c[j] - 1)=c[j] - 1:=wrap64 (by omega) (by omega)
      have hd:decAt c j=c.set j (c[j] - 1):=by rw [decAt,getD_get jc]
      have ht2:set2 t i j 1=t.set i (t[i].set j 1):=by
        rw [set2];congr 2
        simp [List.getD_eq_getElem?_getD,List.getElem?_eq_getElem hit]
      have hg:=ih (k+1) (decAt c j) (set2 t i j 1) (by omega) (hl.dec (by rw [getD_get jc];omega)) (by simpa [decAt] using hcl) (ht.set2 _ _ _ hi)
      rw [hd,ht2] at hg ⊢
      refine wp_loop ?_
      repeat (first|apply wp_as|apply wp_ss|refine wr (by simp [hk2,hjj,jc,hz,hit,hij,w2,w3];with_reducible rfl) ?_|refine wq (by simp [hk2,hjj,jc,hz,hit,hij,w2,w3];with_reducible rfl) ?_|refine wt (by simpa [hk2,hjj,jc,hz,hit,hij,w2,w3]) ?_|refine wf (by simpa [hk2,hjj,jc,hz,hit,hij,w2,w3]) ?_|refine xt (by simpa [hk2,hjj,jc,hz,hit,hij,w2,w3]) ?_|refine xf (by simpa [hk2,hjj,jc,hz,hit,hij,w2,w3]) ?_|apply wp_bs|apply wp_b|refine wp_sr ?_|refine wp_sx ?_|refine wp_ret' ?_|refine wp_skip' ?_|refine wp_exit' ?_)
      exact hg
theorem idxB_all (h:Nat):idxB h (-1)=(List.range h).map fun v:Nat=>(v:Int):=by
  rw [idxB,List.filter_eq_self.2 (by intro a ha;obtain ⟨v,_,rfl⟩:=List.mem_map.1 ha;rw [decide_eq_true_eq];omega)]
theorem idxB_in (h:Nat):∀ v ∈ idxB h (-1),0≤v∧v < h:=by
  intro v hv
  rw [idxB_all] at hv
  obtain ⟨k,hk,rfl⟩:=List.mem_map.1 hv
  have:=List.mem_range.1 hk
  omega
theorem topD_in (c:List Int) (h x:Nat):∀ v ∈ topD c (idxB h (-1)) x,0≤v∧v < h:=by
  intro v hv
  have:=(srtC_perm (gtD c) (idxB h (-1)) []).mem_iff.1 (List.mem_of_mem_take hv)
  exact idxB_in h v (by simpa using this)
theorem topD_len2 (c:List Int) (h x:Nat):(topD c (idxB h (-1)) x).length≤h:=by
  have:=topD_len c (idxB h (-1)) x
  rw [topD,List.length_take,this,idxB_all]
  simp;omega
set_option maxHeartbeats 1000000 in
theorem fm_out (r c0:List Int) (cr cc:Bool) (w h:Nat) (hrw:r.length=w) (hw:w≤5) (hh:h≤5) (hh1:1≤h) (hc0:c0.length=h) (hr:∀ x ∈ r,0≤x∧x≤h) :
    ∀ (m i:Nat) (c:List Int) (t:List (List Int)),i+m=w→Lil c→c.length=h→RT w h t →
    wp tb (.loop z504l18) { T:=[(0,L r cr),(1,L c0 cc),(6,O c),(7,OT t),(23,L r cr),(24,I w),(25,I i)],loc:=[],M:=[] }
      (fun ex st=>match fillR h (r.drop i) i c t with
        | some (c',t')=>ex=.exit 0∧Lil c'∧c'.length=h∧st={ T:=[(0,L r cr),(1,L c0 cc),(6,O c'),(7,OT t'),(23,L r cr),(24,I w),(25,I w),(26,Bo false)],loc:=[],M:=[] }
        | none=>ex=.ret∧∃ t',st={ T:=[(4,Z),(5,Bo false),(7,OT t')],loc:=[],M:=[] }):=by
  intro m
  induction m with
  | zero =>
    intro i c t hi hl hcl ht
    have h3:i=w:=hi
    subst h3
    rw [List.drop_of_length_le (by omega)]
    refine wp_loop ?_
    repeat (first|apply wp_as|apply wp_ss|refine wr (by simp;with_reducible rfl) ?_|refine wq (by simp;with_reducible rfl) ?_|refine wt (by simpa) ?_|refine wf (by simpa) ?_|refine xt (by simpa) ?_|refine xf (by simpa) ?_|apply wp_bs|apply wp_b|refine wp_sr ?_|refine wp_sx ?_|refine wp_ret' ?_|refine wp_skip' ?_|refine wp_exit' ?_)
    exact ⟨rfl,hl,hcl,rfl⟩
  | succ m ih =>
    intro i c t hi hl hcl ht
    have hi2:i < w:=by omega
    have hir:i < r.length:=by omega
    obtain ⟨x,hx⟩:=Int.eq_ofNat_of_zero_le (hr _ (List.getElem_mem hir)).1
    have hxh:=(hr _ (List.getElem_mem hir)).2
    have hd:r.drop i=r[i]::r.drop (i+1):=(List.getElem_cons_drop hir).symm
    rw [hd,fillR]
    have hxn:r[i].toNat=x:=by omega
    rw [hxn]
    have w2:IntKind.i64.wrap ((i:Int)+1)=((i+1:Nat):Int):=wrapS (by omega)
    have e1:=ev_lim (ev_indices h (-1) (by omega))
    have hidl:(idxB h (-1)).length=h:=by rw [idxB_all];simp
    have hidn:nlI (idxB h (-1))=O (idxB h (-1)):=by
      cases hq:idxB h (-1) with
      | nil=>rw [hq] at hidl;simp at hidl;omega
      | cons a b=>rfl
    rw [hidn] at e1
    have e2:=ev_lim (ev_greatest c false (fun y hy=>by have:=hl y hy;omega) (L (idxB h (-1)) false) (idxB h (-1)) (.inl ⟨false,rfl⟩) (by omega) (by rw [hcl];exact idxB_in h) x (by omega))
    have hin:=fm_in r c0 cr cc w h i hi2 hw hh (topD c (idxB h (-1)) x) (by have:=topD_len2 c h x;omega) (topD_in c h x) (topD c (idxB h (-1)) x).length 0 c t (by omega) hl hcl ht
    rw [List.drop_zero] at hin
    have hok:=fun c' t'=>takeT_ok (w:=w) (h:=h) i hi2 (topD c (idxB h (-1)) x) c t c' t' hl hcl ht
    generalize topD c (idxB h (-1)) x=js at *
    generalize idxB h (-1)=ix at *
    rw [show ((0:Nat):Int)=0 from rfl] at hin
    refine wp_loop ?_
    repeat (first|apply wp_as|apply wp_ss|refine wr (by simp [hi2,hir,hx,e1,e2,hc0];with_reducible rfl) ?_|refine wq (by simp [hi2,hir,hx,e1,e2,hc0];with_reducible rfl) ?_|refine wt (by simpa [hi2,hir,hx,e1,e2,hc0]) ?_|refine wf (by simpa [hi2,hir,hx,e1,e2,hc0]) ?_|refine xt (by simpa [hi2,hir,hx,e1,e2,hc0]) ?_|refine xf (by simpa [hi2,hir,hx,e1,e2,hc0]) ?_|apply wp_bs|apply wp_b|refine wp_sr ?_|refine wp_sx ?_|refine wp_ret' ?_|refine wp_skip' ?_|refine wp_exit' ?_)
    refine wp_imp hin ?_
    intro ex st
    cases ho:takeT i js c t with
    | none =>
      rintro ⟨rfl,t',rfl⟩
      exact ⟨rfl,t',rfl⟩
    | some p =>
      obtain ⟨c',t'⟩:=p
      obtain ⟨o1,o2,o3⟩:=hok c' t' ho
      rintro ⟨rfl,rfl⟩
      have hg:=ih (i+1) c' t' (by omega) o1 o2 o3
      try simp only [if_true]
      repeat (first|apply wp_as|apply wp_ss|refine wr (by simp [w2];with_reducible rfl) ?_|refine wq (by simp [w2];with_reducible rfl) ?_|refine wt (by simpa [w2]) ?_|refine wf (by simpa [w2]) ?_|refine xt (by simpa [w2]) ?_|refine xf (by simpa [w2]) ?_|apply wp_bs|apply wp_b|refine wp_sr ?_|refine wp_sx ?_|refine wp_ret' ?_|refine wp_skip' ?_|refine wp_exit' ?_)
      exact hg
theorem ev_FillMatrix_F1 (i j:Nat) (M:List Boxes):Ev tb zl505 [] [I i,I j] M ⟨I 0,[],M,[]⟩:=by
  refine call_of_wp zt505 rfl ?_
  repeat (first|apply wp_as|apply wp_ss|refine wr (by simp;with_reducible rfl) ?_|refine wq (by simp;with_reducible rfl) ?_|refine wt (by simpa) ?_|refine wf (by simpa) ?_|refine xt (by simpa) ?_|refine xf (by simpa) ?_|apply wp_bs|apply wp_b|refine wp_sr ?_|refine wp_sx ?_|refine wp_ret' ?_|refine wp_skip' ?_|refine wp_exit' ?_)
  simp [zi505]
def fillB (r c:List Int):Bool:=match fillR c.length r 0 c (zeroT r.length c.length) with
  | some (c',_)=>decide (c'.sum≤0)
  | none=>false
set_option maxHeartbeats 1000000 in
theorem ev_FillMatrix (r c:List Int) (cr cc:Bool) (hv:vMar r c=true):∃ v:IV,(v=Z ∨ ∃ t,v=OT t) ∧
    Ev tb zl504 [] [L r cr,L c cc] [] ⟨.tup [v,Bo (fillB r c)],[],[],[]⟩:=by
  obtain ⟨fr,fk,hr5,hk5⟩:=vMar_few hv
  have hin:(∀ y ∈ r,0≤y∧y≤c.length)∧(∀ y ∈ c,0≤y∧y≤r.length):=by
    simp only [vMar,inAll,Bool.and_eq_true,List.all_eq_true,decide_eq_true_eq] at hv
    exact ⟨hv.2.2.1,hv.2.2.2⟩
  have hlc:Lil c:=fun y hy=>by have:=hin.2 y hy;omega
  have e1:=ev_lim (ev_ValidMargins r c cr cc (by omega) (by omega))
  have e2:=ev_lim (ev_clone c cc (by omega))
  have e3:=fun M=>ev_lim (ev_table r.length c.length zl505 [] M (fun _ _=>0) (by omega) (by omega) fun i k _ _=>ev_FillMatrix_F1 i k _)
  have hlo:=fm_out r c cr cc r.length c.length rfl (by omega) (by omega) (by omega) rfl hin.1 r.length 0 c (zeroT r.length c.length) (by omega) hlc rfl (zeroT_RT _ _)
  rw [List.drop_zero,show ((0:Nat):Int)=0 from rfl] at hlo
  unfold fillB
  have e3:∀ M,limF tb zl41 [] [I r.length,I c.length,.fn zl505 []] M=some ⟨OT (zeroT r.length c.length),[],M,[]⟩:=e3
  generalize zeroT r.length c.length=t0 at *
  cases hf:fillR c.length r 0 c t0 with
  | none =>
    rw [hf] at hlo
    refine ⟨Z,.inl rfl,?_⟩
    refine call_of_wp zt504 rfl ?_
    repeat (first|apply wp_as|apply wp_ss|refine wr (by simp [e1,e2,e3,hv];with_reducible rfl) ?_|refine wq (by simp [e1,e2,e3,hv];with_reducible rfl) ?_|refine wt (by simpa [e1,e2,e3,hv]) ?_|refine wf (by simpa [e1,e2,e3,hv]) ?_|refine xt (by simpa [e1,e2,e3,hv]) ?_|refine xf (by simpa [e1,e2,e3,hv]) ?_|apply wp_bs|apply wp_b|refine wp_sr ?_|refine wp_sx ?_|refine wp_ret' ?_|refine wp_skip' ?_|refine wp_exit' ?_)
    refine wp_imp hlo ?_
    rintro ex st ⟨rfl,t',rfl⟩
    simp [zi504]
  | some p =>
    obtain ⟨c',t'⟩:=p
    rw [hf] at hlo
    simp only at hlo ⊢
    by_cases hs:c'.sum≤0
    · refine ⟨OT t',.inr ⟨t',rfl⟩,?_⟩
      rw [decide_eq_true hs]
      refine call_of_wp zt504 rfl ?_
      repeat (first|apply wp_as|apply wp_ss|refine wr (by simp [e1,e2,e3,hv];with_reducible rfl) ?_|refine wq (by simp [e1,e2,e3,hv];with_reducible rfl) ?_|refine wt (by simpa [e1,e2,e3,hv]) ?_|refine wf (by simpa [e1,e2,e3,hv]) ?_|refine xt (by simpa [e1,e2,e3,hv]) ?_|refine xf (by simpa [e1,e2,e3,hv]) ?_|apply wp_bs|apply wp_b|refine wp_sr ?_|refine wp_sx ?_|refine wp_ret' ?_|refine wp_skip' ?_|refine wp_exit' ?_)
      refine wp_imp hlo ?_
      rintro ex st ⟨rfl,hl',hcl',rfl⟩
      have e4:=ev_lim (ev_sum c' false (hl'.small (by omega)))
      have hs':¬ 0 < c'.sum:=by omega
      try simp only [if_true]
      repeat (first|apply wp_as|apply wp_ss|refine wr (by simp [e4,hs'];with_reducible rfl) ?_|refine wq (by simp [e4,hs'];with_reducible rfl) ?_|refine wt (by simpa [e4,hs']) ?_|refine wf (by simpa [e4,hs']) ?_|refine xt (by simpa [e4,hs']) ?_|refine xf (by simpa [e4,hs']) ?_|apply wp_bs|apply wp_b|refine wp_sr ?_|refine wp_sx ?_|refine wp_ret' ?_|refine wp_skip' ?_|refine wp_exit' ?_)
      simp [zi504]
    · refine ⟨Z,.inl rfl,?_⟩
      rw [decide_eq_false hs]
      refine call_of_wp zt504 rfl ?_
      repeat (first|apply wp_as|apply wp_ss|refine wr (by simp [e1,e2,e3,hv];with_reducible rfl) ?_|refine wq (by simp [e1,e2,e3,hv];with_reducible rfl) ?_|refine wt (by simpa [e1,e2,e3,hv]) ?_|refine wf (by simpa [e1,e2,e3,hv]) ?_|refine xt (by simpa [e1,e2,e3,hv]) ?_|refine xf (by simpa [e1,e2,e3,hv]) ?_|apply wp_bs|apply wp_b|refine wp_sr ?_|refine wp_sx ?_|refine wp_ret' ?_|refine wp_skip' ?_|refine wp_exit' ?_)
      refine wp_imp hlo ?_
      rintro ex st ⟨rfl,hl',hcl',rfl⟩
      have e4:=ev_lim (ev_sum c' false (hl'.small (by omega)))
      have hs':0 < c'.sum:=by omega
      try simp only [if_true]
      repeat (first|apply wp_as|apply wp_ss|refine wr (by simp [e4,hs'];with_reducible rfl) ?_|refine wq (by simp [e4,hs'];with_reducible rfl) ?_|refine wt (by simpa [e4,hs']) ?_|refine wf (by simpa [e4,hs']) ?_|refine xt (by simpa [e4,hs']) ?_|refine xf (by simpa [e4,hs']) ?_|apply wp_bs|apply wp_b|refine wp_sr ?_|refine wp_sx ?_|refine wp_ret' ?_|refine wp_skip' ?_|refine wp_exit' ?_)
      simp [zi504]
end Go.Idl
