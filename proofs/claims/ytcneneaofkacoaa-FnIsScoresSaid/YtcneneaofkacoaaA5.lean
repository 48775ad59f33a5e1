/- Part 5 of a proof by an ideal interpreter of the code: its definitions and lemmas. Conditions: none. -/
import Derived.KernelRfl
import Derived.Test.YtcneneaofkacoaaA4
set_option linter.all false
set_option linter.unusedVariables false
set_option linter.unusedSimpArgs false
namespace Go.Idl
open Go
theorem ev_in (n lo hi:Int):Ev tb zl38 [] [I n,I lo,I hi] [] ⟨Bo (decide (lo≤n) && decide (n≤hi)),[],[],[]⟩:=by
  refine call_of_wp zt38 rfl ?_
  refine wp_rs (by simp;rfl) (by simp;rfl) ?_
  by_cases h:lo≤n
  · refine wp_rs (by simp [h];rfl) (by simp;rfl) ?_
    refine wp_ret' ?_
    simp [h,zi38]
  · refine wp_rs (by simp [h];rfl) (by simp;rfl) ?_
    refine wp_ret' ?_
    simp [h,zi38]
theorem ev_inRange (n lo hi:Int):Ev tb zl132 [] [I n,I lo,I hi] [] ⟨Bo (decide (lo≤n) && decide (n≤hi)),[],[],[]⟩:=by
  refine call_of_wp zt132 rfl ?_
  refine wp_rs (by simp;rfl) (by simp;rfl) ?_
  by_cases h:lo≤n
  · refine wp_rs (by simp [h];rfl) (by simp;rfl) ?_
    refine wp_ret' ?_
    simp [h,zi132]
  · refine wp_rs (by simp [h];rfl) (by simp;rfl) ?_
    refine wp_ret' ?_
    simp [h,zi132]
def SmallSum (xs:List Int):Prop:=xs.length≤2000000∧∀ k,-4611686018427387904≤(xs.take k).sum∧(xs.take k).sum≤4611686018427387904
theorem sum_take_succ {xs:List Int} {i:Nat} (h:i < xs.length):(xs.take i).sum+xs[i]=(xs.take (i+1)).sum:=by
  rw [List.take_succ_eq_append_getElem h,List.sum_append];simp
theorem ev_sum (xs:List Int) (c:Bool) (hs:SmallSum xs):Ev tb zl40 [] [.lst 1 (ints xs) c] [] ⟨I xs.sum,[],[],[]⟩:=by
  obtain ⟨hl,hs⟩:=hs
  have loop:∀ (m i:Nat),i+m=xs.length→wp tb (.loop z40l7) { T:=[(0,.lst 1 (ints xs) c),(3,I (xs.take i).sum),(6,.lst 1 (ints xs) c),(7,I xs.length),(8,I i)],loc:=[],M:=[] }
      (fun ex st=>ex=.exit 0∧st={ T:=[(0,.lst 1 (ints xs) c),(3,I xs.sum),(6,.lst 1 (ints xs) c),(7,I xs.length),(8,I xs.length),(9,Bo false)],loc:=[],M:=[] }):=by
    intro m
    induction m with
    | zero =>
      intro i hi
      have hi':i=xs.length:=by omega
      subst hi'
      apply wp_loop
      refine wp_rs (by simp;rfl) (by simp;rfl) ?_
      refine wp_ct rfl (by simp) fun _=>wp_sx ?_
      simp
    | succ m ih =>
      intro i hi
      have hi':i < xs.length:=by omega
      have h1:=hs (i+1)
      rw [← sum_take_succ hi'] at h1
      apply wp_loop
      refine wp_rs (by simp;rfl) (by simp;rfl) ?_
      refine wp_ct rfl (fun _=>wp_ss ?_) (by simp [hi'])
      refine wp_bs ?_
      refine wp_rs (by simp [hi'];rfl) (by simp;rfl) ?_
      refine wp_reg (by simp;rfl) (by simp;rfl) ?_
      refine wp_reg (by simp;rfl) (by simp;rfl) ?_
      have:=ih (i+1) (by omega)
      rw [wrapS (by omega),wrap64 (by omega) (by omega),sum_take_succ hi']
      exact this
  refine call_of_wp zt40 rfl ?_
  refine wp_rs (by simp;rfl) (by simp;rfl) ?_
  refine wp_rs (by simp;rfl) (by simp;rfl) ?_
  refine wp_as (wp_rs (by simp;rfl) (by simp;rfl) ?_)
  refine wp_bs (wp_imp (loop xs.length 0 (by simp)) ?_)
  rintro ex st ⟨rfl,rfl⟩
  simp only [if_true]
  refine wp_rs (by simp;rfl) (by simp;rfl) ?_
  refine wp_ret' ?_
  simp [zi40]
theorem ev_Clip (xs:List Int):Ev tb zl70 [] [.own 1 (ints xs)] [] ⟨.own 1 (ints xs),[],[],[]⟩:=by
  refine call_of_wp zt70 rfl ?_
  refine wp_rs (by simp;rfl) (by simp;rfl) ?_
  refine wp_rs (by simp;rfl) (by simp;rfl) ?_
  refine wp_ret' ?_
  simp [zi70]
theorem ev_Clone (xs:List Int) (c:Bool) (hl:xs.length≤2000000):Ev tb zl71 [] [.lst 1 (ints xs) c] [] ⟨.own 1 (ints xs),[],[],[]⟩:=by
  refine call_of_wp zt71 rfl ?_
  refine wp_rs (by simp;rfl) (by simp;rfl) ?_
  refine wp_nil2 (b:=xs.isEmpty) (by simp [z71r1];rfl) (by simp) ?_ ?_ ?_ (ex:=.ret) (st':={ T:=[(2,.own 1 (ints xs))],loc:=[],M:=[] })
  · refine wp_ct (t:=false) (by simp) (by simp) fun _=>wp_ss ?_
    refine wp_rs (by simp [show xs.length≤274877906944 by omega];rfl) (by simp;rfl) ?_
    refine wp_ret' ?_
    simp
  · intro he
    have:xs=[]:=by simpa using he
    subst this
    refine wp_ct (t:=true) (by simp) (fun _=>wp_as ?_) (by simp)
    refine wp_rs (by simp;rfl) (by simp;rfl) ?_
    refine wp_sr ?_
    simp
  · simp [zi71]
theorem ev_clone (xs:List Int) (c:Bool) (hl:xs.length≤2000000) :
    Ev tb zl31 [] [.lst 1 (ints xs) c] [] ⟨.own 1 (ints xs),[],[],[]⟩:=by
  have e1:=ev_lim (ev_Clone xs c hl)
  have e2:=ev_lim (ev_Clip xs)
  refine call_of_wp zt31 rfl ?_
  refine wp_rs (by simp;rfl) (by simp;rfl) ?_
  refine wp_rs (by simp [e1,e2];rfl) (by simp;rfl) ?_
  refine wp_ret' ?_
  simp [zi31]
theorem ev_spec_sum (xs:List Int) (c:Bool) (hs:SmallSum xs):Ev tb zl382 [] [.lst 1 (ints xs) c] [] ⟨I xs.sum,[],[],[]⟩:=by
  obtain ⟨hl,hs⟩:=hs
  have loop:∀ (m i:Nat),i+m=xs.length→wp tb (.loop z382l6) { T:=[(0,.lst 1 (ints xs) c),(3,I (xs.take i).sum),(4,I i)],loc:=[],M:=[] }
      (fun ex st=>ex=.exit 0∧st={ T:=[(0,.lst 1 (ints xs) c),(3,I xs.sum),(4,I xs.length),(8,Bo false)],loc:=[],M:=[] }):=by
    intro m
    induction m with
    | zero =>
      intro i hi
      have hi':i=xs.length:=by omega
      subst hi'
      refine wp_loop (wp_as (wp_rs (by simp;rfl) (by simp;rfl) ?_))
      exact wp_ct rfl (by simp) fun _=>wp_sx (by simp)
    | succ m ih =>
      intro i hi
      have hi':i < xs.length:=by omega
      have h1:=hs (i+1)
      rw [← sum_take_succ hi'] at h1
      refine wp_loop (wp_as (wp_rs (by simp;rfl) (by simp;rfl) ?_))
      refine wp_ct rfl (fun _=>wp_ss ?_) (by simp [hi'])
      refine wp_bs (wp_reg (by simp [hi'];rfl) (by simp;rfl) ?_)
      refine wp_reg (by simp;rfl) (by simp;rfl) ?_
      have:=ih (i+1) (by omega)
      rw [wrapS (by omega),wrap64 (by omega) (by omega),sum_take_succ hi']
      exact this
  refine call_of_wp zt382 rfl ?_
  refine wp_rs (by simp;rfl) (by simp;rfl) ?_
  refine wp_rs (by simp;rfl) (by simp;rfl) ?_
  refine wp_as (wp_rs (by simp;rfl) (by simp;rfl) ?_)
  refine wp_bs (wp_imp (loop xs.length 0 (by simp)) ?_)
  rintro ex st ⟨rfl,rfl⟩
  simp only [if_true]
  refine wp_rs (by simp;rfl) (by simp;rfl) ?_
  exact wp_ret' (by simp [zi382])
end Go.Idl
namespace Go.Idl
def insD (x:Int):List Int→List Int
  | []=>[x]
  | y::ys=>if x≤y then y::insD x ys else x::y::ys
def fall (xs:List Int):List Int:=xs.foldl (fun out x=>insD x out) []
abbrev Desc (xs:List Int):Prop:=xs.Pairwise (fun a b=>b≤a)
abbrev Asc (xs:List Int):Prop:=xs.Pairwise (fun a b=>a≤b)
theorem insD_perm (x:Int) (ys:List Int):(insD x ys).Perm (x::ys):=by
  induction ys with
  | nil=>exact .refl _
  | cons y ys ih =>
    unfold insD
    split
    · exact (ih.cons y).trans (.swap x y ys)
    · exact .refl _
theorem insD_desc (x:Int) (ys:List Int) (h:Desc ys):Desc (insD x ys):=by
  induction ys with
  | nil=>simp [insD]
  | cons y ys ih =>
    unfold insD
    have h:=List.pairwise_cons.1 h
    split
    · refine List.pairwise_cons.2 ⟨fun a ha=>?_,ih h.2⟩
      rcases List.mem_cons.1 ((insD_perm x ys).mem_iff.1 ha) with rfl | ha
      · assumption
      · exact h.1 a ha
    · rename_i hx
      refine List.pairwise_cons.2 ⟨fun a ha=>?_,List.pairwise_cons.2 h⟩
      rcases List.mem_cons.1 ha with rfl | ha
      · omega
      · have:=h.1 a ha;omega
theorem fall_aux (xs:List Int):∀ ys,Desc ys→Desc (xs.foldl (fun out x=>insD x out) ys)∧(xs.foldl (fun out x=>insD x out) ys).Perm (xs++ys):=by
  induction xs with
  | nil=>intro ys h;exact ⟨h,.refl _⟩
  | cons x xs ih =>
    intro ys h
    obtain ⟨h1,h2⟩:=ih (insD x ys) (insD_desc x ys h)
    refine ⟨h1,h2.trans ?_⟩
    exact ((insD_perm x ys).append_left xs).trans List.perm_middle
theorem fall_desc (xs:List Int):Desc (fall xs):=(fall_aux xs [] .nil).1
theorem fall_perm (xs:List Int):(fall xs).Perm xs:=by simpa [fall] using (fall_aux xs [] .nil).2
theorem fall_len (xs:List Int):(fall xs).length=xs.length:=(fall_perm xs).length_eq
theorem desc_unique {xs ys:List Int} (hx:Desc xs) (hy:Desc ys) (h:xs.Perm ys):xs=ys:=by
  refine List.Perm.eq_of_pairwise (le:=fun a b=>b≤a) (fun a b _ _ h1 h2=>by omega) hx hy h
theorem fall_unique {xs ys:List Int} (hy:Desc ys) (h:ys.Perm xs):ys=fall xs:=desc_unique hy (fall_desc xs) (h.trans (fall_perm xs).symm)
theorem fall_congr {xs ys:List Int} (h:xs.Perm ys):fall xs=fall ys:=fall_unique (fall_desc xs) ((fall_perm xs).trans h)
theorem perm_sum {xs ys:List Int} (h:xs.Perm ys):xs.sum=ys.sum:=by
  induction h with
  | nil=>rfl
  | cons x _ ih=>simp [ih]
  | swap x y l=>simp;omega
  | trans _ _ h1 h2=>exact h1.trans h2
theorem fall_sum (xs:List Int):(fall xs).sum=xs.sum:=perm_sum (fall_perm xs)
theorem fall_mem {xs:List Int} {x:Int}:x ∈ fall xs ↔ x ∈ xs:=(fall_perm xs).mem_iff
def insR (x:Int):List Int→List Int→List Int
  | [],B=>x::B
  | a::r,B=>if x < a then insR x r (a::B) else r.reverse++a::x::B
theorem insR_perm (x:Int):∀ (r B:List Int),(insR x r B).Perm (r.reverse++x::B)
  | [],B=>.refl _
  | a::r,B=>by
    unfold insR
    split
    · refine (insR_perm x r (a::B)).trans ?_
      rw [List.reverse_cons,List.append_assoc]
      exact List.Perm.append_left _ (.swap _ _ _)
    · rw [List.reverse_cons,List.append_assoc]
      exact .refl _
theorem insR_asc (x:Int):∀ (r B:List Int),Asc (r.reverse++B)→(∀ b ∈ B,x≤b)→Asc (insR x r B)
  | [],B,h,hb=>List.pairwise_cons.2 ⟨hb,by simpa using h⟩
  | a::r,B,h,hb=>by
    rw [List.reverse_cons,List.append_assoc] at h
    unfold insR
    split
    · rename_i hx
      refine insR_asc x r (a::B) h fun b hb'=>?_
      rcases List.mem_cons.1 hb' with rfl | hb'
      · omega
      · exact hb b hb'
    · rename_i hx
      obtain ⟨h1,h2,h3⟩:=List.pairwise_append.1 (show Asc (r.reverse++a::B) from h)
      have h2:=List.pairwise_cons.1 h2
      refine List.pairwise_append.2 ⟨h1,?_,fun p hp q hq=>?_⟩
      · refine List.pairwise_cons.2 ⟨fun q hq=>?_,List.pairwise_cons.2 ⟨hb,h2.2⟩⟩
        rcases List.mem_cons.1 hq with rfl | hq
        · omega
        · exact h2.1 q hq
      · have ha:=h3 p hp a (by simp)
        rcases List.mem_cons.1 hq with rfl | hq
        · exact ha
        · rcases List.mem_cons.1 hq with rfl | hq
          · omega
          · exact h3 p hp q (by simp [hq])
def asc:Nat→List Int→List Int→List Int
  | _,S,[]=>S
  | n,S,x::r=>asc n (insR x S.reverse []) r
theorem asc_ok:∀ (r S:List Int),Asc S→Asc (asc 0 S r)∧(asc 0 S r).Perm (S++r)
  | [],S,h=>⟨h,by simp [asc]⟩
  | x::r,S,h=>by
    obtain ⟨h1,h2⟩:=asc_ok r (insR x S.reverse []) (insR_asc x _ _ (by simpa using h) (by simp))
    refine ⟨h1,h2.trans ?_⟩
    have:=insR_perm x S.reverse []
    rw [List.reverse_reverse] at this
    refine (this.append_right r).trans ?_
    rw [List.append_assoc];exact .refl _
theorem asc_rev (xs:List Int):(asc 0 [] xs).reverse=fall xs:=by
  obtain ⟨h1,h2⟩:=asc_ok xs [] .nil
  refine fall_unique ?_ ((List.reverse_perm _).trans (by simpa using h2))
  rw [Desc,List.pairwise_reverse];exact h1
theorem asc_len (xs:List Int):(asc 0 [] xs).length=xs.length:=by simpa using (asc_ok xs [] .nil).2.length_eq
end Go.Idl
namespace Go.Idl
open Go
abbrev L (xs:List Int) (c:Bool:=false):IV:=.lst 1 (ints xs) c
abbrev O (xs:List Int):IV:=.own 1 (ints xs)
theorem ev_isNaN (n:Int):Ev tb zl4 [] [I n] [] ⟨Bo false,[],[],[]⟩:=by
  refine call_of_wp zt4 rfl ?_
  repeat (first|apply wp_as|apply wp_ss|refine wr (by simp;with_reducible rfl) ?_|refine wq (by simp;with_reducible rfl) ?_|refine wt (by simpa) ?_|refine wf (by simpa) ?_|refine xt (by simpa) ?_|refine xf (by simpa) ?_|apply wp_bs|apply wp_b|refine wp_sr ?_|refine wp_sx ?_|refine wp_ret' ?_|refine wp_skip' ?_|refine wp_exit' ?_)
  simp [zi4]
theorem ev_Less (a b:Int):Ev tb zl2 [] [I a,I b] [] ⟨Bo (decide (a < b)),[],[],[]⟩:=by
  have e1:=fun n=>ev_lim (ev_isNaN n)
  refine call_of_wp zt2 rfl ?_
  repeat (first|apply wp_as|apply wp_ss|refine wr (by simp [e1];with_reducible rfl) ?_|refine wq (by simp [e1];with_reducible rfl) ?_|refine wt (by simpa [e1]) ?_|refine wf (by simpa [e1]) ?_|refine xt (by simpa [e1]) ?_|refine xf (by simpa [e1]) ?_|apply wp_bs|apply wp_b|refine wp_sr ?_|refine wp_sx ?_|refine wp_ret' ?_|refine wp_skip' ?_|refine wp_exit' ?_)
  simp [zi2]
theorem app_get1 {A Z:List Int} {a x:Int}:(A++a::x::Z)[A.length+1]? = some x:=by
  rw [List.getElem?_append_right (by omega)];simp
theorem app_get0 {A Z:List Int} {a:Int}:(A++a::Z)[A.length]? = some a:=by
  rw [List.getElem?_append_right (by omega)];simp
theorem app_set {A Z:List Int} {a x:Int}:((A++a::x::Z).set (A.length+1) a).set A.length x=A++x::a::Z:=by
  rw [List.set_append_right _ _ (by omega),List.set_append_right _ _ (by omega)]
  simp
theorem insl (n i:Int) (x:Int) (rest:List Int) (M:List Boxes):∀ (k:Nat) (A B:List Int),A.length=k→k+B.length+rest.length≤2000000 →
    wp tb (.loop z86l6) { T:=[(0,O (A++x::(B++rest))),(1,I 0),(2,I n),(6,I i),(7,I k)],loc:=[],M:=M }
      (fun ex st=>ex=.exit 2∧∃ k':Int,st={ T:=[(0,O (insR x A.reverse B++rest)),(1,I 0),(2,I n),(6,I i),(7,I k'),(30,Bo false)],loc:=[],M:=M }):=by
  have e1:=fun a b=>ev_lim (ev_Less a b)
  intro k
  induction k with
  | zero =>
    intro A B hA hl
    have:A=[]:=List.length_eq_zero_iff.1 hA
    subst this
    refine wp_loop ?_
    repeat (first|apply wp_as|apply wp_ss|refine wr (by simp;with_reducible rfl) ?_|refine wq (by simp;with_reducible rfl) ?_|refine wt (by simpa) ?_|refine wf (by simpa) ?_|refine xt (by simpa) ?_|refine xf (by simpa) ?_|apply wp_bs|apply wp_b|refine wp_sr ?_|refine wp_sx ?_|refine wp_ret' ?_|refine wp_skip' ?_|refine wp_exit' ?_)
    exact ⟨rfl,_,by simp [insR];rfl⟩
  | succ k ih =>
    intro A B hA hl
    obtain ⟨A',a,rfl⟩:∃ A' a,A=A'++[a]:=⟨A.dropLast,A.getLast (by intro h;subst h;simp at hA),(List.dropLast_concat_getLast _).symm⟩
    have hA':A'.length=k:=by simpa using hA
    subst hA'
    have w1:IntKind.i64.wrap (A'.length:Int)=(A'.length:Int):=wrapN (by omega)
    have w2:(0:Int) < (A'.length:Int)+1:=by omega
    simp only [List.append_assoc,List.singleton_append]
    by_cases hx:x < a
    · refine wp_loop ?_
      repeat (first|apply wp_as|apply wp_ss|refine wr (by simp [e1,hx,w1,w2,app_get0,app_get1,app_set];with_reducible rfl) ?_|refine wq (by simp [e1,hx,w1,w2,app_get0,app_get1,app_set];with_reducible rfl) ?_|refine wt (by simpa [e1,hx,w1,w2,app_get0,app_get1,app_set]) ?_|refine wf (by simpa [e1,hx,w1,w2,app_get0,app_get1,app_set]) ?_|refine xt (by simpa [e1,hx,w1,w2,app_get0,app_get1,app_set]) ?_|refine xf (by simpa [e1,hx,w1,w2,app_get0,app_get1,app_set]) ?_|apply wp_bs|apply wp_b|refine wp_sr ?_|refine wp_sx ?_|refine wp_ret' ?_|refine wp_skip' ?_|refine wp_exit' ?_)
      have:=ih A' (a::B) rfl (by simp;omega)
      simp only [List.cons_append,List.reverse_append,List.reverse_cons,List.reverse_nil,List.nil_append] at this ⊢
      simp only [insR,hx,if_true]
      exact this
    · refine wp_loop ?_
      repeat (first|apply wp_as|apply wp_ss|refine wr (by simp [e1,hx,w1,w2,app_get0,app_get1,app_set];with_reducible rfl) ?_|refine wq (by simp [e1,hx,w1,w2,app_get0,app_get1,app_set];with_reducible rfl) ?_|refine wt (by simpa [e1,hx,w1,w2,app_get0,app_get1,app_set]) ?_|refine wf (by simpa [e1,hx,w1,w2,app_get0,app_get1,app_set]) ?_|refine xt (by simpa [e1,hx,w1,w2,app_get0,app_get1,app_set]) ?_|refine xf (by simpa [e1,hx,w1,w2,app_get0,app_get1,app_set]) ?_|apply wp_bs|apply wp_b|refine wp_sr ?_|refine wp_sx ?_|refine wp_ret' ?_|refine wp_skip' ?_|refine wp_exit' ?_)
      refine ⟨rfl,((A'.length+1:Nat):Int),?_⟩
      simp only [List.reverse_append,List.reverse_cons,List.reverse_nil,List.nil_append,List.cons_append]
      simp only [insR,hx,if_false,List.reverse_reverse,List.append_assoc,List.cons_append]
      rfl
theorem insr_len (x:Int) (S:List Int):(insR x S.reverse []).length=S.length+1:=by
  have:=(insR_perm x S.reverse []).length_eq
  simpa using this
theorem sortl (M:List Boxes) (n:Int):∀ (r S:List Int),n=(S.length+r.length:Nat)→S.length+r.length≤2000000 →
    wp tb (.loop z86l8) { T:=[(0,O (S++r)),(1,I 0),(2,I n),(6,I S.length)],loc:=[],M:=M }
      (fun ex st=>ex=.exit 0∧∃ k':Int,st={ T:=[(0,O (asc 0 S r)),(1,I 0),(2,I n),(6,I k'),(12,Bo false)],loc:=[],M:=M }):=by
  intro r
  induction r with
  | nil =>
    intro S hn hl
    refine wp_loop ?_
    have h1:¬ (S.length:Int) < n:=by simp at hn;omega
    repeat (first|apply wp_as|apply wp_ss|refine wr (by simp [h1];with_reducible rfl) ?_|refine wq (by simp [h1];with_reducible rfl) ?_|refine wt (by simpa [h1]) ?_|refine wf (by simpa [h1]) ?_|refine xt (by simpa [h1]) ?_|refine xf (by simpa [h1]) ?_|apply wp_bs|apply wp_b|refine wp_sr ?_|refine wp_sx ?_|refine wp_ret' ?_|refine wp_skip' ?_|refine wp_exit' ?_)
    exact ⟨rfl,_,by simp [asc];rfl⟩
  | cons x r ih =>
    intro S hn hl
    refine wp_loop ?_
    simp only [List.length_cons] at hn hl
    have h1:(S.length:Int) < n:=by omega
    have w1:IntKind.i64.wrap ((S.length:Int)+1)=(S.length:Int)+1:=by rw [wrap64 (by omega) (by omega)]
    repeat (first|apply wp_as|apply wp_ss|refine wr (by simp [h1,w1];with_reducible rfl) ?_|refine wq (by simp [h1,w1];with_reducible rfl) ?_|refine wt (by simpa [h1,w1]) ?_|refine wf (by simpa [h1,w1]) ?_|refine xt (by simpa [h1,w1]) ?_|refine xf (by simpa [h1,w1]) ?_|apply wp_bs|apply wp_b|refine wp_sr ?_|refine wp_sx ?_|refine wp_ret' ?_|refine wp_skip' ?_|refine wp_exit' ?_)
    refine wp_imp (insl n S.length x r M S.length S [] rfl (by simp;omega)) ?_
    rintro ex st ⟨rfl,k',rfl⟩
    simp only [if_true]
    repeat (first|apply wp_as|apply wp_ss|refine wr (by simp [h1,w1];with_reducible rfl) ?_|refine wq (by simp [h1,w1];with_reducible rfl) ?_|refine wt (by simpa [h1,w1]) ?_|refine wf (by simpa [h1,w1]) ?_|refine xt (by simpa [h1,w1]) ?_|refine xf (by simpa [h1,w1]) ?_|apply wp_bs|apply wp_b|refine wp_sr ?_|refine wp_sx ?_|refine wp_ret' ?_|refine wp_skip' ?_|refine wp_exit' ?_)
    have:=ih (insR x S.reverse []) (by rw [insr_len];omega) (by rw [insr_len];omega)
    rw [insr_len] at this
    exact this
theorem ev_insertionSort (xs:List Int) (hl:xs.length≤1000) (M:List Boxes) :
    Ev tb zl86 [0] [O xs,I 0,I xs.length] M ⟨.tup [],[O (asc 0 [] xs)],M,[]⟩:=by
  refine call_of_wp zt86 rfl ?_
  repeat (first|apply wp_as|apply wp_ss|refine wr (by simp;with_reducible rfl) ?_|refine wq (by simp;with_reducible rfl) ?_|refine wt (by simpa) ?_|refine wf (by simpa) ?_|refine xt (by simpa) ?_|refine xf (by simpa) ?_|apply wp_bs|apply wp_b|refine wp_sr ?_|refine wp_sx ?_|refine wp_ret' ?_|refine wp_skip' ?_|refine wp_exit' ?_)
  cases xs with
  | nil =>
    refine wp_loop ?_
    repeat (first|apply wp_as|apply wp_ss|refine wr (by simp;with_reducible rfl) ?_|refine wq (by simp;with_reducible rfl) ?_|refine wt (by simpa) ?_|refine wf (by simpa) ?_|refine xt (by simpa) ?_|refine xf (by simpa) ?_|apply wp_bs|apply wp_b|refine wp_sr ?_|refine wp_sx ?_|refine wp_ret' ?_|refine wp_skip' ?_|refine wp_exit' ?_)
    simp [zi86,asc]
  | cons x r =>
    simp only [List.length_cons] at hl
    refine wp_imp (sortl M _ r [x] (by simp;omega) (by simp;omega)) ?_
    rintro ex st ⟨rfl,k',rfl⟩
    simp [zi86,asc,insR]
theorem ev_pdqsort (xs:List Int) (hl:xs.length≤12) (k:Int) (M:List Boxes) :
    Ev tb zl101 [0] [O xs,I 0,I xs.length,I k] M ⟨.tup [],[O (asc 0 [] xs)],M,[]⟩:=by
  have e1:=ev_lim (ev_insertionSort xs (by omega) (M++[[]]))
  have w1:IntKind.i64.wrap (xs.length:Int)=(xs.length:Int):=wrapN (by omega)
  refine call_of_wp zt101 rfl ?_
  repeat (first|apply wp_as|apply wp_ss|refine wr (by simp;with_reducible rfl) ?_|refine wq (by simp;with_reducible rfl) ?_|refine wt (by simpa) ?_|refine wf (by simpa) ?_|refine xt (by simpa) ?_|refine xf (by simpa) ?_|apply wp_bs|apply wp_b|refine wp_sr ?_|refine wp_sx ?_|refine wp_ret' ?_|refine wp_skip' ?_|refine wp_exit' ?_)
  refine wp_loop ?_
  have h:(xs.length:Int)≤12:=by omega
  repeat (first|apply wp_as|apply wp_ss|refine wr (by simp [e1,w1,hl,h];with_reducible rfl) ?_|refine wq (by simp [e1,w1,hl,h];with_reducible rfl) ?_|refine wt (by simpa [e1,w1,hl,h]) ?_|refine wf (by simpa [e1,w1,hl,h]) ?_|refine xt (by simpa [e1,w1,hl,h]) ?_|refine xf (by simpa [e1,w1,hl,h]) ?_|apply wp_bs|apply wp_b|refine wp_sr ?_|refine wp_sx ?_|refine wp_ret' ?_|refine wp_skip' ?_|refine wp_exit' ?_)
  simp [zi101]
theorem len_r (cf:CF) (n:Int) (m:Nat) (g:ByteArray) (hw:IntKind.u8.wrap n=(m:Int)) (hb:(g[m]?).isSome=true) :
    ∃ k st,execOps cf { T:=[(0,.sc (.int .u64 n)),(2,I 0),(14,Bo false)],loc:=[],M:=[] } [⟨some 19,none,.mv (.t 2)⟩,⟨some 20,none,.mv (.t 0)⟩,⟨some 21,none,.conv .u8 (.t 20)⟩,⟨some 22,none,.idxs (.c (.string g)) (.t 21)⟩,⟨some 23,none,.conv .i64 (.t 22)⟩,⟨some 24,none,.bin .add (.t 19) (.t 23)⟩,⟨some 2,none,.asg (.t 24)⟩]=some st∧st.cut [2]={ T:=[(2,I k)],loc:=[],M:=[] }:=by
  obtain ⟨b,hb⟩:=Option.isSome_iff_exists.1 hb
  refine ⟨_,_,by simp [hw,hb];rfl,by simp;rfl⟩
set_option maxRecDepth 100000 in
theorem ev_Len64 (n:Nat) (hn:n≤12):∃ k:Int,Ev tb zl68 [] [.sc (.int .u64 n)] [] ⟨I k,[],[],[]⟩:=by
  have w8:IntKind.u8.wrap (n:Int)=(n:Int):=by
    have:n=0 ∨ n=1 ∨ n=2 ∨ n=3 ∨ n=4 ∨ n=5 ∨ n=6 ∨ n=7 ∨ n=8 ∨ n=9 ∨ n=10 ∨ n=11 ∨ n=12:=by omega
    rcases this with rfl | rfl | rfl | rfl | rfl | rfl | rfl | rfl | rfl | rfl | rfl | rfl | rfl <;> rfl
  have key:∃ k:Int,∃ st,execOps (limF tb) { T:=[(0,.sc (.int .u64 n)),(2,I 0),(14,Bo false)],loc:=[],M:=[] } (match z68r10 with | .reg ops _ _=>ops | _=>[])=some st∧st.cut [2]={ T:=[(2,I k)],loc:=[],M:=[] }:=by
    have:n=0 ∨ n=1 ∨ n=2 ∨ n=3 ∨ n=4 ∨ n=5 ∨ n=6 ∨ n=7 ∨ n=8 ∨ n=9 ∨ n=10 ∨ n=11 ∨ n=12:=by omega
    rcases this with rfl | rfl | rfl | rfl | rfl | rfl | rfl | rfl | rfl | rfl | rfl | rfl | rfl
    all_goals
      refine len_r (limF tb) _ _ _ w8 ?_
      rfl
  obtain ⟨k,st,h1,h2⟩:=key
  have g1:¬ (4294967296:Int)≤n:=by omega
  have g2:¬ (65536:Int)≤n:=by omega
  have g3:¬ (256:Int)≤n:=by omega
  refine ⟨k,?_⟩
  refine call_of_wp zt68 rfl ?_
  iterate 4 ((first|refine wp_as ?_|skip);refine wp_rs (by simp [g1,g2,g3];rfl) (by simp;rfl) ?_;(first|refine wp_ct (t:=false) (by simp) (by simp) (fun _=>?_)|skip);(first|refine wp_ss ?_|skip))
  refine wp_rs h1 h2 ?_
  refine wp_ret' ?_
  simp [zi68]
theorem ev_Len (n:Nat) (hn:n≤12):∃ k:Int,Ev tb zl66 [] [.sc (.int .u64 n)] [] ⟨I k,[],[],[]⟩:=by
  obtain ⟨k,hk⟩:=ev_Len64 n hn
  have e1:=ev_lim hk
  refine ⟨k,?_⟩
  refine call_of_wp zt66 rfl ?_
  repeat (first|apply wp_as|apply wp_ss|refine wr (by simp [e1];with_reducible rfl) ?_|refine wq (by simp [e1];with_reducible rfl) ?_|refine wt (by simpa [e1]) ?_|refine wf (by simpa [e1]) ?_|refine xt (by simpa [e1]) ?_|refine xf (by simpa [e1]) ?_|apply wp_bs|apply wp_b|refine wp_sr ?_|refine wp_sx ?_|refine wp_ret' ?_|refine wp_skip' ?_|refine wp_exit' ?_)
  simp [zi66]
theorem wrapU {n:Nat} (h:n < 2000000):IntKind.u64.wrap (n:Int)=(n:Int):=by
  have e1:(2:Int) ^ IntKind.u64.bits=18446744073709551616:=by decide
  have e3:IntKind.u64.signed=false:=rfl
  unfold IntKind.wrap
  rw [e1,e3]
  simp
  omega
theorem ev_Sort (xs:List Int) (hl:xs.length≤12) (M:List Boxes) :
    Ev tb zl78 [0] [O xs] M ⟨.tup [],[O (asc 0 [] xs)],M,[]⟩:=by
  obtain ⟨k,hk⟩:=ev_Len xs.length hl
  have e1:=ev_lim hk
  have e2:=ev_lim (ev_pdqsort xs hl k (M++[[]]))
  have w1:=@wrapU xs.length (by omega)
  refine call_of_wp zt78 rfl ?_
  repeat (first|apply wp_as|apply wp_ss|refine wr (by simp [e1,e2,w1];with_reducible rfl) ?_|refine wq (by simp [e1,e2,w1];with_reducible rfl) ?_|refine wt (by simpa [e1,e2,w1]) ?_|refine wf (by simpa [e1,e2,w1]) ?_|refine xt (by simpa [e1,e2,w1]) ?_|refine xf (by simpa [e1,e2,w1]) ?_|apply wp_bs|apply wp_b|refine wp_sr ?_|refine wp_sx ?_|refine wp_ret' ?_|refine wp_skip' ?_|refine wp_exit' ?_)
  simp [zi78]
end Go.Idl
namespace Go.Idl
open Go
theorem natOf_add2 {k:IntKind} {a b:Nat}:natOf (.sc (.int k ((a:Int)+(b:Int)+1)))=some (a+b+1):=natOf_nat (n:=a+b+1)
theorem rv_get {A m B:List Int} {x y:Int}:(A++x::(m++y::B))[A.length+m.length+1]? = some y:=by
  rw [List.getElem?_append_right (by omega),show A.length+m.length+1 - A.length=m.length+1 by omega,List.getElem?_cons_succ,List.getElem?_append_right (by omega)];simp
theorem rv_getE {A m B:List Int} {x y:Int} {h}:(A++x::(m++y::B))[A.length+m.length+1]'h=y:=by
  have:=@rv_get A m B x y
  rw [List.getElem?_eq_getElem h] at this
  exact Option.some.inj this
theorem rv_set {A m B:List Int} {v x y:Int}:(A++v::(m++y::B)).set (A.length+m.length+1) x=A++v::(m++x::B):=by
  rw [List.set_append_right _ _ (by omega)]
  simp [show A.length+m.length+1 - A.length=m.length+1 by omega]
theorem revl (M:List Boxes):∀ (k:Nat) (A m B:List Int),m.length≤k→A.length+m.length+B.length≤2000000 →
    wp tb (.loop z76l4) { T:=[(0,O (A++(m++B))),(2,I A.length),(3,I ((A.length:Int)+m.length - 1))],loc:=[],M:=M }
      (fun ex st=>ex=.exit 0∧∃ a b:Int,st={ T:=[(0,O (A++(m.reverse++B))),(2,I a),(3,I b),(9,Bo false)],loc:=[],M:=M }):=by
  intro k
  induction k with
  | zero =>
    intro A m B hk hl
    have:m=[]:=List.length_eq_zero_iff.1 (by omega)
    subst this
    refine wp_loop ?_
    have h:¬ ((A.length:Int) < A.length - 1):=by omega
    repeat (first|apply wp_as|apply wp_ss|refine wr (by simp [h];with_reducible rfl) ?_|refine wq (by simp [h];with_reducible rfl) ?_|refine wt (by simpa [h]) ?_|refine wf (by simpa [h]) ?_|refine xt (by simpa [h]) ?_|refine xf (by simpa [h]) ?_|apply wp_bs|apply wp_b|refine wp_sr ?_|refine wp_sx ?_|refine wp_ret' ?_|refine wp_skip' ?_|refine wp_exit' ?_)
    exact ⟨rfl,_,_,rfl⟩
  | succ k ih =>
    intro A m B hk hl
    match m,hk,hl with
    | [],hk,hl =>
      refine wp_loop ?_
      have h:¬ ((A.length:Int) < A.length - 1):=by omega
      repeat (first|apply wp_as|apply wp_ss|refine wr (by simp [h];with_reducible rfl) ?_|refine wq (by simp [h];with_reducible rfl) ?_|refine wt (by simpa [h]) ?_|refine wf (by simpa [h]) ?_|refine xt (by simpa [h]) ?_|refine xf (by simpa [h]) ?_|apply wp_bs|apply wp_b|refine wp_sr ?_|refine wp_sx ?_|refine wp_ret' ?_|refine wp_skip' ?_|refine wp_exit' ?_)
      exact ⟨rfl,_,_,rfl⟩
    | [x],hk,hl =>
      refine wp_loop ?_
      repeat (first|apply wp_as|apply wp_ss|refine wr (by simp;with_reducible rfl) ?_|refine wq (by simp;with_reducible rfl) ?_|refine wt (by simpa) ?_|refine wf (by simpa) ?_|refine xt (by simpa) ?_|refine xf (by simpa) ?_|apply wp_bs|apply wp_b|refine wp_sr ?_|refine wp_sx ?_|refine wp_ret' ?_|refine wp_skip' ?_|refine wp_exit' ?_)
      exact ⟨rfl,_,_,rfl⟩
    | x::z::m',hk,hl =>
      obtain ⟨m,y,hm⟩:∃ m y,z::m'=m++[y]:=⟨(z::m').dropLast,(z::m').getLast (by simp),(List.dropLast_concat_getLast _).symm⟩
      rw [hm] at hk hl ⊢
      simp only [List.length_cons,List.length_append,List.length_nil] at hk hl
      have hj:(A.length:Int)+(x::(m++[y])).length - 1=(A.length:Int)+m.length+1:=by simp;omega
      rw [hj]
      simp only [List.cons_append,List.append_assoc,List.nil_append]
      refine wp_loop ?_
      have h:(A.length:Int) < A.length+m.length+1:=by omega
      have h2:A.length < A.length+(m.length+(B.length+1)+1):=by omega
      have h3:A.length+m.length+1 < A.length+(m.length+(B.length+1)+1):=by omega
      have w1:IntKind.i64.wrap ((A.length:Int)+1)=((A++[y]).length:Int):=by rw [wrap64 (by omega) (by omega)];simp
      have w2:IntKind.i64.wrap ((A.length:Int)+m.length)=((A++[y]).length:Int)+m.length - 1:=by rw [wrap64 (by omega) (by omega)];simp;omega
      repeat (first|apply wp_as|apply wp_ss|refine wr (by simp [h,h2,h3,w1,w2,rv_get,rv_getE,rv_set,natOf_add2,app_get0];with_reducible rfl) ?_|refine wq (by simp [h,h2,h3,w1,w2,rv_get,rv_getE,rv_set,natOf_add2,app_get0];with_reducible rfl) ?_|refine wt (by simpa [h,h2,h3,w1,w2,rv_get,rv_getE,rv_set,natOf_add2,app_get0]) ?_|refine wf (by simpa [h,h2,h3,w1,w2,rv_get,rv_getE,rv_set,natOf_add2,app_get0]) ?_|refine xt (by simpa [h,h2,h3,w1,w2,rv_get,rv_getE,rv_set,natOf_add2,app_get0]) ?_|refine xf (by simpa [h,h2,h3,w1,w2,rv_get,rv_getE,rv_set,natOf_add2,app_get0]) ?_|apply wp_bs|apply wp_b|refine wp_sr ?_|refine wp_sx ?_|refine wp_ret' ?_|refine wp_skip' ?_|refine wp_exit' ?_)
      have:=ih (A++[y]) m (x::B) (by omega) (by simp;omega)
      simp at this ⊢
      exact this
theorem ev_Reverse (xs:List Int) (hl:xs.length≤2000000) (M:List Boxes) :
    Ev tb zl76 [0] [O xs] M ⟨.tup [],[O xs.reverse],M,[]⟩:=by
  have w1:IntKind.i64.wrap ((xs.length:Int) - 1)=(xs.length:Int) - 1:=wrap64 (by omega) (by omega)
  refine call_of_wp zt76 rfl ?_
  repeat (first|apply wp_as|apply wp_ss|refine wr (by simp [w1];with_reducible rfl) ?_|refine wq (by simp [w1];with_reducible rfl) ?_|refine wt (by simpa [w1]) ?_|refine wf (by simpa [w1]) ?_|refine xt (by simpa [w1]) ?_|refine xf (by simpa [w1]) ?_|apply wp_bs|apply wp_b|refine wp_sr ?_|refine wp_sx ?_|refine wp_ret' ?_|refine wp_skip' ?_|refine wp_exit' ?_)
  have:=revl M xs.length [] xs [] (by omega) (by simp;omega)
  simp at this
  refine wp_imp this ?_
  rintro ex st ⟨rfl,a,b,rfl⟩
  simp [zi76]
theorem ev_falling (xs:List Int) (c:Bool) (hl:xs.length≤12) :
    Ev tb zl37 [] [L xs c] [] ⟨O (fall xs),[],[],[]⟩:=by
  have e1:=ev_lim (ev_clone xs c (by omega))
  have e2:=ev_lim (ev_Sort xs hl [[]])
  have e3:=ev_lim (ev_Reverse (asc 0 [] xs) (by rw [asc_len];omega) [[]])
  refine call_of_wp zt37 rfl ?_
  repeat (first|apply wp_as|apply wp_ss|refine wr (by simp [e1,e2,e3,asc_rev];with_reducible rfl) ?_|refine wq (by simp [e1,e2,e3,asc_rev];with_reducible rfl) ?_|refine wt (by simpa [e1,e2,e3,asc_rev]) ?_|refine wf (by simpa [e1,e2,e3,asc_rev]) ?_|refine xt (by simpa [e1,e2,e3,asc_rev]) ?_|refine xf (by simpa [e1,e2,e3,asc_rev]) ?_|apply wp_bs|apply wp_b|refine wp_sr ?_|refine wp_sx ?_|refine wp_ret' ?_|refine wp_skip' ?_|refine wp_exit' ?_)
  simp [zi37]
theorem drop_get {xs:List Int} {i m:Nat} (h:i+(m+1)=xs.length):∃ h:i < xs.length,xs.drop i=xs[i]::xs.drop (i+1)∧xs[i] ∈ xs:=by
  have hi:i < xs.length:=by omega
  exact ⟨hi,List.drop_eq_getElem_cons hi,List.getElem_mem hi⟩
theorem drop_end {xs:List Int} {i:Nat} (h:i+0=xs.length):xs[i]? = none∧xs.drop i=[]:=by
  have:i=xs.length:=by omega
  subst this
  simp
def idx (p:Int→Bool):Int→List Int→Int
  | _,[]=>-1
  | i,x::r=>if p x then i else idx p (i+1) r
theorem ev_IndexFunc (xs:List Int) (c:Bool) (F:Lab) (caps:List IV) (M:List Boxes) (p:Int→Bool) (hl:xs.length≤2000000)
    (hp:∀ x ∈ xs,Ev tb F [] (I x::caps) (M++[[]]) ⟨Bo (p x),[],M++[[]],[]⟩) :
    Ev tb zl73 [] [L xs c,.fn F caps] M ⟨I (idx p 0 xs),[],M,[]⟩:=by
  have loop:∀ (m i:Nat),i+m=xs.length→wp tb (.loop z73l7) { T:=[(0,L xs c),(1,.fn F caps),(7,I xs.length),(8,I i)],loc:=[],M:=M }
      (fun ex st=>(ex=.exit 0∧idx p i (xs.drop i)=-1∧st={ T:=[(0,L xs c),(1,.fn F caps),(7,I xs.length),(8,I xs.length),(9,Bo false)],loc:=[],M:=M }) ∨
        ex=.ret∧st={ T:=[(4,I (idx p i (xs.drop i)))],loc:=[],M:=M }):=by
    intro m
    induction m with
    | zero =>
      intro i hi
      obtain ⟨h1,h2⟩:=drop_end hi
      have h3:i=xs.length:=hi
      subst h3
      refine wp_loop ?_
      repeat (first|apply wp_as|apply wp_ss|refine wr (by simp;with_reducible rfl) ?_|refine wq (by simp;with_reducible rfl) ?_|refine wt (by simpa) ?_|refine wf (by simpa) ?_|refine xt (by simpa) ?_|refine xf (by simpa) ?_|apply wp_bs|apply wp_b|refine wp_sr ?_|refine wp_sx ?_|refine wp_ret' ?_|refine wp_skip' ?_|refine wp_exit' ?_)
      refine .inl ⟨rfl,by rw [h2];rfl,rfl⟩
    | succ m ih =>
      intro i hi
      obtain ⟨hi2,h2,h3⟩:=drop_get hi
      have e1:=ev_lim (hp _ h3)
      have w1:IntKind.i64.wrap ((i:Int)+1)=((i+1:Nat):Int):=wrapS (by omega)
      rw [h2]
      cases hpx:p xs[i] with
      | true =>
        refine wp_loop ?_
        repeat (first|apply wp_as|apply wp_ss|refine wr (by simp [e1,hi2,w1,hpx];with_reducible rfl) ?_|refine wq (by simp [e1,hi2,w1,hpx];with_reducible rfl) ?_|refine wt (by simpa [e1,hi2,w1,hpx]) ?_|refine wf (by simpa [e1,hi2,w1,hpx]) ?_|refine xt (by simpa [e1,hi2,w1,hpx]) ?_|refine xf (by simpa [e1,hi2,w1,hpx]) ?_|apply wp_bs|apply wp_b|refine wp_sr ?_|refine wp_sx ?_|refine wp_ret' ?_|refine wp_skip' ?_|refine wp_exit' ?_)
        refine .inr ⟨rfl,by simp [idx,hpx]⟩
      | false =>
        refine wp_loop ?_
        repeat (first|apply wp_as|apply wp_ss|refine wr (by simp [e1,hi2,w1,hpx];with_reducible rfl) ?_|refine wq (by simp [e1,hi2,w1,hpx];with_reducible rfl) ?_|refine wt (by simpa [e1,hi2,w1,hpx]) ?_|refine wf (by simpa [e1,hi2,w1,hpx]) ?_|refine xt (by simpa [e1,hi2,w1,hpx]) ?_|refine xf (by simpa [e1,hi2,w1,hpx]) ?_|apply wp_bs|apply wp_b|refine wp_sr ?_|refine wp_sx ?_|refine wp_ret' ?_|refine wp_skip' ?_|refine wp_exit' ?_)
        have:=ih (i+1) (by omega)
        simp only [idx,hpx] at this ⊢
        exact this
  refine call_of_wp zt73 rfl ?_
  repeat (first|apply wp_as|apply wp_ss|refine wr (by simp;with_reducible rfl) ?_|refine wq (by simp;with_reducible rfl) ?_|refine wt (by simpa) ?_|refine wf (by simpa) ?_|refine xt (by simpa) ?_|refine xf (by simpa) ?_|apply wp_bs|apply wp_b|refine wp_sr ?_|refine wp_sx ?_|refine wp_ret' ?_|refine wp_skip' ?_|refine wp_exit' ?_)
  refine wp_imp (loop xs.length 0 (by simp)) ?_
  rintro ex st (⟨rfl,h,rfl⟩ | ⟨rfl,rfl⟩)
  · simp only [if_true]
    repeat (first|apply wp_as|apply wp_ss|refine wr (by simp;with_reducible rfl) ?_|refine wq (by simp;with_reducible rfl) ?_|refine wt (by simpa) ?_|refine wf (by simpa) ?_|refine xt (by simpa) ?_|refine xf (by simpa) ?_|apply wp_bs|apply wp_b|refine wp_sr ?_|refine wp_sx ?_|refine wp_ret' ?_|refine wp_skip' ?_|refine wp_exit' ?_)
    simp at h
    simp [zi73,h]
  · simp [zi73]
end Go.Idl
namespace Go.Idl
open Go
theorem ev_allIn_F1 (x lo hi:Int):Ev tb zl30 [] [I x,.bptr 0 0 0,.bptr 0 1 0] [[[I lo],[I hi]],[],[]] ⟨Bo (!(decide (lo≤x) && decide (x≤hi))),[],[[[I lo],[I hi]],[],[]],[]⟩:=by
  have e1:=ev_lim (ev_in x lo hi)
  refine call_of_wp zt30 rfl ?_
  repeat (first|apply wp_as|apply wp_ss|refine wr (by simp [e1];with_reducible rfl) ?_|refine wq (by simp [e1];with_reducible rfl) ?_|refine wt (by simpa [e1]) ?_|refine wf (by simpa [e1]) ?_|refine xt (by simpa [e1]) ?_|refine xf (by simpa [e1]) ?_|apply wp_bs|apply wp_b|refine wp_sr ?_|refine wp_sx ?_|refine wp_ret' ?_|refine wp_skip' ?_|refine wp_exit' ?_)
  simp [zi30]
theorem ev_ContainsFunc (xs:List Int) (c:Bool) (F:Lab) (caps:List IV) (M:List Boxes) (p:Int→Bool) (hl:xs.length≤2000000)
    (hp:∀ x ∈ xs,Ev tb F [] (I x::caps) (M++[[],[]]) ⟨Bo (p x),[],M++[[],[]],[]⟩) :
    Ev tb zl72 [] [L xs c,.fn F caps] M ⟨Bo (decide (0≤idx p 0 xs)),[],M,[]⟩:=by
  have e1:=ev_lim (ev_IndexFunc xs c F caps (M++[[]]) p hl (by simpa using hp))
  refine call_of_wp zt72 rfl ?_
  repeat (first|apply wp_as|apply wp_ss|refine wr (by simp [e1];with_reducible rfl) ?_|refine wq (by simp [e1];with_reducible rfl) ?_|refine wt (by simpa [e1]) ?_|refine wf (by simpa [e1]) ?_|refine xt (by simpa [e1]) ?_|refine xf (by simpa [e1]) ?_|apply wp_bs|apply wp_b|refine wp_sr ?_|refine wp_sx ?_|refine wp_ret' ?_|refine wp_skip' ?_|refine wp_exit' ?_)
  simp [zi72]
theorem idx_ge (p:Int→Bool):∀ (xs:List Int) (i:Int),0≤i→(decide (0≤idx p i xs)=xs.any p)
  | [],i,h=>by simp [idx]
  | x::r,i,h=>by
    unfold idx
    cases hp:p x with
    | true=>simp [hp,h]
    | false=>simp [hp];simpa using idx_ge p r (i+1) (by omega)
theorem ev_allIn (xs:List Int) (c:Bool) (lo hi:Int) (hl:xs.length≤2000000) :
    Ev tb zl29 [] [L xs c,I lo,I hi] [] ⟨Bo (xs.all fun x=>decide (lo≤x) && decide (x≤hi)),[],[],[]⟩:=by
  have e1:=ev_lim (ev_ContainsFunc xs c zl30 [.bptr 0 0 0,.bptr 0 1 0] [[[I lo],[I hi]]] _ hl (fun x _=>ev_allIn_F1 x lo hi))
  refine call_of_wp zt29 rfl ?_
  repeat (first|apply wp_as|apply wp_ss|refine wr (by simp [e1,idx_ge];with_reducible rfl) ?_|refine wq (by simp [e1,idx_ge];with_reducible rfl) ?_|refine wt (by simpa [e1,idx_ge]) ?_|refine wf (by simpa [e1,idx_ge]) ?_|refine xt (by simpa [e1,idx_ge]) ?_|refine xf (by simpa [e1,idx_ge]) ?_|apply wp_bs|apply wp_b|refine wp_sr ?_|refine wp_sx ?_|refine wp_ret' ?_|refine wp_skip' ?_|refine wp_exit' ?_)
  simp [zi29,List.all_eq_not_any_not]
def valid (d:List Int):Bool:=decide (d.length≤7) && d.all fun x=>decide (0≤x) && decide (x < d.length)
theorem ev_ValidDegrees (xs:List Int) (c:Bool) (hl:xs.length≤2000000):Ev tb zl25 [] [L xs c] [] ⟨Bo (valid xs),[],[],[]⟩:=by
  have e1:=ev_lim (ev_allIn xs c 0 ((xs.length:Int) - 1) hl)
  have w1:IntKind.i64.wrap ((xs.length:Int) - 1)=(xs.length:Int) - 1:=wrap64 (by omega) (by omega)
  have hx:∀ x:Int,(x≤(xs.length:Int) - 1) ↔ x < (xs.length:Int):=fun x=>by omega
  simp only [hx] at e1
  have h2:((xs.length:Int)≤7) ↔ xs.length≤7:=by omega
  by_cases h:xs.length≤7
  · refine call_of_wp zt25 rfl ?_
    repeat (first|apply wp_as|apply wp_ss|refine wr (by simp [e1,w1,h2,h];with_reducible rfl) ?_|refine wq (by simp [e1,w1,h2,h];with_reducible rfl) ?_|refine wt (by simpa [e1,w1,h2,h]) ?_|refine wf (by simpa [e1,w1,h2,h]) ?_|refine xt (by simpa [e1,w1,h2,h]) ?_|refine xf (by simpa [e1,w1,h2,h]) ?_|apply wp_bs|apply wp_b|refine wp_sr ?_|refine wp_sx ?_|refine wp_ret' ?_|refine wp_skip' ?_|refine wp_exit' ?_)
    simp [zi25,valid,h]
  · refine call_of_wp zt25 rfl ?_
    repeat (first|apply wp_as|apply wp_ss|refine wr (by simp [e1,w1,h2,h];with_reducible rfl) ?_|refine wq (by simp [e1,w1,h2,h];with_reducible rfl) ?_|refine wt (by simpa [e1,w1,h2,h]) ?_|refine wf (by simpa [e1,w1,h2,h]) ?_|refine xt (by simpa [e1,w1,h2,h]) ?_|refine xf (by simpa [e1,w1,h2,h]) ?_|apply wp_bs|apply wp_b|refine wp_sr ?_|refine wp_sx ?_|refine wp_ret' ?_|refine wp_skip' ?_|refine wp_exit' ?_)
    simp [zi25,valid,h]
theorem ev_copyInts (xs:List Int) (c:Bool) (hl:xs.length≤2000000):Ev tb zl123 [] [L xs c] [] ⟨O xs,[],[],[]⟩:=by
  refine call_of_wp zt123 rfl ?_
  repeat (first|apply wp_as|apply wp_ss|refine wr (by simp [show xs.length≤274877906944 by omega];with_reducible rfl) ?_|refine wq (by simp [show xs.length≤274877906944 by omega];with_reducible rfl) ?_|refine wt (by simpa [show xs.length≤274877906944 by omega]) ?_|refine wf (by simpa [show xs.length≤274877906944 by omega]) ?_|refine xt (by simpa [show xs.length≤274877906944 by omega]) ?_|refine xf (by simpa [show xs.length≤274877906944 by omega]) ?_|apply wp_bs|apply wp_b|refine wp_sr ?_|refine wp_sx ?_|refine wp_ret' ?_|refine wp_skip' ?_|refine wp_exit' ?_)
  simp [zi123]
end Go.Idl
namespace Go.Idl
open Go
def bytes (xs:List Int):List (List IV):=xs.map fun n=>[.sc (.int .u8 n)]
@[simp] theorem bytes_len (xs:List Int):(bytes xs).length=xs.length:=by simp [bytes]
@[simp] theorem bytes_take (xs:List Int) (n:Nat):(bytes xs).take n=bytes (xs.take n):=by simp [bytes,List.map_take]
@[simp] theorem bytes_get? (xs:List Int) (i:Nat):(bytes xs)[i]? = xs[i]?.map fun n=>[IV.sc (.int .u8 n)]:=by simp [bytes]
@[simp] theorem bytes_get (xs:List Int) (i:Nat) (h:i < (bytes xs).length):(bytes xs)[i]=[IV.sc (.int .u8 (xs[i]'(by simpa [bytes] using h)))]:=by simp [bytes]
@[simp] theorem bytes_emp (xs:List Int):(bytes xs).isEmpty=xs.isEmpty:=by cases xs <;> rfl
@[simp] theorem bytes_all1 (xs:List Int):((bytes xs).all fun x=>x.all IV.plain1)=true:=by
  induction xs with
  | nil=>rfl
  | cons x xs ih=>simp only [bytes,List.map_cons,List.all_cons] at *;rw [ih];rfl
@[simp] theorem bytes_all2 (xs:List Int):((bytes xs).all fun x=>x.all IV.isData)=true:=by
  induction xs with
  | nil=>rfl
  | cons x xs ih=>simp only [bytes,List.map_cons,List.all_cons] at *;rw [ih];rfl
@[simp] theorem bytes_noLst (xs:List Int):noLstLL (bytes xs)=true:=by
  induction xs with
  | nil=>rfl
  | cons x xs ih=>simp only [bytes,List.map_cons,noLstLL,noLstL,noLstV] at *;rw [ih];rfl
abbrev R (code:List Int) (c:Bool) (n:Int):List IV:=[.lst 1 (bytes code) c,I n]
def CodeOk (code:List Int):Prop:=code.length≤2000∧∀ x ∈ code,0≤x∧x≤255
theorem xor_ok (a b:Nat) (ha:a < 2 ^ 40) (hb:b < 2 ^ 40):∃ n:Nat,n < 2 ^ 40∧binOp .xor 0 (Value.int .i64 a) (Value.int .i64 b)=Sem.pure (Value.int .i64 n):=by
  refine ⟨a ^^^ b,Nat.xor_lt_two_pow ha hb,?_⟩
  have h:=Nat.xor_lt_two_pow ha hb
  have e:IntKind.i64.wrap (((BitVec.ofInt 64 (a:Int)) ^^^ (BitVec.ofInt 64 (b:Int))).toNat:Int)=((a ^^^ b:Nat):Int):=by
    have h1:((BitVec.ofInt 64 (a:Int)) ^^^ (BitVec.ofInt 64 (b:Int))).toNat=a ^^^ b:=by
      rw [BitVec.toNat_xor,BitVec.ofInt_natCast,BitVec.ofInt_natCast,BitVec.toNat_ofNat,BitVec.toNat_ofNat,Nat.mod_eq_of_lt (by omega),Nat.mod_eq_of_lt (by omega)]
    rw [h1,wrapN (by omega)]
  show Sem.pure (Value.int .i64 (IntKind.i64.wrap (((BitVec.ofInt 64 (a:Int)) ^^^ (BitVec.ofInt 64 (b:Int))).toNat:Int)))=_
  rw [e]
theorem tmod_range {x n:Int} (hx:0≤x) (hn:1≤n):0≤x.tmod n∧x.tmod n < n:=by
  rw [Int.tmod_eq_emod_of_nonneg hx]
  exact ⟨Int.emod_nonneg _ (by omega),Int.emod_lt_of_pos _ (by omega)⟩
theorem ev_pick (code:List Int) (c:Bool) (hc:CodeOk code) (cnt:Nat) (hn:cnt≤2000000) (n:Int) (hn2:n≤2000000) (bs:Boxes) (Ms:List Boxes) :
    ∃ v:Nat,(1≤n→(v:Int) < n)∧Ev tb zl140 [] [.bptr 0 0 0,I n] ((R code c cnt::bs)::Ms) ⟨I v,[],(R code c ((cnt+1:Nat):Int)::bs)::Ms,[]⟩:=by
  have w1:IntKind.i64.wrap ((cnt:Int)+1)=((cnt+1:Nat):Int):=wrapS (by omega)
  by_cases h1:n < 1
  · refine ⟨0,by omega,?_⟩
    refine call_of_wp zt140 rfl ?_
    repeat (first|apply wp_as|apply wp_ss|refine wr (by simp [w1,h1];with_reducible rfl) ?_|refine wq (by simp [w1,h1];with_reducible rfl) ?_|refine wt (by simpa [w1,h1]) ?_|refine wf (by simpa [w1,h1]) ?_|refine xt (by simpa [w1,h1]) ?_|refine xf (by simpa [w1,h1]) ?_|apply wp_bs|apply wp_b|refine wp_sr ?_|refine wp_sx ?_|refine wp_ret' ?_|refine wp_skip' ?_|refine wp_exit' ?_)
    simp [zi140]
  by_cases h2:code=[]
  · subst h2
    refine ⟨0,by omega,?_⟩
    refine call_of_wp zt140 rfl ?_
    repeat (first|apply wp_as|apply wp_ss|refine wr (by simp [w1,h1];with_reducible rfl) ?_|refine wq (by simp [w1,h1];with_reducible rfl) ?_|refine wt (by simpa [w1,h1]) ?_|refine wf (by simpa [w1,h1]) ?_|refine xt (by simpa [w1,h1]) ?_|refine xf (by simpa [w1,h1]) ?_|apply wp_bs|apply wp_b|refine wp_sr ?_|refine wp_sx ?_|refine wp_ret' ?_|refine wp_skip' ?_|refine wp_exit' ?_)
    simp [zi140]
  have h2':¬ (code.length:Int)=0:=by
    have:code.length ≠ 0:=fun h=>h2 (List.length_eq_zero_iff.1 h)
    omega
  have w2:IntKind.i64.wrap (cnt:Int)=(cnt:Int):=wrapN (by omega)
  have hn0:¬ n=0:=by omega
  by_cases h3:cnt < code.length
  · have hb:=hc.2 code[cnt] (List.getElem_mem h3)
    have w3:IntKind.i64.wrap code[cnt]=code[cnt]:=wrap64 (by omega) (by omega)
    have hr:=tmod_range hb.1 (n:=n) (by omega)
    obtain ⟨v,hv⟩:=Int.eq_ofNat_of_zero_le hr.1
    rw [hv] at hr
    refine ⟨v,fun _=>hr.2,?_⟩
    refine call_of_wp zt140 rfl ?_
    repeat (first|apply wp_as|apply wp_ss|refine wr (by simp [w1,w2,h1,h2,h2',h3,w3,hn0,hv];with_reducible rfl) ?_|refine wq (by simp [w1,w2,h1,h2,h2',h3,w3,hn0,hv];with_reducible rfl) ?_|refine wt (by simpa [w1,w2,h1,h2,h2',h3,w3,hn0,hv]) ?_|refine wf (by simpa [w1,w2,h1,h2,h2',h3,w3,hn0,hv]) ?_|refine xt (by simpa [w1,w2,h1,h2,h2',h3,w3,hn0,hv]) ?_|refine xf (by simpa [w1,w2,h1,h2,h2',h3,w3,hn0,hv]) ?_|apply wp_bs|apply wp_b|refine wp_sr ?_|refine wp_sx ?_|refine wp_ret' ?_|refine wp_skip' ?_|refine wp_exit' ?_)
    simp [zi140]
  have hl0:0 < code.length:=by omega
  have hlen:=hc.1
  obtain ⟨i1,hi1,m1⟩:∃ i1:Nat,i1 < code.length∧(cnt:Int).tmod (code.length:Int)=(i1:Int) :=
    ⟨cnt % code.length,Nat.mod_lt _ hl0,rfl⟩
  obtain ⟨i2,hi2,m2⟩:∃ i2:Nat,i2 < code.length∧((cnt:Int) * 7+3).tmod (code.length:Int)=(i2:Int) :=
    ⟨(cnt * 7+3) % code.length,Nat.mod_lt _ hl0,rfl⟩
  obtain ⟨q,hq,m3⟩:∃ q:Nat,q≤cnt∧(cnt:Int).tdiv (code.length:Int)=(q:Int) :=
    ⟨cnt / code.length,Nat.div_le_self _ _,rfl⟩
  have hb1:=hc.2 code[i1] (List.getElem_mem hi1)
  have hb2:=hc.2 code[i2] (List.getElem_mem hi2)
  generalize hx1:code[i1]=b1 at hb1
  generalize hx2:code[i2]=b2 at hb2
  have v1:IntKind.i64.wrap b1=b1:=wrap64 (by omega) (by omega)
  have v2:IntKind.i64.wrap b2=b2:=wrap64 (by omega) (by omega)
  have v3:IntKind.i64.wrap (b1 * 131)=b1 * 131:=wrap64 (by omega) (by omega)
  have v4:IntKind.i64.wrap (b2 * 1117)=b2 * 1117:=wrap64 (by omega) (by omega)
  have v5:IntKind.i64.wrap (b1 * 131+b2 * 1117)=b1 * 131+b2 * 1117:=wrap64 (by omega) (by omega)
  have v6:IntKind.i64.wrap ((cnt:Int) * 7)=(cnt:Int) * 7:=wrap64 (by omega) (by omega)
  have v7:IntKind.i64.wrap ((cnt:Int) * 7+3)=(cnt:Int) * 7+3:=wrap64 (by omega) (by omega)
  have v8:IntKind.i64.wrap ((cnt:Int) * 29)=(cnt:Int) * 29:=wrap64 (by omega) (by omega)
  have v9:IntKind.i64.wrap (q:Int)=(q:Int):=wrap64 (by omega) (by omega)
  have v10:IntKind.i64.wrap ((q:Int) * 53)=(q:Int) * 53:=wrap64 (by omega) (by omega)
  have v11:IntKind.i64.wrap (b1 * 131+b2 * 1117+(cnt:Int) * 29)=b1 * 131+b2 * 1117+(cnt:Int) * 29:=wrap64 (by omega) (by omega)
  obtain ⟨x,hx,ex⟩:∃ x:Nat,x < 2 ^ 40∧b1 * 131+b2 * 1117+(cnt:Int) * 29+(q:Int) * 53=(x:Int) :=
    ⟨(b1 * 131+b2 * 1117+(cnt:Int) * 29+(q:Int) * 53).toNat,by omega,by omega⟩
  have v12:IntKind.i64.wrap (x:Int)=(x:Int):=wrap64 (by omega) (by omega)
  obtain ⟨y,hy,ey⟩:∃ y:Nat,y < 2 ^ 40∧(x:Int).tdiv 64=(y:Int):=⟨x / 64,by omega,rfl⟩
  have ey2:(x:Int) / 64=(y:Int):=ey
  have v13:IntKind.i64.wrap (y:Int)=(y:Int):=wrap64 (by omega) (by omega)
  obtain ⟨z,hz,ez⟩:=xor_ok x y hx hy
  have hr:=tmod_range (x:=(z:Int)) (by omega) (n:=n) (by omega)
  obtain ⟨v,hv⟩:=Int.eq_ofNat_of_zero_le hr.1
  rw [hv] at hr
  refine ⟨v,fun _=>hr.2,?_⟩
  refine call_of_wp zt140 rfl ?_
  repeat (first|apply wp_as|apply wp_ss|refine wr (by simp [w1,w2,h1,h2,h2',h3,hn0,m1,m2,m3,hi1,hi2,hx1,hx2,v1,v2,v3,v4,v5,v6,v7,v8,v9,v10,v11,ex,v12,ey,ey2,v13,ez,hv];with_reducible rfl) ?_|refine wq (by simp [w1,w2,h1,h2,h2',h3,hn0,m1,m2,m3,hi1,hi2,hx1,hx2,v1,v2,v3,v4,v5,v6,v7,v8,v9,v10,v11,ex,v12,ey,ey2,v13,ez,hv];with_reducible rfl) ?_|refine wt (by simpa [w1,w2,h1,h2,h2',h3,hn0,m1,m2,m3,hi1,hi2,hx1,hx2,v1,v2,v3,v4,v5,v6,v7,v8,v9,v10,v11,ex,v12,ey,ey2,v13,ez,hv]) ?_|refine wf (by simpa [w1,w2,h1,h2,h2',h3,hn0,m1,m2,m3,hi1,hi2,hx1,hx2,v1,v2,v3,v4,v5,v6,v7,v8,v9,v10,v11,ex,v12,ey,ey2,v13,ez,hv]) ?_|refine xt (by simpa [w1,w2,h1,h2,h2',h3,hn0,m1,m2,m3,hi1,hi2,hx1,hx2,v1,v2,v3,v4,v5,v6,v7,v8,v9,v10,v11,ex,v12,ey,ey2,v13,ez,hv]) ?_|refine xf (by simpa [w1,w2,h1,h2,h2',h3,hn0,m1,m2,m3,hi1,hi2,hx1,hx2,v1,v2,v3,v4,v5,v6,v7,v8,v9,v10,v11,ex,v12,ey,ey2,v13,ez,hv]) ?_|apply wp_bs|apply wp_b|refine wp_sr ?_|refine wp_sx ?_|refine wp_ret' ?_|refine wp_skip' ?_|refine wp_exit' ?_)
  simp [zi140]
theorem ev_newReader (code:List Int) (c:Bool) (M:List Boxes) (hl:code.length≤274877906944) :
    ∃ c',Ev tb zl137 [] [.lst 1 (bytes code) c] M ⟨.bptr M.length 0 0,[],M,[R (code.take 2000) c' 0]⟩:=by
  have hi:((code.length:Int)≤2000) ↔ code.length≤2000:=by omega
  by_cases h:2000 < code.length
  · refine ⟨false,?_⟩
    have h2:¬ code.length≤2000:=by omega
    have h3:(2000:Int) < code.length:=by omega
    refine call_of_wp zt137 rfl ?_
    repeat (first|apply wp_as|apply wp_ss|refine wr (by simp [h,h2,h3,show 2000≤code.length by omega,natOf];with_reducible rfl) ?_|refine wq (by simp [h,h2,h3,show 2000≤code.length by omega,natOf];with_reducible rfl) ?_|refine wt (by simpa [h,h2,h3,show 2000≤code.length by omega,natOf]) ?_|refine wf (by simpa [h,h2,h3,show 2000≤code.length by omega,natOf]) ?_|refine xt (by simpa [h,h2,h3,show 2000≤code.length by omega,natOf]) ?_|refine xf (by simpa [h,h2,h3,show 2000≤code.length by omega,natOf]) ?_|apply wp_bs|apply wp_b|refine wp_sr ?_|refine wp_sx ?_|refine wp_ret' ?_|refine wp_skip' ?_|refine wp_exit' ?_)
    simp [zi137,h2,h3]
    intro _;omega
  · refine ⟨c,?_⟩
    have h2:code.length≤2000:=by omega
    have h3:¬ (2000:Int) < code.length:=by omega
    refine call_of_wp zt137 rfl ?_
    repeat (first|apply wp_as|apply wp_ss|refine wr (by simp [h,h2,h3];with_reducible rfl) ?_|refine wq (by simp [h,h2,h3];with_reducible rfl) ?_|refine wt (by simpa [h,h2,h3]) ?_|refine wf (by simpa [h,h2,h3]) ?_|refine xt (by simpa [h,h2,h3]) ?_|refine xf (by simpa [h,h2,h3]) ?_|apply wp_bs|apply wp_b|refine wp_sr ?_|refine wp_sx ?_|refine wp_ret' ?_|refine wp_skip' ?_|refine wp_exit' ?_)
    simp [zi137,List.take_of_length_le h2]
theorem ev_one (code:List Int) (c:Bool) (hc:CodeOk code) (cnt:Nat) (hn:cnt≤2000000) (xs:List Int) (d:Bool) (hl:0 < xs.length∧xs.length≤1000) (bs:Boxes) (Ms:List Boxes) :
    ∃ x:Int,x ∈ xs∧Ev tb zl139 [] [.bptr 0 0 0,L xs d] ((R code c cnt::bs)::Ms) ⟨I x,[],(R code c ((cnt+1:Nat):Int)::bs)::Ms,[]⟩:=by
  obtain ⟨v,hv,e⟩:=ev_pick code c hc cnt hn (xs.length:Int) (by omega) bs (Ms++[[]])
  have hv:=hv (by omega)
  have hv2:v < xs.length:=by omega
  have e1:=ev_lim e
  refine ⟨xs[v],List.getElem_mem hv2,?_⟩
  refine call_of_wp zt139 rfl ?_
  repeat (first|apply wp_as|apply wp_ss|refine wr (by simp [e1,hv2];with_reducible rfl) ?_|refine wq (by simp [e1,hv2];with_reducible rfl) ?_|refine wt (by simpa [e1,hv2]) ?_|refine wf (by simpa [e1,hv2]) ?_|refine xt (by simpa [e1,hv2]) ?_|refine xf (by simpa [e1,hv2]) ?_|apply wp_bs|apply wp_b|refine wp_sr ?_|refine wp_sx ?_|refine wp_ret' ?_|refine wp_skip' ?_|refine wp_exit' ?_)
  simp [zi139]
end Go.Idl
namespace Go.Idl
open Go
def eds (xs:List (Int×Int)):List (List IV):=xs.map fun e=>[I e.1,I e.2]
abbrev O2 (xs:List (Int×Int)):IV:=.own 2 (eds xs)
@[simp] theorem eds_len (xs:List (Int×Int)):(eds xs).length=xs.length:=by simp [eds]
@[simp] theorem eds_nil:eds []=[]:=rfl
@[simp] theorem eds_take (xs:List (Int×Int)) (n:Nat):(eds xs).take n=eds (xs.take n):=by simp [eds,List.map_take]
@[simp] theorem eds_drop (xs:List (Int×Int)) (n:Nat):(eds xs).drop n=eds (xs.drop n):=by simp [eds,List.map_drop]
@[simp] theorem eds_app (xs ys:List (Int×Int)):eds xs++eds ys=eds (xs++ys):=by simp [eds]
@[simp] theorem eds_one (xs:List (Int×Int)) (a b:Int):eds xs++[[IV.sc (.int .i64 a),IV.sc (.int .i64 b)]]=eds (xs++[(a,b)]):=by simp [eds]
@[simp] theorem eds_get? (xs:List (Int×Int)) (i:Nat):(eds xs)[i]? = xs[i]?.map fun e=>[IV.sc (.int .i64 e.1),IV.sc (.int .i64 e.2)]:=by simp [eds]
@[simp] theorem eds_get (xs:List (Int×Int)) (i:Nat) (h:i < (eds xs).length):(eds xs)[i]=[IV.sc (.int .i64 (xs[i]'(by simpa [eds] using h)).1),IV.sc (.int .i64 (xs[i]'(by simpa [eds] using h)).2)]:=by simp [eds]
@[simp] theorem eds_emp (xs:List (Int×Int)):(eds xs).isEmpty=xs.isEmpty:=by cases xs <;> rfl
@[simp] theorem eds_set (xs:List (Int×Int)) (i:Nat) (a b:Int):(eds xs).set i [IV.sc (.int .i64 a),IV.sc (.int .i64 b)]=eds (xs.set i (a,b)):=by
  simp [eds,List.map_set]
@[simp] theorem eds_all1 (xs:List (Int×Int)):((eds xs).all fun x=>x.all IV.plain1)=true:=by
  induction xs with
  | nil=>rfl
  | cons x xs ih=>simp only [eds,List.map_cons,List.all_cons] at *;rw [ih];rfl
@[simp] theorem eds_all2 (xs:List (Int×Int)):((eds xs).all fun x=>x.all IV.isData)=true:=by
  induction xs with
  | nil=>rfl
  | cons x xs ih=>simp only [eds,List.map_cons,List.all_cons] at *;rw [ih];rfl
@[simp] theorem eds_noLst (xs:List (Int×Int)):noLstLL (eds xs)=true:=by
  induction xs with
  | nil=>rfl
  | cons x xs ih=>simp only [eds,List.map_cons,noLstLL,noLstL,noLstV] at *;rw [ih];rfl
@[simp] theorem frz_eds (xs:List (Int×Int)):frzLL (eds xs)=eds xs:=by
  induction xs with
  | nil=>rfl
  | cons x xs ih=>simp only [eds,List.map_cons,frzLL,frzL,frzV] at *;rw [ih]
def row (a b:Nat):Nat→List (Int×Int)
  | 0=>[]
  | m+1=>((a:Int),(b:Int))::row a (b+1) m
def isE (a b:Int) (e:Int×Int):Bool:=decide (e.1=a) && decide (e.2=b) || decide (e.1=b) && decide (e.2=a)
def has (es:List (Int×Int)) (a b:Int):Bool:=es.any (isE a b)
end Go.Idl
namespace Go.Idl
open Go
theorem call_ex {f:Lab} {fn:IFun} (hf:tb f=some fn) {lent:List Nat} {args:List IV} {M:List Boxes} (hl:lent.all fn.keep.contains=true) {P:Ret→Prop}
    (h:wp tb fn.body { T:=args.zipIdx.map fun (v,i)=>(i,v),loc:=[],M:=M } fun ex st=>(ex=.normal ∨ ex=.ret)∧∃ r,P r∧finish fn lent st=some r):∃ r,P r∧Ev tb f lent args M r:=by
  obtain ⟨ex,st',⟨h1,r,hP,h2⟩,-,back⟩:=wp_sound h
  exact ⟨r,hP,call_of_wp hf hl (back _ ⟨h1,h2⟩)⟩
theorem pick' (code:List Int) (c:Bool) (hc:CodeOk code) (cnt:Nat) (hn:cnt≤2000000) (n:Int) (hn2:n≤2000000) (bs:Boxes) (Ms:List Boxes) :
    ∃ v k:Nat,(1≤n→(v:Int) < n)∧k≤cnt+1∧limF tb zl140 [] [.bptr 0 0 0,I n] ((R code c cnt::bs)::Ms)=some ⟨I v,[],(R code c k::bs)::Ms,[]⟩:=by
  obtain ⟨v,h,e⟩:=ev_pick code c hc cnt hn n hn2 bs Ms
  exact ⟨v,cnt+1,h,by omega,ev_lim e⟩
end Go.Idl
namespace Go.Idl
theorem sumB {B:Int} (hB:0≤B):∀ {xs:List Int},(∀ x ∈ xs,0≤x∧x≤B)→0≤xs.sum∧xs.sum≤B * xs.length
  | [],_=>by simp
  | x::r,h=>by
    have h1:=h x (by simp)
    have h2:=sumB hB (xs:=r) (fun y hy=>h y (by simp [hy]))
    have e:B * ((x::r).length:Int)=B * r.length+B:=by
      rw [List.length_cons,Int.natCast_add,Int.mul_add];simp
    rw [List.sum_cons,e]
    omega
def least (xs:List Int):Int:=xs.foldl (fun n x=>min n x) 0
theorem least_aux:∀ (xs:List Int) (n:Int),xs.foldl (fun n x=>min n x) n≤n∧((xs.foldl (fun n x=>min n x) n=n) ↔ ∀ x ∈ xs,n≤x)
  | [],n=>by simp
  | x::r,n=>by
    obtain ⟨h1,h2⟩:=least_aux r (min n x)
    simp only [List.foldl_cons,List.mem_cons,forall_eq_or_imp]
    by_cases hx:n≤x
    · rw [Int.min_eq_left hx] at h1 h2 ⊢
      exact ⟨h1,h2.trans ⟨fun h=>⟨hx,h⟩,fun h=>h.2⟩⟩
    · rw [Int.min_eq_right (by omega)] at h1 h2 ⊢
      exact ⟨by omega,⟨fun h=>by omega,fun h=>absurd h.1 hx⟩⟩
theorem least_zero (xs:List Int):least xs=0 ↔ ∀ x ∈ xs,0≤x:=(least_aux xs 0).2
end Go.Idl
namespace Go.Idl
open Go
abbrev Z:IV:=.lst 0 [] true
def Few (xs:List Int):Prop:=xs.length≤7∧∀ x ∈ xs,0≤x∧x≤6
theorem valid_few {xs:List Int} (h:valid xs=true):Few xs:=by
  simp only [valid,Bool.and_eq_true,decide_eq_true_eq,List.all_eq_true] at h
  refine ⟨h.1,fun x hx=>?_⟩
  have:=h.2 x hx
  omega
theorem Few.small {xs:List Int} (h:Few xs):SmallSum xs:=by
  refine ⟨by have:=h.1;omega,fun k=>?_⟩
  have h1:=sumB (B:=6) (by omega) (xs:=xs.take k) (fun x hx=>h.2 x (List.mem_of_mem_take hx))
  have h2:(xs.take k).length≤7:=by have:=h.1;simp;omega
  omega
theorem Few.take {xs:List Int} (h:Few xs) (k:Nat):Few (xs.take k):=⟨by have:=h.1;simp;omega,fun x hx=>h.2 x (List.mem_of_mem_take hx)⟩
theorem Few.drop {xs:List Int} (h:Few xs) (k:Nat):Few (xs.drop k):=⟨by have:=h.1;simp;omega,fun x hx=>h.2 x (List.mem_of_mem_drop hx)⟩
theorem Few.fall {xs:List Int} (h:Few xs):Few (fall xs):=⟨by rw [fall_len];exact h.1,fun x hx=>h.2 x (fall_mem.1 hx)⟩
theorem Few.sum {xs:List Int} (h:Few xs):0≤xs.sum∧xs.sum≤42:=by
  have h1:=sumB (B:=6) (by omega) h.2
  have:=h.1
  omega
def mapR (n:Nat) (g:Nat→Int):List Int:=(List.range n).map g
theorem mapR_succ_set {n i:Nat} (g:Nat→Int) (h:i < n):(mapR i g++List.replicate (n - i) 0).set i (g i)=mapR (i+1) g++List.replicate (n - (i+1)) 0:=by
  have e:n - i=(n - (i+1))+1:=by omega
  rw [e,List.replicate_succ,List.set_append_right _ _ (by simp [mapR])]
  simp [mapR,List.range_succ]
@[simp] theorem ints_rep (n:Nat):List.replicate n [IV.sc (.int .i64 0)]=ints (List.replicate n 0):=by simp [ints]
theorem ev_each (xs:List Int) (c:Bool) (F:Lab) (caps:List IV) (M:List Boxes) (g:Nat→Int) (hv:valid xs=true)
    (hF:∀ k,k < xs.length→Ev tb F [] (I k::caps) (M++[[]]) ⟨I (g k),[],M++[[]],[]⟩) :
    Ev tb zl35 [] [L xs c,.fn F caps] M ⟨O (mapR xs.length g),[],M,[]⟩:=by
  have hl:xs.length≤7:=(valid_few hv).1
  have e1:=ev_lim (ev_ValidDegrees xs c (by omega))
  have loop:∀ (m i:Nat),i+m=xs.length→wp tb (.loop z35l9) { T:=[(1,.fn F caps),(5,O (mapR i g++List.replicate (xs.length - i) 0)),(14,I xs.length),(15,I i)],loc:=[],M:=M }
      (fun ex st=>ex=.exit 0∧st={ T:=[(1,.fn F caps),(5,O (mapR xs.length g)),(14,I xs.length),(15,I xs.length),(16,Bo false)],loc:=[],M:=M }):=by
    intro m
    induction m with
    | zero =>
      intro i hi
      have h3:i=xs.length:=hi
      subst h3
      refine wp_loop ?_
      repeat (first|apply wp_as|apply wp_ss|refine wr (by simp;with_reducible rfl) ?_|refine wq (by simp;with_reducible rfl) ?_|refine wt (by simpa) ?_|refine wf (by simpa) ?_|refine xt (by simpa) ?_|refine xf (by simpa) ?_|apply wp_bs|apply wp_b|refine wp_sr ?_|refine wp_sx ?_|refine wp_ret' ?_|refine wp_skip' ?_|refine wp_exit' ?_)
      exact ⟨rfl,rfl⟩
    | succ m ih =>
      intro i hi
      have hi2:i < xs.length:=by omega
      have e2:=ev_lim (hF i hi2)
      have w2:IntKind.i64.wrap ((i:Int)+1)=((i+1:Nat):Int):=wrapS (by omega)
      have hln:(mapR i g).length=i:=by simp [mapR]
      have hlt:i < i+(xs.length - i):=by omega
      have hs:=mapR_succ_set g hi2
      refine wp_loop ?_
      repeat (first|apply wp_as|apply wp_ss|refine wr (by simp [e2,hi2,w2,hln,hlt,hs];with_reducible rfl) ?_|refine wq (by simp [e2,hi2,w2,hln,hlt,hs];with_reducible rfl) ?_|refine wt (by simpa [e2,hi2,w2,hln,hlt,hs]) ?_|refine wf (by simpa [e2,hi2,w2,hln,hlt,hs]) ?_|refine xt (by simpa [e2,hi2,w2,hln,hlt,hs]) ?_|refine xf (by simpa [e2,hi2,w2,hln,hlt,hs]) ?_|apply wp_bs|apply wp_b|refine wp_sr ?_|refine wp_sx ?_|refine wp_ret' ?_|refine wp_skip' ?_|refine wp_exit' ?_)
      exact ih (i+1) (by omega)
  refine call_of_wp zt35 rfl ?_
  repeat (first|apply wp_as|apply wp_ss|refine wr (by simp [e1,hv,show xs.length≤274877906944 by omega];with_reducible rfl) ?_|refine wq (by simp [e1,hv,show xs.length≤274877906944 by omega];with_reducible rfl) ?_|refine wt (by simpa [e1,hv,show xs.length≤274877906944 by omega]) ?_|refine wf (by simpa [e1,hv,show xs.length≤274877906944 by omega]) ?_|refine xt (by simpa [e1,hv,show xs.length≤274877906944 by omega]) ?_|refine xf (by simpa [e1,hv,show xs.length≤274877906944 by omega]) ?_|apply wp_bs|apply wp_b|refine wp_sr ?_|refine wp_sx ?_|refine wp_ret' ?_|refine wp_skip' ?_|refine wp_exit' ?_)
  have:=loop xs.length 0 (by simp)
  simp [mapR] at this
  refine wp_imp this ?_
  rintro ex st ⟨rfl,rfl⟩
  simp only [if_true]
  repeat (first|apply wp_as|apply wp_ss|refine wr (by simp;with_reducible rfl) ?_|refine wq (by simp;with_reducible rfl) ?_|refine wt (by simpa) ?_|refine wf (by simpa) ?_|refine xt (by simpa) ?_|refine xf (by simpa) ?_|apply wp_bs|apply wp_b|refine wp_sr ?_|refine wp_sx ?_|refine wp_ret' ?_|refine wp_skip' ?_|refine wp_exit' ?_)
  simp [zi35,mapR]
  rw [List.take_of_length_le (by simp)]
theorem min_if (a b:Int):(if b < a then b else a)=min a b:=by split <;> omega
theorem min_if' (a b:Int):(if a < b then a else b)=min a b:=by split <;> omega
end Go.Idl
namespace Go.Idl
open Go
def Low (B:Int) (d:List Int):Prop:=∀ x ∈ d,-B≤x∧x≤B
theorem Low.set {B:Int} {d:List Int} (h:Low B d) {i:Nat} {x:Int} (hx:-B≤x∧x≤B):Low B (d.set i x):=by
  intro y hy
  rcases List.mem_or_eq_of_mem_set hy with hy | rfl
  · exact h y hy
  · exact hx
theorem Low.app {B:Int} {d:List Int} (h:Low B d) {x:Int} (hx:-B≤x∧x≤B):Low B (d++[x]):=by
  intro y hy
  rcases List.mem_append.1 hy with hy | hy
  · exact h y hy
  · simp at hy;subst hy;exact hx
theorem Low.mono {B C:Int} {d:List Int} (h:Low B d) (hc:B≤C):Low C d:=fun x hx=>by have:=h x hx;omega
theorem one2 (code:List Int) (c:Bool) (hc:CodeOk code) (cnt:Nat) (hn:cnt≤2000000) (xs:List Int) (hl:0 < xs.length∧xs.length≤1000) (bs:Boxes) (Ms:List Boxes) :
    ∃ (x:Int) (k:Nat),x ∈ xs∧k≤cnt+1∧limF tb zl139 [] [.bptr 0 0 0,.lst 1 (ints xs) false] ((R code c cnt::bs)::Ms)=some ⟨I x,[],(R code c k::bs)::Ms,[]⟩:=by
  obtain ⟨v,h,e⟩:=ev_one code c hc cnt hn xs false hl bs Ms
  exact ⟨v,cnt+1,h,by omega,ev_lim e⟩
end Go.Idl
namespace Go.Idl
open Go
def tab (t:List (List Int)):List (List IV):=t.map fun r=>[.lst 1 (ints r) false]
def oab (t:List (List Int)):List (List IV):=t.map fun r=>[.own 1 (ints r)]
abbrev TL (t:List (List Int)) (c:Bool:=false):IV:=.lst 1 (tab t) c
abbrev OT (t:List (List Int)):IV:=.own 1 (oab t)
@[simp] theorem tab_len (t:List (List Int)):(tab t).length=t.length:=by simp [tab]
@[simp] theorem oab_len (t:List (List Int)):(oab t).length=t.length:=by simp [oab]
@[simp] theorem oab_nil:oab []=[]:=rfl
@[simp] theorem tab_get? (t:List (List Int)) (i:Nat):(tab t)[i]? = t[i]?.map fun r=>[IV.lst 1 (ints r) false]:=by simp [tab]
@[simp] theorem tab_get (t:List (List Int)) (i:Nat) (h:i < (tab t).length):(tab t)[i]=[IV.lst 1 (ints (t[i]'(by simpa [tab] using h))) false]:=by simp [tab]
@[simp] theorem oab_get? (t:List (List Int)) (i:Nat):(oab t)[i]? = t[i]?.map fun r=>[IV.own 1 (ints r)]:=by simp [oab]
@[simp] theorem oab_get (t:List (List Int)) (i:Nat) (h:i < (oab t).length):(oab t)[i]=[IV.own 1 (ints (t[i]'(by simpa [oab] using h)))]:=by simp [oab]
@[simp] theorem oab_one (t:List (List Int)) (r:List Int):oab t++[[IV.own 1 (ints r)]]=oab (t++[r]):=by simp [oab]
@[simp] theorem oab_set (t:List (List Int)) (i:Nat) (r:List Int):(oab t).set i [IV.own 1 (ints r)]=oab (t.set i r):=by simp [oab,List.map_set]
@[simp] theorem oab_take (t:List (List Int)) (n:Nat):(oab t).take n=oab (t.take n):=by simp [oab,List.map_take]
@[simp] theorem frz_oab (t:List (List Int)):frzLL (oab t)=tab t:=by
  induction t with
  | nil=>rfl
  | cons x xs ih =>
    simp only [oab,tab,List.map_cons,frzLL,frzL,frzV] at *
    rw [ih]
    have:frzLL (ints x)=ints x:=by
      clear ih
      induction x with
      | nil=>rfl
      | cons y ys ih=>simp only [ints,List.map_cons,frzLL,frzL,frzV] at *;rw [ih]
    rw [this]
@[simp] theorem tab_all1 (t:List (List Int)):((tab t).all fun x=>x.all IV.plain1)=true:=by
  induction t with
  | nil=>rfl
  | cons x xs ih=>simp only [tab,List.map_cons,List.all_cons] at *;rw [ih];rfl
@[simp] theorem oab_noLst (t:List (List Int)):noLstLL (oab t)=true:=by
  induction t with
  | nil=>rfl
  | cons x xs ih =>
    simp only [oab,List.map_cons,noLstLL,noLstL,noLstV] at *
    rw [ih,ints_noLst];rfl
def g2 (t:List (List Int)) (a b:Nat):Int:=(t.getD a []).getD b 0
end Go.Idl
namespace Go.Idl
open Go
def Sq (t:List (List Int)):Prop:=∀ r ∈ t,r.length=t.length∧∀ x ∈ r,0≤x∧x≤1
def tAt (t:List (List Int)) (a b:Nat):Prop:=if a=b then g2 t a b=0 else g2 t a b+g2 t b a=1
def Tour (t:List (List Int)):Prop:=(1≤t.length∧t.length≤5)∧Sq t∧∀ a b:Nat,a < t.length→b < t.length→tAt t a b
theorem g2_eq {t:List (List Int)} {a b:Nat} (ha:a < t.length) (hb:b < t[a].length):g2 t a b=t[a][b]:=by
  simp [g2,List.getD_eq_getElem?_getD,List.getElem?_eq_getElem ha,List.getElem?_eq_getElem hb]
end Go.Idl
namespace Go.Idl
open Go
theorem insD_step {x:Int} {out:List Int} {k:Nat} (h:k < out.length) (hx:x≤out[k]) (hi:insD x out=out.take k++insD x (out.drop k)) :
    insD x out=out.take (k+1)++insD x (out.drop (k+1)):=by
  rw [List.drop_eq_getElem_cons h] at hi
  rw [hi,insD,if_pos hx,List.take_succ_eq_append_getElem h,List.append_assoc]
  rfl
theorem insD_stop {x:Int} {out:List Int} {k:Nat} (h:k < out.length) (hx:¬ x≤out[k]) (hi:insD x out=out.take k++insD x (out.drop k)) :
    insD x out=out.take k++x::out.drop k:=by
  rw [hi]
  conv=>lhs;rw [List.drop_eq_getElem_cons h]
  rw [insD,if_neg hx,← List.drop_eq_getElem_cons h]
theorem insD_end {x:Int} {out:List Int} {k:Nat} (h:k=out.length) (hi:insD x out=out.take k++insD x (out.drop k)) :
    insD x out=out.take k++x::out.drop k:=by
  rw [hi];subst h;simp [insD]
theorem sfall_in (xs out:List Int) (c:Bool) (i:Nat) (hi:i < xs.length) (ho:out.length≤2000000):∀ (m k:Nat),k+m=out.length→insD xs[i] out=out.take k++insD xs[i] (out.drop k) →
    wp tb (.loop z127l7) { T:=[(0,L xs c),(3,O out),(4,I i),(5,I k)],loc:=[],M:=[] }
      (fun ex st=>ex=.exit 2∧∃ k':Nat,k'≤out.length∧insD xs[i] out=out.take k'++xs[i]::out.drop k'∧st={ T:=[(0,L xs c),(3,O out),(4,I i),(5,I k'),(27,Bo false)],loc:=[],M:=[] }):=by
  intro m
  induction m with
  | zero =>
    intro k hk hinv
    have h3:k=out.length:=hk
    have h4:¬ k < out.length:=by omega
    refine wp_loop ?_
    repeat (first|apply wp_as|apply wp_ss|refine wr (by simp [h4];with_reducible rfl) ?_|refine wq (by simp [h4];with_reducible rfl) ?_|refine wt (by simpa [h4]) ?_|refine wf (by simpa [h4]) ?_|refine xt (by simpa [h4]) ?_|refine xf (by simpa [h4]) ?_|apply wp_bs|apply wp_b|refine wp_sr ?_|refine wp_sx ?_|refine wp_ret' ?_|refine wp_skip' ?_|refine wp_exit' ?_)
    exact ⟨rfl,k,by omega,insD_end h3 hinv,rfl⟩
  | succ m ih =>
    intro k hk hinv
    have hk2:k < out.length:=by omega
    have w1:IntKind.i64.wrap ((k:Int)+1)=((k+1:Nat):Int):=wrapS (by omega)
    by_cases hx:xs[i]≤out[k]
    · refine wp_loop ?_
      repeat (first|apply wp_as|apply wp_ss|refine wr (by simp [hk2,hx,hi,w1];with_reducible rfl) ?_|refine wq (by simp [hk2,hx,hi,w1];with_reducible rfl) ?_|refine wt (by simpa [hk2,hx,hi,w1]) ?_|refine wf (by simpa [hk2,hx,hi,w1]) ?_|refine xt (by simpa [hk2,hx,hi,w1]) ?_|refine xf (by simpa [hk2,hx,hi,w1]) ?_|apply wp_bs|apply wp_b|refine wp_sr ?_|refine wp_sx ?_|refine wp_ret' ?_|refine wp_skip' ?_|refine wp_exit' ?_)
      exact ih (k+1) (by omega) (insD_step hk2 hx hinv)
    · refine wp_loop ?_
      repeat (first|apply wp_as|apply wp_ss|refine wr (by simp [hk2,hx,hi,w1];with_reducible rfl) ?_|refine wq (by simp [hk2,hx,hi,w1];with_reducible rfl) ?_|refine wt (by simpa [hk2,hx,hi,w1]) ?_|refine wf (by simpa [hk2,hx,hi,w1]) ?_|refine xt (by simpa [hk2,hx,hi,w1]) ?_|refine xf (by simpa [hk2,hx,hi,w1]) ?_|apply wp_bs|apply wp_b|refine wp_sr ?_|refine wp_sx ?_|refine wp_ret' ?_|refine wp_skip' ?_|refine wp_exit' ?_)
      exact ⟨rfl,k,by omega,insD_stop hk2 hx hinv,rfl⟩
theorem foldl_take_succ {xs:List Int} {i:Nat} (h:i < xs.length):(xs.take (i+1)).foldl (fun out x=>insD x out) []=insD xs[i] ((xs.take i).foldl (fun out x=>insD x out) []):=by
  rw [List.take_succ_eq_append_getElem h,List.foldl_append];rfl
theorem ev_spec_falling (xs:List Int) (c:Bool) (hl:xs.length≤1000) :
    Ev tb zl127 [] [L xs c] [] ⟨O (fall xs),[],[],[]⟩:=by
  have cp:∀ (ys:List Int) (c:Bool),ys.length≤1000→limF tb zl123 [] [L ys c] []=some ⟨O ys,[],[],[]⟩:=fun ys c h=>ev_lim (ev_copyInts ys c (by omega))
  have loop:∀ (m i:Nat),i+m=xs.length→wp tb (.loop z127l10) { T:=[(0,L xs c),(3,O (fall (xs.take i))),(4,I i)],loc:=[],M:=[] }
      (fun ex st=>ex=.exit 0∧st={ T:=[(0,L xs c),(3,O (fall xs)),(4,I xs.length),(10,Bo false)],loc:=[],M:=[] }):=by
    intro m
    induction m with
    | zero =>
      intro i hi
      have h3:i=xs.length:=hi
      subst h3
      refine wp_loop ?_
      repeat (first|apply wp_as|apply wp_ss|refine wr (by simp;with_reducible rfl) ?_|refine wq (by simp;with_reducible rfl) ?_|refine wt (by simpa) ?_|refine wf (by simpa) ?_|refine xt (by simpa) ?_|refine xf (by simpa) ?_|apply wp_bs|apply wp_b|refine wp_sr ?_|refine wp_sx ?_|refine wp_ret' ?_|refine wp_skip' ?_|refine wp_exit' ?_)
      simp
    | succ m ih =>
      intro i hi
      have hi2:i < xs.length:=by omega
      have w1:IntKind.i64.wrap ((i:Int)+1)=((i+1:Nat):Int):=wrapS (by omega)
      have hfl:(fall (xs.take i)).length=i:=by rw [fall_len];simp;omega
      have hfs:fall (xs.take (i+1))=insD xs[i] (fall (xs.take i)):=foldl_take_succ hi2
      have:=ih (i+1) (by omega)
      rw [hfs] at this
      revert this
      generalize fall (xs.take i)=out at hfl
      intro hnext
      refine wp_loop ?_
      repeat (first|apply wp_as|apply wp_ss|refine wr (by simp [hi2];with_reducible rfl) ?_|refine wq (by simp [hi2];with_reducible rfl) ?_|refine wt (by simpa [hi2]) ?_|refine wf (by simpa [hi2]) ?_|refine xt (by simpa [hi2]) ?_|refine xf (by simpa [hi2]) ?_|apply wp_bs|apply wp_b|refine wp_sr ?_|refine wp_sx ?_|refine wp_ret' ?_|refine wp_skip' ?_|refine wp_exit' ?_)
      refine wp_imp (sfall_in xs out c i hi2 (by omega) out.length 0 (by simp) (by simp)) ?_
      rintro ex st ⟨rfl,k,hk,hins,rfl⟩
      simp only [if_true]
      have hk2:k≤out.length:=hk
      have c1:=cp (out.take k) false (by simp;omega)
      have hb:out.length≤274877906944:=by omega
      have hb2:k≤274877906943:=by omega
      have hb3:k+1+(out.length - k)≤274877906944:=by omega
      have hb4:k+(out.length - k+1)≤274877906944:=by omega
      have hb5:out.length≤274877906943:=by omega
      refine wp_rega (by simp [hi2,hk2,c1,hb,hb2,hb3,hb4,hb5];with_reducible rfl) (by simp;with_reducible rfl) ?_ ?_
      · intro p hp
        simp only [List.mem_cons,List.not_mem_nil,or_false] at hp
        rcases hp with rfl | rfl
        · exact ⟨_,by simp [hi2,hk2,c1,hb,hb2,hb3,hb4,hb5];with_reducible rfl,by simp⟩
        · exact ⟨_,by simp [hi2,hk2,c1,hb,hb2,hb3,hb4,hb5];with_reducible rfl,by simp⟩
      repeat (first|apply wp_as|apply wp_ss|refine wr (by simp [w1];with_reducible rfl) ?_|refine wq (by simp [w1];with_reducible rfl) ?_|refine wt (by simpa [w1]) ?_|refine wf (by simpa [w1]) ?_|refine xt (by simpa [w1]) ?_|refine xf (by simpa [w1]) ?_|apply wp_bs|apply wp_b|refine wp_sr ?_|refine wp_sx ?_|refine wp_ret' ?_|refine wp_skip' ?_|refine wp_exit' ?_)
      rw [List.take_of_length_le (l:=out.drop k) (by simp),← hins]
      exact hnext
  refine call_of_wp zt127 rfl ?_
  repeat (first|apply wp_as|apply wp_ss|refine wr (by simp;with_reducible rfl) ?_|refine wq (by simp;with_reducible rfl) ?_|refine wt (by simpa) ?_|refine wf (by simpa) ?_|refine xt (by simpa) ?_|refine xf (by simpa) ?_|apply wp_bs|apply wp_b|refine wp_sr ?_|refine wp_sx ?_|refine wp_ret' ?_|refine wp_skip' ?_|refine wp_exit' ?_)
  have:=loop xs.length 0 (by simp)
  simp only [List.take_zero] at this
  refine wp_imp this ?_
  rintro ex st ⟨rfl,rfl⟩
  simp only [if_true]
  repeat (first|apply wp_as|apply wp_ss|refine wr (by simp;with_reducible rfl) ?_|refine wq (by simp;with_reducible rfl) ?_|refine wt (by simpa) ?_|refine wf (by simpa) ?_|refine xt (by simpa) ?_|refine xf (by simpa) ?_|apply wp_bs|apply wp_b|refine wp_sr ?_|refine wp_sx ?_|refine wp_ret' ?_|refine wp_skip' ?_|refine wp_exit' ?_)
  simp [zi127]
theorem ev_least (xs:List Int) (c:Bool) (hl:xs.length≤2000000):Ev tb zl360 [] [L xs c] [] ⟨I (least xs),[],[],[]⟩:=by
  have loop:∀ (m i:Nat),i+m=xs.length→wp tb (.loop z360l6) { T:=[(0,L xs c),(3,I (least (xs.take i))),(4,I i)],loc:=[],M:=[] }
      (fun ex st=>ex=.exit 0∧st={ T:=[(0,L xs c),(3,I (least xs)),(4,I xs.length),(8,Bo false)],loc:=[],M:=[] }):=by
    intro m
    induction m with
    | zero =>
      intro i hi
      have h3:i=xs.length:=hi
      subst h3
      refine wp_loop ?_
      repeat (first|apply wp_as|apply wp_ss|refine wr (by simp;with_reducible rfl) ?_|refine wq (by simp;with_reducible rfl) ?_|refine wt (by simpa) ?_|refine wf (by simpa) ?_|refine xt (by simpa) ?_|refine xf (by simpa) ?_|apply wp_bs|apply wp_b|refine wp_sr ?_|refine wp_sx ?_|refine wp_ret' ?_|refine wp_skip' ?_|refine wp_exit' ?_)
      simp
    | succ m ih =>
      intro i hi
      have hi2:i < xs.length:=by omega
      have w1:IntKind.i64.wrap ((i:Int)+1)=((i+1:Nat):Int):=wrapS (by omega)
      have hn:least (xs.take (i+1))=min (least (xs.take i)) xs[i]:=by
        rw [List.take_succ_eq_append_getElem hi2,least,List.foldl_append];rfl
      have:=ih (i+1) (by omega)
      rw [hn] at this
      refine wp_loop ?_
      repeat (first|apply wp_as|apply wp_ss|refine wr (by simp [hi2,w1,min_if];with_reducible rfl) ?_|refine wq (by simp [hi2,w1,min_if];with_reducible rfl) ?_|refine wt (by simpa [hi2,w1,min_if]) ?_|refine wf (by simpa [hi2,w1,min_if]) ?_|refine xt (by simpa [hi2,w1,min_if]) ?_|refine xf (by simpa [hi2,w1,min_if]) ?_|apply wp_bs|apply wp_b|refine wp_sr ?_|refine wp_sx ?_|refine wp_ret' ?_|refine wp_skip' ?_|refine wp_exit' ?_)
      exact this
  refine call_of_wp zt360 rfl ?_
  repeat (first|apply wp_as|apply wp_ss|refine wr (by simp;with_reducible rfl) ?_|refine wq (by simp;with_reducible rfl) ?_|refine wt (by simpa) ?_|refine wf (by simpa) ?_|refine xt (by simpa) ?_|refine xf (by simpa) ?_|apply wp_bs|apply wp_b|refine wp_sr ?_|refine wp_sx ?_|refine wp_ret' ?_|refine wp_skip' ?_|refine wp_exit' ?_)
  refine wp_imp (loop xs.length 0 (by simp)) ?_
  rintro ex st ⟨rfl,rfl⟩
  simp only [if_true]
  repeat (first|apply wp_as|apply wp_ss|refine wr (by simp;with_reducible rfl) ?_|refine wq (by simp;with_reducible rfl) ?_|refine wt (by simpa) ?_|refine wf (by simpa) ?_|refine xt (by simpa) ?_|refine xf (by simpa) ?_|apply wp_bs|apply wp_b|refine wp_sr ?_|refine wp_sx ?_|refine wp_ret' ?_|refine wp_skip' ?_|refine wp_exit' ?_)
  simp [zi360]
end Go.Idl
namespace Go.Idl
open Go
def Small2 (t:List (List Int)):Prop:=t.length≤1000∧∀ r ∈ t,r.length≤1000∧∀ x ∈ r,-1000≤x∧x≤1000
end Go.Idl
namespace Go.Idl
open Go
def least1:Int→List Int→Int
  | m,[]=>m
  | m,x::r=>least1 (min m x) r
theorem ev_Min (x:Int) (r:List Int) (c:Bool) (hl:r.length≤2000000) :
    Ev tb zl75 [] [L (x::r) c] [] ⟨I (least1 x r),[],[],[]⟩:=by
  have loop:∀ (m i:Nat) (y:Int),i+m=r.length→wp tb (.loop z75l8) { T:=[(0,L (x::r) c),(3,I y),(4,I (i+1))],loc:=[],M:=[] }
      (fun ex st=>ex=.exit 0∧st={ T:=[(0,L (x::r) c),(3,I (least1 y (r.drop i))),(4,I (r.length+1)),(15,Bo false)],loc:=[],M:=[] }):=by
    intro m
    induction m with
    | zero =>
      intro i y hi
      obtain ⟨h1,h2⟩:=drop_end hi
      have h3:i=r.length:=hi
      subst h3
      refine wp_loop ?_
      repeat (first|apply wp_as|apply wp_ss|refine wr (by simp;with_reducible rfl) ?_|refine wq (by simp;with_reducible rfl) ?_|refine wt (by simpa) ?_|refine wf (by simpa) ?_|refine xt (by simpa) ?_|refine xf (by simpa) ?_|apply wp_bs|apply wp_b|refine wp_sr ?_|refine wp_sx ?_|refine wp_ret' ?_|refine wp_skip' ?_|refine wp_exit' ?_)
      exact ⟨rfl,by simp [least1]⟩
    | succ m ih =>
      intro i y hi
      obtain ⟨hi2,h2,h3⟩:=drop_get hi
      have w2:IntKind.i64.wrap ((i:Int)+1+1)=(i:Int)+1+1:=wrap64 (by omega) (by omega)
      have h4:(i:Int) < r.length:=by omega
      rw [h2]
      refine wp_loop ?_
      repeat (first|apply wp_as|apply wp_ss|refine wr (by simp [hi2,w2,h4];with_reducible rfl) ?_|refine wq (by simp [hi2,w2,h4];with_reducible rfl) ?_|refine wt (by simpa [hi2,w2,h4]) ?_|refine wf (by simpa [hi2,w2,h4]) ?_|refine xt (by simpa [hi2,w2,h4]) ?_|refine xf (by simpa [hi2,w2,h4]) ?_|apply wp_bs|apply wp_b|refine wp_sr ?_|refine wp_sx ?_|refine wp_ret' ?_|refine wp_skip' ?_|refine wp_exit' ?_)
      have:=ih (i+1) (min y r[i]) (by omega)
      simp only [min_if,min_if',least1] at this ⊢
      exact this
  have h0:¬ ((r.length:Int)+1 < 1):=by omega
  refine call_of_wp zt75 rfl ?_
  repeat (first|apply wp_as|apply wp_ss|refine wr (by simp [h0];with_reducible rfl) ?_|refine wq (by simp [h0];with_reducible rfl) ?_|refine wt (by simpa [h0]) ?_|refine wf (by simpa [h0]) ?_|refine xt (by simpa [h0]) ?_|refine xf (by simpa [h0]) ?_|apply wp_bs|apply wp_b|refine wp_sr ?_|refine wp_sx ?_|refine wp_ret' ?_|refine wp_skip' ?_|refine wp_exit' ?_)
  have:=loop r.length 0 x (by omega)
  simp at this
  refine wp_imp this ?_
  rintro ex st ⟨rfl,rfl⟩
  simp only [if_true]
  repeat (first|apply wp_as|apply wp_ss|refine wr (by simp;with_reducible rfl) ?_|refine wq (by simp;with_reducible rfl) ?_|refine wt (by simpa) ?_|refine wf (by simpa) ?_|refine xt (by simpa) ?_|refine xf (by simpa) ?_|apply wp_bs|apply wp_b|refine wp_sr ?_|refine wp_sx ?_|refine wp_ret' ?_|refine wp_skip' ?_|refine wp_exit' ?_)
  simp [zi75]
theorem least1_ge:∀ (r:List Int) (m b:Int),(b≤least1 m r) ↔ b≤m∧∀ x ∈ r,b≤x
  | [],m,b=>by simp [least1]
  | x::r,m,b=>by
    rw [least1,least1_ge r]
    constructor
    · rintro ⟨h1,h2⟩
      exact ⟨by omega,by intro y hy;rcases List.mem_cons.1 hy with rfl | hy;omega;exact h2 y hy⟩
    · rintro ⟨h1,h2⟩
      have:=h2 x (by simp)
      exact ⟨by omega,fun y hy=>h2 y (by simp [hy])⟩
def asc0 (s:List Int):List Int:=(fall s).reverse
def overT (s:List Int) (i:Nat):Int:=((asc0 s).take (i+1)).sum - ((i:Int)+1) * i / 2
def over (s:List Int):List Int:=mapR s.length (overT s)
theorem Few.rev {xs:List Int} (h:Few xs):Few xs.reverse:=⟨by simpa using h.1,fun x hx=>h.2 x (by simpa using hx)⟩
theorem ev_over (s:List Int) (c:Bool) (hs:Few s):Ev tb zl39 [] [L s c] [] ⟨O (over s),[],[],[]⟩:=by
  have hl:=hs.1
  have e1:=ev_lim (ev_falling s c (by omega))
  have hal:(asc0 s).length=s.length:=by simp [asc0,fall_len]
  have hfl:(fall s).length=s.length:=fall_len s
  have hfa:Few (asc0 s):=hs.fall.rev
  have e2:=ev_lim (ev_Reverse (fall s) (by omega) [[]])
  have loop:∀ (m i:Nat),i+m=s.length→wp tb (.loop z39l9) { T:=[(3,O (asc0 s)),(4,O (mapR i (overT s)++List.replicate (s.length - i) 0)),(14,I s.length),(15,I i)],loc:=[],M:=[] }
      (fun ex st=>ex=.exit 0∧st={ T:=[(3,O (asc0 s)),(4,O (over s)),(14,I s.length),(15,I s.length),(16,Bo false)],loc:=[],M:=[] }):=by
    intro m
    induction m with
    | zero =>
      intro i hi
      have h3:i=s.length:=hi
      subst h3
      refine wp_loop ?_
      repeat (first|apply wp_as|apply wp_ss|refine wr (by simp;with_reducible rfl) ?_|refine wq (by simp;with_reducible rfl) ?_|refine wt (by simpa) ?_|refine wf (by simpa) ?_|refine xt (by simpa) ?_|refine xf (by simpa) ?_|apply wp_bs|apply wp_b|refine wp_sr ?_|refine wp_sx ?_|refine wp_ret' ?_|refine wp_skip' ?_|refine wp_exit' ?_)
      simp [over]
    | succ m ih =>
      intro i hi
      have hi2:i < s.length:=by omega
      have w2:IntKind.i64.wrap ((i:Int)+1)=(i:Int)+1:=wrap64 (by omega) (by omega)
      have ht:=hfa.take (i+1)
      have hsum:=ht.sum
      have e3:=fun cc=>ev_lim (ev_sum ((asc0 s).take (i+1)) cc ht.small)
      have hmm:0≤((i:Int)+1) * i∧((i:Int)+1) * i≤56:=by
        have h8:i≤6:=by omega
        have:∀ j:Nat,j≤6→0≤((j:Int)+1) * j∧((j:Int)+1) * j≤56:=by decide
        exact this i h8
      have w3:IntKind.i64.wrap (((i:Int)+1) * i)=((i:Int)+1) * i:=wrap64 (by omega) (by omega)
      have hq:Int.tdiv (((i:Int)+1) * i) 2=((i:Int)+1) * i / 2:=by rw [Int.tdiv_eq_ediv_of_nonneg hmm.1]
      have w4:IntKind.i64.wrap (((i:Int)+1) * i / 2)=((i:Int)+1) * i / 2:=wrap64 (by omega) (by omega)
      have w5:IntKind.i64.wrap (((asc0 s).take (i+1)).sum - ((i:Int)+1) * i / 2)=overT s i:=by rw [overT];exact wrap64 (by omega) (by omega)
      have h5:i+1≤s.length:=by omega
      have hln:(mapR i (overT s)).length=i:=by simp [mapR]
      have hlt:i < i+(s.length - i):=by omega
      have hs':=mapR_succ_set (overT s) hi2
      refine wp_loop ?_
      repeat (first|apply wp_as|apply wp_ss|refine wr (by simp [hi2,hal,w2,h5,e3,w3,hq,w4,w5,hln,hlt,hs'];with_reducible rfl) ?_|refine wq (by simp [hi2,hal,w2,h5,e3,w3,hq,w4,w5,hln,hlt,hs'];with_reducible rfl) ?_|refine wt (by simpa [hi2,hal,w2,h5,e3,w3,hq,w4,w5,hln,hlt,hs']) ?_|refine wf (by simpa [hi2,hal,w2,h5,e3,w3,hq,w4,w5,hln,hlt,hs']) ?_|refine xt (by simpa [hi2,hal,w2,h5,e3,w3,hq,w4,w5,hln,hlt,hs']) ?_|refine xf (by simpa [hi2,hal,w2,h5,e3,w3,hq,w4,w5,hln,hlt,hs']) ?_|apply wp_bs|apply wp_b|refine wp_sr ?_|refine wp_sx ?_|refine wp_ret' ?_|refine wp_skip' ?_|refine wp_exit' ?_)
      have:=ih (i+1) (by omega)
      simpa using this
  refine call_of_wp zt39 rfl ?_
  repeat (first|apply wp_as|apply wp_ss|refine wr (by simp [e1,e2,hfl,show s.length≤274877906944 by omega];with_reducible rfl) ?_|refine wq (by simp [e1,e2,hfl,show s.length≤274877906944 by omega];with_reducible rfl) ?_|refine wt (by simpa [e1,e2,hfl,show s.length≤274877906944 by omega]) ?_|refine wf (by simpa [e1,e2,hfl,show s.length≤274877906944 by omega]) ?_|refine xt (by simpa [e1,e2,hfl,show s.length≤274877906944 by omega]) ?_|refine xf (by simpa [e1,e2,hfl,show s.length≤274877906944 by omega]) ?_|apply wp_bs|apply wp_b|refine wp_sr ?_|refine wp_sx ?_|refine wp_ret' ?_|refine wp_skip' ?_|refine wp_exit' ?_)
  have:=loop s.length 0 (by simp)
  simp [mapR,asc0] at this
  refine wp_imp this ?_
  rintro ex st ⟨rfl,rfl⟩
  simp only [if_true]
  repeat (first|apply wp_as|apply wp_ss|refine wr (by simp;with_reducible rfl) ?_|refine wq (by simp;with_reducible rfl) ?_|refine wt (by simpa) ?_|refine wf (by simpa) ?_|refine xt (by simpa) ?_|refine xf (by simpa) ?_|apply wp_bs|apply wp_b|refine wp_sr ?_|refine wp_sx ?_|refine wp_ret' ?_|refine wp_skip' ?_|refine wp_exit' ?_)
  simp [zi39,over,mapR]
end Go.Idl
namespace Go.Idl
open Go
def scr (t:List (List Int)) (j:Nat):Int:=(t.getD j []).sum
def scores (t:List (List Int)):List Int:=mapR t.length (scr t)
theorem sum01 (r:List Int) (h:∀ x ∈ r,0≤x∧x≤1):0≤r.sum∧r.sum≤r.length:=by
  induction r with
  | nil=>simp
  | cons x xs ih =>
    have h1:=h x (by simp)
    have h2:=ih fun y hy=>h y (by simp [hy])
    simp only [List.sum_cons,List.length_cons];omega
end Go.Idl
namespace Go.Idl
open Go
theorem over_len (s:List Int):(over s).length=s.length:=by simp [over,mapR]
def isScr (s:List Int):Bool:=decide (∀ x ∈ over s,0≤x) && decide ((over s).getD (s.length - 1) 0=0)
theorem ev_IsScores (s:List Int) (c:Bool) (hl:1≤s.length∧s.length≤5) (hs:∀ x ∈ s,0≤x∧x≤(s.length:Int) - 1) :
    Ev tb zl11 [] [L s c] [] ⟨Bo (isScr s),[],[],[]⟩:=by
  have hf:Few s:=⟨by omega,fun x hx=>by have:=hs x hx;omega⟩
  have e1:=ev_lim (ev_in (s.length:Int) 1 5)
  rw [show (decide ((1:Int)≤s.length) && decide ((s.length:Int)≤5))=true by rw [Bool.and_eq_true,decide_eq_true_eq,decide_eq_true_eq];omega] at e1
  have e2:=ev_lim (ev_allIn s c 0 ((s.length:Int) - 1) (by omega))
  rw [show (s.all fun x=>decide (0≤x) && decide (x≤(s.length:Int) - 1))=true by rw [List.all_eq_true];intro x hx;rw [Bool.and_eq_true,decide_eq_true_eq,decide_eq_true_eq];exact hs x hx] at e2
  have e3:=ev_lim (ev_over s c hf)
  have w1:IntKind.i64.wrap ((s.length:Int) - 1)=(s.length:Int) - 1:=wrap64 (by omega) (by omega)
  have hol:=over_len s
  obtain ⟨n,hn⟩:∃ n,s.length=n+1:=⟨s.length - 1,by omega⟩
  have hx:isScr s=(decide (∀ x ∈ over s,0≤x) && decide ((over s).getD n 0=0)):=by rw [isScr,hn];rfl
  rw [hx]
  generalize over s=o at *
  obtain ⟨mn,e4,hg⟩:∃ mn,limF tb zl75 [] [L o] []=some ⟨I mn,[],[],[]⟩∧(0≤mn ↔ ∀ y ∈ o,0≤y):=by
    cases o with
    | nil=>simp at hol;omega
    | cons x r =>
      simp only [List.length_cons] at hol
      refine ⟨_,ev_lim (ev_Min x r false (by omega)),?_⟩
      rw [least1_ge r x 0]
      exact ⟨fun h y hy=>by rcases List.mem_cons.1 hy with rfl | hy;exact h.1;exact h.2 y hy,fun h=>⟨h x (by simp),fun y hy=>h y (by simp [hy])⟩⟩
  rw [hn] at hol
  have hno:n < o.length:=by omega
  have hla:o.getD n 0=o[n]:=by rw [List.getD_eq_getElem?_getD,List.getElem?_eq_getElem hno];rfl
  have w2:IntKind.i64.wrap (n:Int)=n:=wrapN (by omega)
  have hto:o.take (n+1)=o:=List.take_of_length_le (by omega)
  have hn1:n < n+1:=by omega
  rw [hla]
  by_cases h1:0≤mn
  rotate_left
  · have h2:¬ ∀ y ∈ o,0≤y:=fun h=>h1 (hg.2 h)
    rw [decide_eq_false h2]
    refine call_of_wp zt11 rfl ?_
    repeat (first|apply wp_as|apply wp_ss|refine wr (by simp [e1,e2,e3,w1];with_reducible rfl) ?_|refine wq (by simp [e1,e2,e3,w1];with_reducible rfl) ?_|refine wt (by simpa [e1,e2,e3,w1]) ?_|refine wf (by simpa [e1,e2,e3,w1]) ?_|refine xt (by simpa [e1,e2,e3,w1]) ?_|refine xf (by simpa [e1,e2,e3,w1]) ?_|apply wp_bs|apply wp_b|refine wp_sr ?_|refine wp_sx ?_|refine wp_ret' ?_|refine wp_skip' ?_|refine wp_exit' ?_)
    refine wr (by simp [e4,h1,hol,hto];with_reducible rfl) ?_
    repeat (first|apply wp_as|apply wp_ss|refine wr (by simp;with_reducible rfl) ?_|refine wq (by simp;with_reducible rfl) ?_|refine wt (by simpa) ?_|refine wf (by simpa) ?_|refine xt (by simpa) ?_|refine xf (by simpa) ?_|apply wp_bs|apply wp_b|refine wp_sr ?_|refine wp_sx ?_|refine wp_ret' ?_|refine wp_skip' ?_|refine wp_exit' ?_)
    simp [zi11]
  have h2:∀ y ∈ o,0≤y:=hg.1 h1
  rw [decide_eq_true h2]
  generalize hz:o[n]=z at *
  refine call_of_wp zt11 rfl ?_
  repeat (first|apply wp_as|apply wp_ss|refine wr (by simp [e1,e2,e3,w1];with_reducible rfl) ?_|refine wq (by simp [e1,e2,e3,w1];with_reducible rfl) ?_|refine wt (by simpa [e1,e2,e3,w1]) ?_|refine wf (by simpa [e1,e2,e3,w1]) ?_|refine xt (by simpa [e1,e2,e3,w1]) ?_|refine xf (by simpa [e1,e2,e3,w1]) ?_|apply wp_bs|apply wp_b|refine wp_sr ?_|refine wp_sx ?_|refine wp_ret' ?_|refine wp_skip' ?_|refine wp_exit' ?_)
  refine wr (by simp [e4,h1,hol,hto,w2,hz,hno,hn1];with_reducible rfl) ?_
  repeat (first|apply wp_as|apply wp_ss|refine wr (by simp;with_reducible rfl) ?_|refine wq (by simp;with_reducible rfl) ?_|refine wt (by simpa) ?_|refine wf (by simpa) ?_|refine xt (by simpa) ?_|refine xf (by simpa) ?_|apply wp_bs|apply wp_b|refine wp_sr ?_|refine wp_sx ?_|refine wp_ret' ?_|refine wp_skip' ?_|refine wp_exit' ?_)
  simp [zi11]
  rfl
end Go.Idl
namespace Go.Idl
open Go
def tabF (w h:Nat) (g:Nat→Nat→Int):List (List Int):=(List.range w).map fun i=>mapR h (g i)
theorem tabl_in (w h:Nat) (F:Lab) (caps:List IV) (M:List Boxes) (g:Nat→Nat→Int) (i:Nat) (hi:i < w) (hh:h≤1000) (hw:w≤1000)
    (hF:∀ k,k < h→Ev tb F [] (I i::I k::caps) (M++[[]]) ⟨I (g i k),[],M++[[]],[]⟩) :
    ∀ (m k:Nat) (C:List (List IV)),k+m=h→C.length=w→(∀ hc:i < C.length,C[i]=[O (mapR k (g i)++List.replicate (h - k) 0)]) →
    wp tb (.loop z41l11) { T:=[(1,I h),(2,.fn F caps),(7,.own 1 C),(8,I i),(13,I w),(14,I i),(26,I h),(27,I k)],loc:=[],M:=M }
      (fun ex st=>ex=.exit 2∧st={ T:=[(1,I h),(2,.fn F caps),(7,.own 1 (C.set i [O (mapR h (g i))])),(8,I i),(13,I w),(14,I i),(26,I h),(27,I h),(28,Bo false)],loc:=[],M:=M }):=by
  intro m
  induction m with
  | zero =>
    intro k C hk hC hCi
    have h3:k=h:=hk
    subst h3
    have hi':i < C.length:=by omega
    have hs:C.set i [O (mapR k (g i))]=C:=by
      have:=hCi hi'
      simp only [Nat.sub_self,List.replicate_zero,List.append_nil] at this
      rw [← this];simp
    refine wp_loop ?_
    repeat (first|apply wp_as|apply wp_ss|refine wr (by simp;with_reducible rfl) ?_|refine wq (by simp;with_reducible rfl) ?_|refine wt (by simpa) ?_|refine wf (by simpa) ?_|refine xt (by simpa) ?_|refine xf (by simpa) ?_|apply wp_bs|apply wp_b|refine wp_sr ?_|refine wp_sx ?_|refine wp_ret' ?_|refine wp_skip' ?_|refine wp_exit' ?_)
    exact ⟨rfl,by rw [hs]⟩
  | succ m ih =>
    intro k C hk hC hCi
    have hkn:k < h:=by omega
    have hiC:i < C.length:=by omega
    have hCi:=hCi hiC
    have e1:=ev_lim (hF k hkn)
    have w2:IntKind.i64.wrap ((k:Int)+1)=((k+1:Nat):Int):=wrapS (by omega)
    have hln:(mapR k (g i)).length=k:=by simp [mapR]
    have hlt:k < k+(h - k):=by omega
    have hs':=mapR_succ_set (g i) hkn
    have hx:i < w:=hi
    refine wp_loop ?_
    repeat (first|apply wp_as|apply wp_ss|refine wr (by simp [hkn];with_reducible rfl) ?_|refine wq (by simp [hkn];with_reducible rfl) ?_|refine wt (by simpa [hkn]) ?_|refine wf (by simpa [hkn]) ?_|refine xt (by simpa [hkn]) ?_|refine xf (by simpa [hkn]) ?_|apply wp_bs|apply wp_b|refine wp_sr ?_|refine wp_sx ?_|refine wp_ret' ?_|refine wp_skip' ?_|refine wp_exit' ?_)
    refine wp_rega (by simp [hkn,hC,hx,hCi,e1,hln,hlt,hs'];with_reducible rfl) (by simp;with_reducible rfl) ?_ ?_
    · intro p hp
      simp only [List.mem_cons,List.not_mem_nil,or_false] at hp
      subst hp
      exact ⟨_,by simp [hkn,hC,hx,hCi,e1,hln,hlt,hs'];with_reducible rfl,by simp⟩
    repeat (first|apply wp_as|apply wp_ss|refine wr (by simp [w2];with_reducible rfl) ?_|refine wq (by simp [w2];with_reducible rfl) ?_|refine wt (by simpa [w2]) ?_|refine wf (by simpa [w2]) ?_|refine xt (by simpa [w2]) ?_|refine xf (by simpa [w2]) ?_|apply wp_bs|apply wp_b|refine wp_sr ?_|refine wp_sx ?_|refine wp_ret' ?_|refine wp_skip' ?_|refine wp_exit' ?_)
    refine wp_imp (ih (k+1) _ (by omega) (by simp [hC]) (by intro hc;simp)) ?_
    rintro ex st ⟨rfl,rfl⟩
    exact ⟨rfl,by simp⟩
theorem tabl_out (w h:Nat) (F:Lab) (caps:List IV) (M:List Boxes) (g:Nat→Nat→Int) (hh:h≤1000) (hw:w≤1000)
    (hF:∀ i k,i < w→k < h→Ev tb F [] (I i::I k::caps) (M++[[]]) ⟨I (g i k),[],M++[[]],[]⟩) :
    ∀ (m i:Nat) ,i+m=w →
    wp tb (.loop z41l13) { T:=[(1,I h),(2,.fn F caps),(7,.own 1 (oab (tabF i h g)++List.replicate (w - i) [Z])),(13,I w),(14,I i)],loc:=[],M:=M }
      (fun ex st=>ex=.exit 0∧st={ T:=[(1,I h),(2,.fn F caps),(7,OT (tabF w h g)),(13,I w),(14,I w),(15,Bo false)],loc:=[],M:=M }):=by
  intro m
  induction m with
  | zero =>
    intro i hi
    have h3:i=w:=hi
    subst h3
    refine wp_loop ?_
    repeat (first|apply wp_as|apply wp_ss|refine wr (by simp;with_reducible rfl) ?_|refine wq (by simp;with_reducible rfl) ?_|refine wt (by simpa) ?_|refine wf (by simpa) ?_|refine xt (by simpa) ?_|refine xf (by simpa) ?_|apply wp_bs|apply wp_b|refine wp_sr ?_|refine wp_sx ?_|refine wp_ret' ?_|refine wp_skip' ?_|refine wp_exit' ?_)
    exact ⟨rfl,by simp⟩
  | succ m ih =>
    intro i hi
    have hin:i < w:=by omega
    have w2:IntKind.i64.wrap ((i:Int)+1)=((i+1:Nat):Int):=wrapS (by omega)
    have hC:(oab (tabF i h g)++List.replicate (w - i) [Z]).length=w:=by simp [tabF];omega
    have hst:∀ r,(oab (tabF i h g)++List.replicate (w - i) [Z]).set i [O r]=oab (tabF i h g++[r])++List.replicate (w - (i+1)) [Z]:=by
      intro r
      have e:w - i=(w - (i+1))+1:=by omega
      rw [e,List.replicate_succ,List.set_append_right _ _ (by simp [tabF]),← oab_one]
      simp [tabF]
      simp [oab]
    have hCi:∀ hc:i < (oab (tabF i h g)++List.replicate (w - i) [Z]).length,(oab (tabF i h g)++List.replicate (w - i) [Z])[i]=[Z]:=by
      intro hc
      rw [List.getElem_append_right (by simp [tabF])];simp
    have hb:h≤274877906944:=by omega
    have ht:tabF i h g++[mapR h (g i)]=tabF (i+1) h g:=by simp [tabF,List.range_succ]
    have hin2:=tabl_in w h F caps M g i hin hh hw (fun k hk=>hF i k hin hk) h 0 ((oab (tabF i h g)++List.replicate (w - i) [Z]).set i [O (List.replicate h 0)])
      (by omega) (by rw [List.length_set];exact hC) (by intro hc;simp [mapR])
    simp only [List.set_set] at hin2
    rw [show ((0:Nat):Int)=0 from rfl] at hin2
    generalize (oab (tabF i h g)++List.replicate (w - i) [Z])=C at *
    refine wp_loop ?_
    have hiC:i < C.length:=by omega
    have hCi:=hCi hiC
    repeat (first|apply wp_as|apply wp_ss|refine wr (by simp [hin,hC,hb,hCi];with_reducible rfl) ?_|refine wq (by simp [hin,hC,hb,hCi];with_reducible rfl) ?_|refine wt (by simpa [hin,hC,hb,hCi]) ?_|refine wf (by simpa [hin,hC,hb,hCi]) ?_|refine xt (by simpa [hin,hC,hb,hCi]) ?_|refine xf (by simpa [hin,hC,hb,hCi]) ?_|apply wp_bs|apply wp_b|refine wp_sr ?_|refine wp_sx ?_|refine wp_ret' ?_|refine wp_skip' ?_|refine wp_exit' ?_)
    refine wp_imp hin2 ?_
    rintro ex st ⟨rfl,rfl⟩
    simp only [if_true]
    rw [hst,ht]
    repeat (first|apply wp_as|apply wp_ss|refine wr (by simp [w2];with_reducible rfl) ?_|refine wq (by simp [w2];with_reducible rfl) ?_|refine wt (by simpa [w2]) ?_|refine wf (by simpa [w2]) ?_|refine xt (by simpa [w2]) ?_|refine xf (by simpa [w2]) ?_|apply wp_bs|apply wp_b|refine wp_sr ?_|refine wp_sx ?_|refine wp_ret' ?_|refine wp_skip' ?_|refine wp_exit' ?_)
    exact ih (i+1) (by omega)
theorem ev_table (w h:Nat) (F:Lab) (caps:List IV) (M:List Boxes) (g:Nat→Nat→Int) (hh:h≤1000) (hw:w≤1000)
    (hF:∀ i k,i < w→k < h→Ev tb F [] (I i::I k::caps) (M++[[]]) ⟨I (g i k),[],M++[[]],[]⟩) :
    Ev tb zl41 [] [I w,I h,.fn F caps] M ⟨OT (tabF w h g),[],M,[]⟩:=by
  have hb:w≤274877906944:=by omega
  refine call_of_wp zt41 rfl ?_
  repeat (first|apply wp_as|apply wp_ss|refine wr (by simp [hb];with_reducible rfl) ?_|refine wq (by simp [hb];with_reducible rfl) ?_|refine wt (by simpa [hb]) ?_|refine wf (by simpa [hb]) ?_|refine xt (by simpa [hb]) ?_|refine xf (by simpa [hb]) ?_|apply wp_bs|apply wp_b|refine wp_sr ?_|refine wp_sx ?_|refine wp_ret' ?_|refine wp_skip' ?_|refine wp_exit' ?_)
  have:=tabl_out w h F caps M g hh hw hF w 0 (by omega)
  simp [tabF] at this
  refine wp_imp this ?_
  rintro ex st ⟨rfl,rfl⟩
  simp only [if_true]
  repeat (first|apply wp_as|apply wp_ss|refine wr (by simp;with_reducible rfl) ?_|refine wq (by simp;with_reducible rfl) ?_|refine wt (by simpa) ?_|refine wf (by simpa) ?_|refine xt (by simpa) ?_|refine xf (by simpa) ?_|apply wp_bs|apply wp_b|refine wp_sr ?_|refine wp_sx ?_|refine wp_ret' ?_|refine wp_skip' ?_|refine wp_exit' ?_)
  simp [zi41,tabF]
  rw [List.take_of_length_le (by simp)]
end Go.Idl
namespace Go.Idl
def insC {α:Type} (lt:α→α→Bool) (x:α):List α→List α→List α
  | [],B=>x::B
  | a::r,B=>if lt x a then insC lt x r (a::B) else r.reverse++a::x::B
def srtC {α:Type} (lt:α→α→Bool):List α→List α→List α
  | S,[]=>S
  | S,x::r=>srtC lt (insC lt x S.reverse []) r
theorem insC_perm {α:Type} (lt:α→α→Bool) (x:α):∀ (r B:List α),(insC lt x r B).Perm (r.reverse++x::B)
  | [],B=>.refl _
  | a::r,B=>by
    unfold insC
    split
    · refine (insC_perm lt x r (a::B)).trans ?_
      rw [List.reverse_cons,List.append_assoc]
      exact List.Perm.append_left _ (.swap _ _ _)
    · rw [List.reverse_cons,List.append_assoc]
      exact .refl _
theorem insC_len {α:Type} (lt:α→α→Bool) (x:α) (S:List α):(insC lt x S.reverse []).length=S.length+1:=by
  have:=(insC_perm lt x S.reverse []).length_eq
  simpa using this
theorem srtC_perm {α:Type} (lt:α→α→Bool):∀ (r S:List α),(srtC lt S r).Perm (S++r)
  | [],S=>by simp [srtC]
  | x::r,S=>by
    refine (srtC_perm lt r _).trans ?_
    have:=insC_perm lt x S.reverse []
    rw [List.reverse_reverse] at this
    refine (this.append_right r).trans ?_
    rw [List.append_assoc];exact .refl _
end Go.Idl
namespace Go.Idl
open Go
abbrev vI (x:Int):IV:=I x
theorem appc_get1 {α:Type} {A Z:List α} {a x:α}:(A++a::x::Z)[A.length+1]? = some x:=by
  rw [List.getElem?_append_right (by omega)];simp
theorem appc_get0 {α:Type} {A Z:List α} {a:α}:(A++a::Z)[A.length]? = some a:=by
  rw [List.getElem?_append_right (by omega)];simp
theorem appc_set {α:Type} {A Z:List α} {a x:α}:((A++a::x::Z).set (A.length+1) a).set A.length x=A++x::a::Z:=by
  rw [List.set_append_right _ _ (by omega),List.set_append_right _ _ (by omega)]
  simp
def CmpOK {α:Type} (v:α→IV) (F:Lab) (caps:List IV) (lt:α→α→Bool) (D:α→Prop) (M:List Boxes):Prop :=
  ∀ x y,D x→D y→∃ k:Int,decide (k < 0)=lt x y∧Ev tb F [] (v x::v y::caps) (M++[[]]) ⟨I k,[],M++[[]],[]⟩
theorem icli (F:Lab) (caps:List IV) (lt:Int→Int→Bool) (D:Int→Prop) (M:List Boxes) (hc:CmpOK vI F caps lt D M) (P:List Int) (n i:Int) (x:Int) (rest:List Int):∀ (k:Nat) (A B:List Int),A.length=k→P.length+k+B.length+rest.length≤2000000→D x→(∀ a ∈ A,D a) →
    wp tb (.loop z278l6) { T:=[(0,O ((P++A)++x::(B++rest))),(1,I P.length),(2,I n),(3,.fn F caps),(8,I i),(9,I (P.length+k:Nat))],loc:=[],M:=M }
      (fun ex st=>ex=.exit 2∧∃ k':Int,st={ T:=[(0,O (P++(insC lt x A.reverse B++rest))),(1,I P.length),(2,I n),(3,.fn F caps),(8,I i),(9,I k'),(34,Bo false)],loc:=[],M:=M }):=by
  intro k
  induction k with
  | zero =>
    intro A B hA hl hx hD
    have:A=[]:=List.length_eq_zero_iff.1 hA
    subst this
    refine wp_loop ?_
    repeat (first|apply wp_as|apply wp_ss|refine wr (by simp;with_reducible rfl) ?_|refine wq (by simp;with_reducible rfl) ?_|refine wt (by simpa) ?_|refine wf (by simpa) ?_|refine xt (by simpa) ?_|refine xf (by simpa) ?_|apply wp_bs|apply wp_b|refine wp_sr ?_|refine wp_sx ?_|refine wp_ret' ?_|refine wp_skip' ?_|refine wp_exit' ?_)
    exact ⟨rfl,_,by simp [insC];rfl⟩
  | succ k ih =>
    intro A B hA hl hx hD
    obtain ⟨A',a,rfl⟩:∃ A' a,A=A'++[a]:=⟨A.dropLast,A.getLast (by intro h;subst h;simp at hA),(List.dropLast_concat_getLast _).symm⟩
    have hA':A'.length=k:=by simpa using hA
    subst hA'
    obtain ⟨c,hc1,hc2⟩:=hc x a hx (hD a (by simp))
    have e1:=ev_lim hc2
    have hPl:(P++A').length=P.length+A'.length:=by simp
    obtain ⟨Q,hQ⟩:∃ Q,Q=P++A':=⟨_,rfl⟩
    have hQl:P.length+A'.length=Q.length:=by rw [hQ];simp
    have hre:P++(A'++[a])++x::(B++rest)=Q++a::x::(B++rest):=by rw [hQ];simp
    rw [hre]
    have hk:((P.length+(A'.length+1):Nat):Int)=(Q.length:Int)+1:=by omega
    rw [hk]
    have w1:IntKind.i64.wrap (Q.length:Int)=(Q.length:Int):=wrap64 (by omega) (by omega)
    have w2:(P.length:Int) < (Q.length:Int)+1:=by omega
    by_cases hx0:c < 0
    · have hlt:lt x a=true:=by rw [← hc1];exact decide_eq_true hx0
      have:=ih A' (a::B) rfl (by simp;omega) hx (fun b hb=>hD b (by simp [hb]))
      rw [show P++A'++x::(a::B++rest)=Q++x::(a::(B++rest)) by rw [hQ];simp,hQl] at this
      refine wp_loop ?_
      repeat (first|apply wp_as|apply wp_ss|refine wr (by simp [e1,hx0,w1,w2,appc_get0,appc_get1,appc_set];with_reducible rfl) ?_|refine wq (by simp [e1,hx0,w1,w2,appc_get0,appc_get1,appc_set];with_reducible rfl) ?_|refine wt (by simpa [e1,hx0,w1,w2,appc_get0,appc_get1,appc_set]) ?_|refine wf (by simpa [e1,hx0,w1,w2,appc_get0,appc_get1,appc_set]) ?_|refine xt (by simpa [e1,hx0,w1,w2,appc_get0,appc_get1,appc_set]) ?_|refine xf (by simpa [e1,hx0,w1,w2,appc_get0,appc_get1,appc_set]) ?_|apply wp_bs|apply wp_b|refine wp_sr ?_|refine wp_sx ?_|refine wp_ret' ?_|refine wp_skip' ?_|refine wp_exit' ?_)
      simp only [List.reverse_append,List.reverse_cons,List.reverse_nil,List.nil_append,List.cons_append]
      simp only [insC,hlt,if_true]
      exact this
    · have hlt:lt x a=false:=by rw [← hc1];exact decide_eq_false hx0
      refine wp_loop ?_
      repeat (first|apply wp_as|apply wp_ss|refine wr (by simp [e1,hx0,w1,w2,appc_get0,appc_get1,appc_set];with_reducible rfl) ?_|refine wq (by simp [e1,hx0,w1,w2,appc_get0,appc_get1,appc_set];with_reducible rfl) ?_|refine wt (by simpa [e1,hx0,w1,w2,appc_get0,appc_get1,appc_set]) ?_|refine wf (by simpa [e1,hx0,w1,w2,appc_get0,appc_get1,appc_set]) ?_|refine xt (by simpa [e1,hx0,w1,w2,appc_get0,appc_get1,appc_set]) ?_|refine xf (by simpa [e1,hx0,w1,w2,appc_get0,appc_get1,appc_set]) ?_|apply wp_bs|apply wp_b|refine wp_sr ?_|refine wp_sx ?_|refine wp_ret' ?_|refine wp_skip' ?_|refine wp_exit' ?_)
      refine ⟨rfl,(Q.length:Int)+1,?_⟩
      simp only [List.reverse_append,List.reverse_cons,List.reverse_nil,List.nil_append,List.cons_append]
      simp only [insC,hlt,Bool.false_eq_true,if_false,List.reverse_reverse]
      rw [hQ]
      simp
theorem isoi (F:Lab) (caps:List IV) (lt:Int→Int→Bool) (D:Int→Prop) (M:List Boxes) (hc:CmpOK vI F caps lt D M) (P Q:List Int) (n:Int):∀ (r S:List Int),n=(P.length+S.length+r.length:Nat)→P.length+S.length+r.length+Q.length≤900000→(∀ x ∈ S,D x)→(∀ x ∈ r,D x) →
    wp tb (.loop z278l8) { T:=[(0,O (P++(S++(r++Q)))),(1,I P.length),(2,I n),(3,.fn F caps),(8,I (P.length+S.length:Nat))],loc:=[],M:=M }
      (fun ex st=>ex=.exit 0∧∃ k':Int,st={ T:=[(0,O (P++(srtC lt S r++Q))),(1,I P.length),(2,I n),(3,.fn F caps),(8,I k'),(14,Bo false)],loc:=[],M:=M }):=by
  intro r
  induction r with
  | nil =>
    intro S hn hl hS hr
    have h1:¬ ((P.length:Int)+(S.length:Int)) < n:=by simp at hn;omega
    refine wp_loop ?_
    repeat (first|apply wp_as|apply wp_ss|refine wr (by simp [h1];with_reducible rfl) ?_|refine wq (by simp [h1];with_reducible rfl) ?_|refine wt (by simpa [h1]) ?_|refine wf (by simpa [h1]) ?_|refine xt (by simpa [h1]) ?_|refine xf (by simpa [h1]) ?_|apply wp_bs|apply wp_b|refine wp_sr ?_|refine wp_sx ?_|refine wp_ret' ?_|refine wp_skip' ?_|refine wp_exit' ?_)
    exact ⟨rfl,_,by simp [srtC];rfl⟩
  | cons x r ih =>
    intro S hn hl hS hr
    simp only [List.length_cons] at hn hl
    have h1:(P.length:Int)+(S.length:Int) < n:=by omega
    have w1:IntKind.i64.wrap ((P.length:Int)+(S.length:Int)+1)=(P.length:Int)+(S.length:Int)+1:=by rw [wrap64 (by omega) (by omega)]
    have hin:=icli F caps lt D M hc P n ((P.length:Int)+S.length) x (r++Q) S.length S [] rfl (by simp;omega) (hr x (by simp)) hS
    rw [show P++S++x::([]++(r++Q))=P++(S++(x::r++Q)) by simp,show ((P.length+S.length:Nat):Int)=(P.length:Int)+S.length by omega] at hin
    have hn2:=ih (insC lt x S.reverse []) (by rw [insC_len];omega) (by rw [insC_len];omega) (fun y hy=>by
      have:=(insC_perm lt x S.reverse []).mem_iff.1 hy
      simp only [List.reverse_reverse,List.mem_append,List.mem_cons,List.not_mem_nil,or_false] at this
      rcases this with h | rfl
      · exact hS y h
      · exact hr y (by simp)) (fun y hy=>hr y (by simp [hy]))
    rw [insC_len,show ((P.length+(S.length+1):Nat):Int)=(P.length:Int)+S.length+1 by omega] at hn2
    rw [show ((P.length+S.length:Nat):Int)=(P.length:Int)+S.length by omega]
    refine wp_loop ?_
    repeat (first|apply wp_as|apply wp_ss|refine wr (by simp [h1,w1];with_reducible rfl) ?_|refine wq (by simp [h1,w1];with_reducible rfl) ?_|refine wt (by simpa [h1,w1]) ?_|refine wf (by simpa [h1,w1]) ?_|refine xt (by simpa [h1,w1]) ?_|refine xf (by simpa [h1,w1]) ?_|apply wp_bs|apply wp_b|refine wp_sr ?_|refine wp_sx ?_|refine wp_ret' ?_|refine wp_skip' ?_|refine wp_exit' ?_)
    refine wp_imp hin ?_
    rintro ex st ⟨rfl,k',rfl⟩
    simp only [if_true]
    repeat (first|apply wp_as|apply wp_ss|refine wr (by simp [h1,w1];with_reducible rfl) ?_|refine wq (by simp [h1,w1];with_reducible rfl) ?_|refine wt (by simpa [h1,w1]) ?_|refine wf (by simpa [h1,w1]) ?_|refine xt (by simpa [h1,w1]) ?_|refine xf (by simpa [h1,w1]) ?_|apply wp_bs|apply wp_b|refine wp_sr ?_|refine wp_sx ?_|refine wp_ret' ?_|refine wp_skip' ?_|refine wp_exit' ?_)
    exact hn2
theorem ev_insCi (F:Lab) (caps:List IV) (lt:Int→Int→Bool) (D:Int→Prop) (M:List Boxes) (hc:CmpOK vI F caps lt D M) (P Q seg:List Int) (hl:P.length+seg.length+Q.length≤800000) (hD:∀ x ∈ seg,D x) :
    Ev tb zl278 [0] [O (P++(seg++Q)),I P.length,I (P.length+seg.length:Nat),.fn F caps] M ⟨.tup [],[O (P++(srtC lt [] seg++Q))],M,[]⟩:=by
  have w1:IntKind.i64.wrap ((P.length:Int)+1)=(P.length:Int)+1:=by rw [wrap64 (by omega) (by omega)]
  cases seg with
  | nil =>
    have h1:¬ (P.length:Int)+1 < ((P.length+([]:List Int).length:Nat):Int):=by simp;omega
    simp only [List.length_nil,Nat.add_zero] at h1 ⊢
    refine call_of_wp zt278 rfl ?_
    repeat (first|apply wp_as|apply wp_ss|refine wr (by simp [w1];with_reducible rfl) ?_|refine wq (by simp [w1];with_reducible rfl) ?_|refine wt (by simpa [w1]) ?_|refine wf (by simpa [w1]) ?_|refine xt (by simpa [w1]) ?_|refine xf (by simpa [w1]) ?_|apply wp_bs|apply wp_b|refine wp_sr ?_|refine wp_sx ?_|refine wp_ret' ?_|refine wp_skip' ?_|refine wp_exit' ?_)
    refine wp_loop ?_
    repeat (first|apply wp_as|apply wp_ss|refine wr (by simp [h1];with_reducible rfl) ?_|refine wq (by simp [h1];with_reducible rfl) ?_|refine wt (by simpa [h1]) ?_|refine wf (by simpa [h1]) ?_|refine xt (by simpa [h1]) ?_|refine xf (by simpa [h1]) ?_|apply wp_bs|apply wp_b|refine wp_sr ?_|refine wp_sx ?_|refine wp_ret' ?_|refine wp_skip' ?_|refine wp_exit' ?_)
    simp [zi278,srtC]
  | cons x r =>
    have:=isoi F caps lt D M hc P Q (P.length+(x::r).length:Nat) r [x] (by simp;omega) (by simp at hl ⊢;omega) (fun y hy=>by simp at hy;subst hy;exact hD _ (by simp)) (fun y hy=>hD y (by simp [hy]))
    rw [show P++([x]++(r++Q))=P++(x::r++Q) by simp,show ((P.length+[x].length:Nat):Int)=(P.length:Int)+1 by simp] at this
    have hs:srtC lt [x] r=srtC lt [] (x::r):=by simp [srtC,insC]
    rw [hs] at this
    generalize ((P.length+(x::r).length:Nat):Int)=n at *
    refine call_of_wp zt278 rfl ?_
    repeat (first|apply wp_as|apply wp_ss|refine wr (by simp [w1];with_reducible rfl) ?_|refine wq (by simp [w1];with_reducible rfl) ?_|refine wt (by simpa [w1]) ?_|refine wf (by simpa [w1]) ?_|refine xt (by simpa [w1]) ?_|refine xf (by simpa [w1]) ?_|apply wp_bs|apply wp_b|refine wp_sr ?_|refine wp_sx ?_|refine wp_ret' ?_|refine wp_skip' ?_|refine wp_exit' ?_)
    refine wp_imp this ?_
    rintro ex st ⟨rfl,k',rfl⟩
    simp [zi278]
end Go.Idl
namespace Go.Idl
open Go
theorem ev_stable (F:Lab) (caps:List IV) (lt:Int→Int→Bool) (D:Int→Prop) (M:List Boxes) (hc:CmpOK vI F caps lt D (M++[[]])) (xs:List Int) (hl:xs.length≤19) (hD:∀ x ∈ xs,D x) :
    Ev tb zl289 [0] [O xs,I xs.length,.fn F caps] M ⟨.tup [],[O (srtC lt [] xs)],M,[]⟩:=by
  have e1:=ev_lim (ev_insCi F caps lt D (M++[[]]) hc [] [] xs (by simp;omega) hD)
  simp only [List.nil_append,List.append_nil,List.length_nil,Nat.zero_add] at e1
  rw [show ((0:Nat):Int)=0 from rfl] at e1
  have h1:¬ (20:Int)≤xs.length:=by omega
  have h2:¬ (20:Int) < xs.length:=by omega
  have h3:¬ 20≤xs.length:=by omega
  have h4:¬ 20 < xs.length:=by omega
  refine call_of_wp zt289 rfl ?_
  repeat (first|apply wp_as|apply wp_ss|refine wr (by simp;with_reducible rfl) ?_|refine wq (by simp;with_reducible rfl) ?_|refine wt (by simpa) ?_|refine wf (by simpa) ?_|refine xt (by simpa) ?_|refine xf (by simpa) ?_|apply wp_bs|apply wp_b|refine wp_sr ?_|refine wp_sx ?_|refine wp_ret' ?_|refine wp_skip' ?_|refine wp_exit' ?_)
  refine wp_loop ?_
  repeat (first|apply wp_as|apply wp_ss|refine wr (by simp [h1,h2,h3,h4,e1];with_reducible rfl) ?_|refine wq (by simp [h1,h2,h3,h4,e1];with_reducible rfl) ?_|refine wt (by simpa [h1,h2,h3,h4,e1]) ?_|refine wf (by simpa [h1,h2,h3,h4,e1]) ?_|refine xt (by simpa [h1,h2,h3,h4,e1]) ?_|refine xf (by simpa [h1,h2,h3,h4,e1]) ?_|apply wp_bs|apply wp_b|refine wp_sr ?_|refine wp_sx ?_|refine wp_ret' ?_|refine wp_skip' ?_|refine wp_exit' ?_)
  refine wp_loop ?_
  repeat (first|apply wp_as|apply wp_ss|refine wr (by simp [h1,h2,h3,h4,e1];with_reducible rfl) ?_|refine wq (by simp [h1,h2,h3,h4,e1];with_reducible rfl) ?_|refine wt (by simpa [h1,h2,h3,h4,e1]) ?_|refine wf (by simpa [h1,h2,h3,h4,e1]) ?_|refine xt (by simpa [h1,h2,h3,h4,e1]) ?_|refine xf (by simpa [h1,h2,h3,h4,e1]) ?_|apply wp_bs|apply wp_b|refine wp_sr ?_|refine wp_sx ?_|refine wp_ret' ?_|refine wp_skip' ?_|refine wp_exit' ?_)
  simp [zi289]
theorem ev_SortStable (F:Lab) (caps:List IV) (lt:Int→Int→Bool) (D:Int→Prop) (M:List Boxes) (hc:CmpOK vI F caps lt D (M++[[],[]])) (xs:List Int) (hl:xs.length≤19) (hD:∀ x ∈ xs,D x) :
    Ev tb zl273 [0] [O xs,.fn F caps] M ⟨.tup [],[O (srtC lt [] xs)],M,[]⟩:=by
  have e1:=ev_lim (ev_stable F caps lt D (M++[[]]) (by rw [List.append_assoc];exact hc) xs hl hD)
  refine call_of_wp zt273 rfl ?_
  repeat (first|apply wp_as|apply wp_ss|refine wr (by simp [e1];with_reducible rfl) ?_|refine wq (by simp [e1];with_reducible rfl) ?_|refine wt (by simpa [e1]) ?_|refine wf (by simpa [e1]) ?_|refine xt (by simpa [e1]) ?_|refine xf (by simpa [e1]) ?_|apply wp_bs|apply wp_b|refine wp_sr ?_|refine wp_sx ?_|refine wp_ret' ?_|refine wp_skip' ?_|refine wp_exit' ?_)
  simp [zi273]
def idxB (n:Nat) (but:Int):List Int:=((List.range n).map fun v:Nat=>(v:Int)).filter fun v=>decide (v ≠ but)
def nlI:List Int→IV
  | []=>Z
  | x::r=>O (x::r)
theorem ev_indices (n:Nat) (but:Int) (hn:n≤1000):Ev tb zl212 [] [I n,I but] [] ⟨nlI (idxB n but),[],[],[]⟩:=by
  have loop:∀ (m i:Nat),i+m=n→wp tb (.loop z212l8) { T:=[(1,I but),(5,nlI (idxB i but)),(7,I n),(8,I i)],loc:=[],M:=[] }
      (fun ex st=>ex=.exit 0∧st={ T:=[(1,I but),(5,nlI (idxB n but)),(7,I n),(8,I n),(9,Bo false)],loc:=[],M:=[] }):=by
    intro m
    induction m with
    | zero =>
      intro i hi
      have h3:i=n:=hi
      subst h3
      cases idxB i but with
      | nil =>
        simp only [nlI]
        refine wp_loop ?_
        repeat (first|apply wp_as|apply wp_ss|refine wr (by simp;with_reducible rfl) ?_|refine wq (by simp;with_reducible rfl) ?_|refine wt (by simpa) ?_|refine wf (by simpa) ?_|refine xt (by simpa) ?_|refine xf (by simpa) ?_|apply wp_bs|apply wp_b|refine wp_sr ?_|refine wp_sx ?_|refine wp_ret' ?_|refine wp_skip' ?_|refine wp_exit' ?_)
        exact ⟨rfl,rfl⟩
      | cons x r =>
        simp only [nlI]
        refine wp_loop ?_
        repeat (first|apply wp_as|apply wp_ss|refine wr (by simp;with_reducible rfl) ?_|refine wq (by simp;with_reducible rfl) ?_|refine wt (by simpa) ?_|refine wf (by simpa) ?_|refine xt (by simpa) ?_|refine xf (by simpa) ?_|apply wp_bs|apply wp_b|refine wp_sr ?_|refine wp_sx ?_|refine wp_ret' ?_|refine wp_skip' ?_|refine wp_exit' ?_)
        exact ⟨rfl,rfl⟩
    | succ m ih =>
      intro i hi
      have hi2:i < n:=by omega
      have w2:IntKind.i64.wrap ((i:Int)+1)=((i+1:Nat):Int):=wrapS (by omega)
      have hn2:=ih (i+1) (by omega)
      have hs:idxB (i+1) but=idxB i but++if (i:Int)=but then [] else [(i:Int)]:=by
        simp only [idxB,List.range_succ,List.map_append,List.map_cons,List.map_nil,List.filter_append,List.filter_cons,List.filter_nil]
        congr 1
        by_cases h:(i:Int)=but <;> simp [h]
      rw [hs] at hn2
      have hal:(idxB i but).length≤i:=Nat.le_trans (List.length_filter_le _ _) (by simp)
      generalize idxB i but=A at *
      by_cases hb:but=(i:Int)
      · subst hb
        rw [if_pos rfl,List.append_nil] at hn2
        cases A with
        | nil =>
          rw [show nlI []=Z from rfl] at hn2 ⊢
          refine wp_loop ?_
          repeat (first|apply wp_as|apply wp_ss|refine wr (by simp [hi2,w2];with_reducible rfl) ?_|refine wq (by simp [hi2,w2];with_reducible rfl) ?_|refine wt (by simpa [hi2,w2]) ?_|refine wf (by simpa [hi2,w2]) ?_|refine xt (by simpa [hi2,w2]) ?_|refine xf (by simpa [hi2,w2]) ?_|apply wp_bs|apply wp_b|refine wp_sr ?_|refine wp_sx ?_|refine wp_ret' ?_|refine wp_skip' ?_|refine wp_exit' ?_)
          exact hn2
        | cons x r =>
          rw [show nlI (x::r)=O (x::r) from rfl] at hn2 ⊢
          refine wp_loop ?_
          repeat (first|apply wp_as|apply wp_ss|refine wr (by simp [hi2,w2];with_reducible rfl) ?_|refine wq (by simp [hi2,w2];with_reducible rfl) ?_|refine wt (by simpa [hi2,w2]) ?_|refine wf (by simpa [hi2,w2]) ?_|refine xt (by simpa [hi2,w2]) ?_|refine xf (by simpa [hi2,w2]) ?_|apply wp_bs|apply wp_b|refine wp_sr ?_|refine wp_sx ?_|refine wp_ret' ?_|refine wp_skip' ?_|refine wp_exit' ?_)
          exact hn2
      · have hb':¬ (i:Int)=but:=fun h=>hb h.symm
        rw [if_neg hb'] at hn2
        cases A with
        | nil =>
          rw [List.nil_append,show nlI [(i:Int)]=O [(i:Int)] from rfl] at hn2
          rw [show nlI []=Z from rfl]
          refine wp_loop ?_
          repeat (first|apply wp_as|apply wp_ss|refine wr (by simp [hi2,w2,hb'];with_reducible rfl) ?_|refine wq (by simp [hi2,w2,hb'];with_reducible rfl) ?_|refine wt (by simpa [hi2,w2,hb']) ?_|refine wf (by simpa [hi2,w2,hb']) ?_|refine xt (by simpa [hi2,w2,hb']) ?_|refine xf (by simpa [hi2,w2,hb']) ?_|apply wp_bs|apply wp_b|refine wp_sr ?_|refine wp_sx ?_|refine wp_ret' ?_|refine wp_skip' ?_|refine wp_exit' ?_)
          exact hn2
        | cons x r =>
          rw [show nlI (x::r++[(i:Int)])=O (x::r++[(i:Int)]) from rfl] at hn2
          rw [show nlI (x::r)=O (x::r) from rfl]
          have hal1:r.length+1+1≤274877906944:=by simp at hal;omega
          have hat:(x::r).take (r.length+1)=x::r:=List.take_of_length_le (by simp)
          refine wp_loop ?_
          repeat (first|apply wp_as|apply wp_ss|refine wr (by simp [hi2,w2,hb',hal1,hat];with_reducible rfl) ?_|refine wq (by simp [hi2,w2,hb',hal1,hat];with_reducible rfl) ?_|refine wt (by simpa [hi2,w2,hb',hal1,hat]) ?_|refine wf (by simpa [hi2,w2,hb',hal1,hat]) ?_|refine xt (by simpa [hi2,w2,hb',hal1,hat]) ?_|refine xf (by simpa [hi2,w2,hb',hal1,hat]) ?_|apply wp_bs|apply wp_b|refine wp_sr ?_|refine wp_sx ?_|refine wp_ret' ?_|refine wp_skip' ?_|refine wp_exit' ?_)
          exact hn2
  refine call_of_wp zt212 rfl ?_
  repeat (first|apply wp_as|apply wp_ss|refine wr (by simp;with_reducible rfl) ?_|refine wq (by simp;with_reducible rfl) ?_|refine wt (by simpa) ?_|refine wf (by simpa) ?_|refine xt (by simpa) ?_|refine xf (by simpa) ?_|apply wp_bs|apply wp_b|refine wp_sr ?_|refine wp_sx ?_|refine wp_ret' ?_|refine wp_skip' ?_|refine wp_exit' ?_)
  refine wp_imp (loop n 0 (by simp)) ?_
  rintro ex st ⟨rfl,rfl⟩
  try simp only [if_true]
  cases idxB n but with
  | nil =>
    simp only [nlI]
    repeat (first|apply wp_as|apply wp_ss|refine wr (by simp;with_reducible rfl) ?_|refine wq (by simp;with_reducible rfl) ?_|refine wt (by simpa) ?_|refine wf (by simpa) ?_|refine xt (by simpa) ?_|refine xf (by simpa) ?_|apply wp_bs|apply wp_b|refine wp_sr ?_|refine wp_sx ?_|refine wp_ret' ?_|refine wp_skip' ?_|refine wp_exit' ?_)
    simp [zi212]
  | cons x r =>
    simp only [nlI]
    repeat (first|apply wp_as|apply wp_ss|refine wr (by simp;with_reducible rfl) ?_|refine wq (by simp;with_reducible rfl) ?_|refine wt (by simpa) ?_|refine wf (by simpa) ?_|refine xt (by simpa) ?_|refine xf (by simpa) ?_|apply wp_bs|apply wp_b|refine wp_sr ?_|refine wp_sx ?_|refine wp_ret' ?_|refine wp_skip' ?_|refine wp_exit' ?_)
    simp [zi212]
end Go.Idl
namespace Go.Idl
open Go
def comp (d:List Int):List Int:=(List.range d.length).map fun k=>(d.length:Int) - 1 - d.getD k 0
theorem ev_Complement_F1 (d:List Int) (c:Bool) (k:Nat) (hk:k < d.length) (hd:Few d) :
    Ev tb zl6 [] [I k,.bptr 0 0 0] [[[L d c]],[]] ⟨I ((d.length:Int) - 1 - d.getD k 0),[],[[[L d c]],[]],[]⟩:=by
  have hl:=hd.1
  have hx:=hd.2 d[k] (List.getElem_mem hk)
  have w1:IntKind.i64.wrap ((d.length:Int) - 1)=(d.length:Int) - 1:=wrap64 (by omega) (by omega)
  have w2:IntKind.i64.wrap ((d.length:Int) - 1 - d[k])=(d.length:Int) - 1 - d[k]:=wrap64 (by omega) (by omega)
  refine call_of_wp zt6 rfl ?_
  repeat (first|apply wp_as|apply wp_ss|refine wr (by simp [hk,w1,w2];with_reducible rfl) ?_|refine wq (by simp [hk,w1,w2];with_reducible rfl) ?_|refine wt (by simpa [hk,w1,w2]) ?_|refine wf (by simpa [hk,w1,w2]) ?_|refine xt (by simpa [hk,w1,w2]) ?_|refine xf (by simpa [hk,w1,w2]) ?_|apply wp_bs|apply wp_b|refine wp_sr ?_|refine wp_sx ?_|refine wp_ret' ?_|refine wp_skip' ?_|refine wp_exit' ?_)
  simp [zi6,List.getD_eq_getElem?_getD,hk]
theorem ev_Complement (d:List Int) (c:Bool) (hv:valid d=true):Ev tb zl5 [] [L d c] [] ⟨O (comp d),[],[],[]⟩:=by
  have e1:=ev_lim (ev_each d c zl6 [.bptr 0 0 0] [[[L d c]]] _ hv (fun k hk=>ev_Complement_F1 d c k hk (valid_few hv)))
  refine call_of_wp zt5 rfl ?_
  repeat (first|apply wp_as|apply wp_ss|refine wr (by simp [e1];with_reducible rfl) ?_|refine wq (by simp [e1];with_reducible rfl) ?_|refine wt (by simpa [e1]) ?_|refine wf (by simpa [e1]) ?_|refine xt (by simpa [e1]) ?_|refine xf (by simpa [e1]) ?_|apply wp_bs|apply wp_b|refine wp_sr ?_|refine wp_sx ?_|refine wp_ret' ?_|refine wp_skip' ?_|refine wp_exit' ?_)
  simp [zi5,comp,mapR]
theorem code_ok {code:List Int} (h:∀ x ∈ code,0≤x∧x≤255):CodeOk (code.take 2000):=⟨by simp;omega,fun x hx=>h x (List.mem_of_mem_take hx)⟩
end Go.Idl
namespace Go.Idl
open Go
def TT (n:Nat) (t:List (List Int)):Prop:=t.length=n∧∀ r ∈ t,r.length=n∧∀ x ∈ r,0≤x∧x≤1
theorem TT.set {n:Nat} {t:List (List Int)} (h:TT n t) {a b:Nat} {v:Int} (ha:a < t.length) (hv:0≤v∧v≤1):TT n (t.set a (t[a].set b v)):=by
  refine ⟨by simpa using h.1,fun r hr=>?_⟩
  have h1:=h.2 _ (List.getElem_mem ha)
  rcases List.mem_or_eq_of_mem_set hr with hr | rfl
  · exact h.2 r hr
  · refine ⟨by simpa using h1.1,fun x hx=>?_⟩
    rcases List.mem_or_eq_of_mem_set hx with hx | rfl
    · exact h1.2 x hx
    · exact hv
theorem at_in (code:List Int) (c:Bool) (hc:CodeOk code) (n:Nat) (hn:n≤5) (bs:Boxes) (Ms:List Boxes) (a:Nat) (ha:a < n) :
    ∀ (m b cnt:Nat) (t:List (List Int)),b+m=n→cnt+m≤90000→TT n t →
    wp tb (.loop z119l16) { T:=[(0,.bptr 0 0 0),(3,I n),(4,OT t),(6,I a),(7,I b)],loc:=[],M:=(R code c cnt::bs)::Ms }
      (fun ex st=>ex=.exit 4∧∃ (t':List (List Int)) (k:Nat),TT n t'∧k≤cnt+m∧st={ T:=[(0,.bptr 0 0 0),(3,I n),(4,OT t'),(6,I a),(7,I n),(31,Bo false)],loc:=[],M:=(R code c k::bs)::Ms }):=by
  intro m
  induction m with
  | zero =>
    intro b cnt t hb hcn ht
    have h3:b=n:=hb
    subst h3
    refine wp_loop ?_
    repeat (first|apply wp_as|apply wp_ss|refine wr (by simp;with_reducible rfl) ?_|refine wq (by simp;with_reducible rfl) ?_|refine wt (by simpa) ?_|refine wf (by simpa) ?_|refine xt (by simpa) ?_|refine xf (by simpa) ?_|apply wp_bs|apply wp_b|refine wp_sr ?_|refine wp_sx ?_|refine wp_ret' ?_|refine wp_skip' ?_|refine wp_exit' ?_)
    exact ⟨rfl,t,cnt,ht,by omega,rfl⟩
  | succ m ih =>
    intro b cnt t hb hcn ht
    have hbn:b < n:=by omega
    have w2:IntKind.i64.wrap ((b:Int)+1)=((b+1:Nat):Int):=wrapS (by omega)
    have hta:a < t.length:=by rw [ht.1];exact ha
    have htb:b < t.length:=by rw [ht.1];exact hbn
    have hra:b < t[a].length:=by have:=(ht.2 _ (List.getElem_mem hta)).1;omega
    have hrb:a < t[b].length:=by have:=(ht.2 _ (List.getElem_mem htb)).1;omega
    obtain ⟨v,k,hv,hk,e1⟩:=pick' code c hc cnt (by omega) 2 (by omega) bs (Ms++[[]])
    by_cases h0:v=0
    · subst h0
      rw [show ((0:Nat):Int)=0 from rfl] at e1
      refine wp_loop ?_
      repeat (first|apply wp_as|apply wp_ss|refine wr (by simp [hbn,e1,hta,hra,w2];with_reducible rfl) ?_|refine wq (by simp [hbn,e1,hta,hra,w2];with_reducible rfl) ?_|refine wt (by simpa [hbn,e1,hta,hra,w2]) ?_|refine wf (by simpa [hbn,e1,hta,hra,w2]) ?_|refine xt (by simpa [hbn,e1,hta,hra,w2]) ?_|refine xf (by simpa [hbn,e1,hta,hra,w2]) ?_|apply wp_bs|apply wp_b|refine wp_sr ?_|refine wp_sx ?_|refine wp_ret' ?_|refine wp_skip' ?_|refine wp_exit' ?_)
      refine wp_imp (ih (b+1) k _ (by omega) (by omega) (ht.set (b:=b) (v:=1) hta (by omega))) ?_
      rintro ex st ⟨rfl,t',k',h1,h2,rfl⟩
      exact ⟨rfl,t',k',h1,by omega,rfl⟩
    · refine wp_loop ?_
      repeat (first|apply wp_as|apply wp_ss|refine wr (by simp [hbn,e1,htb,hrb,w2,h0];with_reducible rfl) ?_|refine wq (by simp [hbn,e1,htb,hrb,w2,h0];with_reducible rfl) ?_|refine wt (by simpa [hbn,e1,htb,hrb,w2,h0]) ?_|refine wf (by simpa [hbn,e1,htb,hrb,w2,h0]) ?_|refine xt (by simpa [hbn,e1,htb,hrb,w2,h0]) ?_|refine xf (by simpa [hbn,e1,htb,hrb,w2,h0]) ?_|apply wp_bs|apply wp_b|refine wp_sr ?_|refine wp_sx ?_|refine wp_ret' ?_|refine wp_skip' ?_|refine wp_exit' ?_)
      refine wp_imp (ih (b+1) k _ (by omega) (by omega) (ht.set (b:=a) (v:=1) htb (by omega))) ?_
      rintro ex st ⟨rfl,t',k',h1,h2,rfl⟩
      exact ⟨rfl,t',k',h1,by omega,rfl⟩
theorem at_out (code:List Int) (c:Bool) (hc:CodeOk code) (n:Nat) (hn:n≤5) (bs:Boxes) (Ms:List Boxes) :
    ∀ (m a cnt:Nat) (t:List (List Int)),a+m=n→cnt+5 * m≤90000→TT n t →
    wp tb (.loop z119l18) { T:=[(0,.bptr 0 0 0),(3,I n),(4,OT t),(6,I a)],loc:=[],M:=(R code c cnt::bs)::Ms }
      (fun ex st=>ex=.exit 2∧∃ (t':List (List Int)) (k:Nat),TT n t'∧k≤cnt+5 * m∧st={ T:=[(0,.bptr 0 0 0),(3,I n),(4,OT t'),(6,I n),(24,Bo false)],loc:=[],M:=(R code c k::bs)::Ms }):=by
  intro m
  induction m with
  | zero =>
    intro a cnt t ha hcn ht
    have h3:a=n:=ha
    subst h3
    refine wp_loop ?_
    repeat (first|apply wp_as|apply wp_ss|refine wr (by simp;with_reducible rfl) ?_|refine wq (by simp;with_reducible rfl) ?_|refine wt (by simpa) ?_|refine wf (by simpa) ?_|refine xt (by simpa) ?_|refine xf (by simpa) ?_|apply wp_bs|apply wp_b|refine wp_sr ?_|refine wp_sx ?_|refine wp_ret' ?_|refine wp_skip' ?_|refine wp_exit' ?_)
    exact ⟨rfl,t,cnt,ht,by omega,rfl⟩
  | succ m ih =>
    intro a cnt t ha hcn ht
    have han:a < n:=by omega
    have w2:IntKind.i64.wrap ((a:Int)+1)=((a+1:Nat):Int):=wrapS (by omega)
    refine wp_loop ?_
    repeat (first|apply wp_as|apply wp_ss|refine wr (by simp [han,w2];with_reducible rfl) ?_|refine wq (by simp [han,w2];with_reducible rfl) ?_|refine wt (by simpa [han,w2]) ?_|refine wf (by simpa [han,w2]) ?_|refine xt (by simpa [han,w2]) ?_|refine xf (by simpa [han,w2]) ?_|apply wp_bs|apply wp_b|refine wp_sr ?_|refine wp_sx ?_|refine wp_ret' ?_|refine wp_skip' ?_|refine wp_exit' ?_)
    refine wp_imp (at_in code c hc n hn bs Ms a han (n - (a+1)) (a+1) cnt t (by omega) (by omega) ht) ?_
    rintro ex st ⟨rfl,t',k',h1,h2,rfl⟩
    simp only [if_true]
    repeat (first|apply wp_as|apply wp_ss|refine wr (by simp [w2];with_reducible rfl) ?_|refine wq (by simp [w2];with_reducible rfl) ?_|refine wt (by simpa [w2]) ?_|refine wf (by simpa [w2]) ?_|refine xt (by simpa [w2]) ?_|refine xf (by simpa [w2]) ?_|apply wp_bs|apply wp_b|refine wp_sr ?_|refine wp_sx ?_|refine wp_ret' ?_|refine wp_skip' ?_|refine wp_exit' ?_)
    refine wp_imp (ih (a+1) k' t' (by omega) (by omega) h1) ?_
    rintro ex st ⟨rfl,t'',k'',h3,h4,rfl⟩
    exact ⟨rfl,t'',k'',h3,by omega,rfl⟩
theorem ev_aTournament (code:List Int) (c:Bool) (hc:CodeOk code) (cnt:Nat) (hn:cnt≤80000) (bs:Boxes) (Ms:List Boxes) :
    ∃ (n:Nat) (t:List (List Int)) (k:Nat),1≤n∧n≤5∧TT n t∧k≤cnt+30 ∧
      limF tb zl119 [] [.bptr 0 0 0] ((R code c cnt::bs)::Ms)=some ⟨OT t,[],(R code c k::bs)::Ms,[]⟩:=by
  suffices h:∃ r,(∃ (n:Nat) (t:List (List Int)) (k:Nat),1≤n∧n≤5∧TT n t∧k≤cnt+30∧r=⟨OT t,[],(R code c k::bs)::Ms,[]⟩)∧Ev tb zl119 [] [.bptr 0 0 0] ((R code c cnt::bs)::Ms) r by
    obtain ⟨r,⟨n,t,k,h1,h2,h3,h4,rfl⟩,h⟩:=h
    exact ⟨n,t,k,h1,h2,h3,h4,ev_lim h⟩
  refine call_ex zt119 rfl ?_
  obtain ⟨x,k1,hx,hk1,e1⟩:=one2 code c hc cnt (by omega) [4,3,5,2,1] (by simp) bs (Ms++[[]])
  obtain ⟨n,rfl,hn1,hn5⟩:∃ n:Nat,x=(n:Int)∧1≤n∧n≤5:=by
    simp at hx
    exact ⟨x.toNat,by omega,by omega,by omega⟩
  have loop:∀ (m i:Nat),i+m=n→wp tb (.loop z119l7) { T:=[(0,.bptr 0 0 0),(3,I n),(4,OT (List.replicate i (List.replicate n 0))),(5,I i)],loc:=[],M:=(R code c k1::bs)::Ms }
      (fun ex st=>ex=.exit 0∧st={ T:=[(0,.bptr 0 0 0),(3,I n),(4,OT (List.replicate n (List.replicate n 0))),(5,I n),(14,Bo false)],loc:=[],M:=(R code c k1::bs)::Ms }):=by
    intro m
    induction m with
    | zero =>
      intro i hi
      have h3:i=n:=hi
      subst h3
      refine wp_loop ?_
      repeat (first|apply wp_as|apply wp_ss|refine wr (by simp;with_reducible rfl) ?_|refine wq (by simp;with_reducible rfl) ?_|refine wt (by simpa) ?_|refine wf (by simpa) ?_|refine xt (by simpa) ?_|refine xf (by simpa) ?_|apply wp_bs|apply wp_b|refine wp_sr ?_|refine wp_sx ?_|refine wp_ret' ?_|refine wp_skip' ?_|refine wp_exit' ?_)
      exact ⟨rfl,rfl⟩
    | succ m ih =>
      intro i hi
      have hin:i < n:=by omega
      have w2:IntKind.i64.wrap ((i:Int)+1)=((i+1:Nat):Int):=wrapS (by omega)
      have hr:List.replicate i (List.replicate n (0:Int))++[List.replicate n 0]=List.replicate (i+1) (List.replicate n 0):=by
        rw [List.replicate_succ']
      refine wp_loop ?_
      repeat (first|apply wp_as|apply wp_ss|refine wr (by simp [hin,w2,show n≤274877906944 by omega,hr,show i≤274877906943 by omega];with_reducible rfl) ?_|refine wq (by simp [hin,w2,show n≤274877906944 by omega,hr,show i≤274877906943 by omega];with_reducible rfl) ?_|refine wt (by simpa [hin,w2,show n≤274877906944 by omega,hr,show i≤274877906943 by omega]) ?_|refine wf (by simpa [hin,w2,show n≤274877906944 by omega,hr,show i≤274877906943 by omega]) ?_|refine xt (by simpa [hin,w2,show n≤274877906944 by omega,hr,show i≤274877906943 by omega]) ?_|refine xf (by simpa [hin,w2,show n≤274877906944 by omega,hr,show i≤274877906943 by omega]) ?_|apply wp_bs|apply wp_b|refine wp_sr ?_|refine wp_sx ?_|refine wp_ret' ?_|refine wp_skip' ?_|refine wp_exit' ?_)
      exact ih (i+1) (by omega)
  repeat (first|apply wp_as|apply wp_ss|refine wr (by simp [e1];with_reducible rfl) ?_|refine wq (by simp [e1];with_reducible rfl) ?_|refine wt (by simpa [e1]) ?_|refine wf (by simpa [e1]) ?_|refine xt (by simpa [e1]) ?_|refine xf (by simpa [e1]) ?_|apply wp_bs|apply wp_b|refine wp_sr ?_|refine wp_sx ?_|refine wp_ret' ?_|refine wp_skip' ?_|refine wp_exit' ?_)
  have h:=loop n 0 (by omega)
  simp at h
  refine wp_imp h ?_
  rintro ex st ⟨rfl,rfl⟩
  simp only [if_true]
  repeat (first|apply wp_as|apply wp_ss|refine wr (by simp;with_reducible rfl) ?_|refine wq (by simp;with_reducible rfl) ?_|refine wt (by simpa) ?_|refine wf (by simpa) ?_|refine xt (by simpa) ?_|refine xf (by simpa) ?_|apply wp_bs|apply wp_b|refine wp_sr ?_|refine wp_sx ?_|refine wp_ret' ?_|refine wp_skip' ?_|refine wp_exit' ?_)
  have hT:TT n (List.replicate n (List.replicate n 0)):=⟨by simp,fun r hr=>by
    have:=List.eq_of_mem_replicate hr
    subst this
    exact ⟨by simp,fun x hx=>by have:=List.eq_of_mem_replicate hx;omega⟩⟩
  refine wp_imp (at_out code c hc n hn5 bs Ms n 0 k1 _ (by omega) (by omega) hT) ?_
  rintro ex st ⟨rfl,t',k',h1,h2,rfl⟩
  simp only [if_true]
  repeat (first|apply wp_as|apply wp_ss|refine wr (by simp;with_reducible rfl) ?_|refine wq (by simp;with_reducible rfl) ?_|refine wt (by simpa) ?_|refine wf (by simpa) ?_|refine xt (by simpa) ?_|refine xf (by simpa) ?_|apply wp_bs|apply wp_b|refine wp_sr ?_|refine wp_sx ?_|refine wp_ret' ?_|refine wp_skip' ?_|refine wp_exit' ?_)
  refine ⟨.inr rfl,_,⟨n,t',k',hn1,hn5,h1,by omega,rfl⟩,?_⟩
  simp [zi119]
end Go.Idl
namespace Go.Idl
open Go
def TS (t:List (List Int)):Prop:=(1≤t.length∧t.length≤5)∧∀ r ∈ t,r.length≤5∧∀ x ∈ r,0≤x∧x≤1
theorem TS.small {t:List (List Int)} (h:TS t):Small2 t:=⟨by have:=h.1;omega,fun r hr=>⟨by have:=(h.2 r hr).1;omega,fun x hx=>by have:=(h.2 r hr).2 x hx;omega⟩⟩
theorem TT.ts {n:Nat} {t:List (List Int)} (h:TT n t) (h1:1≤n) (h5:n≤5):TS t:=⟨by have:=h.1;omega,fun r hr=>⟨by have:=(h.2 r hr).1;omega,(h.2 r hr).2⟩⟩
end Go.Idl
namespace Go.Idl
open Go
def sN (l:List Nat) (f:Nat→Int):Int:=(l.map f).sum
theorem sN_cons (x:Nat) (r:List Nat) (f:Nat→Int):sN (x::r) f=f x+sN r f:=by simp [sN]
theorem sN_add (l:List Nat) (f g:Nat→Int):sN l (fun a=>f a+g a)=sN l f+sN l g:=by
  induction l with
  | nil=>simp [sN]
  | cons x r ih=>simp only [sN_cons,ih];omega
theorem sN_congr {l:List Nat} {f g:Nat→Int} (h:∀ a ∈ l,f a=g a):sN l f=sN l g:=by
  unfold sN;rw [List.map_congr_left h]
theorem sN_one (l:List Nat):sN l (fun _=>1)=l.length:=by
  induction l with
  | nil=>simp [sN]
  | cons y r ih=>rw [sN_cons,ih];simp;omega
theorem within {g:Nat→Nat→Int}:∀ (X:List Nat),X.Nodup→(∀ a ∈ X,g a a=0)→(∀ a ∈ X,∀ b ∈ X,a ≠ b→g a b+g b a=1) →
    2 * sN X (fun a=>sN X (g a))=(X.length:Int) * ((X.length:Int) - 1)
  | [],_,_,_=>by simp [sN]
  | x::r,hd,h0,h1=>by
    have hd':=List.nodup_cons.1 hd
    have ih:=within r hd'.2 (fun a ha=>h0 a (by simp [ha])) (fun a ha b hb=>h1 a (by simp [ha]) b (by simp [hb]))
    have e1:sN r (fun a=>sN (x::r) (g a))=sN r (fun a=>g a x)+sN r (fun a=>sN r (g a)):=by
      rw [← sN_add];exact sN_congr fun a _=>sN_cons x r (g a)
    have e2:sN r (g x)+sN r (fun a=>g a x)=r.length:=by
      rw [← sN_add,sN_congr (g:=fun _=>1) (fun a ha=>h1 x (by simp) a (by simp [ha]) (fun e=>hd'.1 (by rw [e];exact ha))),sN_one]
    have e3:=h0 x (by simp)
    rw [sN_cons,sN_cons,e1,e3]
    simp only [List.length_cons]
    have:((r.length+1:Nat):Int) * (((r.length+1:Nat):Int) - 1)=(r.length:Int) * ((r.length:Int) - 1)+2 * r.length:=by
      rw [Int.natCast_add,Int.natCast_one,Int.add_sub_cancel,Int.add_mul,Int.mul_sub];omega
    rw [this,← ih];omega
end Go.Idl
namespace Go.Idl
open Go
theorem Tour.small {t:List (List Int)} (ht:Tour t):Small2 t :=
  ⟨by have:=ht.1;omega,fun r hr=>⟨by have:=(ht.2.1 r hr).1;have:=ht.1;omega,fun x hx=>by have:=(ht.2.1 r hr).2 x hx;omega⟩⟩
end Go.Idl
namespace Go.Idl
open Go
theorem ev_copyTable_F1 (t:List (List Int)) (c:Bool) (i k:Nat) (hi:i < t.length) (hk:k < t[i].length) :
    Ev tb zl34 [] [I i,I k,.bptr 0 0 0] [[[TL t c]],[]] ⟨I (g2 t i k),[],[[[TL t c]],[]],[]⟩:=by
  have hg:=g2_eq hi hk
  refine call_of_wp zt34 rfl ?_
  repeat (first|apply wp_as|apply wp_ss|refine wr (by simp [hi,hk];with_reducible rfl) ?_|refine wq (by simp [hi,hk];with_reducible rfl) ?_|refine wt (by simpa [hi,hk]) ?_|refine wf (by simpa [hi,hk]) ?_|refine xt (by simpa [hi,hk]) ?_|refine xf (by simpa [hi,hk]) ?_|apply wp_bs|apply wp_b|refine wp_sr ?_|refine wp_sx ?_|refine wp_ret' ?_|refine wp_skip' ?_|refine wp_exit' ?_)
  simp [zi34,hg]
theorem tabF_self {n:Nat} {t:List (List Int)} (h:TT n t):tabF n n (g2 t)=t:=by
  refine List.ext_getElem (by simp [tabF,h.1]) fun i h1 h2=>?_
  have hr:=h.2 _ (List.getElem_mem h2)
  refine List.ext_getElem (by simp [tabF,mapR,hr.1]) fun k h3 h4=>?_
  simp [tabF,mapR,g2_eq h2 h4]
end Go.Idl
namespace Go.Idl
open Go
@[simp] theorem get_mid {α:Type} (A bs:List α) (x:α):(A++x::bs)[A.length]? = some x:=by simp
@[simp] theorem set_mid {α:Type} (A bs:List α) (x y:α):(A++x::bs).set A.length y=A++y::bs:=by
  rw [List.set_append_right _ _ (Nat.le_refl _)];simp
@[simp] theorem set_last {α:Type} (A:List α) (x y:α):(A++[x]).set A.length y=A++[y]:=set_mid A [] x y
end Go.Idl
namespace Go.Idl
open Go
def ahead (x y:List Int) (i m:Nat):Bool:=(List.range m).all fun j=>decide ((y.take (i+j+1)).sum≤(x.take (i+j+1)).sum)
end Go.Idl
namespace Go.Idl
open Go
def Fit (es:List (Int×Int)):Prop:=∀ e ∈ es,-9223372036854775808≤e.1∧e.1 < 9223372036854775808∧-9223372036854775808≤e.2∧e.2 < 9223372036854775808
def below (a b:Int×Int):Bool:=decide (a.1 < b.1) || (decide (a.1=b.1) && decide (a.2 < b.2))
theorem Fit.at {es:List (Int×Int)} (h:Fit es) {i:Nat} (hi:i < es.length):-9223372036854775808≤es[i].1∧es[i].1 < 9223372036854775808∧-9223372036854775808≤es[i].2∧es[i].2 < 9223372036854775808:=h _ (List.getElem_mem hi)
end Go.Idl
namespace Go.Idl
open Go
def nl2:List (Int×Int)→IV
  | []=>Z
  | e::es=>O2 (e::es)
@[simp] theorem nl2_nil:nl2 []=Z:=rfl
@[simp] theorem nl2_cons (e:Int×Int) (es:List (Int×Int)):nl2 (e::es)=O2 (e::es):=rfl
end Go.Idl
namespace Go.Idl
open Go
def decAt (o:List Int) (i:Nat):List Int:=o.set i (o.getD i 0 - 1)
def subs:List (Int×Int)→List Int→List (Int×Int)→List (List (Int×Int))
  | [],left,chosen=>if left.all (fun x=>decide (x=0)) then [chosen] else []
  | e::r,left,chosen =>
    (if 0 < left.getD e.1.toNat 0∧0 < left.getD e.2.toNat 0 then subs r (decAt (decAt left e.1.toNat) e.2.toNat) (chosen++[e]) else [])++subs r left chosen
end Go.Idl
namespace Go.Idl
open Go
def RT (w h:Nat) (t:List (List Int)):Prop:=t.length=w∧∀ r ∈ t,r.length=h
def set2 (t:List (List Int)) (i j:Nat) (v:Int):List (List Int):=t.set i ((t.getD i []).set j v)
theorem RT.set2 {w h:Nat} {t:List (List Int)} (ht:RT w h t) (i j:Nat) (v:Int) (hi:i < w):RT w h (set2 t i j v):=by
  have hi2:i < t.length:=by rw [ht.1];exact hi
  refine ⟨by simp [Go.Idl.set2,ht.1],fun r hr=>?_⟩
  rcases List.mem_or_eq_of_mem_set hr with hr | rfl
  · exact ht.2 r hr
  · have:t.getD i []=t[i]:=by simp [List.getD_eq_getElem?_getD,List.getElem?_eq_getElem hi2]
    rw [this,List.length_set]
    exact ht.2 _ (List.getElem_mem hi2)
def upT {α:Type} (more:α→Bool):List α→List α×Bool
  | []=>([],true)
  | g::r=>if more g then (g::(upT more r).1,(upT more r).2) else ([g],false)
theorem upT_app {α:Type} (more:α→Bool) (a b:List α):upT more (a++b)=if (upT more a).2 then ((upT more a).1++(upT more b).1,(upT more b).2) else upT more a:=by
  induction a with
  | nil=>simp [upT]
  | cons g r ih =>
    simp only [List.cons_append,upT,ih]
    by_cases hm:more g=true
    · simp only [if_pos hm]
      by_cases hq:(upT more r).2=true <;> simp [hq]
    · simp only [if_neg hm];simp
def mts (may:Nat→Nat→Bool) (h:Nat):Nat→Nat→List Int→List Int→List (List Int)→List (List (List Int))
  | 0,_,l,r,t=>if 0 < l.sum ∨ 0 < r.sum then [] else [t]
  | m+1,k,l,r,t=>if (h:Int) - ((k % h:Nat):Int) < l.getD (k / h) 0 then [] else
     (if may (k / h) (k % h)=true∧0 < l.getD (k / h) 0∧0 < r.getD (k % h) 0 then mts may h m (k+1) (decAt l (k / h)) (decAt r (k % h)) (set2 t (k / h) (k % h) 1) else []) ++
     mts may h m (k+1) l r t
def capsM:List IV:=[.bptr 1 0 0,.bptr 1 1 0,.bptr 1 4 0,.bptr 1 5 0,.bptr 1 3 0,.bptr 1 6 0,.bptr 1 2 0,.bptr 1 7 0]
def boxM (rows cols:List Int) (cr cc:Bool) (A:Lab) (F:Lab) (caps:List IV) (l r:List Int) (t:List (List Int)):Boxes :=
  [[L rows cr],[L cols cc],[.fn A []],[.fn F caps],[O l],[O r],[OT t],[.fn zl413 capsM]]
def CallsBackM (w h:Nat) (F:Lab) (caps:List IV) (more:List (List Int)→Bool) (P:List (List (List Int))→Boxes→Prop):Prop :=
  ∀ gl bs t,P gl bs→gl.length≤40000000→RT w h t→∃ bs',P (gl++[t]) bs'∧∀ B Es,Ev tb F [] (OT t::caps) (bs::B::Es) ⟨Bo (more t),[],bs'::B::Es,[]⟩
theorem tabF_selfR {w h:Nat} {t:List (List Int)} (ht:RT w h t):tabF w h (g2 t)=t:=by
  refine List.ext_getElem (by simp [tabF,ht.1]) fun i h1 h2=>?_
  have hr:=ht.2 _ (List.getElem_mem h2)
  refine List.ext_getElem (by simp [tabF,mapR,hr]) fun k h3 h4=>?_
  simp [tabF,mapR,g2_eq h2 h4]
theorem ev_copyTableR (w h:Nat) (t:List (List Int)) (c:Bool) (ht:RT w h t) (h0:0 < w) (hw:w≤5) (hh:h≤5) :
    Ev tb zl33 [] [TL t c] [] ⟨OT t,[],[],[]⟩:=by
  have hl:=ht.1
  have h0':0 < t.length:=by omega
  have hr0:=ht.2 _ (List.getElem_mem h0')
  have e2:=ev_lim (ev_table w h zl34 [.bptr 0 0 0] [[[TL t c]]] (g2 t) (by omega) (by omega)
    (fun i k hi hk=>ev_copyTable_F1 t c i k (by omega) (by have:=ht.2 _ (List.getElem_mem (by omega:i < t.length));omega)))
  rw [tabF_selfR ht] at e2
  refine call_of_wp zt33 rfl ?_
  repeat (first|apply wp_as|apply wp_ss|refine wr (by simp [e2,h0,h0',hr0,hl];with_reducible rfl) ?_|refine wq (by simp [e2,h0,h0',hr0,hl];with_reducible rfl) ?_|refine wt (by simpa [e2,h0,h0',hr0,hl]) ?_|refine wf (by simpa [e2,h0,h0',hr0,hl]) ?_|refine xt (by simpa [e2,h0,h0',hr0,hl]) ?_|refine xf (by simpa [e2,h0,h0',hr0,hl]) ?_|apply wp_bs|apply wp_b|refine wp_sr ?_|refine wp_sx ?_|refine wp_ret' ?_|refine wp_skip' ?_|refine wp_exit' ?_)
  simp [zi33]
def Lil (xs:List Int):Prop:=∀ x ∈ xs,0≤x∧x≤1000
theorem Lil.sum {xs:List Int} (h:Lil xs):0≤xs.sum∧xs.sum≤1000 * xs.length:=by
  induction xs with
  | nil=>simp
  | cons x r ih =>
    have h1:=h x (by simp)
    have h2:=ih fun y hy=>h y (by simp [hy])
    simp only [List.sum_cons,List.length_cons];omega
theorem Lil.small {xs:List Int} (h:Lil xs) (hl:xs.length≤1000):SmallSum xs:=⟨by omega,fun k=>by
  have h1:Lil (xs.take k):=fun x hx=>h x (List.mem_of_mem_take hx)
  have h2:=h1.sum
  have h3:(xs.take k).length≤xs.length:=by simp;omega
  omega⟩
theorem Lil.dec {xs:List Int} (h:Lil xs) {i:Nat} (h0:0 < xs.getD i 0):Lil (decAt xs i):=fun x hx=>by
  rcases List.mem_or_eq_of_mem_set hx with hx | rfl
  · exact h x hx
  · rw [List.getD_eq_getElem?_getD] at h0 ⊢
    cases ho:xs[i]? with
    | none=>rw [ho] at h0;simp at h0
    | some y=>rw [ho] at h0;have:=h y (List.mem_of_getElem? ho);simp at h0 ⊢;omega
theorem mt_end (w h:Nat) (rows cols:List Int) (cr cc:Bool) (A F:Lab) (caps:List IV) (more:List (List Int)→Bool) (P:List (List (List Int))→Boxes→Prop) (hcb:CallsBackM w h F caps more P)
    (h0:0 < w) (hw:w≤5) (hh:h≤5) (hrl:rows.length=w) (hcl:cols.length=h) (may:Nat→Nat→Bool) (l r:List Int) (t:List (List Int)) (gl:List (List (List Int))) (bs:Boxes) (Es:List Boxes) (hP:P gl bs) (hgl:gl.length≤40000000)
    (hl:Lil l) (hr:Lil r) (hll:l.length=w) (hrr:r.length=h) (ht:RT w h t) (k:Nat) (hk:k=w * h) :
    ∃ bs',P (gl++(upT more (mts may h 0 k l r t)).1) bs' ∧
      Ev tb zl413 [] (I k::capsM) (bs::boxM rows cols cr cc A F caps l r t::Es) ⟨Bo (upT more (mts may h 0 k l r t)).2,[],bs'::boxM rows cols cr cc A F caps l r t::Es,[]⟩:=by
  have e1:=fun c=>ev_lim (ev_sum l c (hl.small (by omega)))
  have e2:=fun c=>ev_lim (ev_sum r c (hr.small (by omega)))
  have hlt:l.take w=l:=List.take_of_length_le (by omega)
  have hrt:r.take h=r:=List.take_of_length_le (by omega)
  have htt:t.take w=t:=List.take_of_length_le (by rw [ht.1];omega)
  have hw5:IntKind.i64.wrap ((w:Int) * (h:Int))=(k:Int):=by
    have:w * h≤5 * 5:=Nat.mul_le_mul hw hh
    have h3:((w:Int) * (h:Int))=((w * h:Nat):Int):=by omega
    rw [h3,← hk];exact wrap64 (by omega) (by omega)
  unfold mts
  by_cases hs:0 < l.sum ∨ 0 < r.sum
  · rw [if_pos hs]
    refine ⟨bs,by simpa [upT] using hP,?_⟩
    simp only [upT,boxM,capsM]
    by_cases hs1:0 < l.sum
    · refine call_of_wp zt413 rfl ?_
      repeat (first|apply wp_as|apply wp_ss|refine wr (by simp [hrl,hcl,hw5];with_reducible rfl) ?_|refine wq (by simp [hrl,hcl,hw5];with_reducible rfl) ?_|refine wt (by simpa [hrl,hcl,hw5]) ?_|refine wf (by simpa [hrl,hcl,hw5]) ?_|refine xt (by simpa [hrl,hcl,hw5]) ?_|refine xf (by simpa [hrl,hcl,hw5]) ?_|apply wp_bs|apply wp_b|refine wp_sr ?_|refine wp_sx ?_|refine wp_ret' ?_|refine wp_skip' ?_|refine wp_exit' ?_)
      refine wp_ra (by simp [e1,e2,hll,hrr,hlt,hrt,hs1];with_reducible rfl) (by simp;with_reducible rfl) ?_ ?_
      · intro p hp
        simp only [List.mem_cons,List.not_mem_nil,or_false] at hp
        subst hp
        exact ⟨_,by simp [e1,e2,hll,hrr,hlt,hrt,hs1];with_reducible rfl,by simp⟩
      repeat (first|apply wp_as|apply wp_ss|refine wr (by simp;with_reducible rfl) ?_|refine wq (by simp;with_reducible rfl) ?_|refine wt (by simpa) ?_|refine wf (by simpa) ?_|refine xt (by simpa) ?_|refine xf (by simpa) ?_|apply wp_bs|apply wp_b|refine wp_sr ?_|refine wp_sx ?_|refine wp_ret' ?_|refine wp_skip' ?_|refine wp_exit' ?_)
      simp [zi413]
    · have hs2:0 < r.sum:=hs.resolve_left hs1
      refine call_of_wp zt413 rfl ?_
      repeat (first|apply wp_as|apply wp_ss|refine wr (by simp [hrl,hcl,hw5];with_reducible rfl) ?_|refine wq (by simp [hrl,hcl,hw5];with_reducible rfl) ?_|refine wt (by simpa [hrl,hcl,hw5]) ?_|refine wf (by simpa [hrl,hcl,hw5]) ?_|refine xt (by simpa [hrl,hcl,hw5]) ?_|refine xf (by simpa [hrl,hcl,hw5]) ?_|apply wp_bs|apply wp_b|refine wp_sr ?_|refine wp_sx ?_|refine wp_ret' ?_|refine wp_skip' ?_|refine wp_exit' ?_)
      refine wp_ra (by simp [e1,e2,hll,hrr,hlt,hrt,hs1,hs2];with_reducible rfl) (by simp;with_reducible rfl) ?_ ?_
      · intro p hp
        simp only [List.mem_cons,List.not_mem_nil,or_false] at hp
        subst hp
        exact ⟨_,by simp [e1,e2,hll,hrr,hlt,hrt,hs1,hs2];with_reducible rfl,by simp⟩
      repeat (first|apply wp_as|apply wp_ss|refine wr (by simp;with_reducible rfl) ?_|refine wq (by simp;with_reducible rfl) ?_|refine wt (by simpa) ?_|refine wf (by simpa) ?_|refine xt (by simpa) ?_|refine xf (by simpa) ?_|apply wp_bs|apply wp_b|refine wp_sr ?_|refine wp_sx ?_|refine wp_ret' ?_|refine wp_skip' ?_|refine wp_exit' ?_)
      simp [zi413]
  · rw [if_neg hs]
    have hs1:¬ 0 < l.sum:=fun q=>hs (.inl q)
    have hs2:¬ 0 < r.sum:=fun q=>hs (.inr q)
    obtain ⟨bs',hP',hF⟩:=hcb gl bs t hP hgl ht
    have hu:upT more [t]=([t],more t):=by simp only [upT];cases more t <;> rfl
    rw [hu]
    refine ⟨bs',hP',?_⟩
    have e3:=fun B Es=>ev_lim (hF B Es)
    have e4:=fun c=>ev_lim (ev_copyTableR w h t c ht h0 hw hh)
    have htl:=ht.1
    generalize more t=b at *
    simp only [boxM,capsM] at e3 ⊢
    refine call_of_wp zt413 rfl ?_
    repeat (first|apply wp_as|apply wp_ss|refine wr (by simp [hrl,hcl,hw5];with_reducible rfl) ?_|refine wq (by simp [hrl,hcl,hw5];with_reducible rfl) ?_|refine wt (by simpa [hrl,hcl,hw5]) ?_|refine wf (by simpa [hrl,hcl,hw5]) ?_|refine xt (by simpa [hrl,hcl,hw5]) ?_|refine xf (by simpa [hrl,hcl,hw5]) ?_|apply wp_bs|apply wp_b|refine wp_sr ?_|refine wp_sx ?_|refine wp_ret' ?_|refine wp_skip' ?_|refine wp_exit' ?_)
    refine wp_ra (by simp [e1,e2,e3,e4,hll,hrr,hlt,hrt,hs1,hs2,htl,htt];with_reducible rfl) (by simp;with_reducible rfl) ?_ ?_
    · intro p hp
      simp only [List.mem_cons,List.not_mem_nil,or_false] at hp
      subst hp
      exact ⟨_,by simp [e1,e2,e3,e4,hll,hrr,hlt,hrt,hs1,hs2,htl,htt];with_reducible rfl,by simp⟩
    repeat (first|apply wp_as|apply wp_ss|refine wr (by simp;with_reducible rfl) ?_|refine wq (by simp;with_reducible rfl) ?_|refine wt (by simpa) ?_|refine wf (by simpa) ?_|refine xt (by simpa) ?_|refine xf (by simpa) ?_|apply wp_bs|apply wp_b|refine wp_sr ?_|refine wp_sx ?_|refine wp_ret' ?_|refine wp_skip' ?_|refine wp_exit' ?_)
    simp [zi413]
end Go.Idl
namespace Go.Idl
open Go
structure Cel (w h k i j:Nat):Prop where
  w5:w≤5
  h5:h≤5
  lt:k < w * h
  iw:i < w
  jh:j < h
  q1:(k:Int).tdiv (h:Int)=(i:Int)
  q2:(k:Int).tmod (h:Int)=(j:Int)
theorem Cel.mk2 {w h k:Nat} (hw:w≤5) (hh:h≤5) (hk:k < w * h):Cel w h k (k / h) (k % h):=by
  have h0:0 < h:=by rcases Nat.eq_zero_or_pos h with rfl | h0;simp at hk;exact h0
  refine ⟨hw,hh,hk,Nat.div_lt_of_lt_mul (by rw [Nat.mul_comm];exact hk),Nat.mod_lt _ h0,?_,?_⟩
  · rw [Int.tdiv_eq_ediv_of_nonneg (by omega)];rfl
  · rw [Int.tmod_eq_emod_of_nonneg (by omega)];rfl
theorem Cel.n {w h k i j:Nat} (c:Cel w h k i j):IntKind.i64.wrap ((w:Int) * (h:Int))=((w * h:Nat):Int):=by
  have h1:w * h≤5 * 5:=Nat.mul_le_mul c.w5 c.h5
  rw [show ((w:Int) * (h:Int))=((w * h:Nat):Int) by omega]
  exact wrap64 (by omega) (by omega)
theorem Cel.k25 {w h k i j:Nat} (c:Cel w h k i j):k < 25:=by
  have h1:w * h≤5 * 5:=Nat.mul_le_mul c.w5 c.h5
  have:=c.lt;omega
section
variable (w h:Nat) (rows cols:List Int) (cr cc:Bool) (A F:Lab) (caps:List IV) (hrl:rows.length=w) (hcl:cols.length=h) (may:Nat→Nat→Bool)
  (k i j:Nat) (hC:Cel w h k i j) (l r:List Int) (hll:l.length=w) (hrr:r.length=h) (t:List (List Int)) (il:i < l.length) (jr:j < r.length)
include hrl hcl hC hll hrr in
theorem mt_over (bl:l[i]≤1000) (hov:(h:Int) - (j:Int) < l[i]) (bs:Boxes) (Es:List Boxes) :
    Ev tb zl413 [] (I k::capsM) (bs::boxM rows cols cr cc A F caps l r t::Es) ⟨Bo true,[],bs::boxM rows cols cr cc A F caps l r t::Es,[]⟩:=by
  obtain ⟨w5,h5,lt,iw,jh,q1,q2⟩:=id hC
  have w1:=hC.n
  have k25:=hC.k25
  have w2:IntKind.i64.wrap (i:Int)=(i:Int):=wrap64 (by omega) (by omega)
  have w3:IntKind.i64.wrap (j:Int)=(j:Int):=wrap64 (by omega) (by omega)
  have w4:IntKind.i64.wrap ((h:Int) - (j:Int))=(h:Int) - (j:Int):=wrap64 (by omega) (by omega)
  have hne:¬ k=w * h:=by omega
  have hh0:¬ h=0:=by omega
  generalize w * h=N at *
  have hnf:((k:Int) == (N:Int))=false:=by simp;omega
  have hnf2:¬ (k:Int)=(N:Int):=by omega
  simp only [boxM,capsM]
  refine call_of_wp zt413 rfl ?_
  repeat (first|apply wp_as|apply wp_ss|refine wr (by simp [hrl,hcl,w1,w2,w3,w4,hne,hnf,hnf2,hh0,q1,q2,il,hov,hll,iw];with_reducible rfl) ?_|refine wq (by simp [hrl,hcl,w1,w2,w3,w4,hne,hnf,hnf2,hh0,q1,q2,il,hov,hll,iw];with_reducible rfl) ?_|refine wt (by simpa [hrl,hcl,w1,w2,w3,w4,hne,hnf,hnf2,hh0,q1,q2,il,hov,hll,iw]) ?_|refine wf (by simpa [hrl,hcl,w1,w2,w3,w4,hne,hnf,hnf2,hh0,q1,q2,il,hov,hll,iw]) ?_|refine xt (by simpa [hrl,hcl,w1,w2,w3,w4,hne,hnf,hnf2,hh0,q1,q2,il,hov,hll,iw]) ?_|refine xf (by simpa [hrl,hcl,w1,w2,w3,w4,hne,hnf,hnf2,hh0,q1,q2,il,hov,hll,iw]) ?_|apply wp_bs|apply wp_b|refine wp_sr ?_|refine wp_sx ?_|refine wp_ret' ?_|refine wp_skip' ?_|refine wp_exit' ?_)
  refine wp_ra (by simp [hrl,hcl,w1,w2,w3,w4,hne,hnf,hnf2,hh0,q1,q2,il,hov,hll,iw];with_reducible rfl) (by simp;with_reducible rfl) ?_ ?_
  · intro p hp
    simp only [List.mem_cons,List.not_mem_nil,or_false] at hp
    subst hp
    exact ⟨_,by simp [hrl,hcl,w1,w2,w3,w4,hne,hnf,hnf2,hh0,q1,q2,il,hov,hll,iw];with_reducible rfl,by simp⟩
  repeat (first|apply wp_as|apply wp_ss|refine wr (by simp [hrl,hcl,w1,w2,w3,w4,hne,hnf,hnf2,hh0,q1,q2,il,hov,hll,iw];with_reducible rfl) ?_|refine wq (by simp [hrl,hcl,w1,w2,w3,w4,hne,hnf,hnf2,hh0,q1,q2,il,hov,hll,iw];with_reducible rfl) ?_|refine wt (by simpa [hrl,hcl,w1,w2,w3,w4,hne,hnf,hnf2,hh0,q1,q2,il,hov,hll,iw]) ?_|refine wf (by simpa [hrl,hcl,w1,w2,w3,w4,hne,hnf,hnf2,hh0,q1,q2,il,hov,hll,iw]) ?_|refine xt (by simpa [hrl,hcl,w1,w2,w3,w4,hne,hnf,hnf2,hh0,q1,q2,il,hov,hll,iw]) ?_|refine xf (by simpa [hrl,hcl,w1,w2,w3,w4,hne,hnf,hnf2,hh0,q1,q2,il,hov,hll,iw]) ?_|apply wp_bs|apply wp_b|refine wp_sr ?_|refine wp_sx ?_|refine wp_ret' ?_|refine wp_skip' ?_|refine wp_exit' ?_)
  simp [zi413]
include hrl hcl hC hll hrr in
theorem mt_skip (hA:∀ M:List Boxes,Ev tb A [] [I i,I j] M ⟨Bo (may i j),[],M,[]⟩) (hov:¬ (h:Int) - (j:Int) < l[i])
    (hno:¬ (may i j=true∧0 < l[i]∧0 < r[j])) (bs bs':Boxes) (Es:List Boxes) (b:Bool)
    (e1:Ev tb zl413 [] (I ((k+1:Nat):Int)::capsM) (bs::boxM rows cols cr cc A F caps l r t::(Es++[[]])) ⟨Bo b,[],bs'::boxM rows cols cr cc A F caps l r t::(Es++[[]]),[]⟩) :
    Ev tb zl413 [] (I k::capsM) (bs::boxM rows cols cr cc A F caps l r t::Es) ⟨Bo b,[],bs'::boxM rows cols cr cc A F caps l r t::Es,[]⟩:=by
  obtain ⟨w5,h5,lt,iw,jh,q1,q2⟩:=id hC
  have w1:=hC.n
  have k25:=hC.k25
  have w2:IntKind.i64.wrap (i:Int)=(i:Int):=wrap64 (by omega) (by omega)
  have w3:IntKind.i64.wrap (j:Int)=(j:Int):=wrap64 (by omega) (by omega)
  have w4:IntKind.i64.wrap ((h:Int) - (j:Int))=(h:Int) - (j:Int):=wrap64 (by omega) (by omega)
  have w6:IntKind.i64.wrap ((k:Int)+1)=(k:Int)+1:=wrap64 (by omega) (by omega)
  have hne:¬ k=w * h:=by omega
  have hh0:¬ h=0:=by omega
  have e1:=ev_lim e1
  rw [show ((k+1:Nat):Int)=(k:Int)+1 by omega] at e1
  have e2:=fun M=>ev_lim (hA M)
  generalize w * h=N at *
  have hnf:((k:Int) == (N:Int))=false:=by simp;omega
  have hnf2:¬ (k:Int)=(N:Int):=by omega
  simp only [boxM,capsM] at e1 ⊢
  cases hm:may i j with
  | false =>
    rw [hm] at e2
    refine call_of_wp zt413 rfl ?_
    repeat (first|apply wp_as|apply wp_ss|refine wr (by simp [hrl,hcl,w1,w2,w3,w4,hne,hnf,hnf2,hh0,q1,q2,il,jr,hov,hll,hrr,iw,jh,e1,e2,w6];with_reducible rfl) ?_|refine wq (by simp [hrl,hcl,w1,w2,w3,w4,hne,hnf,hnf2,hh0,q1,q2,il,jr,hov,hll,hrr,iw,jh,e1,e2,w6];with_reducible rfl) ?_|refine wt (by simpa [hrl,hcl,w1,w2,w3,w4,hne,hnf,hnf2,hh0,q1,q2,il,jr,hov,hll,hrr,iw,jh,e1,e2,w6]) ?_|refine wf (by simpa [hrl,hcl,w1,w2,w3,w4,hne,hnf,hnf2,hh0,q1,q2,il,jr,hov,hll,hrr,iw,jh,e1,e2,w6]) ?_|refine xt (by simpa [hrl,hcl,w1,w2,w3,w4,hne,hnf,hnf2,hh0,q1,q2,il,jr,hov,hll,hrr,iw,jh,e1,e2,w6]) ?_|refine xf (by simpa [hrl,hcl,w1,w2,w3,w4,hne,hnf,hnf2,hh0,q1,q2,il,jr,hov,hll,hrr,iw,jh,e1,e2,w6]) ?_|apply wp_bs|apply wp_b|refine wp_sr ?_|refine wp_sx ?_|refine wp_ret' ?_|refine wp_skip' ?_|refine wp_exit' ?_)
    refine wp_ra (by simp [hrl,hcl,w1,w2,w3,w4,hne,hnf,hnf2,hh0,q1,q2,il,jr,hov,hll,hrr,iw,jh,e1,e2,w6];with_reducible rfl) (by simp;with_reducible rfl) ?_ ?_
    · intro p hp
      simp only [List.mem_cons,List.not_mem_nil,or_false] at hp
      subst hp
      exact ⟨_,by simp [hrl,hcl,w1,w2,w3,w4,hne,hnf,hnf2,hh0,q1,q2,il,jr,hov,hll,hrr,iw,jh,e1,e2,w6];with_reducible rfl,by simp⟩
    repeat (first|apply wp_as|apply wp_ss|refine wr (by simp [hrl,hcl,w1,w2,w3,w4,hne,hnf,hnf2,hh0,q1,q2,il,jr,hov,hll,hrr,iw,jh,e1,e2,w6];with_reducible rfl) ?_|refine wq (by simp [hrl,hcl,w1,w2,w3,w4,hne,hnf,hnf2,hh0,q1,q2,il,jr,hov,hll,hrr,iw,jh,e1,e2,w6];with_reducible rfl) ?_|refine wt (by simpa [hrl,hcl,w1,w2,w3,w4,hne,hnf,hnf2,hh0,q1,q2,il,jr,hov,hll,hrr,iw,jh,e1,e2,w6]) ?_|refine wf (by simpa [hrl,hcl,w1,w2,w3,w4,hne,hnf,hnf2,hh0,q1,q2,il,jr,hov,hll,hrr,iw,jh,e1,e2,w6]) ?_|refine xt (by simpa [hrl,hcl,w1,w2,w3,w4,hne,hnf,hnf2,hh0,q1,q2,il,jr,hov,hll,hrr,iw,jh,e1,e2,w6]) ?_|refine xf (by simpa [hrl,hcl,w1,w2,w3,w4,hne,hnf,hnf2,hh0,q1,q2,il,jr,hov,hll,hrr,iw,jh,e1,e2,w6]) ?_|apply wp_bs|apply wp_b|refine wp_sr ?_|refine wp_sx ?_|refine wp_ret' ?_|refine wp_skip' ?_|refine wp_exit' ?_)
    simp [zi413]
  | true =>
    rw [hm] at e2
    by_cases hl0:0 < l[i]
    · have hr0:¬ 0 < r[j]:=fun q=>hno ⟨hm,hl0,q⟩
      refine call_of_wp zt413 rfl ?_
      repeat (first|apply wp_as|apply wp_ss|refine wr (by simp [hrl,hcl,w1,w2,w3,w4,hne,hnf,hnf2,hh0,q1,q2,il,jr,hov,hll,hrr,iw,jh,e1,e2,w6,hl0,hr0];with_reducible rfl) ?_|refine wq (by simp [hrl,hcl,w1,w2,w3,w4,hne,hnf,hnf2,hh0,q1,q2,il,jr,hov,hll,hrr,iw,jh,e1,e2,w6,hl0,hr0];with_reducible rfl) ?_|refine wt (by simpa [hrl,hcl,w1,w2,w3,w4,hne,hnf,hnf2,hh0,q1,q2,il,jr,hov,hll,hrr,iw,jh,e1,e2,w6,hl0,hr0]) ?_|refine wf (by simpa [hrl,hcl,w1,w2,w3,w4,hne,hnf,hnf2,hh0,q1,q2,il,jr,hov,hll,hrr,iw,jh,e1,e2,w6,hl0,hr0]) ?_|refine xt (by simpa [hrl,hcl,w1,w2,w3,w4,hne,hnf,hnf2,hh0,q1,q2,il,jr,hov,hll,hrr,iw,jh,e1,e2,w6,hl0,hr0]) ?_|refine xf (by simpa [hrl,hcl,w1,w2,w3,w4,hne,hnf,hnf2,hh0,q1,q2,il,jr,hov,hll,hrr,iw,jh,e1,e2,w6,hl0,hr0]) ?_|apply wp_bs|apply wp_b|refine wp_sr ?_|refine wp_sx ?_|refine wp_ret' ?_|refine wp_skip' ?_|refine wp_exit' ?_)
      refine wp_ra (by simp [hrl,hcl,w1,w2,w3,w4,hne,hnf,hnf2,hh0,q1,q2,il,jr,hov,hll,hrr,iw,jh,e1,e2,w6,hl0,hr0];with_reducible rfl) (by simp;with_reducible rfl) ?_ ?_
      · intro p hp
        simp only [List.mem_cons,List.not_mem_nil,or_false] at hp
        subst hp
        exact ⟨_,by simp [hrl,hcl,w1,w2,w3,w4,hne,hnf,hnf2,hh0,q1,q2,il,jr,hov,hll,hrr,iw,jh,e1,e2,w6,hl0,hr0];with_reducible rfl,by simp⟩
      repeat (first|apply wp_as|apply wp_ss|refine wr (by simp [hrl,hcl,w1,w2,w3,w4,hne,hnf,hnf2,hh0,q1,q2,il,jr,hov,hll,hrr,iw,jh,e1,e2,w6,hl0,hr0];with_reducible rfl) ?_|refine wq (by simp [hrl,hcl,w1,w2,w3,w4,hne,hnf,hnf2,hh0,q1,q2,il,jr,hov,hll,hrr,iw,jh,e1,e2,w6,hl0,hr0];with_reducible rfl) ?_|refine wt (by simpa [hrl,hcl,w1,w2,w3,w4,hne,hnf,hnf2,hh0,q1,q2,il,jr,hov,hll,hrr,iw,jh,e1,e2,w6,hl0,hr0]) ?_|refine wf (by simpa [hrl,hcl,w1,w2,w3,w4,hne,hnf,hnf2,hh0,q1,q2,il,jr,hov,hll,hrr,iw,jh,e1,e2,w6,hl0,hr0]) ?_|refine xt (by simpa [hrl,hcl,w1,w2,w3,w4,hne,hnf,hnf2,hh0,q1,q2,il,jr,hov,hll,hrr,iw,jh,e1,e2,w6,hl0,hr0]) ?_|refine xf (by simpa [hrl,hcl,w1,w2,w3,w4,hne,hnf,hnf2,hh0,q1,q2,il,jr,hov,hll,hrr,iw,jh,e1,e2,w6,hl0,hr0]) ?_|apply wp_bs|apply wp_b|refine wp_sr ?_|refine wp_sx ?_|refine wp_ret' ?_|refine wp_skip' ?_|refine wp_exit' ?_)
      simp [zi413]
    · refine call_of_wp zt413 rfl ?_
      repeat (first|apply wp_as|apply wp_ss|refine wr (by simp [hrl,hcl,w1,w2,w3,w4,hne,hnf,hnf2,hh0,q1,q2,il,jr,hov,hll,hrr,iw,jh,e1,e2,w6,hl0];with_reducible rfl) ?_|refine wq (by simp [hrl,hcl,w1,w2,w3,w4,hne,hnf,hnf2,hh0,q1,q2,il,jr,hov,hll,hrr,iw,jh,e1,e2,w6,hl0];with_reducible rfl) ?_|refine wt (by simpa [hrl,hcl,w1,w2,w3,w4,hne,hnf,hnf2,hh0,q1,q2,il,jr,hov,hll,hrr,iw,jh,e1,e2,w6,hl0]) ?_|refine wf (by simpa [hrl,hcl,w1,w2,w3,w4,hne,hnf,hnf2,hh0,q1,q2,il,jr,hov,hll,hrr,iw,jh,e1,e2,w6,hl0]) ?_|refine xt (by simpa [hrl,hcl,w1,w2,w3,w4,hne,hnf,hnf2,hh0,q1,q2,il,jr,hov,hll,hrr,iw,jh,e1,e2,w6,hl0]) ?_|refine xf (by simpa [hrl,hcl,w1,w2,w3,w4,hne,hnf,hnf2,hh0,q1,q2,il,jr,hov,hll,hrr,iw,jh,e1,e2,w6,hl0]) ?_|apply wp_bs|apply wp_b|refine wp_sr ?_|refine wp_sx ?_|refine wp_ret' ?_|refine wp_skip' ?_|refine wp_exit' ?_)
      refine wp_ra (by simp [hrl,hcl,w1,w2,w3,w4,hne,hnf,hnf2,hh0,q1,q2,il,jr,hov,hll,hrr,iw,jh,e1,e2,w6,hl0];with_reducible rfl) (by simp;with_reducible rfl) ?_ ?_
      · intro p hp
        simp only [List.mem_cons,List.not_mem_nil,or_false] at hp
        subst hp
        exact ⟨_,by simp [hrl,hcl,w1,w2,w3,w4,hne,hnf,hnf2,hh0,q1,q2,il,jr,hov,hll,hrr,iw,jh,e1,e2,w6,hl0];with_reducible rfl,by simp⟩
      repeat (first|apply wp_as|apply wp_ss|refine wr (by simp [hrl,hcl,w1,w2,w3,w4,hne,hnf,hnf2,hh0,q1,q2,il,jr,hov,hll,hrr,iw,jh,e1,e2,w6,hl0];with_reducible rfl) ?_|refine wq (by simp [hrl,hcl,w1,w2,w3,w4,hne,hnf,hnf2,hh0,q1,q2,il,jr,hov,hll,hrr,iw,jh,e1,e2,w6,hl0];with_reducible rfl) ?_|refine wt (by simpa [hrl,hcl,w1,w2,w3,w4,hne,hnf,hnf2,hh0,q1,q2,il,jr,hov,hll,hrr,iw,jh,e1,e2,w6,hl0]) ?_|refine wf (by simpa [hrl,hcl,w1,w2,w3,w4,hne,hnf,hnf2,hh0,q1,q2,il,jr,hov,hll,hrr,iw,jh,e1,e2,w6,hl0]) ?_|refine xt (by simpa [hrl,hcl,w1,w2,w3,w4,hne,hnf,hnf2,hh0,q1,q2,il,jr,hov,hll,hrr,iw,jh,e1,e2,w6,hl0]) ?_|refine xf (by simpa [hrl,hcl,w1,w2,w3,w4,hne,hnf,hnf2,hh0,q1,q2,il,jr,hov,hll,hrr,iw,jh,e1,e2,w6,hl0]) ?_|apply wp_bs|apply wp_b|refine wp_sr ?_|refine wp_sx ?_|refine wp_ret' ?_|refine wp_skip' ?_|refine wp_exit' ?_)
      simp [zi413]
structure DecB (l l1:List Int) (p:Nat) (hp:p < l.length):Prop where
  e1:l.set p (l[p] - 1)=l1
  n1:l1.length=l.length
  g1:∀ h:p < l1.length,l1[p]=l[p] - 1
  e2:l1.set p l[p]=l
structure SetB (t t1:List (List Int)) (i j:Nat) (hi:i < t.length):Prop where
  e1:t.set i (t[i].set j 1)=t1
  n1:t1.length=t.length
  n2:∀ h:i < t1.length,t1[i].length=t[i].length
  e2:∀ h:i < t1.length,t1.set i (t1[i].set j 0)=t
include hrl hcl hC hll hrr in
set_option maxHeartbeats 2000000 in
theorem mt_take (hA:∀ M:List Boxes,Ev tb A [] [I i,I j] M ⟨Bo true,[],M,[]⟩) (hov:¬ (h:Int) - (j:Int) < l[i]) (hl0:0 < l[i]) (hr0:0 < r[j]) (bl:l[i]≤1000) (br:r[j]≤1000)
    (l1 r1:List Int) (hL:DecB l l1 i il) (hR:DecB r r1 j jr) (t1:List (List Int)) (it:i < t.length) (htl:t.length=w) (hth:t[i].length=h) (hT:SetB t t1 i j it)
    (bs bs1 bs':Boxes) (Es:List Boxes) (b1 b:Bool)
    (e1:Ev tb zl413 [] (I ((k+1:Nat):Int)::capsM) (bs::boxM rows cols cr cc A F caps l1 r1 t1::(Es++[[]])) ⟨Bo b1,[],bs1::boxM rows cols cr cc A F caps l1 r1 t1::(Es++[[]]),[]⟩)
    (e2:b1=true→Ev tb zl413 [] (I ((k+1:Nat):Int)::capsM) (bs1::boxM rows cols cr cc A F caps l r t::(Es++[[]])) ⟨Bo b,[],bs'::boxM rows cols cr cc A F caps l r t::(Es++[[]]),[]⟩)
    (e3:b1=false→b=false∧bs'=bs1) :
    Ev tb zl413 [] (I k::capsM) (bs::boxM rows cols cr cc A F caps l r t::Es) ⟨Bo b,[],bs'::boxM rows cols cr cc A F caps l r t::Es,[]⟩:=by
  obtain ⟨w5,h5,lt,iw,jh,q1,q2⟩:=id hC
  obtain ⟨d1,n1,g1,d2⟩:=hL
  obtain ⟨d3,n3,g3,d4⟩:=hR
  obtain ⟨d5,n5,n6,d6⟩:=hT
  have w1:=hC.n
  have k25:=hC.k25
  have w2:IntKind.i64.wrap (i:Int)=(i:Int):=wrap64 (by omega) (by omega)
  have w3:IntKind.i64.wrap (j:Int)=(j:Int):=wrap64 (by omega) (by omega)
  have w4:IntKind.i64.wrap ((h:Int) - (j:Int))=(h:Int) - (j:Int):=wrap64 (by omega) (by omega)
  have w6:IntKind.i64.wrap ((k:Int)+1)=(k:Int)+1:=wrap64 (by omega) (by omega)
  have w7:IntKind.i64.wrap (l[i] - 1)=l[i] - 1:=wrap64 (by omega) (by omega)
  have w8:IntKind.i64.wrap (r[j] - 1)=r[j] - 1:=wrap64 (by omega) (by omega)
  have w9:IntKind.i64.wrap l[i]=l[i]:=wrap64 (by omega) (by omega)
  have w10:IntKind.i64.wrap r[j]=r[j]:=wrap64 (by omega) (by omega)
  have hne:¬ k=w * h:=by omega
  have hh0:¬ h=0:=by omega
  have e1:=ev_lim e1
  rw [show ((k+1:Nat):Int)=(k:Int)+1 by omega] at e1
  have e4:=fun M=>ev_lim (hA M)
  rw [hll] at n1
  rw [hrr] at n3
  rw [htl] at n5
  rw [hth] at n6
  generalize w * h=N at *
  have hnf:((k:Int) == (N:Int))=false:=by simp;omega
  have hnf2:¬ (k:Int)=(N:Int):=by omega
  simp only [boxM,capsM] at e1 ⊢
  cases b1 with
  | false =>
    obtain ⟨rfl,rfl⟩:=e3 rfl
    refine call_of_wp zt413 rfl ?_
    repeat (first|apply wp_as|apply wp_ss|refine wr (by simp [hrl,hcl,w1,w2,w3,w4,hne,hnf,hnf2,hh0,q1,q2,il,jr,hov,hll,hrr,iw,jh,e1,e4,w6,hl0,hr0,w7,w8,w9,w10,d1,n1,g1,d2,d3,n3,g3,d4,d5,n5,n6,d6,it,htl,hth];with_reducible rfl) ?_|refine wq (by simp [hrl,hcl,w1,w2,w3,w4,hne,hnf,hnf2,hh0,q1,q2,il,jr,hov,hll,hrr,iw,jh,e1,e4,w6,hl0,hr0,w7,w8,w9,w10,d1,n1,g1,d2,d3,n3,g3,d4,d5,n5,n6,d6,it,htl,hth];with_reducible rfl) ?_|refine wt (by simpa [hrl,hcl,w1,w2,w3,w4,hne,hnf,hnf2,hh0,q1,q2,il,jr,hov,hll,hrr,iw,jh,e1,e4,w6,hl0,hr0,w7,w8,w9,w10,d1,n1,g1,d2,d3,n3,g3,d4,d5,n5,n6,d6,it,htl,hth]) ?_|refine wf (by simpa [hrl,hcl,w1,w2,w3,w4,hne,hnf,hnf2,hh0,q1,q2,il,jr,hov,hll,hrr,iw,jh,e1,e4,w6,hl0,hr0,w7,w8,w9,w10,d1,n1,g1,d2,d3,n3,g3,d4,d5,n5,n6,d6,it,htl,hth]) ?_|refine xt (by simpa [hrl,hcl,w1,w2,w3,w4,hne,hnf,hnf2,hh0,q1,q2,il,jr,hov,hll,hrr,iw,jh,e1,e4,w6,hl0,hr0,w7,w8,w9,w10,d1,n1,g1,d2,d3,n3,g3,d4,d5,n5,n6,d6,it,htl,hth]) ?_|refine xf (by simpa [hrl,hcl,w1,w2,w3,w4,hne,hnf,hnf2,hh0,q1,q2,il,jr,hov,hll,hrr,iw,jh,e1,e4,w6,hl0,hr0,w7,w8,w9,w10,d1,n1,g1,d2,d3,n3,g3,d4,d5,n5,n6,d6,it,htl,hth]) ?_|apply wp_bs|apply wp_b|refine wp_sr ?_|refine wp_sx ?_|refine wp_ret' ?_|refine wp_skip' ?_|refine wp_exit' ?_)
    refine wp_ra (by simp [hrl,hcl,w1,w2,w3,w4,hne,hnf,hnf2,hh0,q1,q2,il,jr,hov,hll,hrr,iw,jh,e1,e4,w6,hl0,hr0,w7,w8,w9,w10,d1,n1,g1,d2,d3,n3,g3,d4,d5,n5,n6,d6,it,htl,hth];with_reducible rfl) (by simp;with_reducible rfl) ?_ ?_
    · intro p hp
      simp only [List.mem_cons,List.not_mem_nil,or_false] at hp
      subst hp
      exact ⟨_,by simp [hrl,hcl,w1,w2,w3,w4,hne,hnf,hnf2,hh0,q1,q2,il,jr,hov,hll,hrr,iw,jh,e1,e4,w6,hl0,hr0,w7,w8,w9,w10,d1,n1,g1,d2,d3,n3,g3,d4,d5,n5,n6,d6,it,htl,hth];with_reducible rfl,by simp⟩
    repeat (first|apply wp_as|apply wp_ss|refine wr (by simp [hrl,hcl,w1,w2,w3,w4,hne,hnf,hnf2,hh0,q1,q2,il,jr,hov,hll,hrr,iw,jh,e1,e4,w6,hl0,hr0,w7,w8,w9,w10,d1,n1,g1,d2,d3,n3,g3,d4,d5,n5,n6,d6,it,htl,hth];with_reducible rfl) ?_|refine wq (by simp [hrl,hcl,w1,w2,w3,w4,hne,hnf,hnf2,hh0,q1,q2,il,jr,hov,hll,hrr,iw,jh,e1,e4,w6,hl0,hr0,w7,w8,w9,w10,d1,n1,g1,d2,d3,n3,g3,d4,d5,n5,n6,d6,it,htl,hth];with_reducible rfl) ?_|refine wt (by simpa [hrl,hcl,w1,w2,w3,w4,hne,hnf,hnf2,hh0,q1,q2,il,jr,hov,hll,hrr,iw,jh,e1,e4,w6,hl0,hr0,w7,w8,w9,w10,d1,n1,g1,d2,d3,n3,g3,d4,d5,n5,n6,d6,it,htl,hth]) ?_|refine wf (by simpa [hrl,hcl,w1,w2,w3,w4,hne,hnf,hnf2,hh0,q1,q2,il,jr,hov,hll,hrr,iw,jh,e1,e4,w6,hl0,hr0,w7,w8,w9,w10,d1,n1,g1,d2,d3,n3,g3,d4,d5,n5,n6,d6,it,htl,hth]) ?_|refine xt (by simpa [hrl,hcl,w1,w2,w3,w4,hne,hnf,hnf2,hh0,q1,q2,il,jr,hov,hll,hrr,iw,jh,e1,e4,w6,hl0,hr0,w7,w8,w9,w10,d1,n1,g1,d2,d3,n3,g3,d4,d5,n5,n6,d6,it,htl,hth]) ?_|refine xf (by simpa [hrl,hcl,w1,w2,w3,w4,hne,hnf,hnf2,hh0,q1,q2,il,jr,hov,hll,hrr,iw,jh,e1,e4,w6,hl0,hr0,w7,w8,w9,w10,d1,n1,g1,d2,d3,n3,g3,d4,d5,n5,n6,d6,it,htl,hth]) ?_|apply wp_bs|apply wp_b|refine wp_sr ?_|refine wp_sx ?_|refine wp_ret' ?_|refine wp_skip' ?_|refine wp_exit' ?_)
    simp [zi413]
  | true =>
    have e2:=ev_lim (e2 rfl)
    rw [show ((k+1:Nat):Int)=(k:Int)+1 by omega] at e2
    simp only [boxM,capsM] at e2
    refine call_of_wp zt413 rfl ?_
    repeat (first|apply wp_as|apply wp_ss|refine wr (by simp [hrl,hcl,w1,w2,w3,w4,hne,hnf,hnf2,hh0,q1,q2,il,jr,hov,hll,hrr,iw,jh,e1,e2,e4,w6,hl0,hr0,w7,w8,w9,w10,d1,n1,g1,d2,d3,n3,g3,d4,d5,n5,n6,d6,it,htl,hth];with_reducible rfl) ?_|refine wq (by simp [hrl,hcl,w1,w2,w3,w4,hne,hnf,hnf2,hh0,q1,q2,il,jr,hov,hll,hrr,iw,jh,e1,e2,e4,w6,hl0,hr0,w7,w8,w9,w10,d1,n1,g1,d2,d3,n3,g3,d4,d5,n5,n6,d6,it,htl,hth];with_reducible rfl) ?_|refine wt (by simpa [hrl,hcl,w1,w2,w3,w4,hne,hnf,hnf2,hh0,q1,q2,il,jr,hov,hll,hrr,iw,jh,e1,e2,e4,w6,hl0,hr0,w7,w8,w9,w10,d1,n1,g1,d2,d3,n3,g3,d4,d5,n5,n6,d6,it,htl,hth]) ?_|refine wf (by simpa [hrl,hcl,w1,w2,w3,w4,hne,hnf,hnf2,hh0,q1,q2,il,jr,hov,hll,hrr,iw,jh,e1,e2,e4,w6,hl0,hr0,w7,w8,w9,w10,d1,n1,g1,d2,d3,n3,g3,d4,d5,n5,n6,d6,it,htl,hth]) ?_|refine xt (by simpa [hrl,hcl,w1,w2,w3,w4,hne,hnf,hnf2,hh0,q1,q2,il,jr,hov,hll,hrr,iw,jh,e1,e2,e4,w6,hl0,hr0,w7,w8,w9,w10,d1,n1,g1,d2,d3,n3,g3,d4,d5,n5,n6,d6,it,htl,hth]) ?_|refine xf (by simpa [hrl,hcl,w1,w2,w3,w4,hne,hnf,hnf2,hh0,q1,q2,il,jr,hov,hll,hrr,iw,jh,e1,e2,e4,w6,hl0,hr0,w7,w8,w9,w10,d1,n1,g1,d2,d3,n3,g3,d4,d5,n5,n6,d6,it,htl,hth]) ?_|apply wp_bs|apply wp_b|refine wp_sr ?_|refine wp_sx ?_|refine wp_ret' ?_|refine wp_skip' ?_|refine wp_exit' ?_)
    refine wp_ra (by simp [hrl,hcl,w1,w2,w3,w4,hne,hnf,hnf2,hh0,q1,q2,il,jr,hov,hll,hrr,iw,jh,e1,e2,e4,w6,hl0,hr0,w7,w8,w9,w10,d1,n1,g1,d2,d3,n3,g3,d4,d5,n5,n6,d6,it,htl,hth];with_reducible rfl) (by simp;with_reducible rfl) ?_ ?_
    · intro p hp
      simp only [List.mem_cons,List.not_mem_nil,or_false] at hp
      subst hp
      exact ⟨_,by simp [hrl,hcl,w1,w2,w3,w4,hne,hnf,hnf2,hh0,q1,q2,il,jr,hov,hll,hrr,iw,jh,e1,e2,e4,w6,hl0,hr0,w7,w8,w9,w10,d1,n1,g1,d2,d3,n3,g3,d4,d5,n5,n6,d6,it,htl,hth];with_reducible rfl,by simp⟩
    repeat (first|apply wp_as|apply wp_ss|refine wr (by simp [hrl,hcl,w1,w2,w3,w4,hne,hnf,hnf2,hh0,q1,q2,il,jr,hov,hll,hrr,iw,jh,e1,e2,e4,w6,hl0,hr0,w7,w8,w9,w10,d1,n1,g1,d2,d3,n3,g3,d4,d5,n5,n6,d6,it,htl,hth];with_reducible rfl) ?_|refine wq (by simp [hrl,hcl,w1,w2,w3,w4,hne,hnf,hnf2,hh0,q1,q2,il,jr,hov,hll,hrr,iw,jh,e1,e2,e4,w6,hl0,hr0,w7,w8,w9,w10,d1,n1,g1,d2,d3,n3,g3,d4,d5,n5,n6,d6,it,htl,hth];with_reducible rfl) ?_|refine wt (by simpa [hrl,hcl,w1,w2,w3,w4,hne,hnf,hnf2,hh0,q1,q2,il,jr,hov,hll,hrr,iw,jh,e1,e2,e4,w6,hl0,hr0,w7,w8,w9,w10,d1,n1,g1,d2,d3,n3,g3,d4,d5,n5,n6,d6,it,htl,hth]) ?_|refine wf (by simpa [hrl,hcl,w1,w2,w3,w4,hne,hnf,hnf2,hh0,q1,q2,il,jr,hov,hll,hrr,iw,jh,e1,e2,e4,w6,hl0,hr0,w7,w8,w9,w10,d1,n1,g1,d2,d3,n3,g3,d4,d5,n5,n6,d6,it,htl,hth]) ?_|refine xt (by simpa [hrl,hcl,w1,w2,w3,w4,hne,hnf,hnf2,hh0,q1,q2,il,jr,hov,hll,hrr,iw,jh,e1,e2,e4,w6,hl0,hr0,w7,w8,w9,w10,d1,n1,g1,d2,d3,n3,g3,d4,d5,n5,n6,d6,it,htl,hth]) ?_|refine xf (by simpa [hrl,hcl,w1,w2,w3,w4,hne,hnf,hnf2,hh0,q1,q2,il,jr,hov,hll,hrr,iw,jh,e1,e2,e4,w6,hl0,hr0,w7,w8,w9,w10,d1,n1,g1,d2,d3,n3,g3,d4,d5,n5,n6,d6,it,htl,hth]) ?_|apply wp_bs|apply wp_b|refine wp_sr ?_|refine wp_sx ?_|refine wp_ret' ?_|refine wp_skip' ?_|refine wp_exit' ?_)
    simp [zi413]
end
end Go.Idl
namespace Go.Idl
open Go
theorem mts_len (may) (h:Nat):∀ (m k:Nat) (l r:List Int) (t:List (List Int)),(mts may h m k l r t).length≤2 ^ m
  | 0,k,l,r,t=>by rw [mts];split <;> simp
  | m+1,k,l,r,t=>by
    have h1:=mts_len may h m (k+1) (decAt l (k / h)) (decAt r (k % h)) (set2 t (k / h) (k % h) 1)
    have h2:=mts_len may h m (k+1) l r t
    rw [mts,Nat.pow_succ]
    split
    · simp
    · rw [List.length_append]
      split
      · omega
      · simp;omega
theorem upT_len {α:Type} (more:α→Bool):∀ l:List α,(upT more l).1.length≤l.length
  | []=>by simp [upT]
  | g::r=>by
    have:=upT_len more r
    rw [upT]
    split
    · simp;exact this
    · simp
theorem getD_get {xs:List Int} {i:Nat} (h:i < xs.length):xs.getD i 0=xs[i]:=by simp [List.getD_eq_getElem?_getD,List.getElem?_eq_getElem h]
theorem decB_ok {l:List Int} {p:Nat} (hp:p < l.length):DecB l (decAt l p) p hp:=by
  have h1:decAt l p=l.set p (l[p] - 1):=by rw [decAt,getD_get hp]
  rw [h1]
  refine ⟨rfl,by simp,fun h=>by simp,?_⟩
  rw [List.set_set,List.set_getElem_self]
theorem setB_ok {t:List (List Int)} {i j:Nat} (hi:i < t.length) (hz:g2 t i j=0) (hj:j < t[i].length):SetB t (set2 t i j 1) i j hi:=by
  have h0:t.getD i []=t[i]:=by simp [List.getD_eq_getElem?_getD,List.getElem?_eq_getElem hi]
  have h1:set2 t i j 1=t.set i (t[i].set j 1):=by rw [set2,h0]
  rw [h1]
  refine ⟨rfl,by simp,fun h=>by simp,fun h=>?_⟩
  rw [List.set_set,List.getElem_set_self,List.set_set]
  have h2:t[i].set j 0=t[i]:=by
    rw [g2_eq hi hj] at hz
    rw [← hz,List.set_getElem_self]
  rw [h2,List.set_getElem_self]
def Zf (w h k:Nat) (t:List (List Int)):Prop:=∀ i j,i < w→j < h→k≤i * h+j→g2 t i j=0
theorem Zf.succ {w h k:Nat} {t:List (List Int)} (hz:Zf w h k t):Zf w h (k+1) t:=fun i j hi hj hk=>hz i j hi hj (by omega)
theorem g2_set2 (t:List (List Int)) (i j a b:Nat) (v:Int) (hne:¬ (a=i∧b=j)):g2 (set2 t i j v) a b=g2 t a b:=by
  simp only [g2,set2,List.getD_eq_getElem?_getD,List.getElem?_set]
  by_cases hai:i=a
  · subst hai
    by_cases hi:i < t.length
    · simp only [hi,if_true,Option.getD_some,List.getElem?_set,List.getElem?_eq_getElem hi]
      rw [if_neg (fun q=>hne ⟨rfl,q.symm⟩)]
    · simp [hi]
  · rw [if_neg hai]
theorem Zf.set2 {w h k:Nat} {t:List (List Int)} (hz:Zf w h k t):Zf w h (k+1) (set2 t (k / h) (k % h) 1):=fun i j hi hj hk=>by
  rw [g2_set2]
  · exact hz i j hi hj (by omega)
  · rintro ⟨rfl,rfl⟩
    have:=Nat.div_add_mod k h
    rw [Nat.mul_comm] at this
    omega
theorem mt_walk (w h:Nat) (rows cols:List Int) (cr cc:Bool) (A F:Lab) (caps:List IV) (more:List (List Int)→Bool) (P:List (List (List Int))→Boxes→Prop) (hcb:CallsBackM w h F caps more P)
    (h0:0 < w) (hw:w≤5) (hh:h≤5) (hrl:rows.length=w) (hcl:cols.length=h) (may:Nat→Nat→Bool) (hA:∀ i j,i < w→j < h→∀ M:List Boxes,Ev tb A [] [I i,I j] M ⟨Bo (may i j),[],M,[]⟩) :
    ∀ (m k:Nat) (l r:List Int) (t:List (List Int)) (gl:List (List (List Int))) (bs:Boxes) (Es:List Boxes),k+m=w * h→P gl bs→Lil l→Lil r→l.length=w→r.length=h→RT w h t→Zf w h k t→gl.length+2 ^ m≤40000000 →
    ∃ bs',P (gl++(upT more (mts may h m k l r t)).1) bs' ∧
      Ev tb zl413 [] (I k::capsM) (bs::boxM rows cols cr cc A F caps l r t::Es) ⟨Bo (upT more (mts may h m k l r t)).2,[],bs'::boxM rows cols cr cc A F caps l r t::Es,[]⟩:=by
  intro m
  induction m with
  | zero =>
    intro k l r t gl bs Es hk hP hl hr hll hrr ht hz hgl
    exact mt_end w h rows cols cr cc A F caps more P hcb h0 hw hh hrl hcl may l r t gl bs Es hP (by omega) hl hr hll hrr ht k hk
  | succ m ih =>
    intro k l r t gl bs Es hk hP hl hr hll hrr ht hz hgl
    rw [Nat.pow_succ] at hgl
    have hC:=Cel.mk2 hw hh (show k < w * h by omega)
    have iw:=hC.iw
    have jh:=hC.jh
    have il:k / h < l.length:=by omega
    have jr:k % h < r.length:=by omega
    have bl:=hl _ (List.getElem_mem il)
    have br:=hr _ (List.getElem_mem jr)
    rw [mts,getD_get il,getD_get jr]
    by_cases hov:(h:Int) - ((k % h:Nat):Int) < l[k / h]
    · rw [if_pos hov]
      refine ⟨bs,by simpa [upT] using hP,?_⟩
      exact mt_over w h rows cols cr cc A F caps hrl hcl k (k / h) (k % h) hC l r hll hrr t il bl.2 hov bs Es
    · rw [if_neg hov]
      by_cases htk:may (k / h) (k % h)=true∧0 < l[k / h]∧0 < r[k % h]
      rotate_left
      · rw [if_neg htk,List.nil_append]
        obtain ⟨bs',k1,k2⟩:=ih (k+1) l r t gl bs (Es++[[]]) (by omega) hP hl hr hll hrr ht hz.succ (by omega)
        exact ⟨bs',k1,mt_skip w h rows cols cr cc A F caps hrl hcl may k (k / h) (k % h) hC l r hll hrr t il jr (hA _ _ iw jh) hov htk bs bs' Es _ k2⟩
      · rw [if_pos htk,upT_app]
        obtain ⟨hm,hl0,hr0⟩:=htk
        have it:k / h < t.length:=by rw [ht.1];exact iw
        have hth:t[k / h].length=h:=ht.2 _ (List.getElem_mem it)
        have hz0:g2 t (k / h) (k % h)=0:=hz _ _ iw jh (by
          have:=Nat.div_add_mod k h
          rw [Nat.mul_comm] at this
          omega)
        have hA1:=hA _ _ iw jh
        rw [hm] at hA1
        obtain ⟨bs1,k1,k2⟩:=ih (k+1) (decAt l (k / h)) (decAt r (k % h)) (set2 t (k / h) (k % h) 1) gl bs (Es++[[]]) (by omega) hP
          (hl.dec (by rw [getD_get il];exact hl0)) (hr.dec (by rw [getD_get jr];exact hr0)) (by simp [decAt,hll]) (by simp [decAt,hrr]) (ht.set2 _ _ _ iw) hz.set2 (by omega)
        have h1:=upT_len more (mts may h m (k+1) (decAt l (k / h)) (decAt r (k % h)) (set2 t (k / h) (k % h) 1))
        have h2:=mts_len may h m (k+1) (decAt l (k / h)) (decAt r (k % h)) (set2 t (k / h) (k % h) 1)
        generalize upT more (mts may h m (k+1) (decAt l (k / h)) (decAt r (k % h)) (set2 t (k / h) (k % h) 1))=u at *
        obtain ⟨g1,b1⟩:=u
        cases b1 with
        | false =>
          simp only [Bool.false_eq_true,if_false]
          exact ⟨bs1,k1,mt_take w h rows cols cr cc A F caps hrl hcl k (k / h) (k % h) hC l r hll hrr t il jr hA1 hov hl0 hr0 bl.2 br.2 _ _ (decB_ok il) (decB_ok jr) _ it ht.1 hth (setB_ok it hz0 (by omega)) bs bs1 bs1 Es false false k2 (fun q=>by cases q) (fun _=>⟨rfl,rfl⟩)⟩
        | true =>
          simp only [if_true]
          obtain ⟨bs2,j1,j2⟩:=ih (k+1) l r t (gl++g1) bs1 (Es++[[]]) (by omega) k1 hl hr hll hrr ht hz.succ (by simp only [List.length_append] at *;omega)
          refine ⟨bs2,by rw [← List.append_assoc];exact j1,?_⟩
          exact mt_take w h rows cols cr cc A F caps hrl hcl k (k / h) (k % h) hC l r hll hrr t il jr hA1 hov hl0 hr0 bl.2 br.2 _ _ (decB_ok il) (decB_ok jr) _ it ht.1 hth (setB_ok it hz0 (by omega)) bs bs1 bs2 Es true _ k2 (fun _=>j2) (fun q=>by cases q)
end Go.Idl
namespace Go.Idl
open Go
def valS (xs:List Int):Bool:=(xs.all fun x=>decide (0≤x) && decide (x < xs.length)) && (decide (1≤(xs.length:Int)) && decide ((xs.length:Int)≤5))
theorem ev_validScores (xs:List Int) (c:Bool) (hl:xs.length≤2000000):Ev tb zl388 [] [L xs c] [] ⟨Bo (valS xs),[],[],[]⟩:=by
  have e1:=fun n=>ev_lim (ev_inRange n 0 ((xs.length:Int) - 1))
  have e2:=ev_lim (ev_inRange (xs.length:Int) 1 5)
  have w1:IntKind.i64.wrap ((xs.length:Int) - 1)=(xs.length:Int) - 1:=wrap64 (by omega) (by omega)
  have hx:∀ x:Int,(x≤(xs.length:Int) - 1) ↔ x < (xs.length:Int):=fun x=>by omega
  simp only [hx] at e1
  have loop:∀ (m i:Nat),i+m=xs.length→wp tb (.loop z388l6) { T:=[(0,L xs c),(3,I i)],loc:=[],M:=[] }
      (fun ex st=>(ex=.exit 0∧((xs.drop i).all fun x=>decide (0≤x) && decide (x < xs.length))=true∧st={ T:=[(0,L xs c),(3,I xs.length),(7,Bo false)],loc:=[],M:=[] }) ∨
        ex=.ret∧((xs.drop i).all fun x=>decide (0≤x) && decide (x < xs.length))=false∧st={ T:=[(2,Bo false)],loc:=[],M:=[] }):=by
    intro m
    induction m with
    | zero =>
      intro i hi
      obtain ⟨h1,h2⟩:=drop_end hi
      have h3:i=xs.length:=hi
      subst h3
      refine wp_loop ?_
      repeat (first|apply wp_as|apply wp_ss|refine wr (by simp;with_reducible rfl) ?_|refine wq (by simp;with_reducible rfl) ?_|refine wt (by simpa) ?_|refine wf (by simpa) ?_|refine xt (by simpa) ?_|refine xf (by simpa) ?_|apply wp_bs|apply wp_b|refine wp_sr ?_|refine wp_sx ?_|refine wp_ret' ?_|refine wp_skip' ?_|refine wp_exit' ?_)
      refine .inl ⟨rfl,by rw [h2];rfl,rfl⟩
    | succ m ih =>
      intro i hi
      obtain ⟨hi2,h2,h3⟩:=drop_get hi
      have w2:IntKind.i64.wrap ((i:Int)+1)=((i+1:Nat):Int):=wrapS (by omega)
      rw [h2]
      cases hpx:(decide (0≤xs[i]) && decide (xs[i] < (xs.length:Int))) with
      | true =>
        refine wp_loop ?_
        repeat (first|apply wp_as|apply wp_ss|refine wr (by simp [e1,hi2,w1,w2,hpx];with_reducible rfl) ?_|refine wq (by simp [e1,hi2,w1,w2,hpx];with_reducible rfl) ?_|refine wt (by simpa [e1,hi2,w1,w2,hpx]) ?_|refine wf (by simpa [e1,hi2,w1,w2,hpx]) ?_|refine xt (by simpa [e1,hi2,w1,w2,hpx]) ?_|refine xf (by simpa [e1,hi2,w1,w2,hpx]) ?_|apply wp_bs|apply wp_b|refine wp_sr ?_|refine wp_sx ?_|refine wp_ret' ?_|refine wp_skip' ?_|refine wp_exit' ?_)
        have:=ih (i+1) (by omega)
        simp only [List.all_cons,hpx,Bool.true_and] at this ⊢
        exact this
      | false =>
        refine wp_loop ?_
        repeat (first|apply wp_as|apply wp_ss|refine wr (by simp [e1,hi2,w1,w2,hpx];with_reducible rfl) ?_|refine wq (by simp [e1,hi2,w1,w2,hpx];with_reducible rfl) ?_|refine wt (by simpa [e1,hi2,w1,w2,hpx]) ?_|refine wf (by simpa [e1,hi2,w1,w2,hpx]) ?_|refine xt (by simpa [e1,hi2,w1,w2,hpx]) ?_|refine xf (by simpa [e1,hi2,w1,w2,hpx]) ?_|apply wp_bs|apply wp_b|refine wp_sr ?_|refine wp_sx ?_|refine wp_ret' ?_|refine wp_skip' ?_|refine wp_exit' ?_)
        refine .inr ⟨rfl,by simp only [List.all_cons,hpx,Bool.false_and],rfl⟩
  generalize hs:(decide (1≤(xs.length:Int)) && decide ((xs.length:Int)≤5))=b5 at e2
  refine call_of_wp zt388 rfl ?_
  repeat (first|apply wp_as|apply wp_ss|refine wr (by simp;with_reducible rfl) ?_|refine wq (by simp;with_reducible rfl) ?_|refine wt (by simpa) ?_|refine wf (by simpa) ?_|refine xt (by simpa) ?_|refine xf (by simpa) ?_|apply wp_bs|apply wp_b|refine wp_sr ?_|refine wp_sx ?_|refine wp_ret' ?_|refine wp_skip' ?_|refine wp_exit' ?_)
  refine wp_imp (loop xs.length 0 (by simp)) ?_
  rintro ex st (⟨rfl,h,rfl⟩ | ⟨rfl,h,rfl⟩)
  · simp only [if_true]
    repeat (first|apply wp_as|apply wp_ss|refine wr (by simp [e2];with_reducible rfl) ?_|refine wq (by simp [e2];with_reducible rfl) ?_|refine wt (by simpa [e2]) ?_|refine wf (by simpa [e2]) ?_|refine xt (by simpa [e2]) ?_|refine xf (by simpa [e2]) ?_|apply wp_bs|apply wp_b|refine wp_sr ?_|refine wp_sx ?_|refine wp_ret' ?_|refine wp_skip' ?_|refine wp_exit' ?_)
    simp only [List.drop_zero] at h
    simp only [valS,h,hs]
    simp [zi388]
  · simp only [List.drop_zero] at h
    simp only [valS,h]
    simp [zi388]
theorem valS_lil {xs:List Int} (h:valS xs=true):Lil xs∧xs.length≤5∧1≤xs.length:=by
  simp only [valS,Bool.and_eq_true,List.all_eq_true,decide_eq_true_eq] at h
  refine ⟨fun x hx=>?_,by omega,by omega⟩
  have:=h.1 x hx;omega
end Go.Idl
namespace Go.Idl
open Go
theorem ev_matrices_F1 (i j:Nat) (M:List Boxes):Ev tb zl412 [] [I i,I j] M ⟨I 0,[],M,[]⟩:=by
  refine call_of_wp zt412 rfl ?_
  repeat (first|apply wp_as|apply wp_ss|refine wr (by simp;with_reducible rfl) ?_|refine wq (by simp;with_reducible rfl) ?_|refine wt (by simpa) ?_|refine wf (by simpa) ?_|refine xt (by simpa) ?_|refine xf (by simpa) ?_|apply wp_bs|apply wp_b|refine wp_sr ?_|refine wp_sx ?_|refine wp_ret' ?_|refine wp_skip' ?_|refine wp_exit' ?_)
  simp [zi412]
def zeroT (w h:Nat):List (List Int):=tabF w h fun _ _=>0
theorem zeroT_RT (w h:Nat):RT w h (zeroT w h):=by
  refine ⟨by simp [zeroT,tabF],fun r hr=>?_⟩
  simp only [zeroT,tabF,List.mem_map] at hr
  obtain ⟨i,_,rfl⟩:=hr
  simp [mapR]
theorem zeroT_Zf (w h:Nat):Zf w h 0 (zeroT w h):=fun i j hi hj _=>by
  simp [g2,zeroT,tabF,mapR,hi,hj]
theorem ev_matrices (rows cols:List Int) (cr cc:Bool) (A F:Lab) (caps:List IV) (more:List (List Int)→Bool) (P:List (List (List Int))→Boxes→Prop) (hcb:CallsBackM rows.length cols.length F caps more P)
    (h0:0 < rows.length) (hw:rows.length≤5) (hh:cols.length≤5) (may:Nat→Nat→Bool) (hA:∀ i j,i < rows.length→j < cols.length→∀ M:List Boxes,Ev tb A [] [I i,I j] M ⟨Bo (may i j),[],M,[]⟩)
    (hr:Lil rows) (hc:Lil cols) (hk:IV.noK 1 4 5 (.fn F caps)=true) (bs:Boxes) (hP:P [] bs) :
    ∃ bs',P (upT more (mts may cols.length (rows.length * cols.length) 0 rows cols (zeroT rows.length cols.length))).1 bs' ∧
      Ev tb zl215 [] [L rows cr,L cols cc,.fn A [],.fn F caps] [bs] ⟨.tup [],[],[bs'],[]⟩:=by
  have hm:rows.length * cols.length≤25:=Nat.mul_le_mul hw hh
  obtain ⟨bs',k1,k2⟩:=mt_walk rows.length cols.length rows cols cr cc A F caps more P hcb h0 hw hh rfl rfl may hA (rows.length * cols.length) 0 rows cols (zeroT rows.length cols.length) [] bs [] (by omega) hP hr hc rfl rfl (zeroT_RT _ _) (zeroT_Zf _ _) (by
    have:=Nat.pow_le_pow_right (show 0 < 2 by decide) hm
    simp only [List.length_nil];omega)
  refine ⟨bs',by simpa using k1,?_⟩
  have e1:=ev_lim k2
  have e2:=fun c=>ev_lim (ev_clone rows c (by omega))
  have e3:=fun c=>ev_lim (ev_clone cols c (by omega))
  have e4:=fun M=>ev_lim (ev_table rows.length cols.length zl412 [] M (fun _ _=>0) (by omega) (by omega) fun i k _ _=>ev_matrices_F1 i k _)
  simp only [boxM,capsM,zeroT] at e1
  rw [show ((0:Nat):Int)=0 from rfl] at e1
  refine call_of_wp zt215 rfl ?_
  iterate 1 (first|apply wp_as|apply wp_ss|refine wr (by simp [e1,e2,e3,e4];with_reducible rfl) ?_|refine wq (by simp [e1,e2,e3,e4];with_reducible rfl) ?_|refine wt (by simpa [e1,e2,e3,e4]) ?_|refine wf (by simpa [e1,e2,e3,e4]) ?_|refine xt (by simpa [e1,e2,e3,e4]) ?_|refine xf (by simpa [e1,e2,e3,e4]) ?_|apply wp_bs|apply wp_b|refine wp_sr ?_|refine wp_sx ?_|refine wp_ret' ?_|refine wp_skip' ?_|refine wp_exit' ?_)
  refine wp_rdws (by simp [NHops]) (by simp [e2,e3];with_reducible rfl) (by simp;with_reducible rfl) ?_ ?_
  · intro p hp
    simp only [List.mem_cons,List.not_mem_nil,or_false] at hp
    subst hp
    refine ⟨_,by simp [e2,e3];with_reducible rfl,.inr ⟨4,5,by simp,by simp,?_⟩⟩
    have f1:∀ a,IV.noK 1 4 5 (.own 1 (ints a))=true:=fun _=>rfl
    have f2:∀ a c,IV.noK 1 4 5 (.lst 1 (ints a) c)=true:=fun _ _=>rfl
    have f3:IV.noK 1 4 5 (.fn A [])=true:=rfl
    simp [St.swB,hk,f1,f2,f3,IV.flat,IV.swb,swN]
  repeat (first|apply wp_as|apply wp_ss|refine wr (by simp [e1,e2,e3,e4];with_reducible rfl) ?_|refine wq (by simp [e1,e2,e3,e4];with_reducible rfl) ?_|refine wt (by simpa [e1,e2,e3,e4]) ?_|refine wf (by simpa [e1,e2,e3,e4]) ?_|refine xt (by simpa [e1,e2,e3,e4]) ?_|refine xf (by simpa [e1,e2,e3,e4]) ?_|apply wp_bs|apply wp_b|refine wp_sr ?_|refine wp_sx ?_|refine wp_ret' ?_|refine wp_skip' ?_|refine wp_exit' ?_)
  simp [zi215]
def mayD (i j:Nat):Bool:=!decide (i=j)
def hasM2 (a b:List Int):Bool:=!(mts mayD b.length (a.length * b.length) 0 a b (zeroT a.length b.length)).isEmpty
theorem ev_IsDigraphic_F1 (i j:Nat) (M:List Boxes):Ev tb zl180 [] [I i,I j] M ⟨Bo (mayD i j),[],M,[]⟩:=by
  have hq:((i:Int)=(j:Int)) ↔ i=j:=by omega
  by_cases h:i=j
  · refine call_of_wp zt180 rfl ?_
    repeat (first|apply wp_as|apply wp_ss|refine wr (by simp [hq,h];with_reducible rfl) ?_|refine wq (by simp [hq,h];with_reducible rfl) ?_|refine wt (by simpa [hq,h]) ?_|refine wf (by simpa [hq,h]) ?_|refine xt (by simpa [hq,h]) ?_|refine xf (by simpa [hq,h]) ?_|apply wp_bs|apply wp_b|refine wp_sr ?_|refine wp_sx ?_|refine wp_ret' ?_|refine wp_skip' ?_|refine wp_exit' ?_)
    simp [zi180,mayD,h]
  · refine call_of_wp zt180 rfl ?_
    repeat (first|apply wp_as|apply wp_ss|refine wr (by simp [hq,h];with_reducible rfl) ?_|refine wq (by simp [hq,h];with_reducible rfl) ?_|refine wt (by simpa [hq,h]) ?_|refine wf (by simpa [hq,h]) ?_|refine xt (by simpa [hq,h]) ?_|refine xf (by simpa [hq,h]) ?_|apply wp_bs|apply wp_b|refine wp_sr ?_|refine wp_sx ?_|refine wp_ret' ?_|refine wp_skip' ?_|refine wp_exit' ?_)
    simp [zi180,mayD,h]
    omega
theorem ev_IsDigraphic_F2 (v:IV) (b:Bool) (B:Boxes) (Es:List Boxes):Ev tb zl181 [] [v,.bptr 0 0 0] ([[Bo b]]::B::Es) ⟨Bo false,[],[[Bo true]]::B::Es,[]⟩:=by
  refine call_of_wp zt181 rfl ?_
  repeat (first|apply wp_as|apply wp_ss|refine wr (by simp;with_reducible rfl) ?_|refine wq (by simp;with_reducible rfl) ?_|refine wt (by simpa) ?_|refine wf (by simpa) ?_|refine xt (by simpa) ?_|refine xf (by simpa) ?_|apply wp_bs|apply wp_b|refine wp_sr ?_|refine wp_sx ?_|refine wp_ret' ?_|refine wp_skip' ?_|refine wp_exit' ?_)
  simp [zi181]
theorem upT_false {α:Type} (l:List α):upT (fun _=>false) l=(l.take 1,l.isEmpty):=by
  cases l <;> simp [upT]
def implD (a b:List Int):Bool:=decide (a.length=b.length) && (valS a && (valS b && hasM2 a b))
theorem valS_eq {xs:List Int} (h1:1≤xs.length) (h5:xs.length≤5):valS xs=xs.all fun x=>decide (0≤x) && decide (x≤(xs.length:Int) - 1):=by
  have e1:(1≤(xs.length:Int)):=by omega
  have e2:((xs.length:Int)≤5):=by omega
  rw [valS,decide_eq_true e1,decide_eq_true e2,Bool.and_true,Bool.and_true]
  congr 1
  funext x
  rw [Bool.eq_iff_iff];simp;omega
theorem valS_no {xs:List Int} (h:¬ (1≤xs.length∧xs.length≤5)):valS xs=false:=by
  rw [← Bool.not_eq_true]
  intro q
  have:=valS_lil q
  exact h ⟨this.2.2,this.2.1⟩
theorem ev_impl_IsDigraphic (a b:List Int) (ca cb:Bool) (ha:a.length≤2000000) (hb:b.length≤2000000) :
    Ev tb zl179 [] [L a ca,L b cb] [] ⟨Bo (implD a b),[],[],[]⟩:=by
  have hq:((b.length:Int)=(a.length:Int)) ↔ b.length=a.length:=by omega
  have w1:IntKind.i64.wrap ((a.length:Int) - 1)=(a.length:Int) - 1:=wrap64 (by omega) (by omega)
  have h5:((5:Int) < (a.length:Int)) ↔ 5 < a.length:=by omega
  have h0:((a.length:Int)=0) ↔ a.length=0:=by omega
  by_cases hn:1≤a.length∧a.length≤5
  rotate_left
  · have hv:implD a b=false:=by simp [implD,valS_no hn]
    rw [hv]
    by_cases hz:a.length=0
    · refine call_of_wp zt179 rfl ?_
      repeat (first|apply wp_as|apply wp_ss|refine wr (by simp [hz,h0];with_reducible rfl) ?_|refine wq (by simp [hz,h0];with_reducible rfl) ?_|refine wt (by simpa [hz,h0]) ?_|refine wf (by simpa [hz,h0]) ?_|refine xt (by simpa [hz,h0]) ?_|refine xf (by simpa [hz,h0]) ?_|apply wp_bs|apply wp_b|refine wp_sr ?_|refine wp_sx ?_|refine wp_ret' ?_|refine wp_skip' ?_|refine wp_exit' ?_)
      simp [zi179]
    · have hg:5 < a.length:=by omega
      refine call_of_wp zt179 rfl ?_
      repeat (first|apply wp_as|apply wp_ss|refine wr (by simp [hz,h0,hg,h5];with_reducible rfl) ?_|refine wq (by simp [hz,h0,hg,h5];with_reducible rfl) ?_|refine wt (by simpa [hz,h0,hg,h5]) ?_|refine wf (by simpa [hz,h0,hg,h5]) ?_|refine xt (by simpa [hz,h0,hg,h5]) ?_|refine xf (by simpa [hz,h0,hg,h5]) ?_|apply wp_bs|apply wp_b|refine wp_sr ?_|refine wp_sx ?_|refine wp_ret' ?_|refine wp_skip' ?_|refine wp_exit' ?_)
      simp [zi179]
  · have hz:¬ a.length=0:=by omega
    have hg:¬ 5 < a.length:=by omega
    by_cases hab:b.length=a.length
    rotate_left
    · have hv:implD a b=false:=by simp [implD,show ¬ a.length=b.length by omega]
      rw [hv]
      refine call_of_wp zt179 rfl ?_
      repeat (first|apply wp_as|apply wp_ss|refine wr (by simp [hz,h0,hg,h5,hab,hq];with_reducible rfl) ?_|refine wq (by simp [hz,h0,hg,h5,hab,hq];with_reducible rfl) ?_|refine wt (by simpa [hz,h0,hg,h5,hab,hq]) ?_|refine wf (by simpa [hz,h0,hg,h5,hab,hq]) ?_|refine xt (by simpa [hz,h0,hg,h5,hab,hq]) ?_|refine xf (by simpa [hz,h0,hg,h5,hab,hq]) ?_|apply wp_bs|apply wp_b|refine wp_sr ?_|refine wp_sx ?_|refine wp_ret' ?_|refine wp_skip' ?_|refine wp_exit' ?_)
      simp [zi179]
    · have e1:=ev_lim (ev_allIn a ca 0 ((a.length:Int) - 1) (by omega))
      have e2:=ev_lim (ev_allIn b cb 0 ((a.length:Int) - 1) (by omega))
      rw [← valS_eq hn.1 hn.2] at e1
      rw [← hab,← valS_eq (by omega) (by omega),hab] at e2
      cases hva:valS a with
      | false =>
        have hv:implD a b=false:=by simp [implD,hva]
        rw [hv]
        rw [hva] at e1
        refine call_of_wp zt179 rfl ?_
        repeat (first|apply wp_as|apply wp_ss|refine wr (by simp [hz,h0,hg,h5,hab,hq,w1,e1];with_reducible rfl) ?_|refine wq (by simp [hz,h0,hg,h5,hab,hq,w1,e1];with_reducible rfl) ?_|refine wt (by simpa [hz,h0,hg,h5,hab,hq,w1,e1]) ?_|refine wf (by simpa [hz,h0,hg,h5,hab,hq,w1,e1]) ?_|refine xt (by simpa [hz,h0,hg,h5,hab,hq,w1,e1]) ?_|refine xf (by simpa [hz,h0,hg,h5,hab,hq,w1,e1]) ?_|apply wp_bs|apply wp_b|refine wp_sr ?_|refine wp_sx ?_|refine wp_ret' ?_|refine wp_skip' ?_|refine wp_exit' ?_)
        simp [zi179]
      | true =>
        rw [hva] at e1
        cases hvb:valS b with
        | false =>
          have hv:implD a b=false:=by simp [implD,hvb]
          rw [hv]
          rw [hvb] at e2
          refine call_of_wp zt179 rfl ?_
          repeat (first|apply wp_as|apply wp_ss|refine wr (by simp [hz,h0,hg,h5,hab,hq,w1,e1,e2];with_reducible rfl) ?_|refine wq (by simp [hz,h0,hg,h5,hab,hq,w1,e1,e2];with_reducible rfl) ?_|refine wt (by simpa [hz,h0,hg,h5,hab,hq,w1,e1,e2]) ?_|refine wf (by simpa [hz,h0,hg,h5,hab,hq,w1,e1,e2]) ?_|refine xt (by simpa [hz,h0,hg,h5,hab,hq,w1,e1,e2]) ?_|refine xf (by simpa [hz,h0,hg,h5,hab,hq,w1,e1,e2]) ?_|apply wp_bs|apply wp_b|refine wp_sr ?_|refine wp_sx ?_|refine wp_ret' ?_|refine wp_skip' ?_|refine wp_exit' ?_)
          simp [zi179]
        | true =>
          rw [hvb] at e2
          have hv:implD a b=hasM2 a b:=by simp [implD,hva,hvb,hab]
          rw [hv]
          obtain ⟨bs',k1,k2⟩:=ev_matrices a b ca cb zl180 zl181 [.bptr 0 0 0] (fun _=>false) (fun gl bs=>bs=[[Bo (!gl.isEmpty)]])
            (fun gl bs t hP _ _=>⟨[[Bo true]],by simp,fun B Es=>by rw [hP];exact ev_IsDigraphic_F2 _ _ B Es⟩)
            (by omega) (by omega) (by omega) mayD (fun i j _ _ M=>ev_IsDigraphic_F1 i j M) (valS_lil hva).1 (valS_lil hvb).1 rfl [[Bo false]] rfl
          have e3:=ev_lim k2
          have k1:bs'=[[Bo (hasM2 a b)]]:=by
            rw [k1,upT_false,hasM2]
            cases mts mayD b.length (a.length * b.length) 0 a b (zeroT a.length b.length) <;> rfl
          rw [k1] at e3
          refine call_of_wp zt179 rfl ?_
          repeat (first|apply wp_as|apply wp_ss|refine wr (by simp [hz,h0,hg,h5,hab,hq,w1,e1,e2,e3];with_reducible rfl) ?_|refine wq (by simp [hz,h0,hg,h5,hab,hq,w1,e1,e2,e3];with_reducible rfl) ?_|refine wt (by simpa [hz,h0,hg,h5,hab,hq,w1,e1,e2,e3]) ?_|refine wf (by simpa [hz,h0,hg,h5,hab,hq,w1,e1,e2,e3]) ?_|refine xt (by simpa [hz,h0,hg,h5,hab,hq,w1,e1,e2,e3]) ?_|refine xf (by simpa [hz,h0,hg,h5,hab,hq,w1,e1,e2,e3]) ?_|apply wp_bs|apply wp_b|refine wp_sr ?_|refine wp_sx ?_|refine wp_ret' ?_|refine wp_skip' ?_|refine wp_exit' ?_)
          simp [zi179]
end Go.Idl
namespace Go.Idl
open Go
def ltL (l:List Int) (a b:Int):Bool:=decide (l.getD a.toNat 0 < l.getD b.toNat 0)
def rsRow (i:Nat):List Int→Nat→List Int→List (List Int)→List Int×List (List Int)
  | [],_,l,t=>(l,t)
  | k::r,at_,l,t=>if (at_:Int) < l.getD i 0 then rsRow i r (at_+1) l (set2 t i k.toNat 1) else rsRow i r (at_+1) (decAt l k.toNat) (set2 t k.toNat i 1)
def rsI (n:Nat):Nat→Nat→List Int→List (List Int)→List (List Int)
  | 0,_,_,t=>t
  | m+1,i,l,t=>rsI n m (i+1) (rsRow i (srtC (ltL l) [] ((idxB n (-1)).drop (i+1))) 0 l t).1 (rsRow i (srtC (ltL l) [] ((idxB n (-1)).drop (i+1))) 0 l t).2
def realI2 (s:List Int):List (List Int):=rsI s.length s.length 0 s (zeroT s.length s.length)
def Near (c:Nat) (l:List Int):Prop:=∀ x ∈ l,-(c:Int)≤x∧x≤1000
theorem Near.dec {c:Nat} {l:List Int} (h:Near c l) (k:Nat):Near (c+1) (decAt l k):=fun x hx=>by
  rcases List.mem_or_eq_of_mem_set hx with hx | rfl
  · have:=h x hx;omega
  · rw [List.getD_eq_getElem?_getD]
    cases ho:l[k]? with
    | none=>simp;omega
    | some y=>have:=h y (List.mem_of_getElem? ho);simp;omega
theorem Near.mono {c d:Nat} {l:List Int} (h:Near c l) (hd:c≤d):Near d l:=fun x hx=>by have:=h x hx;omega
theorem rsRow_ok {n i:Nat} (hi:i < n):∀ (js:List Int) (a c:Nat) (l:List Int) (t:List (List Int)),(∀ j ∈ js,0≤j∧j < n)→l.length=n→Near c l→RT n n t →
    (rsRow i js a l t).1.length=n∧Near (c+js.length) (rsRow i js a l t).1∧RT n n (rsRow i js a l t).2
  | [],a,c,l,t,_,hl,hc,ht=>⟨hl,by simpa [rsRow] using hc,ht⟩
  | j::js,a,c,l,t,hj,hl,hc,ht=>by
    have hjj:=hj j (by simp)
    rw [rsRow]
    split
    · obtain ⟨h1,h2,h3⟩:=rsRow_ok hi js (a+1) c l (set2 t i j.toNat 1) (fun k hk=>hj k (by simp [hk])) hl hc (ht.set2 _ _ _ hi)
      exact ⟨h1,h2.mono (by simp),h3⟩
    · obtain ⟨h1,h2,h3⟩:=rsRow_ok hi js (a+1) (c+1) (decAt l j.toNat) (set2 t j.toNat i 1) (fun k hk=>hj k (by simp [hk])) (by simpa [decAt] using hl) (hc.dec _) (ht.set2 _ _ _ (by omega))
      exact ⟨h1,h2.mono (by simp;omega),h3⟩
theorem ev_RS_F1 (i j:Nat) (M:List Boxes):Ev tb zl462 [] [I i,I j] M ⟨I 0,[],M,[]⟩:=by
  refine call_of_wp zt462 rfl ?_
  repeat (first|apply wp_as|apply wp_ss|refine wr (by simp;with_reducible rfl) ?_|refine wq (by simp;with_reducible rfl) ?_|refine wt (by simpa) ?_|refine wf (by simpa) ?_|refine xt (by simpa) ?_|refine xf (by simpa) ?_|apply wp_bs|apply wp_b|refine wp_sr ?_|refine wp_sx ?_|refine wp_ret' ?_|refine wp_skip' ?_|refine wp_exit' ?_)
  simp [zi462]
theorem ev_RS_F2 (l:List Int) (hl:Near 900 l) (a b:Nat) (ha:a < l.length) (hb:b < l.length) (Es:List Boxes) :
    Ev tb zl463 [] [I a,I b,.bptr 0 0 0] ([[O l]]::Es) ⟨I (l[a] - l[b]),[],[[O l]]::Es,[]⟩:=by
  have h1:=hl _ (List.getElem_mem ha)
  have h2:=hl _ (List.getElem_mem hb)
  have w1:IntKind.i64.wrap (l[a] - l[b])=l[a] - l[b]:=wrap64 (by omega) (by omega)
  refine call_of_wp zt463 rfl ?_
  repeat (first|apply wp_as|apply wp_ss|refine wr (by simp [ha,hb,w1];with_reducible rfl) ?_|refine wq (by simp [ha,hb,w1];with_reducible rfl) ?_|refine wt (by simpa [ha,hb,w1]) ?_|refine wf (by simpa [ha,hb,w1]) ?_|refine xt (by simpa [ha,hb,w1]) ?_|refine xf (by simpa [ha,hb,w1]) ?_|apply wp_bs|apply wp_b|refine wp_sr ?_|refine wp_sx ?_|refine wp_ret' ?_|refine wp_skip' ?_|refine wp_exit' ?_)
  simp [zi463]
theorem cmp_RS (l:List Int) (hl:Near 900 l):CmpOK vI zl463 [.bptr 0 0 0] (ltL l) (fun x=>0≤x∧x < l.length) [[[O l]],[],[]]:=by
  intro x y hx hy
  obtain ⟨a,rfl⟩:=Int.eq_ofNat_of_zero_le hx.1
  obtain ⟨b,rfl⟩:=Int.eq_ofNat_of_zero_le hy.1
  have ha:a < l.length:=by omega
  have hb:b < l.length:=by omega
  refine ⟨l[a] - l[b],?_,ev_RS_F2 l hl a b ha hb [[],[],[]]⟩
  simp only [ltL,Int.toNat_natCast,List.getD_eq_getElem?_getD,List.getElem?_eq_getElem ha,List.getElem?_eq_getElem hb,Option.getD_some]
  rw [decide_eq_decide];omega
set_option maxHeartbeats 2000000 in
theorem rs_in (n i:Nat) (hn:n≤5) (hi:i < n) (js:List Int) (hj:∀ j ∈ js,0≤j∧j < n) (hjl:js.length≤10) :
    ∀ (m a c:Nat) (l:List Int) (t:List (List Int)),a+m=js.length→l.length=n→Near c l→c+m≤900→RT n n t →
    wp tb (.loop z461l19) { T:=[(4,I n),(5,.bptr 0 0 0),(6,OT t),(7,I i),(8,O js),(21,I n),(22,I i),(26,.un),(33,.arr (.S 8) 0 [] 1 0 js.length false),(34,I js.length),(35,I a)],loc:=[[O l]],M:=[] }
      (fun ex st=>ex=.exit 2∧st={ T:=[(4,I n),(5,.bptr 0 0 0),(6,OT (rsRow i (js.drop a) a l t).2),(7,I i),(8,O js),(21,I n),(22,I i),(26,.un),(33,.arr (.S 8) 0 [] 1 0 js.length false),(34,I js.length),(35,I js.length),(36,Bo false)],loc:=[[O (rsRow i (js.drop a) a l t).1]],M:=[] }):=by
  intro m
  induction m with
  | zero =>
    intro a c l t ha hl hc hcm ht
    have h3:a=js.length:=ha
    subst h3
    rw [List.drop_length]
    refine wp_loop ?_
    repeat (first|apply wp_as|apply wp_ss|refine wr (by simp;with_reducible rfl) ?_|refine wq (by simp;with_reducible rfl) ?_|refine wt (by simpa) ?_|refine wf (by simpa) ?_|refine xt (by simpa) ?_|refine xf (by simpa) ?_|apply wp_bs|apply wp_b|refine wp_sr ?_|refine wp_sx ?_|refine wp_ret' ?_|refine wp_skip' ?_|refine wp_exit' ?_)
    exact ⟨rfl,rfl⟩
  | succ m ih =>
    intro a c l t ha hl hc hcm ht
    have hal:a < js.length:=by omega
    have hd:js.drop a=js[a]::js.drop (a+1):=List.drop_eq_getElem_cons hal
    obtain ⟨j,hjj⟩:=Int.eq_ofNat_of_zero_le (hj _ (List.getElem_mem hal)).1
    have hjn:=(hj _ (List.getElem_mem hal)).2
    have hj2:js[a].toNat=j:=by omega
    rw [hd,rsRow,hj2]
    have hil:i < l.length:=by omega
    have hjl2:j < l.length:=by omega
    have hit:i < t.length:=by rw [ht.1];exact hi
    have hjt:j < t.length:=by rw [ht.1];omega
    have hij:j < t[i].length:=by rw [ht.2 _ (List.getElem_mem hit)];omega
    have hji:i < t[j].length:=by rw [ht.2 _ (List.getElem_mem hjt)];omega
    have w2:IntKind.i64.wrap ((a:Int)+1)=((a+1:Nat):Int):=wrapS (by omega)
    rw [getD_get hil]
    by_cases hq:(a:Int) < l[i]
    · rw [if_pos hq]
      have hg:=ih (a+1) c l (set2 t i j 1) (by omega) hl hc (by omega) (ht.set2 _ _ _ hi)
      have ht2:set2 t i j 1=t.set i (t[i].set j 1):=by
        rw [set2];congr 2
        simp [List.getD_eq_getElem?_getD,List.getElem?_eq_getElem hit]
      rw [ht2] at hg ⊢
      refine wp_loop ?_
      repeat (first|apply wp_as|apply wp_ss|refine wr (by simp [hal,hjj,hil,hjl2,hq,hit,hjt,hij,hji,w2];with_reducible rfl) ?_|refine wq (by simp [hal,hjj,hil,hjl2,hq,hit,hjt,hij,hji,w2];with_reducible rfl) ?_|refine wt (by simpa [hal,hjj,hil,hjl2,hq,hit,hjt,hij,hji,w2]) ?_|refine wf (by simpa [hal,hjj,hil,hjl2,hq,hit,hjt,hij,hji,w2]) ?_|refine xt (by simpa [hal,hjj,hil,hjl2,hq,hit,hjt,hij,hji,w2]) ?_|refine xf (by simpa [hal,hjj,hil,hjl2,hq,hit,hjt,hij,hji,w2]) ?_|apply wp_bs|apply wp_b|refine wp_sr ?_|refine wp_sx ?_|refine wp_ret' ?_|refine wp_skip' ?_|refine wp_exit' ?_)
      exact hg
    · rw [if_neg hq]
      have hg:=ih (a+1) (c+1) (decAt l j) (set2 t j i 1) (by omega) (by simpa [decAt] using hl) (hc.dec _) (by omega) (ht.set2 _ _ _ (by omega))
      have ht2:set2 t j i 1=t.set j (t[j].set i 1):=by
        rw [set2];congr 2
        simp [List.getD_eq_getElem?_getD,List.getElem?_eq_getElem hjt]
      have hdl:decAt l j=l.set j (l[j] - 1):=by rw [decAt,getD_get hjl2]
      have hb:=hc _ (List.getElem_mem hjl2)
      have w3:IntKind.i64.wrap (l[j] - 1)=l[j] - 1:=wrap64 (by omega) (by omega)
      rw [ht2,hdl] at hg ⊢
      refine wp_loop ?_
      repeat (first|apply wp_as|apply wp_ss|refine wr (by simp [hal,hjj,hil,hjl2,hq,hit,hjt,hij,hji,w2,w3];with_reducible rfl) ?_|refine wq (by simp [hal,hjj,hil,hjl2,hq,hit,hjt,hij,hji,w2,w3];with_reducible rfl) ?_|refine wt (by simpa [hal,hjj,hil,hjl2,hq,hit,hjt,hij,hji,w2,w3]) ?_|refine wf (by simpa [hal,hjj,hil,hjl2,hq,hit,hjt,hij,hji,w2,w3]) ?_|refine xt (by simpa [hal,hjj,hil,hjl2,hq,hit,hjt,hij,hji,w2,w3]) ?_|refine xf (by simpa [hal,hjj,hil,hjl2,hq,hit,hjt,hij,hji,w2,w3]) ?_|apply wp_bs|apply wp_b|refine wp_sr ?_|refine wp_sx ?_|refine wp_ret' ?_|refine wp_skip' ?_|refine wp_exit' ?_)
      exact hg
theorem drop_in {n i:Nat} {lt:Int→Int→Bool}:∀ v ∈ srtC lt [] ((idxB n (-1)).drop i),0≤v∧v < n:=by
  intro v hv
  have:=(srtC_perm lt ((idxB n (-1)).drop i) []).mem_iff.1 hv
  rw [List.nil_append] at this
  have:=List.mem_of_mem_drop this
  rw [idxB] at this
  obtain ⟨k,hk,rfl⟩:=List.mem_map.1 (List.mem_filter.1 this).1
  have:=List.mem_range.1 hk
  omega
theorem drop_len {n i:Nat} (lt:Int→Int→Bool):(srtC lt [] ((idxB n (-1)).drop i)).length≤n:=by
  have h1:=(srtC_perm lt ((idxB n (-1)).drop i) []).length_eq
  have h2:(idxB n (-1)).length≤n:=by rw [idxB];exact Nat.le_trans (List.length_filter_le _ _) (by simp)
  rw [h1];simp;omega
set_option maxHeartbeats 2000000 in
theorem rs_out (n:Nat) (hn:n≤5) (h1:1≤n):∀ (m i c:Nat) (l:List Int) (t:List (List Int)),i+m=n→l.length=n→Near c l→c+10 * m≤800→RT n n t →
    wp tb (.loop z461l21) { T:=[(4,I n),(5,.bptr 0 0 0),(6,OT t),(21,I n),(22,I i)],loc:=[[O l]],M:=[] }
      (fun ex st=>ex=.exit 0∧∃ l',st={ T:=[(4,I n),(5,.bptr 0 0 0),(6,OT (rsI n m i l t)),(21,I n),(22,I n),(23,Bo false)],loc:=[[O l']],M:=[] }):=by
  intro m
  induction m with
  | zero =>
    intro i c l t hi hl hc hcm ht
    have h3:i=n:=hi
    subst h3
    refine wp_loop ?_
    repeat (first|apply wp_as|apply wp_ss|refine wr (by simp;with_reducible rfl) ?_|refine wq (by simp;with_reducible rfl) ?_|refine wt (by simpa) ?_|refine wf (by simpa) ?_|refine xt (by simpa) ?_|refine xf (by simpa) ?_|apply wp_bs|apply wp_b|refine wp_sr ?_|refine wp_sx ?_|refine wp_ret' ?_|refine wp_skip' ?_|refine wp_exit' ?_)
    exact ⟨rfl,l,rfl⟩
  | succ m ih =>
    intro i c l t hi hl hc hcm ht
    have hi2:i < n:=by omega
    have w2:IntKind.i64.wrap ((i:Int)+1)=((i+1:Nat):Int):=wrapS (by omega)
    have e1:=ev_lim (ev_indices n (-1) (by omega))
    have hidl:(idxB n (-1)).length=n:=by
      rw [idxB,List.filter_eq_self.2 (by intro a ha;obtain ⟨v,_,rfl⟩:=List.mem_map.1 ha;rw [decide_eq_true_eq];omega)];simp
    have hidn:nlI (idxB n (-1))=O (idxB n (-1)):=by
      cases hq:idxB n (-1) with
      | nil=>rw [hq] at hidl;simp at hidl;omega
      | cons a b=>rfl
    rw [hidn] at e1
    have e2:=ev_lim (ev_SortStable zl463 [.bptr 0 0 0] (ltL l) (fun x=>0≤x∧x < l.length) [[[O l]]] (cmp_RS l (hc.mono (by omega))) ((idxB n (-1)).drop (i+1)) (by rw [List.length_drop,hidl];omega) (fun x hx=>by
      have:=List.mem_of_mem_drop hx
      rw [idxB] at this
      obtain ⟨k,hk,rfl⟩:=List.mem_map.1 (List.mem_filter.1 this).1
      have:=List.mem_range.1 hk
      omega))
    have hdl:=drop_len (n:=n) (i:=i+1) (ltL l)
    have hin:=rs_in n i hn hi2 (srtC (ltL l) [] ((idxB n (-1)).drop (i+1))) drop_in (by omega) (srtC (ltL l) [] ((idxB n (-1)).drop (i+1))).length 0 c l t (by omega) hl hc (by omega) ht
    have hok:=rsRow_ok hi2 (srtC (ltL l) [] ((idxB n (-1)).drop (i+1))) 0 c l t drop_in hl hc ht
    rw [rsI]
    rw [List.drop_zero,show ((0:Nat):Int)=0 from rfl] at hin
    have hix:(List.drop (i+1) (idxB n (-1))).length=n - (i+1):=by rw [List.length_drop,hidl]
    have hle:i+1≤n:=by omega
    generalize srtC (ltL l) [] ((idxB n (-1)).drop (i+1))=js at *
    have hT:List.take (n - (i+1)) (List.drop (i+1) (idxB n (-1)))=List.drop (i+1) (idxB n (-1)):=List.take_of_length_le (by omega)
    generalize idxB n (-1)=ix at *
    refine wp_loop ?_
    repeat (first|apply wp_as|apply wp_ss|refine wr (by simp [hi2,e1,e2,w2,hidl,hle,hT];with_reducible rfl) ?_|refine wq (by simp [hi2,e1,e2,w2,hidl,hle,hT];with_reducible rfl) ?_|refine wt (by simpa [hi2,e1,e2,w2,hidl,hle,hT]) ?_|refine wf (by simpa [hi2,e1,e2,w2,hidl,hle,hT]) ?_|refine xt (by simpa [hi2,e1,e2,w2,hidl,hle,hT]) ?_|refine xf (by simpa [hi2,e1,e2,w2,hidl,hle,hT]) ?_|apply wp_bs|apply wp_b|refine wp_sr ?_|refine wp_sx ?_|refine wp_ret' ?_|refine wp_skip' ?_|refine wp_exit' ?_)
    refine wp_imp hin ?_
    rintro ex st ⟨rfl,rfl⟩
    have hg:=ih (i+1) (c+js.length) _ _ (by omega) hok.1 hok.2.1 (by omega) hok.2.2
    try simp only [if_true]
    repeat (first|apply wp_as|apply wp_ss|refine wr (by simp [w2];with_reducible rfl) ?_|refine wq (by simp [w2];with_reducible rfl) ?_|refine wt (by simpa [w2]) ?_|refine wf (by simpa [w2]) ?_|refine xt (by simpa [w2]) ?_|refine xf (by simpa [w2]) ?_|apply wp_bs|apply wp_b|refine wp_sr ?_|refine wp_sx ?_|refine wp_ret' ?_|refine wp_skip' ?_|refine wp_exit' ?_)
    exact hg
set_option maxHeartbeats 2000000 in
theorem ev_RealizeScores (s:List Int) (c:Bool) (h1:1≤s.length∧s.length≤5) (hs:∀ x ∈ s,0≤x∧x≤(s.length:Int) - 1) :
    Ev tb zl461 [] [L s c] [] ⟨if isScr s=true then .tup [OT (realI2 s),Bo true] else .tup [Z,Bo false],[],[],[]⟩:=by
  have e1:=fun c=>ev_lim (ev_IsScores s c h1 hs)
  cases hv:isScr s with
  | false =>
    rw [hv] at e1
    refine call_of_wp zt461 rfl ?_
    repeat (first|apply wp_as|apply wp_ss|refine wr (by simp [e1];with_reducible rfl) ?_|refine wq (by simp [e1];with_reducible rfl) ?_|refine wt (by simpa [e1]) ?_|refine wf (by simpa [e1]) ?_|refine xt (by simpa [e1]) ?_|refine xf (by simpa [e1]) ?_|apply wp_bs|apply wp_b|refine wp_sr ?_|refine wp_sx ?_|refine wp_ret' ?_|refine wp_skip' ?_|refine wp_exit' ?_)
    simp [zi461]
  | true =>
    rw [hv] at e1
    have e2:=fun c=>ev_lim (ev_clone s c (by omega))
    have e3:=fun M=>ev_lim (ev_table s.length s.length zl462 [] M (fun _ _=>0) (by omega) (by omega) fun i k _ _=>ev_RS_F1 i k _)
    have e3:∀ M,limF tb zl41 [] [I s.length,I s.length,.fn zl462 []] M=some ⟨OT (zeroT s.length s.length),[],M,[]⟩:=e3
    have hlo:=rs_out s.length h1.2 h1.1 s.length 0 0 s (zeroT s.length s.length) (by omega) rfl (fun x hx=>by have:=hs x hx;omega) (by omega) (zeroT_RT _ _)
    rw [show ((0:Nat):Int)=0 from rfl] at hlo
    unfold realI2
    generalize zeroT s.length s.length=t0 at *
    generalize rsI s.length s.length 0 s t0=t1 at *
    refine call_of_wp zt461 rfl ?_
    repeat (first|apply wp_as|apply wp_ss|refine wr (by simp [e1,e2,e3];with_reducible rfl) ?_|refine wq (by simp [e1,e2,e3];with_reducible rfl) ?_|refine wt (by simpa [e1,e2,e3]) ?_|refine wf (by simpa [e1,e2,e3]) ?_|refine xt (by simpa [e1,e2,e3]) ?_|refine xf (by simpa [e1,e2,e3]) ?_|apply wp_bs|apply wp_b|refine wp_sr ?_|refine wp_sx ?_|refine wp_ret' ?_|refine wp_skip' ?_|refine wp_exit' ?_)
    refine wp_imp hlo ?_
    rintro ex st ⟨rfl,l',rfl⟩
    try simp only [if_true]
    repeat (first|apply wp_as|apply wp_ss|refine wr (by simp;with_reducible rfl) ?_|refine wq (by simp;with_reducible rfl) ?_|refine wt (by simpa) ?_|refine wf (by simpa) ?_|refine xt (by simpa) ?_|refine xf (by simpa) ?_|apply wp_bs|apply wp_b|refine wp_sr ?_|refine wp_sx ?_|refine wp_ret' ?_|refine wp_skip' ?_|refine wp_exit' ?_)
    simp [zi461]
end Go.Idl
