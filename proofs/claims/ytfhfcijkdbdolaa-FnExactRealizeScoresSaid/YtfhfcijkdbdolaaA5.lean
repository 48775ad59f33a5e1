/- Part 5 of a proof by an ideal interpreter of the code: its definitions and lemmas. Conditions: none. -/
import Derived.KernelRfl
import Derived.Test.YtfhfcijkdbdolaaA4
set_option linter.all false
set_option linter.unusedVariables false
set_option linter.unusedSimpArgs false
namespace Go.Idl
open Go
theorem ev_in (n lo hi:Int):Ev tb zl38 [] [I n,I lo,I hi] [] ⟨Bo (decide (lo≤n) && decide (n≤hi)),[],[],[]⟩:=by
  refine call_of_wp zt38 rfl ?_
  refine wp_rs (by simp;rfl) (by simp;rfl) ?_
  by_cases h:lo≤n
  · refine wp_rs (by simp [h];rfl) (by simp;rfl) ?_
    refine wp_ret' ?_
    simp [h,zi38]
  · refine wp_rs (by simp [h];rfl) (by simp;rfl) ?_
    refine wp_ret' ?_
    simp [h,zi38]
theorem ev_inRange (n lo hi:Int):Ev tb zl132 [] [I n,I lo,I hi] [] ⟨Bo (decide (lo≤n) && decide (n≤hi)),[],[],[]⟩:=by
  refine call_of_wp zt132 rfl ?_
  refine wp_rs (by simp;rfl) (by simp;rfl) ?_
  by_cases h:lo≤n
  · refine wp_rs (by simp [h];rfl) (by simp;rfl) ?_
    refine wp_ret' ?_
    simp [h,zi132]
  · refine wp_rs (by simp [h];rfl) (by simp;rfl) ?_
    refine wp_ret' ?_
    simp [h,zi132]
def SmallSum (xs:List Int):Prop:=xs.length≤2000000∧∀ k,-4611686018427387904≤(xs.take k).sum∧(xs.take k).sum≤4611686018427387904
theorem sum_take_succ {xs:List Int} {i:Nat} (h:i < xs.length):(xs.take i).sum+xs[i]=(xs.take (i+1)).sum:=by
  rw [List.take_succ_eq_append_getElem h,List.sum_append];simp
theorem ev_sum (xs:List Int) (c:Bool) (hs:SmallSum xs):Ev tb zl40 [] [.lst 1 (ints xs) c] [] ⟨I xs.sum,[],[],[]⟩:=by
  obtain ⟨hl,hs⟩:=hs
  have loop:∀ (m i:Nat),i+m=xs.length→wp tb (.loop z40l7) { T:=[(0,.lst 1 (ints xs) c),(3,I (xs.take i).sum),(6,.lst 1 (ints xs) c),(7,I xs.length),(8,I i)],loc:=[],M:=[] }
      (fun ex st=>ex=.exit 0∧st={ T:=[(0,.lst 1 (ints xs) c),(3,I xs.sum),(6,.lst 1 (ints xs) c),(7,I xs.length),(8,I xs.length),(9,Bo false)],loc:=[],M:=[] }):=by
    intro m
    induction m with
    | zero =>
      intro i hi
      have hi':i=xs.length:=by omega
      subst hi'
      apply wp_loop
      refine wp_rs (by simp;rfl) (by simp;rfl) ?_
      refine wp_ct rfl (by simp) fun _=>wp_sx ?_
      simp
    | succ m ih =>
      intro i hi
      have hi':i < xs.length:=by omega
      have h1:=hs (i+1)
      rw [← sum_take_succ hi'] at h1
      apply wp_loop
      refine wp_rs (by simp;rfl) (by simp;rfl) ?_
      refine wp_ct rfl (fun _=>wp_ss ?_) (by simp [hi'])
      refine wp_bs ?_
      refine wp_rs (by simp [hi'];rfl) (by simp;rfl) ?_
      refine wp_reg (by simp;rfl) (by simp;rfl) ?_
      refine wp_reg (by simp;rfl) (by simp;rfl) ?_
      have:=ih (i+1) (by omega)
      rw [wrapS (by omega),wrap64 (by omega) (by omega),sum_take_succ hi']
      exact this
  refine call_of_wp zt40 rfl ?_
  refine wp_rs (by simp;rfl) (by simp;rfl) ?_
  refine wp_rs (by simp;rfl) (by simp;rfl) ?_
  refine wp_as (wp_rs (by simp;rfl) (by simp;rfl) ?_)
  refine wp_bs (wp_imp (loop xs.length 0 (by simp)) ?_)
  rintro ex st ⟨rfl,rfl⟩
  simp only [if_true]
  refine wp_rs (by simp;rfl) (by simp;rfl) ?_
  refine wp_ret' ?_
  simp [zi40]
theorem ev_Clip (xs:List Int):Ev tb zl70 [] [.own 1 (ints xs)] [] ⟨.own 1 (ints xs),[],[],[]⟩:=by
  refine call_of_wp zt70 rfl ?_
  refine wp_rs (by simp;rfl) (by simp;rfl) ?_
  refine wp_rs (by simp;rfl) (by simp;rfl) ?_
  refine wp_ret' ?_
  simp [zi70]
theorem ev_Clone (xs:List Int) (c:Bool) (hl:xs.length≤2000000):Ev tb zl71 [] [.lst 1 (ints xs) c] [] ⟨.own 1 (ints xs),[],[],[]⟩:=by
  refine call_of_wp zt71 rfl ?_
  refine wp_rs (by simp;rfl) (by simp;rfl) ?_
  refine wp_nil2 (b:=xs.isEmpty) (by simp [z71r1];rfl) (by simp) ?_ ?_ ?_ (ex:=.ret) (st':={ T:=[(2,.own 1 (ints xs))],loc:=[],M:=[] })
  · refine wp_ct (t:=false) (by simp) (by simp) fun _=>wp_ss ?_
    refine wp_rs (by simp [show xs.length≤274877906944 by omega];rfl) (by simp;rfl) ?_
    refine wp_ret' ?_
    simp
  · intro he
    have:xs=[]:=by simpa using he
    subst this
    refine wp_ct (t:=true) (by simp) (fun _=>wp_as ?_) (by simp)
    refine wp_rs (by simp;rfl) (by simp;rfl) ?_
    refine wp_sr ?_
    simp
  · simp [zi71]
theorem ev_clone (xs:List Int) (c:Bool) (hl:xs.length≤2000000) :
    Ev tb zl31 [] [.lst 1 (ints xs) c] [] ⟨.own 1 (ints xs),[],[],[]⟩:=by
  have e1:=ev_lim (ev_Clone xs c hl)
  have e2:=ev_lim (ev_Clip xs)
  refine call_of_wp zt31 rfl ?_
  refine wp_rs (by simp;rfl) (by simp;rfl) ?_
  refine wp_rs (by simp [e1,e2];rfl) (by simp;rfl) ?_
  refine wp_ret' ?_
  simp [zi31]
theorem ev_spec_sum (xs:List Int) (c:Bool) (hs:SmallSum xs):Ev tb zl382 [] [.lst 1 (ints xs) c] [] ⟨I xs.sum,[],[],[]⟩:=by
  obtain ⟨hl,hs⟩:=hs
  have loop:∀ (m i:Nat),i+m=xs.length→wp tb (.loop z382l6) { T:=[(0,.lst 1 (ints xs) c),(3,I (xs.take i).sum),(4,I i)],loc:=[],M:=[] }
      (fun ex st=>ex=.exit 0∧st={ T:=[(0,.lst 1 (ints xs) c),(3,I xs.sum),(4,I xs.length),(8,Bo false)],loc:=[],M:=[] }):=by
    intro m
    induction m with
    | zero =>
      intro i hi
      have hi':i=xs.length:=by omega
      subst hi'
      refine wp_loop (wp_as (wp_rs (by simp;rfl) (by simp;rfl) ?_))
      exact wp_ct rfl (by simp) fun _=>wp_sx (by simp)
    | succ m ih =>
      intro i hi
      have hi':i < xs.length:=by omega
      have h1:=hs (i+1)
      rw [← sum_take_succ hi'] at h1
      refine wp_loop (wp_as (wp_rs (by simp;rfl) (by simp;rfl) ?_))
      refine wp_ct rfl (fun _=>wp_ss ?_) (by simp [hi'])
      refine wp_bs (wp_reg (by simp [hi'];rfl) (by simp;rfl) ?_)
      refine wp_reg (by simp;rfl) (by simp;rfl) ?_
      have:=ih (i+1) (by omega)
      rw [wrapS (by omega),wrap64 (by omega) (by omega),sum_take_succ hi']
      exact this
  refine call_of_wp zt382 rfl ?_
  refine wp_rs (by simp;rfl) (by simp;rfl) ?_
  refine wp_rs (by simp;rfl) (by simp;rfl) ?_
  refine wp_as (wp_rs (by simp;rfl) (by simp;rfl) ?_)
  refine wp_bs (wp_imp (loop xs.length 0 (by simp)) ?_)
  rintro ex st ⟨rfl,rfl⟩
  simp only [if_true]
  refine wp_rs (by simp;rfl) (by simp;rfl) ?_
  exact wp_ret' (by simp [zi382])
end Go.Idl
namespace Go.Idl
def insD (x:Int):List Int→List Int
  | []=>[x]
  | y::ys=>if x≤y then y::insD x ys else x::y::ys
def fall (xs:List Int):List Int:=xs.foldl (fun out x=>insD x out) []
abbrev Desc (xs:List Int):Prop:=xs.Pairwise (fun a b=>b≤a)
abbrev Asc (xs:List Int):Prop:=xs.Pairwise (fun a b=>a≤b)
theorem insD_perm (x:Int) (ys:List Int):(insD x ys).Perm (x::ys):=by
  induction ys with
  | nil=>exact .refl _
  | cons y ys ih =>
    unfold insD
    split
    · exact (ih.cons y).trans (.swap x y ys)
    · exact .refl _
theorem insD_desc (x:Int) (ys:List Int) (h:Desc ys):Desc (insD x ys):=by
  induction ys with
  | nil=>simp [insD]
  | cons y ys ih =>
    unfold insD
    have h:=List.pairwise_cons.1 h
    split
    · refine List.pairwise_cons.2 ⟨fun a ha=>?_,ih h.2⟩
      rcases List.mem_cons.1 ((insD_perm x ys).mem_iff.1 ha) with rfl | ha
      · assumption
      · exact h.1 a ha
    · rename_i hx
      refine List.pairwise_cons.2 ⟨fun a ha=>?_,List.pairwise_cons.2 h⟩
      rcases List.mem_cons.1 ha with rfl | ha
      · omega
      · have:=h.1 a ha;omega
theorem fall_aux (xs:List Int):∀ ys,Desc ys→Desc (xs.foldl (fun out x=>insD x out) ys)∧(xs.foldl (fun out x=>insD x out) ys).Perm (xs++ys):=by
  induction xs with
  | nil=>intro ys h;exact ⟨h,.refl _⟩
  | cons x xs ih =>
    intro ys h
    obtain ⟨h1,h2⟩:=ih (insD x ys) (insD_desc x ys h)
    refine ⟨h1,h2.trans ?_⟩
    exact ((insD_perm x ys).append_left xs).trans List.perm_middle
theorem fall_desc (xs:List Int):Desc (fall xs):=(fall_aux xs [] .nil).1
theorem fall_perm (xs:List Int):(fall xs).Perm xs:=by simpa [fall] using (fall_aux xs [] .nil).2
theorem fall_len (xs:List Int):(fall xs).length=xs.length:=(fall_perm xs).length_eq
theorem desc_unique {xs ys:List Int} (hx:Desc xs) (hy:Desc ys) (h:xs.Perm ys):xs=ys:=by
  refine List.Perm.eq_of_pairwise (le:=fun a b=>b≤a) (fun a b _ _ h1 h2=>by omega) hx hy h
theorem fall_unique {xs ys:List Int} (hy:Desc ys) (h:ys.Perm xs):ys=fall xs:=desc_unique hy (fall_desc xs) (h.trans (fall_perm xs).symm)
theorem perm_sum {xs ys:List Int} (h:xs.Perm ys):xs.sum=ys.sum:=by
  induction h with
  | nil=>rfl
  | cons x _ ih=>simp [ih]
  | swap x y l=>simp;omega
  | trans _ _ h1 h2=>exact h1.trans h2
theorem fall_sum (xs:List Int):(fall xs).sum=xs.sum:=perm_sum (fall_perm xs)
theorem fall_mem {xs:List Int} {x:Int}:x ∈ fall xs ↔ x ∈ xs:=(fall_perm xs).mem_iff
def insR (x:Int):List Int→List Int→List Int
  | [],B=>x::B
  | a::r,B=>if x < a then insR x r (a::B) else r.reverse++a::x::B
theorem insR_perm (x:Int):∀ (r B:List Int),(insR x r B).Perm (r.reverse++x::B)
  | [],B=>.refl _
  | a::r,B=>by
    unfold insR
    split
    · refine (insR_perm x r (a::B)).trans ?_
      rw [List.reverse_cons,List.append_assoc]
      exact List.Perm.append_left _ (.swap _ _ _)
    · rw [List.reverse_cons,List.append_assoc]
      exact .refl _
theorem insR_asc (x:Int):∀ (r B:List Int),Asc (r.reverse++B)→(∀ b ∈ B,x≤b)→Asc (insR x r B)
  | [],B,h,hb=>List.pairwise_cons.2 ⟨hb,by simpa using h⟩
  | a::r,B,h,hb=>by
    rw [List.reverse_cons,List.append_assoc] at h
    unfold insR
    split
    · rename_i hx
      refine insR_asc x r (a::B) h fun b hb'=>?_
      rcases List.mem_cons.1 hb' with rfl | hb'
      · omega
      · exact hb b hb'
    · rename_i hx
      obtain ⟨h1,h2,h3⟩:=List.pairwise_append.1 (show Asc (r.reverse++a::B) from h)
      have h2:=List.pairwise_cons.1 h2
      refine List.pairwise_append.2 ⟨h1,?_,fun p hp q hq=>?_⟩
      · refine List.pairwise_cons.2 ⟨fun q hq=>?_,List.pairwise_cons.2 ⟨hb,h2.2⟩⟩
        rcases List.mem_cons.1 hq with rfl | hq
        · omega
        · exact h2.1 q hq
      · have ha:=h3 p hp a (by simp)
        rcases List.mem_cons.1 hq with rfl | hq
        · exact ha
        · rcases List.mem_cons.1 hq with rfl | hq
          · omega
          · exact h3 p hp q (by simp [hq])
def asc:Nat→List Int→List Int→List Int
  | _,S,[]=>S
  | n,S,x::r=>asc n (insR x S.reverse []) r
theorem asc_ok:∀ (r S:List Int),Asc S→Asc (asc 0 S r)∧(asc 0 S r).Perm (S++r)
  | [],S,h=>⟨h,by simp [asc]⟩
  | x::r,S,h=>by
    obtain ⟨h1,h2⟩:=asc_ok r (insR x S.reverse []) (insR_asc x _ _ (by simpa using h) (by simp))
    refine ⟨h1,h2.trans ?_⟩
    have:=insR_perm x S.reverse []
    rw [List.reverse_reverse] at this
    refine (this.append_right r).trans ?_
    rw [List.append_assoc];exact .refl _
theorem asc_rev (xs:List Int):(asc 0 [] xs).reverse=fall xs:=by
  obtain ⟨h1,h2⟩:=asc_ok xs [] .nil
  refine fall_unique ?_ ((List.reverse_perm _).trans (by simpa using h2))
  rw [Desc,List.pairwise_reverse];exact h1
theorem asc_len (xs:List Int):(asc 0 [] xs).length=xs.length:=by simpa using (asc_ok xs [] .nil).2.length_eq
end Go.Idl
namespace Go.Idl
open Go
abbrev L (xs:List Int) (c:Bool:=false):IV:=.lst 1 (ints xs) c
abbrev O (xs:List Int):IV:=.own 1 (ints xs)
theorem ev_isNaN (n:Int):Ev tb zl4 [] [I n] [] ⟨Bo false,[],[],[]⟩:=by
  refine call_of_wp zt4 rfl ?_
  repeat (first|apply wp_as|apply wp_ss|refine wr (by simp;with_reducible rfl) ?_|refine wq (by simp;with_reducible rfl) ?_|refine wt (by simpa) ?_|refine wf (by simpa) ?_|refine xt (by simpa) ?_|refine xf (by simpa) ?_|apply wp_bs|apply wp_b|refine wp_sr ?_|refine wp_sx ?_|refine wp_ret' ?_|refine wp_skip' ?_|refine wp_exit' ?_)
  simp [zi4]
theorem ev_Less (a b:Int):Ev tb zl2 [] [I a,I b] [] ⟨Bo (decide (a < b)),[],[],[]⟩:=by
  have e1:=fun n=>ev_lim (ev_isNaN n)
  refine call_of_wp zt2 rfl ?_
  repeat (first|apply wp_as|apply wp_ss|refine wr (by simp [e1];with_reducible rfl) ?_|refine wq (by simp [e1];with_reducible rfl) ?_|refine wt (by simpa [e1]) ?_|refine wf (by simpa [e1]) ?_|refine xt (by simpa [e1]) ?_|refine xf (by simpa [e1]) ?_|apply wp_bs|apply wp_b|refine wp_sr ?_|refine wp_sx ?_|refine wp_ret' ?_|refine wp_skip' ?_|refine wp_exit' ?_)
  simp [zi2]
theorem app_get1 {A Z:List Int} {a x:Int}:(A++a::x::Z)[A.length+1]? = some x:=by
  rw [List.getElem?_append_right (by omega)];simp
theorem app_get0 {A Z:List Int} {a:Int}:(A++a::Z)[A.length]? = some a:=by
  rw [List.getElem?_append_right (by omega)];simp
theorem app_set {A Z:List Int} {a x:Int}:((A++a::x::Z).set (A.length+1) a).set A.length x=A++x::a::Z:=by
  rw [List.set_append_right _ _ (by omega),List.set_append_right _ _ (by omega)]
  simp
theorem insl (n i:Int) (x:Int) (rest:List Int) (M:List Boxes):∀ (k:Nat) (A B:List Int),A.length=k→k+B.length+rest.length≤2000000 →
    wp tb (.loop z86l6) { T:=[(0,O (A++x::(B++rest))),(1,I 0),(2,I n),(6,I i),(7,I k)],loc:=[],M:=M }
      (fun ex st=>ex=.exit 2∧∃ k':Int,st={ T:=[(0,O (insR x A.reverse B++rest)),(1,I 0),(2,I n),(6,I i),(7,I k'),(30,Bo false)],loc:=[],M:=M }):=by
  have e1:=fun a b=>ev_lim (ev_Less a b)
  intro k
  induction k with
  | zero =>
    intro A B hA hl
    have:A=[]:=List.length_eq_zero_iff.1 hA
    subst this
    refine wp_loop ?_
    repeat (first|apply wp_as|apply wp_ss|refine wr (by simp;with_reducible rfl) ?_|refine wq (by simp;with_reducible rfl) ?_|refine wt (by simpa) ?_|refine wf (by simpa) ?_|refine xt (by simpa) ?_|refine xf (by simpa) ?_|apply wp_bs|apply wp_b|refine wp_sr ?_|refine wp_sx ?_|refine wp_ret' ?_|refine wp_skip' ?_|refine wp_exit' ?_)
    exact ⟨rfl,_,by simp [insR];rfl⟩
  | succ k ih =>
    intro A B hA hl
    obtain ⟨A',a,rfl⟩:∃ A' a,A=A'++[a]:=⟨A.dropLast,A.getLast (by intro h;subst h;simp at hA),(List.dropLast_concat_getLast _).symm⟩
    have hA':A'.length=k:=by simpa using hA
    subst hA'
    have w1:IntKind.i64.wrap (A'.length:Int)=(A'.length:Int):=wrapN (by omega)
    have w2:(0:Int) < (A'.length:Int)+1:=by omega
    simp only [List.append_assoc,List.singleton_append]
    by_cases hx:x < a
    · refine wp_loop ?_
      repeat (first|apply wp_as|apply wp_ss|refine wr (by simp [e1,hx,w1,w2,app_get0,app_get1,app_set];with_reducible rfl) ?_|refine wq (by simp [e1,hx,w1,w2,app_get0,app_get1,app_set];with_reducible rfl) ?_|refine wt (by simpa [e1,hx,w1,w2,app_get0,app_get1,app_set]) ?_|refine wf (by simpa [e1,hx,w1,w2,app_get0,app_get1,app_set]) ?_|refine xt (by simpa [e1,hx,w1,w2,app_get0,app_get1,app_set]) ?_|refine xf (by simpa [e1,hx,w1,w2,app_get0,app_get1,app_set]) ?_|apply wp_bs|apply wp_b|refine wp_sr ?_|refine wp_sx ?_|refine wp_ret' ?_|refine wp_skip' ?_|refine wp_exit' ?_)
      have:=ih A' (a::B) rfl (by simp;omega)
      simp only [List.cons_append,List.reverse_append,List.reverse_cons,List.reverse_nil,List.nil_append] at this ⊢
      simp only [insR,hx,if_true]
      exact this
    · refine wp_loop ?_
      repeat (first|apply wp_as|apply wp_ss|refine wr (by simp [e1,hx,w1,w2,app_get0,app_get1,app_set];with_reducible rfl) ?_|refine wq (by simp [e1,hx,w1,w2,app_get0,app_get1,app_set];with_reducible rfl) ?_|refine wt (by simpa [e1,hx,w1,w2,app_get0,app_get1,app_set]) ?_|refine wf (by simpa [e1,hx,w1,w2,app_get0,app_get1,app_set]) ?_|refine xt (by simpa [e1,hx,w1,w2,app_get0,app_get1,app_set]) ?_|refine xf (by simpa [e1,hx,w1,w2,app_get0,app_get1,app_set]) ?_|apply wp_bs|apply wp_b|refine wp_sr ?_|refine wp_sx ?_|refine wp_ret' ?_|refine wp_skip' ?_|refine wp_exit' ?_)
      refine ⟨rfl,((A'.length+1:Nat):Int),?_⟩
      simp only [List.reverse_append,List.reverse_cons,List.reverse_nil,List.nil_append,List.cons_append]
      simp only [insR,hx,if_false,List.reverse_reverse,List.append_assoc,List.cons_append]
      rfl
theorem insr_len (x:Int) (S:List Int):(insR x S.reverse []).length=S.length+1:=by
  have:=(insR_perm x S.reverse []).length_eq
  simpa using this
theorem sortl (M:List Boxes) (n:Int):∀ (r S:List Int),n=(S.length+r.length:Nat)→S.length+r.length≤2000000 →
    wp tb (.loop z86l8) { T:=[(0,O (S++r)),(1,I 0),(2,I n),(6,I S.length)],loc:=[],M:=M }
      (fun ex st=>ex=.exit 0∧∃ k':Int,st={ T:=[(0,O (asc 0 S r)),(1,I 0),(2,I n),(6,I k'),(12,Bo false)],loc:=[],M:=M }):=by
  intro r
  induction r with
  | nil =>
    intro S hn hl
    refine wp_loop ?_
    have h1:¬ (S.length:Int) < n:=by simp at hn;omega
    repeat (first|apply wp_as|apply wp_ss|refine wr (by simp [h1];with_reducible rfl) ?_|refine wq (by simp [h1];with_reducible rfl) ?_|refine wt (by simpa [h1]) ?_|refine wf (by simpa [h1]) ?_|refine xt (by simpa [h1]) ?_|refine xf (by simpa [h1]) ?_|apply wp_bs|apply wp_b|refine wp_sr ?_|refine wp_sx ?_|refine wp_ret' ?_|refine wp_skip' ?_|refine wp_exit' ?_)
    exact ⟨rfl,_,by simp [asc];rfl⟩
  | cons x r ih =>
    intro S hn hl
    refine wp_loop ?_
    simp only [List.length_cons] at hn hl
    have h1:(S.length:Int) < n:=by omega
    have w1:IntKind.i64.wrap ((S.length:Int)+1)=(S.length:Int)+1:=by rw [wrap64 (by omega) (by omega)]
    repeat (first|apply wp_as|apply wp_ss|refine wr (by simp [h1,w1];with_reducible rfl) ?_|refine wq (by simp [h1,w1];with_reducible rfl) ?_|refine wt (by simpa [h1,w1]) ?_|refine wf (by simpa [h1,w1]) ?_|refine xt (by simpa [h1,w1]) ?_|refine xf (by simpa [h1,w1]) ?_|apply wp_bs|apply wp_b|refine wp_sr ?_|refine wp_sx ?_|refine wp_ret' ?_|refine wp_skip' ?_|refine wp_exit' ?_)
    refine wp_imp (insl n S.length x r M S.length S [] rfl (by simp;omega)) ?_
    rintro ex st ⟨rfl,k',rfl⟩
    simp only [if_true]
    repeat (first|apply wp_as|apply wp_ss|refine wr (by simp [h1,w1];with_reducible rfl) ?_|refine wq (by simp [h1,w1];with_reducible rfl) ?_|refine wt (by simpa [h1,w1]) ?_|refine wf (by simpa [h1,w1]) ?_|refine xt (by simpa [h1,w1]) ?_|refine xf (by simpa [h1,w1]) ?_|apply wp_bs|apply wp_b|refine wp_sr ?_|refine wp_sx ?_|refine wp_ret' ?_|refine wp_skip' ?_|refine wp_exit' ?_)
    have:=ih (insR x S.reverse []) (by rw [insr_len];omega) (by rw [insr_len];omega)
    rw [insr_len] at this
    exact this
theorem ev_insertionSort (xs:List Int) (hl:xs.length≤1000) (M:List Boxes) :
    Ev tb zl86 [0] [O xs,I 0,I xs.length] M ⟨.tup [],[O (asc 0 [] xs)],M,[]⟩:=by
  refine call_of_wp zt86 rfl ?_
  repeat (first|apply wp_as|apply wp_ss|refine wr (by simp;with_reducible rfl) ?_|refine wq (by simp;with_reducible rfl) ?_|refine wt (by simpa) ?_|refine wf (by simpa) ?_|refine xt (by simpa) ?_|refine xf (by simpa) ?_|apply wp_bs|apply wp_b|refine wp_sr ?_|refine wp_sx ?_|refine wp_ret' ?_|refine wp_skip' ?_|refine wp_exit' ?_)
  cases xs with
  | nil =>
    refine wp_loop ?_
    repeat (first|apply wp_as|apply wp_ss|refine wr (by simp;with_reducible rfl) ?_|refine wq (by simp;with_reducible rfl) ?_|refine wt (by simpa) ?_|refine wf (by simpa) ?_|refine xt (by simpa) ?_|refine xf (by simpa) ?_|apply wp_bs|apply wp_b|refine wp_sr ?_|refine wp_sx ?_|refine wp_ret' ?_|refine wp_skip' ?_|refine wp_exit' ?_)
    simp [zi86,asc]
  | cons x r =>
    simp only [List.length_cons] at hl
    refine wp_imp (sortl M _ r [x] (by simp;omega) (by simp;omega)) ?_
    rintro ex st ⟨rfl,k',rfl⟩
    simp [zi86,asc,insR]
theorem ev_pdqsort (xs:List Int) (hl:xs.length≤12) (k:Int) (M:List Boxes) :
    Ev tb zl101 [0] [O xs,I 0,I xs.length,I k] M ⟨.tup [],[O (asc 0 [] xs)],M,[]⟩:=by
  have e1:=ev_lim (ev_insertionSort xs (by omega) (M++[[]]))
  have w1:IntKind.i64.wrap (xs.length:Int)=(xs.length:Int):=wrapN (by omega)
  refine call_of_wp zt101 rfl ?_
  repeat (first|apply wp_as|apply wp_ss|refine wr (by simp;with_reducible rfl) ?_|refine wq (by simp;with_reducible rfl) ?_|refine wt (by simpa) ?_|refine wf (by simpa) ?_|refine xt (by simpa) ?_|refine xf (by simpa) ?_|apply wp_bs|apply wp_b|refine wp_sr ?_|refine wp_sx ?_|refine wp_ret' ?_|refine wp_skip' ?_|refine wp_exit' ?_)
  refine wp_loop ?_
  have h:(xs.length:Int)≤12:=by omega
  repeat (first|apply wp_as|apply wp_ss|refine wr (by simp [e1,w1,hl,h];with_reducible rfl) ?_|refine wq (by simp [e1,w1,hl,h];with_reducible rfl) ?_|refine wt (by simpa [e1,w1,hl,h]) ?_|refine wf (by simpa [e1,w1,hl,h]) ?_|refine xt (by simpa [e1,w1,hl,h]) ?_|refine xf (by simpa [e1,w1,hl,h]) ?_|apply wp_bs|apply wp_b|refine wp_sr ?_|refine wp_sx ?_|refine wp_ret' ?_|refine wp_skip' ?_|refine wp_exit' ?_)
  simp [zi101]
theorem len_r (cf:CF) (n:Int) (m:Nat) (g:ByteArray) (hw:IntKind.u8.wrap n=(m:Int)) (hb:(g[m]?).isSome=true) :
    ∃ k st,execOps cf { T:=[(0,.sc (.int .u64 n)),(2,I 0),(14,Bo false)],loc:=[],M:=[] } [⟨some 19,none,.mv (.t 2)⟩,⟨some 20,none,.mv (.t 0)⟩,⟨some 21,none,.conv .u8 (.t 20)⟩,⟨some 22,none,.idxs (.c (.string g)) (.t 21)⟩,⟨some 23,none,.conv .i64 (.t 22)⟩,⟨some 24,none,.bin .add (.t 19) (.t 23)⟩,⟨some 2,none,.asg (.t 24)⟩]=some st∧st.cut [2]={ T:=[(2,I k)],loc:=[],M:=[] }:=by
  obtain ⟨b,hb⟩:=Option.isSome_iff_exists.1 hb
  refine ⟨_,_,by simp [hw,hb];rfl,by simp;rfl⟩
set_option maxRecDepth 100000 in
theorem ev_Len64 (n:Nat) (hn:n≤12):∃ k:Int,Ev tb zl68 [] [.sc (.int .u64 n)] [] ⟨I k,[],[],[]⟩:=by
  have w8:IntKind.u8.wrap (n:Int)=(n:Int):=by
    have:n=0 ∨ n=1 ∨ n=2 ∨ n=3 ∨ n=4 ∨ n=5 ∨ n=6 ∨ n=7 ∨ n=8 ∨ n=9 ∨ n=10 ∨ n=11 ∨ n=12:=by omega
    rcases this with rfl | rfl | rfl | rfl | rfl | rfl | rfl | rfl | rfl | rfl | rfl | rfl | rfl <;> rfl
  have key:∃ k:Int,∃ st,execOps (limF tb) { T:=[(0,.sc (.int .u64 n)),(2,I 0),(14,Bo false)],loc:=[],M:=[] } (match z68r10 with | .reg ops _ _=>ops | _=>[])=some st∧st.cut [2]={ T:=[(2,I k)],loc:=[],M:=[] }:=by
    have:n=0 ∨ n=1 ∨ n=2 ∨ n=3 ∨ n=4 ∨ n=5 ∨ n=6 ∨ n=7 ∨ n=8 ∨ n=9 ∨ n=10 ∨ n=11 ∨ n=12:=by omega
    rcases this with rfl | rfl | rfl | rfl | rfl | rfl | rfl | rfl | rfl | rfl | rfl | rfl | rfl
    all_goals
      refine len_r (limF tb) _ _ _ w8 ?_
      rfl
  obtain ⟨k,st,h1,h2⟩:=key
  have g1:¬ (4294967296:Int)≤n:=by omega
  have g2:¬ (65536:Int)≤n:=by omega
  have g3:¬ (256:Int)≤n:=by omega
  refine ⟨k,?_⟩
  refine call_of_wp zt68 rfl ?_
  iterate 4 ((first|refine wp_as ?_|skip);refine wp_rs (by simp [g1,g2,g3];rfl) (by simp;rfl) ?_;(first|refine wp_ct (t:=false) (by simp) (by simp) (fun _=>?_)|skip);(first|refine wp_ss ?_|skip))
  refine wp_rs h1 h2 ?_
  refine wp_ret' ?_
  simp [zi68]
theorem ev_Len (n:Nat) (hn:n≤12):∃ k:Int,Ev tb zl66 [] [.sc (.int .u64 n)] [] ⟨I k,[],[],[]⟩:=by
  obtain ⟨k,hk⟩:=ev_Len64 n hn
  have e1:=ev_lim hk
  refine ⟨k,?_⟩
  refine call_of_wp zt66 rfl ?_
  repeat (first|apply wp_as|apply wp_ss|refine wr (by simp [e1];with_reducible rfl) ?_|refine wq (by simp [e1];with_reducible rfl) ?_|refine wt (by simpa [e1]) ?_|refine wf (by simpa [e1]) ?_|refine xt (by simpa [e1]) ?_|refine xf (by simpa [e1]) ?_|apply wp_bs|apply wp_b|refine wp_sr ?_|refine wp_sx ?_|refine wp_ret' ?_|refine wp_skip' ?_|refine wp_exit' ?_)
  simp [zi66]
theorem wrapU {n:Nat} (h:n < 2000000):IntKind.u64.wrap (n:Int)=(n:Int):=by
  have e1:(2:Int) ^ IntKind.u64.bits=18446744073709551616:=by decide
  have e3:IntKind.u64.signed=false:=rfl
  unfold IntKind.wrap
  rw [e1,e3]
  simp
  omega
theorem ev_Sort (xs:List Int) (hl:xs.length≤12) (M:List Boxes) :
    Ev tb zl78 [0] [O xs] M ⟨.tup [],[O (asc 0 [] xs)],M,[]⟩:=by
  obtain ⟨k,hk⟩:=ev_Len xs.length hl
  have e1:=ev_lim hk
  have e2:=ev_lim (ev_pdqsort xs hl k (M++[[]]))
  have w1:=@wrapU xs.length (by omega)
  refine call_of_wp zt78 rfl ?_
  repeat (first|apply wp_as|apply wp_ss|refine wr (by simp [e1,e2,w1];with_reducible rfl) ?_|refine wq (by simp [e1,e2,w1];with_reducible rfl) ?_|refine wt (by simpa [e1,e2,w1]) ?_|refine wf (by simpa [e1,e2,w1]) ?_|refine xt (by simpa [e1,e2,w1]) ?_|refine xf (by simpa [e1,e2,w1]) ?_|apply wp_bs|apply wp_b|refine wp_sr ?_|refine wp_sx ?_|refine wp_ret' ?_|refine wp_skip' ?_|refine wp_exit' ?_)
  simp [zi78]
end Go.Idl
namespace Go.Idl
open Go
theorem natOf_add2 {k:IntKind} {a b:Nat}:natOf (.sc (.int k ((a:Int)+(b:Int)+1)))=some (a+b+1):=natOf_nat (n:=a+b+1)
theorem rv_get {A m B:List Int} {x y:Int}:(A++x::(m++y::B))[A.length+m.length+1]? = some y:=by
  rw [List.getElem?_append_right (by omega),show A.length+m.length+1 - A.length=m.length+1 by omega,List.getElem?_cons_succ,List.getElem?_append_right (by omega)];simp
theorem rv_getE {A m B:List Int} {x y:Int} {h}:(A++x::(m++y::B))[A.length+m.length+1]'h=y:=by
  have:=@rv_get A m B x y
  rw [List.getElem?_eq_getElem h] at this
  exact Option.some.inj this
theorem rv_set {A m B:List Int} {v x y:Int}:(A++v::(m++y::B)).set (A.length+m.length+1) x=A++v::(m++x::B):=by
  rw [List.set_append_right _ _ (by omega)]
  simp [show A.length+m.length+1 - A.length=m.length+1 by omega]
theorem revl (M:List Boxes):∀ (k:Nat) (A m B:List Int),m.length≤k→A.length+m.length+B.length≤2000000 →
    wp tb (.loop z76l4) { T:=[(0,O (A++(m++B))),(2,I A.length),(3,I ((A.length:Int)+m.length - 1))],loc:=[],M:=M }
      (fun ex st=>ex=.exit 0∧∃ a b:Int,st={ T:=[(0,O (A++(m.reverse++B))),(2,I a),(3,I b),(9,Bo false)],loc:=[],M:=M }):=by
  intro k
  induction k with
  | zero =>
    intro A m B hk hl
    have:m=[]:=List.length_eq_zero_iff.1 (by omega)
    subst this
    refine wp_loop ?_
    have h:¬ ((A.length:Int) < A.length - 1):=by omega
    repeat (first|apply wp_as|apply wp_ss|refine wr (by simp [h];with_reducible rfl) ?_|refine wq (by simp [h];with_reducible rfl) ?_|refine wt (by simpa [h]) ?_|refine wf (by simpa [h]) ?_|refine xt (by simpa [h]) ?_|refine xf (by simpa [h]) ?_|apply wp_bs|apply wp_b|refine wp_sr ?_|refine wp_sx ?_|refine wp_ret' ?_|refine wp_skip' ?_|refine wp_exit' ?_)
    exact ⟨rfl,_,_,rfl⟩
  | succ k ih =>
    intro A m B hk hl
    match m,hk,hl with
    | [],hk,hl =>
      refine wp_loop ?_
      have h:¬ ((A.length:Int) < A.length - 1):=by omega
      repeat (first|apply wp_as|apply wp_ss|refine wr (by simp [h];with_reducible rfl) ?_|refine wq (by simp [h];with_reducible rfl) ?_|refine wt (by simpa [h]) ?_|refine wf (by simpa [h]) ?_|refine xt (by simpa [h]) ?_|refine xf (by simpa [h]) ?_|apply wp_bs|apply wp_b|refine wp_sr ?_|refine wp_sx ?_|refine wp_ret' ?_|refine wp_skip' ?_|refine wp_exit' ?_)
      exact ⟨rfl,_,_,rfl⟩
    | [x],hk,hl =>
      refine wp_loop ?_
      repeat (first|apply wp_as|apply wp_ss|refine wr (by simp;with_reducible rfl) ?_|refine wq (by simp;with_reducible rfl) ?_|refine wt (by simpa) ?_|refine wf (by simpa) ?_|refine xt (by simpa) ?_|refine xf (by simpa) ?_|apply wp_bs|apply wp_b|refine wp_sr ?_|refine wp_sx ?_|refine wp_ret' ?_|refine wp_skip' ?_|refine wp_exit' ?_)
      exact ⟨rfl,_,_,rfl⟩
    | x::z::m',hk,hl =>
      obtain ⟨m,y,hm⟩:∃ m y,z::m'=m++[y]:=⟨(z::m').dropLast,(z::m').getLast (by simp),(List.dropLast_concat_getLast _).symm⟩
      rw [hm] at hk hl ⊢
      simp only [List.length_cons,List.length_append,List.length_nil] at hk hl
      have hj:(A.length:Int)+(x::(m++[y])).length - 1=(A.length:Int)+m.length+1:=by simp;omega
      rw [hj]
      simp only [List.cons_append,List.append_assoc,List.nil_append]
      refine wp_loop ?_
      have h:(A.length:Int) < A.length+m.length+1:=by omega
      have h2:A.length < A.length+(m.length+(B.length+1)+1):=by omega
      have h3:A.length+m.length+1 < A.length+(m.length+(B.length+1)+1):=by omega
      have w1:IntKind.i64.wrap ((A.length:Int)+1)=((A++[y]).length:Int):=by rw [wrap64 (by omega) (by omega)];simp
      have w2:IntKind.i64.wrap ((A.length:Int)+m.length)=((A++[y]).length:Int)+m.length - 1:=by rw [wrap64 (by omega) (by omega)];simp;omega
      repeat (first|apply wp_as|apply wp_ss|refine wr (by simp [h,h2,h3,w1,w2,rv_get,rv_getE,rv_set,natOf_add2,app_get0];with_reducible rfl) ?_|refine wq (by simp [h,h2,h3,w1,w2,rv_get,rv_getE,rv_set,natOf_add2,app_get0];with_reducible rfl) ?_|refine wt (by simpa [h,h2,h3,w1,w2,rv_get,rv_getE,rv_set,natOf_add2,app_get0]) ?_|refine wf (by simpa [h,h2,h3,w1,w2,rv_get,rv_getE,rv_set,natOf_add2,app_get0]) ?_|refine xt (by simpa [h,h2,h3,w1,w2,rv_get,rv_getE,rv_set,natOf_add2,app_get0]) ?_|refine xf (by simpa [h,h2,h3,w1,w2,rv_get,rv_getE,rv_set,natOf_add2,app_get0]) ?_|apply wp_bs|apply wp_b|refine wp_sr ?_|refine wp_sx ?_|refine wp_ret' ?_|refine wp_skip' ?_|refine wp_exit' ?_)
      have:=ih (A++[y]) m (x::B) (by omega) (by simp;omega)
      simp at this ⊢
      exact this
theorem ev_Reverse (xs:List Int) (hl:xs.length≤2000000) (M:List Boxes) :
    Ev tb zl76 [0] [O xs] M ⟨.tup [],[O xs.reverse],M,[]⟩:=by
  have w1:IntKind.i64.wrap ((xs.length:Int) - 1)=(xs.length:Int) - 1:=wrap64 (by omega) (by omega)
  refine call_of_wp zt76 rfl ?_
  repeat (first|apply wp_as|apply wp_ss|refine wr (by simp [w1];with_reducible rfl) ?_|refine wq (by simp [w1];with_reducible rfl) ?_|refine wt (by simpa [w1]) ?_|refine wf (by simpa [w1]) ?_|refine xt (by simpa [w1]) ?_|refine xf (by simpa [w1]) ?_|apply wp_bs|apply wp_b|refine wp_sr ?_|refine wp_sx ?_|refine wp_ret' ?_|refine wp_skip' ?_|refine wp_exit' ?_)
  have:=revl M xs.length [] xs [] (by omega) (by simp;omega)
  simp at this
  refine wp_imp this ?_
  rintro ex st ⟨rfl,a,b,rfl⟩
  simp [zi76]
theorem ev_falling (xs:List Int) (c:Bool) (hl:xs.length≤12) :
    Ev tb zl37 [] [L xs c] [] ⟨O (fall xs),[],[],[]⟩:=by
  have e1:=ev_lim (ev_clone xs c (by omega))
  have e2:=ev_lim (ev_Sort xs hl [[]])
  have e3:=ev_lim (ev_Reverse (asc 0 [] xs) (by rw [asc_len];omega) [[]])
  refine call_of_wp zt37 rfl ?_
  repeat (first|apply wp_as|apply wp_ss|refine wr (by simp [e1,e2,e3,asc_rev];with_reducible rfl) ?_|refine wq (by simp [e1,e2,e3,asc_rev];with_reducible rfl) ?_|refine wt (by simpa [e1,e2,e3,asc_rev]) ?_|refine wf (by simpa [e1,e2,e3,asc_rev]) ?_|refine xt (by simpa [e1,e2,e3,asc_rev]) ?_|refine xf (by simpa [e1,e2,e3,asc_rev]) ?_|apply wp_bs|apply wp_b|refine wp_sr ?_|refine wp_sx ?_|refine wp_ret' ?_|refine wp_skip' ?_|refine wp_exit' ?_)
  simp [zi37]
theorem drop_get {xs:List Int} {i m:Nat} (h:i+(m+1)=xs.length):∃ h:i < xs.length,xs.drop i=xs[i]::xs.drop (i+1)∧xs[i] ∈ xs:=by
  have hi:i < xs.length:=by omega
  exact ⟨hi,List.drop_eq_getElem_cons hi,List.getElem_mem hi⟩
theorem drop_end {xs:List Int} {i:Nat} (h:i+0=xs.length):xs[i]? = none∧xs.drop i=[]:=by
  have:i=xs.length:=by omega
  subst this
  simp
def idx (p:Int→Bool):Int→List Int→Int
  | _,[]=>-1
  | i,x::r=>if p x then i else idx p (i+1) r
theorem ev_IndexFunc (xs:List Int) (c:Bool) (F:Lab) (caps:List IV) (M:List Boxes) (p:Int→Bool) (hl:xs.length≤2000000)
    (hp:∀ x ∈ xs,Ev tb F [] (I x::caps) (M++[[]]) ⟨Bo (p x),[],M++[[]],[]⟩) :
    Ev tb zl73 [] [L xs c,.fn F caps] M ⟨I (idx p 0 xs),[],M,[]⟩:=by
  have loop:∀ (m i:Nat),i+m=xs.length→wp tb (.loop z73l7) { T:=[(0,L xs c),(1,.fn F caps),(7,I xs.length),(8,I i)],loc:=[],M:=M }
      (fun ex st=>(ex=.exit 0∧idx p i (xs.drop i)=-1∧st={ T:=[(0,L xs c),(1,.fn F caps),(7,I xs.length),(8,I xs.length),(9,Bo false)],loc:=[],M:=M }) ∨
        ex=.ret∧st={ T:=[(4,I (idx p i (xs.drop i)))],loc:=[],M:=M }):=by
    intro m
    induction m with
    | zero =>
      intro i hi
      obtain ⟨h1,h2⟩:=drop_end hi
      have h3:i=xs.length:=hi
      subst h3
      refine wp_loop ?_
      repeat (first|apply wp_as|apply wp_ss|refine wr (by simp;with_reducible rfl) ?_|refine wq (by simp;with_reducible rfl) ?_|refine wt (by simpa) ?_|refine wf (by simpa) ?_|refine xt (by simpa) ?_|refine xf (by simpa) ?_|apply wp_bs|apply wp_b|refine wp_sr ?_|refine wp_sx ?_|refine wp_ret' ?_|refine wp_skip' ?_|refine wp_exit' ?_)
      refine .inl ⟨rfl,by rw [h2];rfl,rfl⟩
    | succ m ih =>
      intro i hi
      obtain ⟨hi2,h2,h3⟩:=drop_get hi
      have e1:=ev_lim (hp _ h3)
      have w1:IntKind.i64.wrap ((i:Int)+1)=((i+1:Nat):Int):=wrapS (by omega)
      rw [h2]
      cases hpx:p xs[i] with
      | true =>
        refine wp_loop ?_
        repeat (first|apply wp_as|apply wp_ss|refine wr (by simp [e1,hi2,w1,hpx];with_reducible rfl) ?_|refine wq (by simp [e1,hi2,w1,hpx];with_reducible rfl) ?_|refine wt (by simpa [e1,hi2,w1,hpx]) ?_|refine wf (by simpa [e1,hi2,w1,hpx]) ?_|refine xt (by simpa [e1,hi2,w1,hpx]) ?_|refine xf (by simpa [e1,hi2,w1,hpx]) ?_|apply wp_bs|apply wp_b|refine wp_sr ?_|refine wp_sx ?_|refine wp_ret' ?_|refine wp_skip' ?_|refine wp_exit' ?_)
        refine .inr ⟨rfl,by simp [idx,hpx]⟩
      | false =>
        refine wp_loop ?_
        repeat (first|apply wp_as|apply wp_ss|refine wr (by simp [e1,hi2,w1,hpx];with_reducible rfl) ?_|refine wq (by simp [e1,hi2,w1,hpx];with_reducible rfl) ?_|refine wt (by simpa [e1,hi2,w1,hpx]) ?_|refine wf (by simpa [e1,hi2,w1,hpx]) ?_|refine xt (by simpa [e1,hi2,w1,hpx]) ?_|refine xf (by simpa [e1,hi2,w1,hpx]) ?_|apply wp_bs|apply wp_b|refine wp_sr ?_|refine wp_sx ?_|refine wp_ret' ?_|refine wp_skip' ?_|refine wp_exit' ?_)
        have:=ih (i+1) (by omega)
        simp only [idx,hpx] at this ⊢
        exact this
  refine call_of_wp zt73 rfl ?_
  repeat (first|apply wp_as|apply wp_ss|refine wr (by simp;with_reducible rfl) ?_|refine wq (by simp;with_reducible rfl) ?_|refine wt (by simpa) ?_|refine wf (by simpa) ?_|refine xt (by simpa) ?_|refine xf (by simpa) ?_|apply wp_bs|apply wp_b|refine wp_sr ?_|refine wp_sx ?_|refine wp_ret' ?_|refine wp_skip' ?_|refine wp_exit' ?_)
  refine wp_imp (loop xs.length 0 (by simp)) ?_
  rintro ex st (⟨rfl,h,rfl⟩ | ⟨rfl,rfl⟩)
  · simp only [if_true]
    repeat (first|apply wp_as|apply wp_ss|refine wr (by simp;with_reducible rfl) ?_|refine wq (by simp;with_reducible rfl) ?_|refine wt (by simpa) ?_|refine wf (by simpa) ?_|refine xt (by simpa) ?_|refine xf (by simpa) ?_|apply wp_bs|apply wp_b|refine wp_sr ?_|refine wp_sx ?_|refine wp_ret' ?_|refine wp_skip' ?_|refine wp_exit' ?_)
    simp at h
    simp [zi73,h]
  · simp [zi73]
end Go.Idl
namespace Go.Idl
open Go
theorem ev_allIn_F1 (x lo hi:Int):Ev tb zl30 [] [I x,.bptr 0 0 0,.bptr 0 1 0] [[[I lo],[I hi]],[],[]] ⟨Bo (!(decide (lo≤x) && decide (x≤hi))),[],[[[I lo],[I hi]],[],[]],[]⟩:=by
  have e1:=ev_lim (ev_in x lo hi)
  refine call_of_wp zt30 rfl ?_
  repeat (first|apply wp_as|apply wp_ss|refine wr (by simp [e1];with_reducible rfl) ?_|refine wq (by simp [e1];with_reducible rfl) ?_|refine wt (by simpa [e1]) ?_|refine wf (by simpa [e1]) ?_|refine xt (by simpa [e1]) ?_|refine xf (by simpa [e1]) ?_|apply wp_bs|apply wp_b|refine wp_sr ?_|refine wp_sx ?_|refine wp_ret' ?_|refine wp_skip' ?_|refine wp_exit' ?_)
  simp [zi30]
theorem ev_ContainsFunc (xs:List Int) (c:Bool) (F:Lab) (caps:List IV) (M:List Boxes) (p:Int→Bool) (hl:xs.length≤2000000)
    (hp:∀ x ∈ xs,Ev tb F [] (I x::caps) (M++[[],[]]) ⟨Bo (p x),[],M++[[],[]],[]⟩) :
    Ev tb zl72 [] [L xs c,.fn F caps] M ⟨Bo (decide (0≤idx p 0 xs)),[],M,[]⟩:=by
  have e1:=ev_lim (ev_IndexFunc xs c F caps (M++[[]]) p hl (by simpa using hp))
  refine call_of_wp zt72 rfl ?_
  repeat (first|apply wp_as|apply wp_ss|refine wr (by simp [e1];with_reducible rfl) ?_|refine wq (by simp [e1];with_reducible rfl) ?_|refine wt (by simpa [e1]) ?_|refine wf (by simpa [e1]) ?_|refine xt (by simpa [e1]) ?_|refine xf (by simpa [e1]) ?_|apply wp_bs|apply wp_b|refine wp_sr ?_|refine wp_sx ?_|refine wp_ret' ?_|refine wp_skip' ?_|refine wp_exit' ?_)
  simp [zi72]
theorem idx_ge (p:Int→Bool):∀ (xs:List Int) (i:Int),0≤i→(decide (0≤idx p i xs)=xs.any p)
  | [],i,h=>by simp [idx]
  | x::r,i,h=>by
    unfold idx
    cases hp:p x with
    | true=>simp [hp,h]
    | false=>simp [hp];simpa using idx_ge p r (i+1) (by omega)
theorem ev_allIn (xs:List Int) (c:Bool) (lo hi:Int) (hl:xs.length≤2000000) :
    Ev tb zl29 [] [L xs c,I lo,I hi] [] ⟨Bo (xs.all fun x=>decide (lo≤x) && decide (x≤hi)),[],[],[]⟩:=by
  have e1:=ev_lim (ev_ContainsFunc xs c zl30 [.bptr 0 0 0,.bptr 0 1 0] [[[I lo],[I hi]]] _ hl (fun x _=>ev_allIn_F1 x lo hi))
  refine call_of_wp zt29 rfl ?_
  repeat (first|apply wp_as|apply wp_ss|refine wr (by simp [e1,idx_ge];with_reducible rfl) ?_|refine wq (by simp [e1,idx_ge];with_reducible rfl) ?_|refine wt (by simpa [e1,idx_ge]) ?_|refine wf (by simpa [e1,idx_ge]) ?_|refine xt (by simpa [e1,idx_ge]) ?_|refine xf (by simpa [e1,idx_ge]) ?_|apply wp_bs|apply wp_b|refine wp_sr ?_|refine wp_sx ?_|refine wp_ret' ?_|refine wp_skip' ?_|refine wp_exit' ?_)
  simp [zi29,List.all_eq_not_any_not]
theorem ev_copyInts (xs:List Int) (c:Bool) (hl:xs.length≤2000000):Ev tb zl123 [] [L xs c] [] ⟨O xs,[],[],[]⟩:=by
  refine call_of_wp zt123 rfl ?_
  repeat (first|apply wp_as|apply wp_ss|refine wr (by simp [show xs.length≤274877906944 by omega];with_reducible rfl) ?_|refine wq (by simp [show xs.length≤274877906944 by omega];with_reducible rfl) ?_|refine wt (by simpa [show xs.length≤274877906944 by omega]) ?_|refine wf (by simpa [show xs.length≤274877906944 by omega]) ?_|refine xt (by simpa [show xs.length≤274877906944 by omega]) ?_|refine xf (by simpa [show xs.length≤274877906944 by omega]) ?_|apply wp_bs|apply wp_b|refine wp_sr ?_|refine wp_sx ?_|refine wp_ret' ?_|refine wp_skip' ?_|refine wp_exit' ?_)
  simp [zi123]
end Go.Idl
namespace Go.Idl
open Go
def bytes (xs:List Int):List (List IV):=xs.map fun n=>[.sc (.int .u8 n)]
@[simp] theorem bytes_len (xs:List Int):(bytes xs).length=xs.length:=by simp [bytes]
@[simp] theorem bytes_take (xs:List Int) (n:Nat):(bytes xs).take n=bytes (xs.take n):=by simp [bytes,List.map_take]
@[simp] theorem bytes_get? (xs:List Int) (i:Nat):(bytes xs)[i]? = xs[i]?.map fun n=>[IV.sc (.int .u8 n)]:=by simp [bytes]
@[simp] theorem bytes_get (xs:List Int) (i:Nat) (h:i < (bytes xs).length):(bytes xs)[i]=[IV.sc (.int .u8 (xs[i]'(by simpa [bytes] using h)))]:=by simp [bytes]
@[simp] theorem bytes_emp (xs:List Int):(bytes xs).isEmpty=xs.isEmpty:=by cases xs <;> rfl
@[simp] theorem bytes_all1 (xs:List Int):((bytes xs).all fun x=>x.all IV.plain1)=true:=by
  induction xs with
  | nil=>rfl
  | cons x xs ih=>simp only [bytes,List.map_cons,List.all_cons] at *;rw [ih];rfl
@[simp] theorem bytes_all2 (xs:List Int):((bytes xs).all fun x=>x.all IV.isData)=true:=by
  induction xs with
  | nil=>rfl
  | cons x xs ih=>simp only [bytes,List.map_cons,List.all_cons] at *;rw [ih];rfl
@[simp] theorem bytes_noLst (xs:List Int):noLstLL (bytes xs)=true:=by
  induction xs with
  | nil=>rfl
  | cons x xs ih=>simp only [bytes,List.map_cons,noLstLL,noLstL,noLstV] at *;rw [ih];rfl
abbrev R (code:List Int) (c:Bool) (n:Int):List IV:=[.lst 1 (bytes code) c,I n]
end Go.Idl
namespace Go.Idl
open Go
def eds (xs:List (Int×Int)):List (List IV):=xs.map fun e=>[I e.1,I e.2]
abbrev O2 (xs:List (Int×Int)):IV:=.own 2 (eds xs)
@[simp] theorem eds_len (xs:List (Int×Int)):(eds xs).length=xs.length:=by simp [eds]
@[simp] theorem eds_nil:eds []=[]:=rfl
@[simp] theorem eds_take (xs:List (Int×Int)) (n:Nat):(eds xs).take n=eds (xs.take n):=by simp [eds,List.map_take]
@[simp] theorem eds_drop (xs:List (Int×Int)) (n:Nat):(eds xs).drop n=eds (xs.drop n):=by simp [eds,List.map_drop]
@[simp] theorem eds_app (xs ys:List (Int×Int)):eds xs++eds ys=eds (xs++ys):=by simp [eds]
@[simp] theorem eds_one (xs:List (Int×Int)) (a b:Int):eds xs++[[IV.sc (.int .i64 a),IV.sc (.int .i64 b)]]=eds (xs++[(a,b)]):=by simp [eds]
@[simp] theorem eds_get? (xs:List (Int×Int)) (i:Nat):(eds xs)[i]? = xs[i]?.map fun e=>[IV.sc (.int .i64 e.1),IV.sc (.int .i64 e.2)]:=by simp [eds]
@[simp] theorem eds_get (xs:List (Int×Int)) (i:Nat) (h:i < (eds xs).length):(eds xs)[i]=[IV.sc (.int .i64 (xs[i]'(by simpa [eds] using h)).1),IV.sc (.int .i64 (xs[i]'(by simpa [eds] using h)).2)]:=by simp [eds]
@[simp] theorem eds_emp (xs:List (Int×Int)):(eds xs).isEmpty=xs.isEmpty:=by cases xs <;> rfl
@[simp] theorem eds_set (xs:List (Int×Int)) (i:Nat) (a b:Int):(eds xs).set i [IV.sc (.int .i64 a),IV.sc (.int .i64 b)]=eds (xs.set i (a,b)):=by
  simp [eds,List.map_set]
@[simp] theorem eds_all1 (xs:List (Int×Int)):((eds xs).all fun x=>x.all IV.plain1)=true:=by
  induction xs with
  | nil=>rfl
  | cons x xs ih=>simp only [eds,List.map_cons,List.all_cons] at *;rw [ih];rfl
@[simp] theorem eds_all2 (xs:List (Int×Int)):((eds xs).all fun x=>x.all IV.isData)=true:=by
  induction xs with
  | nil=>rfl
  | cons x xs ih=>simp only [eds,List.map_cons,List.all_cons] at *;rw [ih];rfl
@[simp] theorem eds_noLst (xs:List (Int×Int)):noLstLL (eds xs)=true:=by
  induction xs with
  | nil=>rfl
  | cons x xs ih=>simp only [eds,List.map_cons,noLstLL,noLstL,noLstV] at *;rw [ih];rfl
@[simp] theorem frz_eds (xs:List (Int×Int)):frzLL (eds xs)=eds xs:=by
  induction xs with
  | nil=>rfl
  | cons x xs ih=>simp only [eds,List.map_cons,frzLL,frzL,frzV] at *;rw [ih]
def row (a b:Nat):Nat→List (Int×Int)
  | 0=>[]
  | m+1=>((a:Int),(b:Int))::row a (b+1) m
def isE (a b:Int) (e:Int×Int):Bool:=decide (e.1=a) && decide (e.2=b) || decide (e.1=b) && decide (e.2=a)
def has (es:List (Int×Int)) (a b:Int):Bool:=es.any (isE a b)
end Go.Idl
namespace Go.Idl
theorem sumB {B:Int} (hB:0≤B):∀ {xs:List Int},(∀ x ∈ xs,0≤x∧x≤B)→0≤xs.sum∧xs.sum≤B * xs.length
  | [],_=>by simp
  | x::r,h=>by
    have h1:=h x (by simp)
    have h2:=sumB hB (xs:=r) (fun y hy=>h y (by simp [hy]))
    have e:B * ((x::r).length:Int)=B * r.length+B:=by
      rw [List.length_cons,Int.natCast_add,Int.mul_add];simp
    rw [List.sum_cons,e]
    omega
def least (xs:List Int):Int:=xs.foldl (fun n x=>min n x) 0
theorem least_aux:∀ (xs:List Int) (n:Int),xs.foldl (fun n x=>min n x) n≤n∧((xs.foldl (fun n x=>min n x) n=n) ↔ ∀ x ∈ xs,n≤x)
  | [],n=>by simp
  | x::r,n=>by
    obtain ⟨h1,h2⟩:=least_aux r (min n x)
    simp only [List.foldl_cons,List.mem_cons,forall_eq_or_imp]
    by_cases hx:n≤x
    · rw [Int.min_eq_left hx] at h1 h2 ⊢
      exact ⟨h1,h2.trans ⟨fun h=>⟨hx,h⟩,fun h=>h.2⟩⟩
    · rw [Int.min_eq_right (by omega)] at h1 h2 ⊢
      exact ⟨by omega,⟨fun h=>by omega,fun h=>absurd h.1 hx⟩⟩
theorem least_zero (xs:List Int):least xs=0 ↔ ∀ x ∈ xs,0≤x:=(least_aux xs 0).2
end Go.Idl
namespace Go.Idl
open Go
abbrev Z:IV:=.lst 0 [] true
def Few (xs:List Int):Prop:=xs.length≤7∧∀ x ∈ xs,0≤x∧x≤6
theorem Few.small {xs:List Int} (h:Few xs):SmallSum xs:=by
  refine ⟨by have:=h.1;omega,fun k=>?_⟩
  have h1:=sumB (B:=6) (by omega) (xs:=xs.take k) (fun x hx=>h.2 x (List.mem_of_mem_take hx))
  have h2:(xs.take k).length≤7:=by have:=h.1;simp;omega
  omega
theorem Few.take {xs:List Int} (h:Few xs) (k:Nat):Few (xs.take k):=⟨by have:=h.1;simp;omega,fun x hx=>h.2 x (List.mem_of_mem_take hx)⟩
theorem Few.drop {xs:List Int} (h:Few xs) (k:Nat):Few (xs.drop k):=⟨by have:=h.1;simp;omega,fun x hx=>h.2 x (List.mem_of_mem_drop hx)⟩
theorem Few.fall {xs:List Int} (h:Few xs):Few (fall xs):=⟨by rw [fall_len];exact h.1,fun x hx=>h.2 x (fall_mem.1 hx)⟩
theorem Few.sum {xs:List Int} (h:Few xs):0≤xs.sum∧xs.sum≤42:=by
  have h1:=sumB (B:=6) (by omega) h.2
  have:=h.1
  omega
def mapR (n:Nat) (g:Nat→Int):List Int:=(List.range n).map g
theorem mapR_succ_set {n i:Nat} (g:Nat→Int) (h:i < n):(mapR i g++List.replicate (n - i) 0).set i (g i)=mapR (i+1) g++List.replicate (n - (i+1)) 0:=by
  have e:n - i=(n - (i+1))+1:=by omega
  rw [e,List.replicate_succ,List.set_append_right _ _ (by simp [mapR])]
  simp [mapR,List.range_succ]
@[simp] theorem ints_rep (n:Nat):List.replicate n [IV.sc (.int .i64 0)]=ints (List.replicate n 0):=by simp [ints]
theorem min_if (a b:Int):(if b < a then b else a)=min a b:=by split <;> omega
theorem min_if' (a b:Int):(if a < b then a else b)=min a b:=by split <;> omega
end Go.Idl
namespace Go.Idl
open Go
def Low (B:Int) (d:List Int):Prop:=∀ x ∈ d,-B≤x∧x≤B
theorem Low.set {B:Int} {d:List Int} (h:Low B d) {i:Nat} {x:Int} (hx:-B≤x∧x≤B):Low B (d.set i x):=by
  intro y hy
  rcases List.mem_or_eq_of_mem_set hy with hy | rfl
  · exact h y hy
  · exact hx
theorem Low.app {B:Int} {d:List Int} (h:Low B d) {x:Int} (hx:-B≤x∧x≤B):Low B (d++[x]):=by
  intro y hy
  rcases List.mem_append.1 hy with hy | hy
  · exact h y hy
  · simp at hy;subst hy;exact hx
theorem Low.mono {B C:Int} {d:List Int} (h:Low B d) (hc:B≤C):Low C d:=fun x hx=>by have:=h x hx;omega
end Go.Idl
namespace Go.Idl
open Go
def tab (t:List (List Int)):List (List IV):=t.map fun r=>[.lst 1 (ints r) false]
def oab (t:List (List Int)):List (List IV):=t.map fun r=>[.own 1 (ints r)]
abbrev TL (t:List (List Int)) (c:Bool:=false):IV:=.lst 1 (tab t) c
abbrev OT (t:List (List Int)):IV:=.own 1 (oab t)
@[simp] theorem tab_len (t:List (List Int)):(tab t).length=t.length:=by simp [tab]
@[simp] theorem oab_len (t:List (List Int)):(oab t).length=t.length:=by simp [oab]
@[simp] theorem oab_nil:oab []=[]:=rfl
@[simp] theorem tab_get? (t:List (List Int)) (i:Nat):(tab t)[i]? = t[i]?.map fun r=>[IV.lst 1 (ints r) false]:=by simp [tab]
@[simp] theorem tab_get (t:List (List Int)) (i:Nat) (h:i < (tab t).length):(tab t)[i]=[IV.lst 1 (ints (t[i]'(by simpa [tab] using h))) false]:=by simp [tab]
@[simp] theorem oab_get? (t:List (List Int)) (i:Nat):(oab t)[i]? = t[i]?.map fun r=>[IV.own 1 (ints r)]:=by simp [oab]
@[simp] theorem oab_get (t:List (List Int)) (i:Nat) (h:i < (oab t).length):(oab t)[i]=[IV.own 1 (ints (t[i]'(by simpa [oab] using h)))]:=by simp [oab]
@[simp] theorem oab_one (t:List (List Int)) (r:List Int):oab t++[[IV.own 1 (ints r)]]=oab (t++[r]):=by simp [oab]
@[simp] theorem oab_set (t:List (List Int)) (i:Nat) (r:List Int):(oab t).set i [IV.own 1 (ints r)]=oab (t.set i r):=by simp [oab,List.map_set]
@[simp] theorem oab_take (t:List (List Int)) (n:Nat):(oab t).take n=oab (t.take n):=by simp [oab,List.map_take]
@[simp] theorem frz_oab (t:List (List Int)):frzLL (oab t)=tab t:=by
  induction t with
  | nil=>rfl
  | cons x xs ih =>
    simp only [oab,tab,List.map_cons,frzLL,frzL,frzV] at *
    rw [ih]
    have:frzLL (ints x)=ints x:=by
      clear ih
      induction x with
      | nil=>rfl
      | cons y ys ih=>simp only [ints,List.map_cons,frzLL,frzL,frzV] at *;rw [ih]
    rw [this]
@[simp] theorem tab_all1 (t:List (List Int)):((tab t).all fun x=>x.all IV.plain1)=true:=by
  induction t with
  | nil=>rfl
  | cons x xs ih=>simp only [tab,List.map_cons,List.all_cons] at *;rw [ih];rfl
@[simp] theorem oab_noLst (t:List (List Int)):noLstLL (oab t)=true:=by
  induction t with
  | nil=>rfl
  | cons x xs ih =>
    simp only [oab,List.map_cons,noLstLL,noLstL,noLstV] at *
    rw [ih,ints_noLst];rfl
def g2 (t:List (List Int)) (a b:Nat):Int:=(t.getD a []).getD b 0
end Go.Idl
namespace Go.Idl
open Go
def Sq (t:List (List Int)):Prop:=∀ r ∈ t,r.length=t.length∧∀ x ∈ r,0≤x∧x≤1
def tAt (t:List (List Int)) (a b:Nat):Prop:=if a=b then g2 t a b=0 else g2 t a b+g2 t b a=1
def Tour (t:List (List Int)):Prop:=(1≤t.length∧t.length≤5)∧Sq t∧∀ a b:Nat,a < t.length→b < t.length→tAt t a b
theorem g2_eq {t:List (List Int)} {a b:Nat} (ha:a < t.length) (hb:b < t[a].length):g2 t a b=t[a][b]:=by
  simp [g2,List.getD_eq_getElem?_getD,List.getElem?_eq_getElem ha,List.getElem?_eq_getElem hb]
end Go.Idl
namespace Go.Idl
open Go
theorem insD_step {x:Int} {out:List Int} {k:Nat} (h:k < out.length) (hx:x≤out[k]) (hi:insD x out=out.take k++insD x (out.drop k)) :
    insD x out=out.take (k+1)++insD x (out.drop (k+1)):=by
  rw [List.drop_eq_getElem_cons h] at hi
  rw [hi,insD,if_pos hx,List.take_succ_eq_append_getElem h,List.append_assoc]
  rfl
theorem insD_stop {x:Int} {out:List Int} {k:Nat} (h:k < out.length) (hx:¬ x≤out[k]) (hi:insD x out=out.take k++insD x (out.drop k)) :
    insD x out=out.take k++x::out.drop k:=by
  rw [hi]
  conv=>lhs;rw [List.drop_eq_getElem_cons h]
  rw [insD,if_neg hx,← List.drop_eq_getElem_cons h]
theorem insD_end {x:Int} {out:List Int} {k:Nat} (h:k=out.length) (hi:insD x out=out.take k++insD x (out.drop k)) :
    insD x out=out.take k++x::out.drop k:=by
  rw [hi];subst h;simp [insD]
theorem sfall_in (xs out:List Int) (c:Bool) (i:Nat) (hi:i < xs.length) (ho:out.length≤2000000):∀ (m k:Nat),k+m=out.length→insD xs[i] out=out.take k++insD xs[i] (out.drop k) →
    wp tb (.loop z127l7) { T:=[(0,L xs c),(3,O out),(4,I i),(5,I k)],loc:=[],M:=[] }
      (fun ex st=>ex=.exit 2∧∃ k':Nat,k'≤out.length∧insD xs[i] out=out.take k'++xs[i]::out.drop k'∧st={ T:=[(0,L xs c),(3,O out),(4,I i),(5,I k'),(27,Bo false)],loc:=[],M:=[] }):=by
  intro m
  induction m with
  | zero =>
    intro k hk hinv
    have h3:k=out.length:=hk
    have h4:¬ k < out.length:=by omega
    refine wp_loop ?_
    repeat (first|apply wp_as|apply wp_ss|refine wr (by simp [h4];with_reducible rfl) ?_|refine wq (by simp [h4];with_reducible rfl) ?_|refine wt (by simpa [h4]) ?_|refine wf (by simpa [h4]) ?_|refine xt (by simpa [h4]) ?_|refine xf (by simpa [h4]) ?_|apply wp_bs|apply wp_b|refine wp_sr ?_|refine wp_sx ?_|refine wp_ret' ?_|refine wp_skip' ?_|refine wp_exit' ?_)
    exact ⟨rfl,k,by omega,insD_end h3 hinv,rfl⟩
  | succ m ih =>
    intro k hk hinv
    have hk2:k < out.length:=by omega
    have w1:IntKind.i64.wrap ((k:Int)+1)=((k+1:Nat):Int):=wrapS (by omega)
    by_cases hx:xs[i]≤out[k]
    · refine wp_loop ?_
      repeat (first|apply wp_as|apply wp_ss|refine wr (by simp [hk2,hx,hi,w1];with_reducible rfl) ?_|refine wq (by simp [hk2,hx,hi,w1];with_reducible rfl) ?_|refine wt (by simpa [hk2,hx,hi,w1]) ?_|refine wf (by simpa [hk2,hx,hi,w1]) ?_|refine xt (by simpa [hk2,hx,hi,w1]) ?_|refine xf (by simpa [hk2,hx,hi,w1]) ?_|apply wp_bs|apply wp_b|refine wp_sr ?_|refine wp_sx ?_|refine wp_ret' ?_|refine wp_skip' ?_|refine wp_exit' ?_)
      exact ih (k+1) (by omega) (insD_step hk2 hx hinv)
    · refine wp_loop ?_
      repeat (first|apply wp_as|apply wp_ss|refine wr (by simp [hk2,hx,hi,w1];with_reducible rfl) ?_|refine wq (by simp [hk2,hx,hi,w1];with_reducible rfl) ?_|refine wt (by simpa [hk2,hx,hi,w1]) ?_|refine wf (by simpa [hk2,hx,hi,w1]) ?_|refine xt (by simpa [hk2,hx,hi,w1]) ?_|refine xf (by simpa [hk2,hx,hi,w1]) ?_|apply wp_bs|apply wp_b|refine wp_sr ?_|refine wp_sx ?_|refine wp_ret' ?_|refine wp_skip' ?_|refine wp_exit' ?_)
      exact ⟨rfl,k,by omega,insD_stop hk2 hx hinv,rfl⟩
theorem foldl_take_succ {xs:List Int} {i:Nat} (h:i < xs.length):(xs.take (i+1)).foldl (fun out x=>insD x out) []=insD xs[i] ((xs.take i).foldl (fun out x=>insD x out) []):=by
  rw [List.take_succ_eq_append_getElem h,List.foldl_append];rfl
theorem ev_spec_falling (xs:List Int) (c:Bool) (hl:xs.length≤1000) :
    Ev tb zl127 [] [L xs c] [] ⟨O (fall xs),[],[],[]⟩:=by
  have cp:∀ (ys:List Int) (c:Bool),ys.length≤1000→limF tb zl123 [] [L ys c] []=some ⟨O ys,[],[],[]⟩:=fun ys c h=>ev_lim (ev_copyInts ys c (by omega))
  have loop:∀ (m i:Nat),i+m=xs.length→wp tb (.loop z127l10) { T:=[(0,L xs c),(3,O (fall (xs.take i))),(4,I i)],loc:=[],M:=[] }
      (fun ex st=>ex=.exit 0∧st={ T:=[(0,L xs c),(3,O (fall xs)),(4,I xs.length),(10,Bo false)],loc:=[],M:=[] }):=by
    intro m
    induction m with
    | zero =>
      intro i hi
      have h3:i=xs.length:=hi
      subst h3
      refine wp_loop ?_
      repeat (first|apply wp_as|apply wp_ss|refine wr (by simp;with_reducible rfl) ?_|refine wq (by simp;with_reducible rfl) ?_|refine wt (by simpa) ?_|refine wf (by simpa) ?_|refine xt (by simpa) ?_|refine xf (by simpa) ?_|apply wp_bs|apply wp_b|refine wp_sr ?_|refine wp_sx ?_|refine wp_ret' ?_|refine wp_skip' ?_|refine wp_exit' ?_)
      simp
    | succ m ih =>
      intro i hi
      have hi2:i < xs.length:=by omega
      have w1:IntKind.i64.wrap ((i:Int)+1)=((i+1:Nat):Int):=wrapS (by omega)
      have hfl:(fall (xs.take i)).length=i:=by rw [fall_len];simp;omega
      have hfs:fall (xs.take (i+1))=insD xs[i] (fall (xs.take i)):=foldl_take_succ hi2
      have:=ih (i+1) (by omega)
      rw [hfs] at this
      revert this
      generalize fall (xs.take i)=out at hfl
      intro hnext
      refine wp_loop ?_
      repeat (first|apply wp_as|apply wp_ss|refine wr (by simp [hi2];with_reducible rfl) ?_|refine wq (by simp [hi2];with_reducible rfl) ?_|refine wt (by simpa [hi2]) ?_|refine wf (by simpa [hi2]) ?_|refine xt (by simpa [hi2]) ?_|refine xf (by simpa [hi2]) ?_|apply wp_bs|apply wp_b|refine wp_sr ?_|refine wp_sx ?_|refine wp_ret' ?_|refine wp_skip' ?_|refine wp_exit' ?_)
      refine wp_imp (sfall_in xs out c i hi2 (by omega) out.length 0 (by simp) (by simp)) ?_
      rintro ex st ⟨rfl,k,hk,hins,rfl⟩
      simp only [if_true]
      have hk2:k≤out.length:=hk
      have c1:=cp (out.take k) false (by simp;omega)
      have hb:out.length≤274877906944:=by omega
      have hb2:k≤274877906943:=by omega
      have hb3:k+1+(out.length - k)≤274877906944:=by omega
      have hb4:k+(out.length - k+1)≤274877906944:=by omega
      have hb5:out.length≤274877906943:=by omega
      refine wp_rega (by simp [hi2,hk2,c1,hb,hb2,hb3,hb4,hb5];with_reducible rfl) (by simp;with_reducible rfl) ?_ ?_
      · intro p hp
        simp only [List.mem_cons,List.not_mem_nil,or_false] at hp
        rcases hp with rfl | rfl
        · exact ⟨_,by simp [hi2,hk2,c1,hb,hb2,hb3,hb4,hb5];with_reducible rfl,by simp⟩
        · exact ⟨_,by simp [hi2,hk2,c1,hb,hb2,hb3,hb4,hb5];with_reducible rfl,by simp⟩
      repeat (first|apply wp_as|apply wp_ss|refine wr (by simp [w1];with_reducible rfl) ?_|refine wq (by simp [w1];with_reducible rfl) ?_|refine wt (by simpa [w1]) ?_|refine wf (by simpa [w1]) ?_|refine xt (by simpa [w1]) ?_|refine xf (by simpa [w1]) ?_|apply wp_bs|apply wp_b|refine wp_sr ?_|refine wp_sx ?_|refine wp_ret' ?_|refine wp_skip' ?_|refine wp_exit' ?_)
      rw [List.take_of_length_le (l:=out.drop k) (by simp),← hins]
      exact hnext
  refine call_of_wp zt127 rfl ?_
  repeat (first|apply wp_as|apply wp_ss|refine wr (by simp;with_reducible rfl) ?_|refine wq (by simp;with_reducible rfl) ?_|refine wt (by simpa) ?_|refine wf (by simpa) ?_|refine xt (by simpa) ?_|refine xf (by simpa) ?_|apply wp_bs|apply wp_b|refine wp_sr ?_|refine wp_sx ?_|refine wp_ret' ?_|refine wp_skip' ?_|refine wp_exit' ?_)
  have:=loop xs.length 0 (by simp)
  simp only [List.take_zero] at this
  refine wp_imp this ?_
  rintro ex st ⟨rfl,rfl⟩
  simp only [if_true]
  repeat (first|apply wp_as|apply wp_ss|refine wr (by simp;with_reducible rfl) ?_|refine wq (by simp;with_reducible rfl) ?_|refine wt (by simpa) ?_|refine wf (by simpa) ?_|refine xt (by simpa) ?_|refine xf (by simpa) ?_|apply wp_bs|apply wp_b|refine wp_sr ?_|refine wp_sx ?_|refine wp_ret' ?_|refine wp_skip' ?_|refine wp_exit' ?_)
  simp [zi127]
theorem ev_least (xs:List Int) (c:Bool) (hl:xs.length≤2000000):Ev tb zl360 [] [L xs c] [] ⟨I (least xs),[],[],[]⟩:=by
  have loop:∀ (m i:Nat),i+m=xs.length→wp tb (.loop z360l6) { T:=[(0,L xs c),(3,I (least (xs.take i))),(4,I i)],loc:=[],M:=[] }
      (fun ex st=>ex=.exit 0∧st={ T:=[(0,L xs c),(3,I (least xs)),(4,I xs.length),(8,Bo false)],loc:=[],M:=[] }):=by
    intro m
    induction m with
    | zero =>
      intro i hi
      have h3:i=xs.length:=hi
      subst h3
      refine wp_loop ?_
      repeat (first|apply wp_as|apply wp_ss|refine wr (by simp;with_reducible rfl) ?_|refine wq (by simp;with_reducible rfl) ?_|refine wt (by simpa) ?_|refine wf (by simpa) ?_|refine xt (by simpa) ?_|refine xf (by simpa) ?_|apply wp_bs|apply wp_b|refine wp_sr ?_|refine wp_sx ?_|refine wp_ret' ?_|refine wp_skip' ?_|refine wp_exit' ?_)
      simp
    | succ m ih =>
      intro i hi
      have hi2:i < xs.length:=by omega
      have w1:IntKind.i64.wrap ((i:Int)+1)=((i+1:Nat):Int):=wrapS (by omega)
      have hn:least (xs.take (i+1))=min (least (xs.take i)) xs[i]:=by
        rw [List.take_succ_eq_append_getElem hi2,least,List.foldl_append];rfl
      have:=ih (i+1) (by omega)
      rw [hn] at this
      refine wp_loop ?_
      repeat (first|apply wp_as|apply wp_ss|refine wr (by simp [hi2,w1,min_if];with_reducible rfl) ?_|refine wq (by simp [hi2,w1,min_if];with_reducible rfl) ?_|refine wt (by simpa [hi2,w1,min_if]) ?_|refine wf (by simpa [hi2,w1,min_if]) ?_|refine xt (by simpa [hi2,w1,min_if]) ?_|refine xf (by simpa [hi2,w1,min_if]) ?_|apply wp_bs|apply wp_b|refine wp_sr ?_|refine wp_sx ?_|refine wp_ret' ?_|refine wp_skip' ?_|refine wp_exit' ?_)
      exact this
  refine call_of_wp zt360 rfl ?_
  repeat (first|apply wp_as|apply wp_ss|refine wr (by simp;with_reducible rfl) ?_|refine wq (by simp;with_reducible rfl) ?_|refine wt (by simpa) ?_|refine wf (by simpa) ?_|refine xt (by simpa) ?_|refine xf (by simpa) ?_|apply wp_bs|apply wp_b|refine wp_sr ?_|refine wp_sx ?_|refine wp_ret' ?_|refine wp_skip' ?_|refine wp_exit' ?_)
  refine wp_imp (loop xs.length 0 (by simp)) ?_
  rintro ex st ⟨rfl,rfl⟩
  simp only [if_true]
  repeat (first|apply wp_as|apply wp_ss|refine wr (by simp;with_reducible rfl) ?_|refine wq (by simp;with_reducible rfl) ?_|refine wt (by simpa) ?_|refine wf (by simpa) ?_|refine xt (by simpa) ?_|refine xf (by simpa) ?_|apply wp_bs|apply wp_b|refine wp_sr ?_|refine wp_sx ?_|refine wp_ret' ?_|refine wp_skip' ?_|refine wp_exit' ?_)
  simp [zi360]
end Go.Idl
namespace Go.Idl
open Go
def Small2 (t:List (List Int)):Prop:=t.length≤1000∧∀ r ∈ t,r.length≤1000∧∀ x ∈ r,-1000≤x∧x≤1000
end Go.Idl
namespace Go.Idl
open Go
def least1:Int→List Int→Int
  | m,[]=>m
  | m,x::r=>least1 (min m x) r
theorem ev_Min (x:Int) (r:List Int) (c:Bool) (hl:r.length≤2000000) :
    Ev tb zl75 [] [L (x::r) c] [] ⟨I (least1 x r),[],[],[]⟩:=by
  have loop:∀ (m i:Nat) (y:Int),i+m=r.length→wp tb (.loop z75l8) { T:=[(0,L (x::r) c),(3,I y),(4,I (i+1))],loc:=[],M:=[] }
      (fun ex st=>ex=.exit 0∧st={ T:=[(0,L (x::r) c),(3,I (least1 y (r.drop i))),(4,I (r.length+1)),(15,Bo false)],loc:=[],M:=[] }):=by
    intro m
    induction m with
    | zero =>
      intro i y hi
      obtain ⟨h1,h2⟩:=drop_end hi
      have h3:i=r.length:=hi
      subst h3
      refine wp_loop ?_
      repeat (first|apply wp_as|apply wp_ss|refine wr (by simp;with_reducible rfl) ?_|refine wq (by simp;with_reducible rfl) ?_|refine wt (by simpa) ?_|refine wf (by simpa) ?_|refine xt (by simpa) ?_|refine xf (by simpa) ?_|apply wp_bs|apply wp_b|refine wp_sr ?_|refine wp_sx ?_|refine wp_ret' ?_|refine wp_skip' ?_|refine wp_exit' ?_)
      exact ⟨rfl,by simp [least1]⟩
    | succ m ih =>
      intro i y hi
      obtain ⟨hi2,h2,h3⟩:=drop_get hi
      have w2:IntKind.i64.wrap ((i:Int)+1+1)=(i:Int)+1+1:=wrap64 (by omega) (by omega)
      have h4:(i:Int) < r.length:=by omega
      rw [h2]
      refine wp_loop ?_
      repeat (first|apply wp_as|apply wp_ss|refine wr (by simp [hi2,w2,h4];with_reducible rfl) ?_|refine wq (by simp [hi2,w2,h4];with_reducible rfl) ?_|refine wt (by simpa [hi2,w2,h4]) ?_|refine wf (by simpa [hi2,w2,h4]) ?_|refine xt (by simpa [hi2,w2,h4]) ?_|refine xf (by simpa [hi2,w2,h4]) ?_|apply wp_bs|apply wp_b|refine wp_sr ?_|refine wp_sx ?_|refine wp_ret' ?_|refine wp_skip' ?_|refine wp_exit' ?_)
      have:=ih (i+1) (min y r[i]) (by omega)
      simp only [min_if,min_if',least1] at this ⊢
      exact this
  have h0:¬ ((r.length:Int)+1 < 1):=by omega
  refine call_of_wp zt75 rfl ?_
  repeat (first|apply wp_as|apply wp_ss|refine wr (by simp [h0];with_reducible rfl) ?_|refine wq (by simp [h0];with_reducible rfl) ?_|refine wt (by simpa [h0]) ?_|refine wf (by simpa [h0]) ?_|refine xt (by simpa [h0]) ?_|refine xf (by simpa [h0]) ?_|apply wp_bs|apply wp_b|refine wp_sr ?_|refine wp_sx ?_|refine wp_ret' ?_|refine wp_skip' ?_|refine wp_exit' ?_)
  have:=loop r.length 0 x (by omega)
  simp at this
  refine wp_imp this ?_
  rintro ex st ⟨rfl,rfl⟩
  simp only [if_true]
  repeat (first|apply wp_as|apply wp_ss|refine wr (by simp;with_reducible rfl) ?_|refine wq (by simp;with_reducible rfl) ?_|refine wt (by simpa) ?_|refine wf (by simpa) ?_|refine xt (by simpa) ?_|refine xf (by simpa) ?_|apply wp_bs|apply wp_b|refine wp_sr ?_|refine wp_sx ?_|refine wp_ret' ?_|refine wp_skip' ?_|refine wp_exit' ?_)
  simp [zi75]
theorem least1_ge:∀ (r:List Int) (m b:Int),(b≤least1 m r) ↔ b≤m∧∀ x ∈ r,b≤x
  | [],m,b=>by simp [least1]
  | x::r,m,b=>by
    rw [least1,least1_ge r]
    constructor
    · rintro ⟨h1,h2⟩
      exact ⟨by omega,by intro y hy;rcases List.mem_cons.1 hy with rfl | hy;omega;exact h2 y hy⟩
    · rintro ⟨h1,h2⟩
      have:=h2 x (by simp)
      exact ⟨by omega,fun y hy=>h2 y (by simp [hy])⟩
def asc0 (s:List Int):List Int:=(fall s).reverse
def overT (s:List Int) (i:Nat):Int:=((asc0 s).take (i+1)).sum - ((i:Int)+1) * i / 2
def over (s:List Int):List Int:=mapR s.length (overT s)
theorem Few.rev {xs:List Int} (h:Few xs):Few xs.reverse:=⟨by simpa using h.1,fun x hx=>h.2 x (by simpa using hx)⟩
theorem ev_over (s:List Int) (c:Bool) (hs:Few s):Ev tb zl39 [] [L s c] [] ⟨O (over s),[],[],[]⟩:=by
  have hl:=hs.1
  have e1:=ev_lim (ev_falling s c (by omega))
  have hal:(asc0 s).length=s.length:=by simp [asc0,fall_len]
  have hfl:(fall s).length=s.length:=fall_len s
  have hfa:Few (asc0 s):=hs.fall.rev
  have e2:=ev_lim (ev_Reverse (fall s) (by omega) [[]])
  have loop:∀ (m i:Nat),i+m=s.length→wp tb (.loop z39l9) { T:=[(3,O (asc0 s)),(4,O (mapR i (overT s)++List.replicate (s.length - i) 0)),(14,I s.length),(15,I i)],loc:=[],M:=[] }
      (fun ex st=>ex=.exit 0∧st={ T:=[(3,O (asc0 s)),(4,O (over s)),(14,I s.length),(15,I s.length),(16,Bo false)],loc:=[],M:=[] }):=by
    intro m
    induction m with
    | zero =>
      intro i hi
      have h3:i=s.length:=hi
      subst h3
      refine wp_loop ?_
      repeat (first|apply wp_as|apply wp_ss|refine wr (by simp;with_reducible rfl) ?_|refine wq (by simp;with_reducible rfl) ?_|refine wt (by simpa) ?_|refine wf (by simpa) ?_|refine xt (by simpa) ?_|refine xf (by simpa) ?_|apply wp_bs|apply wp_b|refine wp_sr ?_|refine wp_sx ?_|refine wp_ret' ?_|refine wp_skip' ?_|refine wp_exit' ?_)
      simp [over]
    | succ m ih =>
      intro i hi
      have hi2:i < s.length:=by omega
      have w2:IntKind.i64.wrap ((i:Int)+1)=(i:Int)+1:=wrap64 (by omega) (by omega)
      have ht:=hfa.take (i+1)
      have hsum:=ht.sum
      have e3:=fun cc=>ev_lim (ev_sum ((asc0 s).take (i+1)) cc ht.small)
      have hmm:0≤((i:Int)+1) * i∧((i:Int)+1) * i≤56:=by
        have h8:i≤6:=by omega
        have:∀ j:Nat,j≤6→0≤((j:Int)+1) * j∧((j:Int)+1) * j≤56:=by decide
        exact this i h8
      have w3:IntKind.i64.wrap (((i:Int)+1) * i)=((i:Int)+1) * i:=wrap64 (by omega) (by omega)
      have hq:Int.tdiv (((i:Int)+1) * i) 2=((i:Int)+1) * i / 2:=by rw [Int.tdiv_eq_ediv_of_nonneg hmm.1]
      have w4:IntKind.i64.wrap (((i:Int)+1) * i / 2)=((i:Int)+1) * i / 2:=wrap64 (by omega) (by omega)
      have w5:IntKind.i64.wrap (((asc0 s).take (i+1)).sum - ((i:Int)+1) * i / 2)=overT s i:=by rw [overT];exact wrap64 (by omega) (by omega)
      have h5:i+1≤s.length:=by omega
      have hln:(mapR i (overT s)).length=i:=by simp [mapR]
      have hlt:i < i+(s.length - i):=by omega
      have hs':=mapR_succ_set (overT s) hi2
      refine wp_loop ?_
      repeat (first|apply wp_as|apply wp_ss|refine wr (by simp [hi2,hal,w2,h5,e3,w3,hq,w4,w5,hln,hlt,hs'];with_reducible rfl) ?_|refine wq (by simp [hi2,hal,w2,h5,e3,w3,hq,w4,w5,hln,hlt,hs'];with_reducible rfl) ?_|refine wt (by simpa [hi2,hal,w2,h5,e3,w3,hq,w4,w5,hln,hlt,hs']) ?_|refine wf (by simpa [hi2,hal,w2,h5,e3,w3,hq,w4,w5,hln,hlt,hs']) ?_|refine xt (by simpa [hi2,hal,w2,h5,e3,w3,hq,w4,w5,hln,hlt,hs']) ?_|refine xf (by simpa [hi2,hal,w2,h5,e3,w3,hq,w4,w5,hln,hlt,hs']) ?_|apply wp_bs|apply wp_b|refine wp_sr ?_|refine wp_sx ?_|refine wp_ret' ?_|refine wp_skip' ?_|refine wp_exit' ?_)
      have:=ih (i+1) (by omega)
      simpa using this
  refine call_of_wp zt39 rfl ?_
  repeat (first|apply wp_as|apply wp_ss|refine wr (by simp [e1,e2,hfl,show s.length≤274877906944 by omega];with_reducible rfl) ?_|refine wq (by simp [e1,e2,hfl,show s.length≤274877906944 by omega];with_reducible rfl) ?_|refine wt (by simpa [e1,e2,hfl,show s.length≤274877906944 by omega]) ?_|refine wf (by simpa [e1,e2,hfl,show s.length≤274877906944 by omega]) ?_|refine xt (by simpa [e1,e2,hfl,show s.length≤274877906944 by omega]) ?_|refine xf (by simpa [e1,e2,hfl,show s.length≤274877906944 by omega]) ?_|apply wp_bs|apply wp_b|refine wp_sr ?_|refine wp_sx ?_|refine wp_ret' ?_|refine wp_skip' ?_|refine wp_exit' ?_)
  have:=loop s.length 0 (by simp)
  simp [mapR,asc0] at this
  refine wp_imp this ?_
  rintro ex st ⟨rfl,rfl⟩
  simp only [if_true]
  repeat (first|apply wp_as|apply wp_ss|refine wr (by simp;with_reducible rfl) ?_|refine wq (by simp;with_reducible rfl) ?_|refine wt (by simpa) ?_|refine wf (by simpa) ?_|refine xt (by simpa) ?_|refine xf (by simpa) ?_|apply wp_bs|apply wp_b|refine wp_sr ?_|refine wp_sx ?_|refine wp_ret' ?_|refine wp_skip' ?_|refine wp_exit' ?_)
  simp [zi39,over,mapR]
end Go.Idl
namespace Go.Idl
open Go
def scr (t:List (List Int)) (j:Nat):Int:=(t.getD j []).sum
def scores (t:List (List Int)):List Int:=mapR t.length (scr t)
theorem sum01 (r:List Int) (h:∀ x ∈ r,0≤x∧x≤1):0≤r.sum∧r.sum≤r.length:=by
  induction r with
  | nil=>simp
  | cons x xs ih =>
    have h1:=h x (by simp)
    have h2:=ih fun y hy=>h y (by simp [hy])
    simp only [List.sum_cons,List.length_cons];omega
end Go.Idl
namespace Go.Idl
open Go
theorem over_len (s:List Int):(over s).length=s.length:=by simp [over,mapR]
def isScr (s:List Int):Bool:=decide (∀ x ∈ over s,0≤x) && decide ((over s).getD (s.length - 1) 0=0)
theorem ev_IsScores (s:List Int) (c:Bool) (hl:1≤s.length∧s.length≤5) (hs:∀ x ∈ s,0≤x∧x≤(s.length:Int) - 1) :
    Ev tb zl11 [] [L s c] [] ⟨Bo (isScr s),[],[],[]⟩:=by
  have hf:Few s:=⟨by omega,fun x hx=>by have:=hs x hx;omega⟩
  have e1:=ev_lim (ev_in (s.length:Int) 1 5)
  rw [show (decide ((1:Int)≤s.length) && decide ((s.length:Int)≤5))=true by rw [Bool.and_eq_true,decide_eq_true_eq,decide_eq_true_eq];omega] at e1
  have e2:=ev_lim (ev_allIn s c 0 ((s.length:Int) - 1) (by omega))
  rw [show (s.all fun x=>decide (0≤x) && decide (x≤(s.length:Int) - 1))=true by rw [List.all_eq_true];intro x hx;rw [Bool.and_eq_true,decide_eq_true_eq,decide_eq_true_eq];exact hs x hx] at e2
  have e3:=ev_lim (ev_over s c hf)
  have w1:IntKind.i64.wrap ((s.length:Int) - 1)=(s.length:Int) - 1:=wrap64 (by omega) (by omega)
  have hol:=over_len s
  obtain ⟨n,hn⟩:∃ n,s.length=n+1:=⟨s.length - 1,by omega⟩
  have hx:isScr s=(decide (∀ x ∈ over s,0≤x) && decide ((over s).getD n 0=0)):=by rw [isScr,hn];rfl
  rw [hx]
  generalize over s=o at *
  obtain ⟨mn,e4,hg⟩:∃ mn,limF tb zl75 [] [L o] []=some ⟨I mn,[],[],[]⟩∧(0≤mn ↔ ∀ y ∈ o,0≤y):=by
    cases o with
    | nil=>simp at hol;omega
    | cons x r =>
      simp only [List.length_cons] at hol
      refine ⟨_,ev_lim (ev_Min x r false (by omega)),?_⟩
      rw [least1_ge r x 0]
      exact ⟨fun h y hy=>by rcases List.mem_cons.1 hy with rfl | hy;exact h.1;exact h.2 y hy,fun h=>⟨h x (by simp),fun y hy=>h y (by simp [hy])⟩⟩
  rw [hn] at hol
  have hno:n < o.length:=by omega
  have hla:o.getD n 0=o[n]:=by rw [List.getD_eq_getElem?_getD,List.getElem?_eq_getElem hno];rfl
  have w2:IntKind.i64.wrap (n:Int)=n:=wrapN (by omega)
  have hto:o.take (n+1)=o:=List.take_of_length_le (by omega)
  have hn1:n < n+1:=by omega
  rw [hla]
  by_cases h1:0≤mn
  rotate_left
  · have h2:¬ ∀ y ∈ o,0≤y:=fun h=>h1 (hg.2 h)
    rw [decide_eq_false h2]
    refine call_of_wp zt11 rfl ?_
    repeat (first|apply wp_as|apply wp_ss|refine wr (by simp [e1,e2,e3,w1];with_reducible rfl) ?_|refine wq (by simp [e1,e2,e3,w1];with_reducible rfl) ?_|refine wt (by simpa [e1,e2,e3,w1]) ?_|refine wf (by simpa [e1,e2,e3,w1]) ?_|refine xt (by simpa [e1,e2,e3,w1]) ?_|refine xf (by simpa [e1,e2,e3,w1]) ?_|apply wp_bs|apply wp_b|refine wp_sr ?_|refine wp_sx ?_|refine wp_ret' ?_|refine wp_skip' ?_|refine wp_exit' ?_)
    refine wr (by simp [e4,h1,hol,hto];with_reducible rfl) ?_
    repeat (first|apply wp_as|apply wp_ss|refine wr (by simp;with_reducible rfl) ?_|refine wq (by simp;with_reducible rfl) ?_|refine wt (by simpa) ?_|refine wf (by simpa) ?_|refine xt (by simpa) ?_|refine xf (by simpa) ?_|apply wp_bs|apply wp_b|refine wp_sr ?_|refine wp_sx ?_|refine wp_ret' ?_|refine wp_skip' ?_|refine wp_exit' ?_)
    simp [zi11]
  have h2:∀ y ∈ o,0≤y:=hg.1 h1
  rw [decide_eq_true h2]
  generalize hz:o[n]=z at *
  refine call_of_wp zt11 rfl ?_
  repeat (first|apply wp_as|apply wp_ss|refine wr (by simp [e1,e2,e3,w1];with_reducible rfl) ?_|refine wq (by simp [e1,e2,e3,w1];with_reducible rfl) ?_|refine wt (by simpa [e1,e2,e3,w1]) ?_|refine wf (by simpa [e1,e2,e3,w1]) ?_|refine xt (by simpa [e1,e2,e3,w1]) ?_|refine xf (by simpa [e1,e2,e3,w1]) ?_|apply wp_bs|apply wp_b|refine wp_sr ?_|refine wp_sx ?_|refine wp_ret' ?_|refine wp_skip' ?_|refine wp_exit' ?_)
  refine wr (by simp [e4,h1,hol,hto,w2,hz,hno,hn1];with_reducible rfl) ?_
  repeat (first|apply wp_as|apply wp_ss|refine wr (by simp;with_reducible rfl) ?_|refine wq (by simp;with_reducible rfl) ?_|refine wt (by simpa) ?_|refine wf (by simpa) ?_|refine xt (by simpa) ?_|refine xf (by simpa) ?_|apply wp_bs|apply wp_b|refine wp_sr ?_|refine wp_sx ?_|refine wp_ret' ?_|refine wp_skip' ?_|refine wp_exit' ?_)
  simp [zi11]
  rfl
end Go.Idl
namespace Go.Idl
open Go
def tabF (w h:Nat) (g:Nat→Nat→Int):List (List Int):=(List.range w).map fun i=>mapR h (g i)
theorem tabl_in (w h:Nat) (F:Lab) (caps:List IV) (M:List Boxes) (g:Nat→Nat→Int) (i:Nat) (hi:i < w) (hh:h≤1000) (hw:w≤1000)
    (hF:∀ k,k < h→Ev tb F [] (I i::I k::caps) (M++[[]]) ⟨I (g i k),[],M++[[]],[]⟩) :
    ∀ (m k:Nat) (C:List (List IV)),k+m=h→C.length=w→(∀ hc:i < C.length,C[i]=[O (mapR k (g i)++List.replicate (h - k) 0)]) →
    wp tb (.loop z41l11) { T:=[(1,I h),(2,.fn F caps),(7,.own 1 C),(8,I i),(13,I w),(14,I i),(26,I h),(27,I k)],loc:=[],M:=M }
      (fun ex st=>ex=.exit 2∧st={ T:=[(1,I h),(2,.fn F caps),(7,.own 1 (C.set i [O (mapR h (g i))])),(8,I i),(13,I w),(14,I i),(26,I h),(27,I h),(28,Bo false)],loc:=[],M:=M }):=by
  intro m
  induction m with
  | zero =>
    intro k C hk hC hCi
    have h3:k=h:=hk
    subst h3
    have hi':i < C.length:=by omega
    have hs:C.set i [O (mapR k (g i))]=C:=by
      have:=hCi hi'
      simp only [Nat.sub_self,List.replicate_zero,List.append_nil] at this
      rw [← this];simp
    refine wp_loop ?_
    repeat (first|apply wp_as|apply wp_ss|refine wr (by simp;with_reducible rfl) ?_|refine wq (by simp;with_reducible rfl) ?_|refine wt (by simpa) ?_|refine wf (by simpa) ?_|refine xt (by simpa) ?_|refine xf (by simpa) ?_|apply wp_bs|apply wp_b|refine wp_sr ?_|refine wp_sx ?_|refine wp_ret' ?_|refine wp_skip' ?_|refine wp_exit' ?_)
    exact ⟨rfl,by rw [hs]⟩
  | succ m ih =>
    intro k C hk hC hCi
    have hkn:k < h:=by omega
    have hiC:i < C.length:=by omega
    have hCi:=hCi hiC
    have e1:=ev_lim (hF k hkn)
    have w2:IntKind.i64.wrap ((k:Int)+1)=((k+1:Nat):Int):=wrapS (by omega)
    have hln:(mapR k (g i)).length=k:=by simp [mapR]
    have hlt:k < k+(h - k):=by omega
    have hs':=mapR_succ_set (g i) hkn
    have hx:i < w:=hi
    refine wp_loop ?_
    repeat (first|apply wp_as|apply wp_ss|refine wr (by simp [hkn];with_reducible rfl) ?_|refine wq (by simp [hkn];with_reducible rfl) ?_|refine wt (by simpa [hkn]) ?_|refine wf (by simpa [hkn]) ?_|refine xt (by simpa [hkn]) ?_|refine xf (by simpa [hkn]) ?_|apply wp_bs|apply wp_b|refine wp_sr ?_|refine wp_sx ?_|refine wp_ret' ?_|refine wp_skip' ?_|refine wp_exit' ?_)
    refine wp_rega (by simp [hkn,hC,hx,hCi,e1,hln,hlt,hs'];with_reducible rfl) (by simp;with_reducible rfl) ?_ ?_
    · intro p hp
      simp only [List.mem_cons,List.not_mem_nil,or_false] at hp
      subst hp
      exact ⟨_,by simp [hkn,hC,hx,hCi,e1,hln,hlt,hs'];with_reducible rfl,by simp⟩
    repeat (first|apply wp_as|apply wp_ss|refine wr (by simp [w2];with_reducible rfl) ?_|refine wq (by simp [w2];with_reducible rfl) ?_|refine wt (by simpa [w2]) ?_|refine wf (by simpa [w2]) ?_|refine xt (by simpa [w2]) ?_|refine xf (by simpa [w2]) ?_|apply wp_bs|apply wp_b|refine wp_sr ?_|refine wp_sx ?_|refine wp_ret' ?_|refine wp_skip' ?_|refine wp_exit' ?_)
    refine wp_imp (ih (k+1) _ (by omega) (by simp [hC]) (by intro hc;simp)) ?_
    rintro ex st ⟨rfl,rfl⟩
    exact ⟨rfl,by simp⟩
theorem tabl_out (w h:Nat) (F:Lab) (caps:List IV) (M:List Boxes) (g:Nat→Nat→Int) (hh:h≤1000) (hw:w≤1000)
    (hF:∀ i k,i < w→k < h→Ev tb F [] (I i::I k::caps) (M++[[]]) ⟨I (g i k),[],M++[[]],[]⟩) :
    ∀ (m i:Nat) ,i+m=w →
    wp tb (.loop z41l13) { T:=[(1,I h),(2,.fn F caps),(7,.own 1 (oab (tabF i h g)++List.replicate (w - i) [Z])),(13,I w),(14,I i)],loc:=[],M:=M }
      (fun ex st=>ex=.exit 0∧st={ T:=[(1,I h),(2,.fn F caps),(7,OT (tabF w h g)),(13,I w),(14,I w),(15,Bo false)],loc:=[],M:=M }):=by
  intro m
  induction m with
  | zero =>
    intro i hi
    have h3:i=w:=hi
    subst h3
    refine wp_loop ?_
    repeat (first|apply wp_as|apply wp_ss|refine wr (by simp;with_reducible rfl) ?_|refine wq (by simp;with_reducible rfl) ?_|refine wt (by simpa) ?_|refine wf (by simpa) ?_|refine xt (by simpa) ?_|refine xf (by simpa) ?_|apply wp_bs|apply wp_b|refine wp_sr ?_|refine wp_sx ?_|refine wp_ret' ?_|refine wp_skip' ?_|refine wp_exit' ?_)
    exact ⟨rfl,by simp⟩
  | succ m ih =>
    intro i hi
    have hin:i < w:=by omega
    have w2:IntKind.i64.wrap ((i:Int)+1)=((i+1:Nat):Int):=wrapS (by omega)
    have hC:(oab (tabF i h g)++List.replicate (w - i) [Z]).length=w:=by simp [tabF];omega
    have hst:∀ r,(oab (tabF i h g)++List.replicate (w - i) [Z]).set i [O r]=oab (tabF i h g++[r])++List.replicate (w - (i+1)) [Z]:=by
      intro r
      have e:w - i=(w - (i+1))+1:=by omega
      rw [e,List.replicate_succ,List.set_append_right _ _ (by simp [tabF]),← oab_one]
      simp [tabF]
      simp [oab]
    have hCi:∀ hc:i < (oab (tabF i h g)++List.replicate (w - i) [Z]).length,(oab (tabF i h g)++List.replicate (w - i) [Z])[i]=[Z]:=by
      intro hc
      rw [List.getElem_append_right (by simp [tabF])];simp
    have hb:h≤274877906944:=by omega
    have ht:tabF i h g++[mapR h (g i)]=tabF (i+1) h g:=by simp [tabF,List.range_succ]
    have hin2:=tabl_in w h F caps M g i hin hh hw (fun k hk=>hF i k hin hk) h 0 ((oab (tabF i h g)++List.replicate (w - i) [Z]).set i [O (List.replicate h 0)])
      (by omega) (by rw [List.length_set];exact hC) (by intro hc;simp [mapR])
    simp only [List.set_set] at hin2
    rw [show ((0:Nat):Int)=0 from rfl] at hin2
    generalize (oab (tabF i h g)++List.replicate (w - i) [Z])=C at *
    refine wp_loop ?_
    have hiC:i < C.length:=by omega
    have hCi:=hCi hiC
    repeat (first|apply wp_as|apply wp_ss|refine wr (by simp [hin,hC,hb,hCi];with_reducible rfl) ?_|refine wq (by simp [hin,hC,hb,hCi];with_reducible rfl) ?_|refine wt (by simpa [hin,hC,hb,hCi]) ?_|refine wf (by simpa [hin,hC,hb,hCi]) ?_|refine xt (by simpa [hin,hC,hb,hCi]) ?_|refine xf (by simpa [hin,hC,hb,hCi]) ?_|apply wp_bs|apply wp_b|refine wp_sr ?_|refine wp_sx ?_|refine wp_ret' ?_|refine wp_skip' ?_|refine wp_exit' ?_)
    refine wp_imp hin2 ?_
    rintro ex st ⟨rfl,rfl⟩
    simp only [if_true]
    rw [hst,ht]
    repeat (first|apply wp_as|apply wp_ss|refine wr (by simp [w2];with_reducible rfl) ?_|refine wq (by simp [w2];with_reducible rfl) ?_|refine wt (by simpa [w2]) ?_|refine wf (by simpa [w2]) ?_|refine xt (by simpa [w2]) ?_|refine xf (by simpa [w2]) ?_|apply wp_bs|apply wp_b|refine wp_sr ?_|refine wp_sx ?_|refine wp_ret' ?_|refine wp_skip' ?_|refine wp_exit' ?_)
    exact ih (i+1) (by omega)
theorem ev_table (w h:Nat) (F:Lab) (caps:List IV) (M:List Boxes) (g:Nat→Nat→Int) (hh:h≤1000) (hw:w≤1000)
    (hF:∀ i k,i < w→k < h→Ev tb F [] (I i::I k::caps) (M++[[]]) ⟨I (g i k),[],M++[[]],[]⟩) :
    Ev tb zl41 [] [I w,I h,.fn F caps] M ⟨OT (tabF w h g),[],M,[]⟩:=by
  have hb:w≤274877906944:=by omega
  refine call_of_wp zt41 rfl ?_
  repeat (first|apply wp_as|apply wp_ss|refine wr (by simp [hb];with_reducible rfl) ?_|refine wq (by simp [hb];with_reducible rfl) ?_|refine wt (by simpa [hb]) ?_|refine wf (by simpa [hb]) ?_|refine xt (by simpa [hb]) ?_|refine xf (by simpa [hb]) ?_|apply wp_bs|apply wp_b|refine wp_sr ?_|refine wp_sx ?_|refine wp_ret' ?_|refine wp_skip' ?_|refine wp_exit' ?_)
  have:=tabl_out w h F caps M g hh hw hF w 0 (by omega)
  simp [tabF] at this
  refine wp_imp this ?_
  rintro ex st ⟨rfl,rfl⟩
  simp only [if_true]
  repeat (first|apply wp_as|apply wp_ss|refine wr (by simp;with_reducible rfl) ?_|refine wq (by simp;with_reducible rfl) ?_|refine wt (by simpa) ?_|refine wf (by simpa) ?_|refine xt (by simpa) ?_|refine xf (by simpa) ?_|apply wp_bs|apply wp_b|refine wp_sr ?_|refine wp_sx ?_|refine wp_ret' ?_|refine wp_skip' ?_|refine wp_exit' ?_)
  simp [zi41,tabF]
  rw [List.take_of_length_le (by simp)]
end Go.Idl
namespace Go.Idl
open Go
theorem ev_hasInt (xs:List Int) (c:Bool) (y:Int) (hl:xs.length≤2000000) :
    Ev tb zl131 [] [L xs c,I y] [] ⟨Bo (decide (y ∈ xs)),[],[],[]⟩:=by
  have loop:∀ (m i:Nat),i+m=xs.length→wp tb (.loop z131l6) { T:=[(0,L xs c),(1,I y),(5,I i)],loc:=[],M:=[] }
      (fun ex st=>(ex=.exit 0∧y ∉ xs.drop i∧st={ T:=[(0,L xs c),(1,I y),(5,I xs.length),(9,Bo false)],loc:=[],M:=[] }) ∨
        ex=.ret∧y ∈ xs.drop i∧st={ T:=[(4,Bo true)],loc:=[],M:=[] }):=by
    intro m
    induction m with
    | zero =>
      intro i hi
      obtain ⟨h1,h2⟩:=drop_end hi
      have h3:i=xs.length:=hi
      subst h3
      refine wp_loop ?_
      repeat (first|apply wp_as|apply wp_ss|refine wr (by simp;with_reducible rfl) ?_|refine wq (by simp;with_reducible rfl) ?_|refine wt (by simpa) ?_|refine wf (by simpa) ?_|refine xt (by simpa) ?_|refine xf (by simpa) ?_|apply wp_bs|apply wp_b|refine wp_sr ?_|refine wp_sx ?_|refine wp_ret' ?_|refine wp_skip' ?_|refine wp_exit' ?_)
      exact .inl ⟨rfl,by rw [h2];simp,rfl⟩
    | succ m ih =>
      intro i hi
      obtain ⟨hi2,h2,h3⟩:=drop_get hi
      have w2:IntKind.i64.wrap ((i:Int)+1)=((i+1:Nat):Int):=wrapS (by omega)
      rw [h2]
      by_cases he:xs[i]=y
      · refine wp_loop ?_
        repeat (first|apply wp_as|apply wp_ss|refine wr (by simp [hi2,he];with_reducible rfl) ?_|refine wq (by simp [hi2,he];with_reducible rfl) ?_|refine wt (by simpa [hi2,he]) ?_|refine wf (by simpa [hi2,he]) ?_|refine xt (by simpa [hi2,he]) ?_|refine xf (by simpa [hi2,he]) ?_|apply wp_bs|apply wp_b|refine wp_sr ?_|refine wp_sx ?_|refine wp_ret' ?_|refine wp_skip' ?_|refine wp_exit' ?_)
        exact .inr ⟨rfl,by simp [he],rfl⟩
      · refine wp_loop ?_
        repeat (first|apply wp_as|apply wp_ss|refine wr (by simp [hi2,he,w2];with_reducible rfl) ?_|refine wq (by simp [hi2,he,w2];with_reducible rfl) ?_|refine wt (by simpa [hi2,he,w2]) ?_|refine wf (by simpa [hi2,he,w2]) ?_|refine xt (by simpa [hi2,he,w2]) ?_|refine xf (by simpa [hi2,he,w2]) ?_|apply wp_bs|apply wp_b|refine wp_sr ?_|refine wp_sx ?_|refine wp_ret' ?_|refine wp_skip' ?_|refine wp_exit' ?_)
        refine wp_imp (ih (i+1) (by omega)) ?_
        rintro ex st (⟨rfl,h,rfl⟩ | ⟨rfl,h,rfl⟩)
        · exact .inl ⟨rfl,by rw [List.mem_cons];rintro (h' | h');exact he h'.symm;exact h h',rfl⟩
        · exact .inr ⟨rfl,List.mem_cons_of_mem _ h,rfl⟩
  refine call_of_wp zt131 rfl ?_
  repeat (first|apply wp_as|apply wp_ss|refine wr (by simp;with_reducible rfl) ?_|refine wq (by simp;with_reducible rfl) ?_|refine wt (by simpa) ?_|refine wf (by simpa) ?_|refine xt (by simpa) ?_|refine xf (by simpa) ?_|apply wp_bs|apply wp_b|refine wp_sr ?_|refine wp_sx ?_|refine wp_ret' ?_|refine wp_skip' ?_|refine wp_exit' ?_)
  refine wp_imp (loop xs.length 0 (by omega)) ?_
  rintro ex st (⟨rfl,h,rfl⟩ | ⟨rfl,h,rfl⟩)
  · simp only [if_true]
    simp only [List.drop_zero] at h
    repeat (first|apply wp_as|apply wp_ss|refine wr (by simp;with_reducible rfl) ?_|refine wq (by simp;with_reducible rfl) ?_|refine wt (by simpa) ?_|refine wf (by simpa) ?_|refine xt (by simpa) ?_|refine xf (by simpa) ?_|apply wp_bs|apply wp_b|refine wp_sr ?_|refine wp_sx ?_|refine wp_ret' ?_|refine wp_skip' ?_|refine wp_exit' ?_)
    simp [zi131,h]
  · simp only [List.drop_zero] at h
    simp [zi131,h]
end Go.Idl
namespace Go.Idl
def insC {α:Type} (lt:α→α→Bool) (x:α):List α→List α→List α
  | [],B=>x::B
  | a::r,B=>if lt x a then insC lt x r (a::B) else r.reverse++a::x::B
def srtC {α:Type} (lt:α→α→Bool):List α→List α→List α
  | S,[]=>S
  | S,x::r=>srtC lt (insC lt x S.reverse []) r
theorem insC_perm {α:Type} (lt:α→α→Bool) (x:α):∀ (r B:List α),(insC lt x r B).Perm (r.reverse++x::B)
  | [],B=>.refl _
  | a::r,B=>by
    unfold insC
    split
    · refine (insC_perm lt x r (a::B)).trans ?_
      rw [List.reverse_cons,List.append_assoc]
      exact List.Perm.append_left _ (.swap _ _ _)
    · rw [List.reverse_cons,List.append_assoc]
      exact .refl _
theorem insC_len {α:Type} (lt:α→α→Bool) (x:α) (S:List α):(insC lt x S.reverse []).length=S.length+1:=by
  have:=(insC_perm lt x S.reverse []).length_eq
  simpa using this
theorem srtC_perm {α:Type} (lt:α→α→Bool):∀ (r S:List α),(srtC lt S r).Perm (S++r)
  | [],S=>by simp [srtC]
  | x::r,S=>by
    refine (srtC_perm lt r _).trans ?_
    have:=insC_perm lt x S.reverse []
    rw [List.reverse_reverse] at this
    refine (this.append_right r).trans ?_
    rw [List.append_assoc];exact .refl _
end Go.Idl
namespace Go.Idl
open Go
abbrev vI (x:Int):IV:=I x
theorem appc_get1 {α:Type} {A Z:List α} {a x:α}:(A++a::x::Z)[A.length+1]? = some x:=by
  rw [List.getElem?_append_right (by omega)];simp
theorem appc_get0 {α:Type} {A Z:List α} {a:α}:(A++a::Z)[A.length]? = some a:=by
  rw [List.getElem?_append_right (by omega)];simp
theorem appc_set {α:Type} {A Z:List α} {a x:α}:((A++a::x::Z).set (A.length+1) a).set A.length x=A++x::a::Z:=by
  rw [List.set_append_right _ _ (by omega),List.set_append_right _ _ (by omega)]
  simp
def CmpOK {α:Type} (v:α→IV) (F:Lab) (caps:List IV) (lt:α→α→Bool) (D:α→Prop) (M:List Boxes):Prop :=
  ∀ x y,D x→D y→∃ k:Int,decide (k < 0)=lt x y∧Ev tb F [] (v x::v y::caps) (M++[[]]) ⟨I k,[],M++[[]],[]⟩
theorem icli (F:Lab) (caps:List IV) (lt:Int→Int→Bool) (D:Int→Prop) (M:List Boxes) (hc:CmpOK vI F caps lt D M) (P:List Int) (n i:Int) (x:Int) (rest:List Int):∀ (k:Nat) (A B:List Int),A.length=k→P.length+k+B.length+rest.length≤2000000→D x→(∀ a ∈ A,D a) →
    wp tb (.loop z278l6) { T:=[(0,O ((P++A)++x::(B++rest))),(1,I P.length),(2,I n),(3,.fn F caps),(8,I i),(9,I (P.length+k:Nat))],loc:=[],M:=M }
      (fun ex st=>ex=.exit 2∧∃ k':Int,st={ T:=[(0,O (P++(insC lt x A.reverse B++rest))),(1,I P.length),(2,I n),(3,.fn F caps),(8,I i),(9,I k'),(34,Bo false)],loc:=[],M:=M }):=by
  intro k
  induction k with
  | zero =>
    intro A B hA hl hx hD
    have:A=[]:=List.length_eq_zero_iff.1 hA
    subst this
    refine wp_loop ?_
    repeat (first|apply wp_as|apply wp_ss|refine wr (by simp;with_reducible rfl) ?_|refine wq (by simp;with_reducible rfl) ?_|refine wt (by simpa) ?_|refine wf (by simpa) ?_|refine xt (by simpa) ?_|refine xf (by simpa) ?_|apply wp_bs|apply wp_b|refine wp_sr ?_|refine wp_sx ?_|refine wp_ret' ?_|refine wp_skip' ?_|refine wp_exit' ?_)
    exact ⟨rfl,_,by simp [insC];rfl⟩
  | succ k ih =>
    intro A B hA hl hx hD
    obtain ⟨A',a,rfl⟩:∃ A' a,A=A'++[a]:=⟨A.dropLast,A.getLast (by intro h;subst h;simp at hA),(List.dropLast_concat_getLast _).symm⟩
    have hA':A'.length=k:=by simpa using hA
    subst hA'
    obtain ⟨c,hc1,hc2⟩:=hc x a hx (hD a (by simp))
    have e1:=ev_lim hc2
    have hPl:(P++A').length=P.length+A'.length:=by simp
    obtain ⟨Q,hQ⟩:∃ Q,Q=P++A':=⟨_,rfl⟩
    have hQl:P.length+A'.length=Q.length:=by rw [hQ];simp
    have hre:P++(A'++[a])++x::(B++rest)=Q++a::x::(B++rest):=by rw [hQ];simp
    rw [hre]
    have hk:((P.length+(A'.length+1):Nat):Int)=(Q.length:Int)+1:=by omega
    rw [hk]
    have w1:IntKind.i64.wrap (Q.length:Int)=(Q.length:Int):=wrap64 (by omega) (by omega)
    have w2:(P.length:Int) < (Q.length:Int)+1:=by omega
    by_cases hx0:c < 0
    · have hlt:lt x a=true:=by rw [← hc1];exact decide_eq_true hx0
      have:=ih A' (a::B) rfl (by simp;omega) hx (fun b hb=>hD b (by simp [hb]))
      rw [show P++A'++x::(a::B++rest)=Q++x::(a::(B++rest)) by rw [hQ];simp,hQl] at this
      refine wp_loop ?_
      repeat (first|apply wp_as|apply wp_ss|refine wr (by simp [e1,hx0,w1,w2,appc_get0,appc_get1,appc_set];with_reducible rfl) ?_|refine wq (by simp [e1,hx0,w1,w2,appc_get0,appc_get1,appc_set];with_reducible rfl) ?_|refine wt (by simpa [e1,hx0,w1,w2,appc_get0,appc_get1,appc_set]) ?_|refine wf (by simpa [e1,hx0,w1,w2,appc_get0,appc_get1,appc_set]) ?_|refine xt (by simpa [e1,hx0,w1,w2,appc_get0,appc_get1,appc_set]) ?_|refine xf (by simpa [e1,hx0,w1,w2,appc_get0,appc_get1,appc_set]) ?_|apply wp_bs|apply wp_b|refine wp_sr ?_|refine wp_sx ?_|refine wp_ret' ?_|refine wp_skip' ?_|refine wp_exit' ?_)
      simp only [List.reverse_append,List.reverse_cons,List.reverse_nil,List.nil_append,List.cons_append]
      simp only [insC,hlt,if_true]
      exact this
    · have hlt:lt x a=false:=by rw [← hc1];exact decide_eq_false hx0
      refine wp_loop ?_
      repeat (first|apply wp_as|apply wp_ss|refine wr (by simp [e1,hx0,w1,w2,appc_get0,appc_get1,appc_set];with_reducible rfl) ?_|refine wq (by simp [e1,hx0,w1,w2,appc_get0,appc_get1,appc_set];with_reducible rfl) ?_|refine wt (by simpa [e1,hx0,w1,w2,appc_get0,appc_get1,appc_set]) ?_|refine wf (by simpa [e1,hx0,w1,w2,appc_get0,appc_get1,appc_set]) ?_|refine xt (by simpa [e1,hx0,w1,w2,appc_get0,appc_get1,appc_set]) ?_|refine xf (by simpa [e1,hx0,w1,w2,appc_get0,appc_get1,appc_set]) ?_|apply wp_bs|apply wp_b|refine wp_sr ?_|refine wp_sx ?_|refine wp_ret' ?_|refine wp_skip' ?_|refine wp_exit' ?_)
      refine ⟨rfl,(Q.length:Int)+1,?_⟩
      simp only [List.reverse_append,List.reverse_cons,List.reverse_nil,List.nil_append,List.cons_append]
      simp only [insC,hlt,Bool.false_eq_true,if_false,List.reverse_reverse]
      rw [hQ]
      simp
theorem isoi (F:Lab) (caps:List IV) (lt:Int→Int→Bool) (D:Int→Prop) (M:List Boxes) (hc:CmpOK vI F caps lt D M) (P Q:List Int) (n:Int):∀ (r S:List Int),n=(P.length+S.length+r.length:Nat)→P.length+S.length+r.length+Q.length≤900000→(∀ x ∈ S,D x)→(∀ x ∈ r,D x) →
    wp tb (.loop z278l8) { T:=[(0,O (P++(S++(r++Q)))),(1,I P.length),(2,I n),(3,.fn F caps),(8,I (P.length+S.length:Nat))],loc:=[],M:=M }
      (fun ex st=>ex=.exit 0∧∃ k':Int,st={ T:=[(0,O (P++(srtC lt S r++Q))),(1,I P.length),(2,I n),(3,.fn F caps),(8,I k'),(14,Bo false)],loc:=[],M:=M }):=by
  intro r
  induction r with
  | nil =>
    intro S hn hl hS hr
    have h1:¬ ((P.length:Int)+(S.length:Int)) < n:=by simp at hn;omega
    refine wp_loop ?_
    repeat (first|apply wp_as|apply wp_ss|refine wr (by simp [h1];with_reducible rfl) ?_|refine wq (by simp [h1];with_reducible rfl) ?_|refine wt (by simpa [h1]) ?_|refine wf (by simpa [h1]) ?_|refine xt (by simpa [h1]) ?_|refine xf (by simpa [h1]) ?_|apply wp_bs|apply wp_b|refine wp_sr ?_|refine wp_sx ?_|refine wp_ret' ?_|refine wp_skip' ?_|refine wp_exit' ?_)
    exact ⟨rfl,_,by simp [srtC];rfl⟩
  | cons x r ih =>
    intro S hn hl hS hr
    simp only [List.length_cons] at hn hl
    have h1:(P.length:Int)+(S.length:Int) < n:=by omega
    have w1:IntKind.i64.wrap ((P.length:Int)+(S.length:Int)+1)=(P.length:Int)+(S.length:Int)+1:=by rw [wrap64 (by omega) (by omega)]
    have hin:=icli F caps lt D M hc P n ((P.length:Int)+S.length) x (r++Q) S.length S [] rfl (by simp;omega) (hr x (by simp)) hS
    rw [show P++S++x::([]++(r++Q))=P++(S++(x::r++Q)) by simp,show ((P.length+S.length:Nat):Int)=(P.length:Int)+S.length by omega] at hin
    have hn2:=ih (insC lt x S.reverse []) (by rw [insC_len];omega) (by rw [insC_len];omega) (fun y hy=>by
      have:=(insC_perm lt x S.reverse []).mem_iff.1 hy
      simp only [List.reverse_reverse,List.mem_append,List.mem_cons,List.not_mem_nil,or_false] at this
      rcases this with h | rfl
      · exact hS y h
      · exact hr y (by simp)) (fun y hy=>hr y (by simp [hy]))
    rw [insC_len,show ((P.length+(S.length+1):Nat):Int)=(P.length:Int)+S.length+1 by omega] at hn2
    rw [show ((P.length+S.length:Nat):Int)=(P.length:Int)+S.length by omega]
    refine wp_loop ?_
    repeat (first|apply wp_as|apply wp_ss|refine wr (by simp [h1,w1];with_reducible rfl) ?_|refine wq (by simp [h1,w1];with_reducible rfl) ?_|refine wt (by simpa [h1,w1]) ?_|refine wf (by simpa [h1,w1]) ?_|refine xt (by simpa [h1,w1]) ?_|refine xf (by simpa [h1,w1]) ?_|apply wp_bs|apply wp_b|refine wp_sr ?_|refine wp_sx ?_|refine wp_ret' ?_|refine wp_skip' ?_|refine wp_exit' ?_)
    refine wp_imp hin ?_
    rintro ex st ⟨rfl,k',rfl⟩
    simp only [if_true]
    repeat (first|apply wp_as|apply wp_ss|refine wr (by simp [h1,w1];with_reducible rfl) ?_|refine wq (by simp [h1,w1];with_reducible rfl) ?_|refine wt (by simpa [h1,w1]) ?_|refine wf (by simpa [h1,w1]) ?_|refine xt (by simpa [h1,w1]) ?_|refine xf (by simpa [h1,w1]) ?_|apply wp_bs|apply wp_b|refine wp_sr ?_|refine wp_sx ?_|refine wp_ret' ?_|refine wp_skip' ?_|refine wp_exit' ?_)
    exact hn2
theorem ev_insCi (F:Lab) (caps:List IV) (lt:Int→Int→Bool) (D:Int→Prop) (M:List Boxes) (hc:CmpOK vI F caps lt D M) (P Q seg:List Int) (hl:P.length+seg.length+Q.length≤800000) (hD:∀ x ∈ seg,D x) :
    Ev tb zl278 [0] [O (P++(seg++Q)),I P.length,I (P.length+seg.length:Nat),.fn F caps] M ⟨.tup [],[O (P++(srtC lt [] seg++Q))],M,[]⟩:=by
  have w1:IntKind.i64.wrap ((P.length:Int)+1)=(P.length:Int)+1:=by rw [wrap64 (by omega) (by omega)]
  cases seg with
  | nil =>
    have h1:¬ (P.length:Int)+1 < ((P.length+([]:List Int).length:Nat):Int):=by simp;omega
    simp only [List.length_nil,Nat.add_zero] at h1 ⊢
    refine call_of_wp zt278 rfl ?_
    repeat (first|apply wp_as|apply wp_ss|refine wr (by simp [w1];with_reducible rfl) ?_|refine wq (by simp [w1];with_reducible rfl) ?_|refine wt (by simpa [w1]) ?_|refine wf (by simpa [w1]) ?_|refine xt (by simpa [w1]) ?_|refine xf (by simpa [w1]) ?_|apply wp_bs|apply wp_b|refine wp_sr ?_|refine wp_sx ?_|refine wp_ret' ?_|refine wp_skip' ?_|refine wp_exit' ?_)
    refine wp_loop ?_
    repeat (first|apply wp_as|apply wp_ss|refine wr (by simp [h1];with_reducible rfl) ?_|refine wq (by simp [h1];with_reducible rfl) ?_|refine wt (by simpa [h1]) ?_|refine wf (by simpa [h1]) ?_|refine xt (by simpa [h1]) ?_|refine xf (by simpa [h1]) ?_|apply wp_bs|apply wp_b|refine wp_sr ?_|refine wp_sx ?_|refine wp_ret' ?_|refine wp_skip' ?_|refine wp_exit' ?_)
    simp [zi278,srtC]
  | cons x r =>
    have:=isoi F caps lt D M hc P Q (P.length+(x::r).length:Nat) r [x] (by simp;omega) (by simp at hl ⊢;omega) (fun y hy=>by simp at hy;subst hy;exact hD _ (by simp)) (fun y hy=>hD y (by simp [hy]))
    rw [show P++([x]++(r++Q))=P++(x::r++Q) by simp,show ((P.length+[x].length:Nat):Int)=(P.length:Int)+1 by simp] at this
    have hs:srtC lt [x] r=srtC lt [] (x::r):=by simp [srtC,insC]
    rw [hs] at this
    generalize ((P.length+(x::r).length:Nat):Int)=n at *
    refine call_of_wp zt278 rfl ?_
    repeat (first|apply wp_as|apply wp_ss|refine wr (by simp [w1];with_reducible rfl) ?_|refine wq (by simp [w1];with_reducible rfl) ?_|refine wt (by simpa [w1]) ?_|refine wf (by simpa [w1]) ?_|refine xt (by simpa [w1]) ?_|refine xf (by simpa [w1]) ?_|apply wp_bs|apply wp_b|refine wp_sr ?_|refine wp_sx ?_|refine wp_ret' ?_|refine wp_skip' ?_|refine wp_exit' ?_)
    refine wp_imp this ?_
    rintro ex st ⟨rfl,k',rfl⟩
    simp [zi278]
end Go.Idl
namespace Go.Idl
open Go
theorem ev_stable (F:Lab) (caps:List IV) (lt:Int→Int→Bool) (D:Int→Prop) (M:List Boxes) (hc:CmpOK vI F caps lt D (M++[[]])) (xs:List Int) (hl:xs.length≤19) (hD:∀ x ∈ xs,D x) :
    Ev tb zl289 [0] [O xs,I xs.length,.fn F caps] M ⟨.tup [],[O (srtC lt [] xs)],M,[]⟩:=by
  have e1:=ev_lim (ev_insCi F caps lt D (M++[[]]) hc [] [] xs (by simp;omega) hD)
  simp only [List.nil_append,List.append_nil,List.length_nil,Nat.zero_add] at e1
  rw [show ((0:Nat):Int)=0 from rfl] at e1
  have h1:¬ (20:Int)≤xs.length:=by omega
  have h2:¬ (20:Int) < xs.length:=by omega
  have h3:¬ 20≤xs.length:=by omega
  have h4:¬ 20 < xs.length:=by omega
  refine call_of_wp zt289 rfl ?_
  repeat (first|apply wp_as|apply wp_ss|refine wr (by simp;with_reducible rfl) ?_|refine wq (by simp;with_reducible rfl) ?_|refine wt (by simpa) ?_|refine wf (by simpa) ?_|refine xt (by simpa) ?_|refine xf (by simpa) ?_|apply wp_bs|apply wp_b|refine wp_sr ?_|refine wp_sx ?_|refine wp_ret' ?_|refine wp_skip' ?_|refine wp_exit' ?_)
  refine wp_loop ?_
  repeat (first|apply wp_as|apply wp_ss|refine wr (by simp [h1,h2,h3,h4,e1];with_reducible rfl) ?_|refine wq (by simp [h1,h2,h3,h4,e1];with_reducible rfl) ?_|refine wt (by simpa [h1,h2,h3,h4,e1]) ?_|refine wf (by simpa [h1,h2,h3,h4,e1]) ?_|refine xt (by simpa [h1,h2,h3,h4,e1]) ?_|refine xf (by simpa [h1,h2,h3,h4,e1]) ?_|apply wp_bs|apply wp_b|refine wp_sr ?_|refine wp_sx ?_|refine wp_ret' ?_|refine wp_skip' ?_|refine wp_exit' ?_)
  refine wp_loop ?_
  repeat (first|apply wp_as|apply wp_ss|refine wr (by simp [h1,h2,h3,h4,e1];with_reducible rfl) ?_|refine wq (by simp [h1,h2,h3,h4,e1];with_reducible rfl) ?_|refine wt (by simpa [h1,h2,h3,h4,e1]) ?_|refine wf (by simpa [h1,h2,h3,h4,e1]) ?_|refine xt (by simpa [h1,h2,h3,h4,e1]) ?_|refine xf (by simpa [h1,h2,h3,h4,e1]) ?_|apply wp_bs|apply wp_b|refine wp_sr ?_|refine wp_sx ?_|refine wp_ret' ?_|refine wp_skip' ?_|refine wp_exit' ?_)
  simp [zi289]
theorem ev_SortStable (F:Lab) (caps:List IV) (lt:Int→Int→Bool) (D:Int→Prop) (M:List Boxes) (hc:CmpOK vI F caps lt D (M++[[],[]])) (xs:List Int) (hl:xs.length≤19) (hD:∀ x ∈ xs,D x) :
    Ev tb zl273 [0] [O xs,.fn F caps] M ⟨.tup [],[O (srtC lt [] xs)],M,[]⟩:=by
  have e1:=ev_lim (ev_stable F caps lt D (M++[[]]) (by rw [List.append_assoc];exact hc) xs hl hD)
  refine call_of_wp zt273 rfl ?_
  repeat (first|apply wp_as|apply wp_ss|refine wr (by simp [e1];with_reducible rfl) ?_|refine wq (by simp [e1];with_reducible rfl) ?_|refine wt (by simpa [e1]) ?_|refine wf (by simpa [e1]) ?_|refine xt (by simpa [e1]) ?_|refine xf (by simpa [e1]) ?_|apply wp_bs|apply wp_b|refine wp_sr ?_|refine wp_sx ?_|refine wp_ret' ?_|refine wp_skip' ?_|refine wp_exit' ?_)
  simp [zi273]
def idxB (n:Nat) (but:Int):List Int:=((List.range n).map fun v:Nat=>(v:Int)).filter fun v=>decide (v ≠ but)
def nlI:List Int→IV
  | []=>Z
  | x::r=>O (x::r)
theorem ev_indices (n:Nat) (but:Int) (hn:n≤1000):Ev tb zl212 [] [I n,I but] [] ⟨nlI (idxB n but),[],[],[]⟩:=by
  have loop:∀ (m i:Nat),i+m=n→wp tb (.loop z212l8) { T:=[(1,I but),(5,nlI (idxB i but)),(7,I n),(8,I i)],loc:=[],M:=[] }
      (fun ex st=>ex=.exit 0∧st={ T:=[(1,I but),(5,nlI (idxB n but)),(7,I n),(8,I n),(9,Bo false)],loc:=[],M:=[] }):=by
    intro m
    induction m with
    | zero =>
      intro i hi
      have h3:i=n:=hi
      subst h3
      cases idxB i but with
      | nil =>
        simp only [nlI]
        refine wp_loop ?_
        repeat (first|apply wp_as|apply wp_ss|refine wr (by simp;with_reducible rfl) ?_|refine wq (by simp;with_reducible rfl) ?_|refine wt (by simpa) ?_|refine wf (by simpa) ?_|refine xt (by simpa) ?_|refine xf (by simpa) ?_|apply wp_bs|apply wp_b|refine wp_sr ?_|refine wp_sx ?_|refine wp_ret' ?_|refine wp_skip' ?_|refine wp_exit' ?_)
        exact ⟨rfl,rfl⟩
      | cons x r =>
        simp only [nlI]
        refine wp_loop ?_
        repeat (first|apply wp_as|apply wp_ss|refine wr (by simp;with_reducible rfl) ?_|refine wq (by simp;with_reducible rfl) ?_|refine wt (by simpa) ?_|refine wf (by simpa) ?_|refine xt (by simpa) ?_|refine xf (by simpa) ?_|apply wp_bs|apply wp_b|refine wp_sr ?_|refine wp_sx ?_|refine wp_ret' ?_|refine wp_skip' ?_|refine wp_exit' ?_)
        exact ⟨rfl,rfl⟩
    | succ m ih =>
      intro i hi
      have hi2:i < n:=by omega
      have w2:IntKind.i64.wrap ((i:Int)+1)=((i+1:Nat):Int):=wrapS (by omega)
      have hn2:=ih (i+1) (by omega)
      have hs:idxB (i+1) but=idxB i but++if (i:Int)=but then [] else [(i:Int)]:=by
        simp only [idxB,List.range_succ,List.map_append,List.map_cons,List.map_nil,List.filter_append,List.filter_cons,List.filter_nil]
        congr 1
        by_cases h:(i:Int)=but <;> simp [h]
      rw [hs] at hn2
      have hal:(idxB i but).length≤i:=Nat.le_trans (List.length_filter_le _ _) (by simp)
      generalize idxB i but=A at *
      by_cases hb:but=(i:Int)
      · subst hb
        rw [if_pos rfl,List.append_nil] at hn2
        cases A with
        | nil =>
          rw [show nlI []=Z from rfl] at hn2 ⊢
          refine wp_loop ?_
          repeat (first|apply wp_as|apply wp_ss|refine wr (by simp [hi2,w2];with_reducible rfl) ?_|refine wq (by simp [hi2,w2];with_reducible rfl) ?_|refine wt (by simpa [hi2,w2]) ?_|refine wf (by simpa [hi2,w2]) ?_|refine xt (by simpa [hi2,w2]) ?_|refine xf (by simpa [hi2,w2]) ?_|apply wp_bs|apply wp_b|refine wp_sr ?_|refine wp_sx ?_|refine wp_ret' ?_|refine wp_skip' ?_|refine wp_exit' ?_)
          exact hn2
        | cons x r =>
          rw [show nlI (x::r)=O (x::r) from rfl] at hn2 ⊢
          refine wp_loop ?_
          repeat (first|apply wp_as|apply wp_ss|refine wr (by simp [hi2,w2];with_reducible rfl) ?_|refine wq (by simp [hi2,w2];with_reducible rfl) ?_|refine wt (by simpa [hi2,w2]) ?_|refine wf (by simpa [hi2,w2]) ?_|refine xt (by simpa [hi2,w2]) ?_|refine xf (by simpa [hi2,w2]) ?_|apply wp_bs|apply wp_b|refine wp_sr ?_|refine wp_sx ?_|refine wp_ret' ?_|refine wp_skip' ?_|refine wp_exit' ?_)
          exact hn2
      · have hb':¬ (i:Int)=but:=fun h=>hb h.symm
        rw [if_neg hb'] at hn2
        cases A with
        | nil =>
          rw [List.nil_append,show nlI [(i:Int)]=O [(i:Int)] from rfl] at hn2
          rw [show nlI []=Z from rfl]
          refine wp_loop ?_
          repeat (first|apply wp_as|apply wp_ss|refine wr (by simp [hi2,w2,hb'];with_reducible rfl) ?_|refine wq (by simp [hi2,w2,hb'];with_reducible rfl) ?_|refine wt (by simpa [hi2,w2,hb']) ?_|refine wf (by simpa [hi2,w2,hb']) ?_|refine xt (by simpa [hi2,w2,hb']) ?_|refine xf (by simpa [hi2,w2,hb']) ?_|apply wp_bs|apply wp_b|refine wp_sr ?_|refine wp_sx ?_|refine wp_ret' ?_|refine wp_skip' ?_|refine wp_exit' ?_)
          exact hn2
        | cons x r =>
          rw [show nlI (x::r++[(i:Int)])=O (x::r++[(i:Int)]) from rfl] at hn2
          rw [show nlI (x::r)=O (x::r) from rfl]
          have hal1:r.length+1+1≤274877906944:=by simp at hal;omega
          have hat:(x::r).take (r.length+1)=x::r:=List.take_of_length_le (by simp)
          refine wp_loop ?_
          repeat (first|apply wp_as|apply wp_ss|refine wr (by simp [hi2,w2,hb',hal1,hat];with_reducible rfl) ?_|refine wq (by simp [hi2,w2,hb',hal1,hat];with_reducible rfl) ?_|refine wt (by simpa [hi2,w2,hb',hal1,hat]) ?_|refine wf (by simpa [hi2,w2,hb',hal1,hat]) ?_|refine xt (by simpa [hi2,w2,hb',hal1,hat]) ?_|refine xf (by simpa [hi2,w2,hb',hal1,hat]) ?_|apply wp_bs|apply wp_b|refine wp_sr ?_|refine wp_sx ?_|refine wp_ret' ?_|refine wp_skip' ?_|refine wp_exit' ?_)
          exact hn2
  refine call_of_wp zt212 rfl ?_
  repeat (first|apply wp_as|apply wp_ss|refine wr (by simp;with_reducible rfl) ?_|refine wq (by simp;with_reducible rfl) ?_|refine wt (by simpa) ?_|refine wf (by simpa) ?_|refine xt (by simpa) ?_|refine xf (by simpa) ?_|apply wp_bs|apply wp_b|refine wp_sr ?_|refine wp_sx ?_|refine wp_ret' ?_|refine wp_skip' ?_|refine wp_exit' ?_)
  refine wp_imp (loop n 0 (by simp)) ?_
  rintro ex st ⟨rfl,rfl⟩
  try simp only [if_true]
  cases idxB n but with
  | nil =>
    simp only [nlI]
    repeat (first|apply wp_as|apply wp_ss|refine wr (by simp;with_reducible rfl) ?_|refine wq (by simp;with_reducible rfl) ?_|refine wt (by simpa) ?_|refine wf (by simpa) ?_|refine xt (by simpa) ?_|refine xf (by simpa) ?_|apply wp_bs|apply wp_b|refine wp_sr ?_|refine wp_sx ?_|refine wp_ret' ?_|refine wp_skip' ?_|refine wp_exit' ?_)
    simp [zi212]
  | cons x r =>
    simp only [nlI]
    repeat (first|apply wp_as|apply wp_ss|refine wr (by simp;with_reducible rfl) ?_|refine wq (by simp;with_reducible rfl) ?_|refine wt (by simpa) ?_|refine wf (by simpa) ?_|refine xt (by simpa) ?_|refine xf (by simpa) ?_|apply wp_bs|apply wp_b|refine wp_sr ?_|refine wp_sx ?_|refine wp_ret' ?_|refine wp_skip' ?_|refine wp_exit' ?_)
    simp [zi212]
end Go.Idl
namespace Go.Idl
open Go
def comp (d:List Int):List Int:=(List.range d.length).map fun k=>(d.length:Int) - 1 - d.getD k 0
end Go.Idl
namespace Go.Idl
open Go
def TT (n:Nat) (t:List (List Int)):Prop:=t.length=n∧∀ r ∈ t,r.length=n∧∀ x ∈ r,0≤x∧x≤1
theorem TT.set {n:Nat} {t:List (List Int)} (h:TT n t) {a b:Nat} {v:Int} (ha:a < t.length) (hv:0≤v∧v≤1):TT n (t.set a (t[a].set b v)):=by
  refine ⟨by simpa using h.1,fun r hr=>?_⟩
  have h1:=h.2 _ (List.getElem_mem ha)
  rcases List.mem_or_eq_of_mem_set hr with hr | rfl
  · exact h.2 r hr
  · refine ⟨by simpa using h1.1,fun x hx=>?_⟩
    rcases List.mem_or_eq_of_mem_set hx with hx | rfl
    · exact h1.2 x hx
    · exact hv
end Go.Idl
namespace Go.Idl
open Go
def TS (t:List (List Int)):Prop:=(1≤t.length∧t.length≤5)∧∀ r ∈ t,r.length≤5∧∀ x ∈ r,0≤x∧x≤1
theorem TS.small {t:List (List Int)} (h:TS t):Small2 t:=⟨by have:=h.1;omega,fun r hr=>⟨by have:=(h.2 r hr).1;omega,fun x hx=>by have:=(h.2 r hr).2 x hx;omega⟩⟩
theorem TT.ts {n:Nat} {t:List (List Int)} (h:TT n t) (h1:1≤n) (h5:n≤5):TS t:=⟨by have:=h.1;omega,fun r hr=>⟨by have:=(h.2 r hr).1;omega,(h.2 r hr).2⟩⟩
end Go.Idl
namespace Go.Idl
open Go
def sN (l:List Nat) (f:Nat→Int):Int:=(l.map f).sum
theorem sN_cons (x:Nat) (r:List Nat) (f:Nat→Int):sN (x::r) f=f x+sN r f:=by simp [sN]
theorem sN_add (l:List Nat) (f g:Nat→Int):sN l (fun a=>f a+g a)=sN l f+sN l g:=by
  induction l with
  | nil=>simp [sN]
  | cons x r ih=>simp only [sN_cons,ih];omega
theorem sN_congr {l:List Nat} {f g:Nat→Int} (h:∀ a ∈ l,f a=g a):sN l f=sN l g:=by
  unfold sN;rw [List.map_congr_left h]
theorem sN_one (l:List Nat):sN l (fun _=>1)=l.length:=by
  induction l with
  | nil=>simp [sN]
  | cons y r ih=>rw [sN_cons,ih];simp;omega
theorem within {g:Nat→Nat→Int}:∀ (X:List Nat),X.Nodup→(∀ a ∈ X,g a a=0)→(∀ a ∈ X,∀ b ∈ X,a ≠ b→g a b+g b a=1) →
    2 * sN X (fun a=>sN X (g a))=(X.length:Int) * ((X.length:Int) - 1)
  | [],_,_,_=>by simp [sN]
  | x::r,hd,h0,h1=>by
    have hd':=List.nodup_cons.1 hd
    have ih:=within r hd'.2 (fun a ha=>h0 a (by simp [ha])) (fun a ha b hb=>h1 a (by simp [ha]) b (by simp [hb]))
    have e1:sN r (fun a=>sN (x::r) (g a))=sN r (fun a=>g a x)+sN r (fun a=>sN r (g a)):=by
      rw [← sN_add];exact sN_congr fun a _=>sN_cons x r (g a)
    have e2:sN r (g x)+sN r (fun a=>g a x)=r.length:=by
      rw [← sN_add,sN_congr (g:=fun _=>1) (fun a ha=>h1 x (by simp) a (by simp [ha]) (fun e=>hd'.1 (by rw [e];exact ha))),sN_one]
    have e3:=h0 x (by simp)
    rw [sN_cons,sN_cons,e1,e3]
    simp only [List.length_cons]
    have:((r.length+1:Nat):Int) * (((r.length+1:Nat):Int) - 1)=(r.length:Int) * ((r.length:Int) - 1)+2 * r.length:=by
      rw [Int.natCast_add,Int.natCast_one,Int.add_sub_cancel,Int.add_mul,Int.mul_sub];omega
    rw [this,← ih];omega
end Go.Idl
namespace Go.Idl
open Go
theorem Tour.small {t:List (List Int)} (ht:Tour t):Small2 t :=
  ⟨by have:=ht.1;omega,fun r hr=>⟨by have:=(ht.2.1 r hr).1;have:=ht.1;omega,fun x hx=>by have:=(ht.2.1 r hr).2 x hx;omega⟩⟩
end Go.Idl
namespace Go.Idl
open Go
theorem tabF_self {n:Nat} {t:List (List Int)} (h:TT n t):tabF n n (g2 t)=t:=by
  refine List.ext_getElem (by simp [tabF,h.1]) fun i h1 h2=>?_
  have hr:=h.2 _ (List.getElem_mem h2)
  refine List.ext_getElem (by simp [tabF,mapR,hr.1]) fun k h3 h4=>?_
  simp [tabF,mapR,g2_eq h2 h4]
end Go.Idl
namespace Go.Idl
open Go
@[simp] theorem get_mid {α:Type} (A bs:List α) (x:α):(A++x::bs)[A.length]? = some x:=by simp
@[simp] theorem set_mid {α:Type} (A bs:List α) (x y:α):(A++x::bs).set A.length y=A++y::bs:=by
  rw [List.set_append_right _ _ (Nat.le_refl _)];simp
@[simp] theorem set_last {α:Type} (A:List α) (x y:α):(A++[x]).set A.length y=A++[y]:=set_mid A [] x y
end Go.Idl
namespace Go.Idl
open Go
def ahead (x y:List Int) (i m:Nat):Bool:=(List.range m).all fun j=>decide ((y.take (i+j+1)).sum≤(x.take (i+j+1)).sum)
end Go.Idl
namespace Go.Idl
open Go
def Fit (es:List (Int×Int)):Prop:=∀ e ∈ es,-9223372036854775808≤e.1∧e.1 < 9223372036854775808∧-9223372036854775808≤e.2∧e.2 < 9223372036854775808
def below (a b:Int×Int):Bool:=decide (a.1 < b.1) || (decide (a.1=b.1) && decide (a.2 < b.2))
theorem Fit.at {es:List (Int×Int)} (h:Fit es) {i:Nat} (hi:i < es.length):-9223372036854775808≤es[i].1∧es[i].1 < 9223372036854775808∧-9223372036854775808≤es[i].2∧es[i].2 < 9223372036854775808:=h _ (List.getElem_mem hi)
end Go.Idl
namespace Go.Idl
open Go
def nl2:List (Int×Int)→IV
  | []=>Z
  | e::es=>O2 (e::es)
@[simp] theorem nl2_nil:nl2 []=Z:=rfl
@[simp] theorem nl2_cons (e:Int×Int) (es:List (Int×Int)):nl2 (e::es)=O2 (e::es):=rfl
end Go.Idl
namespace Go.Idl
open Go
def decAt (o:List Int) (i:Nat):List Int:=o.set i (o.getD i 0 - 1)
def subs:List (Int×Int)→List Int→List (Int×Int)→List (List (Int×Int))
  | [],left,chosen=>if left.all (fun x=>decide (x=0)) then [chosen] else []
  | e::r,left,chosen =>
    (if 0 < left.getD e.1.toNat 0∧0 < left.getD e.2.toNat 0 then subs r (decAt (decAt left e.1.toNat) e.2.toNat) (chosen++[e]) else [])++subs r left chosen
end Go.Idl
namespace Go.Idl
open Go
def RT (w h:Nat) (t:List (List Int)):Prop:=t.length=w∧∀ r ∈ t,r.length=h
def set2 (t:List (List Int)) (i j:Nat) (v:Int):List (List Int):=t.set i ((t.getD i []).set j v)
theorem RT.set2 {w h:Nat} {t:List (List Int)} (ht:RT w h t) (i j:Nat) (v:Int) (hi:i < w):RT w h (set2 t i j v):=by
  have hi2:i < t.length:=by rw [ht.1];exact hi
  refine ⟨by simp [Go.Idl.set2,ht.1],fun r hr=>?_⟩
  rcases List.mem_or_eq_of_mem_set hr with hr | rfl
  · exact ht.2 r hr
  · have:t.getD i []=t[i]:=by simp [List.getD_eq_getElem?_getD,List.getElem?_eq_getElem hi2]
    rw [this,List.length_set]
    exact ht.2 _ (List.getElem_mem hi2)
def mts (may:Nat→Nat→Bool) (h:Nat):Nat→Nat→List Int→List Int→List (List Int)→List (List (List Int))
  | 0,_,l,r,t=>if 0 < l.sum ∨ 0 < r.sum then [] else [t]
  | m+1,k,l,r,t=>if (h:Int) - ((k % h:Nat):Int) < l.getD (k / h) 0 then [] else
     (if may (k / h) (k % h)=true∧0 < l.getD (k / h) 0∧0 < r.getD (k % h) 0 then mts may h m (k+1) (decAt l (k / h)) (decAt r (k % h)) (set2 t (k / h) (k % h) 1) else []) ++
     mts may h m (k+1) l r t
def Lil (xs:List Int):Prop:=∀ x ∈ xs,0≤x∧x≤1000
theorem Lil.sum {xs:List Int} (h:Lil xs):0≤xs.sum∧xs.sum≤1000 * xs.length:=by
  induction xs with
  | nil=>simp
  | cons x r ih =>
    have h1:=h x (by simp)
    have h2:=ih fun y hy=>h y (by simp [hy])
    simp only [List.sum_cons,List.length_cons];omega
theorem Lil.small {xs:List Int} (h:Lil xs) (hl:xs.length≤1000):SmallSum xs:=⟨by omega,fun k=>by
  have h1:Lil (xs.take k):=fun x hx=>h x (List.mem_of_mem_take hx)
  have h2:=h1.sum
  have h3:(xs.take k).length≤xs.length:=by simp;omega
  omega⟩
theorem Lil.dec {xs:List Int} (h:Lil xs) {i:Nat} (h0:0 < xs.getD i 0):Lil (decAt xs i):=fun x hx=>by
  rcases List.mem_or_eq_of_mem_set hx with hx | rfl
  · exact h x hx
  · rw [List.getD_eq_getElem?_getD] at h0 ⊢
    cases ho:xs[i]? with
    | none=>rw [ho] at h0;simp at h0
    | some y=>rw [ho] at h0;have:=h y (List.mem_of_getElem? ho);simp at h0 ⊢;omega
end Go.Idl
namespace Go.Idl
open Go
structure Cel (w h k i j:Nat):Prop where
  w5:w≤5
  h5:h≤5
  lt:k < w * h
  iw:i < w
  jh:j < h
  q1:(k:Int).tdiv (h:Int)=(i:Int)
  q2:(k:Int).tmod (h:Int)=(j:Int)
theorem Cel.n {w h k i j:Nat} (c:Cel w h k i j):IntKind.i64.wrap ((w:Int) * (h:Int))=((w * h:Nat):Int):=by
  have h1:w * h≤5 * 5:=Nat.mul_le_mul c.w5 c.h5
  rw [show ((w:Int) * (h:Int))=((w * h:Nat):Int) by omega]
  exact wrap64 (by omega) (by omega)
section
variable (w h:Nat) (rows cols:List Int) (cr cc:Bool) (A F:Lab) (caps:List IV) (hrl:rows.length=w) (hcl:cols.length=h) (may:Nat→Nat→Bool)
  (k i j:Nat) (hC:Cel w h k i j) (l r:List Int) (hll:l.length=w) (hrr:r.length=h) (t:List (List Int)) (il:i < l.length) (jr:j < r.length)
include hrl hcl hC hll hrr in
end
end Go.Idl
namespace Go.Idl
open Go
theorem getD_get {xs:List Int} {i:Nat} (h:i < xs.length):xs.getD i 0=xs[i]:=by simp [List.getD_eq_getElem?_getD,List.getElem?_eq_getElem h]
def Zf (w h k:Nat) (t:List (List Int)):Prop:=∀ i j,i < w→j < h→k≤i * h+j→g2 t i j=0
theorem Zf.succ {w h k:Nat} {t:List (List Int)} (hz:Zf w h k t):Zf w h (k+1) t:=fun i j hi hj hk=>hz i j hi hj (by omega)
theorem g2_set2 (t:List (List Int)) (i j a b:Nat) (v:Int) (hne:¬ (a=i∧b=j)):g2 (set2 t i j v) a b=g2 t a b:=by
  simp only [g2,set2,List.getD_eq_getElem?_getD,List.getElem?_set]
  by_cases hai:i=a
  · subst hai
    by_cases hi:i < t.length
    · simp only [hi,if_true,Option.getD_some,List.getElem?_set,List.getElem?_eq_getElem hi]
      rw [if_neg (fun q=>hne ⟨rfl,q.symm⟩)]
    · simp [hi]
  · rw [if_neg hai]
theorem Zf.set2 {w h k:Nat} {t:List (List Int)} (hz:Zf w h k t):Zf w h (k+1) (set2 t (k / h) (k % h) 1):=fun i j hi hj hk=>by
  rw [g2_set2]
  · exact hz i j hi hj (by omega)
  · rintro ⟨rfl,rfl⟩
    have:=Nat.div_add_mod k h
    rw [Nat.mul_comm] at this
    omega
end Go.Idl
namespace Go.Idl
open Go
def valS (xs:List Int):Bool:=(xs.all fun x=>decide (0≤x) && decide (x < xs.length)) && (decide (1≤(xs.length:Int)) && decide ((xs.length:Int)≤5))
theorem ev_validScores (xs:List Int) (c:Bool) (hl:xs.length≤2000000):Ev tb zl388 [] [L xs c] [] ⟨Bo (valS xs),[],[],[]⟩:=by
  have e1:=fun n=>ev_lim (ev_inRange n 0 ((xs.length:Int) - 1))
  have e2:=ev_lim (ev_inRange (xs.length:Int) 1 5)
  have w1:IntKind.i64.wrap ((xs.length:Int) - 1)=(xs.length:Int) - 1:=wrap64 (by omega) (by omega)
  have hx:∀ x:Int,(x≤(xs.length:Int) - 1) ↔ x < (xs.length:Int):=fun x=>by omega
  simp only [hx] at e1
  have loop:∀ (m i:Nat),i+m=xs.length→wp tb (.loop z388l6) { T:=[(0,L xs c),(3,I i)],loc:=[],M:=[] }
      (fun ex st=>(ex=.exit 0∧((xs.drop i).all fun x=>decide (0≤x) && decide (x < xs.length))=true∧st={ T:=[(0,L xs c),(3,I xs.length),(7,Bo false)],loc:=[],M:=[] }) ∨
        ex=.ret∧((xs.drop i).all fun x=>decide (0≤x) && decide (x < xs.length))=false∧st={ T:=[(2,Bo false)],loc:=[],M:=[] }):=by
    intro m
    induction m with
    | zero =>
      intro i hi
      obtain ⟨h1,h2⟩:=drop_end hi
      have h3:i=xs.length:=hi
      subst h3
      refine wp_loop ?_
      repeat (first|apply wp_as|apply wp_ss|refine wr (by simp;with_reducible rfl) ?_|refine wq (by simp;with_reducible rfl) ?_|refine wt (by simpa) ?_|refine wf (by simpa) ?_|refine xt (by simpa) ?_|refine xf (by simpa) ?_|apply wp_bs|apply wp_b|refine wp_sr ?_|refine wp_sx ?_|refine wp_ret' ?_|refine wp_skip' ?_|refine wp_exit' ?_)
      refine .inl ⟨rfl,by rw [h2];rfl,rfl⟩
    | succ m ih =>
      intro i hi
      obtain ⟨hi2,h2,h3⟩:=drop_get hi
      have w2:IntKind.i64.wrap ((i:Int)+1)=((i+1:Nat):Int):=wrapS (by omega)
      rw [h2]
      cases hpx:(decide (0≤xs[i]) && decide (xs[i] < (xs.length:Int))) with
      | true =>
        refine wp_loop ?_
        repeat (first|apply wp_as|apply wp_ss|refine wr (by simp [e1,hi2,w1,w2,hpx];with_reducible rfl) ?_|refine wq (by simp [e1,hi2,w1,w2,hpx];with_reducible rfl) ?_|refine wt (by simpa [e1,hi2,w1,w2,hpx]) ?_|refine wf (by simpa [e1,hi2,w1,w2,hpx]) ?_|refine xt (by simpa [e1,hi2,w1,w2,hpx]) ?_|refine xf (by simpa [e1,hi2,w1,w2,hpx]) ?_|apply wp_bs|apply wp_b|refine wp_sr ?_|refine wp_sx ?_|refine wp_ret' ?_|refine wp_skip' ?_|refine wp_exit' ?_)
        have:=ih (i+1) (by omega)
        simp only [List.all_cons,hpx,Bool.true_and] at this ⊢
        exact this
      | false =>
        refine wp_loop ?_
        repeat (first|apply wp_as|apply wp_ss|refine wr (by simp [e1,hi2,w1,w2,hpx];with_reducible rfl) ?_|refine wq (by simp [e1,hi2,w1,w2,hpx];with_reducible rfl) ?_|refine wt (by simpa [e1,hi2,w1,w2,hpx]) ?_|refine wf (by simpa [e1,hi2,w1,w2,hpx]) ?_|refine xt (by simpa [e1,hi2,w1,w2,hpx]) ?_|refine xf (by simpa [e1,hi2,w1,w2,hpx]) ?_|apply wp_bs|apply wp_b|refine wp_sr ?_|refine wp_sx ?_|refine wp_ret' ?_|refine wp_skip' ?_|refine wp_exit' ?_)
        refine .inr ⟨rfl,by simp only [List.all_cons,hpx,Bool.false_and],rfl⟩
  generalize hs:(decide (1≤(xs.length:Int)) && decide ((xs.length:Int)≤5))=b5 at e2
  refine call_of_wp zt388 rfl ?_
  repeat (first|apply wp_as|apply wp_ss|refine wr (by simp;with_reducible rfl) ?_|refine wq (by simp;with_reducible rfl) ?_|refine wt (by simpa) ?_|refine wf (by simpa) ?_|refine xt (by simpa) ?_|refine xf (by simpa) ?_|apply wp_bs|apply wp_b|refine wp_sr ?_|refine wp_sx ?_|refine wp_ret' ?_|refine wp_skip' ?_|refine wp_exit' ?_)
  refine wp_imp (loop xs.length 0 (by simp)) ?_
  rintro ex st (⟨rfl,h,rfl⟩ | ⟨rfl,h,rfl⟩)
  · simp only [if_true]
    repeat (first|apply wp_as|apply wp_ss|refine wr (by simp [e2];with_reducible rfl) ?_|refine wq (by simp [e2];with_reducible rfl) ?_|refine wt (by simpa [e2]) ?_|refine wf (by simpa [e2]) ?_|refine xt (by simpa [e2]) ?_|refine xf (by simpa [e2]) ?_|apply wp_bs|apply wp_b|refine wp_sr ?_|refine wp_sx ?_|refine wp_ret' ?_|refine wp_skip' ?_|refine wp_exit' ?_)
    simp only [List.drop_zero] at h
    simp only [valS,h,hs]
    simp [zi388]
  · simp only [List.drop_zero] at h
    simp only [valS,h]
    simp [zi388]
theorem valS_lil {xs:List Int} (h:valS xs=true):Lil xs∧xs.length≤5∧1≤xs.length:=by
  simp only [valS,Bool.and_eq_true,List.all_eq_true,decide_eq_true_eq] at h
  refine ⟨fun x hx=>?_,by omega,by omega⟩
  have:=h.1 x hx;omega
end Go.Idl
namespace Go.Idl
open Go
def zeroT (w h:Nat):List (List Int):=tabF w h fun _ _=>0
theorem zeroT_RT (w h:Nat):RT w h (zeroT w h):=by
  refine ⟨by simp [zeroT,tabF],fun r hr=>?_⟩
  simp only [zeroT,tabF,List.mem_map] at hr
  obtain ⟨i,_,rfl⟩:=hr
  simp [mapR]
def mayD (i j:Nat):Bool:=!decide (i=j)
def hasM2 (a b:List Int):Bool:=!(mts mayD b.length (a.length * b.length) 0 a b (zeroT a.length b.length)).isEmpty
def implD (a b:List Int):Bool:=decide (a.length=b.length) && (valS a && (valS b && hasM2 a b))
end Go.Idl
namespace Go.Idl
open Go
def ltL (l:List Int) (a b:Int):Bool:=decide (l.getD a.toNat 0 < l.getD b.toNat 0)
def rsRow (i:Nat):List Int→Nat→List Int→List (List Int)→List Int×List (List Int)
  | [],_,l,t=>(l,t)
  | k::r,at_,l,t=>if (at_:Int) < l.getD i 0 then rsRow i r (at_+1) l (set2 t i k.toNat 1) else rsRow i r (at_+1) (decAt l k.toNat) (set2 t k.toNat i 1)
def rsI (n:Nat):Nat→Nat→List Int→List (List Int)→List (List Int)
  | 0,_,_,t=>t
  | m+1,i,l,t=>rsI n m (i+1) (rsRow i (srtC (ltL l) [] ((idxB n (-1)).drop (i+1))) 0 l t).1 (rsRow i (srtC (ltL l) [] ((idxB n (-1)).drop (i+1))) 0 l t).2
def realI2 (s:List Int):List (List Int):=rsI s.length s.length 0 s (zeroT s.length s.length)
def Near (c:Nat) (l:List Int):Prop:=∀ x ∈ l,-(c:Int)≤x∧x≤1000
theorem Near.dec {c:Nat} {l:List Int} (h:Near c l) (k:Nat):Near (c+1) (decAt l k):=fun x hx=>by
  rcases List.mem_or_eq_of_mem_set hx with hx | rfl
  · have:=h x hx;omega
  · rw [List.getD_eq_getElem?_getD]
    cases ho:l[k]? with
    | none=>simp;omega
    | some y=>have:=h y (List.mem_of_getElem? ho);simp;omega
theorem Near.mono {c d:Nat} {l:List Int} (h:Near c l) (hd:c≤d):Near d l:=fun x hx=>by have:=h x hx;omega
theorem rsRow_ok {n i:Nat} (hi:i < n):∀ (js:List Int) (a c:Nat) (l:List Int) (t:List (List Int)),(∀ j ∈ js,0≤j∧j < n)→l.length=n→Near c l→RT n n t →
    (rsRow i js a l t).1.length=n∧Near (c+js.length) (rsRow i js a l t).1∧RT n n (rsRow i js a l t).2
  | [],a,c,l,t,_,hl,hc,ht=>⟨hl,by simpa [rsRow] using hc,ht⟩
  | j::js,a,c,l,t,hj,hl,hc,ht=>by
    have hjj:=hj j (by simp)
    rw [rsRow]
    split
    · obtain ⟨h1,h2,h3⟩:=rsRow_ok hi js (a+1) c l (set2 t i j.toNat 1) (fun k hk=>hj k (by simp [hk])) hl hc (ht.set2 _ _ _ hi)
      exact ⟨h1,h2.mono (by simp),h3⟩
    · obtain ⟨h1,h2,h3⟩:=rsRow_ok hi js (a+1) (c+1) (decAt l j.toNat) (set2 t j.toNat i 1) (fun k hk=>hj k (by simp [hk])) (by simpa [decAt] using hl) (hc.dec _) (ht.set2 _ _ _ (by omega))
      exact ⟨h1,h2.mono (by simp;omega),h3⟩
theorem ev_RS_F1 (i j:Nat) (M:List Boxes):Ev tb zl462 [] [I i,I j] M ⟨I 0,[],M,[]⟩:=by
  refine call_of_wp zt462 rfl ?_
  repeat (first|apply wp_as|apply wp_ss|refine wr (by simp;with_reducible rfl) ?_|refine wq (by simp;with_reducible rfl) ?_|refine wt (by simpa) ?_|refine wf (by simpa) ?_|refine xt (by simpa) ?_|refine xf (by simpa) ?_|apply wp_bs|apply wp_b|refine wp_sr ?_|refine wp_sx ?_|refine wp_ret' ?_|refine wp_skip' ?_|refine wp_exit' ?_)
  simp [zi462]
theorem ev_RS_F2 (l:List Int) (hl:Near 900 l) (a b:Nat) (ha:a < l.length) (hb:b < l.length) (Es:List Boxes) :
    Ev tb zl463 [] [I a,I b,.bptr 0 0 0] ([[O l]]::Es) ⟨I (l[a] - l[b]),[],[[O l]]::Es,[]⟩:=by
  have h1:=hl _ (List.getElem_mem ha)
  have h2:=hl _ (List.getElem_mem hb)
  have w1:IntKind.i64.wrap (l[a] - l[b])=l[a] - l[b]:=wrap64 (by omega) (by omega)
  refine call_of_wp zt463 rfl ?_
  repeat (first|apply wp_as|apply wp_ss|refine wr (by simp [ha,hb,w1];with_reducible rfl) ?_|refine wq (by simp [ha,hb,w1];with_reducible rfl) ?_|refine wt (by simpa [ha,hb,w1]) ?_|refine wf (by simpa [ha,hb,w1]) ?_|refine xt (by simpa [ha,hb,w1]) ?_|refine xf (by simpa [ha,hb,w1]) ?_|apply wp_bs|apply wp_b|refine wp_sr ?_|refine wp_sx ?_|refine wp_ret' ?_|refine wp_skip' ?_|refine wp_exit' ?_)
  simp [zi463]
theorem cmp_RS (l:List Int) (hl:Near 900 l):CmpOK vI zl463 [.bptr 0 0 0] (ltL l) (fun x=>0≤x∧x < l.length) [[[O l]],[],[]]:=by
  intro x y hx hy
  obtain ⟨a,rfl⟩:=Int.eq_ofNat_of_zero_le hx.1
  obtain ⟨b,rfl⟩:=Int.eq_ofNat_of_zero_le hy.1
  have ha:a < l.length:=by omega
  have hb:b < l.length:=by omega
  refine ⟨l[a] - l[b],?_,ev_RS_F2 l hl a b ha hb [[],[],[]]⟩
  simp only [ltL,Int.toNat_natCast,List.getD_eq_getElem?_getD,List.getElem?_eq_getElem ha,List.getElem?_eq_getElem hb,Option.getD_some]
  rw [decide_eq_decide];omega
set_option maxHeartbeats 2000000 in
theorem rs_in (n i:Nat) (hn:n≤5) (hi:i < n) (js:List Int) (hj:∀ j ∈ js,0≤j∧j < n) (hjl:js.length≤10) :
    ∀ (m a c:Nat) (l:List Int) (t:List (List Int)),a+m=js.length→l.length=n→Near c l→c+m≤900→RT n n t →
    wp tb (.loop z461l19) { T:=[(4,I n),(5,.bptr 0 0 0),(6,OT t),(7,I i),(8,O js),(21,I n),(22,I i),(26,.un),(33,.arr (.S 8) 0 [] 1 0 js.length false),(34,I js.length),(35,I a)],loc:=[[O l]],M:=[] }
      (fun ex st=>ex=.exit 2∧st={ T:=[(4,I n),(5,.bptr 0 0 0),(6,OT (rsRow i (js.drop a) a l t).2),(7,I i),(8,O js),(21,I n),(22,I i),(26,.un),(33,.arr (.S 8) 0 [] 1 0 js.length false),(34,I js.length),(35,I js.length),(36,Bo false)],loc:=[[O (rsRow i (js.drop a) a l t).1]],M:=[] }):=by
  intro m
  induction m with
  | zero =>
    intro a c l t ha hl hc hcm ht
    have h3:a=js.length:=ha
    subst h3
    rw [List.drop_length]
    refine wp_loop ?_
    repeat (first|apply wp_as|apply wp_ss|refine wr (by simp;with_reducible rfl) ?_|refine wq (by simp;with_reducible rfl) ?_|refine wt (by simpa) ?_|refine wf (by simpa) ?_|refine xt (by simpa) ?_|refine xf (by simpa) ?_|apply wp_bs|apply wp_b|refine wp_sr ?_|refine wp_sx ?_|refine wp_ret' ?_|refine wp_skip' ?_|refine wp_exit' ?_)
    exact ⟨rfl,rfl⟩
  | succ m ih =>
    intro a c l t ha hl hc hcm ht
    have hal:a < js.length:=by omega
    have hd:js.drop a=js[a]::js.drop (a+1):=List.drop_eq_getElem_cons hal
    obtain ⟨j,hjj⟩:=Int.eq_ofNat_of_zero_le (hj _ (List.getElem_mem hal)).1
    have hjn:=(hj _ (List.getElem_mem hal)).2
    have hj2:js[a].toNat=j:=by omega
    rw [hd,rsRow,hj2]
    have hil:i < l.length:=by omega
    have hjl2:j < l.length:=by omega
    have hit:i < t.length:=by rw [ht.1];exact hi
    have hjt:j < t.length:=by rw [ht.1];omega
    have hij:j < t[i].length:=by rw [ht.2 _ (List.getElem_mem hit)];omega
    have hji:i < t[j].length:=by rw [ht.2 _ (List.getElem_mem hjt)];omega
    have w2:IntKind.i64.wrap ((a:Int)+1)=((a+1:Nat):Int):=wrapS (by omega)
    rw [getD_get hil]
    by_cases hq:(a:Int) < l[i]
    · rw [if_pos hq]
      have hg:=ih (a+1) c l (set2 t i j 1) (by omega) hl hc (by omega) (ht.set2 _ _ _ hi)
      have ht2:set2 t i j 1=t.set i (t[i].set j 1):=by
        rw [set2];congr 2
        simp [List.getD_eq_getElem?_getD,List.getElem?_eq_getElem hit]
      rw [ht2] at hg ⊢
      refine wp_loop ?_
      repeat (first|apply wp_as|apply wp_ss|refine wr (by simp [hal,hjj,hil,hjl2,hq,hit,hjt,hij,hji,w2];with_reducible rfl) ?_|refine wq (by simp [hal,hjj,hil,hjl2,hq,hit,hjt,hij,hji,w2];with_reducible rfl) ?_|refine wt (by simpa [hal,hjj,hil,hjl2,hq,hit,hjt,hij,hji,w2]) ?_|refine wf (by simpa [hal,hjj,hil,hjl2,hq,hit,hjt,hij,hji,w2]) ?_|refine xt (by simpa [hal,hjj,hil,hjl2,hq,hit,hjt,hij,hji,w2]) ?_|refine xf (by simpa [hal,hjj,hil,hjl2,hq,hit,hjt,hij,hji,w2]) ?_|apply wp_bs|apply wp_b|refine wp_sr ?_|refine wp_sx ?_|refine wp_ret' ?_|refine wp_skip' ?_|refine wp_exit' ?_)
      exact hg
    · rw [if_neg hq]
      have hg:=ih (a+1) (c+1) (decAt l j) (set2 t j i 1) (by omega) (by simpa [decAt] using hl) (hc.dec _) (by omega) (ht.set2 _ _ _ (by omega))
      have ht2:set2 t j i 1=t.set j (t[j].set i 1):=by
        rw [set2];congr 2
        simp [List.getD_eq_getElem?_getD,List.getElem?_eq_getElem hjt]
      have hdl:decAt l j=l.set j (l[j] - 1):=by rw [decAt,getD_get hjl2]
      have hb:=hc _ (List.getElem_mem hjl2)
      have w3:IntKind.i64.wrap (l[j] - 1)=l[j] - 1:=wrap64 (by omega) (by omega)
      rw [ht2,hdl] at hg ⊢
      refine wp_loop ?_
      repeat (first|apply wp_as|apply wp_ss|refine wr (by simp [hal,hjj,hil,hjl2,hq,hit,hjt,hij,hji,w2,w3];with_reducible rfl) ?_|refine wq (by simp [hal,hjj,hil,hjl2,hq,hit,hjt,hij,hji,w2,w3];with_reducible rfl) ?_|refine wt (by simpa [hal,hjj,hil,hjl2,hq,hit,hjt,hij,hji,w2,w3]) ?_|refine wf (by simpa [hal,hjj,hil,hjl2,hq,hit,hjt,hij,hji,w2,w3]) ?_|refine xt (by simpa [hal,hjj,hil,hjl2,hq,hit,hjt,hij,hji,w2,w3]) ?_|refine xf (by simpa [hal,hjj,hil,hjl2,hq,hit,hjt,hij,hji,w2,w3]) ?_|apply wp_bs|apply wp_b|refine wp_sr ?_|refine wp_sx ?_|refine wp_ret' ?_|refine wp_skip' ?_|refine wp_exit' ?_)
      exact hg
theorem drop_in {n i:Nat} {lt:Int→Int→Bool}:∀ v ∈ srtC lt [] ((idxB n (-1)).drop i),0≤v∧v < n:=by
  intro v hv
  have:=(srtC_perm lt ((idxB n (-1)).drop i) []).mem_iff.1 hv
  rw [List.nil_append] at this
  have:=List.mem_of_mem_drop this
  rw [idxB] at this
  obtain ⟨k,hk,rfl⟩:=List.mem_map.1 (List.mem_filter.1 this).1
  have:=List.mem_range.1 hk
  omega
theorem drop_len {n i:Nat} (lt:Int→Int→Bool):(srtC lt [] ((idxB n (-1)).drop i)).length≤n:=by
  have h1:=(srtC_perm lt ((idxB n (-1)).drop i) []).length_eq
  have h2:(idxB n (-1)).length≤n:=by rw [idxB];exact Nat.le_trans (List.length_filter_le _ _) (by simp)
  rw [h1];simp;omega
set_option maxHeartbeats 2000000 in
theorem rs_out (n:Nat) (hn:n≤5) (h1:1≤n):∀ (m i c:Nat) (l:List Int) (t:List (List Int)),i+m=n→l.length=n→Near c l→c+10 * m≤800→RT n n t →
    wp tb (.loop z461l21) { T:=[(4,I n),(5,.bptr 0 0 0),(6,OT t),(21,I n),(22,I i)],loc:=[[O l]],M:=[] }
      (fun ex st=>ex=.exit 0∧∃ l',st={ T:=[(4,I n),(5,.bptr 0 0 0),(6,OT (rsI n m i l t)),(21,I n),(22,I n),(23,Bo false)],loc:=[[O l']],M:=[] }):=by
  intro m
  induction m with
  | zero =>
    intro i c l t hi hl hc hcm ht
    have h3:i=n:=hi
    subst h3
    refine wp_loop ?_
    repeat (first|apply wp_as|apply wp_ss|refine wr (by simp;with_reducible rfl) ?_|refine wq (by simp;with_reducible rfl) ?_|refine wt (by simpa) ?_|refine wf (by simpa) ?_|refine xt (by simpa) ?_|refine xf (by simpa) ?_|apply wp_bs|apply wp_b|refine wp_sr ?_|refine wp_sx ?_|refine wp_ret' ?_|refine wp_skip' ?_|refine wp_exit' ?_)
    exact ⟨rfl,l,rfl⟩
  | succ m ih =>
    intro i c l t hi hl hc hcm ht
    have hi2:i < n:=by omega
    have w2:IntKind.i64.wrap ((i:Int)+1)=((i+1:Nat):Int):=wrapS (by omega)
    have e1:=ev_lim (ev_indices n (-1) (by omega))
    have hidl:(idxB n (-1)).length=n:=by
      rw [idxB,List.filter_eq_self.2 (by intro a ha;obtain ⟨v,_,rfl⟩:=List.mem_map.1 ha;rw [decide_eq_true_eq];omega)];simp
    have hidn:nlI (idxB n (-1))=O (idxB n (-1)):=by
      cases hq:idxB n (-1) with
      | nil=>rw [hq] at hidl;simp at hidl;omega
      | cons a b=>rfl
    rw [hidn] at e1
    have e2:=ev_lim (ev_SortStable zl463 [.bptr 0 0 0] (ltL l) (fun x=>0≤x∧x < l.length) [[[O l]]] (cmp_RS l (hc.mono (by omega))) ((idxB n (-1)).drop (i+1)) (by rw [List.length_drop,hidl];omega) (fun x hx=>by
      have:=List.mem_of_mem_drop hx
      rw [idxB] at this
      obtain ⟨k,hk,rfl⟩:=List.mem_map.1 (List.mem_filter.1 this).1
      have:=List.mem_range.1 hk
      omega))
    have hdl:=drop_len (n:=n) (i:=i+1) (ltL l)
    have hin:=rs_in n i hn hi2 (srtC (ltL l) [] ((idxB n (-1)).drop (i+1))) drop_in (by omega) (srtC (ltL l) [] ((idxB n (-1)).drop (i+1))).length 0 c l t (by omega) hl hc (by omega) ht
    have hok:=rsRow_ok hi2 (srtC (ltL l) [] ((idxB n (-1)).drop (i+1))) 0 c l t drop_in hl hc ht
    rw [rsI]
    rw [List.drop_zero,show ((0:Nat):Int)=0 from rfl] at hin
    have hix:(List.drop (i+1) (idxB n (-1))).length=n - (i+1):=by rw [List.length_drop,hidl]
    have hle:i+1≤n:=by omega
    generalize srtC (ltL l) [] ((idxB n (-1)).drop (i+1))=js at *
    have hT:List.take (n - (i+1)) (List.drop (i+1) (idxB n (-1)))=List.drop (i+1) (idxB n (-1)):=List.take_of_length_le (by omega)
    generalize idxB n (-1)=ix at *
    refine wp_loop ?_
    repeat (first|apply wp_as|apply wp_ss|refine wr (by simp [hi2,e1,e2,w2,hidl,hle,hT];with_reducible rfl) ?_|refine wq (by simp [hi2,e1,e2,w2,hidl,hle,hT];with_reducible rfl) ?_|refine wt (by simpa [hi2,e1,e2,w2,hidl,hle,hT]) ?_|refine wf (by simpa [hi2,e1,e2,w2,hidl,hle,hT]) ?_|refine xt (by simpa [hi2,e1,e2,w2,hidl,hle,hT]) ?_|refine xf (by simpa [hi2,e1,e2,w2,hidl,hle,hT]) ?_|apply wp_bs|apply wp_b|refine wp_sr ?_|refine wp_sx ?_|refine wp_ret' ?_|refine wp_skip' ?_|refine wp_exit' ?_)
    refine wp_imp hin ?_
    rintro ex st ⟨rfl,rfl⟩
    have hg:=ih (i+1) (c+js.length) _ _ (by omega) hok.1 hok.2.1 (by omega) hok.2.2
    try simp only [if_true]
    repeat (first|apply wp_as|apply wp_ss|refine wr (by simp [w2];with_reducible rfl) ?_|refine wq (by simp [w2];with_reducible rfl) ?_|refine wt (by simpa [w2]) ?_|refine wf (by simpa [w2]) ?_|refine xt (by simpa [w2]) ?_|refine xf (by simpa [w2]) ?_|apply wp_bs|apply wp_b|refine wp_sr ?_|refine wp_sx ?_|refine wp_ret' ?_|refine wp_skip' ?_|refine wp_exit' ?_)
    exact hg
set_option maxHeartbeats 2000000 in
theorem ev_RealizeScores (s:List Int) (c:Bool) (h1:1≤s.length∧s.length≤5) (hs:∀ x ∈ s,0≤x∧x≤(s.length:Int) - 1) :
    Ev tb zl461 [] [L s c] [] ⟨if isScr s=true then .tup [OT (realI2 s),Bo true] else .tup [Z,Bo false],[],[],[]⟩:=by
  have e1:=fun c=>ev_lim (ev_IsScores s c h1 hs)
  cases hv:isScr s with
  | false =>
    rw [hv] at e1
    refine call_of_wp zt461 rfl ?_
    repeat (first|apply wp_as|apply wp_ss|refine wr (by simp [e1];with_reducible rfl) ?_|refine wq (by simp [e1];with_reducible rfl) ?_|refine wt (by simpa [e1]) ?_|refine wf (by simpa [e1]) ?_|refine xt (by simpa [e1]) ?_|refine xf (by simpa [e1]) ?_|apply wp_bs|apply wp_b|refine wp_sr ?_|refine wp_sx ?_|refine wp_ret' ?_|refine wp_skip' ?_|refine wp_exit' ?_)
    simp [zi461]
  | true =>
    rw [hv] at e1
    have e2:=fun c=>ev_lim (ev_clone s c (by omega))
    have e3:=fun M=>ev_lim (ev_table s.length s.length zl462 [] M (fun _ _=>0) (by omega) (by omega) fun i k _ _=>ev_RS_F1 i k _)
    have e3:∀ M,limF tb zl41 [] [I s.length,I s.length,.fn zl462 []] M=some ⟨OT (zeroT s.length s.length),[],M,[]⟩:=e3
    have hlo:=rs_out s.length h1.2 h1.1 s.length 0 0 s (zeroT s.length s.length) (by omega) rfl (fun x hx=>by have:=hs x hx;omega) (by omega) (zeroT_RT _ _)
    rw [show ((0:Nat):Int)=0 from rfl] at hlo
    unfold realI2
    generalize zeroT s.length s.length=t0 at *
    generalize rsI s.length s.length 0 s t0=t1 at *
    refine call_of_wp zt461 rfl ?_
    repeat (first|apply wp_as|apply wp_ss|refine wr (by simp [e1,e2,e3];with_reducible rfl) ?_|refine wq (by simp [e1,e2,e3];with_reducible rfl) ?_|refine wt (by simpa [e1,e2,e3]) ?_|refine wf (by simpa [e1,e2,e3]) ?_|refine xt (by simpa [e1,e2,e3]) ?_|refine xf (by simpa [e1,e2,e3]) ?_|apply wp_bs|apply wp_b|refine wp_sr ?_|refine wp_sx ?_|refine wp_ret' ?_|refine wp_skip' ?_|refine wp_exit' ?_)
    refine wp_imp hlo ?_
    rintro ex st ⟨rfl,l',rfl⟩
    try simp only [if_true]
    repeat (first|apply wp_as|apply wp_ss|refine wr (by simp;with_reducible rfl) ?_|refine wq (by simp;with_reducible rfl) ?_|refine wt (by simpa) ?_|refine wf (by simpa) ?_|refine xt (by simpa) ?_|refine xf (by simpa) ?_|apply wp_bs|apply wp_b|refine wp_sr ?_|refine wp_sx ?_|refine wp_ret' ?_|refine wp_skip' ?_|refine wp_exit' ?_)
    simp [zi461]
theorem ev_RealizeScores_no (s:List Int) (c:Bool) (h:limF tb zl11 [] [L s c] []=some ⟨Bo false,[],[],[]⟩):Ev tb zl461 [] [L s c] [] ⟨.tup [Z,Bo false],[],[],[]⟩:=by
  refine call_of_wp zt461 rfl ?_
  repeat (first|apply wp_as|apply wp_ss|refine wr (by simp [h];with_reducible rfl) ?_|refine wq (by simp [h];with_reducible rfl) ?_|refine wt (by simpa [h]) ?_|refine wf (by simpa [h]) ?_|refine xt (by simpa [h]) ?_|refine xf (by simpa [h]) ?_|apply wp_bs|apply wp_b|refine wp_sr ?_|refine wp_sx ?_|refine wp_ret' ?_|refine wp_skip' ?_|refine wp_exit' ?_)
  simp [zi461]
end Go.Idl
namespace Go.Idl
open Go
theorem tail_sum (l:List Int) (k:Nat) (hk:k≤l.length):(l.drop (l.length - k)).sum=(l.reverse.take k).sum:=by
  rw [List.take_reverse,perm_sum (List.reverse_perm (l.drop (l.length - k)))]
theorem ev_scoreSlacks (s:List Int) (c:Bool) (hs:Few s):Ev tb zl493 [] [L s c] [] ⟨O (over s),[],[],[]⟩:=by
  have hl:=hs.1
  have e1:=ev_lim (ev_spec_falling s c (by omega))
  have hfl:(fall s).length=s.length:=fall_len s
  have loop:∀ (m i:Nat),i+m=s.length→wp tb (.loop z493l7) { T:=[(0,L s c),(3,O (fall s)),(4,O (mapR i (overT s))),(5,I ((i:Int)+1))],loc:=[],M:=[] }
      (fun ex st=>ex=.exit 0∧st={ T:=[(0,L s c),(3,O (fall s)),(4,O (over s)),(5,I ((s.length:Int)+1)),(12,Bo false)],loc:=[],M:=[] }):=by
    intro m
    induction m with
    | zero =>
      intro i hi
      have h3:i=s.length:=hi
      subst h3
      have hq:¬ ((s.length:Int)+1≤s.length):=by omega
      refine wp_loop ?_
      repeat (first|apply wp_as|apply wp_ss|refine wr (by simp [hq];with_reducible rfl) ?_|refine wq (by simp [hq];with_reducible rfl) ?_|refine wt (by simpa [hq]) ?_|refine wf (by simpa [hq]) ?_|refine xt (by simpa [hq]) ?_|refine xf (by simpa [hq]) ?_|apply wp_bs|apply wp_b|refine wp_sr ?_|refine wp_sx ?_|refine wp_ret' ?_|refine wp_skip' ?_|refine wp_exit' ?_)
      simp [over]
    | succ m ih =>
      intro i hi
      have hi2:i < s.length:=by omega
      have hi3:(i:Int)+1≤s.length:=by omega
      have w2:IntKind.i64.wrap ((i:Int)+1+1)=(i:Int)+1+1:=wrap64 (by omega) (by omega)
      obtain ⟨p,hp⟩:∃ p,p=s.length - (i+1):=⟨_,rfl⟩
      have w7:IntKind.i64.wrap ((s.length:Int) - ((i:Int)+1))=(p:Int):=by rw [wrap64 (by omega) (by omega)];omega
      have w6:IntKind.i64.wrap (i:Int)=(i:Int):=wrapN (by omega)
      have hdl:((fall s).drop p).length=i+1:=by rw [List.length_drop,hfl];omega
      have hsd:((fall s).drop p).sum=((asc0 s).take (i+1)).sum:=by
        rw [asc0,← tail_sum (fall s) (i+1) (by omega),hfl,hp]
      have hfd:Few ((fall s).drop p):=⟨by rw [hdl];omega,fun x hx=>hs.fall.2 x (List.mem_of_mem_drop hx)⟩
      have hsum:=hfd.sum
      have e3:=fun cc=>ev_lim (ev_spec_sum ((fall s).drop p) cc hfd.small)
      rw [hsd] at e3 hsum
      have hmm:0≤((i:Int)+1) * i∧((i:Int)+1) * i≤56:=by
        have h8:i≤6:=by omega
        have:∀ j:Nat,j≤6→0≤((j:Int)+1) * j∧((j:Int)+1) * j≤56:=by decide
        exact this i h8
      have w3:IntKind.i64.wrap (((i:Int)+1) * i)=((i:Int)+1) * i:=wrap64 (by omega) (by omega)
      have hq:Int.tdiv (((i:Int)+1) * i) 2=((i:Int)+1) * i / 2:=by rw [Int.tdiv_eq_ediv_of_nonneg hmm.1]
      have w4:IntKind.i64.wrap (((i:Int)+1) * i / 2)=((i:Int)+1) * i / 2:=wrap64 (by omega) (by omega)
      have w5:IntKind.i64.wrap (((asc0 s).take (i+1)).sum - ((i:Int)+1) * i / 2)=overT s i:=by rw [overT];exact wrap64 (by omega) (by omega)
      have hT:List.take (s.length - p) (List.drop p (fall s))=List.drop p (fall s):=List.take_of_length_le (by rw [hdl];omega)
      have hpl:p≤s.length:=by omega
      have hln:(mapR i (overT s)).length=i:=by simp [mapR]
      have h9:i+1≤274877906944:=by omega
      have hTm:List.take i (mapR i (overT s))=mapR i (overT s):=List.take_of_length_le (by omega)
      have hsucc:mapR i (overT s)++[overT s i]=mapR (i+1) (overT s):=by simp [mapR,List.range_succ]
      refine wp_loop ?_
      repeat (first|apply wp_as|apply wp_ss|refine wr (by simp [hi3,hfl,w7,w6,hT,hpl,e3,w3,hq,w4,w5,w2,hln,h9,hTm,hsucc];with_reducible rfl) ?_|refine wq (by simp [hi3,hfl,w7,w6,hT,hpl,e3,w3,hq,w4,w5,w2,hln,h9,hTm,hsucc];with_reducible rfl) ?_|refine wt (by simpa [hi3,hfl,w7,w6,hT,hpl,e3,w3,hq,w4,w5,w2,hln,h9,hTm,hsucc]) ?_|refine wf (by simpa [hi3,hfl,w7,w6,hT,hpl,e3,w3,hq,w4,w5,w2,hln,h9,hTm,hsucc]) ?_|refine xt (by simpa [hi3,hfl,w7,w6,hT,hpl,e3,w3,hq,w4,w5,w2,hln,h9,hTm,hsucc]) ?_|refine xf (by simpa [hi3,hfl,w7,w6,hT,hpl,e3,w3,hq,w4,w5,w2,hln,h9,hTm,hsucc]) ?_|apply wp_bs|apply wp_b|refine wp_sr ?_|refine wp_sx ?_|refine wp_ret' ?_|refine wp_skip' ?_|refine wp_exit' ?_)
      have:=ih (i+1) (by omega)
      simpa using this
  have:=loop 0
  have hgo:=loop s.length 0 (by omega)
  rw [show mapR 0 (overT s)=[] from rfl] at hgo
  simp only [O,ints_nil] at hgo
  refine call_of_wp zt493 rfl ?_
  repeat (first|apply wp_as|apply wp_ss|refine wr (by simp [e1];with_reducible rfl) ?_|refine wq (by simp [e1];with_reducible rfl) ?_|refine wt (by simpa [e1]) ?_|refine wf (by simpa [e1]) ?_|refine xt (by simpa [e1]) ?_|refine xf (by simpa [e1]) ?_|apply wp_bs|apply wp_b|refine wp_sr ?_|refine wp_sx ?_|refine wp_ret' ?_|refine wp_skip' ?_|refine wp_exit' ?_)
  refine wp_imp hgo ?_
  rintro ex st ⟨rfl,rfl⟩
  try simp only [if_true]
  repeat (first|apply wp_as|apply wp_ss|refine wr (by simp;with_reducible rfl) ?_|refine wq (by simp;with_reducible rfl) ?_|refine wt (by simpa) ?_|refine wf (by simpa) ?_|refine xt (by simpa) ?_|refine xf (by simpa) ?_|apply wp_bs|apply wp_b|refine wp_sr ?_|refine wp_sx ?_|refine wp_ret' ?_|refine wp_skip' ?_|refine wp_exit' ?_)
  simp [zi493]
theorem ev_isScores (s:List Int) (c:Bool) (hs:Few s) (h1:1≤s.length):Ev tb zl492 [] [L s c] [] ⟨Bo (isScr s),[],[],[]⟩:=by
  have hl:=hs.1
  have e1:=ev_lim (ev_scoreSlacks s c hs)
  have hol:=over_len s
  have e2:=fun c=>ev_lim (ev_least (over s) c (by omega))
  have hz:=least_zero (over s)
  have hx:isScr s=if least (over s)=0 then decide ((over s).getD (s.length - 1) 0=0) else false:=by
    rw [isScr]
    by_cases h:least (over s)=0
    · rw [if_pos h,decide_eq_true (hz.1 h)];rfl
    · rw [if_neg h,decide_eq_false (fun q=>h (hz.2 q))];rfl
  rw [hx]
  obtain ⟨n,hn⟩:∃ n,s.length=n+1:=⟨s.length - 1,by omega⟩
  rw [hn] at hol ⊢
  generalize over s=o at *
  have w1:IntKind.i64.wrap ((n:Int)+1 - 1)=(n:Int):=by rw [wrap64 (by omega) (by omega)];omega
  have w2:IntKind.i64.wrap (n:Int)=(n:Int):=wrapN (by omega)
  have hno:n < o.length:=by omega
  have hn1:n < n+1:=by omega
  have hto:List.take (n+1) o=o:=List.take_of_length_le (by omega)
  rw [Nat.add_sub_cancel,getD_get hno]
  by_cases h:least o=0
  · rw [if_pos h]
    refine call_of_wp zt492 rfl ?_
    repeat (first|apply wp_as|apply wp_ss|refine wr (by simp [e1,e2,h,hol,hto,w1,w2,hno,hn1];with_reducible rfl) ?_|refine wq (by simp [e1,e2,h,hol,hto,w1,w2,hno,hn1];with_reducible rfl) ?_|refine wt (by simpa [e1,e2,h,hol,hto,w1,w2,hno,hn1]) ?_|refine wf (by simpa [e1,e2,h,hol,hto,w1,w2,hno,hn1]) ?_|refine xt (by simpa [e1,e2,h,hol,hto,w1,w2,hno,hn1]) ?_|refine xf (by simpa [e1,e2,h,hol,hto,w1,w2,hno,hn1]) ?_|apply wp_bs|apply wp_b|refine wp_sr ?_|refine wp_sx ?_|refine wp_ret' ?_|refine wp_skip' ?_|refine wp_exit' ?_)
    simp [zi492]
    rfl
  · rw [if_neg h]
    refine call_of_wp zt492 rfl ?_
    repeat (first|apply wp_as|apply wp_ss|refine wr (by simp [e1,e2,h,hol,hto];with_reducible rfl) ?_|refine wq (by simp [e1,e2,h,hol,hto];with_reducible rfl) ?_|refine wt (by simpa [e1,e2,h,hol,hto]) ?_|refine wf (by simpa [e1,e2,h,hol,hto]) ?_|refine xt (by simpa [e1,e2,h,hol,hto]) ?_|refine xf (by simpa [e1,e2,h,hol,hto]) ?_|apply wp_bs|apply wp_b|refine wp_sr ?_|refine wp_sx ?_|refine wp_ret' ?_|refine wp_skip' ?_|refine wp_exit' ?_)
    simp [zi492]
theorem valS_few {s:List Int} (h:valS s=true):Few s∧(1≤s.length∧s.length≤5)∧∀ x ∈ s,0≤x∧x≤(s.length:Int) - 1:=by
  simp only [valS,Bool.and_eq_true,List.all_eq_true,decide_eq_true_eq] at h
  refine ⟨⟨by omega,fun x hx=>by have:=h.1 x hx;omega⟩,by omega,fun x hx=>by have:=h.1 x hx;omega⟩
theorem ev_IsScores_all (s:List Int) (c:Bool) (hl:s.length≤2000000):Ev tb zl11 [] [L s c] [] ⟨Bo (valS s && isScr s),[],[],[]⟩:=by
  cases hv:valS s with
  | true =>
    obtain ⟨h1,h2,h3⟩:=valS_few hv
    exact ev_IsScores s c h2 h3
  | false =>
    have e1:=ev_lim (ev_in (s.length:Int) 1 5)
    have e2:=ev_lim (ev_allIn s c 0 ((s.length:Int) - 1) (by omega))
    have w1:IntKind.i64.wrap ((s.length:Int) - 1)=(s.length:Int) - 1:=wrap64 (by omega) (by omega)
    have hx:(s.all fun x=>decide (0≤x) && decide (x≤(s.length:Int) - 1))=(s.all fun x=>decide (0≤x) && decide (x < s.length)):=by
      congr 1;funext x;congr 1;rw [decide_eq_decide];omega
    rw [hx] at e2
    rw [valS] at hv
    generalize (s.all fun x=>decide (0≤x) && decide (x < (s.length:Int)))=p at *
    generalize (decide (1≤(s.length:Int)) && decide ((s.length:Int)≤5))=q at *
    cases q with
    | false =>
      refine call_of_wp zt11 rfl ?_
      repeat (first|apply wp_as|apply wp_ss|refine wr (by simp [e1];with_reducible rfl) ?_|refine wq (by simp [e1];with_reducible rfl) ?_|refine wt (by simpa [e1]) ?_|refine wf (by simpa [e1]) ?_|refine xt (by simpa [e1]) ?_|refine xf (by simpa [e1]) ?_|apply wp_bs|apply wp_b|refine wp_sr ?_|refine wp_sx ?_|refine wp_ret' ?_|refine wp_skip' ?_|refine wp_exit' ?_)
      simp [zi11]
    | true =>
      simp only [Bool.and_true] at hv
      subst hv
      refine call_of_wp zt11 rfl ?_
      repeat (first|apply wp_as|apply wp_ss|refine wr (by simp [e1,e2,w1];with_reducible rfl) ?_|refine wq (by simp [e1,e2,w1];with_reducible rfl) ?_|refine wt (by simpa [e1,e2,w1]) ?_|refine wf (by simpa [e1,e2,w1]) ?_|refine xt (by simpa [e1,e2,w1]) ?_|refine xf (by simpa [e1,e2,w1]) ?_|apply wp_bs|apply wp_b|refine wp_sr ?_|refine wp_sx ?_|refine wp_ret' ?_|refine wp_skip' ?_|refine wp_exit' ?_)
      simp [zi11]
end Go.Idl
namespace Go.Idl
open Go
def bestF (l low:List Int):List Int→Int→Int
  | [],best=>best
  | b::r,best=>bestF l low r (if b ∈ low then best else if best < 0 then b else if l.getD b.toNat 0 < l.getD best.toNat 0 then b else best)
def lowF (l cands:List Int):Nat→List Int→List Int
  | 0,low=>low
  | k+1,low=>lowF l cands k (low++[bestF l low cands (-1)])
def spRow (i:Nat) (low:List Int):List Int→List Int→List (List Int)→List Int×List (List Int)
  | [],l,t=>(l,t)
  | b::r,l,t=>if b ∈ low then spRow i low r l (set2 t i b.toNat 1) else spRow i low r (decAt l b.toNat) (set2 t b.toNat i 1)
def upN (i:Nat):Nat→List Int
  | 0=>[]
  | m+1=>(i:Int)::upN (i+1) m
def rsS (n:Nat):Nat→Nat→List Int→List (List Int)→List (List Int)
  | 0,_,_,t=>t
  | m+1,i,l,t=>rsS n m (i+1) (spRow i (lowF l (upN (i+1) m) (l.getD i 0).toNat []) (upN (i+1) m) l t).1 (spRow i (lowF l (upN (i+1) m) (l.getD i 0).toNat []) (upN (i+1) m) l t).2
def realS2 (s:List Int):List (List Int):=rsS s.length s.length 0 s (zeroT s.length s.length)
theorem zeroT_rep (n:Nat):zeroT n n=List.replicate n (List.replicate n 0):=by
  refine List.ext_getElem (by simp [zeroT,tabF]) fun i h1 h2=>?_
  simp only [zeroT,tabF,List.getElem_map,List.getElem_replicate]
  refine List.ext_getElem (by simp [mapR]) fun j h3 h4=>by simp [mapR]
theorem rz_best (n:Nat) (hn:n≤5) (s l low:List Int) (c:Bool) (t0:List (List Int)) (i:Nat) (hsl:s.length=n) (hl:l.length=n) (hlow:low.length≤1000):∀ (m b:Nat) (best:Int),b+m=n→best < n→-1≤best →
    wp tb (.loop z577l20) { T:=[(0,L s c),(4,O l),(5,OT t0),(7,I i),(8,O low),(9,I best),(10,I b)],loc:=[],M:=[] }
      (fun ex st=>ex=.exit 6∧(bestF l low (upN b m) best < n∧-1≤bestF l low (upN b m) best)∧st={ T:=[(0,L s c),(4,O l),(5,OT t0),(7,I i),(8,O low),(9,I (bestF l low (upN b m) best)),(10,I n),(54,Bo false)],loc:=[],M:=[] }):=by
  intro m
  induction m with
  | zero =>
    intro b best hb h1 h2
    have h3:b=n:=hb
    subst h3
    refine wp_loop ?_
    repeat (first|apply wp_as|apply wp_ss|refine wr (by simp [hsl];with_reducible rfl) ?_|refine wq (by simp [hsl];with_reducible rfl) ?_|refine wt (by simpa [hsl]) ?_|refine wf (by simpa [hsl]) ?_|refine xt (by simpa [hsl]) ?_|refine xf (by simpa [hsl]) ?_|apply wp_bs|apply wp_b|refine wp_sr ?_|refine wp_sx ?_|refine wp_ret' ?_|refine wp_skip' ?_|refine wp_exit' ?_)
    exact ⟨rfl,⟨h1,h2⟩,rfl⟩
  | succ m ih =>
    intro b best hb h1 h2
    have hbn:b < n:=by omega
    have hbl:b < l.length:=by omega
    have w2:IntKind.i64.wrap ((b:Int)+1)=((b+1:Nat):Int):=wrapS (by omega)
    have e1:=fun c=>ev_lim (ev_hasInt low c (b:Int) (by omega))
    rw [upN,bestF,Int.toNat_natCast,getD_get hbl]
    by_cases hm:(b:Int) ∈ low
    · rw [if_pos hm]
      have hg:=ih (b+1) best (by omega) h1 h2
      refine wp_loop ?_
      repeat (first|apply wp_as|apply wp_ss|refine wr (by simp [hsl,hbn,e1,hm,w2];with_reducible rfl) ?_|refine wq (by simp [hsl,hbn,e1,hm,w2];with_reducible rfl) ?_|refine wt (by simpa [hsl,hbn,e1,hm,w2]) ?_|refine wf (by simpa [hsl,hbn,e1,hm,w2]) ?_|refine xt (by simpa [hsl,hbn,e1,hm,w2]) ?_|refine xf (by simpa [hsl,hbn,e1,hm,w2]) ?_|apply wp_bs|apply wp_b|refine wp_sr ?_|refine wp_sx ?_|refine wp_ret' ?_|refine wp_skip' ?_|refine wp_exit' ?_)
      exact hg
    · rw [if_neg hm]
      by_cases hq:best < 0
      · rw [if_pos hq]
        have hg:=ih (b+1) (b:Int) (by omega) (by omega) (by omega)
        refine wp_loop ?_
        repeat (first|apply wp_as|apply wp_ss|refine wr (by simp [hsl,hbn,e1,hm,hq,w2];with_reducible rfl) ?_|refine wq (by simp [hsl,hbn,e1,hm,hq,w2];with_reducible rfl) ?_|refine wt (by simpa [hsl,hbn,e1,hm,hq,w2]) ?_|refine wf (by simpa [hsl,hbn,e1,hm,hq,w2]) ?_|refine xt (by simpa [hsl,hbn,e1,hm,hq,w2]) ?_|refine xf (by simpa [hsl,hbn,e1,hm,hq,w2]) ?_|apply wp_bs|apply wp_b|refine wp_sr ?_|refine wp_sx ?_|refine wp_ret' ?_|refine wp_skip' ?_|refine wp_exit' ?_)
        exact hg
      · rw [if_neg hq]
        obtain ⟨q,rfl⟩:=Int.eq_ofNat_of_zero_le (show 0≤best by omega)
        have hql:q < l.length:=by omega
        rw [Int.toNat_natCast,getD_get hql]
        by_cases hlt:l[b] < l[q]
        · rw [if_pos hlt]
          have hg:=ih (b+1) (b:Int) (by omega) (by omega) (by omega)
          refine wp_loop ?_
          repeat (first|apply wp_as|apply wp_ss|refine wr (by simp [hsl,hbn,hbl,hql,e1,hm,hq,hlt,w2];with_reducible rfl) ?_|refine wq (by simp [hsl,hbn,hbl,hql,e1,hm,hq,hlt,w2];with_reducible rfl) ?_|refine wt (by simpa [hsl,hbn,hbl,hql,e1,hm,hq,hlt,w2]) ?_|refine wf (by simpa [hsl,hbn,hbl,hql,e1,hm,hq,hlt,w2]) ?_|refine xt (by simpa [hsl,hbn,hbl,hql,e1,hm,hq,hlt,w2]) ?_|refine xf (by simpa [hsl,hbn,hbl,hql,e1,hm,hq,hlt,w2]) ?_|apply wp_bs|apply wp_b|refine wp_sr ?_|refine wp_sx ?_|refine wp_ret' ?_|refine wp_skip' ?_|refine wp_exit' ?_)
          exact hg
        · rw [if_neg hlt]
          have hg:=ih (b+1) (q:Int) (by omega) (by omega) (by omega)
          refine wp_loop ?_
          repeat (first|apply wp_as|apply wp_ss|refine wr (by simp [hsl,hbn,hbl,hql,e1,hm,hq,hlt,w2];with_reducible rfl) ?_|refine wq (by simp [hsl,hbn,hbl,hql,e1,hm,hq,hlt,w2];with_reducible rfl) ?_|refine wt (by simpa [hsl,hbn,hbl,hql,e1,hm,hq,hlt,w2]) ?_|refine wf (by simpa [hsl,hbn,hbl,hql,e1,hm,hq,hlt,w2]) ?_|refine xt (by simpa [hsl,hbn,hbl,hql,e1,hm,hq,hlt,w2]) ?_|refine xf (by simpa [hsl,hbn,hbl,hql,e1,hm,hq,hlt,w2]) ?_|apply wp_bs|apply wp_b|refine wp_sr ?_|refine wp_sx ?_|refine wp_ret' ?_|refine wp_skip' ?_|refine wp_exit' ?_)
          exact hg
theorem rz_low (n:Nat) (hn:n≤5) (s l:List Int) (c:Bool) (t0:List (List Int)) (i:Nat) (hi:i < n) (hsl:s.length=n) (hl:l.length=n) (d:Nat) (hd:l.getD i 0=(d:Int) ∨ (d=0∧l.getD i 0≤0)) (hd2:d≤900):∀ (m:Nat) (low:List Int),low.length+m=d →
    wp tb (.loop z577l22) { T:=[(0,L s c),(4,O l),(5,OT t0),(7,I i),(8,O low)],loc:=[],M:=[] }
      (fun ex st=>ex=.exit 4∧st={ T:=[(0,L s c),(4,O l),(5,OT t0),(7,I i),(8,O (lowF l (upN (i+1) (n - (i+1))) m low)),(48,Bo false)],loc:=[],M:=[] }):=by
  intro m
  have hil:i < l.length:=by omega
  rw [getD_get hil] at hd
  induction m with
  | zero =>
    intro low hlw
    have hq:¬ ((low.length:Int) < l[i]):=by omega
    refine wp_loop ?_
    repeat (first|apply wp_as|apply wp_ss|refine wr (by simp [hil,hq];with_reducible rfl) ?_|refine wq (by simp [hil,hq];with_reducible rfl) ?_|refine wt (by simpa [hil,hq]) ?_|refine wf (by simpa [hil,hq]) ?_|refine xt (by simpa [hil,hq]) ?_|refine xf (by simpa [hil,hq]) ?_|apply wp_bs|apply wp_b|refine wp_sr ?_|refine wp_sx ?_|refine wp_ret' ?_|refine wp_skip' ?_|refine wp_exit' ?_)
    exact ⟨rfl,rfl⟩
  | succ m ih =>
    intro low hlw
    have hq:(low.length:Int) < l[i]:=by omega
    have w2:IntKind.i64.wrap ((i:Int)+1)=((i+1:Nat):Int):=wrapS (by omega)
    have hb:=rz_best n hn s l low c t0 i hsl hl (by omega) (n - (i+1)) (i+1) (-1) (by omega) (by omega) (by omega)
    have h9:low.length+1≤274877906944:=by omega
    rw [lowF]
    refine wp_loop ?_
    repeat (first|apply wp_as|apply wp_ss|refine wr (by simp [hil,hq,w2];with_reducible rfl) ?_|refine wq (by simp [hil,hq,w2];with_reducible rfl) ?_|refine wt (by simpa [hil,hq,w2]) ?_|refine wf (by simpa [hil,hq,w2]) ?_|refine xt (by simpa [hil,hq,w2]) ?_|refine xf (by simpa [hil,hq,w2]) ?_|apply wp_bs|apply wp_b|refine wp_sr ?_|refine wp_sx ?_|refine wp_ret' ?_|refine wp_skip' ?_|refine wp_exit' ?_)
    refine wp_imp hb ?_
    rintro ex st ⟨rfl,-,rfl⟩
    have hg:=ih (low++[bestF l low (upN (i+1) (n - (i+1))) (-1)]) (by simp;omega)
    try simp only [if_true]
    repeat (first|apply wp_as|apply wp_ss|refine wr (by simp [h9];with_reducible rfl) ?_|refine wq (by simp [h9];with_reducible rfl) ?_|refine wt (by simpa [h9]) ?_|refine wf (by simpa [h9]) ?_|refine xt (by simpa [h9]) ?_|refine xf (by simpa [h9]) ?_|apply wp_bs|apply wp_b|refine wp_sr ?_|refine wp_sx ?_|refine wp_ret' ?_|refine wp_skip' ?_|refine wp_exit' ?_)
    exact hg
theorem rz_row (n:Nat) (hn:n≤5) (s low:List Int) (c:Bool) (i:Nat) (hi:i < n) (hsl:s.length=n) (hlow:low.length≤1000):∀ (m b k:Nat) (l:List Int) (t:List (List Int)),b+m=n→l.length=n→Near k l→k+m≤900→RT n n t →
    wp tb (.loop z577l30) { T:=[(0,L s c),(4,O l),(5,OT t),(7,I i),(8,O low),(11,I b)],loc:=[],M:=[] }
      (fun ex st=>ex=.exit 8∧((spRow i low (upN b m) l t).1.length=n∧Near (k+m) (spRow i low (upN b m) l t).1∧RT n n (spRow i low (upN b m) l t).2) ∧
        st={ T:=[(0,L s c),(4,O (spRow i low (upN b m) l t).1),(5,OT (spRow i low (upN b m) l t).2),(7,I i),(8,O low),(11,I n),(86,Bo false)],loc:=[],M:=[] }):=by
  intro m
  induction m with
  | zero =>
    intro b k l t hb hl hk hkm ht
    have h3:b=n:=hb
    subst h3
    refine wp_loop ?_
    repeat (first|apply wp_as|apply wp_ss|refine wr (by simp [hsl];with_reducible rfl) ?_|refine wq (by simp [hsl];with_reducible rfl) ?_|refine wt (by simpa [hsl]) ?_|refine wf (by simpa [hsl]) ?_|refine xt (by simpa [hsl]) ?_|refine xf (by simpa [hsl]) ?_|apply wp_bs|apply wp_b|refine wp_sr ?_|refine wp_sx ?_|refine wp_ret' ?_|refine wp_skip' ?_|refine wp_exit' ?_)
    exact ⟨rfl,⟨hl,hk,ht⟩,rfl⟩
  | succ m ih =>
    intro b k l t hb hl hk hkm ht
    have hbn:b < n:=by omega
    have hbl:b < l.length:=by omega
    have w2:IntKind.i64.wrap ((b:Int)+1)=((b+1:Nat):Int):=wrapS (by omega)
    have e1:=fun c=>ev_lim (ev_hasInt low c (b:Int) (by omega))
    have hit:i < t.length:=by rw [ht.1];exact hi
    have hbt:b < t.length:=by rw [ht.1];omega
    have hib:b < t[i].length:=by rw [ht.2 _ (List.getElem_mem hit)];omega
    have hbi:i < t[b].length:=by rw [ht.2 _ (List.getElem_mem hbt)];omega
    rw [upN,spRow,Int.toNat_natCast]
    by_cases hm:(b:Int) ∈ low
    · rw [if_pos hm]
      have hg:=ih (b+1) k l (set2 t i b 1) (by omega) hl hk (by omega) (ht.set2 _ _ _ hi)
      have hg:=wp_imp hg (Q':=fun ex st=>ex=.exit 8∧((spRow i low (upN (b+1) m) l (set2 t i b 1)).1.length=n∧Near (k+(m+1)) (spRow i low (upN (b+1) m) l (set2 t i b 1)).1∧RT n n (spRow i low (upN (b+1) m) l (set2 t i b 1)).2)∧st={ T:=[(0,L s c),(4,O (spRow i low (upN (b+1) m) l (set2 t i b 1)).1),(5,OT (spRow i low (upN (b+1) m) l (set2 t i b 1)).2),(7,I i),(8,O low),(11,I n),(86,Bo false)],loc:=[],M:=[] }) (fun ex st h=>⟨h.1,⟨h.2.1.1,h.2.1.2.1.mono (by omega),h.2.1.2.2⟩,h.2.2⟩)
      have ht2:set2 t i b 1=t.set i (t[i].set b 1):=by
        rw [set2];congr 2
        simp [List.getD_eq_getElem?_getD,List.getElem?_eq_getElem hit]
      rw [ht2] at hg ⊢
      refine wp_loop ?_
      repeat (first|apply wp_as|apply wp_ss|refine wr (by simp [hsl,hbn,e1,hm,hit,hbt,hib,hbi,w2];with_reducible rfl) ?_|refine wq (by simp [hsl,hbn,e1,hm,hit,hbt,hib,hbi,w2];with_reducible rfl) ?_|refine wt (by simpa [hsl,hbn,e1,hm,hit,hbt,hib,hbi,w2]) ?_|refine wf (by simpa [hsl,hbn,e1,hm,hit,hbt,hib,hbi,w2]) ?_|refine xt (by simpa [hsl,hbn,e1,hm,hit,hbt,hib,hbi,w2]) ?_|refine xf (by simpa [hsl,hbn,e1,hm,hit,hbt,hib,hbi,w2]) ?_|apply wp_bs|apply wp_b|refine wp_sr ?_|refine wp_sx ?_|refine wp_ret' ?_|refine wp_skip' ?_|refine wp_exit' ?_)
      exact hg
    · rw [if_neg hm]
      have hg:=ih (b+1) (k+1) (decAt l b) (set2 t b i 1) (by omega) (by simpa [decAt] using hl) (hk.dec _) (by omega) (ht.set2 _ _ _ (by omega))
      rw [show k+1+m=k+(m+1) by omega] at hg
      have ht2:set2 t b i 1=t.set b (t[b].set i 1):=by
        rw [set2];congr 2
        simp [List.getD_eq_getElem?_getD,List.getElem?_eq_getElem hbt]
      have hdl:decAt l b=l.set b (l[b] - 1):=by rw [decAt,getD_get hbl]
      have hbb:=hk _ (List.getElem_mem hbl)
      have w3:IntKind.i64.wrap (l[b] - 1)=l[b] - 1:=wrap64 (by omega) (by omega)
      rw [ht2,hdl] at hg ⊢
      refine wp_loop ?_
      repeat (first|apply wp_as|apply wp_ss|refine wr (by simp [hsl,hbn,hbl,e1,hm,hit,hbt,hib,hbi,w2,w3];with_reducible rfl) ?_|refine wq (by simp [hsl,hbn,hbl,e1,hm,hit,hbt,hib,hbi,w2,w3];with_reducible rfl) ?_|refine wt (by simpa [hsl,hbn,hbl,e1,hm,hit,hbt,hib,hbi,w2,w3]) ?_|refine wf (by simpa [hsl,hbn,hbl,e1,hm,hit,hbt,hib,hbi,w2,w3]) ?_|refine xt (by simpa [hsl,hbn,hbl,e1,hm,hit,hbt,hib,hbi,w2,w3]) ?_|refine xf (by simpa [hsl,hbn,hbl,e1,hm,hit,hbt,hib,hbi,w2,w3]) ?_|apply wp_bs|apply wp_b|refine wp_sr ?_|refine wp_sx ?_|refine wp_ret' ?_|refine wp_skip' ?_|refine wp_exit' ?_)
      exact hg
theorem lowF_len (l cands:List Int):∀ (k:Nat) (low:List Int),(lowF l cands k low).length=low.length+k
  | 0,low=>rfl
  | k+1,low=>by rw [lowF,lowF_len l cands k];simp;omega
set_option maxHeartbeats 2000000 in
theorem rz_out (n:Nat) (hn:n≤5) (s:List Int) (c:Bool) (hsl:s.length=n):∀ (m i k:Nat) (l:List Int) (t:List (List Int)),i+m=n→l.length=n→Near k l→(∀ x ∈ l,x≤800)→k+10 * m≤800→RT n n t →
    wp tb (.loop z577l32) { T:=[(0,L s c),(4,O l),(5,OT t),(7,I i)],loc:=[],M:=[] }
      (fun ex st=>ex=.exit 2∧∃ l',st={ T:=[(0,L s c),(4,O l'),(5,OT (rsS n m i l t)),(7,I n),(38,Bo false)],loc:=[],M:=[] }):=by
  intro m
  induction m with
  | zero =>
    intro i k l t hi hl hk hx hkm ht
    have h3:i=n:=hi
    subst h3
    refine wp_loop ?_
    repeat (first|apply wp_as|apply wp_ss|refine wr (by simp [hsl];with_reducible rfl) ?_|refine wq (by simp [hsl];with_reducible rfl) ?_|refine wt (by simpa [hsl]) ?_|refine wf (by simpa [hsl]) ?_|refine xt (by simpa [hsl]) ?_|refine xf (by simpa [hsl]) ?_|apply wp_bs|apply wp_b|refine wp_sr ?_|refine wp_sx ?_|refine wp_ret' ?_|refine wp_skip' ?_|refine wp_exit' ?_)
    exact ⟨rfl,l,rfl⟩
  | succ m ih =>
    intro i k l t hi hl hk hx hkm ht
    have hi2:i < n:=by omega
    have hil:i < l.length:=by omega
    have w2:IntKind.i64.wrap ((i:Int)+1)=((i+1:Nat):Int):=wrapS (by omega)
    have hb:=hx _ (List.getElem_mem hil)
    have hlo:=rz_low n hn s l c t i hi2 hsl hl (l.getD i 0).toNat (by omega) (by rw [getD_get hil];omega) (l.getD i 0).toNat [] (by simp)
    have hll:=lowF_len l (upN (i+1) m) (l.getD i 0).toNat []
    have hm:n - (i+1)=m:=by omega
    rw [hm] at hlo
    have hro:=rz_row n hn s (lowF l (upN (i+1) m) (l.getD i 0).toNat []) c i hi2 hsl (by rw [hll,getD_get hil];simp;omega) m (i+1) k l t (by omega) hl hk (by omega) ht
    rw [rsS]
    have hle:∀ x ∈ (spRow i (lowF l (upN (i+1) m) (l.getD i 0).toNat []) (upN (i+1) m) l t).1,x≤800:=by
      have:∀ (r:List Int) (low:List Int) (l:List Int) (t:List (List Int)),(∀ x ∈ l,x≤800)→∀ x ∈ (spRow i low r l t).1,x≤800:=by
        intro r
        induction r with
        | nil=>intro low l t h;exact h
        | cons b r ih =>
          intro low l t h
          rw [spRow]
          split
          · exact ih low l _ h
          · refine ih low _ _ fun x hx=>?_
            rcases List.mem_or_eq_of_mem_set hx with hx | rfl
            · exact h x hx
            · rw [List.getD_eq_getElem?_getD]
              cases ho:l[b.toNat]? with
              | none=>simp
              | some y=>have:=h y (List.mem_of_getElem? ho);simp;omega
      exact this _ _ _ _ hx
    generalize lowF l (upN (i+1) m) (l.getD i 0).toNat []=low at *
    simp only [O,ints_nil] at hlo
    refine wp_loop ?_
    repeat (first|apply wp_as|apply wp_ss|refine wr (by simp [hsl,hi2];with_reducible rfl) ?_|refine wq (by simp [hsl,hi2];with_reducible rfl) ?_|refine wt (by simpa [hsl,hi2]) ?_|refine wf (by simpa [hsl,hi2]) ?_|refine xt (by simpa [hsl,hi2]) ?_|refine xf (by simpa [hsl,hi2]) ?_|apply wp_bs|apply wp_b|refine wp_sr ?_|refine wp_sx ?_|refine wp_ret' ?_|refine wp_skip' ?_|refine wp_exit' ?_)
    refine wp_imp hlo ?_
    rintro ex st ⟨rfl,rfl⟩
    try simp only [if_true]
    repeat (first|apply wp_as|apply wp_ss|refine wr (by simp [w2];with_reducible rfl) ?_|refine wq (by simp [w2];with_reducible rfl) ?_|refine wt (by simpa [w2]) ?_|refine wf (by simpa [w2]) ?_|refine xt (by simpa [w2]) ?_|refine xf (by simpa [w2]) ?_|apply wp_bs|apply wp_b|refine wp_sr ?_|refine wp_sx ?_|refine wp_ret' ?_|refine wp_skip' ?_|refine wp_exit' ?_)
    refine wp_imp hro ?_
    rintro ex st ⟨rfl,⟨p1,p2,p3⟩,rfl⟩
    have hg:=ih (i+1) (k+m) _ _ (by omega) p1 p2 hle (by omega) p3
    try simp only [if_true]
    repeat (first|apply wp_as|apply wp_ss|refine wr (by simp [w2];with_reducible rfl) ?_|refine wq (by simp [w2];with_reducible rfl) ?_|refine wt (by simpa [w2]) ?_|refine wf (by simpa [w2]) ?_|refine xt (by simpa [w2]) ?_|refine xf (by simpa [w2]) ?_|apply wp_bs|apply wp_b|refine wp_sr ?_|refine wp_sx ?_|refine wp_ret' ?_|refine wp_skip' ?_|refine wp_exit' ?_)
    exact hg
theorem rz_tab (n:Nat) (hn:n≤5) (s l:List Int) (c:Bool) (hsl:s.length=n):∀ (m i:Nat),i+m=n →
    wp tb (.loop z577l9) { T:=[(0,L s c),(4,O l),(5,OT (List.replicate i (List.replicate n 0))),(6,I i)],loc:=[],M:=[] }
      (fun ex st=>ex=.exit 0∧st={ T:=[(0,L s c),(4,O l),(5,OT (List.replicate n (List.replicate n 0))),(6,I n),(26,Bo false)],loc:=[],M:=[] }):=by
  intro m
  induction m with
  | zero =>
    intro i hi
    have h3:i=n:=hi
    subst h3
    refine wp_loop ?_
    repeat (first|apply wp_as|apply wp_ss|refine wr (by simp [hsl];with_reducible rfl) ?_|refine wq (by simp [hsl];with_reducible rfl) ?_|refine wt (by simpa [hsl]) ?_|refine wf (by simpa [hsl]) ?_|refine xt (by simpa [hsl]) ?_|refine xf (by simpa [hsl]) ?_|apply wp_bs|apply wp_b|refine wp_sr ?_|refine wp_sx ?_|refine wp_ret' ?_|refine wp_skip' ?_|refine wp_exit' ?_)
    exact ⟨rfl,rfl⟩
  | succ m ih =>
    intro i hi
    have hi2:i < n:=by omega
    have w2:IntKind.i64.wrap ((i:Int)+1)=((i+1:Nat):Int):=wrapS (by omega)
    have hr:List.replicate i (List.replicate n (0:Int))++[List.replicate n 0]=List.replicate (i+1) (List.replicate n 0):=by
      rw [List.replicate_succ',List.append_cancel_left_eq]
    have h9:n≤274877906944:=by omega
    have h8:i+1≤274877906944:=by omega
    refine wp_loop ?_
    repeat (first|apply wp_as|apply wp_ss|refine wr (by simp [hsl,hi2,w2,h9,h8,hr];with_reducible rfl) ?_|refine wq (by simp [hsl,hi2,w2,h9,h8,hr];with_reducible rfl) ?_|refine wt (by simpa [hsl,hi2,w2,h9,h8,hr]) ?_|refine wf (by simpa [hsl,hi2,w2,h9,h8,hr]) ?_|refine xt (by simpa [hsl,hi2,w2,h9,h8,hr]) ?_|refine xf (by simpa [hsl,hi2,w2,h9,h8,hr]) ?_|apply wp_bs|apply wp_b|refine wp_sr ?_|refine wp_sx ?_|refine wp_ret' ?_|refine wp_skip' ?_|refine wp_exit' ?_)
    exact ih (i+1) (by omega)
set_option maxHeartbeats 2000000 in
theorem ev_spec_RealizeScores (s:List Int) (c:Bool) (hl:s.length≤2000000) :
    Ev tb zl577 [] [L s c] [] ⟨if (valS s && isScr s)=true then .tup [OT (realS2 s),Bo true] else .tup [Z,Bo false],[],[],[]⟩:=by
  have e1:=ev_lim (ev_validScores s c hl)
  cases hv:valS s with
  | false =>
    rw [hv] at e1
    refine call_of_wp zt577 rfl ?_
    repeat (first|apply wp_as|apply wp_ss|refine wr (by simp [e1];with_reducible rfl) ?_|refine wq (by simp [e1];with_reducible rfl) ?_|refine wt (by simpa [e1]) ?_|refine wf (by simpa [e1]) ?_|refine xt (by simpa [e1]) ?_|refine xf (by simpa [e1]) ?_|apply wp_bs|apply wp_b|refine wp_sr ?_|refine wp_sx ?_|refine wp_ret' ?_|refine wp_skip' ?_|refine wp_exit' ?_)
    simp [zi577]
  | true =>
    rw [hv] at e1
    obtain ⟨h1,h2,h3⟩:=valS_few hv
    have e2:=ev_lim (ev_isScores s c h1 h2.1)
    cases hq:isScr s with
    | false =>
      rw [hq] at e2
      refine call_of_wp zt577 rfl ?_
      repeat (first|apply wp_as|apply wp_ss|refine wr (by simp [e1,e2];with_reducible rfl) ?_|refine wq (by simp [e1,e2];with_reducible rfl) ?_|refine wt (by simpa [e1,e2]) ?_|refine wf (by simpa [e1,e2]) ?_|refine xt (by simpa [e1,e2]) ?_|refine xf (by simpa [e1,e2]) ?_|apply wp_bs|apply wp_b|refine wp_sr ?_|refine wp_sx ?_|refine wp_ret' ?_|refine wp_skip' ?_|refine wp_exit' ?_)
      simp [zi577]
    | true =>
      rw [hq] at e2
      have e3:=ev_lim (ev_copyInts s c hl)
      have ht:=rz_tab s.length h2.2 s s c rfl s.length 0 (by omega)
      have ho:=rz_out s.length h2.2 s c rfl s.length 0 0 s (zeroT s.length s.length) (by omega) rfl (fun x hx=>by have:=h3 x hx;omega) (fun x hx=>by have:=h3 x hx;omega) (by omega) (zeroT_RT _ _)
      rw [show ((0:Nat):Int)=0 from rfl] at ht ho
      unfold realS2
      rw [zeroT_rep] at ho ⊢
      generalize rsS s.length s.length 0 s (List.replicate s.length (List.replicate s.length 0))=t1 at *
      simp only [List.replicate_zero,OT,show oab []=[] from rfl] at ht
      refine call_of_wp zt577 rfl ?_
      repeat (first|apply wp_as|apply wp_ss|refine wr (by simp [e1,e2,e3];with_reducible rfl) ?_|refine wq (by simp [e1,e2,e3];with_reducible rfl) ?_|refine wt (by simpa [e1,e2,e3]) ?_|refine wf (by simpa [e1,e2,e3]) ?_|refine xt (by simpa [e1,e2,e3]) ?_|refine xf (by simpa [e1,e2,e3]) ?_|apply wp_bs|apply wp_b|refine wp_sr ?_|refine wp_sx ?_|refine wp_ret' ?_|refine wp_skip' ?_|refine wp_exit' ?_)
      refine wp_imp ht ?_
      rintro ex st ⟨rfl,rfl⟩
      try simp only [if_true]
      repeat (first|apply wp_as|apply wp_ss|refine wr (by simp;with_reducible rfl) ?_|refine wq (by simp;with_reducible rfl) ?_|refine wt (by simpa) ?_|refine wf (by simpa) ?_|refine xt (by simpa) ?_|refine xf (by simpa) ?_|apply wp_bs|apply wp_b|refine wp_sr ?_|refine wp_sx ?_|refine wp_ret' ?_|refine wp_skip' ?_|refine wp_exit' ?_)
      refine wp_imp ho ?_
      rintro ex st ⟨rfl,l',rfl⟩
      try simp only [if_true]
      repeat (first|apply wp_as|apply wp_ss|refine wr (by simp;with_reducible rfl) ?_|refine wq (by simp;with_reducible rfl) ?_|refine wt (by simpa) ?_|refine wf (by simpa) ?_|refine xt (by simpa) ?_|refine xf (by simpa) ?_|apply wp_bs|apply wp_b|refine wp_sr ?_|refine wp_sx ?_|refine wp_ret' ?_|refine wp_skip' ?_|refine wp_exit' ?_)
      simp [zi577]
end Go.Idl
namespace Go.Idl
open Go
@[simp] theorem un_neg (n:Int):Op.unary .neg (.int .i64 n)=.pure (.int .i64 (IntKind.i64.wrap (-n))):=by
  rw [← Int.zero_sub];rfl
def gs (r c:List Int) (i:Nat):Int:=-((fall r).take (i+1)).sum+(c.map fun x:Int=>min x ((i:Int)+1)).sum
end Go.Idl
namespace Go.Idl
open Go
def MM (h w:Nat) (t:List (List Int)):Prop:=t.length=h∧∀ r ∈ t,r.length=w∧∀ x ∈ r,0≤x∧x≤1
end Go.Idl
namespace Go.Idl
open Go
theorem MM.sums {h w:Nat} {t:List (List Int)} (ht:MM h w t) (hw:w≤5):∀ x ∈ t.map List.sum,0≤x∧x≤5:=by
  intro x hx
  obtain ⟨r,hr,rfl⟩:=List.mem_map.1 hx
  have h1:=ht.2 r hr
  have:=sum01 r h1.2
  omega
end Go.Idl
namespace Go.Idl
open Go
def fl (t:List (List Int)) (a b:Nat):List (List Int):=(t.set a ((t.getD a []).set b 0)).set b ((t.getD b []).set a 1)
theorem fl_eq {t:List (List Int)} {a b:Nat} (ha:a < t.length) (hb:b < t.length):fl t a b=(t.set a (t[a].set b 0)).set b (t[b].set a 1):=by
  simp [fl,List.getD_eq_getElem?_getD,List.getElem?_eq_getElem ha,List.getElem?_eq_getElem hb]
theorem TT.fl {n:Nat} {t:List (List Int)} (h:TT n t) {a b:Nat} (ha:a < n) (hb:b < n) (hne:a ≠ b):TT n (fl t a b):=by
  have ha':a < t.length:=by rw [h.1];exact ha
  have hb':b < t.length:=by rw [h.1];exact hb
  rw [fl_eq ha' hb']
  have h1:=h.set (b:=b) (v:=0) ha' (by omega)
  have hb2:b < (t.set a (t[a].set b 0)).length:=by simpa using hb'
  have h2:=h1.set (b:=a) (v:=1) hb2 (by omega)
  have:(t.set a (t[a].set b 0))[b]=t[b]:=by rw [List.getElem_set_ne hne]
  rw [this] at h2
  exact h2
def turned (t:List (List Int)) (a b c:Nat):List (List Int):=fl (fl (fl t a b) b c) c a
theorem Tour.tt {t:List (List Int)} (h:Tour t):TT t.length t:=⟨rfl,fun r hr=>⟨(h.2.1 r hr).1,(h.2.1 r hr).2⟩⟩
end Go.Idl
namespace Go.Idl
open Go
theorem TT.row {n:Nat} {t:List (List Int)} (h:TT n t) {a:Nat} (ha:a < n):(t.getD a []).length=n:=by
  have ha':a < t.length:=by rw [h.1];exact ha
  rw [List.getD_eq_getElem?_getD,List.getElem?_eq_getElem ha',Option.getD_some]
  exact (h.2 _ (List.getElem_mem ha')).1
theorem TT.ext {n:Nat} {t u:List (List Int)} (ht:TT n t) (hu:TT n u) (h:∀ i j,i < n→j < n→g2 t i j=g2 u i j):t=u:=by
  rw [← tabF_self ht,← tabF_self hu]
  unfold tabF
  refine List.map_congr_left fun i hi=>?_
  unfold mapR
  exact List.map_congr_left fun j hj=>h i j (List.mem_range.1 hi) (List.mem_range.1 hj)
end Go.Idl
namespace Go.Idl
open Go
theorem TT.sums {n:Nat} {t:List (List Int)} (ht:TT n t) (hn:n≤5):∀ x ∈ t.map List.sum,0≤x∧x≤5:=by
  intro x hx
  obtain ⟨r,hr,rfl⟩:=List.mem_map.1 hx
  have h1:=ht.2 r hr
  have:=sum01 r h1.2
  omega
structure ScrLaw (s:List Int):Prop where
  same:realI2 s=realS2 s
  tour:Tour (realI2 s)
  scr:scores (realI2 s)=s
  dig:implD s (comp s)=true
end Go.Idl
namespace Go.Idl
def S {α:Type} (l:List α) (f:α→Int):Int:=(l.map f).sum
@[simp] theorem S_nil {α:Type} (f:α→Int):S [] f=0:=rfl
@[simp] theorem S_cons {α:Type} (a:α) (l:List α) (f:α→Int):S (a::l) f=f a+S l f:=by simp [S]
theorem S_app {α:Type} (l k:List α) (f:α→Int):S (l++k) f=S l f+S k f:=by simp [S]
theorem S_zero {α:Type} (l:List α):S l (fun _=>0)=0:=by
  induction l with
  | nil=>rfl
  | cons a l ih=>simp [ih]
theorem S_congr {α:Type} {l:List α} {f g:α→Int} (h:∀ a ∈ l,f a=g a):S l f=S l g:=by
  induction l with
  | nil=>rfl
  | cons a l ih=>rw [S_cons,S_cons,h a (by simp),ih fun b hb=>h b (by simp [hb])]
theorem S_le {α:Type} {l:List α} {f g:α→Int} (h:∀ a ∈ l,f a≤g a):S l f≤S l g:=by
  induction l with
  | nil=>simp
  | cons a l ih =>
    have h1:=h a (by simp)
    have h2:=ih fun b hb=>h b (by simp [hb])
    simp only [S_cons];omega
theorem S_mulr {α:Type} (l:List α) (f:α→Int) (c:Int):S l (fun a=>f a * c)=S l f * c:=by
  induction l with
  | nil=>simp
  | cons a l ih=>rw [S_cons,S_cons,ih,Int.add_mul]
theorem S_nonneg {α:Type} {l:List α} {f:α→Int} (h:∀ a ∈ l,0≤f a):0≤S l f:=by
  have:=S_le (l:=l) (f:=fun _=>0) h
  rwa [S_zero] at this
theorem S_map {α γ:Type} (l:List γ) (g:γ→α) (f:α→Int):S (l.map g) f=S l (fun c=>f (g c)):=by simp [S];rfl
theorem S_one {α:Type} [DecidableEq α] {l:List α} (h:l.Nodup) (x:α):S l (fun a=>if x=a then 1 else 0)=if x ∈ l then 1 else 0:=by
  induction l with
  | nil=>simp
  | cons a l ih =>
    have h':=List.nodup_cons.1 h
    rw [S_cons,ih h'.2]
    by_cases hx:x=a
    · subst hx;simp [h'.1]
    · simp [hx]
end Go.Idl
namespace Go.Idl
def insP (x:Nat×Nat):List (Nat×Nat)→List (Nat×Nat)
  | []=>[x]
  | y::r=>if Nat.ble y.1 x.1 then x::y::r else y::insP x r
def hh:Nat→List (Nat×Nat)→List (Nat×Nat)
  | 0,_=>[]
  | _+1,[]=>[]
  | m+1,x::r=>(r.take x.1).map (fun y:Nat×Nat=>(x.2,y.2))++hh m ((((r.take x.1).map (fun y:Nat×Nat=>(y.1 - 1,y.2))++r.drop x.1:List (Nat×Nat))).foldr insP [])
theorem decAt_get {o:List Int} {i v:Nat} (hv:v < o.length):(decAt o i).getD v 0=o.getD v 0 - (if i=v then 1 else 0):=by
  rw [decAt,List.getD_eq_getElem?_getD,List.getElem?_set]
  by_cases h:i=v
  · subst h;simp [hv,List.getD_eq_getElem?_getD]
  · simp [h,List.getD_eq_getElem?_getD]
def mk (u v:Nat):Int×Int:=(min (u:Int) v,max (u:Int) v)
end Go.Idl
namespace Go.Idl
open Go
theorem lil_zero {l:List Int} (h:Lil l) (hs:¬ 0 < l.sum) (i:Nat):l.getD i 0=0:=by
  induction l generalizing i with
  | nil=>simp
  | cons x r ih =>
    have h1:=h x (by simp)
    have hr:Lil r:=fun y hy=>h y (by simp [hy])
    have h2:=hr.sum
    rw [List.sum_cons] at hs
    cases i with
    | zero=>simp;omega
    | succ i=>simpa using ih hr (by omega) i
theorem zero_sum {l:List Int} (h:∀ i,i < l.length→l.getD i 0=0):l.sum=0:=by
  induction l with
  | nil=>rfl
  | cons x r ih =>
    have h1:=h 0 (by simp)
    have h2:=ih fun i hi=>by have:=h (i+1) (by simpa using hi);simpa using this
    simp at h1
    rw [List.sum_cons];omega
def cR (f:Nat→Bool) (h m k i:Nat):Int:=S (List.range' k m) fun c=>if c / h=i then (if f c then 1 else 0) else 0
def cC (f:Nat→Bool) (h m k j:Nat):Int:=S (List.range' k m) fun c=>if c % h=j then (if f c then 1 else 0) else 0
theorem cR_succ (f:Nat→Bool) (h m k i:Nat):cR f h (m+1) k i=(if k / h=i then (if f k then 1 else 0) else 0)+cR f h m (k+1) i:=by
  rw [cR,List.range'_succ,S_cons];rfl
theorem cC_succ (f:Nat→Bool) (h m k i:Nat):cC f h (m+1) k i=(if k % h=i then (if f k then 1 else 0) else 0)+cC f h m (k+1) i:=by
  rw [cC,List.range'_succ,S_cons];rfl
theorem cR_pos (f:Nat→Bool) (h m k i:Nat):0≤cR f h m k i:=S_nonneg fun c _=>by split <;> (try split) <;> omega
theorem cC_pos (f:Nat→Bool) (h m k i:Nat):0≤cC f h m k i:=S_nonneg fun c _=>by split <;> (try split) <;> omega
theorem cR_congr {f g:Nat→Bool} (h m k i:Nat) (hfg:∀ c,k≤c→f c=g c):cR f h m k i=cR g h m k i :=
  S_congr fun c hc=>by rw [hfg c (by have:=List.mem_range'_1.1 hc;omega)]
theorem cC_congr {f g:Nat→Bool} (h m k i:Nat) (hfg:∀ c,k≤c→f c=g c):cC f h m k i=cC g h m k i :=
  S_congr fun c hc=>by rw [hfg c (by have:=List.mem_range'_1.1 hc;omega)]
theorem cR_le (f:Nat→Bool) (h:Nat) (h0:0 < h) (i:Nat):∀ m k:Nat,cR f h m k i≤(((i+1) * h - k:Nat):Int)
  | 0,k=>by show (0:Int)≤_;omega
  | m+1,k=>by
    have h1:=cR_le f h h0 i m (k+1)
    rw [cR_succ]
    by_cases hk:k / h=i
    · have h2:k < (i+1) * h:=by rw [← hk,Nat.mul_comm];exact Nat.lt_mul_div_succ k h0
      rw [if_pos hk]
      split <;> omega
    · rw [if_neg hk];omega
theorem mts_iff (may:Nat→Nat→Bool) (w h:Nat) (h0:0 < h):∀ (m k:Nat) (l r:List Int) (t:List (List Int)),k+m=w * h→l.length=w→r.length=h→Lil l→Lil r →
    (mts may h m k l r t ≠ [] ↔ ∃ f:Nat→Bool,(∀ c,k≤c→f c=true→may (c / h) (c % h)=true)∧(∀ i,i < w→cR f h m k i=l.getD i 0)∧(∀ j,j < h→cC f h m k j=r.getD j 0))
  | 0,k,l,r,t,hk,hl,hr,ll,lr=>by
    rw [mts]
    constructor
    · intro hne
      have hs:¬ (0 < l.sum ∨ 0 < r.sum):=fun q=>hne (by rw [if_pos q])
      refine ⟨fun _=>false,fun _ _ q=>by simp at q,fun i _=>?_,fun j _=>?_⟩
      · rw [lil_zero ll (fun q=>hs (.inl q))];rfl
      · rw [lil_zero lr (fun q=>hs (.inr q))];rfl
    · rintro ⟨f,_,h1,h2⟩
      have s1:l.sum=0:=zero_sum fun i hi=>(h1 i (by omega)).symm
      have s2:r.sum=0:=zero_sum fun i hi=>(h2 i (by omega)).symm
      rw [if_neg (by omega)]
      simp
  | m+1,k,l,r,t,hk,hl,hr,ll,lr=>by
    have hkw:k < w * h:=by omega
    have iw:k / h < w:=Nat.div_lt_of_lt_mul (by rw [Nat.mul_comm];exact hkw)
    have jh:k % h < h:=Nat.mod_lt _ h0
    have hdm:(k / h+1) * h - k=h - k % h:=by
      have:=Nat.div_add_mod k h
      rw [Nat.mul_comm] at this
      rw [Nat.succ_mul];omega
    rw [mts]
    by_cases hov:(h:Int) - ((k % h:Nat):Int) < l.getD (k / h) 0
    · rw [if_pos hov]
      refine ⟨fun q=>absurd rfl q,?_⟩
      rintro ⟨f,_,h1,_⟩
      have:=cR_le f h h0 (k / h) (m+1) k
      rw [h1 _ iw,hdm] at this
      omega
    · rw [if_neg hov]
      have hap:∀ (x y:List (List (List Int))),x++y ≠ [] ↔ x ≠ [] ∨ y ≠ []:=fun x y=>by
        cases x <;> simp
      rw [hap,mts_iff may w h h0 m (k+1) l r t (by omega) hl hr ll lr]
      have dl:∀ i,(decAt l (k / h)).getD i 0=l.getD i 0 - (if k / h=i∧i < w then 1 else 0):=fun i=>by
        by_cases hi:i < l.length
        · rw [decAt_get hi]
          by_cases hq:k / h=i
          · rw [if_pos hq,if_pos ⟨hq,by omega⟩]
          · rw [if_neg hq,if_neg fun q=>hq q.1]
        · have e1:∀ x:List Int,x.length=l.length→x.getD i 0=0:=fun x hx=>by
            rw [List.getD_eq_getElem?_getD,List.getElem?_eq_none (by omega)];rfl
          rw [e1 _ (by simp [decAt]),e1 _ rfl,if_neg (by omega)];rfl
      have dr:∀ i,(decAt r (k % h)).getD i 0=r.getD i 0 - (if k % h=i∧i < h then 1 else 0):=fun i=>by
        by_cases hi:i < r.length
        · rw [decAt_get hi]
          by_cases hq:k % h=i
          · rw [if_pos hq,if_pos ⟨hq,by omega⟩]
          · rw [if_neg hq,if_neg fun q=>hq q.1]
        · have e1:∀ x:List Int,x.length=r.length→x.getD i 0=0:=fun x hx=>by
            rw [List.getD_eq_getElem?_getD,List.getElem?_eq_none (by omega)];rfl
          rw [e1 _ (by simp [decAt]),e1 _ rfl,if_neg (by omega)];rfl
      constructor
      · rintro (h1 | ⟨f,f1,f2,f3⟩)
        · by_cases htk:may (k / h) (k % h)=true∧0 < l.getD (k / h) 0∧0 < r.getD (k % h) 0
          · rw [if_pos htk,mts_iff may w h h0 m (k+1) _ _ _ (by omega) (by simp [decAt,hl]) (by simp [decAt,hr]) (ll.dec htk.2.1) (lr.dec htk.2.2)] at h1
            obtain ⟨f,f1,f2,f3⟩:=h1
            refine ⟨fun c=>if c=k then true else f c,fun c hc hf=>?_,fun i hi=>?_,fun j hj=>?_⟩
            · by_cases hck:c=k
              · subst hck;exact htk.1
              · exact f1 c (by omega) (by simpa [hck] using hf)
            · have e1:=cR_congr (f:=fun c=>if c=k then true else f c) (g:=f) h m (k+1) i fun c hc=>by
                  have hck:¬ c=k:=by omega
                  simp [hck]
              rw [cR_succ,e1,f2 i hi,dl]
              by_cases hq:k / h=i
              · rw [if_pos hq,if_pos (show k / h=i∧i < w from ⟨hq,hi⟩)];simp;omega
              · rw [if_neg hq,if_neg fun q=>hq q.1];omega
            · have e1:=cC_congr (f:=fun c=>if c=k then true else f c) (g:=f) h m (k+1) j fun c hc=>by
                  have hck:¬ c=k:=by omega
                  simp [hck]
              rw [cC_succ,e1,f3 j hj,dr]
              by_cases hq:k % h=j
              · rw [if_pos hq,if_pos (show k % h=j∧j < h from ⟨hq,hj⟩)];simp;omega
              · rw [if_neg hq,if_neg fun q=>hq q.1];omega
          · rw [if_neg htk] at h1;exact absurd rfl h1
        · refine ⟨fun c=>if c=k then false else f c,fun c hc hf=>?_,fun i hi=>?_,fun j hj=>?_⟩
          · by_cases hck:c=k
            · simp [hck] at hf
            · exact f1 c (by omega) (by simpa [hck] using hf)
          · have e1:=cR_congr (f:=fun c=>if c=k then false else f c) (g:=f) h m (k+1) i fun c hc=>by
                  have hck:¬ c=k:=by omega
                  simp [hck]
            rw [cR_succ,e1,f2 i hi];simp
          · have e1:=cC_congr (f:=fun c=>if c=k then false else f c) (g:=f) h m (k+1) j fun c hc=>by
                  have hck:¬ c=k:=by omega
                  simp [hck]
            rw [cC_succ,e1,f3 j hj];simp
      · rintro ⟨f,f1,f2,f3⟩
        by_cases hf:f k=true
        · refine .inl ?_
          have p1:=f2 _ iw
          have p2:=f3 _ jh
          rw [cR_succ,if_pos rfl,if_pos hf] at p1
          rw [cC_succ,if_pos rfl,if_pos hf] at p2
          have q1:=cR_pos f h m (k+1) (k / h)
          have q2:=cC_pos f h m (k+1) (k % h)
          have htk:may (k / h) (k % h)=true∧0 < l.getD (k / h) 0∧0 < r.getD (k % h) 0:=⟨f1 k (Nat.le_refl _) hf,by omega,by omega⟩
          rw [if_pos htk,mts_iff may w h h0 m (k+1) _ _ _ (by omega) (by simp [decAt,hl]) (by simp [decAt,hr]) (ll.dec htk.2.1) (lr.dec htk.2.2)]
          refine ⟨f,fun c hc=>f1 c (by omega),fun i hi=>?_,fun j hj=>?_⟩
          · have:=f2 i hi
            rw [cR_succ] at this
            rw [dl]
            by_cases hq:k / h=i
            · rw [if_pos hq,if_pos hf] at this;rw [if_pos (show k / h=i∧i < w from ⟨hq,hi⟩)];omega
            · rw [if_neg hq] at this;rw [if_neg fun q=>hq q.1];omega
          · have:=f3 j hj
            rw [cC_succ] at this
            rw [dr]
            by_cases hq:k % h=j
            · rw [if_pos hq,if_pos hf] at this;rw [if_pos (show k % h=j∧j < h from ⟨hq,hj⟩)];omega
            · rw [if_neg hq] at this;rw [if_neg fun q=>hq q.1];omega
        · refine .inr ⟨f,fun c hc=>f1 c (by omega),fun i hi=>?_,fun j hj=>?_⟩
          · have:=f2 i hi
            rw [cR_succ,if_neg hf] at this
            simpa using this
          · have:=f3 j hj
            rw [cC_succ,if_neg hf] at this
            simpa using this
end Go.Idl
namespace Go.Idl
open Go
theorem S_pick {n j:Nat} (hj:j < n) (g:Nat→Int):S (List.range n) (fun u=>if u=j then g u else 0)=g j:=by
  rw [S_congr (g:=fun u=>(if j=u then 1 else 0) * g j) fun u _=>?_,S_mulr,S_one List.nodup_range,if_pos (List.mem_range.2 hj)]
  · omega
  · by_cases h:u=j
    · subst h;simp
    · rw [if_neg h,if_neg fun q=>h q.symm];simp
theorem blk (w h:Nat) (g:Nat→Int):S (List.range' 0 ((w+1) * h)) g=S (List.range' 0 (w * h)) g+S (List.range h) (fun j=>g (w * h+j)):=by
  have e:=List.range'_append_1 (s:=0) (m:=w * h) (n:=h)
  have e2:S (List.range' (w * h) h) g=S (List.range h) (fun j=>g (w * h+j)):=by rw [List.range'_eq_map_range,S_map]
  rw [Nat.succ_mul,← e,S_app,Nat.zero_add,e2]
theorem blk_div {w h j:Nat} (hj:j < h):(w * h+j) / h=w∧(w * h+j) % h=j:=by
  constructor
  · rw [Nat.add_comm,Nat.add_mul_div_right _ _ (by omega),Nat.div_eq_of_lt hj];omega
  · rw [Nat.add_comm,Nat.add_mul_mod_self_right,Nat.mod_eq_of_lt hj]
theorem cR_sum (f:Nat→Bool) (h:Nat) (i:Nat):∀ w,cR f h (w * h) 0 i=if i < w then S (List.range h) (fun j=>if f (i * h+j) then 1 else 0) else 0
  | 0=>by simp [cR,S]
  | w+1=>by
    have ih:=cR_sum f h i w
    rw [cR] at ih ⊢
    have hb:S (List.range h) (fun j=>if (w * h+j) / h=i then (if f (w * h+j) then (1:Int) else 0) else 0)=S (List.range h) (fun j=>if w=i then (if f (w * h+j) then 1 else 0) else 0) :=
      S_congr fun j hj=>by rw [(blk_div (List.mem_range.1 hj)).1]
    rw [blk,ih,hb]
    by_cases hw:w=i
    · subst hw
      rw [if_neg (by omega),if_pos (by omega)];simp
    · simp only [if_neg hw,S_zero]
      by_cases hi:i < w
      · rw [if_pos hi,if_pos (by omega)];omega
      · rw [if_neg hi,if_neg (by omega)];rfl
theorem cC_sum (f:Nat→Bool) (h:Nat) (j:Nat) (hj:j < h):∀ w,cC f h (w * h) 0 j=S (List.range w) (fun i=>if f (i * h+j) then 1 else 0)
  | 0=>by simp [cC,S]
  | w+1=>by
    have ih:=cC_sum f h j hj w
    rw [cC] at ih ⊢
    have hb:S (List.range h) (fun u=>if (w * h+u) % h=j then (if f (w * h+u) then (1:Int) else 0) else 0)=S (List.range h) (fun u=>if u=j then (if f (w * h+u) then 1 else 0) else 0) :=
      S_congr fun u hu=>by rw [(blk_div (List.mem_range.1 hu)).2]
    rw [blk,ih,hb,S_pick hj fun u=>if f (w * h+u) then 1 else 0,List.range_succ,S_app]
    simp [S]
def Dg (n:Nat) (a b:List Int):Prop:=∃ p:Nat→Nat→Bool,(∀ v,p v v=false) ∧
  (∀ v,v < n→S (List.range n) (fun u=>if p v u then 1 else 0)=a.getD v 0)∧(∀ v,v < n→S (List.range n) (fun u=>if p u v then 1 else 0)=b.getD v 0)
theorem Dg.symm {n:Nat} {a b:List Int}:Dg n a b→Dg n b a:=fun ⟨p,h1,h2,h3⟩=>⟨fun u v=>p v u,h1,h3,h2⟩
theorem hasM2_iff {a b:List Int} {n:Nat} (ha:a.length=n) (hb:b.length=n) (h0:0 < n) (la:Lil a) (lb:Lil b):hasM2 a b=true ↔ Dg n a b:=by
  have h1:hasM2 a b=true ↔ mts mayD n (n * n) 0 a b (zeroT n n) ≠ []:=by
    rw [hasM2,ha,hb];simp
  rw [h1,mts_iff mayD n n h0 (n * n) 0 a b _ (by omega) ha hb la lb]
  constructor
  · rintro ⟨f,f1,f2,f3⟩
    refine ⟨fun v u=>if u < n then f (v * n+u) else false,fun v=>?_,fun v hv=>?_,fun v hv=>?_⟩
    · by_cases hv:v < n
      · simp only [if_pos hv]
        cases hf:f (v * n+v) with
        | false=>rfl
        | true =>
          have:=f1 _ (Nat.zero_le _) hf
          rw [(blk_div hv).1,(blk_div hv).2] at this
          simp [mayD] at this
      · simp [hv]
    · rw [← f2 v hv,cR_sum,if_pos hv]
      exact S_congr fun u hu=>by
        have hu2:=List.mem_range.1 hu
        simp [hu2]
    · rw [← f3 v hv,cC_sum f n v hv]
      exact S_congr fun u hu=>by simp [hv]
  · rintro ⟨p,p1,p2,p3⟩
    refine ⟨fun c=>p (c / n) (c % n),fun c _ hc=>?_,fun i hi=>?_,fun j hj=>?_⟩
    · simp only [mayD,Bool.not_eq_true',decide_eq_false_iff_not]
      intro q
      have hc2:p (c / n) (c % n)=true:=hc
      rw [q,p1] at hc2
      simp at hc2
    · rw [cR_sum,if_pos hi,← p2 i hi]
      exact S_congr fun u hu=>by rw [(blk_div (List.mem_range.1 hu)).1,(blk_div (List.mem_range.1 hu)).2]
    · rw [cC_sum _ _ _ hj,← p3 j hj]
      exact S_congr fun u hu=>by rw [(blk_div hj).1,(blk_div hj).2]
end Go.Idl
namespace Go.Idl
open Go
theorem MM.set {h w:Nat} {t:List (List Int)} (ht:MM h w t) {i j:Nat} {v:Int} (hi:i < t.length) (hv:0≤v∧v≤1):MM h w (t.set i (t[i].set j v)):=by
  refine ⟨by simpa using ht.1,fun r hr=>?_⟩
  have h1:=ht.2 _ (List.getElem_mem hi)
  rcases List.mem_or_eq_of_mem_set hr with hr | rfl
  · exact ht.2 r hr
  · refine ⟨by simpa using h1.1,fun x hx=>?_⟩
    rcases List.mem_or_eq_of_mem_set hx with hx | rfl
    · exact h1.2 x hx
    · exact hv
end Go.Idl
namespace Go.Idl
open Go
def allVz (n:Nat):Nat→(List Int→Bool)→Bool
  | 0,f=>f []
  | m+1,f=>(List.range n).all fun x=>allVz n m fun l=>f ((x:Int)::l)
theorem allVz_ok (n:Nat):∀ (m:Nat) (f:List Int→Bool) (l:List Int),allVz n m f=true→l.length=m→(∀ x ∈ l,0≤x∧x < n)→f l=true
  | 0,f,l,h,hl,_=>by
    have:l=[]:=List.length_eq_zero_iff.1 hl
    subst this;exact h
  | m+1,f,[],h,hl,_=>by simp at hl
  | m+1,f,x::r,h,hl,hx=>by
    obtain ⟨k,rfl⟩:=Int.eq_ofNat_of_zero_le (hx x (by simp)).1
    have hk:=(hx (k:Int) (by simp)).2
    have h1:=List.all_eq_true.1 h k (List.mem_range.2 (by omega))
    exact allVz_ok n m (fun l=>f ((k:Int)::l)) r h1 (by simpa using hl) fun y hy=>hx y (by simp [hy])
def tourBz (n:Nat) (t:List (List Int)):Bool:=decide (t.length=n) && (t.all (fun r=>decide (r.length=n) && r.all fun x=>decide (0≤x) && decide (x≤1)) &&
  (List.range n).all fun a=>(List.range n).all fun b=>if a=b then decide (g2 t a b=0) else decide (g2 t a b+g2 t b a=1))
theorem tourBz_ok {n:Nat} {t:List (List Int)} (h1:1≤n) (h5:n≤5) (h:tourBz n t=true):Tour t:=by
  simp only [tourBz,Bool.and_eq_true,List.all_eq_true,decide_eq_true_eq,List.mem_range] at h
  obtain ⟨hl,hr,ht⟩:=h
  refine ⟨by omega,fun r hr'=>⟨by rw [hl];exact (hr r hr').1,(hr r hr').2⟩,fun a b ha hb=>?_⟩
  have:=ht a (by omega) b (by omega)
  rw [tAt]
  split
  · rename_i hab;rw [if_pos hab] at this;simpa using this
  · rename_i hab;rw [if_neg hab] at this;simpa using this
def colBz (n:Nat) (s:List Int) (t:List (List Int)):Bool:=(List.range n).all fun v =>
  decide (((List.range n).map fun u=>if decide (g2 t v u=1)=true then (1:Int) else 0).sum=s.getD v 0) && decide (((List.range n).map fun u=>if decide (g2 t u v=1)=true then (1:Int) else 0).sum=(comp s).getD v 0)
def bigRz (n:Nat) (s:List Int) (t:List (List Int)):Bool:=decide (t=realS2 s) && (tourBz n t && (decide (scores t=s) && colBz n s t))
def chkRz (n:Nat) (s:List Int):Bool:=if s.sum=((n:Int) - 1+1) * ((n:Int) - 1) / 2 then (if isScr s=true then bigRz n s (realI2 s) else true) else true
set_option maxRecDepth 100000 in
theorem cr_1:allVz 1 1 (chkRz 1)=true:=by kernel_rfl
set_option maxRecDepth 100000 in
theorem cr_2:allVz 2 2 (chkRz 2)=true:=by kernel_rfl
set_option maxRecDepth 100000 in
theorem cr_3:allVz 3 3 (chkRz 3)=true:=by kernel_rfl
set_option maxRecDepth 100000 in
theorem cr_4:allVz 4 4 (chkRz 4)=true:=by kernel_rfl
set_option maxRecDepth 100000 in
theorem cr_5_0:allVz 5 4 (fun l=>chkRz 5 (((0:Nat):Int)::l))=true:=by kernel_rfl
set_option maxRecDepth 100000 in
theorem cr_5_1:allVz 5 4 (fun l=>chkRz 5 (((1:Nat):Int)::l))=true:=by kernel_rfl
set_option maxRecDepth 100000 in
theorem cr_5_2:allVz 5 4 (fun l=>chkRz 5 (((2:Nat):Int)::l))=true:=by kernel_rfl
set_option maxRecDepth 100000 in
theorem cr_5_3:allVz 5 4 (fun l=>chkRz 5 (((3:Nat):Int)::l))=true:=by kernel_rfl
set_option maxRecDepth 100000 in
theorem cr_5_4:allVz 5 4 (fun l=>chkRz 5 (((4:Nat):Int)::l))=true:=by kernel_rfl
theorem cr_5:allVz 5 5 (chkRz 5)=true:=by
  refine List.all_eq_true.2 fun x hx=>?_
  match x,List.mem_range.1 hx with
  | 0,_=>exact cr_5_0
  | 1,_=>exact cr_5_1
  | 2,_=>exact cr_5_2
  | 3,_=>exact cr_5_3
  | 4,_=>exact cr_5_4
  | n+5,h=>exact absurd h (by omega)
theorem cr_all (n:Nat) (h1:1≤n) (h5:n≤5):allVz n n (chkRz n)=true:=match n,h1,h5 with
  | 1,_,_=>cr_1
  | 2,_,_=>cr_2
  | 3,_,_=>cr_3
  | 4,_,_=>cr_4
  | 5,_,_=>cr_5
  | n+6,_,h=>absurd h (by omega)
theorem isScr_sumz {s:List Int} (h1:1≤s.length) (h:isScr s=true):s.sum=((s.length:Int) - 1+1) * ((s.length:Int) - 1) / 2:=by
  rw [isScr,Bool.and_eq_true,decide_eq_true_eq,decide_eq_true_eq] at h
  have h2:=h.2
  obtain ⟨n,hn⟩:∃ n,s.length=n+1:=⟨s.length - 1,by omega⟩
  have hol:=over_len s
  rw [getD_get (by rw [hol];omega)] at h2
  have h3:(over s)[s.length - 1]'(by rw [hol];omega)=overT s (s.length - 1):=by simp [over,mapR]
  rw [h3,overT,hn] at h2
  have hal:(asc0 s).length=n+1:=by simp [asc0,fall_len,hn]
  rw [Nat.add_sub_cancel,List.take_of_length_le (by omega)] at h2
  have hs:(asc0 s).sum=s.sum:=by rw [asc0,perm_sum (List.reverse_perm _),fall_sum]
  rw [hs] at h2
  rw [hn]
  push_cast
  have e1:((n:Int)+1 - 1)=n:=by omega
  rw [e1]
  omega
theorem scrLaw (s:List Int) (hv:valS s=true) (hi:isScr s=true):ScrLaw s:=by
  obtain ⟨f1,f2,f3⟩:=valS_few hv
  have h1:=allVz_ok s.length s.length (chkRz s.length) s (cr_all _ f2.1 f2.2) rfl fun x hx=>by have:=f3 x hx;omega
  rw [chkRz,if_pos (isScr_sumz f2.1 hi),if_pos hi] at h1
  simp only [bigRz,Bool.and_eq_true,decide_eq_true_eq] at h1
  obtain ⟨q1,q2,q3,q4⟩:=h1
  have ht:=tourBz_ok f2.1 f2.2 q2
  refine ⟨q1,ht,q3,?_⟩
  have hcl:(comp s).length=s.length:=by simp [comp]
  have hvc:valS (comp s)=true:=by
    simp only [valS,Bool.and_eq_true,List.all_eq_true,decide_eq_true_eq,hcl]
    refine ⟨fun x hx=>?_,by omega,by omega⟩
    simp only [comp,List.mem_map,List.mem_range] at hx
    obtain ⟨y,hy,rfl⟩:=hx
    have:=f3 (s.getD y 0) (by rw [getD_get hy];exact List.getElem_mem hy)
    omega
  have hM:=(hasM2_iff (n:=s.length) rfl hcl (by omega) (valS_lil hv).1 (valS_lil hvc).1).2 ⟨fun v u=>decide (v ≠ u) && decide (g2 (realI2 s) v u=1),fun v=>by simp,fun v hv'=>?_,fun v hv'=>?_⟩
  · rw [implD,decide_eq_true hcl.symm,hv,hvc,hM];rfl
  · have:=List.all_eq_true.1 q4 v (List.mem_range.2 hv')
    simp only [Bool.and_eq_true,decide_eq_true_eq] at this
    rw [← this.1,S]
    congr 1
    refine List.map_congr_left fun u hu=>?_
    by_cases huv:v=u
    · subst huv
      have hd:=ht.2.2 v v (by have:=q2;simp only [tourBz,Bool.and_eq_true,decide_eq_true_eq] at this;omega) (by have:=q2;simp only [tourBz,Bool.and_eq_true,decide_eq_true_eq] at this;omega)
      rw [tAt,if_pos rfl] at hd
      simp [hd]
    · simp [huv]
  · have:=List.all_eq_true.1 q4 v (List.mem_range.2 hv')
    simp only [Bool.and_eq_true,decide_eq_true_eq] at this
    rw [← this.2,S]
    congr 1
    refine List.map_congr_left fun u hu=>?_
    by_cases huv:u=v
    · subst huv
      have hd:=ht.2.2 u u (by have:=q2;simp only [tourBz,Bool.and_eq_true,decide_eq_true_eq] at this;omega) (by have:=q2;simp only [tourBz,Bool.and_eq_true,decide_eq_true_eq] at this;omega)
      rw [tAt,if_pos rfl] at hd
      simp [hd]
    · simp [huv]
end Go.Idl
namespace Go.Idl
open Go
theorem toI_loop (a:List Int) (c:Bool) (hl:a.length≤2000000):∀ (m i:Nat) (A:List Int),i+m=a.length→A.length=a.length→A.take i=a.take i →
    wp tb (.loop z248l6) { T:=[(0,L a c),(3,O A),(4,I i)],loc:=[],M:=[] }
      (fun ex st=>ex=.exit 0∧st={ T:=[(0,L a c),(3,O a),(4,I a.length),(11,Bo false)],loc:=[],M:=[] }):=by
  intro m
  induction m with
  | zero =>
    intro i A hi hA ht
    have h3:i=a.length:=hi
    subst h3
    rw [List.take_of_length_le (by omega),List.take_of_length_le (by omega)] at ht
    rw [ht]
    refine wp_loop ?_
    repeat (first|apply wp_as|apply wp_ss|refine wr (by simp;with_reducible rfl) ?_|refine wq (by simp;with_reducible rfl) ?_|refine wt (by simpa) ?_|refine wf (by simpa) ?_|refine xt (by simpa) ?_|refine xf (by simpa) ?_|apply wp_bs|apply wp_b|refine wp_sr ?_|refine wp_sx ?_|refine wp_ret' ?_|refine wp_skip' ?_|refine wp_exit' ?_)
    exact ⟨rfl,rfl⟩
  | succ m ih =>
    intro i A hi hA ht
    have hi2:i < a.length:=by omega
    have hi3:i < A.length:=by omega
    have w2:IntKind.i64.wrap ((i:Int)+1)=((i+1:Nat):Int):=wrapS (by omega)
    have hg:=ih (i+1) (A.set i a[i]) (by omega) (by simpa using hA) (by
      rw [List.take_succ_eq_append_getElem (by simpa using hi3),List.take_succ_eq_append_getElem hi2,List.take_set_of_le (Nat.le_refl _),ht];simp)
    refine wp_loop ?_
    repeat (first|apply wp_as|apply wp_ss|refine wr (by simp [hi2,hi3,w2];with_reducible rfl) ?_|refine wq (by simp [hi2,hi3,w2];with_reducible rfl) ?_|refine wt (by simpa [hi2,hi3,w2]) ?_|refine wf (by simpa [hi2,hi3,w2]) ?_|refine xt (by simpa [hi2,hi3,w2]) ?_|refine xf (by simpa [hi2,hi3,w2]) ?_|apply wp_bs|apply wp_b|refine wp_sr ?_|refine wp_sx ?_|refine wp_ret' ?_|refine wp_skip' ?_|refine wp_exit' ?_)
    exact hg
theorem ev_toIntS (a:List Int) (c:Bool) (hl:a.length≤2000000):Ev tb zl248 [] [L a c] [] ⟨O a,[],[],[]⟩:=by
  have hlo:=toI_loop a c hl a.length 0 (List.replicate a.length 0) (by omega) (by simp) (by simp)
  rw [show ((0:Nat):Int)=0 from rfl] at hlo
  have hl2:a.length≤274877906944:=by omega
  refine call_of_wp zt248 rfl ?_
  repeat (first|apply wp_as|apply wp_ss|refine wr (by simp [hl2];with_reducible rfl) ?_|refine wq (by simp [hl2];with_reducible rfl) ?_|refine wt (by simpa [hl2]) ?_|refine wf (by simpa [hl2]) ?_|refine xt (by simpa [hl2]) ?_|refine xf (by simpa [hl2]) ?_|apply wp_bs|apply wp_b|refine wp_sr ?_|refine wp_sx ?_|refine wp_ret' ?_|refine wp_skip' ?_|refine wp_exit' ?_)
  refine wp_imp hlo ?_
  rintro ex st ⟨rfl,rfl⟩
  try simp only [if_true]
  repeat (first|apply wp_as|apply wp_ss|refine wr (by simp;with_reducible rfl) ?_|refine wq (by simp;with_reducible rfl) ?_|refine wt (by simpa) ?_|refine wf (by simpa) ?_|refine xt (by simpa) ?_|refine xf (by simpa) ?_|apply wp_bs|apply wp_b|refine wp_sr ?_|refine wp_sx ?_|refine wp_ret' ?_|refine wp_skip' ?_|refine wp_exit' ?_)
  simp [zi248]
theorem eqI_loop (a:List Int) (c d:Bool) (hl:a.length≤2000000):∀ (m i:Nat),i+m=a.length →
    wp tb (.loop z233l8) { T:=[(0,L a c),(1,L a d),(5,I i)],loc:=[],M:=[] }
      (fun ex st=>ex=.exit 0∧st={ T:=[(0,L a c),(1,L a d),(5,I a.length),(14,Bo false)],loc:=[],M:=[] }):=by
  intro m
  induction m with
  | zero =>
    intro i hi
    have h3:i=a.length:=hi
    subst h3
    refine wp_loop ?_
    repeat (first|apply wp_as|apply wp_ss|refine wr (by simp;with_reducible rfl) ?_|refine wq (by simp;with_reducible rfl) ?_|refine wt (by simpa) ?_|refine wf (by simpa) ?_|refine xt (by simpa) ?_|refine xf (by simpa) ?_|apply wp_bs|apply wp_b|refine wp_sr ?_|refine wp_sx ?_|refine wp_ret' ?_|refine wp_skip' ?_|refine wp_exit' ?_)
    exact ⟨rfl,rfl⟩
  | succ m ih =>
    intro i hi
    have hi2:i < a.length:=by omega
    have w2:IntKind.i64.wrap ((i:Int)+1)=((i+1:Nat):Int):=wrapS (by omega)
    have hg:=ih (i+1) (by omega)
    refine wp_loop ?_
    repeat (first|apply wp_as|apply wp_ss|refine wr (by simp [hi2,w2];with_reducible rfl) ?_|refine wq (by simp [hi2,w2];with_reducible rfl) ?_|refine wt (by simpa [hi2,w2]) ?_|refine wf (by simpa [hi2,w2]) ?_|refine xt (by simpa [hi2,w2]) ?_|refine xf (by simpa [hi2,w2]) ?_|apply wp_bs|apply wp_b|refine wp_sr ?_|refine wp_sx ?_|refine wp_ret' ?_|refine wp_skip' ?_|refine wp_exit' ?_)
    exact hg
theorem ev_eqIntS (a:List Int) (c d:Bool) (hl:a.length≤2000000):Ev tb zl233 [] [L a c,L a d] [] ⟨Bo true,[],[],[]⟩:=by
  have hlo:=eqI_loop a c d hl a.length 0 (by omega)
  rw [show ((0:Nat):Int)=0 from rfl] at hlo
  refine call_of_wp zt233 rfl ?_
  repeat (first|apply wp_as|apply wp_ss|refine wr (by simp;with_reducible rfl) ?_|refine wq (by simp;with_reducible rfl) ?_|refine wt (by simpa) ?_|refine wf (by simpa) ?_|refine xt (by simpa) ?_|refine xf (by simpa) ?_|apply wp_bs|apply wp_b|refine wp_sr ?_|refine wp_sx ?_|refine wp_ret' ?_|refine wp_skip' ?_|refine wp_exit' ?_)
  refine wp_imp hlo ?_
  rintro ex st ⟨rfl,rfl⟩
  try simp only [if_true]
  repeat (first|apply wp_as|apply wp_ss|refine wr (by simp;with_reducible rfl) ?_|refine wq (by simp;with_reducible rfl) ?_|refine wt (by simpa) ?_|refine wf (by simpa) ?_|refine xt (by simpa) ?_|refine xf (by simpa) ?_|apply wp_bs|apply wp_b|refine wp_sr ?_|refine wp_sx ?_|refine wp_ret' ?_|refine wp_skip' ?_|refine wp_exit' ?_)
  simp [zi233]
def mrk (k:Int) (n:Nat):List Int:=(List.range n).map fun i:Nat=>k+(i:Int)
theorem mrk_len (k:Int) (n:Nat):(mrk k n).length=n:=by simp [mrk]
theorem mrk_get (k:Int) (n i:Nat) (h:i < (mrk k n).length):(mrk k n)[i]=k+(i:Int):=by simp [mrk]
theorem mkI_loop (k:Int) (n:Nat) (hn:n≤10000000) (hk:0≤k∧k≤100000000):∀ (m i:Nat) (A:List Int),i+m=n→A.length=n→A.take i=(mrk k n).take i →
    wp tb (.loop z243l6) { T:=[(0,O A),(1,I (k+i)),(5,I i)],loc:=[],M:=[] }
      (fun ex st=>ex=.exit 0∧st={ T:=[(0,O (mrk k n)),(1,I (k+n)),(5,I n),(9,Bo false)],loc:=[],M:=[] }):=by
  intro m
  induction m with
  | zero =>
    intro i A hi hA ht
    have h3:i=n:=hi
    subst h3
    rw [List.take_of_length_le (by omega),List.take_of_length_le (by rw [mrk_len];omega)] at ht
    subst ht
    have hq:¬ ((i:Int) < ((mrk k i).length:Int)):=by rw [mrk_len];omega
    refine wp_loop ?_
    repeat (first|apply wp_as|apply wp_ss|refine wr (by simp [mrk_len];with_reducible rfl) ?_|refine wq (by simp [mrk_len];with_reducible rfl) ?_|refine wt (by simpa [mrk_len]) ?_|refine wf (by simpa [mrk_len]) ?_|refine xt (by simpa [mrk_len]) ?_|refine xf (by simpa [mrk_len]) ?_|apply wp_bs|apply wp_b|refine wp_sr ?_|refine wp_sx ?_|refine wp_ret' ?_|refine wp_skip' ?_|refine wp_exit' ?_)
    exact ⟨rfl,rfl⟩
  | succ m ih =>
    intro i A hi hA ht
    have hi2:i < A.length:=by omega
    have w2:IntKind.i64.wrap ((i:Int)+1)=((i+1:Nat):Int):=wrapS (by omega)
    have w3:IntKind.i64.wrap (k+(i:Int)+1)=k+((i+1:Nat):Int):=by rw [wrap64 (by omega) (by omega)];omega
    have hg:=ih (i+1) (A.set i (k+(i:Int))) (by omega) (by simpa using hA) (by
      rw [List.take_succ_eq_append_getElem (by simpa using hi2),List.take_succ_eq_append_getElem (by rw [mrk_len];omega),List.take_set_of_le (Nat.le_refl _),ht,mrk_get];simp)
    refine wp_loop ?_
    repeat (first|apply wp_as|apply wp_ss|refine wr (by simp [hi2,w2,w3];with_reducible rfl) ?_|refine wq (by simp [hi2,w2,w3];with_reducible rfl) ?_|refine wt (by simpa [hi2,w2,w3]) ?_|refine wf (by simpa [hi2,w2,w3]) ?_|refine xt (by simpa [hi2,w2,w3]) ?_|refine xf (by simpa [hi2,w2,w3]) ?_|apply wp_bs|apply wp_b|refine wp_sr ?_|refine wp_sx ?_|refine wp_ret' ?_|refine wp_skip' ?_|refine wp_exit' ?_)
    exact hg
theorem ev_markIntS (a:List Int) (k:Int) (hl:a.length≤10000000) (hk:0≤k∧k≤100000000):Ev tb zl243 [0] [O a,I k] [] ⟨I (k+a.length),[O (mrk k a.length)],[],[]⟩:=by
  have hlo:=mkI_loop k a.length hl hk a.length 0 a (by omega) rfl (by simp)
  rw [show k+((0:Nat):Int)=k by omega,show ((0:Nat):Int)=0 from rfl] at hlo
  refine call_of_wp zt243 rfl ?_
  repeat (first|apply wp_as|apply wp_ss|refine wr (by simp;with_reducible rfl) ?_|refine wq (by simp;with_reducible rfl) ?_|refine wt (by simpa) ?_|refine wf (by simpa) ?_|refine xt (by simpa) ?_|refine xf (by simpa) ?_|apply wp_bs|apply wp_b|refine wp_sr ?_|refine wp_sx ?_|refine wp_ret' ?_|refine wp_skip' ?_|refine wp_exit' ?_)
  refine wp_imp hlo ?_
  rintro ex st ⟨rfl,rfl⟩
  try simp only [if_true]
  repeat (first|apply wp_as|apply wp_ss|refine wr (by simp;with_reducible rfl) ?_|refine wq (by simp;with_reducible rfl) ?_|refine wt (by simpa) ?_|refine wf (by simpa) ?_|refine xt (by simpa) ?_|refine xf (by simpa) ?_|apply wp_bs|apply wp_b|refine wp_sr ?_|refine wp_sx ?_|refine wp_ret' ?_|refine wp_skip' ?_|refine wp_exit' ?_)
  simp [zi243]
theorem hdI_loop (k:Int) (n:Nat) (c:Bool) (hn:n≤10000000) (hk:0≤k∧k≤100000000):∀ (m i:Nat),i+m=n →
    wp tb (.loop z241l7) { T:=[(0,L (mrk k n) c),(1,I (k+i)),(5,I i)],loc:=[],M:=[] }
      (fun ex st=>ex=.exit 0∧st={ T:=[(0,L (mrk k n) c),(1,I (k+n)),(5,I n),(9,Bo false)],loc:=[],M:=[] }):=by
  intro m
  induction m with
  | zero =>
    intro i hi
    have h3:i=n:=hi
    subst h3
    refine wp_loop ?_
    repeat (first|apply wp_as|apply wp_ss|refine wr (by simp [mrk_len];with_reducible rfl) ?_|refine wq (by simp [mrk_len];with_reducible rfl) ?_|refine wt (by simpa [mrk_len]) ?_|refine wf (by simpa [mrk_len]) ?_|refine xt (by simpa [mrk_len]) ?_|refine xf (by simpa [mrk_len]) ?_|apply wp_bs|apply wp_b|refine wp_sr ?_|refine wp_sx ?_|refine wp_ret' ?_|refine wp_skip' ?_|refine wp_exit' ?_)
    exact ⟨rfl,rfl⟩
  | succ m ih =>
    intro i hi
    have hi2:i < n:=by omega
    have w2:IntKind.i64.wrap ((i:Int)+1)=((i+1:Nat):Int):=wrapS (by omega)
    have w3:IntKind.i64.wrap (k+(i:Int)+1)=k+((i+1:Nat):Int):=by rw [wrap64 (by omega) (by omega)];omega
    have hg:=ih (i+1) (by omega)
    refine wp_loop ?_
    repeat (first|apply wp_as|apply wp_ss|refine wr (by simp [mrk_len,hi2,w2,w3,mrk_get];with_reducible rfl) ?_|refine wq (by simp [mrk_len,hi2,w2,w3,mrk_get];with_reducible rfl) ?_|refine wt (by simpa [mrk_len,hi2,w2,w3,mrk_get]) ?_|refine wf (by simpa [mrk_len,hi2,w2,w3,mrk_get]) ?_|refine xt (by simpa [mrk_len,hi2,w2,w3,mrk_get]) ?_|refine xf (by simpa [mrk_len,hi2,w2,w3,mrk_get]) ?_|apply wp_bs|apply wp_b|refine wp_sr ?_|refine wp_sx ?_|refine wp_ret' ?_|refine wp_skip' ?_|refine wp_exit' ?_)
    exact hg
theorem ev_heldIntS (k:Int) (n:Nat) (c:Bool) (hl:n≤10000000) (hk:0≤k∧k≤100000000):Ev tb zl241 [] [L (mrk k n) c,I k] [] ⟨I (k+n),[],[],[]⟩:=by
  have hlo:=hdI_loop k n c hl hk n 0 (by omega)
  rw [show k+((0:Nat):Int)=k by omega,show ((0:Nat):Int)=0 from rfl] at hlo
  refine call_of_wp zt241 rfl ?_
  repeat (first|apply wp_as|apply wp_ss|refine wr (by simp;with_reducible rfl) ?_|refine wq (by simp;with_reducible rfl) ?_|refine wt (by simpa) ?_|refine wf (by simpa) ?_|refine xt (by simpa) ?_|refine xf (by simpa) ?_|apply wp_bs|apply wp_b|refine wp_sr ?_|refine wp_sx ?_|refine wp_ret' ?_|refine wp_skip' ?_|refine wp_exit' ?_)
  refine wp_imp hlo ?_
  rintro ex st ⟨rfl,rfl⟩
  try simp only [if_true]
  repeat (first|apply wp_as|apply wp_ss|refine wr (by simp;with_reducible rfl) ?_|refine wq (by simp;with_reducible rfl) ?_|refine wt (by simpa) ?_|refine wf (by simpa) ?_|refine xt (by simpa) ?_|refine xf (by simpa) ?_|apply wp_bs|apply wp_b|refine wp_sr ?_|refine wp_sx ?_|refine wp_ret' ?_|refine wp_skip' ?_|refine wp_exit' ?_)
  simp [zi241]
end Go.Idl
namespace Go.Idl
open Go
@[simp] theorem fi_cons (p:IV→Bool) (x:IV) (xs:List IV):(x::xs).findIdx? p=if p x then some 0 else (xs.findIdx? p).map (·+1):=List.findIdx?_cons
@[simp] theorem eds_rep (n:Nat):List.replicate n [IV.sc (.int .i64 0),IV.sc (.int .i64 0)]=eds (List.replicate n (0,0)):=by simp [eds]
end Go.Idl
