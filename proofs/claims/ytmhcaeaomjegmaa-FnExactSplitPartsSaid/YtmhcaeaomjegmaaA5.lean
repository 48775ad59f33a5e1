/- Part 5 of a proof by an ideal interpreter of the code: its definitions and lemmas. Conditions: none. -/
import Derived.KernelRfl
import Derived.Test.YtmhcaeaomjegmaaA4
set_option linter.all false
set_option linter.unusedVariables false
set_option linter.unusedSimpArgs false
namespace Go.Idl
open Go
theorem ev_in (n lo hi:Int):Ev tb zl38 [] [I n,I lo,I hi] [] ⟨Bo (decide (lo≤n) && decide (n≤hi)),[],[],[]⟩:=by
  refine call_of_wp zt38 rfl ?_
  refine wp_rs (by simp;rfl) (by simp;rfl) ?_
  by_cases h:lo≤n
  · refine wp_rs (by simp [h];rfl) (by simp;rfl) ?_
    refine wp_ret' ?_
    simp [h,zi38]
  · refine wp_rs (by simp [h];rfl) (by simp;rfl) ?_
    refine wp_ret' ?_
    simp [h,zi38]
theorem ev_inRange (n lo hi:Int):Ev tb zl132 [] [I n,I lo,I hi] [] ⟨Bo (decide (lo≤n) && decide (n≤hi)),[],[],[]⟩:=by
  refine call_of_wp zt132 rfl ?_
  refine wp_rs (by simp;rfl) (by simp;rfl) ?_
  by_cases h:lo≤n
  · refine wp_rs (by simp [h];rfl) (by simp;rfl) ?_
    refine wp_ret' ?_
    simp [h,zi132]
  · refine wp_rs (by simp [h];rfl) (by simp;rfl) ?_
    refine wp_ret' ?_
    simp [h,zi132]
def SmallSum (xs:List Int):Prop:=xs.length≤2000000∧∀ k,-4611686018427387904≤(xs.take k).sum∧(xs.take k).sum≤4611686018427387904
theorem ev_Clip (xs:List Int):Ev tb zl70 [] [.own 1 (ints xs)] [] ⟨.own 1 (ints xs),[],[],[]⟩:=by
  refine call_of_wp zt70 rfl ?_
  refine wp_rs (by simp;rfl) (by simp;rfl) ?_
  refine wp_rs (by simp;rfl) (by simp;rfl) ?_
  refine wp_ret' ?_
  simp [zi70]
theorem ev_Clone (xs:List Int) (c:Bool) (hl:xs.length≤2000000):Ev tb zl71 [] [.lst 1 (ints xs) c] [] ⟨.own 1 (ints xs),[],[],[]⟩:=by
  refine call_of_wp zt71 rfl ?_
  refine wp_rs (by simp;rfl) (by simp;rfl) ?_
  refine wp_nil2 (b:=xs.isEmpty) (by simp [z71r1];rfl) (by simp) ?_ ?_ ?_ (ex:=.ret) (st':={ T:=[(2,.own 1 (ints xs))],loc:=[],M:=[] })
  · refine wp_ct (t:=false) (by simp) (by simp) fun _=>wp_ss ?_
    refine wp_rs (by simp [show xs.length≤274877906944 by omega];rfl) (by simp;rfl) ?_
    refine wp_ret' ?_
    simp
  · intro he
    have:xs=[]:=by simpa using he
    subst this
    refine wp_ct (t:=true) (by simp) (fun _=>wp_as ?_) (by simp)
    refine wp_rs (by simp;rfl) (by simp;rfl) ?_
    refine wp_sr ?_
    simp
  · simp [zi71]
theorem ev_clone (xs:List Int) (c:Bool) (hl:xs.length≤2000000) :
    Ev tb zl31 [] [.lst 1 (ints xs) c] [] ⟨.own 1 (ints xs),[],[],[]⟩:=by
  have e1:=ev_lim (ev_Clone xs c hl)
  have e2:=ev_lim (ev_Clip xs)
  refine call_of_wp zt31 rfl ?_
  refine wp_rs (by simp;rfl) (by simp;rfl) ?_
  refine wp_rs (by simp [e1,e2];rfl) (by simp;rfl) ?_
  refine wp_ret' ?_
  simp [zi31]
end Go.Idl
namespace Go.Idl
def insD (x:Int):List Int→List Int
  | []=>[x]
  | y::ys=>if x≤y then y::insD x ys else x::y::ys
def fall (xs:List Int):List Int:=xs.foldl (fun out x=>insD x out) []
abbrev Desc (xs:List Int):Prop:=xs.Pairwise (fun a b=>b≤a)
abbrev Asc (xs:List Int):Prop:=xs.Pairwise (fun a b=>a≤b)
theorem insD_perm (x:Int) (ys:List Int):(insD x ys).Perm (x::ys):=by
  induction ys with
  | nil=>exact .refl _
  | cons y ys ih =>
    unfold insD
    split
    · exact (ih.cons y).trans (.swap x y ys)
    · exact .refl _
theorem insD_desc (x:Int) (ys:List Int) (h:Desc ys):Desc (insD x ys):=by
  induction ys with
  | nil=>simp [insD]
  | cons y ys ih =>
    unfold insD
    have h:=List.pairwise_cons.1 h
    split
    · refine List.pairwise_cons.2 ⟨fun a ha=>?_,ih h.2⟩
      rcases List.mem_cons.1 ((insD_perm x ys).mem_iff.1 ha) with rfl | ha
      · assumption
      · exact h.1 a ha
    · rename_i hx
      refine List.pairwise_cons.2 ⟨fun a ha=>?_,List.pairwise_cons.2 h⟩
      rcases List.mem_cons.1 ha with rfl | ha
      · omega
      · have:=h.1 a ha;omega
theorem fall_aux (xs:List Int):∀ ys,Desc ys→Desc (xs.foldl (fun out x=>insD x out) ys)∧(xs.foldl (fun out x=>insD x out) ys).Perm (xs++ys):=by
  induction xs with
  | nil=>intro ys h;exact ⟨h,.refl _⟩
  | cons x xs ih =>
    intro ys h
    obtain ⟨h1,h2⟩:=ih (insD x ys) (insD_desc x ys h)
    refine ⟨h1,h2.trans ?_⟩
    exact ((insD_perm x ys).append_left xs).trans List.perm_middle
theorem fall_desc (xs:List Int):Desc (fall xs):=(fall_aux xs [] .nil).1
theorem fall_perm (xs:List Int):(fall xs).Perm xs:=by simpa [fall] using (fall_aux xs [] .nil).2
theorem fall_len (xs:List Int):(fall xs).length=xs.length:=(fall_perm xs).length_eq
theorem desc_unique {xs ys:List Int} (hx:Desc xs) (hy:Desc ys) (h:xs.Perm ys):xs=ys:=by
  refine List.Perm.eq_of_pairwise (le:=fun a b=>b≤a) (fun a b _ _ h1 h2=>by omega) hx hy h
theorem fall_unique {xs ys:List Int} (hy:Desc ys) (h:ys.Perm xs):ys=fall xs:=desc_unique hy (fall_desc xs) (h.trans (fall_perm xs).symm)
theorem fall_mem {xs:List Int} {x:Int}:x ∈ fall xs ↔ x ∈ xs:=(fall_perm xs).mem_iff
def insR (x:Int):List Int→List Int→List Int
  | [],B=>x::B
  | a::r,B=>if x < a then insR x r (a::B) else r.reverse++a::x::B
theorem insR_perm (x:Int):∀ (r B:List Int),(insR x r B).Perm (r.reverse++x::B)
  | [],B=>.refl _
  | a::r,B=>by
    unfold insR
    split
    · refine (insR_perm x r (a::B)).trans ?_
      rw [List.reverse_cons,List.append_assoc]
      exact List.Perm.append_left _ (.swap _ _ _)
    · rw [List.reverse_cons,List.append_assoc]
      exact .refl _
theorem insR_asc (x:Int):∀ (r B:List Int),Asc (r.reverse++B)→(∀ b ∈ B,x≤b)→Asc (insR x r B)
  | [],B,h,hb=>List.pairwise_cons.2 ⟨hb,by simpa using h⟩
  | a::r,B,h,hb=>by
    rw [List.reverse_cons,List.append_assoc] at h
    unfold insR
    split
    · rename_i hx
      refine insR_asc x r (a::B) h fun b hb'=>?_
      rcases List.mem_cons.1 hb' with rfl | hb'
      · omega
      · exact hb b hb'
    · rename_i hx
      obtain ⟨h1,h2,h3⟩:=List.pairwise_append.1 (show Asc (r.reverse++a::B) from h)
      have h2:=List.pairwise_cons.1 h2
      refine List.pairwise_append.2 ⟨h1,?_,fun p hp q hq=>?_⟩
      · refine List.pairwise_cons.2 ⟨fun q hq=>?_,List.pairwise_cons.2 ⟨hb,h2.2⟩⟩
        rcases List.mem_cons.1 hq with rfl | hq
        · omega
        · exact h2.1 q hq
      · have ha:=h3 p hp a (by simp)
        rcases List.mem_cons.1 hq with rfl | hq
        · exact ha
        · rcases List.mem_cons.1 hq with rfl | hq
          · omega
          · exact h3 p hp q (by simp [hq])
def asc:Nat→List Int→List Int→List Int
  | _,S,[]=>S
  | n,S,x::r=>asc n (insR x S.reverse []) r
theorem asc_ok:∀ (r S:List Int),Asc S→Asc (asc 0 S r)∧(asc 0 S r).Perm (S++r)
  | [],S,h=>⟨h,by simp [asc]⟩
  | x::r,S,h=>by
    obtain ⟨h1,h2⟩:=asc_ok r (insR x S.reverse []) (insR_asc x _ _ (by simpa using h) (by simp))
    refine ⟨h1,h2.trans ?_⟩
    have:=insR_perm x S.reverse []
    rw [List.reverse_reverse] at this
    refine (this.append_right r).trans ?_
    rw [List.append_assoc];exact .refl _
theorem asc_rev (xs:List Int):(asc 0 [] xs).reverse=fall xs:=by
  obtain ⟨h1,h2⟩:=asc_ok xs [] .nil
  refine fall_unique ?_ ((List.reverse_perm _).trans (by simpa using h2))
  rw [Desc,List.pairwise_reverse];exact h1
theorem asc_len (xs:List Int):(asc 0 [] xs).length=xs.length:=by simpa using (asc_ok xs [] .nil).2.length_eq
end Go.Idl
namespace Go.Idl
open Go
abbrev L (xs:List Int) (c:Bool:=false):IV:=.lst 1 (ints xs) c
abbrev O (xs:List Int):IV:=.own 1 (ints xs)
theorem ev_isNaN (n:Int):Ev tb zl4 [] [I n] [] ⟨Bo false,[],[],[]⟩:=by
  refine call_of_wp zt4 rfl ?_
  repeat (first|apply wp_as|apply wp_ss|refine wr (by simp;with_reducible rfl) ?_|refine wq (by simp;with_reducible rfl) ?_|refine wt (by simpa) ?_|refine wf (by simpa) ?_|refine xt (by simpa) ?_|refine xf (by simpa) ?_|apply wp_bs|apply wp_b|refine wp_sr ?_|refine wp_sx ?_|refine wp_ret' ?_|refine wp_skip' ?_|refine wp_exit' ?_)
  simp [zi4]
theorem ev_Less (a b:Int):Ev tb zl2 [] [I a,I b] [] ⟨Bo (decide (a < b)),[],[],[]⟩:=by
  have e1:=fun n=>ev_lim (ev_isNaN n)
  refine call_of_wp zt2 rfl ?_
  repeat (first|apply wp_as|apply wp_ss|refine wr (by simp [e1];with_reducible rfl) ?_|refine wq (by simp [e1];with_reducible rfl) ?_|refine wt (by simpa [e1]) ?_|refine wf (by simpa [e1]) ?_|refine xt (by simpa [e1]) ?_|refine xf (by simpa [e1]) ?_|apply wp_bs|apply wp_b|refine wp_sr ?_|refine wp_sx ?_|refine wp_ret' ?_|refine wp_skip' ?_|refine wp_exit' ?_)
  simp [zi2]
theorem app_get1 {A Z:List Int} {a x:Int}:(A++a::x::Z)[A.length+1]? = some x:=by
  rw [List.getElem?_append_right (by omega)];simp
theorem app_get0 {A Z:List Int} {a:Int}:(A++a::Z)[A.length]? = some a:=by
  rw [List.getElem?_append_right (by omega)];simp
theorem app_set {A Z:List Int} {a x:Int}:((A++a::x::Z).set (A.length+1) a).set A.length x=A++x::a::Z:=by
  rw [List.set_append_right _ _ (by omega),List.set_append_right _ _ (by omega)]
  simp
theorem insl (n i:Int) (x:Int) (rest:List Int) (M:List Boxes):∀ (k:Nat) (A B:List Int),A.length=k→k+B.length+rest.length≤2000000 →
    wp tb (.loop z86l6) { T:=[(0,O (A++x::(B++rest))),(1,I 0),(2,I n),(6,I i),(7,I k)],loc:=[],M:=M }
      (fun ex st=>ex=.exit 2∧∃ k':Int,st={ T:=[(0,O (insR x A.reverse B++rest)),(1,I 0),(2,I n),(6,I i),(7,I k'),(30,Bo false)],loc:=[],M:=M }):=by
  have e1:=fun a b=>ev_lim (ev_Less a b)
  intro k
  induction k with
  | zero =>
    intro A B hA hl
    have:A=[]:=List.length_eq_zero_iff.1 hA
    subst this
    refine wp_loop ?_
    repeat (first|apply wp_as|apply wp_ss|refine wr (by simp;with_reducible rfl) ?_|refine wq (by simp;with_reducible rfl) ?_|refine wt (by simpa) ?_|refine wf (by simpa) ?_|refine xt (by simpa) ?_|refine xf (by simpa) ?_|apply wp_bs|apply wp_b|refine wp_sr ?_|refine wp_sx ?_|refine wp_ret' ?_|refine wp_skip' ?_|refine wp_exit' ?_)
    exact ⟨rfl,_,by simp [insR];rfl⟩
  | succ k ih =>
    intro A B hA hl
    obtain ⟨A',a,rfl⟩:∃ A' a,A=A'++[a]:=⟨A.dropLast,A.getLast (by intro h;subst h;simp at hA),(List.dropLast_concat_getLast _).symm⟩
    have hA':A'.length=k:=by simpa using hA
    subst hA'
    have w1:IntKind.i64.wrap (A'.length:Int)=(A'.length:Int):=wrapN (by omega)
    have w2:(0:Int) < (A'.length:Int)+1:=by omega
    simp only [List.append_assoc,List.singleton_append]
    by_cases hx:x < a
    · refine wp_loop ?_
      repeat (first|apply wp_as|apply wp_ss|refine wr (by simp [e1,hx,w1,w2,app_get0,app_get1,app_set];with_reducible rfl) ?_|refine wq (by simp [e1,hx,w1,w2,app_get0,app_get1,app_set];with_reducible rfl) ?_|refine wt (by simpa [e1,hx,w1,w2,app_get0,app_get1,app_set]) ?_|refine wf (by simpa [e1,hx,w1,w2,app_get0,app_get1,app_set]) ?_|refine xt (by simpa [e1,hx,w1,w2,app_get0,app_get1,app_set]) ?_|refine xf (by simpa [e1,hx,w1,w2,app_get0,app_get1,app_set]) ?_|apply wp_bs|apply wp_b|refine wp_sr ?_|refine wp_sx ?_|refine wp_ret' ?_|refine wp_skip' ?_|refine wp_exit' ?_)
      have:=ih A' (a::B) rfl (by simp;omega)
      simp only [List.cons_append,List.reverse_append,List.reverse_cons,List.reverse_nil,List.nil_append] at this ⊢
      simp only [insR,hx,if_true]
      exact this
    · refine wp_loop ?_
      repeat (first|apply wp_as|apply wp_ss|refine wr (by simp [e1,hx,w1,w2,app_get0,app_get1,app_set];with_reducible rfl) ?_|refine wq (by simp [e1,hx,w1,w2,app_get0,app_get1,app_set];with_reducible rfl) ?_|refine wt (by simpa [e1,hx,w1,w2,app_get0,app_get1,app_set]) ?_|refine wf (by simpa [e1,hx,w1,w2,app_get0,app_get1,app_set]) ?_|refine xt (by simpa [e1,hx,w1,w2,app_get0,app_get1,app_set]) ?_|refine xf (by simpa [e1,hx,w1,w2,app_get0,app_get1,app_set]) ?_|apply wp_bs|apply wp_b|refine wp_sr ?_|refine wp_sx ?_|refine wp_ret' ?_|refine wp_skip' ?_|refine wp_exit' ?_)
      refine ⟨rfl,((A'.length+1:Nat):Int),?_⟩
      simp only [List.reverse_append,List.reverse_cons,List.reverse_nil,List.nil_append,List.cons_append]
      simp only [insR,hx,if_false,List.reverse_reverse,List.append_assoc,List.cons_append]
      rfl
theorem insr_len (x:Int) (S:List Int):(insR x S.reverse []).length=S.length+1:=by
  have:=(insR_perm x S.reverse []).length_eq
  simpa using this
theorem sortl (M:List Boxes) (n:Int):∀ (r S:List Int),n=(S.length+r.length:Nat)→S.length+r.length≤2000000 →
    wp tb (.loop z86l8) { T:=[(0,O (S++r)),(1,I 0),(2,I n),(6,I S.length)],loc:=[],M:=M }
      (fun ex st=>ex=.exit 0∧∃ k':Int,st={ T:=[(0,O (asc 0 S r)),(1,I 0),(2,I n),(6,I k'),(12,Bo false)],loc:=[],M:=M }):=by
  intro r
  induction r with
  | nil =>
    intro S hn hl
    refine wp_loop ?_
    have h1:¬ (S.length:Int) < n:=by simp at hn;omega
    repeat (first|apply wp_as|apply wp_ss|refine wr (by simp [h1];with_reducible rfl) ?_|refine wq (by simp [h1];with_reducible rfl) ?_|refine wt (by simpa [h1]) ?_|refine wf (by simpa [h1]) ?_|refine xt (by simpa [h1]) ?_|refine xf (by simpa [h1]) ?_|apply wp_bs|apply wp_b|refine wp_sr ?_|refine wp_sx ?_|refine wp_ret' ?_|refine wp_skip' ?_|refine wp_exit' ?_)
    exact ⟨rfl,_,by simp [asc];rfl⟩
  | cons x r ih =>
    intro S hn hl
    refine wp_loop ?_
    simp only [List.length_cons] at hn hl
    have h1:(S.length:Int) < n:=by omega
    have w1:IntKind.i64.wrap ((S.length:Int)+1)=(S.length:Int)+1:=by rw [wrap64 (by omega) (by omega)]
    repeat (first|apply wp_as|apply wp_ss|refine wr (by simp [h1,w1];with_reducible rfl) ?_|refine wq (by simp [h1,w1];with_reducible rfl) ?_|refine wt (by simpa [h1,w1]) ?_|refine wf (by simpa [h1,w1]) ?_|refine xt (by simpa [h1,w1]) ?_|refine xf (by simpa [h1,w1]) ?_|apply wp_bs|apply wp_b|refine wp_sr ?_|refine wp_sx ?_|refine wp_ret' ?_|refine wp_skip' ?_|refine wp_exit' ?_)
    refine wp_imp (insl n S.length x r M S.length S [] rfl (by simp;omega)) ?_
    rintro ex st ⟨rfl,k',rfl⟩
    simp only [if_true]
    repeat (first|apply wp_as|apply wp_ss|refine wr (by simp [h1,w1];with_reducible rfl) ?_|refine wq (by simp [h1,w1];with_reducible rfl) ?_|refine wt (by simpa [h1,w1]) ?_|refine wf (by simpa [h1,w1]) ?_|refine xt (by simpa [h1,w1]) ?_|refine xf (by simpa [h1,w1]) ?_|apply wp_bs|apply wp_b|refine wp_sr ?_|refine wp_sx ?_|refine wp_ret' ?_|refine wp_skip' ?_|refine wp_exit' ?_)
    have:=ih (insR x S.reverse []) (by rw [insr_len];omega) (by rw [insr_len];omega)
    rw [insr_len] at this
    exact this
theorem ev_insertionSort (xs:List Int) (hl:xs.length≤1000) (M:List Boxes) :
    Ev tb zl86 [0] [O xs,I 0,I xs.length] M ⟨.tup [],[O (asc 0 [] xs)],M,[]⟩:=by
  refine call_of_wp zt86 rfl ?_
  repeat (first|apply wp_as|apply wp_ss|refine wr (by simp;with_reducible rfl) ?_|refine wq (by simp;with_reducible rfl) ?_|refine wt (by simpa) ?_|refine wf (by simpa) ?_|refine xt (by simpa) ?_|refine xf (by simpa) ?_|apply wp_bs|apply wp_b|refine wp_sr ?_|refine wp_sx ?_|refine wp_ret' ?_|refine wp_skip' ?_|refine wp_exit' ?_)
  cases xs with
  | nil =>
    refine wp_loop ?_
    repeat (first|apply wp_as|apply wp_ss|refine wr (by simp;with_reducible rfl) ?_|refine wq (by simp;with_reducible rfl) ?_|refine wt (by simpa) ?_|refine wf (by simpa) ?_|refine xt (by simpa) ?_|refine xf (by simpa) ?_|apply wp_bs|apply wp_b|refine wp_sr ?_|refine wp_sx ?_|refine wp_ret' ?_|refine wp_skip' ?_|refine wp_exit' ?_)
    simp [zi86,asc]
  | cons x r =>
    simp only [List.length_cons] at hl
    refine wp_imp (sortl M _ r [x] (by simp;omega) (by simp;omega)) ?_
    rintro ex st ⟨rfl,k',rfl⟩
    simp [zi86,asc,insR]
theorem ev_pdqsort (xs:List Int) (hl:xs.length≤12) (k:Int) (M:List Boxes) :
    Ev tb zl101 [0] [O xs,I 0,I xs.length,I k] M ⟨.tup [],[O (asc 0 [] xs)],M,[]⟩:=by
  have e1:=ev_lim (ev_insertionSort xs (by omega) (M++[[]]))
  have w1:IntKind.i64.wrap (xs.length:Int)=(xs.length:Int):=wrapN (by omega)
  refine call_of_wp zt101 rfl ?_
  repeat (first|apply wp_as|apply wp_ss|refine wr (by simp;with_reducible rfl) ?_|refine wq (by simp;with_reducible rfl) ?_|refine wt (by simpa) ?_|refine wf (by simpa) ?_|refine xt (by simpa) ?_|refine xf (by simpa) ?_|apply wp_bs|apply wp_b|refine wp_sr ?_|refine wp_sx ?_|refine wp_ret' ?_|refine wp_skip' ?_|refine wp_exit' ?_)
  refine wp_loop ?_
  have h:(xs.length:Int)≤12:=by omega
  repeat (first|apply wp_as|apply wp_ss|refine wr (by simp [e1,w1,hl,h];with_reducible rfl) ?_|refine wq (by simp [e1,w1,hl,h];with_reducible rfl) ?_|refine wt (by simpa [e1,w1,hl,h]) ?_|refine wf (by simpa [e1,w1,hl,h]) ?_|refine xt (by simpa [e1,w1,hl,h]) ?_|refine xf (by simpa [e1,w1,hl,h]) ?_|apply wp_bs|apply wp_b|refine wp_sr ?_|refine wp_sx ?_|refine wp_ret' ?_|refine wp_skip' ?_|refine wp_exit' ?_)
  simp [zi101]
theorem len_r (cf:CF) (n:Int) (m:Nat) (g:ByteArray) (hw:IntKind.u8.wrap n=(m:Int)) (hb:(g[m]?).isSome=true) :
    ∃ k st,execOps cf { T:=[(0,.sc (.int .u64 n)),(2,I 0),(14,Bo false)],loc:=[],M:=[] } [⟨some 19,none,.mv (.t 2)⟩,⟨some 20,none,.mv (.t 0)⟩,⟨some 21,none,.conv .u8 (.t 20)⟩,⟨some 22,none,.idxs (.c (.string g)) (.t 21)⟩,⟨some 23,none,.conv .i64 (.t 22)⟩,⟨some 24,none,.bin .add (.t 19) (.t 23)⟩,⟨some 2,none,.asg (.t 24)⟩]=some st∧st.cut [2]={ T:=[(2,I k)],loc:=[],M:=[] }:=by
  obtain ⟨b,hb⟩:=Option.isSome_iff_exists.1 hb
  refine ⟨_,_,by simp [hw,hb];rfl,by simp;rfl⟩
set_option maxRecDepth 100000 in
theorem ev_Len64 (n:Nat) (hn:n≤12):∃ k:Int,Ev tb zl68 [] [.sc (.int .u64 n)] [] ⟨I k,[],[],[]⟩:=by
  have w8:IntKind.u8.wrap (n:Int)=(n:Int):=by
    have:n=0 ∨ n=1 ∨ n=2 ∨ n=3 ∨ n=4 ∨ n=5 ∨ n=6 ∨ n=7 ∨ n=8 ∨ n=9 ∨ n=10 ∨ n=11 ∨ n=12:=by omega
    rcases this with rfl | rfl | rfl | rfl | rfl | rfl | rfl | rfl | rfl | rfl | rfl | rfl | rfl <;> rfl
  have key:∃ k:Int,∃ st,execOps (limF tb) { T:=[(0,.sc (.int .u64 n)),(2,I 0),(14,Bo false)],loc:=[],M:=[] } (match z68r10 with | .reg ops _ _=>ops | _=>[])=some st∧st.cut [2]={ T:=[(2,I k)],loc:=[],M:=[] }:=by
    have:n=0 ∨ n=1 ∨ n=2 ∨ n=3 ∨ n=4 ∨ n=5 ∨ n=6 ∨ n=7 ∨ n=8 ∨ n=9 ∨ n=10 ∨ n=11 ∨ n=12:=by omega
    rcases this with rfl | rfl | rfl | rfl | rfl | rfl | rfl | rfl | rfl | rfl | rfl | rfl | rfl
    all_goals
      refine len_r (limF tb) _ _ _ w8 ?_
      rfl
  obtain ⟨k,st,h1,h2⟩:=key
  have g1:¬ (4294967296:Int)≤n:=by omega
  have g2:¬ (65536:Int)≤n:=by omega
  have g3:¬ (256:Int)≤n:=by omega
  refine ⟨k,?_⟩
  refine call_of_wp zt68 rfl ?_
  iterate 4 ((first|refine wp_as ?_|skip);refine wp_rs (by simp [g1,g2,g3];rfl) (by simp;rfl) ?_;(first|refine wp_ct (t:=false) (by simp) (by simp) (fun _=>?_)|skip);(first|refine wp_ss ?_|skip))
  refine wp_rs h1 h2 ?_
  refine wp_ret' ?_
  simp [zi68]
theorem ev_Len (n:Nat) (hn:n≤12):∃ k:Int,Ev tb zl66 [] [.sc (.int .u64 n)] [] ⟨I k,[],[],[]⟩:=by
  obtain ⟨k,hk⟩:=ev_Len64 n hn
  have e1:=ev_lim hk
  refine ⟨k,?_⟩
  refine call_of_wp zt66 rfl ?_
  repeat (first|apply wp_as|apply wp_ss|refine wr (by simp [e1];with_reducible rfl) ?_|refine wq (by simp [e1];with_reducible rfl) ?_|refine wt (by simpa [e1]) ?_|refine wf (by simpa [e1]) ?_|refine xt (by simpa [e1]) ?_|refine xf (by simpa [e1]) ?_|apply wp_bs|apply wp_b|refine wp_sr ?_|refine wp_sx ?_|refine wp_ret' ?_|refine wp_skip' ?_|refine wp_exit' ?_)
  simp [zi66]
theorem wrapU {n:Nat} (h:n < 2000000):IntKind.u64.wrap (n:Int)=(n:Int):=by
  have e1:(2:Int) ^ IntKind.u64.bits=18446744073709551616:=by decide
  have e3:IntKind.u64.signed=false:=rfl
  unfold IntKind.wrap
  rw [e1,e3]
  simp
  omega
theorem ev_Sort (xs:List Int) (hl:xs.length≤12) (M:List Boxes) :
    Ev tb zl78 [0] [O xs] M ⟨.tup [],[O (asc 0 [] xs)],M,[]⟩:=by
  obtain ⟨k,hk⟩:=ev_Len xs.length hl
  have e1:=ev_lim hk
  have e2:=ev_lim (ev_pdqsort xs hl k (M++[[]]))
  have w1:=@wrapU xs.length (by omega)
  refine call_of_wp zt78 rfl ?_
  repeat (first|apply wp_as|apply wp_ss|refine wr (by simp [e1,e2,w1];with_reducible rfl) ?_|refine wq (by simp [e1,e2,w1];with_reducible rfl) ?_|refine wt (by simpa [e1,e2,w1]) ?_|refine wf (by simpa [e1,e2,w1]) ?_|refine xt (by simpa [e1,e2,w1]) ?_|refine xf (by simpa [e1,e2,w1]) ?_|apply wp_bs|apply wp_b|refine wp_sr ?_|refine wp_sx ?_|refine wp_ret' ?_|refine wp_skip' ?_|refine wp_exit' ?_)
  simp [zi78]
end Go.Idl
namespace Go.Idl
open Go
theorem natOf_add2 {k:IntKind} {a b:Nat}:natOf (.sc (.int k ((a:Int)+(b:Int)+1)))=some (a+b+1):=natOf_nat (n:=a+b+1)
theorem rv_get {A m B:List Int} {x y:Int}:(A++x::(m++y::B))[A.length+m.length+1]? = some y:=by
  rw [List.getElem?_append_right (by omega),show A.length+m.length+1 - A.length=m.length+1 by omega,List.getElem?_cons_succ,List.getElem?_append_right (by omega)];simp
theorem rv_getE {A m B:List Int} {x y:Int} {h}:(A++x::(m++y::B))[A.length+m.length+1]'h=y:=by
  have:=@rv_get A m B x y
  rw [List.getElem?_eq_getElem h] at this
  exact Option.some.inj this
theorem rv_set {A m B:List Int} {v x y:Int}:(A++v::(m++y::B)).set (A.length+m.length+1) x=A++v::(m++x::B):=by
  rw [List.set_append_right _ _ (by omega)]
  simp [show A.length+m.length+1 - A.length=m.length+1 by omega]
theorem revl (M:List Boxes):∀ (k:Nat) (A m B:List Int),m.length≤k→A.length+m.length+B.length≤2000000 →
    wp tb (.loop z76l4) { T:=[(0,O (A++(m++B))),(2,I A.length),(3,I ((A.length:Int)+m.length - 1))],loc:=[],M:=M }
      (fun ex st=>ex=.exit 0∧∃ a b:Int,st={ T:=[(0,O (A++(m.reverse++B))),(2,I a),(3,I b),(9,Bo false)],loc:=[],M:=M }):=by
  intro k
  induction k with
  | zero =>
    intro A m B hk hl
    have:m=[]:=List.length_eq_zero_iff.1 (by omega)
    subst this
    refine wp_loop ?_
    have h:¬ ((A.length:Int) < A.length - 1):=by omega
    repeat (first|apply wp_as|apply wp_ss|refine wr (by simp [h];with_reducible rfl) ?_|refine wq (by simp [h];with_reducible rfl) ?_|refine wt (by simpa [h]) ?_|refine wf (by simpa [h]) ?_|refine xt (by simpa [h]) ?_|refine xf (by simpa [h]) ?_|apply wp_bs|apply wp_b|refine wp_sr ?_|refine wp_sx ?_|refine wp_ret' ?_|refine wp_skip' ?_|refine wp_exit' ?_)
    exact ⟨rfl,_,_,rfl⟩
  | succ k ih =>
    intro A m B hk hl
    match m,hk,hl with
    | [],hk,hl =>
      refine wp_loop ?_
      have h:¬ ((A.length:Int) < A.length - 1):=by omega
      repeat (first|apply wp_as|apply wp_ss|refine wr (by simp [h];with_reducible rfl) ?_|refine wq (by simp [h];with_reducible rfl) ?_|refine wt (by simpa [h]) ?_|refine wf (by simpa [h]) ?_|refine xt (by simpa [h]) ?_|refine xf (by simpa [h]) ?_|apply wp_bs|apply wp_b|refine wp_sr ?_|refine wp_sx ?_|refine wp_ret' ?_|refine wp_skip' ?_|refine wp_exit' ?_)
      exact ⟨rfl,_,_,rfl⟩
    | [x],hk,hl =>
      refine wp_loop ?_
      repeat (first|apply wp_as|apply wp_ss|refine wr (by simp;with_reducible rfl) ?_|refine wq (by simp;with_reducible rfl) ?_|refine wt (by simpa) ?_|refine wf (by simpa) ?_|refine xt (by simpa) ?_|refine xf (by simpa) ?_|apply wp_bs|apply wp_b|refine wp_sr ?_|refine wp_sx ?_|refine wp_ret' ?_|refine wp_skip' ?_|refine wp_exit' ?_)
      exact ⟨rfl,_,_,rfl⟩
    | x::z::m',hk,hl =>
      obtain ⟨m,y,hm⟩:∃ m y,z::m'=m++[y]:=⟨(z::m').dropLast,(z::m').getLast (by simp),(List.dropLast_concat_getLast _).symm⟩
      rw [hm] at hk hl ⊢
      simp only [List.length_cons,List.length_append,List.length_nil] at hk hl
      have hj:(A.length:Int)+(x::(m++[y])).length - 1=(A.length:Int)+m.length+1:=by simp;omega
      rw [hj]
      simp only [List.cons_append,List.append_assoc,List.nil_append]
      refine wp_loop ?_
      have h:(A.length:Int) < A.length+m.length+1:=by omega
      have h2:A.length < A.length+(m.length+(B.length+1)+1):=by omega
      have h3:A.length+m.length+1 < A.length+(m.length+(B.length+1)+1):=by omega
      have w1:IntKind.i64.wrap ((A.length:Int)+1)=((A++[y]).length:Int):=by rw [wrap64 (by omega) (by omega)];simp
      have w2:IntKind.i64.wrap ((A.length:Int)+m.length)=((A++[y]).length:Int)+m.length - 1:=by rw [wrap64 (by omega) (by omega)];simp;omega
      repeat (first|apply wp_as|apply wp_ss|refine wr (by simp [h,h2,h3,w1,w2,rv_get,rv_getE,rv_set,natOf_add2,app_get0];with_reducible rfl) ?_|refine wq (by simp [h,h2,h3,w1,w2,rv_get,rv_getE,rv_set,natOf_add2,app_get0];with_reducible rfl) ?_|refine wt (by simpa [h,h2,h3,w1,w2,rv_get,rv_getE,rv_set,natOf_add2,app_get0]) ?_|refine wf (by simpa [h,h2,h3,w1,w2,rv_get,rv_getE,rv_set,natOf_add2,app_get0]) ?_|refine xt (by simpa [h,h2,h3,w1,w2,rv_get,rv_getE,rv_set,natOf_add2,app_get0]) ?_|refine xf (by simpa [h,h2,h3,w1,w2,rv_get,rv_getE,rv_set,natOf_add2,app_get0]) ?_|apply wp_bs|apply wp_b|refine wp_sr ?_|refine wp_sx ?_|refine wp_ret' ?_|refine wp_skip' ?_|refine wp_exit' ?_)
      have:=ih (A++[y]) m (x::B) (by omega) (by simp;omega)
      simp at this ⊢
      exact this
theorem ev_Reverse (xs:List Int) (hl:xs.length≤2000000) (M:List Boxes) :
    Ev tb zl76 [0] [O xs] M ⟨.tup [],[O xs.reverse],M,[]⟩:=by
  have w1:IntKind.i64.wrap ((xs.length:Int) - 1)=(xs.length:Int) - 1:=wrap64 (by omega) (by omega)
  refine call_of_wp zt76 rfl ?_
  repeat (first|apply wp_as|apply wp_ss|refine wr (by simp [w1];with_reducible rfl) ?_|refine wq (by simp [w1];with_reducible rfl) ?_|refine wt (by simpa [w1]) ?_|refine wf (by simpa [w1]) ?_|refine xt (by simpa [w1]) ?_|refine xf (by simpa [w1]) ?_|apply wp_bs|apply wp_b|refine wp_sr ?_|refine wp_sx ?_|refine wp_ret' ?_|refine wp_skip' ?_|refine wp_exit' ?_)
  have:=revl M xs.length [] xs [] (by omega) (by simp;omega)
  simp at this
  refine wp_imp this ?_
  rintro ex st ⟨rfl,a,b,rfl⟩
  simp [zi76]
theorem ev_falling (xs:List Int) (c:Bool) (hl:xs.length≤12) :
    Ev tb zl37 [] [L xs c] [] ⟨O (fall xs),[],[],[]⟩:=by
  have e1:=ev_lim (ev_clone xs c (by omega))
  have e2:=ev_lim (ev_Sort xs hl [[]])
  have e3:=ev_lim (ev_Reverse (asc 0 [] xs) (by rw [asc_len];omega) [[]])
  refine call_of_wp zt37 rfl ?_
  repeat (first|apply wp_as|apply wp_ss|refine wr (by simp [e1,e2,e3,asc_rev];with_reducible rfl) ?_|refine wq (by simp [e1,e2,e3,asc_rev];with_reducible rfl) ?_|refine wt (by simpa [e1,e2,e3,asc_rev]) ?_|refine wf (by simpa [e1,e2,e3,asc_rev]) ?_|refine xt (by simpa [e1,e2,e3,asc_rev]) ?_|refine xf (by simpa [e1,e2,e3,asc_rev]) ?_|apply wp_bs|apply wp_b|refine wp_sr ?_|refine wp_sx ?_|refine wp_ret' ?_|refine wp_skip' ?_|refine wp_exit' ?_)
  simp [zi37]
theorem drop_get {xs:List Int} {i m:Nat} (h:i+(m+1)=xs.length):∃ h:i < xs.length,xs.drop i=xs[i]::xs.drop (i+1)∧xs[i] ∈ xs:=by
  have hi:i < xs.length:=by omega
  exact ⟨hi,List.drop_eq_getElem_cons hi,List.getElem_mem hi⟩
theorem drop_end {xs:List Int} {i:Nat} (h:i+0=xs.length):xs[i]? = none∧xs.drop i=[]:=by
  have:i=xs.length:=by omega
  subst this
  simp
def idx (p:Int→Bool):Int→List Int→Int
  | _,[]=>-1
  | i,x::r=>if p x then i else idx p (i+1) r
theorem ev_IndexFunc (xs:List Int) (c:Bool) (F:Lab) (caps:List IV) (M:List Boxes) (p:Int→Bool) (hl:xs.length≤2000000)
    (hp:∀ x ∈ xs,Ev tb F [] (I x::caps) (M++[[]]) ⟨Bo (p x),[],M++[[]],[]⟩) :
    Ev tb zl73 [] [L xs c,.fn F caps] M ⟨I (idx p 0 xs),[],M,[]⟩:=by
  have loop:∀ (m i:Nat),i+m=xs.length→wp tb (.loop z73l7) { T:=[(0,L xs c),(1,.fn F caps),(7,I xs.length),(8,I i)],loc:=[],M:=M }
      (fun ex st=>(ex=.exit 0∧idx p i (xs.drop i)=-1∧st={ T:=[(0,L xs c),(1,.fn F caps),(7,I xs.length),(8,I xs.length),(9,Bo false)],loc:=[],M:=M }) ∨
        ex=.ret∧st={ T:=[(4,I (idx p i (xs.drop i)))],loc:=[],M:=M }):=by
    intro m
    induction m with
    | zero =>
      intro i hi
      obtain ⟨h1,h2⟩:=drop_end hi
      have h3:i=xs.length:=hi
      subst h3
      refine wp_loop ?_
      repeat (first|apply wp_as|apply wp_ss|refine wr (by simp;with_reducible rfl) ?_|refine wq (by simp;with_reducible rfl) ?_|refine wt (by simpa) ?_|refine wf (by simpa) ?_|refine xt (by simpa) ?_|refine xf (by simpa) ?_|apply wp_bs|apply wp_b|refine wp_sr ?_|refine wp_sx ?_|refine wp_ret' ?_|refine wp_skip' ?_|refine wp_exit' ?_)
      refine .inl ⟨rfl,by rw [h2];rfl,rfl⟩
    | succ m ih =>
      intro i hi
      obtain ⟨hi2,h2,h3⟩:=drop_get hi
      have e1:=ev_lim (hp _ h3)
      have w1:IntKind.i64.wrap ((i:Int)+1)=((i+1:Nat):Int):=wrapS (by omega)
      rw [h2]
      cases hpx:p xs[i] with
      | true =>
        refine wp_loop ?_
        repeat (first|apply wp_as|apply wp_ss|refine wr (by simp [e1,hi2,w1,hpx];with_reducible rfl) ?_|refine wq (by simp [e1,hi2,w1,hpx];with_reducible rfl) ?_|refine wt (by simpa [e1,hi2,w1,hpx]) ?_|refine wf (by simpa [e1,hi2,w1,hpx]) ?_|refine xt (by simpa [e1,hi2,w1,hpx]) ?_|refine xf (by simpa [e1,hi2,w1,hpx]) ?_|apply wp_bs|apply wp_b|refine wp_sr ?_|refine wp_sx ?_|refine wp_ret' ?_|refine wp_skip' ?_|refine wp_exit' ?_)
        refine .inr ⟨rfl,by simp [idx,hpx]⟩
      | false =>
        refine wp_loop ?_
        repeat (first|apply wp_as|apply wp_ss|refine wr (by simp [e1,hi2,w1,hpx];with_reducible rfl) ?_|refine wq (by simp [e1,hi2,w1,hpx];with_reducible rfl) ?_|refine wt (by simpa [e1,hi2,w1,hpx]) ?_|refine wf (by simpa [e1,hi2,w1,hpx]) ?_|refine xt (by simpa [e1,hi2,w1,hpx]) ?_|refine xf (by simpa [e1,hi2,w1,hpx]) ?_|apply wp_bs|apply wp_b|refine wp_sr ?_|refine wp_sx ?_|refine wp_ret' ?_|refine wp_skip' ?_|refine wp_exit' ?_)
        have:=ih (i+1) (by omega)
        simp only [idx,hpx] at this ⊢
        exact this
  refine call_of_wp zt73 rfl ?_
  repeat (first|apply wp_as|apply wp_ss|refine wr (by simp;with_reducible rfl) ?_|refine wq (by simp;with_reducible rfl) ?_|refine wt (by simpa) ?_|refine wf (by simpa) ?_|refine xt (by simpa) ?_|refine xf (by simpa) ?_|apply wp_bs|apply wp_b|refine wp_sr ?_|refine wp_sx ?_|refine wp_ret' ?_|refine wp_skip' ?_|refine wp_exit' ?_)
  refine wp_imp (loop xs.length 0 (by simp)) ?_
  rintro ex st (⟨rfl,h,rfl⟩ | ⟨rfl,rfl⟩)
  · simp only [if_true]
    repeat (first|apply wp_as|apply wp_ss|refine wr (by simp;with_reducible rfl) ?_|refine wq (by simp;with_reducible rfl) ?_|refine wt (by simpa) ?_|refine wf (by simpa) ?_|refine xt (by simpa) ?_|refine xf (by simpa) ?_|apply wp_bs|apply wp_b|refine wp_sr ?_|refine wp_sx ?_|refine wp_ret' ?_|refine wp_skip' ?_|refine wp_exit' ?_)
    simp at h
    simp [zi73,h]
  · simp [zi73]
end Go.Idl
namespace Go.Idl
open Go
theorem ev_allIn_F1 (x lo hi:Int):Ev tb zl30 [] [I x,.bptr 0 0 0,.bptr 0 1 0] [[[I lo],[I hi]],[],[]] ⟨Bo (!(decide (lo≤x) && decide (x≤hi))),[],[[[I lo],[I hi]],[],[]],[]⟩:=by
  have e1:=ev_lim (ev_in x lo hi)
  refine call_of_wp zt30 rfl ?_
  repeat (first|apply wp_as|apply wp_ss|refine wr (by simp [e1];with_reducible rfl) ?_|refine wq (by simp [e1];with_reducible rfl) ?_|refine wt (by simpa [e1]) ?_|refine wf (by simpa [e1]) ?_|refine xt (by simpa [e1]) ?_|refine xf (by simpa [e1]) ?_|apply wp_bs|apply wp_b|refine wp_sr ?_|refine wp_sx ?_|refine wp_ret' ?_|refine wp_skip' ?_|refine wp_exit' ?_)
  simp [zi30]
theorem ev_ContainsFunc (xs:List Int) (c:Bool) (F:Lab) (caps:List IV) (M:List Boxes) (p:Int→Bool) (hl:xs.length≤2000000)
    (hp:∀ x ∈ xs,Ev tb F [] (I x::caps) (M++[[],[]]) ⟨Bo (p x),[],M++[[],[]],[]⟩) :
    Ev tb zl72 [] [L xs c,.fn F caps] M ⟨Bo (decide (0≤idx p 0 xs)),[],M,[]⟩:=by
  have e1:=ev_lim (ev_IndexFunc xs c F caps (M++[[]]) p hl (by simpa using hp))
  refine call_of_wp zt72 rfl ?_
  repeat (first|apply wp_as|apply wp_ss|refine wr (by simp [e1];with_reducible rfl) ?_|refine wq (by simp [e1];with_reducible rfl) ?_|refine wt (by simpa [e1]) ?_|refine wf (by simpa [e1]) ?_|refine xt (by simpa [e1]) ?_|refine xf (by simpa [e1]) ?_|apply wp_bs|apply wp_b|refine wp_sr ?_|refine wp_sx ?_|refine wp_ret' ?_|refine wp_skip' ?_|refine wp_exit' ?_)
  simp [zi72]
theorem idx_ge (p:Int→Bool):∀ (xs:List Int) (i:Int),0≤i→(decide (0≤idx p i xs)=xs.any p)
  | [],i,h=>by simp [idx]
  | x::r,i,h=>by
    unfold idx
    cases hp:p x with
    | true=>simp [hp,h]
    | false=>simp [hp];simpa using idx_ge p r (i+1) (by omega)
theorem ev_allIn (xs:List Int) (c:Bool) (lo hi:Int) (hl:xs.length≤2000000) :
    Ev tb zl29 [] [L xs c,I lo,I hi] [] ⟨Bo (xs.all fun x=>decide (lo≤x) && decide (x≤hi)),[],[],[]⟩:=by
  have e1:=ev_lim (ev_ContainsFunc xs c zl30 [.bptr 0 0 0,.bptr 0 1 0] [[[I lo],[I hi]]] _ hl (fun x _=>ev_allIn_F1 x lo hi))
  refine call_of_wp zt29 rfl ?_
  repeat (first|apply wp_as|apply wp_ss|refine wr (by simp [e1,idx_ge];with_reducible rfl) ?_|refine wq (by simp [e1,idx_ge];with_reducible rfl) ?_|refine wt (by simpa [e1,idx_ge]) ?_|refine wf (by simpa [e1,idx_ge]) ?_|refine xt (by simpa [e1,idx_ge]) ?_|refine xf (by simpa [e1,idx_ge]) ?_|apply wp_bs|apply wp_b|refine wp_sr ?_|refine wp_sx ?_|refine wp_ret' ?_|refine wp_skip' ?_|refine wp_exit' ?_)
  simp [zi29,List.all_eq_not_any_not]
def valid (d:List Int):Bool:=decide (d.length≤7) && d.all fun x=>decide (0≤x) && decide (x < d.length)
theorem ev_ValidDegrees (xs:List Int) (c:Bool) (hl:xs.length≤2000000):Ev tb zl25 [] [L xs c] [] ⟨Bo (valid xs),[],[],[]⟩:=by
  have e1:=ev_lim (ev_allIn xs c 0 ((xs.length:Int) - 1) hl)
  have w1:IntKind.i64.wrap ((xs.length:Int) - 1)=(xs.length:Int) - 1:=wrap64 (by omega) (by omega)
  have hx:∀ x:Int,(x≤(xs.length:Int) - 1) ↔ x < (xs.length:Int):=fun x=>by omega
  simp only [hx] at e1
  have h2:((xs.length:Int)≤7) ↔ xs.length≤7:=by omega
  by_cases h:xs.length≤7
  · refine call_of_wp zt25 rfl ?_
    repeat (first|apply wp_as|apply wp_ss|refine wr (by simp [e1,w1,h2,h];with_reducible rfl) ?_|refine wq (by simp [e1,w1,h2,h];with_reducible rfl) ?_|refine wt (by simpa [e1,w1,h2,h]) ?_|refine wf (by simpa [e1,w1,h2,h]) ?_|refine xt (by simpa [e1,w1,h2,h]) ?_|refine xf (by simpa [e1,w1,h2,h]) ?_|apply wp_bs|apply wp_b|refine wp_sr ?_|refine wp_sx ?_|refine wp_ret' ?_|refine wp_skip' ?_|refine wp_exit' ?_)
    simp [zi25,valid,h]
  · refine call_of_wp zt25 rfl ?_
    repeat (first|apply wp_as|apply wp_ss|refine wr (by simp [e1,w1,h2,h];with_reducible rfl) ?_|refine wq (by simp [e1,w1,h2,h];with_reducible rfl) ?_|refine wt (by simpa [e1,w1,h2,h]) ?_|refine wf (by simpa [e1,w1,h2,h]) ?_|refine xt (by simpa [e1,w1,h2,h]) ?_|refine xf (by simpa [e1,w1,h2,h]) ?_|apply wp_bs|apply wp_b|refine wp_sr ?_|refine wp_sx ?_|refine wp_ret' ?_|refine wp_skip' ?_|refine wp_exit' ?_)
    simp [zi25,valid,h]
theorem ev_copyInts (xs:List Int) (c:Bool) (hl:xs.length≤2000000):Ev tb zl123 [] [L xs c] [] ⟨O xs,[],[],[]⟩:=by
  refine call_of_wp zt123 rfl ?_
  repeat (first|apply wp_as|apply wp_ss|refine wr (by simp [show xs.length≤274877906944 by omega];with_reducible rfl) ?_|refine wq (by simp [show xs.length≤274877906944 by omega];with_reducible rfl) ?_|refine wt (by simpa [show xs.length≤274877906944 by omega]) ?_|refine wf (by simpa [show xs.length≤274877906944 by omega]) ?_|refine xt (by simpa [show xs.length≤274877906944 by omega]) ?_|refine xf (by simpa [show xs.length≤274877906944 by omega]) ?_|apply wp_bs|apply wp_b|refine wp_sr ?_|refine wp_sx ?_|refine wp_ret' ?_|refine wp_skip' ?_|refine wp_exit' ?_)
  simp [zi123]
end Go.Idl
namespace Go.Idl
open Go
def bytes (xs:List Int):List (List IV):=xs.map fun n=>[.sc (.int .u8 n)]
@[simp] theorem bytes_len (xs:List Int):(bytes xs).length=xs.length:=by simp [bytes]
@[simp] theorem bytes_take (xs:List Int) (n:Nat):(bytes xs).take n=bytes (xs.take n):=by simp [bytes,List.map_take]
@[simp] theorem bytes_get? (xs:List Int) (i:Nat):(bytes xs)[i]? = xs[i]?.map fun n=>[IV.sc (.int .u8 n)]:=by simp [bytes]
@[simp] theorem bytes_get (xs:List Int) (i:Nat) (h:i < (bytes xs).length):(bytes xs)[i]=[IV.sc (.int .u8 (xs[i]'(by simpa [bytes] using h)))]:=by simp [bytes]
@[simp] theorem bytes_emp (xs:List Int):(bytes xs).isEmpty=xs.isEmpty:=by cases xs <;> rfl
@[simp] theorem bytes_all1 (xs:List Int):((bytes xs).all fun x=>x.all IV.plain1)=true:=by
  induction xs with
  | nil=>rfl
  | cons x xs ih=>simp only [bytes,List.map_cons,List.all_cons] at *;rw [ih];rfl
@[simp] theorem bytes_all2 (xs:List Int):((bytes xs).all fun x=>x.all IV.isData)=true:=by
  induction xs with
  | nil=>rfl
  | cons x xs ih=>simp only [bytes,List.map_cons,List.all_cons] at *;rw [ih];rfl
@[simp] theorem bytes_noLst (xs:List Int):noLstLL (bytes xs)=true:=by
  induction xs with
  | nil=>rfl
  | cons x xs ih=>simp only [bytes,List.map_cons,noLstLL,noLstL,noLstV] at *;rw [ih];rfl
abbrev R (code:List Int) (c:Bool) (n:Int):List IV:=[.lst 1 (bytes code) c,I n]
end Go.Idl
namespace Go.Idl
open Go
def eds (xs:List (Int×Int)):List (List IV):=xs.map fun e=>[I e.1,I e.2]
abbrev L2 (xs:List (Int×Int)) (c:Bool:=false):IV:=.lst 2 (eds xs) c
abbrev O2 (xs:List (Int×Int)):IV:=.own 2 (eds xs)
@[simp] theorem eds_len (xs:List (Int×Int)):(eds xs).length=xs.length:=by simp [eds]
@[simp] theorem eds_nil:eds []=[]:=rfl
@[simp] theorem eds_take (xs:List (Int×Int)) (n:Nat):(eds xs).take n=eds (xs.take n):=by simp [eds,List.map_take]
@[simp] theorem eds_drop (xs:List (Int×Int)) (n:Nat):(eds xs).drop n=eds (xs.drop n):=by simp [eds,List.map_drop]
@[simp] theorem eds_app (xs ys:List (Int×Int)):eds xs++eds ys=eds (xs++ys):=by simp [eds]
@[simp] theorem eds_one (xs:List (Int×Int)) (a b:Int):eds xs++[[IV.sc (.int .i64 a),IV.sc (.int .i64 b)]]=eds (xs++[(a,b)]):=by simp [eds]
@[simp] theorem eds_get? (xs:List (Int×Int)) (i:Nat):(eds xs)[i]? = xs[i]?.map fun e=>[IV.sc (.int .i64 e.1),IV.sc (.int .i64 e.2)]:=by simp [eds]
@[simp] theorem eds_get (xs:List (Int×Int)) (i:Nat) (h:i < (eds xs).length):(eds xs)[i]=[IV.sc (.int .i64 (xs[i]'(by simpa [eds] using h)).1),IV.sc (.int .i64 (xs[i]'(by simpa [eds] using h)).2)]:=by simp [eds]
@[simp] theorem eds_emp (xs:List (Int×Int)):(eds xs).isEmpty=xs.isEmpty:=by cases xs <;> rfl
@[simp] theorem eds_set (xs:List (Int×Int)) (i:Nat) (a b:Int):(eds xs).set i [IV.sc (.int .i64 a),IV.sc (.int .i64 b)]=eds (xs.set i (a,b)):=by
  simp [eds,List.map_set]
@[simp] theorem eds_all1 (xs:List (Int×Int)):((eds xs).all fun x=>x.all IV.plain1)=true:=by
  induction xs with
  | nil=>rfl
  | cons x xs ih=>simp only [eds,List.map_cons,List.all_cons] at *;rw [ih];rfl
@[simp] theorem eds_all2 (xs:List (Int×Int)):((eds xs).all fun x=>x.all IV.isData)=true:=by
  induction xs with
  | nil=>rfl
  | cons x xs ih=>simp only [eds,List.map_cons,List.all_cons] at *;rw [ih];rfl
@[simp] theorem eds_noLst (xs:List (Int×Int)):noLstLL (eds xs)=true:=by
  induction xs with
  | nil=>rfl
  | cons x xs ih=>simp only [eds,List.map_cons,noLstLL,noLstL,noLstV] at *;rw [ih];rfl
@[simp] theorem frz_eds (xs:List (Int×Int)):frzLL (eds xs)=eds xs:=by
  induction xs with
  | nil=>rfl
  | cons x xs ih=>simp only [eds,List.map_cons,frzLL,frzL,frzV] at *;rw [ih]
def row (a b:Nat):Nat→List (Int×Int)
  | 0=>[]
  | m+1=>((a:Int),(b:Int))::row a (b+1) m
def prsF (a:Nat):Nat→List (Int×Int)
  | 0=>[]
  | m+1=>row a (a+1) m++prsF (a+1) m
def prs (n:Nat):List (Int×Int):=prsF 0 n
theorem row_len (a:Nat):∀ (m b:Nat),(row a b m).length=m
  | 0,b=>rfl
  | m+1,b=>by simp [row,row_len a m]
theorem pairs_in (n a:Nat) (hn:n≤1000):∀ (m b:Nat) (acc:List (Int×Int)),b+m=n→acc.length+m≤2000000 →
    wp tb (.loop z138l8) { T:=[(0,I n),(3,O2 acc),(4,I a),(5,I b)],loc:=[],M:=[] }
      (fun ex st=>ex=.exit 2∧st={ T:=[(0,I n),(3,O2 (acc++row a b m)),(4,I a),(5,I n),(16,Bo false)],loc:=[],M:=[] }):=by
  intro m
  induction m with
  | zero =>
    intro b acc hb hl
    have h3:b=n:=hb
    subst h3
    refine wp_loop ?_
    repeat (first|apply wp_as|apply wp_ss|refine wr (by simp;with_reducible rfl) ?_|refine wq (by simp;with_reducible rfl) ?_|refine wt (by simpa) ?_|refine wf (by simpa) ?_|refine xt (by simpa) ?_|refine xf (by simpa) ?_|apply wp_bs|apply wp_b|refine wp_sr ?_|refine wp_sx ?_|refine wp_ret' ?_|refine wp_skip' ?_|refine wp_exit' ?_)
    simp [row]
  | succ m ih =>
    intro b acc hb hl
    have h1:(b:Int) < n:=by omega
    have w1:IntKind.i64.wrap ((b:Int)+1)=((b+1:Nat):Int):=wrapS (by omega)
    refine wp_loop ?_
    repeat (first|apply wp_as|apply wp_ss|refine wr (by simp [h1,w1,show acc.length≤274877906943 by omega];with_reducible rfl) ?_|refine wq (by simp [h1,w1,show acc.length≤274877906943 by omega];with_reducible rfl) ?_|refine wt (by simpa [h1,w1,show acc.length≤274877906943 by omega]) ?_|refine wf (by simpa [h1,w1,show acc.length≤274877906943 by omega]) ?_|refine xt (by simpa [h1,w1,show acc.length≤274877906943 by omega]) ?_|refine xf (by simpa [h1,w1,show acc.length≤274877906943 by omega]) ?_|apply wp_bs|apply wp_b|refine wp_sr ?_|refine wp_sx ?_|refine wp_ret' ?_|refine wp_skip' ?_|refine wp_exit' ?_)
    have:=ih (b+1) (acc++[((a:Int),(b:Int))]) (by omega) (by simp;omega)
    simp only [List.append_assoc,List.cons_append,List.nil_append] at this
    simp [row]
    exact this
theorem ev_pairs (n:Nat) (hn:n≤1000):Ev tb zl138 [] [I n] [] ⟨O2 (prs n),[],[],[]⟩:=by
  have loop:∀ (m a:Nat) (acc:List (Int×Int)),a+m=n→acc.length+m * m≤2000000 →
      wp tb (.loop z138l10) { T:=[(0,I n),(3,O2 acc),(4,I a)],loc:=[],M:=[] }
      (fun ex st=>ex=.exit 0∧st={ T:=[(0,I n),(3,O2 (acc++prsF a m)),(4,I n),(9,Bo false)],loc:=[],M:=[] }):=by
    intro m
    induction m with
    | zero =>
      intro a acc ha hl
      have h3:a=n:=ha
      subst h3
      refine wp_loop ?_
      repeat (first|apply wp_as|apply wp_ss|refine wr (by simp;with_reducible rfl) ?_|refine wq (by simp;with_reducible rfl) ?_|refine wt (by simpa) ?_|refine wf (by simpa) ?_|refine xt (by simpa) ?_|refine xf (by simpa) ?_|apply wp_bs|apply wp_b|refine wp_sr ?_|refine wp_sx ?_|refine wp_ret' ?_|refine wp_skip' ?_|refine wp_exit' ?_)
      simp [prsF]
    | succ m ih =>
      intro a acc ha hl
      have h1:(a:Int) < n:=by omega
      have w1:IntKind.i64.wrap ((a:Int)+1)=((a+1:Nat):Int):=wrapS (by omega)
      have e:(m+1) * (m+1)=m * m+2 * m+1:=by rw [Nat.add_mul,Nat.mul_add];omega
      refine wp_loop ?_
      repeat (first|apply wp_as|apply wp_ss|refine wr (by simp [h1,w1];with_reducible rfl) ?_|refine wq (by simp [h1,w1];with_reducible rfl) ?_|refine wt (by simpa [h1,w1]) ?_|refine wf (by simpa [h1,w1]) ?_|refine xt (by simpa [h1,w1]) ?_|refine xf (by simpa [h1,w1]) ?_|apply wp_bs|apply wp_b|refine wp_sr ?_|refine wp_sx ?_|refine wp_ret' ?_|refine wp_skip' ?_|refine wp_exit' ?_)
      refine wp_imp (pairs_in n a hn m (a+1) acc (by omega) (by omega)) ?_
      rintro ex st ⟨rfl,rfl⟩
      simp only [if_true]
      repeat (first|apply wp_as|apply wp_ss|refine wr (by simp [h1,w1];with_reducible rfl) ?_|refine wq (by simp [h1,w1];with_reducible rfl) ?_|refine wt (by simpa [h1,w1]) ?_|refine wf (by simpa [h1,w1]) ?_|refine xt (by simpa [h1,w1]) ?_|refine xf (by simpa [h1,w1]) ?_|apply wp_bs|apply wp_b|refine wp_sr ?_|refine wp_sx ?_|refine wp_ret' ?_|refine wp_skip' ?_|refine wp_exit' ?_)
      have:=ih (a+1) (acc++row a (a+1) m) (by omega) (by simp [row_len];omega)
      simp only [List.append_assoc] at this
      exact this
  have hnn:n * n≤1000 * 1000:=Nat.mul_le_mul hn hn
  refine call_of_wp zt138 rfl ?_
  repeat (first|apply wp_as|apply wp_ss|refine wr (by simp;with_reducible rfl) ?_|refine wq (by simp;with_reducible rfl) ?_|refine wt (by simpa) ?_|refine wf (by simpa) ?_|refine xt (by simpa) ?_|refine xf (by simpa) ?_|apply wp_bs|apply wp_b|refine wp_sr ?_|refine wp_sx ?_|refine wp_ret' ?_|refine wp_skip' ?_|refine wp_exit' ?_)
  refine wp_imp (loop n 0 [] (by omega) (by simp;omega)) ?_
  rintro ex st ⟨rfl,rfl⟩
  simp only [if_true]
  repeat (first|apply wp_as|apply wp_ss|refine wr (by simp;with_reducible rfl) ?_|refine wq (by simp;with_reducible rfl) ?_|refine wt (by simpa) ?_|refine wf (by simpa) ?_|refine xt (by simpa) ?_|refine xf (by simpa) ?_|apply wp_bs|apply wp_b|refine wp_sr ?_|refine wp_sx ?_|refine wp_ret' ?_|refine wp_skip' ?_|refine wp_exit' ?_)
  simp [zi138,prs]
abbrev Gr (n:Int) (es:List (Int×Int)) (c:Bool:=false):IV:=.agg [I n,L2 es c]
abbrev OG (n:Int) (es:List (Int×Int)):IV:=.agg [I n,O2 es]
def isE (a b:Int) (e:Int×Int):Bool:=decide (e.1=a) && decide (e.2=b) || decide (e.1=b) && decide (e.2=a)
def has (es:List (Int×Int)) (a b:Int):Bool:=es.any (isE a b)
theorem ev_hasEdge (n:Int) (es:List (Int×Int)) (c:Bool) (a b:Int) (hl:es.length≤100000) :
    Ev tb zl130 [] [Gr n es c,I a,I b] [] ⟨Bo (has es a b),[],[],[]⟩:=by
  have loop:∀ (m i:Nat) (B:Boxes),i+m=es.length→wp tb (.loop z130l7) { T:=[(1,I a),(2,I b),(3,.bptr 0 0 0),(7,I i)],loc:=[I n,L2 es c]::B,M:=[] }
      (fun ex st=>(ex=.exit 0∧has (es.drop i) a b=false∧∃ B',st={ T:=[(1,I a),(2,I b),(3,.bptr 0 0 0),(7,I es.length),(13,Bo false)],loc:=[I n,L2 es c]::B',M:=[] }) ∨
        ex=.ret∧has (es.drop i) a b=true∧∃ B',st={ T:=[(6,Bo true)],loc:=[I n,L2 es c]::B',M:=[] }):=by
    intro m
    induction m with
    | zero =>
      intro i B hi
      have h3:i=es.length:=hi
      subst h3
      refine wp_loop ?_
      repeat (first|apply wp_as|apply wp_ss|refine wr (by simp;with_reducible rfl) ?_|refine wq (by simp;with_reducible rfl) ?_|refine wt (by simpa) ?_|refine wf (by simpa) ?_|refine xt (by simpa) ?_|refine xf (by simpa) ?_|apply wp_bs|apply wp_b|refine wp_sr ?_|refine wp_sx ?_|refine wp_ret' ?_|refine wp_skip' ?_|refine wp_exit' ?_)
      refine .inl ⟨rfl,by simp [has],_,rfl⟩
    | succ m ih =>
      intro i B hi
      have hi2:i < es.length:=by omega
      have w1:IntKind.i64.wrap ((i:Int)+1)=((i+1:Nat):Int):=wrapS (by omega)
      have hd:es.drop i=es[i]::es.drop (i+1):=List.drop_eq_getElem_cons hi2
      refine wp_loop ?_
      repeat (first|apply wp_as|apply wp_ss|refine wr (by simp [hi2,w1];with_reducible rfl) ?_|refine wq (by simp [hi2,w1];with_reducible rfl) ?_|refine wt (by simpa [hi2,w1]) ?_|refine wf (by simpa [hi2,w1]) ?_|refine xt (by simpa [hi2,w1]) ?_|refine xf (by simpa [hi2,w1]) ?_|apply wp_bs|apply wp_b|refine wp_sr ?_|refine wp_sx ?_|refine wp_ret' ?_|refine wp_skip' ?_|refine wp_exit' ?_)
      have hh:∀ (x:Int×Int) r,has (x::r) a b=(isE a b x || has r a b):=fun _ _=>rfl
      rw [hd,hh]
      generalize es[i]=e
      obtain ⟨p,q⟩:=e
      have hn:=ih (i+1) (B++[[I p,I q]]) (by omega)
      have key:∃ st1,execOps (limF tb) { T:=[(1,I a),(2,I b),(3,.bptr 0 0 0),(7,I i),(8,.bptr 0 (B.length+1) 0)],loc:=[I n,L2 es c]::(B++[[I p,I q]]),M:=[] }
          (match z130r4 with | .reg ops _ _=>ops | _=>[])=some st1 ∧
          st1.cut [1,2,3,7,42]={ T:=[(1,I a),(2,I b),(3,.bptr 0 0 0),(7,I i),(42,Bo (isE a b (p,q)))],loc:=[I n,L2 es c]::(B++[[I p,I q]]),M:=[] }:=by
        by_cases h1:p=a
        · subst h1
          by_cases h2:q=b
          · subst h2
            exact ⟨_,by simp [z130r4];with_reducible rfl,by simp [isE]⟩
          · by_cases h3:p=b
            · subst h3
              exact ⟨_,by simp [z130r4,h2];with_reducible rfl,by simp [isE,h2]⟩
            · exact ⟨_,by simp [z130r4,h2,h3];with_reducible rfl,by simp [isE,h2,h3]⟩
        · by_cases h3:p=b
          · subst h3
            by_cases h4:q=a
            · subst h4
              exact ⟨_,by simp [z130r4,h1];with_reducible rfl,by simp [isE,h1]⟩
            · exact ⟨_,by simp [z130r4,h1,h4];with_reducible rfl,by simp [isE,h1,h4]⟩
          · exact ⟨_,by simp [z130r4,h1,h3];with_reducible rfl,by simp [isE,h1,h3]⟩
      obtain ⟨st1,k1,k2⟩:=key
      refine wp_rs k1 k2 ?_
      cases hx:isE a b (p,q) with
      | true =>
        repeat (first|apply wp_as|apply wp_ss|refine wr (by simp;with_reducible rfl) ?_|refine wq (by simp;with_reducible rfl) ?_|refine wt (by simpa) ?_|refine wf (by simpa) ?_|refine xt (by simpa) ?_|refine xf (by simpa) ?_|apply wp_bs|apply wp_b|refine wp_sr ?_|refine wp_sx ?_|refine wp_ret' ?_|refine wp_skip' ?_|refine wp_exit' ?_)
        exact .inr ⟨rfl,by simp,_,rfl⟩
      | false =>
        repeat (first|apply wp_as|apply wp_ss|refine wr (by simp [w1];with_reducible rfl) ?_|refine wq (by simp [w1];with_reducible rfl) ?_|refine wt (by simpa [w1]) ?_|refine wf (by simpa [w1]) ?_|refine xt (by simpa [w1]) ?_|refine xf (by simpa [w1]) ?_|apply wp_bs|apply wp_b|refine wp_sr ?_|refine wp_sx ?_|refine wp_ret' ?_|refine wp_skip' ?_|refine wp_exit' ?_)
        rw [Bool.false_or]
        exact hn
  refine call_of_wp zt130 rfl ?_
  repeat (first|apply wp_as|apply wp_ss|refine wr (by simp;with_reducible rfl) ?_|refine wq (by simp;with_reducible rfl) ?_|refine wt (by simpa) ?_|refine wf (by simpa) ?_|refine xt (by simpa) ?_|refine xf (by simpa) ?_|apply wp_bs|apply wp_b|refine wp_sr ?_|refine wp_sx ?_|refine wp_ret' ?_|refine wp_skip' ?_|refine wp_exit' ?_)
  refine wp_imp (loop es.length 0 [] (by simp)) ?_
  rintro ex st (⟨rfl,h,B',rfl⟩ | ⟨rfl,h,B',rfl⟩)
  · simp only [if_true]
    repeat (first|apply wp_as|apply wp_ss|refine wr (by simp;with_reducible rfl) ?_|refine wq (by simp;with_reducible rfl) ?_|refine wt (by simpa) ?_|refine wf (by simpa) ?_|refine xt (by simpa) ?_|refine xf (by simpa) ?_|apply wp_bs|apply wp_b|refine wp_sr ?_|refine wp_sx ?_|refine wp_ret' ?_|refine wp_skip' ?_|refine wp_exit' ?_)
    simp only [List.drop_zero] at h
    simp [zi130,h]
  · simp only [List.drop_zero] at h
    simp [zi130,h]
end Go.Idl
namespace Go.Idl
theorem sumB {B:Int} (hB:0≤B):∀ {xs:List Int},(∀ x ∈ xs,0≤x∧x≤B)→0≤xs.sum∧xs.sum≤B * xs.length
  | [],_=>by simp
  | x::r,h=>by
    have h1:=h x (by simp)
    have h2:=sumB hB (xs:=r) (fun y hy=>h y (by simp [hy]))
    have e:B * ((x::r).length:Int)=B * r.length+B:=by
      rw [List.length_cons,Int.natCast_add,Int.mul_add];simp
    rw [List.sum_cons,e]
    omega
def least (xs:List Int):Int:=xs.foldl (fun n x=>min n x) 0
end Go.Idl
namespace Go.Idl
open Go
abbrev Z:IV:=.lst 0 [] true
def Few (xs:List Int):Prop:=xs.length≤7∧∀ x ∈ xs,0≤x∧x≤6
theorem valid_few {xs:List Int} (h:valid xs=true):Few xs:=by
  simp only [valid,Bool.and_eq_true,decide_eq_true_eq,List.all_eq_true] at h
  refine ⟨h.1,fun x hx=>?_⟩
  have:=h.2 x hx
  omega
theorem Few.small {xs:List Int} (h:Few xs):SmallSum xs:=by
  refine ⟨by have:=h.1;omega,fun k=>?_⟩
  have h1:=sumB (B:=6) (by omega) (xs:=xs.take k) (fun x hx=>h.2 x (List.mem_of_mem_take hx))
  have h2:(xs.take k).length≤7:=by have:=h.1;simp;omega
  omega
theorem Few.take {xs:List Int} (h:Few xs) (k:Nat):Few (xs.take k):=⟨by have:=h.1;simp;omega,fun x hx=>h.2 x (List.mem_of_mem_take hx)⟩
theorem Few.drop {xs:List Int} (h:Few xs) (k:Nat):Few (xs.drop k):=⟨by have:=h.1;simp;omega,fun x hx=>h.2 x (List.mem_of_mem_drop hx)⟩
theorem Few.fall {xs:List Int} (h:Few xs):Few (fall xs):=⟨by rw [fall_len];exact h.1,fun x hx=>h.2 x (fall_mem.1 hx)⟩
theorem Few.sum {xs:List Int} (h:Few xs):0≤xs.sum∧xs.sum≤42:=by
  have h1:=sumB (B:=6) (by omega) h.2
  have:=h.1
  omega
def mapR (n:Nat) (g:Nat→Int):List Int:=(List.range n).map g
@[simp] theorem ints_rep (n:Nat):List.replicate n [IV.sc (.int .i64 0)]=ints (List.replicate n 0):=by simp [ints]
theorem min_if (a b:Int):(if b < a then b else a)=min a b:=by split <;> omega
end Go.Idl
namespace Go.Idl
open Go
def bump (o:List Int) (i:Nat):List Int:=o.set i (o.getD i 0+1)
def dfold (o:List Int) (es:List (Int×Int)):List Int:=es.foldl (fun o e=>bump (bump o e.1.toNat) e.2.toNat) o
def degs (n:Nat) (es:List (Int×Int)):List Int:=dfold (List.replicate n 0) es
def EdgesIn (n:Nat) (es:List (Int×Int)):Prop:=∀ e ∈ es,0≤e.1∧e.1 < n∧0≤e.2∧e.2 < n
theorem bump_len (o:List Int) (i:Nat):(bump o i).length=o.length:=by simp [bump]
theorem bump_eq {o:List Int} {i:Nat} (h:i < o.length):bump o i=o.set i (o[i]+1):=by
  simp [bump,List.getD_eq_getElem?_getD,List.getElem?_eq_getElem h]
theorem bump_bound {o:List Int} {i:Nat} {B:Int} (h:∀ x ∈ o,0≤x∧x≤B) (hB:0≤B):∀ x ∈ bump o i,0≤x∧x≤B+1:=by
  intro x hx
  rcases List.mem_or_eq_of_mem_set hx with hx | rfl
  · have:=h x hx;omega
  · rw [List.getD_eq_getElem?_getD]
    cases he:o[i]? with
    | none=>simp;omega
    | some y=>have:=h y (List.mem_of_getElem? he);simp;omega
theorem dfold_len:∀ (es:List (Int×Int)) (o:List Int),(dfold o es).length=o.length
  | [],o=>rfl
  | e::es,o=>by simp only [dfold,List.foldl_cons];rw [← dfold,dfold_len es];simp [bump_len]
theorem ev_degrees (n:Nat) (es:List (Int×Int)) (c:Bool) (hn:n≤1000) (hl:es.length≤1000) (he:EdgesIn n es) :
    Ev tb zl125 [] [Gr n es c] [] ⟨O (degs n es),[],[],[]⟩:=by
  have loop:∀ (m i:Nat) (out:List Int),i+m=es.length→out.length=n→(∀ x ∈ out,0≤x∧x≤2 * i) →
      wp tb (.loop z125l7) { T:=[(1,.bptr 0 0 0),(3,O out),(4,I i)],loc:=[[I n,L2 es c]],M:=[] }
      (fun ex st=>ex=.exit 0∧st={ T:=[(1,.bptr 0 0 0),(3,O (dfold out (es.drop i))),(4,I es.length),(12,Bo false)],loc:=[[I n,L2 es c]],M:=[] }):=by
    intro m
    induction m with
    | zero =>
      intro i out hi ho hb
      have h3:i=es.length:=hi
      subst h3
      refine wp_loop ?_
      repeat (first|apply wp_as|apply wp_ss|refine wr (by simp;with_reducible rfl) ?_|refine wq (by simp;with_reducible rfl) ?_|refine wt (by simpa) ?_|refine wf (by simpa) ?_|refine xt (by simpa) ?_|refine xf (by simpa) ?_|apply wp_bs|apply wp_b|refine wp_sr ?_|refine wp_sx ?_|refine wp_ret' ?_|refine wp_skip' ?_|refine wp_exit' ?_)
      simp [dfold]
    | succ m ih =>
      intro i out hi ho hb
      have hi2:i < es.length:=by omega
      have w1:IntKind.i64.wrap ((i:Int)+1)=((i+1:Nat):Int):=wrapS (by omega)
      have hd:es.drop i=es[i]::es.drop (i+1):=List.drop_eq_getElem_cons hi2
      have hei:=he es[i] (List.getElem_mem hi2)
      obtain ⟨p,q,hpq,hp,hq⟩:∃ p q:Nat,es[i]=((p:Int),(q:Int))∧p < n∧q < n:=⟨es[i].1.toNat,es[i].2.toNat,by ext <;> simp <;> omega,by omega,by omega⟩
      rw [hd,hpq]
      have hpo:p < out.length:=by omega
      have hx:=hb out[p] (List.getElem_mem hpo)
      have w2:IntKind.i64.wrap (out[p]+1)=out[p]+1:=wrap64 (by omega) (by omega)
      have e1:=bump_eq hpo
      have b1:=bump_bound (i:=p) hb (by omega)
      have l1:=bump_len out p
      have hstep:dfold out (((p:Int),(q:Int))::es.drop (i+1))=dfold (bump (bump out p) q) (es.drop (i+1)):=rfl
      rw [hstep]
      refine wp_loop ?_
      refine wp_as (wp_rs (by simp;with_reducible rfl) (by simp;with_reducible rfl) ?_)
      refine wp_ct (t:=true) (by simp [hi2]) (fun _=>wp_ss ?_) (by simp)
      refine wp_bs ?_
      refine wr (by simp [hi2,hpq,hpo,w2,← e1];with_reducible rfl) ?_
      generalize bump out p=out1 at *
      have hqo:q < out1.length:=by omega
      have hx2:=b1 out1[q] (List.getElem_mem hqo)
      have w3:IntKind.i64.wrap (out1[q]+1)=out1[q]+1:=wrap64 (by omega) (by omega)
      have e2:=bump_eq hqo
      have b2:=bump_bound (i:=q) b1 (by omega)
      have l2:=bump_len out1 q
      refine wq (by simp [hi2,hpq,hqo,w3,← e2];with_reducible rfl) ?_
      repeat (first|apply wp_as|apply wp_ss|refine wr (by simp [w1];with_reducible rfl) ?_|refine wq (by simp [w1];with_reducible rfl) ?_|refine wt (by simpa [w1]) ?_|refine wf (by simpa [w1]) ?_|refine xt (by simpa [w1]) ?_|refine xf (by simpa [w1]) ?_|apply wp_bs|apply wp_b|refine wp_sr ?_|refine wp_sx ?_|refine wp_ret' ?_|refine wp_skip' ?_|refine wp_exit' ?_)
      exact ih (i+1) (bump out1 q) (by omega) (by omega) (fun x hx=>by have:=b2 x hx;omega)
  refine call_of_wp zt125 rfl ?_
  repeat (first|apply wp_as|apply wp_ss|refine wr (by simp [show n≤274877906944 by omega];with_reducible rfl) ?_|refine wq (by simp [show n≤274877906944 by omega];with_reducible rfl) ?_|refine wt (by simpa [show n≤274877906944 by omega]) ?_|refine wf (by simpa [show n≤274877906944 by omega]) ?_|refine xt (by simpa [show n≤274877906944 by omega]) ?_|refine xf (by simpa [show n≤274877906944 by omega]) ?_|apply wp_bs|apply wp_b|refine wp_sr ?_|refine wp_sx ?_|refine wp_ret' ?_|refine wp_skip' ?_|refine wp_exit' ?_)
  have:=loop es.length 0 (List.replicate n 0) (by simp) (by simp) (by intro x hx;have:=List.eq_of_mem_replicate hx;subst this;simp)
  simp at this
  refine wp_imp this ?_
  rintro ex st ⟨rfl,rfl⟩
  simp only [if_true]
  repeat (first|apply wp_as|apply wp_ss|refine wr (by simp;with_reducible rfl) ?_|refine wq (by simp;with_reducible rfl) ?_|refine wt (by simpa) ?_|refine wf (by simpa) ?_|refine xt (by simpa) ?_|refine xf (by simpa) ?_|apply wp_bs|apply wp_b|refine wp_sr ?_|refine wp_sx ?_|refine wp_ret' ?_|refine wp_skip' ?_|refine wp_exit' ?_)
  simp [zi125,degs]
def Low (B:Int) (d:List Int):Prop:=∀ x ∈ d,-B≤x∧x≤B
theorem Low.set {B:Int} {d:List Int} (h:Low B d) {i:Nat} {x:Int} (hx:-B≤x∧x≤B):Low B (d.set i x):=by
  intro y hy
  rcases List.mem_or_eq_of_mem_set hy with hy | rfl
  · exact h y hy
  · exact hx
theorem Low.app {B:Int} {d:List Int} (h:Low B d) {x:Int} (hx:-B≤x∧x≤B):Low B (d++[x]):=by
  intro y hy
  rcases List.mem_append.1 hy with hy | hy
  · exact h y hy
  · simp at hy;subst hy;exact hx
theorem Low.mono {B C:Int} {d:List Int} (h:Low B d) (hc:B≤C):Low C d:=fun x hx=>by have:=h x hx;omega
theorem max_if (a b:Int):(if a < b then b else a)=max a b:=by split <;> omega
end Go.Idl
namespace Go.Idl
open Go
theorem ev_IndexFuncL (xs:List Int) (F:Lab) (caps:List IV) (M:List Boxes) (p:Int→Bool) (hl:xs.length≤2000000)
    (hp:∀ x ∈ xs,Ev tb F [] (I x::caps) (M++[[]]) ⟨Bo (p x),[],M++[[]],[]⟩) :
    Ev tb zl449 [0] [O xs,.fn F caps] M ⟨I (idx p 0 xs),[O xs],M,[]⟩:=by
  have loop:∀ (m i:Nat),i+m=xs.length→wp tb (.loop z449l7) { T:=[(0,O xs),(1,.fn F caps),(7,I xs.length),(8,I i)],loc:=[],M:=M }
      (fun ex st=>(ex=.exit 0∧idx p i (xs.drop i)=-1∧st={ T:=[(0,O xs),(1,.fn F caps),(7,I xs.length),(8,I xs.length),(9,Bo false)],loc:=[],M:=M }) ∨
        ex=.ret∧st={ T:=[(0,O xs),(4,I (idx p i (xs.drop i)))],loc:=[],M:=M }):=by
    intro m
    induction m with
    | zero =>
      intro i hi
      obtain ⟨h1,h2⟩:=drop_end hi
      have h3:i=xs.length:=hi
      subst h3
      refine wp_loop ?_
      repeat (first|apply wp_as|apply wp_ss|refine wr (by simp;with_reducible rfl) ?_|refine wq (by simp;with_reducible rfl) ?_|refine wt (by simpa) ?_|refine wf (by simpa) ?_|refine xt (by simpa) ?_|refine xf (by simpa) ?_|apply wp_bs|apply wp_b|refine wp_sr ?_|refine wp_sx ?_|refine wp_ret' ?_|refine wp_skip' ?_|refine wp_exit' ?_)
      refine .inl ⟨rfl,by rw [h2];rfl,rfl⟩
    | succ m ih =>
      intro i hi
      obtain ⟨hi2,h2,h3⟩:=drop_get hi
      have e1:=ev_lim (hp _ h3)
      have w1:IntKind.i64.wrap ((i:Int)+1)=((i+1:Nat):Int):=wrapS (by omega)
      rw [h2]
      cases hpx:p xs[i] with
      | true =>
        refine wp_loop ?_
        repeat (first|apply wp_as|apply wp_ss|refine wr (by simp [e1,hi2,w1,hpx];with_reducible rfl) ?_|refine wq (by simp [e1,hi2,w1,hpx];with_reducible rfl) ?_|refine wt (by simpa [e1,hi2,w1,hpx]) ?_|refine wf (by simpa [e1,hi2,w1,hpx]) ?_|refine xt (by simpa [e1,hi2,w1,hpx]) ?_|refine xf (by simpa [e1,hi2,w1,hpx]) ?_|apply wp_bs|apply wp_b|refine wp_sr ?_|refine wp_sx ?_|refine wp_ret' ?_|refine wp_skip' ?_|refine wp_exit' ?_)
        refine .inr ⟨rfl,by simp [idx,hpx]⟩
      | false =>
        refine wp_loop ?_
        repeat (first|apply wp_as|apply wp_ss|refine wr (by simp [e1,hi2,w1,hpx];with_reducible rfl) ?_|refine wq (by simp [e1,hi2,w1,hpx];with_reducible rfl) ?_|refine wt (by simpa [e1,hi2,w1,hpx]) ?_|refine wf (by simpa [e1,hi2,w1,hpx]) ?_|refine xt (by simpa [e1,hi2,w1,hpx]) ?_|refine xf (by simpa [e1,hi2,w1,hpx]) ?_|apply wp_bs|apply wp_b|refine wp_sr ?_|refine wp_sx ?_|refine wp_ret' ?_|refine wp_skip' ?_|refine wp_exit' ?_)
        have:=ih (i+1) (by omega)
        simp only [idx,hpx] at this ⊢
        exact this
  refine call_of_wp zt449 rfl ?_
  repeat (first|apply wp_as|apply wp_ss|refine wr (by simp;with_reducible rfl) ?_|refine wq (by simp;with_reducible rfl) ?_|refine wt (by simpa) ?_|refine wf (by simpa) ?_|refine xt (by simpa) ?_|refine xf (by simpa) ?_|apply wp_bs|apply wp_b|refine wp_sr ?_|refine wp_sx ?_|refine wp_ret' ?_|refine wp_skip' ?_|refine wp_exit' ?_)
  refine wp_imp (loop xs.length 0 (by simp)) ?_
  rintro ex st (⟨rfl,h,rfl⟩ | ⟨rfl,rfl⟩)
  · simp only [if_true]
    repeat (first|apply wp_as|apply wp_ss|refine wr (by simp;with_reducible rfl) ?_|refine wq (by simp;with_reducible rfl) ?_|refine wt (by simpa) ?_|refine wf (by simpa) ?_|refine xt (by simpa) ?_|refine xf (by simpa) ?_|apply wp_bs|apply wp_b|refine wp_sr ?_|refine wp_sx ?_|refine wp_ret' ?_|refine wp_skip' ?_|refine wp_exit' ?_)
    simp at h
    simp [zi449,h]
  · simp [zi449]
theorem idx_spec (p:Int→Bool):∀ (xs:List Int) (i:Nat),(idx p i xs=-1∧∀ x ∈ xs,p x=false) ∨ ∃ k:Nat,∃ h:k < xs.length,idx p i xs=((i+k:Nat):Int)∧p xs[k]=true∧∀ x ∈ xs.take k,p x=false
  | [],i=>.inl ⟨rfl,by simp⟩
  | x::r,i=>by
    cases hp:p x with
    | true=>exact .inr ⟨0,by simp,by simp [idx,hp],hp,by simp⟩
    | false =>
      rcases idx_spec p r (i+1) with ⟨h1,h2⟩ | ⟨k,hk,h1,h2,h3⟩
      · refine .inl ⟨?_,fun y hy=>?_⟩
        · simp only [idx,hp,Bool.false_eq_true,if_false];exact h1
        · rcases List.mem_cons.1 hy with rfl | hy
          · exact hp
          · exact h2 y hy
      · refine .inr ⟨k+1,by simp;exact hk,?_,h2,fun y hy=>?_⟩
        · simp only [idx,hp,Bool.false_eq_true,if_false]
          rw [show ((i:Int)+1)=((i+1:Nat):Int) by omega,h1];omega
        · rw [List.take_succ_cons] at hy
          rcases List.mem_cons.1 hy with rfl | hy
          · exact hp
          · exact h3 y hy
theorem del_loop (xs:List Int) (F:Lab) (caps:List IV) (M:List Boxes) (p:Int→Bool) (hl:xs.length≤2000000)
    (hp:∀ x ∈ xs,Ev tb F [] (I x::caps) (M++[[]]) ⟨Bo (p x),[],M++[[]],[]⟩):∀ (m j i:Nat) (s:List Int),j+m=xs.length→i < j→s.length=xs.length→s.take i=(xs.take j).filter (fun x=>!p x)→s.drop j=xs.drop j →
    wp tb (.loop z266l11) { T:=[(0,O s),(1,.fn F caps),(5,I i),(6,I j)],loc:=[],M:=M }
      (fun ex st=>ex=.exit 0∧∃ (i:Nat) (s:List Int),(i < xs.length∧s.length=xs.length∧s.take i=xs.filter (fun x=>!p x))∧st={ T:=[(0,O s),(1,.fn F caps),(5,I i),(6,I xs.length),(19,Bo false)],loc:=[],M:=M }):=by
  intro m
  induction m with
  | zero =>
    intro j i s hj hij hs h1 h2
    have h3:j=xs.length:=hj
    subst h3
    rw [List.take_length] at h1
    refine wp_loop ?_
    repeat (first|apply wp_as|apply wp_ss|refine wr (by simp [hs];with_reducible rfl) ?_|refine wq (by simp [hs];with_reducible rfl) ?_|refine wt (by simpa [hs]) ?_|refine wf (by simpa [hs]) ?_|refine xt (by simpa [hs]) ?_|refine xf (by simpa [hs]) ?_|apply wp_bs|apply wp_b|refine wp_sr ?_|refine wp_sx ?_|refine wp_ret' ?_|refine wp_skip' ?_|refine wp_exit' ?_)
    exact ⟨rfl,i,s,⟨hij,hs,h1⟩,rfl⟩
  | succ m ih =>
    intro j i s hj hij hs h1 h2
    have hjl:j < xs.length:=by omega
    have hjs:j < s.length:=by omega
    have hil:i < s.length:=by omega
    have hil':i < xs.length:=by omega
    have hsj:s[j]=xs[j]:=by
      have h3:s.drop j=s[j]::s.drop (j+1):=List.drop_eq_getElem_cons hjs
      have h4:xs.drop j=xs[j]::xs.drop (j+1):=List.drop_eq_getElem_cons hjl
      rw [h3,h4] at h2
      exact (List.cons.inj h2).1
    have hd2:s.drop (j+1)=xs.drop (j+1):=by
      have h3:s.drop j=s[j]::s.drop (j+1):=List.drop_eq_getElem_cons hjs
      have h4:xs.drop j=xs[j]::xs.drop (j+1):=List.drop_eq_getElem_cons hjl
      rw [h3,h4] at h2
      exact (List.cons.inj h2).2
    have e1:=ev_lim (hp _ (List.getElem_mem hjl))
    have w1:IntKind.i64.wrap ((j:Int)+1)=((j+1:Nat):Int):=wrapS (by omega)
    have w2:IntKind.i64.wrap ((i:Int)+1)=((i+1:Nat):Int):=wrapS (by omega)
    have ht:(xs.take (j+1)).filter (fun x=>!p x)=(xs.take j).filter (fun x=>!p x)++(if p xs[j] then [] else [xs[j]]):=by
      rw [List.take_succ_eq_append_getElem hjl,List.filter_append,List.filter_cons,List.filter_nil]
      cases p xs[j] <;> rfl
    cases hpx:p xs[j] with
    | true =>
      rw [hpx,if_pos rfl,List.append_nil] at ht
      have hn:=ih (j+1) i s (by omega) (by omega) hs (by rw [ht];exact h1) hd2
      refine wp_loop ?_
      repeat (first|apply wp_as|apply wp_ss|refine wr (by simp [hs,hjl,hjs,hsj,e1,hpx,w1];with_reducible rfl) ?_|refine wq (by simp [hs,hjl,hjs,hsj,e1,hpx,w1];with_reducible rfl) ?_|refine wt (by simpa [hs,hjl,hjs,hsj,e1,hpx,w1]) ?_|refine wf (by simpa [hs,hjl,hjs,hsj,e1,hpx,w1]) ?_|refine xt (by simpa [hs,hjl,hjs,hsj,e1,hpx,w1]) ?_|refine xf (by simpa [hs,hjl,hjs,hsj,e1,hpx,w1]) ?_|apply wp_bs|apply wp_b|refine wp_sr ?_|refine wp_sx ?_|refine wp_ret' ?_|refine wp_skip' ?_|refine wp_exit' ?_)
      exact hn
    | false =>
      rw [hpx,if_neg (by simp)] at ht
      have hn:=ih (j+1) (i+1) (s.set i xs[j]) (by omega) (by omega) (by simpa using hs) (by
        rw [ht,← h1,List.take_succ_eq_append_getElem (by simpa using hil),List.take_set_of_le (Nat.le_refl _),List.getElem_set_self]) (by
        rw [List.drop_set_of_lt (by omega)];exact hd2)
      refine wp_loop ?_
      repeat (first|apply wp_as|apply wp_ss|refine wr (by simp [hs,hjl,hjs,hsj,e1,hpx,w1,w2,hil,hil'];with_reducible rfl) ?_|refine wq (by simp [hs,hjl,hjs,hsj,e1,hpx,w1,w2,hil,hil'];with_reducible rfl) ?_|refine wt (by simpa [hs,hjl,hjs,hsj,e1,hpx,w1,w2,hil,hil']) ?_|refine wf (by simpa [hs,hjl,hjs,hsj,e1,hpx,w1,w2,hil,hil']) ?_|refine xt (by simpa [hs,hjl,hjs,hsj,e1,hpx,w1,w2,hil,hil']) ?_|refine xf (by simpa [hs,hjl,hjs,hsj,e1,hpx,w1,w2,hil,hil']) ?_|apply wp_bs|apply wp_b|refine wp_sr ?_|refine wp_sx ?_|refine wp_ret' ?_|refine wp_skip' ?_|refine wp_exit' ?_)
      exact hn
theorem ints_isSc (xs:List Int):((ints xs).all fun x=>x.all IV.isSc)=true:=by
  induction xs with
  | nil=>rfl
  | cons x xs ih=>simp only [ints,List.map_cons,List.all_cons] at *;rw [ih];rfl
theorem ev_DeleteFunc (xs:List Int) (F:Lab) (caps:List IV) (M:List Boxes) (p:Int→Bool) (hl:xs.length≤2000000)
    (hp:∀ M' x,x ∈ xs→Ev tb F [] (I x::caps) (M++[[]]++M') ⟨Bo (p x),[],M++[[]]++M',[]⟩) :
    Ev tb zl266 [] [O xs,.fn F caps] M ⟨O (xs.filter fun x=>!p x),[],M,[]⟩:=by
  have e1:=ev_lim (ev_IndexFuncL xs F caps (M++[[]]) p hl (fun x hx=>hp [[]] x hx))
  rcases idx_spec p xs 0 with ⟨h1,h2⟩ | ⟨k,hk,h1,h2,h3⟩
  · rw [show ((0:Nat):Int)=0 from rfl] at h1
    rw [h1] at e1
    have hf:(xs.filter fun x=>!p x)=xs:=List.filter_eq_self.2 fun x hx=>by rw [h2 x hx];rfl
    rw [hf]
    refine call_of_wp zt266 rfl ?_
    repeat (first|apply wp_as|apply wp_ss|refine wr (by simp [e1];with_reducible rfl) ?_|refine wq (by simp [e1];with_reducible rfl) ?_|refine wt (by simpa [e1]) ?_|refine wf (by simpa [e1]) ?_|refine xt (by simpa [e1]) ?_|refine xf (by simpa [e1]) ?_|apply wp_bs|apply wp_b|refine wp_sr ?_|refine wp_sx ?_|refine wp_ret' ?_|refine wp_skip' ?_|refine wp_exit' ?_)
    simp [zi266]
  · rw [show ((0:Nat):Int)=0 from rfl,Nat.zero_add] at h1
    rw [h1] at e1
    have hk0:¬ (k:Int)=-1:=by omega
    have w1:IntKind.i64.wrap ((k:Int)+1)=((k+1:Nat):Int):=wrapS (by omega)
    have hlo:=del_loop xs F caps M p hl (fun x hx=>by simpa using hp [] x hx) (xs.length - (k+1)) (k+1) k xs (by omega) (by omega) rfl (by
      rw [List.take_succ_eq_append_getElem hk,List.filter_append,List.filter_cons,h2]
      simp only [Bool.not_true,Bool.false_eq_true,if_false,List.filter_nil,List.append_nil]
      exact (List.filter_eq_self.2 fun x hx=>by rw [h3 x hx];rfl).symm) rfl
    refine call_of_wp zt266 rfl ?_
    repeat (first|apply wp_as|apply wp_ss|refine wr (by simp [e1,hk0,w1];with_reducible rfl) ?_|refine wq (by simp [e1,hk0,w1];with_reducible rfl) ?_|refine wt (by simpa [e1,hk0,w1]) ?_|refine wf (by simpa [e1,hk0,w1]) ?_|refine xt (by simpa [e1,hk0,w1]) ?_|refine xf (by simpa [e1,hk0,w1]) ?_|apply wp_bs|apply wp_b|refine wp_sr ?_|refine wp_sx ?_|refine wp_ret' ?_|refine wp_skip' ?_|refine wp_exit' ?_)
    refine wp_imp hlo ?_
    rintro ex st ⟨rfl,i,s,⟨k1,k2,k3⟩,rfl⟩
    simp only [if_true]
    have hil:i≤xs.length:=by omega
    have hz:s.drop xs.length=[]:=List.drop_of_length_le (by omega)
    have hti:(s.take i).length=i:=by simp;omega
    have hfl:(xs.filter fun x=>!p x).length=i:=by rw [← k3];exact hti
    generalize (xs.filter fun x=>!p x)=G at *
    have htk:∀ Z:List (List IV),(ints G++Z).take i=ints G:=fun Z=>by
      rw [List.take_append_of_le_length (by rw [ints_len];omega),List.take_of_length_le (by rw [ints_len];omega)]
    repeat (first|apply wp_as|apply wp_ss|refine wr (by simp [k2,hil,↓ints_isSc,hz,k3,hti,hfl,htk];with_reducible rfl) ?_|refine wq (by simp [k2,hil,↓ints_isSc,hz,k3,hti,hfl,htk];with_reducible rfl) ?_|refine wt (by simpa [k2,hil,↓ints_isSc,hz,k3,hti,hfl,htk]) ?_|refine wf (by simpa [k2,hil,↓ints_isSc,hz,k3,hti,hfl,htk]) ?_|refine xt (by simpa [k2,hil,↓ints_isSc,hz,k3,hti,hfl,htk]) ?_|refine xf (by simpa [k2,hil,↓ints_isSc,hz,k3,hti,hfl,htk]) ?_|apply wp_bs|apply wp_b|refine wp_sr ?_|refine wp_sx ?_|refine wp_ret' ?_|refine wp_skip' ?_|refine wp_exit' ?_)
    simp [zi266]
end Go.Idl
namespace Go.Idl
def insC {α:Type} (lt:α→α→Bool) (x:α):List α→List α→List α
  | [],B=>x::B
  | a::r,B=>if lt x a then insC lt x r (a::B) else r.reverse++a::x::B
def srtC {α:Type} (lt:α→α→Bool):List α→List α→List α
  | S,[]=>S
  | S,x::r=>srtC lt (insC lt x S.reverse []) r
theorem insC_perm {α:Type} (lt:α→α→Bool) (x:α):∀ (r B:List α),(insC lt x r B).Perm (r.reverse++x::B)
  | [],B=>.refl _
  | a::r,B=>by
    unfold insC
    split
    · refine (insC_perm lt x r (a::B)).trans ?_
      rw [List.reverse_cons,List.append_assoc]
      exact List.Perm.append_left _ (.swap _ _ _)
    · rw [List.reverse_cons,List.append_assoc]
      exact .refl _
theorem insC_len {α:Type} (lt:α→α→Bool) (x:α) (S:List α):(insC lt x S.reverse []).length=S.length+1:=by
  have:=(insC_perm lt x S.reverse []).length_eq
  simpa using this
theorem srtC_perm {α:Type} (lt:α→α→Bool):∀ (r S:List α),(srtC lt S r).Perm (S++r)
  | [],S=>by simp [srtC]
  | x::r,S=>by
    refine (srtC_perm lt r _).trans ?_
    have:=insC_perm lt x S.reverse []
    rw [List.reverse_reverse] at this
    refine (this.append_right r).trans ?_
    rw [List.append_assoc];exact .refl _
end Go.Idl
namespace Go.Idl
open Go
abbrev vI (x:Int):IV:=I x
theorem appc_get1 {α:Type} {A Z:List α} {a x:α}:(A++a::x::Z)[A.length+1]? = some x:=by
  rw [List.getElem?_append_right (by omega)];simp
theorem appc_get0 {α:Type} {A Z:List α} {a:α}:(A++a::Z)[A.length]? = some a:=by
  rw [List.getElem?_append_right (by omega)];simp
theorem appc_set {α:Type} {A Z:List α} {a x:α}:((A++a::x::Z).set (A.length+1) a).set A.length x=A++x::a::Z:=by
  rw [List.set_append_right _ _ (by omega),List.set_append_right _ _ (by omega)]
  simp
def CmpOK {α:Type} (v:α→IV) (F:Lab) (caps:List IV) (lt:α→α→Bool) (D:α→Prop) (M:List Boxes):Prop :=
  ∀ x y,D x→D y→∃ k:Int,decide (k < 0)=lt x y∧Ev tb F [] (v x::v y::caps) (M++[[]]) ⟨I k,[],M++[[]],[]⟩
theorem icli (F:Lab) (caps:List IV) (lt:Int→Int→Bool) (D:Int→Prop) (M:List Boxes) (hc:CmpOK vI F caps lt D M) (P:List Int) (n i:Int) (x:Int) (rest:List Int):∀ (k:Nat) (A B:List Int),A.length=k→P.length+k+B.length+rest.length≤2000000→D x→(∀ a ∈ A,D a) →
    wp tb (.loop z278l6) { T:=[(0,O ((P++A)++x::(B++rest))),(1,I P.length),(2,I n),(3,.fn F caps),(8,I i),(9,I (P.length+k:Nat))],loc:=[],M:=M }
      (fun ex st=>ex=.exit 2∧∃ k':Int,st={ T:=[(0,O (P++(insC lt x A.reverse B++rest))),(1,I P.length),(2,I n),(3,.fn F caps),(8,I i),(9,I k'),(34,Bo false)],loc:=[],M:=M }):=by
  intro k
  induction k with
  | zero =>
    intro A B hA hl hx hD
    have:A=[]:=List.length_eq_zero_iff.1 hA
    subst this
    refine wp_loop ?_
    repeat (first|apply wp_as|apply wp_ss|refine wr (by simp;with_reducible rfl) ?_|refine wq (by simp;with_reducible rfl) ?_|refine wt (by simpa) ?_|refine wf (by simpa) ?_|refine xt (by simpa) ?_|refine xf (by simpa) ?_|apply wp_bs|apply wp_b|refine wp_sr ?_|refine wp_sx ?_|refine wp_ret' ?_|refine wp_skip' ?_|refine wp_exit' ?_)
    exact ⟨rfl,_,by simp [insC];rfl⟩
  | succ k ih =>
    intro A B hA hl hx hD
    obtain ⟨A',a,rfl⟩:∃ A' a,A=A'++[a]:=⟨A.dropLast,A.getLast (by intro h;subst h;simp at hA),(List.dropLast_concat_getLast _).symm⟩
    have hA':A'.length=k:=by simpa using hA
    subst hA'
    obtain ⟨c,hc1,hc2⟩:=hc x a hx (hD a (by simp))
    have e1:=ev_lim hc2
    have hPl:(P++A').length=P.length+A'.length:=by simp
    obtain ⟨Q,hQ⟩:∃ Q,Q=P++A':=⟨_,rfl⟩
    have hQl:P.length+A'.length=Q.length:=by rw [hQ];simp
    have hre:P++(A'++[a])++x::(B++rest)=Q++a::x::(B++rest):=by rw [hQ];simp
    rw [hre]
    have hk:((P.length+(A'.length+1):Nat):Int)=(Q.length:Int)+1:=by omega
    rw [hk]
    have w1:IntKind.i64.wrap (Q.length:Int)=(Q.length:Int):=wrap64 (by omega) (by omega)
    have w2:(P.length:Int) < (Q.length:Int)+1:=by omega
    by_cases hx0:c < 0
    · have hlt:lt x a=true:=by rw [← hc1];exact decide_eq_true hx0
      have:=ih A' (a::B) rfl (by simp;omega) hx (fun b hb=>hD b (by simp [hb]))
      rw [show P++A'++x::(a::B++rest)=Q++x::(a::(B++rest)) by rw [hQ];simp,hQl] at this
      refine wp_loop ?_
      repeat (first|apply wp_as|apply wp_ss|refine wr (by simp [e1,hx0,w1,w2,appc_get0,appc_get1,appc_set];with_reducible rfl) ?_|refine wq (by simp [e1,hx0,w1,w2,appc_get0,appc_get1,appc_set];with_reducible rfl) ?_|refine wt (by simpa [e1,hx0,w1,w2,appc_get0,appc_get1,appc_set]) ?_|refine wf (by simpa [e1,hx0,w1,w2,appc_get0,appc_get1,appc_set]) ?_|refine xt (by simpa [e1,hx0,w1,w2,appc_get0,appc_get1,appc_set]) ?_|refine xf (by simpa [e1,hx0,w1,w2,appc_get0,appc_get1,appc_set]) ?_|apply wp_bs|apply wp_b|refine wp_sr ?_|refine wp_sx ?_|refine wp_ret' ?_|refine wp_skip' ?_|refine wp_exit' ?_)
      simp only [List.reverse_append,List.reverse_cons,List.reverse_nil,List.nil_append,List.cons_append]
      simp only [insC,hlt,if_true]
      exact this
    · have hlt:lt x a=false:=by rw [← hc1];exact decide_eq_false hx0
      refine wp_loop ?_
      repeat (first|apply wp_as|apply wp_ss|refine wr (by simp [e1,hx0,w1,w2,appc_get0,appc_get1,appc_set];with_reducible rfl) ?_|refine wq (by simp [e1,hx0,w1,w2,appc_get0,appc_get1,appc_set];with_reducible rfl) ?_|refine wt (by simpa [e1,hx0,w1,w2,appc_get0,appc_get1,appc_set]) ?_|refine wf (by simpa [e1,hx0,w1,w2,appc_get0,appc_get1,appc_set]) ?_|refine xt (by simpa [e1,hx0,w1,w2,appc_get0,appc_get1,appc_set]) ?_|refine xf (by simpa [e1,hx0,w1,w2,appc_get0,appc_get1,appc_set]) ?_|apply wp_bs|apply wp_b|refine wp_sr ?_|refine wp_sx ?_|refine wp_ret' ?_|refine wp_skip' ?_|refine wp_exit' ?_)
      refine ⟨rfl,(Q.length:Int)+1,?_⟩
      simp only [List.reverse_append,List.reverse_cons,List.reverse_nil,List.nil_append,List.cons_append]
      simp only [insC,hlt,Bool.false_eq_true,if_false,List.reverse_reverse]
      rw [hQ]
      simp
theorem isoi (F:Lab) (caps:List IV) (lt:Int→Int→Bool) (D:Int→Prop) (M:List Boxes) (hc:CmpOK vI F caps lt D M) (P Q:List Int) (n:Int):∀ (r S:List Int),n=(P.length+S.length+r.length:Nat)→P.length+S.length+r.length+Q.length≤900000→(∀ x ∈ S,D x)→(∀ x ∈ r,D x) →
    wp tb (.loop z278l8) { T:=[(0,O (P++(S++(r++Q)))),(1,I P.length),(2,I n),(3,.fn F caps),(8,I (P.length+S.length:Nat))],loc:=[],M:=M }
      (fun ex st=>ex=.exit 0∧∃ k':Int,st={ T:=[(0,O (P++(srtC lt S r++Q))),(1,I P.length),(2,I n),(3,.fn F caps),(8,I k'),(14,Bo false)],loc:=[],M:=M }):=by
  intro r
  induction r with
  | nil =>
    intro S hn hl hS hr
    have h1:¬ ((P.length:Int)+(S.length:Int)) < n:=by simp at hn;omega
    refine wp_loop ?_
    repeat (first|apply wp_as|apply wp_ss|refine wr (by simp [h1];with_reducible rfl) ?_|refine wq (by simp [h1];with_reducible rfl) ?_|refine wt (by simpa [h1]) ?_|refine wf (by simpa [h1]) ?_|refine xt (by simpa [h1]) ?_|refine xf (by simpa [h1]) ?_|apply wp_bs|apply wp_b|refine wp_sr ?_|refine wp_sx ?_|refine wp_ret' ?_|refine wp_skip' ?_|refine wp_exit' ?_)
    exact ⟨rfl,_,by simp [srtC];rfl⟩
  | cons x r ih =>
    intro S hn hl hS hr
    simp only [List.length_cons] at hn hl
    have h1:(P.length:Int)+(S.length:Int) < n:=by omega
    have w1:IntKind.i64.wrap ((P.length:Int)+(S.length:Int)+1)=(P.length:Int)+(S.length:Int)+1:=by rw [wrap64 (by omega) (by omega)]
    have hin:=icli F caps lt D M hc P n ((P.length:Int)+S.length) x (r++Q) S.length S [] rfl (by simp;omega) (hr x (by simp)) hS
    rw [show P++S++x::([]++(r++Q))=P++(S++(x::r++Q)) by simp,show ((P.length+S.length:Nat):Int)=(P.length:Int)+S.length by omega] at hin
    have hn2:=ih (insC lt x S.reverse []) (by rw [insC_len];omega) (by rw [insC_len];omega) (fun y hy=>by
      have:=(insC_perm lt x S.reverse []).mem_iff.1 hy
      simp only [List.reverse_reverse,List.mem_append,List.mem_cons,List.not_mem_nil,or_false] at this
      rcases this with h | rfl
      · exact hS y h
      · exact hr y (by simp)) (fun y hy=>hr y (by simp [hy]))
    rw [insC_len,show ((P.length+(S.length+1):Nat):Int)=(P.length:Int)+S.length+1 by omega] at hn2
    rw [show ((P.length+S.length:Nat):Int)=(P.length:Int)+S.length by omega]
    refine wp_loop ?_
    repeat (first|apply wp_as|apply wp_ss|refine wr (by simp [h1,w1];with_reducible rfl) ?_|refine wq (by simp [h1,w1];with_reducible rfl) ?_|refine wt (by simpa [h1,w1]) ?_|refine wf (by simpa [h1,w1]) ?_|refine xt (by simpa [h1,w1]) ?_|refine xf (by simpa [h1,w1]) ?_|apply wp_bs|apply wp_b|refine wp_sr ?_|refine wp_sx ?_|refine wp_ret' ?_|refine wp_skip' ?_|refine wp_exit' ?_)
    refine wp_imp hin ?_
    rintro ex st ⟨rfl,k',rfl⟩
    simp only [if_true]
    repeat (first|apply wp_as|apply wp_ss|refine wr (by simp [h1,w1];with_reducible rfl) ?_|refine wq (by simp [h1,w1];with_reducible rfl) ?_|refine wt (by simpa [h1,w1]) ?_|refine wf (by simpa [h1,w1]) ?_|refine xt (by simpa [h1,w1]) ?_|refine xf (by simpa [h1,w1]) ?_|apply wp_bs|apply wp_b|refine wp_sr ?_|refine wp_sx ?_|refine wp_ret' ?_|refine wp_skip' ?_|refine wp_exit' ?_)
    exact hn2
theorem ev_insCi (F:Lab) (caps:List IV) (lt:Int→Int→Bool) (D:Int→Prop) (M:List Boxes) (hc:CmpOK vI F caps lt D M) (P Q seg:List Int) (hl:P.length+seg.length+Q.length≤800000) (hD:∀ x ∈ seg,D x) :
    Ev tb zl278 [0] [O (P++(seg++Q)),I P.length,I (P.length+seg.length:Nat),.fn F caps] M ⟨.tup [],[O (P++(srtC lt [] seg++Q))],M,[]⟩:=by
  have w1:IntKind.i64.wrap ((P.length:Int)+1)=(P.length:Int)+1:=by rw [wrap64 (by omega) (by omega)]
  cases seg with
  | nil =>
    have h1:¬ (P.length:Int)+1 < ((P.length+([]:List Int).length:Nat):Int):=by simp;omega
    simp only [List.length_nil,Nat.add_zero] at h1 ⊢
    refine call_of_wp zt278 rfl ?_
    repeat (first|apply wp_as|apply wp_ss|refine wr (by simp [w1];with_reducible rfl) ?_|refine wq (by simp [w1];with_reducible rfl) ?_|refine wt (by simpa [w1]) ?_|refine wf (by simpa [w1]) ?_|refine xt (by simpa [w1]) ?_|refine xf (by simpa [w1]) ?_|apply wp_bs|apply wp_b|refine wp_sr ?_|refine wp_sx ?_|refine wp_ret' ?_|refine wp_skip' ?_|refine wp_exit' ?_)
    refine wp_loop ?_
    repeat (first|apply wp_as|apply wp_ss|refine wr (by simp [h1];with_reducible rfl) ?_|refine wq (by simp [h1];with_reducible rfl) ?_|refine wt (by simpa [h1]) ?_|refine wf (by simpa [h1]) ?_|refine xt (by simpa [h1]) ?_|refine xf (by simpa [h1]) ?_|apply wp_bs|apply wp_b|refine wp_sr ?_|refine wp_sx ?_|refine wp_ret' ?_|refine wp_skip' ?_|refine wp_exit' ?_)
    simp [zi278,srtC]
  | cons x r =>
    have:=isoi F caps lt D M hc P Q (P.length+(x::r).length:Nat) r [x] (by simp;omega) (by simp at hl ⊢;omega) (fun y hy=>by simp at hy;subst hy;exact hD _ (by simp)) (fun y hy=>hD y (by simp [hy]))
    rw [show P++([x]++(r++Q))=P++(x::r++Q) by simp,show ((P.length+[x].length:Nat):Int)=(P.length:Int)+1 by simp] at this
    have hs:srtC lt [x] r=srtC lt [] (x::r):=by simp [srtC,insC]
    rw [hs] at this
    generalize ((P.length+(x::r).length:Nat):Int)=n at *
    refine call_of_wp zt278 rfl ?_
    repeat (first|apply wp_as|apply wp_ss|refine wr (by simp [w1];with_reducible rfl) ?_|refine wq (by simp [w1];with_reducible rfl) ?_|refine wt (by simpa [w1]) ?_|refine wf (by simpa [w1]) ?_|refine xt (by simpa [w1]) ?_|refine xf (by simpa [w1]) ?_|apply wp_bs|apply wp_b|refine wp_sr ?_|refine wp_sx ?_|refine wp_ret' ?_|refine wp_skip' ?_|refine wp_exit' ?_)
    refine wp_imp this ?_
    rintro ex st ⟨rfl,k',rfl⟩
    simp [zi278]
end Go.Idl
namespace Go.Idl
open Go
@[simp] theorem get_mid {α:Type} (A bs:List α) (x:α):(A++x::bs)[A.length]? = some x:=by simp
@[simp] theorem set_mid {α:Type} (A bs:List α) (x y:α):(A++x::bs).set A.length y=A++y::bs:=by
  rw [List.set_append_right _ _ (Nat.le_refl _)];simp
@[simp] theorem set_last {α:Type} (A:List α) (x y:α):(A++[x]).set A.length y=A++[y]:=set_mid A [] x y
end Go.Idl
namespace Go.Idl
open Go
theorem insD_step {x:Int} {out:List Int} {k:Nat} (h:k < out.length) (hx:x≤out[k]) (hi:insD x out=out.take k++insD x (out.drop k)) :
    insD x out=out.take (k+1)++insD x (out.drop (k+1)):=by
  rw [List.drop_eq_getElem_cons h] at hi
  rw [hi,insD,if_pos hx,List.take_succ_eq_append_getElem h,List.append_assoc]
  rfl
theorem insD_stop {x:Int} {out:List Int} {k:Nat} (h:k < out.length) (hx:¬ x≤out[k]) (hi:insD x out=out.take k++insD x (out.drop k)) :
    insD x out=out.take k++x::out.drop k:=by
  rw [hi]
  conv=>lhs;rw [List.drop_eq_getElem_cons h]
  rw [insD,if_neg hx,← List.drop_eq_getElem_cons h]
theorem insD_end {x:Int} {out:List Int} {k:Nat} (h:k=out.length) (hi:insD x out=out.take k++insD x (out.drop k)) :
    insD x out=out.take k++x::out.drop k:=by
  rw [hi];subst h;simp [insD]
theorem sfall_in (xs out:List Int) (c:Bool) (i:Nat) (hi:i < xs.length) (ho:out.length≤2000000):∀ (m k:Nat),k+m=out.length→insD xs[i] out=out.take k++insD xs[i] (out.drop k) →
    wp tb (.loop z127l7) { T:=[(0,L xs c),(3,O out),(4,I i),(5,I k)],loc:=[],M:=[] }
      (fun ex st=>ex=.exit 2∧∃ k':Nat,k'≤out.length∧insD xs[i] out=out.take k'++xs[i]::out.drop k'∧st={ T:=[(0,L xs c),(3,O out),(4,I i),(5,I k'),(27,Bo false)],loc:=[],M:=[] }):=by
  intro m
  induction m with
  | zero =>
    intro k hk hinv
    have h3:k=out.length:=hk
    have h4:¬ k < out.length:=by omega
    refine wp_loop ?_
    repeat (first|apply wp_as|apply wp_ss|refine wr (by simp [h4];with_reducible rfl) ?_|refine wq (by simp [h4];with_reducible rfl) ?_|refine wt (by simpa [h4]) ?_|refine wf (by simpa [h4]) ?_|refine xt (by simpa [h4]) ?_|refine xf (by simpa [h4]) ?_|apply wp_bs|apply wp_b|refine wp_sr ?_|refine wp_sx ?_|refine wp_ret' ?_|refine wp_skip' ?_|refine wp_exit' ?_)
    exact ⟨rfl,k,by omega,insD_end h3 hinv,rfl⟩
  | succ m ih =>
    intro k hk hinv
    have hk2:k < out.length:=by omega
    have w1:IntKind.i64.wrap ((k:Int)+1)=((k+1:Nat):Int):=wrapS (by omega)
    by_cases hx:xs[i]≤out[k]
    · refine wp_loop ?_
      repeat (first|apply wp_as|apply wp_ss|refine wr (by simp [hk2,hx,hi,w1];with_reducible rfl) ?_|refine wq (by simp [hk2,hx,hi,w1];with_reducible rfl) ?_|refine wt (by simpa [hk2,hx,hi,w1]) ?_|refine wf (by simpa [hk2,hx,hi,w1]) ?_|refine xt (by simpa [hk2,hx,hi,w1]) ?_|refine xf (by simpa [hk2,hx,hi,w1]) ?_|apply wp_bs|apply wp_b|refine wp_sr ?_|refine wp_sx ?_|refine wp_ret' ?_|refine wp_skip' ?_|refine wp_exit' ?_)
      exact ih (k+1) (by omega) (insD_step hk2 hx hinv)
    · refine wp_loop ?_
      repeat (first|apply wp_as|apply wp_ss|refine wr (by simp [hk2,hx,hi,w1];with_reducible rfl) ?_|refine wq (by simp [hk2,hx,hi,w1];with_reducible rfl) ?_|refine wt (by simpa [hk2,hx,hi,w1]) ?_|refine wf (by simpa [hk2,hx,hi,w1]) ?_|refine xt (by simpa [hk2,hx,hi,w1]) ?_|refine xf (by simpa [hk2,hx,hi,w1]) ?_|apply wp_bs|apply wp_b|refine wp_sr ?_|refine wp_sx ?_|refine wp_ret' ?_|refine wp_skip' ?_|refine wp_exit' ?_)
      exact ⟨rfl,k,by omega,insD_stop hk2 hx hinv,rfl⟩
theorem foldl_take_succ {xs:List Int} {i:Nat} (h:i < xs.length):(xs.take (i+1)).foldl (fun out x=>insD x out) []=insD xs[i] ((xs.take i).foldl (fun out x=>insD x out) []):=by
  rw [List.take_succ_eq_append_getElem h,List.foldl_append];rfl
theorem ev_spec_falling (xs:List Int) (c:Bool) (hl:xs.length≤1000) :
    Ev tb zl127 [] [L xs c] [] ⟨O (fall xs),[],[],[]⟩:=by
  have cp:∀ (ys:List Int) (c:Bool),ys.length≤1000→limF tb zl123 [] [L ys c] []=some ⟨O ys,[],[],[]⟩:=fun ys c h=>ev_lim (ev_copyInts ys c (by omega))
  have loop:∀ (m i:Nat),i+m=xs.length→wp tb (.loop z127l10) { T:=[(0,L xs c),(3,O (fall (xs.take i))),(4,I i)],loc:=[],M:=[] }
      (fun ex st=>ex=.exit 0∧st={ T:=[(0,L xs c),(3,O (fall xs)),(4,I xs.length),(10,Bo false)],loc:=[],M:=[] }):=by
    intro m
    induction m with
    | zero =>
      intro i hi
      have h3:i=xs.length:=hi
      subst h3
      refine wp_loop ?_
      repeat (first|apply wp_as|apply wp_ss|refine wr (by simp;with_reducible rfl) ?_|refine wq (by simp;with_reducible rfl) ?_|refine wt (by simpa) ?_|refine wf (by simpa) ?_|refine xt (by simpa) ?_|refine xf (by simpa) ?_|apply wp_bs|apply wp_b|refine wp_sr ?_|refine wp_sx ?_|refine wp_ret' ?_|refine wp_skip' ?_|refine wp_exit' ?_)
      simp
    | succ m ih =>
      intro i hi
      have hi2:i < xs.length:=by omega
      have w1:IntKind.i64.wrap ((i:Int)+1)=((i+1:Nat):Int):=wrapS (by omega)
      have hfl:(fall (xs.take i)).length=i:=by rw [fall_len];simp;omega
      have hfs:fall (xs.take (i+1))=insD xs[i] (fall (xs.take i)):=foldl_take_succ hi2
      have:=ih (i+1) (by omega)
      rw [hfs] at this
      revert this
      generalize fall (xs.take i)=out at hfl
      intro hnext
      refine wp_loop ?_
      repeat (first|apply wp_as|apply wp_ss|refine wr (by simp [hi2];with_reducible rfl) ?_|refine wq (by simp [hi2];with_reducible rfl) ?_|refine wt (by simpa [hi2]) ?_|refine wf (by simpa [hi2]) ?_|refine xt (by simpa [hi2]) ?_|refine xf (by simpa [hi2]) ?_|apply wp_bs|apply wp_b|refine wp_sr ?_|refine wp_sx ?_|refine wp_ret' ?_|refine wp_skip' ?_|refine wp_exit' ?_)
      refine wp_imp (sfall_in xs out c i hi2 (by omega) out.length 0 (by simp) (by simp)) ?_
      rintro ex st ⟨rfl,k,hk,hins,rfl⟩
      simp only [if_true]
      have hk2:k≤out.length:=hk
      have c1:=cp (out.take k) false (by simp;omega)
      have hb:out.length≤274877906944:=by omega
      have hb2:k≤274877906943:=by omega
      have hb3:k+1+(out.length - k)≤274877906944:=by omega
      have hb4:k+(out.length - k+1)≤274877906944:=by omega
      have hb5:out.length≤274877906943:=by omega
      refine wp_rega (by simp [hi2,hk2,c1,hb,hb2,hb3,hb4,hb5];with_reducible rfl) (by simp;with_reducible rfl) ?_ ?_
      · intro p hp
        simp only [List.mem_cons,List.not_mem_nil,or_false] at hp
        rcases hp with rfl | rfl
        · exact ⟨_,by simp [hi2,hk2,c1,hb,hb2,hb3,hb4,hb5];with_reducible rfl,by simp⟩
        · exact ⟨_,by simp [hi2,hk2,c1,hb,hb2,hb3,hb4,hb5];with_reducible rfl,by simp⟩
      repeat (first|apply wp_as|apply wp_ss|refine wr (by simp [w1];with_reducible rfl) ?_|refine wq (by simp [w1];with_reducible rfl) ?_|refine wt (by simpa [w1]) ?_|refine wf (by simpa [w1]) ?_|refine xt (by simpa [w1]) ?_|refine xf (by simpa [w1]) ?_|apply wp_bs|apply wp_b|refine wp_sr ?_|refine wp_sx ?_|refine wp_ret' ?_|refine wp_skip' ?_|refine wp_exit' ?_)
      rw [List.take_of_length_le (l:=out.drop k) (by simp),← hins]
      exact hnext
  refine call_of_wp zt127 rfl ?_
  repeat (first|apply wp_as|apply wp_ss|refine wr (by simp;with_reducible rfl) ?_|refine wq (by simp;with_reducible rfl) ?_|refine wt (by simpa) ?_|refine wf (by simpa) ?_|refine xt (by simpa) ?_|refine xf (by simpa) ?_|apply wp_bs|apply wp_b|refine wp_sr ?_|refine wp_sx ?_|refine wp_ret' ?_|refine wp_skip' ?_|refine wp_exit' ?_)
  have:=loop xs.length 0 (by simp)
  simp only [List.take_zero] at this
  refine wp_imp this ?_
  rintro ex st ⟨rfl,rfl⟩
  simp only [if_true]
  repeat (first|apply wp_as|apply wp_ss|refine wr (by simp;with_reducible rfl) ?_|refine wq (by simp;with_reducible rfl) ?_|refine wt (by simpa) ?_|refine wf (by simpa) ?_|refine xt (by simpa) ?_|refine xf (by simpa) ?_|apply wp_bs|apply wp_b|refine wp_sr ?_|refine wp_sx ?_|refine wp_ret' ?_|refine wp_skip' ?_|refine wp_exit' ?_)
  simp [zi127]
end Go.Idl
namespace Go.Idl
open Go
def comp (d:List Int):List Int:=(List.range d.length).map fun k=>(d.length:Int) - 1 - d.getD k 0
end Go.Idl
namespace Go.Idl
open Go
theorem ev_SortDegrees (d:List Int) (c:Bool) (hv:valid d=true):Ev tb zl20 [] [L d c] [] ⟨O (fall d),[],[],[]⟩:=by
  have hl:=(valid_few hv).1
  have e1:=ev_lim (ev_ValidDegrees d c (by omega))
  have e2:=ev_lim (ev_falling d c (by omega))
  refine call_of_wp zt20 rfl ?_
  repeat (first|apply wp_as|apply wp_ss|refine wr (by simp [e1,e2,hv];with_reducible rfl) ?_|refine wq (by simp [e1,e2,hv];with_reducible rfl) ?_|refine wt (by simpa [e1,e2,hv]) ?_|refine wf (by simpa [e1,e2,hv]) ?_|refine xt (by simpa [e1,e2,hv]) ?_|refine xf (by simpa [e1,e2,hv]) ?_|apply wp_bs|apply wp_b|refine wp_sr ?_|refine wp_sx ?_|refine wp_ret' ?_|refine wp_skip' ?_|refine wp_exit' ?_)
  simp [zi20]
end Go.Idl
namespace Go.Idl
open Go
def ahead (x y:List Int) (i m:Nat):Bool:=(List.range m).all fun j=>decide ((y.take (i+j+1)).sum≤(x.take (i+j+1)).sum)
end Go.Idl
namespace Go.Idl
open Go
def Fit (es:List (Int×Int)):Prop:=∀ e ∈ es,-9223372036854775808≤e.1∧e.1 < 9223372036854775808∧-9223372036854775808≤e.2∧e.2 < 9223372036854775808
def below (a b:Int×Int):Bool:=decide (a.1 < b.1) || (decide (a.1=b.1) && decide (a.2 < b.2))
def cmpE (a b:Int×Int):Int:=if a.1=b.1 then a.2 - b.2 else a.1 - b.1
theorem cmpE_below (a b:Int×Int):(decide (cmpE a b < 0))=below a b:=by
  unfold cmpE below
  rw [Bool.eq_iff_iff]
  simp only [decide_eq_true_eq,Bool.or_eq_true,Bool.and_eq_true]
  split <;> omega
theorem ev_compareEdges (a b:Int×Int) (ha:0≤a.1∧a.1 < 9223372036854775808∧0≤a.2∧a.2 < 9223372036854775808) (hb:0≤b.1∧b.1 < 9223372036854775808∧0≤b.2∧b.2 < 9223372036854775808) (M:List Boxes) :
    Ev tb zl32 [] [.agg [I a.1,I a.2],.agg [I b.1,I b.2]] M ⟨I (cmpE a b),[],M,[]⟩:=by
  have w1:IntKind.i64.wrap (a.1 - b.1)=a.1 - b.1:=wrap64 (by omega) (by omega)
  have w2:IntKind.i64.wrap (a.2 - b.2)=a.2 - b.2:=wrap64 (by omega) (by omega)
  by_cases h:a.1=b.1
  · refine call_of_wp zt32 rfl ?_
    repeat (first|apply wp_as|apply wp_ss|refine wr (by simp [h,w2];with_reducible rfl) ?_|refine wq (by simp [h,w2];with_reducible rfl) ?_|refine wt (by simpa [h,w2]) ?_|refine wf (by simpa [h,w2]) ?_|refine xt (by simpa [h,w2]) ?_|refine xf (by simpa [h,w2]) ?_|apply wp_bs|apply wp_b|refine wp_sr ?_|refine wp_sx ?_|refine wp_ret' ?_|refine wp_skip' ?_|refine wp_exit' ?_)
    simp [zi32,cmpE,h]
  · have h2:(a.1 != b.1)=true:=by simp [h]
    refine call_of_wp zt32 rfl ?_
    repeat (first|apply wp_as|apply wp_ss|refine wr (by simp [h,h2,w1];with_reducible rfl) ?_|refine wq (by simp [h,h2,w1];with_reducible rfl) ?_|refine wt (by simpa [h,h2,w1]) ?_|refine wf (by simpa [h,h2,w1]) ?_|refine xt (by simpa [h,h2,w1]) ?_|refine xf (by simpa [h,h2,w1]) ?_|apply wp_bs|apply wp_b|refine wp_sr ?_|refine wp_sx ?_|refine wp_ret' ?_|refine wp_skip' ?_|refine wp_exit' ?_)
    simp [zi32,cmpE,h]
theorem ev_edgeBelow (a b:Int×Int):Ev tb zl126 [] [.agg [I a.1,I a.2],.agg [I b.1,I b.2]] [] ⟨Bo (below a b),[],[],[]⟩:=by
  by_cases h1:a.1 < b.1
  · refine call_of_wp zt126 rfl ?_
    repeat (first|apply wp_as|apply wp_ss|refine wr (by simp [h1];with_reducible rfl) ?_|refine wq (by simp [h1];with_reducible rfl) ?_|refine wt (by simpa [h1]) ?_|refine wf (by simpa [h1]) ?_|refine xt (by simpa [h1]) ?_|refine xf (by simpa [h1]) ?_|apply wp_bs|apply wp_b|refine wp_sr ?_|refine wp_sx ?_|refine wp_ret' ?_|refine wp_skip' ?_|refine wp_exit' ?_)
    simp [zi126,below,h1]
  · by_cases h2:a.1=b.1
    · refine call_of_wp zt126 rfl ?_
      repeat (first|apply wp_as|apply wp_ss|refine wr (by simp [h1,h2];with_reducible rfl) ?_|refine wq (by simp [h1,h2];with_reducible rfl) ?_|refine wt (by simpa [h1,h2]) ?_|refine wf (by simpa [h1,h2]) ?_|refine xt (by simpa [h1,h2]) ?_|refine xf (by simpa [h1,h2]) ?_|apply wp_bs|apply wp_b|refine wp_sr ?_|refine wp_sx ?_|refine wp_ret' ?_|refine wp_skip' ?_|refine wp_exit' ?_)
      simp [zi126,below,h1,h2]
    · refine call_of_wp zt126 rfl ?_
      repeat (first|apply wp_as|apply wp_ss|refine wr (by simp [h1,h2];with_reducible rfl) ?_|refine wq (by simp [h1,h2];with_reducible rfl) ?_|refine wt (by simpa [h1,h2]) ?_|refine wf (by simpa [h1,h2]) ?_|refine xt (by simpa [h1,h2]) ?_|refine xf (by simpa [h1,h2]) ?_|apply wp_bs|apply wp_b|refine wp_sr ?_|refine wp_sx ?_|refine wp_ret' ?_|refine wp_skip' ?_|refine wp_exit' ?_)
      simp [zi126,below,h1,h2]
def okE (n:Int) (e:Int×Int):Bool:=decide (0≤e.1) && (decide (e.1 < e.2) && decide (e.2 < n))
def vEs (n:Int):Option (Int×Int)→List (Int×Int)→Bool
  | _,[]=>true
  | none,e::r=>okE n e && vEs n (some e) r
  | some q,e::r=>okE n e && (below q e && vEs n (some e) r)
def vGraph (n:Int) (es:List (Int×Int)):Bool:=vEs n none es && (decide (0≤n) && decide (n≤7))
theorem Fit.at {es:List (Int×Int)} (h:Fit es) {i:Nat} (hi:i < es.length):-9223372036854775808≤es[i].1∧es[i].1 < 9223372036854775808∧-9223372036854775808≤es[i].2∧es[i].2 < 9223372036854775808:=h _ (List.getElem_mem hi)
theorem validl (n:Int) (es:List (Int×Int)) (c:Bool) (hf:Fit es) (hl:es.length≤100000000):∀ (m i:Nat) (p:Option (Int×Int)) (bs:Boxes),i+m=es.length →
    (i=0∧p=none ∨ ∃ j,∃ h:j < es.length,i=j+1∧p=some es[j]∧0≤es[j].1∧0≤es[j].2) →
    wp tb (.loop z26l7) { T:=[(1,.bptr 0 0 0),(6,L2 es c),(7,I es.length),(8,I i)],loc:=[I n,L2 es c]::bs,M:=[] }
      (fun ex st=>(vEs n p (es.drop i)=true∧ex=.exit 0∧∃ bs',st={ T:=[(1,.bptr 0 0 0),(6,L2 es c),(7,I es.length),(8,I es.length),(9,Bo false)],loc:=[I n,L2 es c]::bs',M:=[] }) ∨
        (vEs n p (es.drop i)=false∧ex=.ret∧∃ bs',st={ T:=[(2,Bo false)],loc:=[I n,L2 es c]::bs',M:=[] })):=by
  intro m
  induction m with
  | zero =>
    intro i p bs hi hp
    have h3:i=es.length:=hi
    subst h3
    refine wp_loop ?_
    repeat (first|apply wp_as|apply wp_ss|refine wr (by simp;with_reducible rfl) ?_|refine wq (by simp;with_reducible rfl) ?_|refine wt (by simpa) ?_|refine wf (by simpa) ?_|refine xt (by simpa) ?_|refine xf (by simpa) ?_|apply wp_bs|apply wp_b|refine wp_sr ?_|refine wp_sx ?_|refine wp_ret' ?_|refine wp_skip' ?_|refine wp_exit' ?_)
    exact .inl ⟨by simp [vEs],rfl,bs,rfl⟩
  | succ m ih =>
    intro i p bs hi hp
    have hi2:i < es.length:=by omega
    have hd:es.drop i=es[i]::es.drop (i+1):=List.drop_eq_getElem_cons hi2
    have hfe:=hf.at hi2
    have w1:IntKind.i64.wrap ((i:Int)+1)=((i+1:Nat):Int):=wrapS (by omega)
    have bad:okE n es[i]=false→vEs n p (es.drop i)=false:=fun h=>by
      rw [hd];cases p <;> simp [vEs,h]
    by_cases h1:es[i].1 < 0
    · have hb:=bad (by simp [okE];omega)
      refine wp_loop ?_
      repeat (first|apply wp_as|apply wp_ss|refine wr (by simp [hi2,h1];with_reducible rfl) ?_|refine wq (by simp [hi2,h1];with_reducible rfl) ?_|refine wt (by simpa [hi2,h1]) ?_|refine wf (by simpa [hi2,h1]) ?_|refine xt (by simpa [hi2,h1]) ?_|refine xf (by simpa [hi2,h1]) ?_|apply wp_bs|apply wp_b|refine wp_sr ?_|refine wp_sx ?_|refine wp_ret' ?_|refine wp_skip' ?_|refine wp_exit' ?_)
      exact .inr ⟨hb,rfl,_,rfl⟩
    by_cases h2:es[i].2≤es[i].1
    · have hb:=bad (by simp [okE];omega)
      refine wp_loop ?_
      repeat (first|apply wp_as|apply wp_ss|refine wr (by simp [hi2,h1,h2];with_reducible rfl) ?_|refine wq (by simp [hi2,h1,h2];with_reducible rfl) ?_|refine wt (by simpa [hi2,h1,h2]) ?_|refine wf (by simpa [hi2,h1,h2]) ?_|refine xt (by simpa [hi2,h1,h2]) ?_|refine xf (by simpa [hi2,h1,h2]) ?_|apply wp_bs|apply wp_b|refine wp_sr ?_|refine wp_sx ?_|refine wp_ret' ?_|refine wp_skip' ?_|refine wp_exit' ?_)
      exact .inr ⟨hb,rfl,_,rfl⟩
    by_cases h3:n≤es[i].2
    · have hb:=bad (by simp [okE];omega)
      refine wp_loop ?_
      repeat (first|apply wp_as|apply wp_ss|refine wr (by simp [hi2,h1,h2,h3];with_reducible rfl) ?_|refine wq (by simp [hi2,h1,h2,h3];with_reducible rfl) ?_|refine wt (by simpa [hi2,h1,h2,h3]) ?_|refine wf (by simpa [hi2,h1,h2,h3]) ?_|refine xt (by simpa [hi2,h1,h2,h3]) ?_|refine xf (by simpa [hi2,h1,h2,h3]) ?_|apply wp_bs|apply wp_b|refine wp_sr ?_|refine wp_sx ?_|refine wp_ret' ?_|refine wp_skip' ?_|refine wp_exit' ?_)
      exact .inr ⟨hb,rfl,_,rfl⟩
    have hok:okE n es[i]=true:=by simp [okE];omega
    rcases hp with ⟨rfl,rfl⟩ | ⟨j,hj,rfl,rfl,q1,q2⟩
    · have hn:=ih 1 (some es[0]) (bs++[[I es[0].1,I es[0].2]]) (by omega) (.inr ⟨0,hi2,rfl,rfl,by omega,by omega⟩)
      rw [hd]
      simp only [vEs,hok,Bool.true_and]
      refine wp_loop ?_
      repeat (first|apply wp_as|apply wp_ss|refine wr (by simp [hi2,h1,h2,h3,show IntKind.i64.wrap (1:Int)=1 from rfl];with_reducible rfl) ?_|refine wq (by simp [hi2,h1,h2,h3,show IntKind.i64.wrap (1:Int)=1 from rfl];with_reducible rfl) ?_|refine wt (by simpa [hi2,h1,h2,h3,show IntKind.i64.wrap (1:Int)=1 from rfl]) ?_|refine wf (by simpa [hi2,h1,h2,h3,show IntKind.i64.wrap (1:Int)=1 from rfl]) ?_|refine xt (by simpa [hi2,h1,h2,h3,show IntKind.i64.wrap (1:Int)=1 from rfl]) ?_|refine xf (by simpa [hi2,h1,h2,h3,show IntKind.i64.wrap (1:Int)=1 from rfl]) ?_|apply wp_bs|apply wp_b|refine wp_sr ?_|refine wp_sx ?_|refine wp_ret' ?_|refine wp_skip' ?_|refine wp_exit' ?_)
      exact hn
    · have hfj:=hf.at hj
      have w2:IntKind.i64.wrap (j:Int)=(j:Int):=wrapN (by omega)
      have hj0:(0:Int) < (j:Int)+1:=by omega
      have hj1:(j:Int)+1 < (es.length:Int):=by omega
      have w3:IntKind.i64.wrap ((j:Int)+1+1)=((j+1+1:Nat):Int):=by rw [wrap64 (by omega) (by omega)];omega
      have e1:=ev_lim (ev_compareEdges es[j] es[j+1] ⟨q1,hfj.2.1,q2,hfj.2.2.2⟩ ⟨by omega,by omega,by omega,by omega⟩ [])
      have hcb:=cmpE_below es[j] es[j+1]
      rw [hd]
      simp only [vEs,hok,Bool.true_and,← hcb]
      by_cases h4:0≤cmpE es[j] es[j+1]
      · have h5:decide (cmpE es[j] es[j+1] < 0)=false:=decide_eq_false (by omega)
        rw [h5]
        refine wp_loop ?_
        repeat (first|apply wp_as|apply wp_ss|refine wr (by simp [hi2,hj,h1,h2,h3,w2,hj0,hj1,e1,h4];with_reducible rfl) ?_|refine wq (by simp [hi2,hj,h1,h2,h3,w2,hj0,hj1,e1,h4];with_reducible rfl) ?_|refine wt (by simpa [hi2,hj,h1,h2,h3,w2,hj0,hj1,e1,h4]) ?_|refine wf (by simpa [hi2,hj,h1,h2,h3,w2,hj0,hj1,e1,h4]) ?_|refine xt (by simpa [hi2,hj,h1,h2,h3,w2,hj0,hj1,e1,h4]) ?_|refine xf (by simpa [hi2,hj,h1,h2,h3,w2,hj0,hj1,e1,h4]) ?_|apply wp_bs|apply wp_b|refine wp_sr ?_|refine wp_sx ?_|refine wp_ret' ?_|refine wp_skip' ?_|refine wp_exit' ?_)
        exact .inr ⟨rfl,rfl,_,rfl⟩
      · have h5:decide (cmpE es[j] es[j+1] < 0)=true:=decide_eq_true (by omega)
        rw [h5]
        have hn:=ih (j+1+1) (some es[j+1]) (bs++[[I es[j+1].1,I es[j+1].2]]) (by omega) (.inr ⟨j+1,hi2,rfl,rfl,by omega,by omega⟩)
        simp only [Bool.true_and]
        refine wp_loop ?_
        repeat (first|apply wp_as|apply wp_ss|refine wr (by simp [hi2,hj,h1,h2,h3,w3,w2,hj0,hj1,e1,h4];with_reducible rfl) ?_|refine wq (by simp [hi2,hj,h1,h2,h3,w3,w2,hj0,hj1,e1,h4];with_reducible rfl) ?_|refine wt (by simpa [hi2,hj,h1,h2,h3,w3,w2,hj0,hj1,e1,h4]) ?_|refine wf (by simpa [hi2,hj,h1,h2,h3,w3,w2,hj0,hj1,e1,h4]) ?_|refine xt (by simpa [hi2,hj,h1,h2,h3,w3,w2,hj0,hj1,e1,h4]) ?_|refine xf (by simpa [hi2,hj,h1,h2,h3,w3,w2,hj0,hj1,e1,h4]) ?_|apply wp_bs|apply wp_b|refine wp_sr ?_|refine wp_sx ?_|refine wp_ret' ?_|refine wp_skip' ?_|refine wp_exit' ?_)
        exact hn
theorem ev_ValidGraph (n:Int) (es:List (Int×Int)) (c:Bool) (hf:Fit es) (hl:es.length≤100000000):Ev tb zl26 [] [Gr n es c] [] ⟨Bo (vGraph n es),[],[],[]⟩:=by
  have e1:=ev_lim (ev_in n 0 7)
  have hlo:=validl n es c hf hl es.length 0 none [] (by simp) (.inl ⟨rfl,rfl⟩)
  refine call_of_wp zt26 rfl ?_
  repeat (first|apply wp_as|apply wp_ss|refine wr (by simp;with_reducible rfl) ?_|refine wq (by simp;with_reducible rfl) ?_|refine wt (by simpa) ?_|refine wf (by simpa) ?_|refine xt (by simpa) ?_|refine xf (by simpa) ?_|apply wp_bs|apply wp_b|refine wp_sr ?_|refine wp_sx ?_|refine wp_ret' ?_|refine wp_skip' ?_|refine wp_exit' ?_)
  refine wp_imp hlo ?_
  rintro ex st (⟨hv,rfl,bs,rfl⟩ | ⟨hv,rfl,bs,rfl⟩)
  · try simp only [if_true]
    repeat (first|apply wp_as|apply wp_ss|refine wr (by simp [e1];with_reducible rfl) ?_|refine wq (by simp [e1];with_reducible rfl) ?_|refine wt (by simpa [e1]) ?_|refine wf (by simpa [e1]) ?_|refine xt (by simpa [e1]) ?_|refine xf (by simpa [e1]) ?_|apply wp_bs|apply wp_b|refine wp_sr ?_|refine wp_sx ?_|refine wp_ret' ?_|refine wp_skip' ?_|refine wp_exit' ?_)
    simp only [List.drop_zero] at hv
    simp [zi26,vGraph,hv]
  · simp only [List.drop_zero] at hv
    simp [zi26,vGraph,hv]
theorem svalidl (n:Int) (es:List (Int×Int)) (c:Bool) (hl:es.length≤100000000):∀ (m i:Nat) (p:Option (Int×Int)) (bs:Boxes),i+m=es.length →
    (i=0∧p=none ∨ ∃ j,∃ h:j < es.length,i=j+1∧p=some es[j]) →
    wp tb (.loop z145l7) { T:=[(1,.bptr 0 0 0),(3,I i)],loc:=[I n,L2 es c]::bs,M:=[] }
      (fun ex st=>(vEs n p (es.drop i)=true∧ex=.exit 0∧∃ bs',st={ T:=[(1,.bptr 0 0 0),(3,I es.length),(9,Bo false)],loc:=[I n,L2 es c]::bs',M:=[] }) ∨
        (vEs n p (es.drop i)=false∧ex=.ret∧∃ bs',st={ T:=[(2,Bo false)],loc:=[I n,L2 es c]::bs',M:=[] })):=by
  intro m
  induction m with
  | zero =>
    intro i p bs hi hp
    have h3:i=es.length:=hi
    subst h3
    refine wp_loop ?_
    repeat (first|apply wp_as|apply wp_ss|refine wr (by simp;with_reducible rfl) ?_|refine wq (by simp;with_reducible rfl) ?_|refine wt (by simpa) ?_|refine wf (by simpa) ?_|refine xt (by simpa) ?_|refine xf (by simpa) ?_|apply wp_bs|apply wp_b|refine wp_sr ?_|refine wp_sx ?_|refine wp_ret' ?_|refine wp_skip' ?_|refine wp_exit' ?_)
    exact .inl ⟨by simp [vEs],rfl,bs,rfl⟩
  | succ m ih =>
    intro i p bs hi hp
    have hi2:i < es.length:=by omega
    have hd:es.drop i=es[i]::es.drop (i+1):=List.drop_eq_getElem_cons hi2
    have w1:IntKind.i64.wrap ((i:Int)+1)=((i+1:Nat):Int):=wrapS (by omega)
    have bad:okE n es[i]=false→vEs n p (es.drop i)=false:=fun h=>by
      rw [hd];cases p <;> simp [vEs,h]
    by_cases h1:es[i].1 < 0
    · have hb:=bad (by simp [okE];omega)
      refine wp_loop ?_
      repeat (first|apply wp_as|apply wp_ss|refine wr (by simp [hi2,h1];with_reducible rfl) ?_|refine wq (by simp [hi2,h1];with_reducible rfl) ?_|refine wt (by simpa [hi2,h1]) ?_|refine wf (by simpa [hi2,h1]) ?_|refine xt (by simpa [hi2,h1]) ?_|refine xf (by simpa [hi2,h1]) ?_|apply wp_bs|apply wp_b|refine wp_sr ?_|refine wp_sx ?_|refine wp_ret' ?_|refine wp_skip' ?_|refine wp_exit' ?_)
      exact .inr ⟨hb,rfl,_,rfl⟩
    by_cases h2:es[i].2≤es[i].1
    · have hb:=bad (by simp [okE];omega)
      refine wp_loop ?_
      repeat (first|apply wp_as|apply wp_ss|refine wr (by simp [hi2,h1,h2];with_reducible rfl) ?_|refine wq (by simp [hi2,h1,h2];with_reducible rfl) ?_|refine wt (by simpa [hi2,h1,h2]) ?_|refine wf (by simpa [hi2,h1,h2]) ?_|refine xt (by simpa [hi2,h1,h2]) ?_|refine xf (by simpa [hi2,h1,h2]) ?_|apply wp_bs|apply wp_b|refine wp_sr ?_|refine wp_sx ?_|refine wp_ret' ?_|refine wp_skip' ?_|refine wp_exit' ?_)
      exact .inr ⟨hb,rfl,_,rfl⟩
    by_cases h3:n≤es[i].2
    · have hb:=bad (by simp [okE];omega)
      refine wp_loop ?_
      repeat (first|apply wp_as|apply wp_ss|refine wr (by simp [hi2,h1,h2,h3];with_reducible rfl) ?_|refine wq (by simp [hi2,h1,h2,h3];with_reducible rfl) ?_|refine wt (by simpa [hi2,h1,h2,h3]) ?_|refine wf (by simpa [hi2,h1,h2,h3]) ?_|refine xt (by simpa [hi2,h1,h2,h3]) ?_|refine xf (by simpa [hi2,h1,h2,h3]) ?_|apply wp_bs|apply wp_b|refine wp_sr ?_|refine wp_sx ?_|refine wp_ret' ?_|refine wp_skip' ?_|refine wp_exit' ?_)
      exact .inr ⟨hb,rfl,_,rfl⟩
    have hok:okE n es[i]=true:=by simp [okE];omega
    rcases hp with ⟨rfl,rfl⟩ | ⟨j,hj,rfl,rfl⟩
    · have hn:=ih 1 (some es[0]) (bs++[[I es[0].1,I es[0].2]]) (by omega) (.inr ⟨0,hi2,rfl,rfl⟩)
      rw [hd]
      simp only [vEs,hok,Bool.true_and]
      refine wp_loop ?_
      repeat (first|apply wp_as|apply wp_ss|refine wr (by simp [hi2,h1,h2,h3,show IntKind.i64.wrap (1:Int)=1 from rfl];with_reducible rfl) ?_|refine wq (by simp [hi2,h1,h2,h3,show IntKind.i64.wrap (1:Int)=1 from rfl];with_reducible rfl) ?_|refine wt (by simpa [hi2,h1,h2,h3,show IntKind.i64.wrap (1:Int)=1 from rfl]) ?_|refine wf (by simpa [hi2,h1,h2,h3,show IntKind.i64.wrap (1:Int)=1 from rfl]) ?_|refine xt (by simpa [hi2,h1,h2,h3,show IntKind.i64.wrap (1:Int)=1 from rfl]) ?_|refine xf (by simpa [hi2,h1,h2,h3,show IntKind.i64.wrap (1:Int)=1 from rfl]) ?_|apply wp_bs|apply wp_b|refine wp_sr ?_|refine wp_sx ?_|refine wp_ret' ?_|refine wp_skip' ?_|refine wp_exit' ?_)
      exact hn
    · have w2:IntKind.i64.wrap (j:Int)=(j:Int):=wrapN (by omega)
      have hj0:(0:Int) < (j:Int)+1:=by omega
      have hj1:(j:Int)+1 < (es.length:Int):=by omega
      have w3:IntKind.i64.wrap ((j:Int)+1+1)=((j+1+1:Nat):Int):=by rw [wrap64 (by omega) (by omega)];omega
      have e1:=ev_lim (ev_edgeBelow es[j] es[j+1])
      rw [hd]
      simp only [vEs,hok,Bool.true_and]
      cases h4:below es[j] es[j+1] with
      | false =>
        refine wp_loop ?_
        repeat (first|apply wp_as|apply wp_ss|refine wr (by simp [hi2,hj,h1,h2,h3,w2,hj0,hj1,e1,h4];with_reducible rfl) ?_|refine wq (by simp [hi2,hj,h1,h2,h3,w2,hj0,hj1,e1,h4];with_reducible rfl) ?_|refine wt (by simpa [hi2,hj,h1,h2,h3,w2,hj0,hj1,e1,h4]) ?_|refine wf (by simpa [hi2,hj,h1,h2,h3,w2,hj0,hj1,e1,h4]) ?_|refine xt (by simpa [hi2,hj,h1,h2,h3,w2,hj0,hj1,e1,h4]) ?_|refine xf (by simpa [hi2,hj,h1,h2,h3,w2,hj0,hj1,e1,h4]) ?_|apply wp_bs|apply wp_b|refine wp_sr ?_|refine wp_sx ?_|refine wp_ret' ?_|refine wp_skip' ?_|refine wp_exit' ?_)
        exact .inr ⟨rfl,rfl,_,rfl⟩
      | true =>
        have hn:=ih (j+1+1) (some es[j+1]) (bs++[[I es[j+1].1,I es[j+1].2]]) (by omega) (.inr ⟨j+1,hi2,rfl,rfl⟩)
        simp only [Bool.true_and]
        refine wp_loop ?_
        repeat (first|apply wp_as|apply wp_ss|refine wr (by simp [hi2,hj,h1,h2,h3,w3,w2,hj0,hj1,e1,h4];with_reducible rfl) ?_|refine wq (by simp [hi2,hj,h1,h2,h3,w3,w2,hj0,hj1,e1,h4];with_reducible rfl) ?_|refine wt (by simpa [hi2,hj,h1,h2,h3,w3,w2,hj0,hj1,e1,h4]) ?_|refine wf (by simpa [hi2,hj,h1,h2,h3,w3,w2,hj0,hj1,e1,h4]) ?_|refine xt (by simpa [hi2,hj,h1,h2,h3,w3,w2,hj0,hj1,e1,h4]) ?_|refine xf (by simpa [hi2,hj,h1,h2,h3,w3,w2,hj0,hj1,e1,h4]) ?_|apply wp_bs|apply wp_b|refine wp_sr ?_|refine wp_sx ?_|refine wp_ret' ?_|refine wp_skip' ?_|refine wp_exit' ?_)
        exact hn
theorem ev_validGraph (n:Int) (es:List (Int×Int)) (c:Bool) (hl:es.length≤100000000):Ev tb zl145 [] [Gr n es c] [] ⟨Bo (vGraph n es),[],[],[]⟩:=by
  have e1:=ev_lim (ev_inRange n 0 7)
  have hlo:=svalidl n es c hl es.length 0 none [] (by simp) (.inl ⟨rfl,rfl⟩)
  refine call_of_wp zt145 rfl ?_
  repeat (first|apply wp_as|apply wp_ss|refine wr (by simp;with_reducible rfl) ?_|refine wq (by simp;with_reducible rfl) ?_|refine wt (by simpa) ?_|refine wf (by simpa) ?_|refine xt (by simpa) ?_|refine xf (by simpa) ?_|apply wp_bs|apply wp_b|refine wp_sr ?_|refine wp_sx ?_|refine wp_ret' ?_|refine wp_skip' ?_|refine wp_exit' ?_)
  refine wp_imp hlo ?_
  rintro ex st (⟨hv,rfl,bs,rfl⟩ | ⟨hv,rfl,bs,rfl⟩)
  · try simp only [if_true]
    repeat (first|apply wp_as|apply wp_ss|refine wr (by simp [e1];with_reducible rfl) ?_|refine wq (by simp [e1];with_reducible rfl) ?_|refine wt (by simpa [e1]) ?_|refine wf (by simpa [e1]) ?_|refine xt (by simpa [e1]) ?_|refine xf (by simpa [e1]) ?_|apply wp_bs|apply wp_b|refine wp_sr ?_|refine wp_sx ?_|refine wp_ret' ?_|refine wp_skip' ?_|refine wp_exit' ?_)
    simp only [List.drop_zero] at hv
    simp [zi145,vGraph,hv]
  · simp only [List.drop_zero] at hv
    simp [zi145,vGraph,hv]
end Go.Idl
namespace Go.Idl
structure Seg {α:Type} (X X':List α) (a b:Nat):Prop where
  perm:X'.Perm X
  out:∀ k,k < a ∨ b≤k→X'[k]? = X[k]?
theorem Seg.len {α:Type} {X X':List α} {a b:Nat} (h:Seg X X' a b):X'.length=X.length:=h.perm.length_eq
theorem Seg.refl {α:Type} (X:List α) (a b:Nat):Seg X X a b:=⟨.refl _,fun _ _=>rfl⟩
theorem Seg.trans {α:Type} {X Y Z:List α} {a b:Nat} (h:Seg X Y a b) (k:Seg Y Z a b):Seg X Z a b:=⟨k.perm.trans h.perm,fun i hi=>(k.out i hi).trans (h.out i hi)⟩
theorem Seg.mono {α:Type} {X Y:List α} {a b a' b':Nat} (h:Seg X Y a b) (h1:a'≤a) (h2:b≤b'):Seg X Y a' b':=⟨h.perm,fun i hi=>h.out i (by omega)⟩
theorem Seg.nodup {α:Type} {X Y:List α} {a b:Nat} (h:Seg X Y a b) (hn:X.Nodup):Y.Nodup:=h.perm.nodup_iff.2 hn
def swapL {α:Type} (X:List α) (i j:Nat) (hi:i < X.length) (hj:j < X.length):List α:=(X.set i X[j]).set j X[i]
theorem swapL_len {α:Type} (X:List α) (i j:Nat) (hi hj):(swapL X i j hi hj).length=X.length:=by simp [swapL]
theorem swapL_get {α:Type} (X:List α) (i j:Nat) (hi:i < X.length) (hj:j < X.length) (k:Nat):(swapL X i j hi hj)[k]? = if k=j then some X[i] else if k=i then some X[j] else X[k]?:=by
  rw [swapL,List.getElem?_set,List.getElem?_set]
  by_cases h1:k=j
  · subst h1;simp [hj]
  · by_cases h2:k=i
    · subst h2;simp [hi,h1,Ne.symm h1]
    · simp [h1,h2,Ne.symm h1,Ne.symm h2]
theorem swapL_perm {α:Type} (X:List α) (i j:Nat) (hi:i < X.length) (hj:j < X.length):(swapL X i j hi hj).Perm X:=by
  exact List.set_set_perm hi hj
theorem swapL_seg {α:Type} (X:List α) (i j a b:Nat) (hi:i < X.length) (hj:j < X.length) (h1:a≤i∧i < b) (h2:a≤j∧j < b):Seg X (swapL X i j hi hj) a b :=
  ⟨swapL_perm X i j hi hj,fun k hk=>by rw [swapL_get,if_neg (by omega),if_neg (by omega)]⟩
theorem Seg.back {α:Type} {X Y:List α} {a b:Nat} (h:Seg X Y a b) (hn:X.Nodup) {k:Nat} (hk:a≤k∧k < b) {e:α} (he:Y[k]? = some e):∃ l,(a≤l∧l < b)∧X[l]? = some e:=by
  have hm:e ∈ X:=h.perm.mem_iff.1 (List.mem_of_getElem? he)
  obtain ⟨l,hl,rfl⟩:=List.getElem_of_mem hm
  by_cases hlb:a≤l∧l < b
  · exact ⟨l,hlb,List.getElem?_eq_getElem hl⟩
  · have h1:=h.out l (by omega)
    rw [List.getElem?_eq_getElem hl] at h1
    have hny:=h.nodup hn
    have hkl:k < Y.length:=(List.getElem?_eq_some_iff.1 he).1
    have hll:l < Y.length:=by rw [h.len];exact hl
    have h2:=(List.getElem?_eq_some_iff.1 he).2
    have h3:=(List.getElem?_eq_some_iff.1 h1).2
    have h4:k=l:=(List.getElem_inj hny).1 (h2.trans h3.symm)
    omega
end Go.Idl
namespace Go.Idl
open Go
def BelowOn (X:List (Int×Int)) (lo hi:Nat) (x:Int×Int):Prop:=∀ k e,lo≤k→k < hi→X[k]? = some e→below e x=true
def AboveOn (X:List (Int×Int)) (lo hi:Nat) (x:Int×Int):Prop:=∀ k e,lo≤k→k < hi→X[k]? = some e→below e x=false
theorem AboveOn.cons {X:List (Int×Int)} {lo hi:Nat} {x:Int×Int} (h:AboveOn X (lo+1) hi x) (hl:lo < X.length) (hb:below X[lo] x=false):AboveOn X lo hi x:=fun k e h1 h2 he=>by
  by_cases hk:k=lo
  · subst hk
    rw [List.getElem?_eq_getElem hl] at he
    cases he;exact hb
  · exact h k e (by omega) h2 he
structure PInv (X0 X:List (Int×Int)) (a b i j:Nat) (x:Int×Int):Prop where
  seg:Seg X0 X a b
  piv:X[a]? = some x
  lo:BelowOn X (a+1) i x
  hi:AboveOn X (j+1) b x
  ai:a+1≤i
  ij:i≤j+1
  jb:j < b
  bl:b≤X.length
theorem PInv.al {X0 X a b i j x} (h:PInv X0 X a b i j x):a < X.length:=(List.getElem?_eq_some_iff.1 h.piv).1
theorem PInv.xa {X0 X a b i j x} (h:PInv X0 X a b i j x):X[a]'h.al=x:=(List.getElem?_eq_some_iff.1 h.piv).2
theorem PInv.swap {X0 X a b i j x} (h:PInv X0 X a b i j x) (hi:i < X.length) (hj:j < X.length) (hij:i≤j) (h1:below X[i] x=false) (h2:below X[j] x=true) :
    ∃ q,j=q+1∧i < j∧PInv X0 (swapL X i j hi hj) a b (i+1) q x:=by
  have hne:i ≠ j:=by rintro rfl;rw [h1] at h2;cases h2
  have hb:=h.bl
  have hjb:=h.jb
  have hai:=h.ai
  refine ⟨j - 1,by omega,by omega,h.seg.trans (swapL_seg X i j a b hi hj (by omega) (by omega)),?_,?_,?_,by omega,by omega,by omega,by rw [swapL_len];exact hb⟩
  · rw [swapL_get,if_neg (by omega),if_neg (by omega)];exact h.piv
  · intro k e k1 k2 he
    rw [swapL_get,if_neg (by omega)] at he
    by_cases hk:k=i
    · rw [if_pos hk] at he
      cases he;exact h2
    · rw [if_neg hk] at he
      exact h.lo k e k1 (by omega) he
  · intro k e k1 k2 he
    rw [swapL_get] at he
    by_cases hk:k=j
    · rw [if_pos hk] at he
      cases he;exact h1
    · rw [if_neg hk,if_neg (by omega)] at he
      exact h.hi k e (by omega) k2 he
theorem PInv.fin {X0 X a b j x} (h:PInv X0 X a b (j+1) j x) (hj:j < X.length):Seg X0 (swapL X j a hj h.al) a b∧(swapL X j a hj h.al)[j]? = some x∧BelowOn (swapL X j a hj h.al) a j x∧AboveOn (swapL X j a hj h.al) (j+1) b x:=by
  have hb:=h.bl
  have hjb:=h.jb
  have hai:=h.ai
  have hxa:=h.xa
  refine ⟨h.seg.trans (swapL_seg X j a a b hj h.al (by omega) (by omega)),?_,fun k e k1 k2 he=>?_,fun k e k1 k2 he=>?_⟩
  · rw [swapL_get]
    by_cases hja:j=a
    · subst hja;rw [if_pos rfl,hxa]
    · rw [if_neg hja,if_pos rfl,hxa]
  · rw [swapL_get] at he
    by_cases hka:k=a
    · rw [if_pos hka] at he
      cases he
      exact h.lo j _ (by omega) (by omega) (List.getElem?_eq_getElem hj)
    · rw [if_neg hka,if_neg (by omega)] at he
      exact h.lo k e (by omega) (by omega) he
  · rw [swapL_get,if_neg (by omega),if_neg (by omega)] at he
    exact h.hi k e k1 k2 he
end Go.Idl
namespace Go.Idl
open Go
def nl2:List (Int×Int)→IV
  | []=>Z
  | e::es=>O2 (e::es)
@[simp] theorem nl2_nil:nl2 []=Z:=rfl
@[simp] theorem nl2_cons (e:Int×Int) (es:List (Int×Int)):nl2 (e::es)=O2 (e::es):=rfl
theorem nl2_app (acc:List (Int×Int)) (e:Int×Int):nl2 (acc++[e])=O2 (acc++[e]):=by
  cases acc <;> rfl
theorem ev_edge (a b:Int) (M:List Boxes):Ev tb zl36 [] [I a,I b] M ⟨.agg [I (min a b),I (max a b)],[],M,[]⟩:=by
  have h1:(if b < a then b else a)=min a b:=min_if a b
  have h2:(if a < b then b else a)=max a b:=max_if a b
  refine call_of_wp zt36 rfl ?_
  repeat (first|apply wp_as|apply wp_ss|refine wr (by simp;with_reducible rfl) ?_|refine wq (by simp;with_reducible rfl) ?_|refine wt (by simpa) ?_|refine wf (by simpa) ?_|refine xt (by simpa) ?_|refine xf (by simpa) ?_|apply wp_bs|apply wp_b|refine wp_sr ?_|refine wp_sx ?_|refine wp_ret' ?_|refine wp_skip' ?_|refine wp_exit' ?_)
  simp [zi36,h1,h2]
theorem ev_pairs_in (n a:Nat) (hn:n≤1000):∀ (m b:Nat) (acc:List (Int×Int)),b+m=n→acc.length+m≤2000000 →
    wp tb (.loop z216l9) { T:=[(0,I n),(3,nl2 acc),(4,I a),(5,I b),(6,I n),(7,I a)],loc:=[],M:=[] }
      (fun ex st=>ex=.exit 2∧st={ T:=[(0,I n),(3,nl2 (acc++row a b m)),(4,I a),(5,I n),(6,I n),(7,I a),(14,Bo false)],loc:=[],M:=[] }):=by
  intro m
  induction m with
  | zero =>
    intro b acc hb hl
    have h3:b=n:=hb
    subst h3
    refine wp_loop ?_
    cases acc with
    | nil =>
      repeat (first|apply wp_as|apply wp_ss|refine wr (by simp;with_reducible rfl) ?_|refine wq (by simp;with_reducible rfl) ?_|refine wt (by simpa) ?_|refine wf (by simpa) ?_|refine xt (by simpa) ?_|refine xf (by simpa) ?_|apply wp_bs|apply wp_b|refine wp_sr ?_|refine wp_sx ?_|refine wp_ret' ?_|refine wp_skip' ?_|refine wp_exit' ?_)
      exact ⟨rfl,by simp [row]⟩
    | cons e acc =>
      repeat (first|apply wp_as|apply wp_ss|refine wr (by simp;with_reducible rfl) ?_|refine wq (by simp;with_reducible rfl) ?_|refine wt (by simpa) ?_|refine wf (by simpa) ?_|refine xt (by simpa) ?_|refine xf (by simpa) ?_|apply wp_bs|apply wp_b|refine wp_sr ?_|refine wp_sx ?_|refine wp_ret' ?_|refine wp_skip' ?_|refine wp_exit' ?_)
      exact ⟨rfl,by simp [row]⟩
  | succ m ih =>
    intro b acc hb hl
    have hi2:b < n:=by omega
    have w1:IntKind.i64.wrap ((b:Int)+1)=((b+1:Nat):Int):=wrapS (by omega)
    have hn':=ih (b+1) (acc++[((a:Int),(b:Int))]) (by omega) (by simp;omega)
    rw [nl2_app] at hn'
    have hrow:acc++row a b (m+1)=(acc++[((a:Int),(b:Int))])++row a (b+1) m:=by simp [row]
    rw [hrow]
    have hl2:acc.length+1≤274877906944:=by omega
    cases acc with
    | nil =>
      refine wp_loop ?_
      repeat (first|apply wp_as|apply wp_ss|refine wr (by simp [hi2,w1];with_reducible rfl) ?_|refine wq (by simp [hi2,w1];with_reducible rfl) ?_|refine wt (by simpa [hi2,w1]) ?_|refine wf (by simpa [hi2,w1]) ?_|refine xt (by simpa [hi2,w1]) ?_|refine xf (by simpa [hi2,w1]) ?_|apply wp_bs|apply wp_b|refine wp_sr ?_|refine wp_sx ?_|refine wp_ret' ?_|refine wp_skip' ?_|refine wp_exit' ?_)
      exact hn'
    | cons e acc =>
      have ht:(e::acc).take (acc.length+1)=e::acc:=by rw [List.take_of_length_le (by simp)]
      have hl3:acc.length+1+1≤274877906944:=by simp at hl2;omega
      refine wp_loop ?_
      repeat (first|apply wp_as|apply wp_ss|refine wr (by simp [hi2,w1,hl3,ht];with_reducible rfl) ?_|refine wq (by simp [hi2,w1,hl3,ht];with_reducible rfl) ?_|refine wt (by simpa [hi2,w1,hl3,ht]) ?_|refine wf (by simpa [hi2,w1,hl3,ht]) ?_|refine xt (by simpa [hi2,w1,hl3,ht]) ?_|refine xf (by simpa [hi2,w1,hl3,ht]) ?_|apply wp_bs|apply wp_b|refine wp_sr ?_|refine wp_sx ?_|refine wp_ret' ?_|refine wp_skip' ?_|refine wp_exit' ?_)
      exact hn'
theorem ev_impl_pairs (n:Nat) (hn:n≤1000):Ev tb zl216 [] [I n] [] ⟨nl2 (prs n),[],[],[]⟩:=by
  have loop:∀ (m a:Nat) (acc:List (Int×Int)),a+m=n→acc.length+m * 1001≤1500000→wp tb (.loop z216l11) { T:=[(0,I n),(3,nl2 acc),(6,I n),(7,I a)],loc:=[],M:=[] }
      (fun ex st=>ex=.exit 0∧st={ T:=[(0,I n),(3,nl2 (acc++prsF a m)),(6,I n),(7,I n),(8,Bo false)],loc:=[],M:=[] }):=by
    intro m
    induction m with
    | zero =>
      intro a acc ha hl
      have h3:a=n:=ha
      subst h3
      refine wp_loop ?_
      cases acc with
      | nil =>
        repeat (first|apply wp_as|apply wp_ss|refine wr (by simp;with_reducible rfl) ?_|refine wq (by simp;with_reducible rfl) ?_|refine wt (by simpa) ?_|refine wf (by simpa) ?_|refine xt (by simpa) ?_|refine xf (by simpa) ?_|apply wp_bs|apply wp_b|refine wp_sr ?_|refine wp_sx ?_|refine wp_ret' ?_|refine wp_skip' ?_|refine wp_exit' ?_)
        exact ⟨rfl,by simp [prsF]⟩
      | cons e acc =>
        repeat (first|apply wp_as|apply wp_ss|refine wr (by simp;with_reducible rfl) ?_|refine wq (by simp;with_reducible rfl) ?_|refine wt (by simpa) ?_|refine wf (by simpa) ?_|refine xt (by simpa) ?_|refine xf (by simpa) ?_|apply wp_bs|apply wp_b|refine wp_sr ?_|refine wp_sx ?_|refine wp_ret' ?_|refine wp_skip' ?_|refine wp_exit' ?_)
        exact ⟨rfl,by simp [prsF]⟩
    | succ m ih =>
      intro a acc ha hl
      have hi2:a < n:=by omega
      have w1:IntKind.i64.wrap ((a:Int)+1)=((a+1:Nat):Int):=wrapS (by omega)
      have hin:=ev_pairs_in n a hn m (a+1) acc (by omega) (by omega)
      have hout:=ih (a+1) (acc++row a (a+1) m) (by omega) (by rw [List.length_append,row_len,Nat.succ_mul] at *;omega)
      have hr:acc++prsF a (m+1)=(acc++row a (a+1) m)++prsF (a+1) m:=by simp [prsF]
      rw [hr]
      generalize acc++row a (a+1) m=acc2 at *
      refine wp_loop ?_
      cases acc with
      | nil =>
        repeat (first|apply wp_as|apply wp_ss|refine wr (by simp [hi2,w1];with_reducible rfl) ?_|refine wq (by simp [hi2,w1];with_reducible rfl) ?_|refine wt (by simpa [hi2,w1]) ?_|refine wf (by simpa [hi2,w1]) ?_|refine xt (by simpa [hi2,w1]) ?_|refine xf (by simpa [hi2,w1]) ?_|apply wp_bs|apply wp_b|refine wp_sr ?_|refine wp_sx ?_|refine wp_ret' ?_|refine wp_skip' ?_|refine wp_exit' ?_)
        refine wp_imp hin ?_
        rintro ex st ⟨rfl,rfl⟩
        try simp only [if_true]
        cases acc2 <;>
        repeat (first|apply wp_as|apply wp_ss|refine wr (by simp [w1];with_reducible rfl) ?_|refine wq (by simp [w1];with_reducible rfl) ?_|refine wt (by simpa [w1]) ?_|refine wf (by simpa [w1]) ?_|refine xt (by simpa [w1]) ?_|refine xf (by simpa [w1]) ?_|apply wp_bs|apply wp_b|refine wp_sr ?_|refine wp_sx ?_|refine wp_ret' ?_|refine wp_skip' ?_|refine wp_exit' ?_)
        · exact hout
        · exact hout
      | cons e acc =>
        repeat (first|apply wp_as|apply wp_ss|refine wr (by simp [hi2,w1];with_reducible rfl) ?_|refine wq (by simp [hi2,w1];with_reducible rfl) ?_|refine wt (by simpa [hi2,w1]) ?_|refine wf (by simpa [hi2,w1]) ?_|refine xt (by simpa [hi2,w1]) ?_|refine xf (by simpa [hi2,w1]) ?_|apply wp_bs|apply wp_b|refine wp_sr ?_|refine wp_sx ?_|refine wp_ret' ?_|refine wp_skip' ?_|refine wp_exit' ?_)
        refine wp_imp hin ?_
        rintro ex st ⟨rfl,rfl⟩
        try simp only [if_true]
        cases acc2 <;>
        repeat (first|apply wp_as|apply wp_ss|refine wr (by simp [w1];with_reducible rfl) ?_|refine wq (by simp [w1];with_reducible rfl) ?_|refine wt (by simpa [w1]) ?_|refine wf (by simpa [w1]) ?_|refine xt (by simpa [w1]) ?_|refine xf (by simpa [w1]) ?_|apply wp_bs|apply wp_b|refine wp_sr ?_|refine wp_sx ?_|refine wp_ret' ?_|refine wp_skip' ?_|refine wp_exit' ?_)
        · exact hout
        · exact hout
  refine call_of_wp zt216 rfl ?_
  repeat (first|apply wp_as|apply wp_ss|refine wr (by simp;with_reducible rfl) ?_|refine wq (by simp;with_reducible rfl) ?_|refine wt (by simpa) ?_|refine wf (by simpa) ?_|refine xt (by simpa) ?_|refine xf (by simpa) ?_|apply wp_bs|apply wp_b|refine wp_sr ?_|refine wp_sx ?_|refine wp_ret' ?_|refine wp_skip' ?_|refine wp_exit' ?_)
  refine wp_imp (loop n 0 [] (by simp) (by simp;omega)) ?_
  rintro ex st ⟨rfl,rfl⟩
  try simp only [if_true]
  rw [List.nil_append,← prs]
  cases hp:prs n <;>
  repeat (first|apply wp_as|apply wp_ss|refine wr (by simp;with_reducible rfl) ?_|refine wq (by simp;with_reducible rfl) ?_|refine wt (by simpa) ?_|refine wf (by simpa) ?_|refine xt (by simpa) ?_|refine xf (by simpa) ?_|apply wp_bs|apply wp_b|refine wp_sr ?_|refine wp_sx ?_|refine wp_ret' ?_|refine wp_skip' ?_|refine wp_exit' ?_)
  · simp [zi216]
  · simp [zi216]
end Go.Idl
namespace Go.Idl
open Go
def idx2 (e:Int×Int):Int→List (Int×Int)→Int
  | _,[]=>-1
  | i,x::r=>if x=e then i else idx2 e (i+1) r
theorem idx2_ge (e:Int×Int):∀ (xs:List (Int×Int)) (i:Int),0≤i→(decide (0≤idx2 e i xs)=xs.any fun x=>decide (x=e))
  | [],i,h=>by simp [idx2]
  | x::r,i,h=>by
    unfold idx2
    by_cases hp:x=e
    · simp [hp,h]
    · simp [hp];simpa using idx2_ge e r (i+1) (by omega)
theorem ev_Index2 (e0:Nat) (es:List (Int×Int)) (c:Bool) (e:Int×Int) (he0:e0=2 ∨ es=[]) (hl:es.length≤100000000) (M:List Boxes) :
    Ev tb zl269 [] [.lst e0 (eds es) c,.agg [I e.1,I e.2]] M ⟨I (idx2 e 0 es),[],M,[]⟩:=by
  have loop:∀ (m i:Nat),i+m=es.length→wp tb (.loop z269l7) { T:=[(0,.lst e0 (eds es) c),(3,.bptr M.length 0 0),(7,I es.length),(8,I i)],loc:=[[I e.1,I e.2]],M:=M }
      (fun ex st=>(ex=.exit 0∧idx2 e i (es.drop i)=-1∧st={ T:=[(0,.lst e0 (eds es) c),(3,.bptr M.length 0 0),(7,I es.length),(8,I es.length),(9,Bo false)],loc:=[[I e.1,I e.2]],M:=M }) ∨
        (ex=.ret∧st={ T:=[(4,I (idx2 e i (es.drop i)))],loc:=[[I e.1,I e.2]],M:=M })):=by
    intro m
    induction m with
    | zero =>
      intro i hi
      have h3:i=es.length:=hi
      subst h3
      refine wp_loop ?_
      repeat (first|apply wp_as|apply wp_ss|refine wr (by simp;with_reducible rfl) ?_|refine wq (by simp;with_reducible rfl) ?_|refine wt (by simpa) ?_|refine wf (by simpa) ?_|refine xt (by simpa) ?_|refine xf (by simpa) ?_|apply wp_bs|apply wp_b|refine wp_sr ?_|refine wp_sx ?_|refine wp_ret' ?_|refine wp_skip' ?_|refine wp_exit' ?_)
      exact .inl ⟨rfl,by simp [idx2],rfl⟩
    | succ m ih =>
      intro i hi
      have hi2:i < es.length:=by omega
      have he:e0=2:=by
        rcases he0 with h | h
        · exact h
        · rw [h] at hi2;simp at hi2
      subst he
      have hd:es.drop i=es[i]::es.drop (i+1):=List.drop_eq_getElem_cons hi2
      have w1:IntKind.i64.wrap ((i:Int)+1)=((i+1:Nat):Int):=wrapS (by omega)
      rw [hd]
      by_cases hq:es[i]=e
      · have h1:e.1=es[i].1:=by rw [hq]
        have h2:e.2=es[i].2:=by rw [hq]
        refine wp_loop ?_
        repeat (first|apply wp_as|apply wp_ss|refine wr (by simp [hi2,h1,h2,w1];with_reducible rfl) ?_|refine wq (by simp [hi2,h1,h2,w1];with_reducible rfl) ?_|refine wt (by simpa [hi2,h1,h2,w1]) ?_|refine wf (by simpa [hi2,h1,h2,w1]) ?_|refine xt (by simpa [hi2,h1,h2,w1]) ?_|refine xf (by simpa [hi2,h1,h2,w1]) ?_|apply wp_bs|apply wp_b|refine wp_sr ?_|refine wp_sx ?_|refine wp_ret' ?_|refine wp_skip' ?_|refine wp_exit' ?_)
        exact .inr ⟨rfl,by simp [idx2,hq]⟩
      · have h3:(e.1 == es[i].1 && e.2 == es[i].2)=false:=by
          rw [← Bool.not_eq_true,Bool.and_eq_true,beq_iff_eq,beq_iff_eq]
          rintro ⟨h1,h2⟩
          exact hq (by ext <;> simp [h1,h2])
        have hn:=ih (i+1) (by omega)
        simp only [idx2,hq,if_false]
        refine wp_loop ?_
        repeat (first|apply wp_as|apply wp_ss|refine wr (by simp [hi2,h3,w1];with_reducible rfl) ?_|refine wq (by simp [hi2,h3,w1];with_reducible rfl) ?_|refine wt (by simpa [hi2,h3,w1]) ?_|refine wf (by simpa [hi2,h3,w1]) ?_|refine xt (by simpa [hi2,h3,w1]) ?_|refine xf (by simpa [hi2,h3,w1]) ?_|apply wp_bs|apply wp_b|refine wp_sr ?_|refine wp_sx ?_|refine wp_ret' ?_|refine wp_skip' ?_|refine wp_exit' ?_)
        exact hn
  refine call_of_wp zt269 rfl ?_
  repeat (first|apply wp_as|apply wp_ss|refine wr (by simp;with_reducible rfl) ?_|refine wq (by simp;with_reducible rfl) ?_|refine wt (by simpa) ?_|refine wf (by simpa) ?_|refine xt (by simpa) ?_|refine xf (by simpa) ?_|apply wp_bs|apply wp_b|refine wp_sr ?_|refine wp_sx ?_|refine wp_ret' ?_|refine wp_skip' ?_|refine wp_exit' ?_)
  refine wp_imp (loop es.length 0 (by simp)) ?_
  rintro ex st (⟨rfl,h,rfl⟩ | ⟨rfl,rfl⟩)
  · try simp only [if_true]
    repeat (first|apply wp_as|apply wp_ss|refine wr (by simp;with_reducible rfl) ?_|refine wq (by simp;with_reducible rfl) ?_|refine wt (by simpa) ?_|refine wf (by simpa) ?_|refine xt (by simpa) ?_|refine xf (by simpa) ?_|apply wp_bs|apply wp_b|refine wp_sr ?_|refine wp_sx ?_|refine wp_ret' ?_|refine wp_skip' ?_|refine wp_exit' ?_)
    simp only [List.drop_zero] at h
    simp [zi269]
    exact h.symm
  · simp [zi269]
theorem ev_Contains2 (e0:Nat) (es:List (Int×Int)) (c:Bool) (e:Int×Int) (he0:e0=2 ∨ es=[]) (hl:es.length≤100000000) (M:List Boxes) :
    Ev tb zl263 [] [.lst e0 (eds es) c,.agg [I e.1,I e.2]] M ⟨Bo (es.any fun x=>decide (x=e)),[],M,[]⟩:=by
  have e1:=ev_lim (ev_Index2 e0 es c e he0 hl [])
  have h:=idx2_ge e es 0 (by omega)
  refine call_of_wp zt263 rfl ?_
  repeat (first|apply wp_as|apply wp_ss|refine wr (by simp [e1];with_reducible rfl) ?_|refine wq (by simp [e1];with_reducible rfl) ?_|refine wt (by simpa [e1]) ?_|refine wf (by simpa [e1]) ?_|refine xt (by simpa [e1]) ?_|refine xf (by simpa [e1]) ?_|apply wp_bs|apply wp_b|refine wp_sr ?_|refine wp_sx ?_|refine wp_ret' ?_|refine wp_skip' ?_|refine wp_exit' ?_)
  simp [zi263,h]
def hasM (es:List (Int×Int)) (a b:Int):Bool:=es.any fun x=>decide (x=(min a b,max a b))
theorem ev_has (n:Int) (e0:Nat) (es:List (Int×Int)) (c:Bool) (a b:Int) (he0:e0=2 ∨ es=[]) (hl:es.length≤100000000) (M:List Boxes) :
    Ev tb zl171 [] [.agg [I n,.lst e0 (eds es) c],I a,I b] M ⟨Bo (hasM es a b),[],M,[]⟩:=by
  have e1:=ev_lim (ev_edge a b [])
  have e2:=ev_lim (ev_Contains2 e0 es c (min a b,max a b) he0 hl [])
  refine call_of_wp zt171 rfl ?_
  repeat (first|apply wp_as|apply wp_ss|refine wr (by simp;with_reducible rfl) ?_|refine wq (by simp;with_reducible rfl) ?_|refine wt (by simpa) ?_|refine wf (by simpa) ?_|refine xt (by simpa) ?_|refine xf (by simpa) ?_|apply wp_bs|apply wp_b|refine wp_sr ?_|refine wp_sx ?_|refine wp_ret' ?_|refine wp_skip' ?_|refine wp_exit' ?_)
  refine wp_ra (by simp [e1,e2];with_reducible rfl) (by simp;with_reducible rfl) ?_ ?_
  · intro p hp
    simp only [List.mem_cons,List.not_mem_nil,or_false] at hp
    subst hp
    exact ⟨_,by simp [e1,e2];with_reducible rfl,by simp⟩
  repeat (first|apply wp_as|apply wp_ss|refine wr (by simp;with_reducible rfl) ?_|refine wq (by simp;with_reducible rfl) ?_|refine wt (by simpa) ?_|refine wf (by simpa) ?_|refine xt (by simpa) ?_|refine xf (by simpa) ?_|apply wp_bs|apply wp_b|refine wp_sr ?_|refine wp_sx ?_|refine wp_ret' ?_|refine wp_skip' ?_|refine wp_exit' ?_)
  simp [zi171,hasM]
end Go.Idl
namespace Go.Idl
open Go
theorem ev_Graph_degrees (n:Nat) (es:List (Int×Int)) (c:Bool) (hn:n≤1000) (hl:es.length≤1000) (he:EdgesIn n es) :
    Ev tb zl9 [] [Gr n es c] [] ⟨O (degs n es),[],[],[]⟩:=by
  have loop:∀ (m i:Nat) (out:List Int) (bs:Boxes),i+m=es.length→out.length=n→(∀ x ∈ out,0≤x∧x≤2 * i) →
      wp tb (.loop z9l8) { T:=[(1,.bptr 0 0 0),(3,O out),(10,L2 es c),(11,I es.length),(12,I i)],loc:=[I n,L2 es c]::bs,M:=[] }
      (fun ex st=>ex=.exit 0∧∃ bs',st={ T:=[(1,.bptr 0 0 0),(3,O (dfold out (es.drop i))),(10,L2 es c),(11,I es.length),(12,I es.length),(13,Bo false)],loc:=[I n,L2 es c]::bs',M:=[] }):=by
    intro m
    induction m with
    | zero =>
      intro i out bs hi ho hb
      have h3:i=es.length:=hi
      subst h3
      refine wp_loop ?_
      repeat (first|apply wp_as|apply wp_ss|refine wr (by simp;with_reducible rfl) ?_|refine wq (by simp;with_reducible rfl) ?_|refine wt (by simpa) ?_|refine wf (by simpa) ?_|refine xt (by simpa) ?_|refine xf (by simpa) ?_|apply wp_bs|apply wp_b|refine wp_sr ?_|refine wp_sx ?_|refine wp_ret' ?_|refine wp_skip' ?_|refine wp_exit' ?_)
      exact ⟨rfl,bs,by simp [dfold]⟩
    | succ m ih =>
      intro i out bs hi ho hb
      have hi2:i < es.length:=by omega
      have w1:IntKind.i64.wrap ((i:Int)+1)=((i+1:Nat):Int):=wrapS (by omega)
      have hd:es.drop i=es[i]::es.drop (i+1):=List.drop_eq_getElem_cons hi2
      have hei:=he es[i] (List.getElem_mem hi2)
      obtain ⟨p,q,hpq,hp,hq⟩:∃ p q:Nat,es[i]=((p:Int),(q:Int))∧p < n∧q < n:=⟨es[i].1.toNat,es[i].2.toNat,by ext <;> simp <;> omega,by omega,by omega⟩
      rw [hd,hpq]
      have hpo:p < out.length:=by omega
      have hx:=hb out[p] (List.getElem_mem hpo)
      have w2:IntKind.i64.wrap (out[p]+1)=out[p]+1:=wrap64 (by omega) (by omega)
      have e1:=bump_eq hpo
      have b1:=bump_bound (i:=p) hb (by omega)
      have l1:=bump_len out p
      have hstep:dfold out (((p:Int),(q:Int))::es.drop (i+1))=dfold (bump (bump out p) q) (es.drop (i+1)):=rfl
      rw [hstep]
      refine wp_loop ?_
      repeat (first|apply wp_as|apply wp_ss|refine wr (by simp [hi2,hpq];with_reducible rfl) ?_|refine wq (by simp [hi2,hpq];with_reducible rfl) ?_|refine wt (by simpa [hi2,hpq]) ?_|refine wf (by simpa [hi2,hpq]) ?_|refine xt (by simpa [hi2,hpq]) ?_|refine xf (by simpa [hi2,hpq]) ?_|apply wp_bs|apply wp_b|refine wp_sr ?_|refine wp_sx ?_|refine wp_ret' ?_|refine wp_skip' ?_|refine wp_exit' ?_)
      refine wr (by simp [hi2,hpq,hpo,w2,← e1];with_reducible rfl) ?_
      generalize bump out p=out1 at *
      have hqo:q < out1.length:=by omega
      have hx2:=b1 out1[q] (List.getElem_mem hqo)
      have w3:IntKind.i64.wrap (out1[q]+1)=out1[q]+1:=wrap64 (by omega) (by omega)
      have e2:=bump_eq hqo
      have b2:=bump_bound (i:=q) b1 (by omega)
      have l2:=bump_len out1 q
      refine wq (by simp [hi2,hpq,hqo,w3,← e2];with_reducible rfl) ?_
      repeat (first|apply wp_as|apply wp_ss|refine wr (by simp [w1];with_reducible rfl) ?_|refine wq (by simp [w1];with_reducible rfl) ?_|refine wt (by simpa [w1]) ?_|refine wf (by simpa [w1]) ?_|refine xt (by simpa [w1]) ?_|refine xf (by simpa [w1]) ?_|apply wp_bs|apply wp_b|refine wp_sr ?_|refine wp_sx ?_|refine wp_ret' ?_|refine wp_skip' ?_|refine wp_exit' ?_)
      exact ih (i+1) (bump out1 q) _ (by omega) (by omega) (fun x hx=>by have:=b2 x hx;omega)
  refine call_of_wp zt9 rfl ?_
  repeat (first|apply wp_as|apply wp_ss|refine wr (by simp [show n≤274877906944 by omega];with_reducible rfl) ?_|refine wq (by simp [show n≤274877906944 by omega];with_reducible rfl) ?_|refine wt (by simpa [show n≤274877906944 by omega]) ?_|refine wf (by simpa [show n≤274877906944 by omega]) ?_|refine xt (by simpa [show n≤274877906944 by omega]) ?_|refine xf (by simpa [show n≤274877906944 by omega]) ?_|apply wp_bs|apply wp_b|refine wp_sr ?_|refine wp_sx ?_|refine wp_ret' ?_|refine wp_skip' ?_|refine wp_exit' ?_)
  have:=loop es.length 0 (List.replicate n 0) [] (by simp) (by simp) (by intro x hx;have:=List.eq_of_mem_replicate hx;subst this;simp)
  simp at this
  refine wp_imp this ?_
  rintro ex st ⟨rfl,bs,rfl⟩
  try simp only [if_true]
  repeat (first|apply wp_as|apply wp_ss|refine wr (by simp;with_reducible rfl) ?_|refine wq (by simp;with_reducible rfl) ?_|refine wt (by simpa) ?_|refine wf (by simpa) ?_|refine xt (by simpa) ?_|refine xf (by simpa) ?_|apply wp_bs|apply wp_b|refine wp_sr ?_|refine wp_sx ?_|refine wp_ret' ?_|refine wp_skip' ?_|refine wp_exit' ?_)
  simp [zi9,degs]
theorem vEs_in (n:Int):∀ (p:Option (Int×Int)) (es:List (Int×Int)),vEs n p es=true→∀ e ∈ es,okE n e=true
  | _,[],_=>by simp
  | none,e::r,h=>by
    simp only [vEs,Bool.and_eq_true] at h
    intro x hx
    rcases List.mem_cons.1 hx with rfl | hx
    · exact h.1
    · exact vEs_in n _ r h.2 x hx
  | some q,e::r,h=>by
    simp only [vEs,Bool.and_eq_true] at h
    intro x hx
    rcases List.mem_cons.1 hx with rfl | hx
    · exact h.1
    · exact vEs_in n _ r h.2.2 x hx
theorem vG_edges {n:Int} {es:List (Int×Int)} (h:vGraph n es=true):∀ e ∈ es,0≤e.1∧e.1 < e.2∧e.2 < n:=by
  simp only [vGraph,Bool.and_eq_true] at h
  intro e he
  have:=vEs_in n none es h.1 e he
  simpa [okE] using this
theorem vG_n {n:Int} {es:List (Int×Int)} (h:vGraph n es=true):0≤n∧n≤7:=by
  simp only [vGraph,Bool.and_eq_true,decide_eq_true_eq] at h;omega
end Go.Idl
namespace Go.Idl
def S {α:Type} (l:List α) (f:α→Int):Int:=(l.map f).sum
@[simp] theorem S_nil {α:Type} (f:α→Int):S [] f=0:=rfl
@[simp] theorem S_cons {α:Type} (a:α) (l:List α) (f:α→Int):S (a::l) f=f a+S l f:=by simp [S]
theorem S_zero {α:Type} (l:List α):S l (fun _=>0)=0:=by
  induction l with
  | nil=>rfl
  | cons a l ih=>simp [ih]
theorem S_le {α:Type} {l:List α} {f g:α→Int} (h:∀ a ∈ l,f a≤g a):S l f≤S l g:=by
  induction l with
  | nil=>simp
  | cons a l ih =>
    have h1:=h a (by simp)
    have h2:=ih fun b hb=>h b (by simp [hb])
    simp only [S_cons];omega
theorem S_sublist {α:Type} {l k:List α} (h:l.Sublist k) {f:α→Int} (h0:∀ a ∈ k,0≤f a):S l f≤S k f:=by
  induction h with
  | slnil=>simp
  | cons a _ ih =>
    have h1:=h0 a (by simp)
    have h2:=ih fun b hb=>h0 b (by simp [hb])
    rw [S_cons];omega
  | cons_cons a _ ih =>
    have h2:=ih fun b hb=>h0 b (by simp [hb])
    rw [S_cons,S_cons];omega
theorem S_nonneg {α:Type} {l:List α} {f:α→Int} (h:∀ a ∈ l,0≤f a):0≤S l f:=by
  have:=S_le (l:=l) (f:=fun _=>0) h
  rwa [S_zero] at this
theorem below_iff (a b:Int×Int):below a b=true ↔ a.1 < b.1 ∨ (a.1=b.1∧a.2 < b.2):=by simp [below]
theorem below_trans {a b c:Int×Int} (h:below a b=true) (k:below b c=true):below a c=true:=by
  rw [below_iff] at *;omega
theorem below_ne {a b:Int×Int} (h:below a b=true):a ≠ b:=by
  rintro rfl;rw [below_iff] at h;omega
abbrev PW (es:List (Int×Int)):Prop:=es.Pairwise fun a b=>below a b=true
theorem vEs_pw (n:Int):∀ (p:Option (Int×Int)) (es:List (Int×Int)),vEs n p es=true→PW es∧(∀ q,p=some q→∀ e ∈ es,below q e=true)
  | p,[],_=>⟨.nil,by simp⟩
  | none,e::r,h=>by
    simp only [vEs,Bool.and_eq_true] at h
    obtain ⟨h1,h2⟩:=vEs_pw n (some e) r h.2
    exact ⟨List.pairwise_cons.2 ⟨h2 e rfl,h1⟩,by simp⟩
  | some q,e::r,h=>by
    simp only [vEs,Bool.and_eq_true] at h
    obtain ⟨h1,h2⟩:=vEs_pw n (some e) r h.2.2
    refine ⟨List.pairwise_cons.2 ⟨h2 e rfl,h1⟩,fun q' hq' x hx=>?_⟩
    cases hq'
    rcases List.mem_cons.1 hx with rfl | hx
    · exact h.2.1
    · exact below_trans h.2.1 (h2 e rfl x hx)
theorem pw_vEs (n:Int):∀ (p:Option (Int×Int)) (es:List (Int×Int)),PW es→(∀ q,p=some q→∀ e ∈ es,below q e=true)→(∀ e ∈ es,okE n e=true)→vEs n p es=true
  | p,[],_,_,_=>by cases p <;> rfl
  | none,e::r,h,_,ho=>by
    have h':=List.pairwise_cons.1 h
    simp only [vEs,Bool.and_eq_true]
    exact ⟨ho e (by simp),pw_vEs n (some e) r h'.2 (fun q hq x hx=>by cases hq;exact h'.1 x hx) fun x hx=>ho x (by simp [hx])⟩
  | some q,e::r,h,hq,ho=>by
    have h':=List.pairwise_cons.1 h
    simp only [vEs,Bool.and_eq_true]
    exact ⟨ho e (by simp),hq q rfl e (by simp),pw_vEs n (some e) r h'.2 (fun q hq x hx=>by cases hq;exact h'.1 x hx) fun x hx=>ho x (by simp [hx])⟩
theorem row_mem_iff (a:Nat):∀ (m b:Nat) (e:Int×Int),e ∈ row a b m ↔ e.1=a∧(b:Int)≤e.2∧e.2 < b+m
  | 0,b,e=>by simp [row] <;> omega
  | m+1,b,e=>by
    rw [row,List.mem_cons,row_mem_iff a m (b+1) e]
    constructor
    · rintro (rfl | h)
      · simp;omega
      · omega
    · intro h
      by_cases h2:e.2=b
      · exact .inl (Prod.ext h.1 h2)
      · exact .inr (by omega)
theorem prsF_mem_iff:∀ (m a:Nat) (e:Int×Int),e ∈ prsF a m ↔ (a:Int)≤e.1∧e.1 < e.2∧e.2 < a+m
  | 0,a,e=>by simp [prsF];omega
  | m+1,a,e=>by
    rw [prsF,List.mem_append,row_mem_iff,prsF_mem_iff m (a+1) e]
    omega
theorem mem_prs {n:Nat} {e:Int×Int}:e ∈ prs n ↔ 0≤e.1∧e.1 < e.2∧e.2 < n:=by
  rw [prs,prsF_mem_iff];omega
theorem row_pw (a:Nat):∀ (m b:Nat),PW (row a b m)
  | 0,b=>.nil
  | m+1,b=>by
    rw [row]
    refine List.pairwise_cons.2 ⟨fun e he=>?_,row_pw a m (b+1)⟩
    rw [row_mem_iff] at he
    rw [below_iff];simp only;omega
theorem prsF_pw:∀ (m a:Nat),PW (prsF a m)
  | 0,a=>.nil
  | m+1,a=>by
    rw [prsF]
    refine List.pairwise_append.2 ⟨row_pw a m (a+1),prsF_pw m (a+1),fun x hx y hy=>?_⟩
    rw [row_mem_iff] at hx
    rw [prsF_mem_iff] at hy
    rw [below_iff];omega
theorem prs_pw (n:Nat):PW (prs n):=prsF_pw n 0
theorem pw_nodup {es:List (Int×Int)} (h:PW es):es.Nodup:=h.imp fun h=>below_ne h
theorem pw_ext {xs ys:List (Int×Int)} (hx:PW xs) (hy:PW ys) (h:∀ e,e ∈ xs ↔ e ∈ ys):xs=ys:=by
  refine List.Perm.eq_of_pairwise (le:=fun a b=>below a b=true) (fun a b _ _ h1 h2=>absurd (below_trans h1 h2) (fun h=>below_ne h rfl)) hx hy ?_
  exact (List.perm_ext_iff_of_nodup (pw_nodup hx) (pw_nodup hy)).2 h
theorem vG_iff {n:Nat} {es:List (Int×Int)}:vGraph n es=true ↔ PW es∧(∀ e ∈ es,e ∈ prs n)∧n≤7:=by
  constructor
  · intro h
    have h1:=vG_n h
    have h2:=vG_edges h
    simp only [vGraph,Bool.and_eq_true] at h
    exact ⟨(vEs_pw n none es h.1).1,fun e he=>mem_prs.2 (h2 e he),by omega⟩
  · rintro ⟨h1,h2,h3⟩
    simp only [vGraph,Bool.and_eq_true,decide_eq_true_eq]
    refine ⟨pw_vEs n none es h1 (by simp) fun e he=>?_,by omega,by omega⟩
    have:=mem_prs.1 (h2 e he)
    simp only [okE,Bool.and_eq_true,decide_eq_true_eq];omega
theorem vG_filter {n:Nat} {es:List (Int×Int)} (h:vGraph n es=true):es=(prs n).filter fun e=>decide (e ∈ es):=by
  obtain ⟨h1,h2,h3⟩:=vG_iff.1 h
  refine pw_ext h1 ((prs_pw n).filter _) fun e=>?_
  rw [List.mem_filter,decide_eq_true_eq]
  exact ⟨fun he=>⟨h2 e he,he⟩,fun he=>he.2⟩
theorem vG_sub {n:Nat} {es:List (Int×Int)} (h:vGraph n es=true):es.Sublist (prs n):=by
  rw [vG_filter h];exact List.filter_sublist
def inc (v:Nat) (e:Int×Int):Int:=(if e.1=v then 1 else 0)+(if e.2=v then 1 else 0)
def deg (es:List (Int×Int)) (v:Nat):Int:=S es (inc v)
theorem bump_get {o:List Int} {i v:Nat} (hv:v < o.length):(bump o i).getD v 0=o.getD v 0+(if i=v then 1 else 0):=by
  rw [bump,List.getD_eq_getElem?_getD,List.getElem?_set]
  by_cases h:i=v
  · subst h;simp [hv,List.getD_eq_getElem?_getD]
  · simp [h,List.getD_eq_getElem?_getD]
theorem dfold_get {n:Nat}:∀ (es:List (Int×Int)) (o:List Int),(∀ e ∈ es,0≤e.1∧0≤e.2)→∀ v,v < o.length→(dfold o es).getD v 0=o.getD v 0+deg es v
  | [],o,_,v,_=>by simp [dfold,deg]
  | e::es,o,h,v,hv=>by
    have h1:=h e (by simp)
    have:=dfold_get (n:=n) es (bump (bump o e.1.toNat) e.2.toNat) (fun x hx=>h x (by simp [hx])) v (by simp [bump_len];exact hv)
    rw [show dfold o (e::es)=dfold (bump (bump o e.1.toNat) e.2.toNat) es from rfl,this,bump_get (by rw [bump_len];exact hv),bump_get hv,deg,deg,S_cons]
    have c1:(e.1.toNat=v)=(e.1=(v:Int)):=by rw [eq_iff_iff];omega
    have c2:(e.2.toNat=v)=(e.2=(v:Int)):=by rw [eq_iff_iff];omega
    simp only [inc,c1,c2]
    omega
theorem degs_eq {n:Nat} {es:List (Int×Int)} (h:EdgesIn n es):degs n es=(List.range n).map (deg es):=by
  have hl:(degs n es).length=n:=by rw [degs,dfold_len];simp
  refine List.ext_getElem (by simp [hl]) fun v h1 h2=>?_
  have:=dfold_get (n:=n) es (List.replicate n 0) (fun e he=>by have:=h e he;omega) v (by simp;omega)
  rw [← degs,List.getD_eq_getElem?_getD,List.getElem?_eq_getElem h1] at this
  simp only [Option.getD_some] at this
  rw [this]
  simp [List.getD_eq_getElem?_getD]
  rw [List.getElem?_eq_getElem (by simp;omega)];simp
theorem deg_prs_all:(List.range 8).all (fun n=>(List.range n).all fun v=>decide (deg (prs n) v=(n:Int) - 1))=true:=by decide +kernel
theorem deg_prs {n v:Nat} (hn:n≤7) (hv:v < n):deg (prs n) v=(n:Int) - 1:=by
  have:=List.all_eq_true.1 (List.all_eq_true.1 deg_prs_all n (List.mem_range.2 (by omega))) v (List.mem_range.2 hv)
  exact of_decide_eq_true this
theorem degs_valid {n:Nat} {es:List (Int×Int)} (h:vGraph n es=true):valid (degs n es)=true:=by
  obtain ⟨h1,h2,hn⟩:=vG_iff.1 h
  have hE:EdgesIn n es:=fun e he=>by have:=mem_prs.1 (h2 e he);omega
  rw [degs_eq hE]
  simp only [valid,Bool.and_eq_true,decide_eq_true_eq,List.all_eq_true,List.length_map,List.length_range]
  refine ⟨hn,fun x hx=>?_⟩
  obtain ⟨v,hv,rfl⟩:=List.mem_map.1 hx
  have hv:=List.mem_range.1 hv
  have hi:∀ e:Int×Int,0≤inc v e:=fun e=>by simp only [inc];split <;> split <;> decide
  have h3:deg es v≤deg (prs n) v:=S_sublist (vG_sub h) fun e _=>hi e
  have h4:0≤deg es v:=S_nonneg fun e _=>hi e
  have:=deg_prs hn hv
  omega
end Go.Idl
namespace Go.Idl
open Go
def decAt (o:List Int) (i:Nat):List Int:=o.set i (o.getD i 0 - 1)
def subs:List (Int×Int)→List Int→List (Int×Int)→List (List (Int×Int))
  | [],left,chosen=>if left.all (fun x=>decide (x=0)) then [chosen] else []
  | e::r,left,chosen =>
    (if 0 < left.getD e.1.toNat 0∧0 < left.getD e.2.toNat 0 then subs r (decAt (decAt left e.1.toNat) e.2.toNat) (chosen++[e]) else [])++subs r left chosen
end Go.Idl
namespace Go.Idl
open Go
theorem ev_stable (F:Lab) (caps:List IV) (lt:Int→Int→Bool) (D:Int→Prop) (M:List Boxes) (hc:CmpOK vI F caps lt D (M++[[]])) (xs:List Int) (hl:xs.length≤19) (hD:∀ x ∈ xs,D x) :
    Ev tb zl289 [0] [O xs,I xs.length,.fn F caps] M ⟨.tup [],[O (srtC lt [] xs)],M,[]⟩:=by
  have e1:=ev_lim (ev_insCi F caps lt D (M++[[]]) hc [] [] xs (by simp;omega) hD)
  simp only [List.nil_append,List.append_nil,List.length_nil,Nat.zero_add] at e1
  rw [show ((0:Nat):Int)=0 from rfl] at e1
  have h1:¬ (20:Int)≤xs.length:=by omega
  have h2:¬ (20:Int) < xs.length:=by omega
  have h3:¬ 20≤xs.length:=by omega
  have h4:¬ 20 < xs.length:=by omega
  refine call_of_wp zt289 rfl ?_
  repeat (first|apply wp_as|apply wp_ss|refine wr (by simp;with_reducible rfl) ?_|refine wq (by simp;with_reducible rfl) ?_|refine wt (by simpa) ?_|refine wf (by simpa) ?_|refine xt (by simpa) ?_|refine xf (by simpa) ?_|apply wp_bs|apply wp_b|refine wp_sr ?_|refine wp_sx ?_|refine wp_ret' ?_|refine wp_skip' ?_|refine wp_exit' ?_)
  refine wp_loop ?_
  repeat (first|apply wp_as|apply wp_ss|refine wr (by simp [h1,h2,h3,h4,e1];with_reducible rfl) ?_|refine wq (by simp [h1,h2,h3,h4,e1];with_reducible rfl) ?_|refine wt (by simpa [h1,h2,h3,h4,e1]) ?_|refine wf (by simpa [h1,h2,h3,h4,e1]) ?_|refine xt (by simpa [h1,h2,h3,h4,e1]) ?_|refine xf (by simpa [h1,h2,h3,h4,e1]) ?_|apply wp_bs|apply wp_b|refine wp_sr ?_|refine wp_sx ?_|refine wp_ret' ?_|refine wp_skip' ?_|refine wp_exit' ?_)
  refine wp_loop ?_
  repeat (first|apply wp_as|apply wp_ss|refine wr (by simp [h1,h2,h3,h4,e1];with_reducible rfl) ?_|refine wq (by simp [h1,h2,h3,h4,e1];with_reducible rfl) ?_|refine wt (by simpa [h1,h2,h3,h4,e1]) ?_|refine wf (by simpa [h1,h2,h3,h4,e1]) ?_|refine xt (by simpa [h1,h2,h3,h4,e1]) ?_|refine xf (by simpa [h1,h2,h3,h4,e1]) ?_|apply wp_bs|apply wp_b|refine wp_sr ?_|refine wp_sx ?_|refine wp_ret' ?_|refine wp_skip' ?_|refine wp_exit' ?_)
  simp [zi289]
theorem ev_SortStable (F:Lab) (caps:List IV) (lt:Int→Int→Bool) (D:Int→Prop) (M:List Boxes) (hc:CmpOK vI F caps lt D (M++[[],[]])) (xs:List Int) (hl:xs.length≤19) (hD:∀ x ∈ xs,D x) :
    Ev tb zl273 [0] [O xs,.fn F caps] M ⟨.tup [],[O (srtC lt [] xs)],M,[]⟩:=by
  have e1:=ev_lim (ev_stable F caps lt D (M++[[]]) (by rw [List.append_assoc];exact hc) xs hl hD)
  refine call_of_wp zt273 rfl ?_
  repeat (first|apply wp_as|apply wp_ss|refine wr (by simp [e1];with_reducible rfl) ?_|refine wq (by simp [e1];with_reducible rfl) ?_|refine wt (by simpa [e1]) ?_|refine wf (by simpa [e1]) ?_|refine xt (by simpa [e1]) ?_|refine xf (by simpa [e1]) ?_|apply wp_bs|apply wp_b|refine wp_sr ?_|refine wp_sx ?_|refine wp_ret' ?_|refine wp_skip' ?_|refine wp_exit' ?_)
  simp [zi273]
def idxB (n:Nat) (but:Int):List Int:=((List.range n).map fun v:Nat=>(v:Int)).filter fun v=>decide (v ≠ but)
def nlI:List Int→IV
  | []=>Z
  | x::r=>O (x::r)
theorem ev_indices (n:Nat) (but:Int) (hn:n≤1000):Ev tb zl212 [] [I n,I but] [] ⟨nlI (idxB n but),[],[],[]⟩:=by
  have loop:∀ (m i:Nat),i+m=n→wp tb (.loop z212l8) { T:=[(1,I but),(5,nlI (idxB i but)),(7,I n),(8,I i)],loc:=[],M:=[] }
      (fun ex st=>ex=.exit 0∧st={ T:=[(1,I but),(5,nlI (idxB n but)),(7,I n),(8,I n),(9,Bo false)],loc:=[],M:=[] }):=by
    intro m
    induction m with
    | zero =>
      intro i hi
      have h3:i=n:=hi
      subst h3
      cases idxB i but with
      | nil =>
        simp only [nlI]
        refine wp_loop ?_
        repeat (first|apply wp_as|apply wp_ss|refine wr (by simp;with_reducible rfl) ?_|refine wq (by simp;with_reducible rfl) ?_|refine wt (by simpa) ?_|refine wf (by simpa) ?_|refine xt (by simpa) ?_|refine xf (by simpa) ?_|apply wp_bs|apply wp_b|refine wp_sr ?_|refine wp_sx ?_|refine wp_ret' ?_|refine wp_skip' ?_|refine wp_exit' ?_)
        exact ⟨rfl,rfl⟩
      | cons x r =>
        simp only [nlI]
        refine wp_loop ?_
        repeat (first|apply wp_as|apply wp_ss|refine wr (by simp;with_reducible rfl) ?_|refine wq (by simp;with_reducible rfl) ?_|refine wt (by simpa) ?_|refine wf (by simpa) ?_|refine xt (by simpa) ?_|refine xf (by simpa) ?_|apply wp_bs|apply wp_b|refine wp_sr ?_|refine wp_sx ?_|refine wp_ret' ?_|refine wp_skip' ?_|refine wp_exit' ?_)
        exact ⟨rfl,rfl⟩
    | succ m ih =>
      intro i hi
      have hi2:i < n:=by omega
      have w2:IntKind.i64.wrap ((i:Int)+1)=((i+1:Nat):Int):=wrapS (by omega)
      have hn2:=ih (i+1) (by omega)
      have hs:idxB (i+1) but=idxB i but++if (i:Int)=but then [] else [(i:Int)]:=by
        simp only [idxB,List.range_succ,List.map_append,List.map_cons,List.map_nil,List.filter_append,List.filter_cons,List.filter_nil]
        congr 1
        by_cases h:(i:Int)=but <;> simp [h]
      rw [hs] at hn2
      have hal:(idxB i but).length≤i:=Nat.le_trans (List.length_filter_le _ _) (by simp)
      generalize idxB i but=A at *
      by_cases hb:but=(i:Int)
      · subst hb
        rw [if_pos rfl,List.append_nil] at hn2
        cases A with
        | nil =>
          rw [show nlI []=Z from rfl] at hn2 ⊢
          refine wp_loop ?_
          repeat (first|apply wp_as|apply wp_ss|refine wr (by simp [hi2,w2];with_reducible rfl) ?_|refine wq (by simp [hi2,w2];with_reducible rfl) ?_|refine wt (by simpa [hi2,w2]) ?_|refine wf (by simpa [hi2,w2]) ?_|refine xt (by simpa [hi2,w2]) ?_|refine xf (by simpa [hi2,w2]) ?_|apply wp_bs|apply wp_b|refine wp_sr ?_|refine wp_sx ?_|refine wp_ret' ?_|refine wp_skip' ?_|refine wp_exit' ?_)
          exact hn2
        | cons x r =>
          rw [show nlI (x::r)=O (x::r) from rfl] at hn2 ⊢
          refine wp_loop ?_
          repeat (first|apply wp_as|apply wp_ss|refine wr (by simp [hi2,w2];with_reducible rfl) ?_|refine wq (by simp [hi2,w2];with_reducible rfl) ?_|refine wt (by simpa [hi2,w2]) ?_|refine wf (by simpa [hi2,w2]) ?_|refine xt (by simpa [hi2,w2]) ?_|refine xf (by simpa [hi2,w2]) ?_|apply wp_bs|apply wp_b|refine wp_sr ?_|refine wp_sx ?_|refine wp_ret' ?_|refine wp_skip' ?_|refine wp_exit' ?_)
          exact hn2
      · have hb':¬ (i:Int)=but:=fun h=>hb h.symm
        rw [if_neg hb'] at hn2
        cases A with
        | nil =>
          rw [List.nil_append,show nlI [(i:Int)]=O [(i:Int)] from rfl] at hn2
          rw [show nlI []=Z from rfl]
          refine wp_loop ?_
          repeat (first|apply wp_as|apply wp_ss|refine wr (by simp [hi2,w2,hb'];with_reducible rfl) ?_|refine wq (by simp [hi2,w2,hb'];with_reducible rfl) ?_|refine wt (by simpa [hi2,w2,hb']) ?_|refine wf (by simpa [hi2,w2,hb']) ?_|refine xt (by simpa [hi2,w2,hb']) ?_|refine xf (by simpa [hi2,w2,hb']) ?_|apply wp_bs|apply wp_b|refine wp_sr ?_|refine wp_sx ?_|refine wp_ret' ?_|refine wp_skip' ?_|refine wp_exit' ?_)
          exact hn2
        | cons x r =>
          rw [show nlI (x::r++[(i:Int)])=O (x::r++[(i:Int)]) from rfl] at hn2
          rw [show nlI (x::r)=O (x::r) from rfl]
          have hal1:r.length+1+1≤274877906944:=by simp at hal;omega
          have hat:(x::r).take (r.length+1)=x::r:=List.take_of_length_le (by simp)
          refine wp_loop ?_
          repeat (first|apply wp_as|apply wp_ss|refine wr (by simp [hi2,w2,hb',hal1,hat];with_reducible rfl) ?_|refine wq (by simp [hi2,w2,hb',hal1,hat];with_reducible rfl) ?_|refine wt (by simpa [hi2,w2,hb',hal1,hat]) ?_|refine wf (by simpa [hi2,w2,hb',hal1,hat]) ?_|refine xt (by simpa [hi2,w2,hb',hal1,hat]) ?_|refine xf (by simpa [hi2,w2,hb',hal1,hat]) ?_|apply wp_bs|apply wp_b|refine wp_sr ?_|refine wp_sx ?_|refine wp_ret' ?_|refine wp_skip' ?_|refine wp_exit' ?_)
          exact hn2
  refine call_of_wp zt212 rfl ?_
  repeat (first|apply wp_as|apply wp_ss|refine wr (by simp;with_reducible rfl) ?_|refine wq (by simp;with_reducible rfl) ?_|refine wt (by simpa) ?_|refine wf (by simpa) ?_|refine xt (by simpa) ?_|refine xf (by simpa) ?_|apply wp_bs|apply wp_b|refine wp_sr ?_|refine wp_sx ?_|refine wp_ret' ?_|refine wp_skip' ?_|refine wp_exit' ?_)
  refine wp_imp (loop n 0 (by simp)) ?_
  rintro ex st ⟨rfl,rfl⟩
  try simp only [if_true]
  cases idxB n but with
  | nil =>
    simp only [nlI]
    repeat (first|apply wp_as|apply wp_ss|refine wr (by simp;with_reducible rfl) ?_|refine wq (by simp;with_reducible rfl) ?_|refine wt (by simpa) ?_|refine wf (by simpa) ?_|refine xt (by simpa) ?_|refine xf (by simpa) ?_|apply wp_bs|apply wp_b|refine wp_sr ?_|refine wp_sx ?_|refine wp_ret' ?_|refine wp_skip' ?_|refine wp_exit' ?_)
    simp [zi212]
  | cons x r =>
    simp only [nlI]
    repeat (first|apply wp_as|apply wp_ss|refine wr (by simp;with_reducible rfl) ?_|refine wq (by simp;with_reducible rfl) ?_|refine wt (by simpa) ?_|refine wf (by simpa) ?_|refine xt (by simpa) ?_|refine xf (by simpa) ?_|apply wp_bs|apply wp_b|refine wp_sr ?_|refine wp_sx ?_|refine wp_ret' ?_|refine wp_skip' ?_|refine wp_exit' ?_)
    simp [zi212]
end Go.Idl
namespace Go.Idl
open Go
theorem ev_CloneI_Z:Ev tb zl71 [] [Z] [] ⟨O [],[],[],[]⟩:=by
  refine call_of_wp zt71 rfl ?_
  refine wp_rs (by simp;rfl) (by simp;rfl) ?_
  refine wp_nil2 (b:=([]:List Int).isEmpty) (by simp [z71r1];rfl) (by simp) ?_ ?_ ?_ (ex:=.ret) (st':={ T:=[(2,.own 1 (ints []))],loc:=[],M:=[] })
  · refine wp_ct (t:=false) (by simp) (by simp) fun _=>wp_ss ?_
    refine wp_rs (by simp;rfl) (by simp;rfl) ?_
    refine wp_ret' ?_
    simp
  · intro he
    refine wp_ct (t:=true) (by simp) (fun _=>wp_as ?_) (by simp)
    refine wp_rs (by simp;rfl) (by simp;rfl) ?_
    refine wp_sr ?_
    simp
  · simp [zi71]
theorem ev_clone_Z:Ev tb zl31 [] [Z] [] ⟨O [],[],[],[]⟩:=by
  have e1:=ev_lim ev_CloneI_Z
  have e2:=ev_lim (ev_Clip [])
  simp only [O,ints_nil] at e1 e2 ⊢
  refine call_of_wp zt31 rfl ?_
  repeat (first|apply wp_as|apply wp_ss|refine wr (by simp [e1,e2];with_reducible rfl) ?_|refine wq (by simp [e1,e2];with_reducible rfl) ?_|refine wt (by simpa [e1,e2]) ?_|refine wf (by simpa [e1,e2]) ?_|refine xt (by simpa [e1,e2]) ?_|refine xf (by simpa [e1,e2]) ?_|apply wp_bs|apply wp_b|refine wp_sr ?_|refine wp_sx ?_|refine wp_ret' ?_|refine wp_skip' ?_|refine wp_exit' ?_)
  simp [zi31]
def gtD (d:List Int) (a b:Int):Bool:=decide (d.getD b.toNat 0 < d.getD a.toNat 0)
def topD (d:List Int) (from_:List Int) (k:Nat):List Int:=(srtC (gtD d) [] from_).take k
theorem ev_greatest_F1 (d:List Int) (c:Bool) (hd:∀ x ∈ d,-1000≤x∧x≤1000) (a b:Nat) (ha:a < d.length) (hb:b < d.length) (Es:List Boxes) :
    Ev tb zl211 [] [I a,I b,.bptr 0 0 0] ([[L d c]]::Es) ⟨I (d[b] - d[a]),[],[[L d c]]::Es,[]⟩:=by
  have h1:=hd _ (List.getElem_mem ha)
  have h2:=hd _ (List.getElem_mem hb)
  have w1:IntKind.i64.wrap (d[b] - d[a])=d[b] - d[a]:=wrap64 (by omega) (by omega)
  refine call_of_wp zt211 rfl ?_
  repeat (first|apply wp_as|apply wp_ss|refine wr (by simp [ha,hb,w1];with_reducible rfl) ?_|refine wq (by simp [ha,hb,w1];with_reducible rfl) ?_|refine wt (by simpa [ha,hb,w1]) ?_|refine wf (by simpa [ha,hb,w1]) ?_|refine xt (by simpa [ha,hb,w1]) ?_|refine xf (by simpa [ha,hb,w1]) ?_|apply wp_bs|apply wp_b|refine wp_sr ?_|refine wp_sx ?_|refine wp_ret' ?_|refine wp_skip' ?_|refine wp_exit' ?_)
  simp [zi211]
theorem cmp_greatest (d:List Int) (c:Bool) (hd:∀ x ∈ d,-1000≤x∧x≤1000):CmpOK vI zl211 [.bptr 0 0 0] (gtD d) (fun x=>0≤x∧x < d.length) [[[L d c]],[],[]]:=by
  intro x y hx hy
  obtain ⟨a,rfl⟩:=Int.eq_ofNat_of_zero_le hx.1
  obtain ⟨b,rfl⟩:=Int.eq_ofNat_of_zero_le hy.1
  have ha:a < d.length:=by omega
  have hb:b < d.length:=by omega
  refine ⟨d[b] - d[a],?_,ev_greatest_F1 d c hd a b ha hb [[],[],[]]⟩
  simp only [gtD,Int.toNat_natCast,List.getD_eq_getElem?_getD,List.getElem?_eq_getElem ha,List.getElem?_eq_getElem hb,Option.getD_some]
  rw [decide_eq_decide];omega
theorem topD_len (d from_:List Int) (k:Nat):(srtC (gtD d) [] from_).length=from_.length:=by
  simpa using (srtC_perm (gtD d) from_ []).length_eq
theorem ev_greatest (d:List Int) (c:Bool) (hd:∀ x ∈ d,-1000≤x∧x≤1000) (x:IV) (from_:List Int) (hx:(∃ c',x=L from_ c') ∨ (from_=[]∧x=Z)) (hf:from_.length≤19) (hD:∀ v ∈ from_,0≤v∧v < d.length) (k:Nat) (hk:k≤from_.length) :
    Ev tb zl210 [] [L d c,x,I k] [] ⟨O (topD d from_ k),[],[],[]⟩:=by
  have e1:limF tb zl31 [] [x] []=some ⟨O from_,[],[],[]⟩:=by
    rcases hx with ⟨c',rfl⟩ | ⟨rfl,rfl⟩
    · exact ev_lim (ev_clone from_ c' (by omega))
    · exact ev_lim ev_clone_Z
  have e2:=ev_lim (ev_SortStable zl211 [.bptr 0 0 0] (gtD d) (fun x=>0≤x∧x < d.length) [[[L d c]]] (cmp_greatest d c hd) from_ hf hD)
  have hl:=topD_len d from_ k
  unfold topD
  generalize srtC (gtD d) [] from_=s at *
  have hks:k≤s.length:=by omega
  rcases hx with ⟨c',rfl⟩ | ⟨rfl,rfl⟩
  · refine call_of_wp zt210 rfl ?_
    repeat (first|apply wp_as|apply wp_ss|refine wr (by simp [e1,e2,hks];with_reducible rfl) ?_|refine wq (by simp [e1,e2,hks];with_reducible rfl) ?_|refine wt (by simpa [e1,e2,hks]) ?_|refine wf (by simpa [e1,e2,hks]) ?_|refine xt (by simpa [e1,e2,hks]) ?_|refine xf (by simpa [e1,e2,hks]) ?_|apply wp_bs|apply wp_b|refine wp_sr ?_|refine wp_sx ?_|refine wp_ret' ?_|refine wp_skip' ?_|refine wp_exit' ?_)
    simp [zi210]
  · have hs:s=[]:=List.length_eq_zero_iff.1 (by simpa using hl)
    subst hs
    have hk0:k=0:=by simpa using hk
    subst hk0
    simp only [O,ints_nil] at e1 e2
    refine call_of_wp zt210 rfl ?_
    repeat (first|apply wp_as|apply wp_ss|refine wr (by simp [e1,e2];with_reducible rfl) ?_|refine wq (by simp [e1,e2];with_reducible rfl) ?_|refine wt (by simpa [e1,e2]) ?_|refine wf (by simpa [e1,e2]) ?_|refine xt (by simpa [e1,e2]) ?_|refine xf (by simpa [e1,e2]) ?_|apply wp_bs|apply wp_b|refine wp_sr ?_|refine wp_sx ?_|refine wp_ret' ?_|refine wp_skip' ?_|refine wp_exit' ?_)
    simp [zi210]
end Go.Idl
namespace Go.Idl
open Go
theorem idxB_all (n:Nat):idxB n (-1)=(List.range n).map fun v:Nat=>(v:Int):=by
  rw [idxB]
  refine List.filter_eq_self.2 fun x hx=>?_
  obtain ⟨v,_,rfl⟩:=List.mem_map.1 hx
  simp
end Go.Idl
namespace Go.Idl
open Go
def apart (a b c d:Int):Bool:=decide (a ≠ b) && decide (a ≠ c) && decide (a ≠ d) && decide (b ≠ c) && decide (b ≠ d) && decide (c ≠ d)
def gone (a b c d:Int) (x:Int×Int):Bool:=decide (x=(min a b,max a b)) || decide (x=(min c d,max c d))
end Go.Idl
namespace Go.Idl
open Go
theorem hasM_iff {es:List (Int×Int)} {a b:Int}:hasM es a b=true ↔ (min a b,max a b) ∈ es:=by
  simp [hasM]
theorem vG21 {n:Nat} (hn:n≤7) {es:List (Int×Int)} (h:vGraph n es=true):es.length≤21:=by
  have h1:=(vG_sub h).length_le
  have h2:∀ n,n≤7→(prs n).length≤21:=by decide +kernel
  have:=h2 _ hn
  omega
end Go.Idl
namespace Go.Idl
open Go
structure SmallG (n:Int) (es:List (Int×Int)):Prop where
  n1:-1≤n
  n2:n≤8
  len:es.length≤60
  el:∀ e ∈ es,-1≤e.1∧e.1≤8∧-1≤e.2∧e.2≤8
theorem SmallG.fit {n es} (h:SmallG n es):Fit es:=fun e he=>by have:=h.el e he;omega
end Go.Idl
namespace Go.Idl
open Go
theorem degs_len (n:Nat) (es:List (Int×Int)):(degs n es).length=n:=by rw [degs,dfold_len];simp
end Go.Idl
namespace Go.Idl
open Go
abbrev Q4:=Int×Int×Int×Int
def sws (xs:List Q4):List (List IV):=xs.map fun s=>[I s.1,I s.2.1,I s.2.2.1,I s.2.2.2]
@[simp] theorem sws_len (xs:List Q4):(sws xs).length=xs.length:=by simp [sws]
@[simp] theorem sws_nil:sws []=[]:=rfl
@[simp] theorem sws_take (xs:List Q4) (n:Nat):(sws xs).take n=sws (xs.take n):=by simp [sws,List.map_take]
@[simp] theorem sws_drop (xs:List Q4) (n:Nat):(sws xs).drop n=sws (xs.drop n):=by simp [sws,List.map_drop]
@[simp] theorem sws_one (xs:List Q4) (a b c d:Int):sws xs++[[IV.sc (.int .i64 a),IV.sc (.int .i64 b),IV.sc (.int .i64 c),IV.sc (.int .i64 d)]]=sws (xs++[(a,b,c,d)]):=by simp [sws]
@[simp] theorem sws_get (xs:List Q4) (i:Nat) (h:i < (sws xs).length):(sws xs)[i]=[IV.sc (.int .i64 (xs[i]'(by simpa [sws] using h)).1),IV.sc (.int .i64 (xs[i]'(by simpa [sws] using h)).2.1),IV.sc (.int .i64 (xs[i]'(by simpa [sws] using h)).2.2.1),IV.sc (.int .i64 (xs[i]'(by simpa [sws] using h)).2.2.2)]:=by simp [sws]
@[simp] theorem sws_get? (xs:List Q4) (i:Nat):(sws xs)[i]? = xs[i]?.map fun s=>[IV.sc (.int .i64 s.1),IV.sc (.int .i64 s.2.1),IV.sc (.int .i64 s.2.2.1),IV.sc (.int .i64 s.2.2.2)]:=by simp [sws]
@[simp] theorem sws_all1 (xs:List Q4):((sws xs).all fun x=>x.all IV.plain1)=true:=by
  induction xs with
  | nil=>rfl
  | cons x xs ih=>simp only [sws,List.map_cons,List.all_cons] at *;rw [ih];rfl
@[simp] theorem sws_all2 (xs:List Q4):((sws xs).all fun x=>x.all IV.isData)=true:=by
  induction xs with
  | nil=>rfl
  | cons x xs ih=>simp only [sws,List.map_cons,List.all_cons] at *;rw [ih];rfl
@[simp] theorem sws_noLst (xs:List Q4):noLstLL (sws xs)=true:=by
  induction xs with
  | nil=>rfl
  | cons x xs ih=>simp only [sws,List.map_cons,noLstLL,noLstL,noLstV] at *;rw [ih];rfl
@[simp] theorem frz_sws (xs:List Q4):frzLL (sws xs)=sws xs:=by
  induction xs with
  | nil=>rfl
  | cons x xs ih=>simp only [sws,List.map_cons,frzLL,frzL,frzV] at *;rw [ih]
end Go.Idl
namespace Go.Idl
open Go
def tab (t:List (List Int)):List (List IV):=t.map fun r=>[.lst 1 (ints r) false]
def oab (t:List (List Int)):List (List IV):=t.map fun r=>[.own 1 (ints r)]
@[simp] theorem tab_len (t:List (List Int)):(tab t).length=t.length:=by simp [tab]
@[simp] theorem oab_len (t:List (List Int)):(oab t).length=t.length:=by simp [oab]
@[simp] theorem oab_nil:oab []=[]:=rfl
@[simp] theorem tab_get? (t:List (List Int)) (i:Nat):(tab t)[i]? = t[i]?.map fun r=>[IV.lst 1 (ints r) false]:=by simp [tab]
@[simp] theorem tab_get (t:List (List Int)) (i:Nat) (h:i < (tab t).length):(tab t)[i]=[IV.lst 1 (ints (t[i]'(by simpa [tab] using h))) false]:=by simp [tab]
@[simp] theorem oab_get? (t:List (List Int)) (i:Nat):(oab t)[i]? = t[i]?.map fun r=>[IV.own 1 (ints r)]:=by simp [oab]
@[simp] theorem oab_get (t:List (List Int)) (i:Nat) (h:i < (oab t).length):(oab t)[i]=[IV.own 1 (ints (t[i]'(by simpa [oab] using h)))]:=by simp [oab]
@[simp] theorem oab_one (t:List (List Int)) (r:List Int):oab t++[[IV.own 1 (ints r)]]=oab (t++[r]):=by simp [oab]
@[simp] theorem oab_set (t:List (List Int)) (i:Nat) (r:List Int):(oab t).set i [IV.own 1 (ints r)]=oab (t.set i r):=by simp [oab,List.map_set]
@[simp] theorem oab_take (t:List (List Int)) (n:Nat):(oab t).take n=oab (t.take n):=by simp [oab,List.map_take]
@[simp] theorem frz_oab (t:List (List Int)):frzLL (oab t)=tab t:=by
  induction t with
  | nil=>rfl
  | cons x xs ih =>
    simp only [oab,tab,List.map_cons,frzLL,frzL,frzV] at *
    rw [ih]
    have:frzLL (ints x)=ints x:=by
      clear ih
      induction x with
      | nil=>rfl
      | cons y ys ih=>simp only [ints,List.map_cons,frzLL,frzL,frzV] at *;rw [ih]
    rw [this]
@[simp] theorem tab_all1 (t:List (List Int)):((tab t).all fun x=>x.all IV.plain1)=true:=by
  induction t with
  | nil=>rfl
  | cons x xs ih=>simp only [tab,List.map_cons,List.all_cons] at *;rw [ih];rfl
@[simp] theorem oab_noLst (t:List (List Int)):noLstLL (oab t)=true:=by
  induction t with
  | nil=>rfl
  | cons x xs ih =>
    simp only [oab,List.map_cons,noLstLL,noLstL,noLstV] at *
    rw [ih,ints_noLst];rfl
def g2 (t:List (List Int)) (a b:Nat):Int:=(t.getD a []).getD b 0
end Go.Idl
namespace Go.Idl
open Go
theorem ev_Index (xs:List Int) (c:Bool) (y:Int) (hl:xs.length≤2000000) :
    Ev tb zl74 [] [L xs c,I y] [] ⟨I (idx (fun x=>decide (y=x)) 0 xs),[],[],[]⟩:=by
  have loop:∀ (m i:Nat),i+m=xs.length→wp tb (.loop z74l7) { T:=[(0,L xs c),(1,I y),(7,I xs.length),(8,I i)],loc:=[],M:=[] }
      (fun ex st=>(ex=.exit 0∧idx (fun x=>decide (y=x)) i (xs.drop i)=-1∧st={ T:=[(0,L xs c),(1,I y),(7,I xs.length),(8,I xs.length),(9,Bo false)],loc:=[],M:=[] }) ∨
        ex=.ret∧st={ T:=[(4,I (idx (fun x=>decide (y=x)) i (xs.drop i)))],loc:=[],M:=[] }):=by
    intro m
    induction m with
    | zero =>
      intro i hi
      obtain ⟨h1,h2⟩:=drop_end hi
      have h3:i=xs.length:=hi
      subst h3
      refine wp_loop ?_
      repeat (first|apply wp_as|apply wp_ss|refine wr (by simp;with_reducible rfl) ?_|refine wq (by simp;with_reducible rfl) ?_|refine wt (by simpa) ?_|refine wf (by simpa) ?_|refine xt (by simpa) ?_|refine xf (by simpa) ?_|apply wp_bs|apply wp_b|refine wp_sr ?_|refine wp_sx ?_|refine wp_ret' ?_|refine wp_skip' ?_|refine wp_exit' ?_)
      exact .inl ⟨rfl,by rw [h2];rfl,rfl⟩
    | succ m ih =>
      intro i hi
      obtain ⟨hi2,h2,h3⟩:=drop_get hi
      have w2:IntKind.i64.wrap ((i:Int)+1)=((i+1:Nat):Int):=wrapS (by omega)
      rw [h2]
      by_cases he:y=xs[i]
      · refine wp_loop ?_
        repeat (first|apply wp_as|apply wp_ss|refine wr (by simp [hi2,he];with_reducible rfl) ?_|refine wq (by simp [hi2,he];with_reducible rfl) ?_|refine wt (by simpa [hi2,he]) ?_|refine wf (by simpa [hi2,he]) ?_|refine xt (by simpa [hi2,he]) ?_|refine xf (by simpa [hi2,he]) ?_|apply wp_bs|apply wp_b|refine wp_sr ?_|refine wp_sx ?_|refine wp_ret' ?_|refine wp_skip' ?_|refine wp_exit' ?_)
        exact .inr ⟨rfl,by simp [idx,he]⟩
      · refine wp_loop ?_
        repeat (first|apply wp_as|apply wp_ss|refine wr (by simp [hi2,he,w2];with_reducible rfl) ?_|refine wq (by simp [hi2,he,w2];with_reducible rfl) ?_|refine wt (by simpa [hi2,he,w2]) ?_|refine wf (by simpa [hi2,he,w2]) ?_|refine xt (by simpa [hi2,he,w2]) ?_|refine xf (by simpa [hi2,he,w2]) ?_|apply wp_bs|apply wp_b|refine wp_sr ?_|refine wp_sx ?_|refine wp_ret' ?_|refine wp_skip' ?_|refine wp_exit' ?_)
        have:=ih (i+1) (by omega)
        simp only [idx,he,decide_false,Bool.false_eq_true,if_false] at this ⊢
        exact this
  refine call_of_wp zt74 rfl ?_
  repeat (first|apply wp_as|apply wp_ss|refine wr (by simp;with_reducible rfl) ?_|refine wq (by simp;with_reducible rfl) ?_|refine wt (by simpa) ?_|refine wf (by simpa) ?_|refine xt (by simpa) ?_|refine xf (by simpa) ?_|apply wp_bs|apply wp_b|refine wp_sr ?_|refine wp_sx ?_|refine wp_ret' ?_|refine wp_skip' ?_|refine wp_exit' ?_)
  refine wp_imp (loop xs.length 0 (by omega)) ?_
  rintro ex st (⟨rfl,h,rfl⟩ | ⟨rfl,rfl⟩)
  · simp only [if_true]
    simp only [List.drop_zero] at h
    repeat (first|apply wp_as|apply wp_ss|refine wr (by simp;with_reducible rfl) ?_|refine wq (by simp;with_reducible rfl) ?_|refine wt (by simpa) ?_|refine wf (by simpa) ?_|refine xt (by simpa) ?_|refine xf (by simpa) ?_|apply wp_bs|apply wp_b|refine wp_sr ?_|refine wp_sx ?_|refine wp_ret' ?_|refine wp_skip' ?_|refine wp_exit' ?_)
    simp [zi74]
    exact h.symm
  · simp [zi74]
def asc0 (s:List Int):List Int:=(fall s).reverse
def overT (s:List Int) (i:Nat):Int:=((asc0 s).take (i+1)).sum - ((i:Int)+1) * i / 2
def over (s:List Int):List Int:=mapR s.length (overT s)
end Go.Idl
namespace Go.Idl
open Go
theorem sum01 (r:List Int) (h:∀ x ∈ r,0≤x∧x≤1):0≤r.sum∧r.sum≤r.length:=by
  induction r with
  | nil=>simp
  | cons x xs ih =>
    have h1:=h x (by simp)
    have h2:=ih fun y hy=>h y (by simp [hy])
    simp only [List.sum_cons,List.length_cons];omega
end Go.Idl
namespace Go.Idl
open Go
theorem ev_hasInt (xs:List Int) (c:Bool) (y:Int) (hl:xs.length≤2000000) :
    Ev tb zl131 [] [L xs c,I y] [] ⟨Bo (decide (y ∈ xs)),[],[],[]⟩:=by
  have loop:∀ (m i:Nat),i+m=xs.length→wp tb (.loop z131l6) { T:=[(0,L xs c),(1,I y),(5,I i)],loc:=[],M:=[] }
      (fun ex st=>(ex=.exit 0∧y ∉ xs.drop i∧st={ T:=[(0,L xs c),(1,I y),(5,I xs.length),(9,Bo false)],loc:=[],M:=[] }) ∨
        ex=.ret∧y ∈ xs.drop i∧st={ T:=[(4,Bo true)],loc:=[],M:=[] }):=by
    intro m
    induction m with
    | zero =>
      intro i hi
      obtain ⟨h1,h2⟩:=drop_end hi
      have h3:i=xs.length:=hi
      subst h3
      refine wp_loop ?_
      repeat (first|apply wp_as|apply wp_ss|refine wr (by simp;with_reducible rfl) ?_|refine wq (by simp;with_reducible rfl) ?_|refine wt (by simpa) ?_|refine wf (by simpa) ?_|refine xt (by simpa) ?_|refine xf (by simpa) ?_|apply wp_bs|apply wp_b|refine wp_sr ?_|refine wp_sx ?_|refine wp_ret' ?_|refine wp_skip' ?_|refine wp_exit' ?_)
      exact .inl ⟨rfl,by rw [h2];simp,rfl⟩
    | succ m ih =>
      intro i hi
      obtain ⟨hi2,h2,h3⟩:=drop_get hi
      have w2:IntKind.i64.wrap ((i:Int)+1)=((i+1:Nat):Int):=wrapS (by omega)
      rw [h2]
      by_cases he:xs[i]=y
      · refine wp_loop ?_
        repeat (first|apply wp_as|apply wp_ss|refine wr (by simp [hi2,he];with_reducible rfl) ?_|refine wq (by simp [hi2,he];with_reducible rfl) ?_|refine wt (by simpa [hi2,he]) ?_|refine wf (by simpa [hi2,he]) ?_|refine xt (by simpa [hi2,he]) ?_|refine xf (by simpa [hi2,he]) ?_|apply wp_bs|apply wp_b|refine wp_sr ?_|refine wp_sx ?_|refine wp_ret' ?_|refine wp_skip' ?_|refine wp_exit' ?_)
        exact .inr ⟨rfl,by simp [he],rfl⟩
      · refine wp_loop ?_
        repeat (first|apply wp_as|apply wp_ss|refine wr (by simp [hi2,he,w2];with_reducible rfl) ?_|refine wq (by simp [hi2,he,w2];with_reducible rfl) ?_|refine wt (by simpa [hi2,he,w2]) ?_|refine wf (by simpa [hi2,he,w2]) ?_|refine xt (by simpa [hi2,he,w2]) ?_|refine xf (by simpa [hi2,he,w2]) ?_|apply wp_bs|apply wp_b|refine wp_sr ?_|refine wp_sx ?_|refine wp_ret' ?_|refine wp_skip' ?_|refine wp_exit' ?_)
        refine wp_imp (ih (i+1) (by omega)) ?_
        rintro ex st (⟨rfl,h,rfl⟩ | ⟨rfl,h,rfl⟩)
        · exact .inl ⟨rfl,by rw [List.mem_cons];rintro (h' | h');exact he h'.symm;exact h h',rfl⟩
        · exact .inr ⟨rfl,List.mem_cons_of_mem _ h,rfl⟩
  refine call_of_wp zt131 rfl ?_
  repeat (first|apply wp_as|apply wp_ss|refine wr (by simp;with_reducible rfl) ?_|refine wq (by simp;with_reducible rfl) ?_|refine wt (by simpa) ?_|refine wf (by simpa) ?_|refine xt (by simpa) ?_|refine xf (by simpa) ?_|apply wp_bs|apply wp_b|refine wp_sr ?_|refine wp_sx ?_|refine wp_ret' ?_|refine wp_skip' ?_|refine wp_exit' ?_)
  refine wp_imp (loop xs.length 0 (by omega)) ?_
  rintro ex st (⟨rfl,h,rfl⟩ | ⟨rfl,h,rfl⟩)
  · simp only [if_true]
    simp only [List.drop_zero] at h
    repeat (first|apply wp_as|apply wp_ss|refine wr (by simp;with_reducible rfl) ?_|refine wq (by simp;with_reducible rfl) ?_|refine wt (by simpa) ?_|refine wf (by simpa) ?_|refine xt (by simpa) ?_|refine xf (by simpa) ?_|apply wp_bs|apply wp_b|refine wp_sr ?_|refine wp_sx ?_|refine wp_ret' ?_|refine wp_skip' ?_|refine wp_exit' ?_)
    simp [zi131,h]
  · simp only [List.drop_zero] at h
    simp [zi131,h]
end Go.Idl
namespace Go.Idl
open Go
theorem filter_len {α} (p:α→Bool) (l:List α):(l.filter p).length+(l.filter fun a=>!p a).length=l.length:=by
  induction l with
  | nil=>rfl
  | cons a l ih=>simp only [List.filter_cons];cases p a <;> simp <;> omega
end Go.Idl
namespace Go.Idl
open Go Go.ChangeShapes Go.WideShapes Go.Deep
theorem tabS_eds (len:Nat) (f:Nat→Int):tabS 2 len f=eds ((List.range len).map fun i=>(f (i * 2),f (i * 2+1))):=by
  rw [tabS,eds,List.map_map]
  exact List.map_congr_left fun i _=>by simp [List.range_succ]
section
variable {H:Type} {enc:TypeId×Value→H} {P:Program} {w:World} {base:Nat} {spare:Nat→Bool} {held:Bool}
theorem graph_in {t0 t e:TypeId} {fs:Array Field} {n1 n2:Nat} {u0 u1:Value} {y0 y1:DataW H×List MemPlace} (hi:P.underlying t0=some (.int .i64)) (g0:DataW.trod enc P w base spare held n1 t0 [u0]=some y0)
    (ht:P.underlying t=some (.slice e)) (he:P.underlying e=some (.struct fs)) (hone:(oneCellFields P fs && (P.cellsOf e == 2))=true) (hsz:fs.size=2) (hk:intF P fs=true)
    (g1:DataW.trod enc P w base spare held n2 t [u1]=some y1):∃ (n:Int) (es:List (Int×Int)),Fit es∧es.length < 9223372036854775808∧ArgR w (Gr n es false) (.agg #[u0,u1]):=by
  simp only [Bool.and_eq_true,beq_iff_eq] at hone
  obtain ⟨z,hz,-,-⟩:=DataW.trod_int hi g0
  obtain ⟨a,len,cap,f,hcs,hl,hr,hd⟩:=open_rows ht he hone.1 (by rw [hone.2,hsz]) (by omega) hk g1
  simp only [List.cons.injEq,and_true] at hz hcs
  subst hz hcs
  rw [hsz,tabS_eds] at hd
  refine ⟨z,_,fun x hx=>?_,by simpa using hl,arg_pair rfl hd⟩
  obtain ⟨i,-,rfl⟩:=List.mem_map.1 hx
  exact ⟨(hr _).1,(hr _).2,(hr _).1,(hr _).2⟩
end
end Go.Idl
namespace Go.Idl
open Go
theorem eqI_loop (a:List Int) (c d:Bool) (hl:a.length≤2000000):∀ (m i:Nat),i+m=a.length →
    wp tb (.loop z233l8) { T:=[(0,L a c),(1,L a d),(5,I i)],loc:=[],M:=[] }
      (fun ex st=>ex=.exit 0∧st={ T:=[(0,L a c),(1,L a d),(5,I a.length),(14,Bo false)],loc:=[],M:=[] }):=by
  intro m
  induction m with
  | zero =>
    intro i hi
    have h3:i=a.length:=hi
    subst h3
    refine wp_loop ?_
    repeat (first|apply wp_as|apply wp_ss|refine wr (by simp;with_reducible rfl) ?_|refine wq (by simp;with_reducible rfl) ?_|refine wt (by simpa) ?_|refine wf (by simpa) ?_|refine xt (by simpa) ?_|refine xf (by simpa) ?_|apply wp_bs|apply wp_b|refine wp_sr ?_|refine wp_sx ?_|refine wp_ret' ?_|refine wp_skip' ?_|refine wp_exit' ?_)
    exact ⟨rfl,rfl⟩
  | succ m ih =>
    intro i hi
    have hi2:i < a.length:=by omega
    have w2:IntKind.i64.wrap ((i:Int)+1)=((i+1:Nat):Int):=wrapS (by omega)
    have hg:=ih (i+1) (by omega)
    refine wp_loop ?_
    repeat (first|apply wp_as|apply wp_ss|refine wr (by simp [hi2,w2];with_reducible rfl) ?_|refine wq (by simp [hi2,w2];with_reducible rfl) ?_|refine wt (by simpa [hi2,w2]) ?_|refine wf (by simpa [hi2,w2]) ?_|refine xt (by simpa [hi2,w2]) ?_|refine xf (by simpa [hi2,w2]) ?_|apply wp_bs|apply wp_b|refine wp_sr ?_|refine wp_sx ?_|refine wp_ret' ?_|refine wp_skip' ?_|refine wp_exit' ?_)
    exact hg
theorem ev_eqIntS (a:List Int) (c d:Bool) (hl:a.length≤2000000):Ev tb zl233 [] [L a c,L a d] [] ⟨Bo true,[],[],[]⟩:=by
  have hlo:=eqI_loop a c d hl a.length 0 (by omega)
  rw [show ((0:Nat):Int)=0 from rfl] at hlo
  refine call_of_wp zt233 rfl ?_
  repeat (first|apply wp_as|apply wp_ss|refine wr (by simp;with_reducible rfl) ?_|refine wq (by simp;with_reducible rfl) ?_|refine wt (by simpa) ?_|refine wf (by simpa) ?_|refine xt (by simpa) ?_|refine xf (by simpa) ?_|apply wp_bs|apply wp_b|refine wp_sr ?_|refine wp_sx ?_|refine wp_ret' ?_|refine wp_skip' ?_|refine wp_exit' ?_)
  refine wp_imp hlo ?_
  rintro ex st ⟨rfl,rfl⟩
  try simp only [if_true]
  repeat (first|apply wp_as|apply wp_ss|refine wr (by simp;with_reducible rfl) ?_|refine wq (by simp;with_reducible rfl) ?_|refine wt (by simpa) ?_|refine wf (by simpa) ?_|refine xt (by simpa) ?_|refine xf (by simpa) ?_|apply wp_bs|apply wp_b|refine wp_sr ?_|refine wp_sx ?_|refine wp_ret' ?_|refine wp_skip' ?_|refine wp_exit' ?_)
  simp [zi233]
def mrk (k:Int) (n:Nat):List Int:=(List.range n).map fun i:Nat=>k+(i:Int)
theorem mrk_len (k:Int) (n:Nat):(mrk k n).length=n:=by simp [mrk]
theorem mrk_get (k:Int) (n i:Nat) (h:i < (mrk k n).length):(mrk k n)[i]=k+(i:Int):=by simp [mrk]
theorem mkI_loop (k:Int) (n:Nat) (hn:n≤10000000) (hk:0≤k∧k≤100000000):∀ (m i:Nat) (A:List Int),i+m=n→A.length=n→A.take i=(mrk k n).take i →
    wp tb (.loop z243l6) { T:=[(0,O A),(1,I (k+i)),(5,I i)],loc:=[],M:=[] }
      (fun ex st=>ex=.exit 0∧st={ T:=[(0,O (mrk k n)),(1,I (k+n)),(5,I n),(9,Bo false)],loc:=[],M:=[] }):=by
  intro m
  induction m with
  | zero =>
    intro i A hi hA ht
    have h3:i=n:=hi
    subst h3
    rw [List.take_of_length_le (by omega),List.take_of_length_le (by rw [mrk_len];omega)] at ht
    subst ht
    have hq:¬ ((i:Int) < ((mrk k i).length:Int)):=by rw [mrk_len];omega
    refine wp_loop ?_
    repeat (first|apply wp_as|apply wp_ss|refine wr (by simp [mrk_len];with_reducible rfl) ?_|refine wq (by simp [mrk_len];with_reducible rfl) ?_|refine wt (by simpa [mrk_len]) ?_|refine wf (by simpa [mrk_len]) ?_|refine xt (by simpa [mrk_len]) ?_|refine xf (by simpa [mrk_len]) ?_|apply wp_bs|apply wp_b|refine wp_sr ?_|refine wp_sx ?_|refine wp_ret' ?_|refine wp_skip' ?_|refine wp_exit' ?_)
    exact ⟨rfl,rfl⟩
  | succ m ih =>
    intro i A hi hA ht
    have hi2:i < A.length:=by omega
    have w2:IntKind.i64.wrap ((i:Int)+1)=((i+1:Nat):Int):=wrapS (by omega)
    have w3:IntKind.i64.wrap (k+(i:Int)+1)=k+((i+1:Nat):Int):=by rw [wrap64 (by omega) (by omega)];omega
    have hg:=ih (i+1) (A.set i (k+(i:Int))) (by omega) (by simpa using hA) (by
      rw [List.take_succ_eq_append_getElem (by simpa using hi2),List.take_succ_eq_append_getElem (by rw [mrk_len];omega),List.take_set_of_le (Nat.le_refl _),ht,mrk_get];simp)
    refine wp_loop ?_
    repeat (first|apply wp_as|apply wp_ss|refine wr (by simp [hi2,w2,w3];with_reducible rfl) ?_|refine wq (by simp [hi2,w2,w3];with_reducible rfl) ?_|refine wt (by simpa [hi2,w2,w3]) ?_|refine wf (by simpa [hi2,w2,w3]) ?_|refine xt (by simpa [hi2,w2,w3]) ?_|refine xf (by simpa [hi2,w2,w3]) ?_|apply wp_bs|apply wp_b|refine wp_sr ?_|refine wp_sx ?_|refine wp_ret' ?_|refine wp_skip' ?_|refine wp_exit' ?_)
    exact hg
theorem ev_markIntS (a:List Int) (k:Int) (hl:a.length≤10000000) (hk:0≤k∧k≤100000000):Ev tb zl243 [0] [O a,I k] [] ⟨I (k+a.length),[O (mrk k a.length)],[],[]⟩:=by
  have hlo:=mkI_loop k a.length hl hk a.length 0 a (by omega) rfl (by simp)
  rw [show k+((0:Nat):Int)=k by omega,show ((0:Nat):Int)=0 from rfl] at hlo
  refine call_of_wp zt243 rfl ?_
  repeat (first|apply wp_as|apply wp_ss|refine wr (by simp;with_reducible rfl) ?_|refine wq (by simp;with_reducible rfl) ?_|refine wt (by simpa) ?_|refine wf (by simpa) ?_|refine xt (by simpa) ?_|refine xf (by simpa) ?_|apply wp_bs|apply wp_b|refine wp_sr ?_|refine wp_sx ?_|refine wp_ret' ?_|refine wp_skip' ?_|refine wp_exit' ?_)
  refine wp_imp hlo ?_
  rintro ex st ⟨rfl,rfl⟩
  try simp only [if_true]
  repeat (first|apply wp_as|apply wp_ss|refine wr (by simp;with_reducible rfl) ?_|refine wq (by simp;with_reducible rfl) ?_|refine wt (by simpa) ?_|refine wf (by simpa) ?_|refine xt (by simpa) ?_|refine xf (by simpa) ?_|apply wp_bs|apply wp_b|refine wp_sr ?_|refine wp_sx ?_|refine wp_ret' ?_|refine wp_skip' ?_|refine wp_exit' ?_)
  simp [zi243]
theorem hdI_loop (k:Int) (n:Nat) (c:Bool) (hn:n≤10000000) (hk:0≤k∧k≤100000000):∀ (m i:Nat),i+m=n →
    wp tb (.loop z241l7) { T:=[(0,L (mrk k n) c),(1,I (k+i)),(5,I i)],loc:=[],M:=[] }
      (fun ex st=>ex=.exit 0∧st={ T:=[(0,L (mrk k n) c),(1,I (k+n)),(5,I n),(9,Bo false)],loc:=[],M:=[] }):=by
  intro m
  induction m with
  | zero =>
    intro i hi
    have h3:i=n:=hi
    subst h3
    refine wp_loop ?_
    repeat (first|apply wp_as|apply wp_ss|refine wr (by simp [mrk_len];with_reducible rfl) ?_|refine wq (by simp [mrk_len];with_reducible rfl) ?_|refine wt (by simpa [mrk_len]) ?_|refine wf (by simpa [mrk_len]) ?_|refine xt (by simpa [mrk_len]) ?_|refine xf (by simpa [mrk_len]) ?_|apply wp_bs|apply wp_b|refine wp_sr ?_|refine wp_sx ?_|refine wp_ret' ?_|refine wp_skip' ?_|refine wp_exit' ?_)
    exact ⟨rfl,rfl⟩
  | succ m ih =>
    intro i hi
    have hi2:i < n:=by omega
    have w2:IntKind.i64.wrap ((i:Int)+1)=((i+1:Nat):Int):=wrapS (by omega)
    have w3:IntKind.i64.wrap (k+(i:Int)+1)=k+((i+1:Nat):Int):=by rw [wrap64 (by omega) (by omega)];omega
    have hg:=ih (i+1) (by omega)
    refine wp_loop ?_
    repeat (first|apply wp_as|apply wp_ss|refine wr (by simp [mrk_len,hi2,w2,w3,mrk_get];with_reducible rfl) ?_|refine wq (by simp [mrk_len,hi2,w2,w3,mrk_get];with_reducible rfl) ?_|refine wt (by simpa [mrk_len,hi2,w2,w3,mrk_get]) ?_|refine wf (by simpa [mrk_len,hi2,w2,w3,mrk_get]) ?_|refine xt (by simpa [mrk_len,hi2,w2,w3,mrk_get]) ?_|refine xf (by simpa [mrk_len,hi2,w2,w3,mrk_get]) ?_|apply wp_bs|apply wp_b|refine wp_sr ?_|refine wp_sx ?_|refine wp_ret' ?_|refine wp_skip' ?_|refine wp_exit' ?_)
    exact hg
theorem ev_heldIntS (k:Int) (n:Nat) (c:Bool) (hl:n≤10000000) (hk:0≤k∧k≤100000000):Ev tb zl241 [] [L (mrk k n) c,I k] [] ⟨I (k+n),[],[],[]⟩:=by
  have hlo:=hdI_loop k n c hl hk n 0 (by omega)
  rw [show k+((0:Nat):Int)=k by omega,show ((0:Nat):Int)=0 from rfl] at hlo
  refine call_of_wp zt241 rfl ?_
  repeat (first|apply wp_as|apply wp_ss|refine wr (by simp;with_reducible rfl) ?_|refine wq (by simp;with_reducible rfl) ?_|refine wt (by simpa) ?_|refine wf (by simpa) ?_|refine xt (by simpa) ?_|refine xf (by simpa) ?_|apply wp_bs|apply wp_b|refine wp_sr ?_|refine wp_sx ?_|refine wp_ret' ?_|refine wp_skip' ?_|refine wp_exit' ?_)
  refine wp_imp hlo ?_
  rintro ex st ⟨rfl,rfl⟩
  try simp only [if_true]
  repeat (first|apply wp_as|apply wp_ss|refine wr (by simp;with_reducible rfl) ?_|refine wq (by simp;with_reducible rfl) ?_|refine wt (by simpa) ?_|refine wf (by simpa) ?_|refine xt (by simpa) ?_|refine xf (by simpa) ?_|apply wp_bs|apply wp_b|refine wp_sr ?_|refine wp_sx ?_|refine wp_ret' ?_|refine wp_skip' ?_|refine wp_exit' ?_)
  simp [zi241]
end Go.Idl
namespace Go.Idl
open Go
@[simp] theorem fi_cons (p:IV→Bool) (x:IV) (xs:List IV):(x::xs).findIdx? p=if p x then some 0 else (xs.findIdx? p).map (·+1):=List.findIdx?_cons
@[simp] theorem eds_rep (n:Nat):List.replicate n [IV.sc (.int .i64 0),IV.sc (.int .i64 0)]=eds (List.replicate n (0,0)):=by simp [eds]
theorem ev_toEdge (a b:Int):Ev tb zl62 [] [.agg [I a,I b]] [] ⟨.agg [I a,I b],[],[],[]⟩:=by
  refine call_of_wp zt62 rfl ?_
  repeat (first|apply wp_as|apply wp_ss|refine wr (by simp;with_reducible rfl) ?_|refine wq (by simp;with_reducible rfl) ?_|refine wt (by simpa) ?_|refine wf (by simpa) ?_|refine xt (by simpa) ?_|refine xf (by simpa) ?_|apply wp_bs|apply wp_b|refine wp_sr ?_|refine wp_sx ?_|refine wp_ret' ?_|refine wp_skip' ?_|refine wp_exit' ?_)
  simp [zi62]
theorem toE_loop (a:List (Int×Int)) (c:Bool) (hl:a.length≤2000000):∀ (m i:Nat) (A:List (Int×Int)),i+m=a.length→A.length=a.length→A.take i=a.take i →
    wp tb (.loop z63l6) { T:=[(0,L2 a c),(3,O2 A),(4,I i)],loc:=[],M:=[] }
      (fun ex st=>ex=.exit 0∧st={ T:=[(0,L2 a c),(3,O2 a),(4,I a.length),(11,Bo false)],loc:=[],M:=[] }):=by
  intro m
  induction m with
  | zero =>
    intro i A hi hA ht
    have h3:i=a.length:=hi
    subst h3
    rw [List.take_of_length_le (by omega),List.take_of_length_le (by omega)] at ht
    rw [ht]
    refine wp_loop ?_
    repeat (first|apply wp_as|apply wp_ss|refine wr (by simp;with_reducible rfl) ?_|refine wq (by simp;with_reducible rfl) ?_|refine wt (by simpa) ?_|refine wf (by simpa) ?_|refine xt (by simpa) ?_|refine xf (by simpa) ?_|apply wp_bs|apply wp_b|refine wp_sr ?_|refine wp_sx ?_|refine wp_ret' ?_|refine wp_skip' ?_|refine wp_exit' ?_)
    exact ⟨rfl,rfl⟩
  | succ m ih =>
    intro i A hi hA ht
    have hi2:i < a.length:=by omega
    have hi3:i < A.length:=by omega
    have w2:IntKind.i64.wrap ((i:Int)+1)=((i+1:Nat):Int):=wrapS (by omega)
    have hg:=ih (i+1) (A.set i a[i]) (by omega) (by simpa using hA) (by
      rw [List.take_succ_eq_append_getElem (by simpa using hi3),List.take_succ_eq_append_getElem hi2,List.take_set_of_le (Nat.le_refl _),ht];simp)
    obtain ⟨⟨p,q⟩,hx⟩:∃ x,x=a[i]:=⟨_,rfl⟩
    have hx:=hx.symm
    rw [hx] at hg
    have e1:=ev_lim (ev_toEdge p q)
    refine wp_loop ?_
    repeat (first|apply wp_as|apply wp_ss|refine wr (by simp [hi2,hi3,w2,hx,e1];with_reducible rfl) ?_|refine wq (by simp [hi2,hi3,w2,hx,e1];with_reducible rfl) ?_|refine wt (by simpa [hi2,hi3,w2,hx,e1]) ?_|refine wf (by simpa [hi2,hi3,w2,hx,e1]) ?_|refine xt (by simpa [hi2,hi3,w2,hx,e1]) ?_|refine xf (by simpa [hi2,hi3,w2,hx,e1]) ?_|apply wp_bs|apply wp_b|refine wp_sr ?_|refine wp_sx ?_|refine wp_ret' ?_|refine wp_skip' ?_|refine wp_exit' ?_)
    exact hg
theorem ev_toEdgeS (a:List (Int×Int)) (c:Bool) (hl:a.length≤2000000):Ev tb zl63 [] [L2 a c] [] ⟨O2 a,[],[],[]⟩:=by
  have hlo:=toE_loop a c hl a.length 0 (List.replicate a.length (0,0)) (by omega) (by simp) (by simp)
  rw [show ((0:Nat):Int)=0 from rfl] at hlo
  have hl2:a.length≤274877906944:=by omega
  refine call_of_wp zt63 rfl ?_
  repeat (first|apply wp_as|apply wp_ss|refine wr (by simp [hl2];with_reducible rfl) ?_|refine wq (by simp [hl2];with_reducible rfl) ?_|refine wt (by simpa [hl2]) ?_|refine wf (by simpa [hl2]) ?_|refine xt (by simpa [hl2]) ?_|refine xf (by simpa [hl2]) ?_|apply wp_bs|apply wp_b|refine wp_sr ?_|refine wp_sx ?_|refine wp_ret' ?_|refine wp_skip' ?_|refine wp_exit' ?_)
  refine wp_imp hlo ?_
  rintro ex st ⟨rfl,rfl⟩
  try simp only [if_true]
  repeat (first|apply wp_as|apply wp_ss|refine wr (by simp;with_reducible rfl) ?_|refine wq (by simp;with_reducible rfl) ?_|refine wt (by simpa) ?_|refine wf (by simpa) ?_|refine xt (by simpa) ?_|refine xf (by simpa) ?_|apply wp_bs|apply wp_b|refine wp_sr ?_|refine wp_sx ?_|refine wp_ret' ?_|refine wp_skip' ?_|refine wp_exit' ?_)
  simp [zi63]
theorem ev_toGraph (n:Int) (a:List (Int×Int)) (c:Bool) (hl:a.length≤2000000):Ev tb zl64 [] [Gr n a c] [] ⟨OG n a,[],[],[]⟩:=by
  have e1:=fun c=>ev_lim (ev_toEdgeS a c hl)
  refine call_of_wp zt64 rfl ?_
  repeat (first|apply wp_as|apply wp_ss|refine wr (by simp [e1];with_reducible rfl) ?_|refine wq (by simp [e1];with_reducible rfl) ?_|refine wt (by simpa [e1]) ?_|refine wf (by simpa [e1]) ?_|refine xt (by simpa [e1]) ?_|refine xf (by simpa [e1]) ?_|apply wp_bs|apply wp_b|refine wp_sr ?_|refine wp_sx ?_|refine wp_ret' ?_|refine wp_skip' ?_|refine wp_exit' ?_)
  simp [zi64]
theorem ev_eqEdge (a b:Int):Ev tb zl48 [] [.agg [I a,I b],.agg [I a,I b]] [] ⟨Bo true,[],[],[]⟩:=by
  refine call_of_wp zt48 rfl ?_
  repeat (first|apply wp_as|apply wp_ss|refine wr (by simp;with_reducible rfl) ?_|refine wq (by simp;with_reducible rfl) ?_|refine wt (by simpa) ?_|refine wf (by simpa) ?_|refine xt (by simpa) ?_|refine xf (by simpa) ?_|apply wp_bs|apply wp_b|refine wp_sr ?_|refine wp_sx ?_|refine wp_ret' ?_|refine wp_skip' ?_|refine wp_exit' ?_)
  simp [zi48]
theorem eqE_loop (a:List (Int×Int)) (c d:Bool) (hl:a.length≤2000000):∀ (m i:Nat),i+m=a.length →
    wp tb (.loop z49l8) { T:=[(0,L2 a c),(1,L2 a d),(5,I i)],loc:=[],M:=[] }
      (fun ex st=>ex=.exit 0∧st={ T:=[(0,L2 a c),(1,L2 a d),(5,I a.length),(14,Bo false)],loc:=[],M:=[] }):=by
  intro m
  induction m with
  | zero =>
    intro i hi
    have h3:i=a.length:=hi
    subst h3
    refine wp_loop ?_
    repeat (first|apply wp_as|apply wp_ss|refine wr (by simp;with_reducible rfl) ?_|refine wq (by simp;with_reducible rfl) ?_|refine wt (by simpa) ?_|refine wf (by simpa) ?_|refine xt (by simpa) ?_|refine xf (by simpa) ?_|apply wp_bs|apply wp_b|refine wp_sr ?_|refine wp_sx ?_|refine wp_ret' ?_|refine wp_skip' ?_|refine wp_exit' ?_)
    exact ⟨rfl,rfl⟩
  | succ m ih =>
    intro i hi
    have hi2:i < a.length:=by omega
    have w2:IntKind.i64.wrap ((i:Int)+1)=((i+1:Nat):Int):=wrapS (by omega)
    have hg:=ih (i+1) (by omega)
    obtain ⟨⟨p,q⟩,hx⟩:∃ x,x=a[i]:=⟨_,rfl⟩
    have hx:=hx.symm
    have e1:=ev_lim (ev_eqEdge p q)
    refine wp_loop ?_
    repeat (first|apply wp_as|apply wp_ss|refine wr (by simp [hi2,w2,hx,e1];with_reducible rfl) ?_|refine wq (by simp [hi2,w2,hx,e1];with_reducible rfl) ?_|refine wt (by simpa [hi2,w2,hx,e1]) ?_|refine wf (by simpa [hi2,w2,hx,e1]) ?_|refine xt (by simpa [hi2,w2,hx,e1]) ?_|refine xf (by simpa [hi2,w2,hx,e1]) ?_|apply wp_bs|apply wp_b|refine wp_sr ?_|refine wp_sx ?_|refine wp_ret' ?_|refine wp_skip' ?_|refine wp_exit' ?_)
    exact hg
theorem ev_eqEdgeS (a:List (Int×Int)) (c d:Bool) (hl:a.length≤2000000):Ev tb zl49 [] [L2 a c,L2 a d] [] ⟨Bo true,[],[],[]⟩:=by
  have hlo:=eqE_loop a c d hl a.length 0 (by omega)
  rw [show ((0:Nat):Int)=0 from rfl] at hlo
  refine call_of_wp zt49 rfl ?_
  repeat (first|apply wp_as|apply wp_ss|refine wr (by simp;with_reducible rfl) ?_|refine wq (by simp;with_reducible rfl) ?_|refine wt (by simpa) ?_|refine wf (by simpa) ?_|refine xt (by simpa) ?_|refine xf (by simpa) ?_|apply wp_bs|apply wp_b|refine wp_sr ?_|refine wp_sx ?_|refine wp_ret' ?_|refine wp_skip' ?_|refine wp_exit' ?_)
  refine wp_imp hlo ?_
  rintro ex st ⟨rfl,rfl⟩
  try simp only [if_true]
  repeat (first|apply wp_as|apply wp_ss|refine wr (by simp;with_reducible rfl) ?_|refine wq (by simp;with_reducible rfl) ?_|refine wt (by simpa) ?_|refine wf (by simpa) ?_|refine xt (by simpa) ?_|refine xf (by simpa) ?_|apply wp_bs|apply wp_b|refine wp_sr ?_|refine wp_sx ?_|refine wp_ret' ?_|refine wp_skip' ?_|refine wp_exit' ?_)
  simp [zi49]
theorem ev_eqGraph (n:Int) (a:List (Int×Int)) (c d:Bool) (hl:a.length≤2000000):Ev tb zl50 [] [Gr n a c,Gr n a d] [] ⟨Bo true,[],[],[]⟩:=by
  have e1:=fun c d=>ev_lim (ev_eqEdgeS a c d hl)
  refine call_of_wp zt50 rfl ?_
  repeat (first|apply wp_as|apply wp_ss|refine wr (by simp [e1];with_reducible rfl) ?_|refine wq (by simp [e1];with_reducible rfl) ?_|refine wt (by simpa [e1]) ?_|refine wf (by simpa [e1]) ?_|refine xt (by simpa [e1]) ?_|refine xf (by simpa [e1]) ?_|apply wp_bs|apply wp_b|refine wp_sr ?_|refine wp_sx ?_|refine wp_ret' ?_|refine wp_skip' ?_|refine wp_exit' ?_)
  simp [zi50]
def mrk2 (k:Int) (n:Nat):List (Int×Int):=(List.range n).map fun i:Nat=>(k+2 * (i:Int),k+2 * (i:Int)+1)
theorem mrk2_len (k:Int) (n:Nat):(mrk2 k n).length=n:=by simp [mrk2]
theorem mrk2_get (k:Int) (n i:Nat) (h:i < (mrk2 k n).length):(mrk2 k n)[i]=(k+2 * (i:Int),k+2 * (i:Int)+1):=by simp [mrk2]
theorem mrk_take (k:Int) (n:Nat):(mrk k n).take n=mrk k n:=List.take_of_length_le (by rw [mrk_len];exact Nat.le_refl n)
theorem mkE_loop (k:Int) (n:Nat) (hn:n≤10000000) (hk:0≤k∧k≤100000000):∀ (m i:Nat) (A:List (Int×Int)),i+m=n→A.length=n→A.take i=(mrk2 k n).take i →
    wp tb (.loop z56l8) { T:=[(0,O2 A),(1,I (k+2 * i)),(5,I i)],loc:=[],M:=[] }
      (fun ex st=>ex=.exit 0∧st={ T:=[(0,O2 (mrk2 k n)),(1,I (k+2 * n)),(5,I n),(9,Bo false)],loc:=[],M:=[] }):=by
  intro m
  induction m with
  | zero =>
    intro i A hi hA ht
    have h3:i=n:=hi
    subst h3
    rw [List.take_of_length_le (by omega),List.take_of_length_le (by rw [mrk2_len];omega)] at ht
    subst ht
    refine wp_loop ?_
    repeat (first|apply wp_as|apply wp_ss|refine wr (by simp [mrk2_len];with_reducible rfl) ?_|refine wq (by simp [mrk2_len];with_reducible rfl) ?_|refine wt (by simpa [mrk2_len]) ?_|refine wf (by simpa [mrk2_len]) ?_|refine xt (by simpa [mrk2_len]) ?_|refine xf (by simpa [mrk2_len]) ?_|apply wp_bs|apply wp_b|refine wp_sr ?_|refine wp_sx ?_|refine wp_ret' ?_|refine wp_skip' ?_|refine wp_exit' ?_)
    exact ⟨rfl,rfl⟩
  | succ m ih =>
    intro i A hi hA ht
    have hi2:i < A.length:=by omega
    have w2:IntKind.i64.wrap ((i:Int)+1)=((i+1:Nat):Int):=wrapS (by omega)
    have w3:IntKind.i64.wrap (k+2 * (i:Int)+1)=k+2 * (i:Int)+1:=by rw [wrap64 (by omega) (by omega)]
    have w4:IntKind.i64.wrap (k+2 * (i:Int)+1+1)=k+2 * ((i+1:Nat):Int):=by rw [wrap64 (by omega) (by omega)];omega
    have hg:=ih (i+1) (A.set i (k+2 * (i:Int),k+2 * (i:Int)+1)) (by omega) (by simpa using hA) (by
      rw [List.take_succ_eq_append_getElem (by simpa using hi2),List.take_succ_eq_append_getElem (by rw [mrk2_len];omega),List.take_set_of_le (Nat.le_refl _),ht,mrk2_get];simp)
    obtain ⟨⟨p,q⟩,hx⟩:∃ x,x=A[i]:=⟨_,rfl⟩
    have hx:=hx.symm
    refine wp_loop ?_
    repeat (first|apply wp_as|apply wp_ss|refine wr (by simp [hi2,w2,w3,w4,hx];with_reducible rfl) ?_|refine wq (by simp [hi2,w2,w3,w4,hx];with_reducible rfl) ?_|refine wt (by simpa [hi2,w2,w3,w4,hx]) ?_|refine wf (by simpa [hi2,w2,w3,w4,hx]) ?_|refine xt (by simpa [hi2,w2,w3,w4,hx]) ?_|refine xf (by simpa [hi2,w2,w3,w4,hx]) ?_|apply wp_bs|apply wp_b|refine wp_sr ?_|refine wp_sx ?_|refine wp_ret' ?_|refine wp_skip' ?_|refine wp_exit' ?_)
    exact hg
theorem ev_markEdgeS (a:List (Int×Int)) (k:Int) (hl:a.length≤10000000) (hk:0≤k∧k≤100000000):Ev tb zl56 [0] [O2 a,I k] [] ⟨I (k+2 * a.length),[O2 (mrk2 k a.length)],[],[]⟩:=by
  have hlo:=mkE_loop k a.length hl hk a.length 0 a (by omega) rfl (by simp)
  rw [show k+2 * ((0:Nat):Int)=k by omega,show ((0:Nat):Int)=0 from rfl] at hlo
  refine call_of_wp zt56 rfl ?_
  repeat (first|apply wp_as|apply wp_ss|refine wr (by simp;with_reducible rfl) ?_|refine wq (by simp;with_reducible rfl) ?_|refine wt (by simpa) ?_|refine wf (by simpa) ?_|refine xt (by simpa) ?_|refine xf (by simpa) ?_|apply wp_bs|apply wp_b|refine wp_sr ?_|refine wp_sx ?_|refine wp_ret' ?_|refine wp_skip' ?_|refine wp_exit' ?_)
  refine wp_imp hlo ?_
  rintro ex st ⟨rfl,rfl⟩
  try simp only [if_true]
  repeat (first|apply wp_as|apply wp_ss|refine wr (by simp;with_reducible rfl) ?_|refine wq (by simp;with_reducible rfl) ?_|refine wt (by simpa) ?_|refine wf (by simpa) ?_|refine xt (by simpa) ?_|refine xf (by simpa) ?_|apply wp_bs|apply wp_b|refine wp_sr ?_|refine wp_sx ?_|refine wp_ret' ?_|refine wp_skip' ?_|refine wp_exit' ?_)
  simp [zi56]
theorem ev_markGraph (n:Int) (a:List (Int×Int)) (k:Int) (hl:a.length≤10000000) (hk:0≤k∧k≤100000000):Ev tb zl57 [0] [OG n a,I k] [] ⟨I (k+2 * a.length),[OG n (mrk2 k a.length)],[],[]⟩:=by
  have e1:=ev_lim (ev_markEdgeS a k hl hk)
  have hs:(eds (mrk2 k a.length)).all (·.all IV.isSc)=true:=by
    rw [List.all_eq_true];intro x hx
    obtain ⟨e,_,rfl⟩:=List.mem_map.1 hx
    rfl
  refine call_of_wp zt57 rfl ?_
  refine ⟨_,by simp [z57r0,z57r1,e1,hs];with_reducible rfl,?_⟩
  repeat (first|apply wp_as|apply wp_ss|refine wr (by simp;with_reducible rfl) ?_|refine wq (by simp;with_reducible rfl) ?_|refine wt (by simpa) ?_|refine wf (by simpa) ?_|refine xt (by simpa) ?_|refine xf (by simpa) ?_|apply wp_bs|apply wp_b|refine wp_sr ?_|refine wp_sx ?_|refine wp_ret' ?_|refine wp_skip' ?_|refine wp_exit' ?_)
  simp [zi57]
end Go.Idl
namespace Go.Idl
open Go
abbrev Str (s:ByteArray):IV:=.sc (.string s)
def strs (l:List ByteArray):List (List IV):=l.map fun s=>[Str s]
@[simp] theorem strs_len (l:List ByteArray):(strs l).length=l.length:=by simp [strs]
@[simp] theorem strs_get (l:List ByteArray) (i:Nat) (h:i < (strs l).length):(strs l)[i]=[IV.sc (.string (l[i]'(by simpa [strs] using h)))]:=by simp [strs]
@[simp] theorem strs_get? (l:List ByteArray) (i:Nat):(strs l)[i]? = l[i]?.map fun s=>[IV.sc (.string s)]:=by simp [strs]
end Go.Idl
namespace Go.Idl
open Go
def gls (n:Int) (gl:List (List (Int×Int))):List (List IV):=gl.map fun es=>[I n,O2 es]
@[simp] theorem gls_len (n:Int) (gl):(gls n gl).length=gl.length:=by simp [gls]
@[simp] theorem gls_one (n:Int) (gl) (es:List (Int×Int)):gls n gl++[[IV.sc (.int .i64 n),.own 2 (eds es)]]=gls n (gl++[es]):=by simp [gls]
@[simp] theorem gls_emp (n:Int) (gl):(gls n gl).isEmpty=gl.isEmpty:=by cases gl <;> rfl
@[simp] theorem gls_take (n:Int) (gl) (k:Nat):(gls n gl).take k=gls n (gl.take k):=by simp [gls,List.map_take]
@[simp] theorem gls_all (n:Int) (gl):((gls n gl).all fun x=>x.all IV.isData)=true:=by
  induction gl with
  | nil=>rfl
  | cons x xs ih=>simp only [gls,List.map_cons,List.all_cons] at *;rw [ih];rfl
@[simp] theorem gls_noLst (n:Int) (gl):noLstLL (gls n gl)=true:=by
  induction gl with
  | nil=>rfl
  | cons x xs ih=>simp only [gls,List.map_cons,noLstLL,noLstL,noLstV,eds_noLst] at *;rw [ih];rfl
end Go.Idl
namespace Go.Idl
open Go
abbrev GF:=List (List (Int×Int)×Bool)
def glf (n:Int) (R:GF):List (List IV):=R.map fun x=>[I n,L2 x.1 x.2]
@[simp] theorem glf_len (n:Int) (R:GF):(glf n R).length=R.length:=by simp [glf]
@[simp] theorem glf_nil (n:Int):glf n []=[]:=rfl
@[simp] theorem glf_app (n:Int) (R S:GF):glf n R++glf n S=glf n (R++S):=by simp [glf]
@[simp] theorem glf_take (n:Int) (R:GF) (k:Nat):(glf n R).take k=glf n (R.take k):=by simp [glf,List.map_take]
@[simp] theorem glf_all (n:Int) (R:GF):((glf n R).all fun x=>x.all IV.isData)=true:=by
  induction R with
  | nil=>rfl
  | cons x xs ih=>simp only [glf,List.map_cons,List.all_cons] at *;rw [ih];rfl
end Go.Idl
namespace Go.Idl
open Go
@[simp] theorem un_neg (n:Int):Op.unary .neg (.int .i64 n)=.pure (.int .i64 (IntKind.i64.wrap (-n))):=by
  rw [← Int.zero_sub];rfl
def gs (r c:List Int) (i:Nat):Int:=-((fall r).take (i+1)).sum+(c.map fun x:Int=>min x ((i:Int)+1)).sum
end Go.Idl
namespace Go.Idl
open Go
def TT (n:Nat) (t:List (List Int)):Prop:=t.length=n∧∀ r ∈ t,r.length=n∧∀ x ∈ r,0≤x∧x≤1
theorem TT.set {n:Nat} {t:List (List Int)} (h:TT n t) {a b:Nat} {v:Int} (ha:a < t.length) (hv:0≤v∧v≤1):TT n (t.set a (t[a].set b v)):=by
  refine ⟨by simpa using h.1,fun r hr=>?_⟩
  have h1:=h.2 _ (List.getElem_mem ha)
  rcases List.mem_or_eq_of_mem_set hr with hr | rfl
  · exact h.2 r hr
  · refine ⟨by simpa using h1.1,fun x hx=>?_⟩
    rcases List.mem_or_eq_of_mem_set hx with hx | rfl
    · exact h1.2 x hx
    · exact hv
end Go.Idl
namespace Go.Idl
open Go
def MM (h w:Nat) (t:List (List Int)):Prop:=t.length=h∧∀ r ∈ t,r.length=w∧∀ x ∈ r,0≤x∧x≤1
end Go.Idl
namespace Go.Idl
open Go
theorem MM.sums {h w:Nat} {t:List (List Int)} (ht:MM h w t) (hw:w≤5):∀ x ∈ t.map List.sum,0≤x∧x≤5:=by
  intro x hx
  obtain ⟨r,hr,rfl⟩:=List.mem_map.1 hx
  have h1:=ht.2 r hr
  have:=sum01 r h1.2
  omega
end Go.Idl
namespace Go.Idl
open Go
def durfA:List Int→Nat→Nat→Nat
  | [],_,k=>k
  | x::q,i,k=>durfA q (i+1) (if (i:Int)≤x then i+1 else k)
def durf (s:List Int):Nat:=durfA s 0 0
theorem durfA_le (B:Nat):∀ (s:List Int) (i k:Nat),k≤B→i+s.length≤B→durfA s i k≤B
  | [],_,_,h,_=>h
  | x::q,i,k,h,hb=>by
    simp only [List.length_cons] at hb
    rw [durfA]
    refine durfA_le B q _ _ ?_ (by omega)
    split <;> omega
theorem durf_le (s:List Int):durf s≤s.length:=durfA_le _ s 0 0 (by omega) (by omega)
theorem ev_DurfeeOf (d:List Int) (c:Bool) (hv:valid d=true):Ev tb zl164 [] [L d c] [] ⟨I (durf (fall d)),[],[],[]⟩:=by
  have hl:=(valid_few hv).1
  have e1:=ev_lim (ev_SortDegrees d c hv)
  have hfl:=fall_len d
  generalize fall d=s at *
  have loop:∀ (m i k:Nat),i+m=s.length→k≤i→wp tb (.loop z164l8) { T:=[(3,I k),(7,O s),(8,I s.length),(9,I i)],loc:=[],M:=[] }
      (fun ex st=>ex=.exit 0∧st={ T:=[(3,I (durfA (s.drop i) i k)),(7,O s),(8,I s.length),(9,I s.length),(10,Bo false)],loc:=[],M:=[] }):=by
    intro m
    induction m with
    | zero =>
      intro i k hi hk
      obtain ⟨h1,h2⟩:=drop_end hi
      have h3:i=s.length:=hi
      subst h3
      refine wp_loop ?_
      repeat (first|apply wp_as|apply wp_ss|refine wr (by simp;with_reducible rfl) ?_|refine wq (by simp;with_reducible rfl) ?_|refine wt (by simpa) ?_|refine wf (by simpa) ?_|refine xt (by simpa) ?_|refine xf (by simpa) ?_|apply wp_bs|apply wp_b|refine wp_sr ?_|refine wp_sx ?_|refine wp_ret' ?_|refine wp_skip' ?_|refine wp_exit' ?_)
      rw [h2];exact ⟨rfl,rfl⟩
    | succ m ih =>
      intro i k hi hk
      obtain ⟨hi2,h2,h3⟩:=drop_get hi
      have w2:IntKind.i64.wrap ((i:Int)+1)=((i+1:Nat):Int):=wrapS (by omega)
      rw [h2,durfA]
      by_cases hq:(i:Int)≤s[i]
      · rw [if_pos hq]
        refine wp_loop ?_
        repeat (first|apply wp_as|apply wp_ss|refine wr (by simp [hi2,hq,w2];with_reducible rfl) ?_|refine wq (by simp [hi2,hq,w2];with_reducible rfl) ?_|refine wt (by simpa [hi2,hq,w2]) ?_|refine wf (by simpa [hi2,hq,w2]) ?_|refine xt (by simpa [hi2,hq,w2]) ?_|refine xf (by simpa [hi2,hq,w2]) ?_|apply wp_bs|apply wp_b|refine wp_sr ?_|refine wp_sx ?_|refine wp_ret' ?_|refine wp_skip' ?_|refine wp_exit' ?_)
        exact ih (i+1) (i+1) (by omega) (by omega)
      · rw [if_neg hq]
        refine wp_loop ?_
        repeat (first|apply wp_as|apply wp_ss|refine wr (by simp [hi2,hq,w2];with_reducible rfl) ?_|refine wq (by simp [hi2,hq,w2];with_reducible rfl) ?_|refine wt (by simpa [hi2,hq,w2]) ?_|refine wf (by simpa [hi2,hq,w2]) ?_|refine xt (by simpa [hi2,hq,w2]) ?_|refine xf (by simpa [hi2,hq,w2]) ?_|apply wp_bs|apply wp_b|refine wp_sr ?_|refine wp_sx ?_|refine wp_ret' ?_|refine wp_skip' ?_|refine wp_exit' ?_)
        exact ih (i+1) k (by omega) (by omega)
  refine call_of_wp zt164 rfl ?_
  repeat (first|apply wp_as|apply wp_ss|refine wr (by simp [e1];with_reducible rfl) ?_|refine wq (by simp [e1];with_reducible rfl) ?_|refine wt (by simpa [e1]) ?_|refine wf (by simpa [e1]) ?_|refine xt (by simpa [e1]) ?_|refine xf (by simpa [e1]) ?_|apply wp_bs|apply wp_b|refine wp_sr ?_|refine wp_sx ?_|refine wp_ret' ?_|refine wp_skip' ?_|refine wp_exit' ?_)
  refine wp_imp (loop s.length 0 0 (by simp) (by omega)) ?_
  rintro ex st ⟨rfl,rfl⟩
  try simp only [if_true]
  repeat (first|apply wp_as|apply wp_ss|refine wr (by simp;with_reducible rfl) ?_|refine wq (by simp;with_reducible rfl) ?_|refine wt (by simpa) ?_|refine wf (by simpa) ?_|refine xt (by simpa) ?_|refine xf (by simpa) ?_|apply wp_bs|apply wp_b|refine wp_sr ?_|refine wp_sx ?_|refine wp_ret' ?_|refine wp_skip' ?_|refine wp_exit' ?_)
  simp [zi164,durf]
end Go.Idl
namespace Go.Idl
def insP (x:Nat×Nat):List (Nat×Nat)→List (Nat×Nat)
  | []=>[x]
  | y::r=>if Nat.ble y.1 x.1 then x::y::r else y::insP x r
def hh:Nat→List (Nat×Nat)→List (Nat×Nat)
  | 0,_=>[]
  | _+1,[]=>[]
  | m+1,x::r=>(r.take x.1).map (fun y:Nat×Nat=>(x.2,y.2))++hh m ((((r.take x.1).map (fun y:Nat×Nat=>(y.1 - 1,y.2))++r.drop x.1:List (Nat×Nat))).foldr insP [])
def mk (u v:Nat):Int×Int:=(min (u:Int) v,max (u:Int) v)
end Go.Idl
namespace Go.Idl
def lexR (left:List Int) (a b:Int):Prop:=left.getD b.toNat 0 < left.getD a.toNat 0 ∨ (left.getD a.toNat 0=left.getD b.toNat 0∧a < b)
theorem lexR_trans {left:List Int} {a b c:Int} (h:lexR left a b) (k:lexR left b c):lexR left a c:=by
  simp only [lexR] at *;omega
theorem lexR_irr {left:List Int} {a:Int} (h:lexR left a a):False:=by
  simp only [lexR] at h;omega
theorem insC_lex {left:List Int} {x:Int}:∀ (r B:List Int),(r.reverse++B).Pairwise (lexR left)→(∀ y ∈ r,y < x)→(∀ b ∈ B,left.getD b.toNat 0 < left.getD x.toNat 0)→(insC (gtD left) x r B).Pairwise (lexR left)
  | [],B,h,_,hb=>List.pairwise_cons.2 ⟨fun b hb'=>.inl (hb b hb'),by simpa using h⟩
  | a::r,B,h,hr,hb=>by
    rw [List.reverse_cons,List.append_assoc] at h
    unfold insC
    split
    · rename_i hx
      refine insC_lex r (a::B) h (fun y hy=>hr y (by simp [hy])) fun b hb'=>?_
      rcases List.mem_cons.1 hb' with rfl | hb'
      · simpa [gtD] using hx
      · exact hb b hb'
    · rename_i hx
      have hx:left.getD x.toNat 0≤left.getD a.toNat 0:=by
        simp only [gtD,decide_eq_true_eq] at hx;omega
      have hax:lexR left a x:=by
        have:=hr a (by simp)
        simp only [lexR];omega
      obtain ⟨h1,h2,h3⟩:=List.pairwise_append.1 (show (r.reverse++a::B).Pairwise (lexR left) from h)
      have h2:=List.pairwise_cons.1 h2
      refine List.pairwise_append.2 ⟨h1,?_,fun p hp q hq=>?_⟩
      · refine List.pairwise_cons.2 ⟨fun q hq=>?_,List.pairwise_cons.2 ⟨fun b hb'=>.inl (hb b hb'),h2.2⟩⟩
        rcases List.mem_cons.1 hq with rfl | hq
        · exact hax
        · exact h2.1 q hq
      · have h4:=h3 p hp a (by simp)
        rcases List.mem_cons.1 hq with rfl | hq
        · exact h4
        · rcases List.mem_cons.1 hq with rfl | hq
          · exact lexR_trans h4 hax
          · exact h3 p hp q (by simp [hq])
theorem srtC_lex {left:List Int}:∀ (T S:List Int),S.Pairwise (lexR left)→(∀ y ∈ S,∀ x ∈ T,y < x)→T.Pairwise (fun a b:Int=>a < b)→(srtC (gtD left) S T).Pairwise (lexR left)
  | [],S,h,_,_=>h
  | x::r,S,h,hs,ht=>by
    have ht':=List.pairwise_cons.1 ht
    rw [srtC]
    refine srtC_lex r _ (insC_lex _ _ (by simpa using h) (fun y hy=>hs y (by simpa using hy) x (by simp)) (by simp)) (fun y hy z hz=>?_) ht'.2
    have:=(insC_perm (gtD left) x S.reverse []).mem_iff.1 hy
    simp only [List.reverse_reverse,List.mem_append,List.mem_cons,List.not_mem_nil,or_false] at this
    rcases this with h1 | rfl
    · exact hs y h1 z (by simp [hz])
    · exact ht'.1 z hz
end Go.Idl
namespace Go.Idl
theorem idxB_pw (n:Nat):(idxB n (-1)).Pairwise (fun a b:Int=>a < b):=by
  rw [idxB_all,List.pairwise_map]
  exact (List.pairwise_lt_range).imp fun h=>by omega
theorem mem_idxB {n:Nat} {x:Int}:x ∈ idxB n (-1) ↔ 0≤x∧x < n:=by
  rw [idxB_all,List.mem_map]
  constructor
  · rintro ⟨v,hv,rfl⟩;have:=List.mem_range.1 hv;omega
  · intro h;exact ⟨x.toNat,List.mem_range.2 (by omega),by omega⟩
end Go.Idl
namespace Go.Idl
theorem has_hasM {n:Nat} {es:List (Int×Int)} (h:∀ e ∈ es,e ∈ prs n) (a b:Int):has es a b=hasM es a b:=by
  rw [Bool.eq_iff_iff,hasM_iff,has,List.any_eq_true]
  constructor
  · rintro ⟨e,he,hi⟩
    have hp:=mem_prs.1 (h e he)
    simp only [isE,Bool.or_eq_true,Bool.and_eq_true,decide_eq_true_eq] at hi
    have h2:e=(min a b,max a b):=Prod.ext (by simp only;omega) (by simp only;omega)
    rw [← h2];exact he
  · intro hm
    refine ⟨_,hm,?_⟩
    simp only [isE,Bool.or_eq_true,Bool.and_eq_true,decide_eq_true_eq]
    omega
end Go.Idl
namespace Go.Idl
open Go
theorem ev_szGraph_ok (n:Int) (es:List (Int×Int)) (c:Bool) (l:Int) (h:(es.length:Int)≤l) (hl:l≤2000000):Ev tb zl61 [] [Gr n es c,I l] [] ⟨I (l - es.length),[],[],[]⟩:=by
  have w1:IntKind.i64.wrap (l - (es.length:Int))=l - es.length:=wrap64 (by omega) (by omega)
  have h0:¬ (l - (es.length:Int) < 0):=by omega
  have e1:∀ c,limF tb zl60 [] [L2 es c,I l] []=some ⟨I (l - es.length),[],[],[]⟩:=fun c=>ev_lim (by
    refine call_of_wp zt60 rfl ?_
    repeat (first|apply wp_as|apply wp_ss|refine wr (by simp [w1,h0];with_reducible rfl) ?_|refine wq (by simp [w1,h0];with_reducible rfl) ?_|refine wt (by simpa [w1,h0]) ?_|refine wf (by simpa [w1,h0]) ?_|refine xt (by simpa [w1,h0]) ?_|refine xf (by simpa [w1,h0]) ?_|apply wp_bs|apply wp_b|refine wp_sr ?_|refine wp_sx ?_|refine wp_ret' ?_|refine wp_skip' ?_|refine wp_exit' ?_)
    simp [zi60])
  refine call_of_wp zt61 rfl ?_
  repeat (first|apply wp_as|apply wp_ss|refine wr (by simp [e1,h0];with_reducible rfl) ?_|refine wq (by simp [e1,h0];with_reducible rfl) ?_|refine wt (by simpa [e1,h0]) ?_|refine wf (by simpa [e1,h0]) ?_|refine xt (by simpa [e1,h0]) ?_|refine xf (by simpa [e1,h0]) ?_|apply wp_bs|apply wp_b|refine wp_sr ?_|refine wp_sx ?_|refine wp_ret' ?_|refine wp_skip' ?_|refine wp_exit' ?_)
  simp [zi61]
theorem ev_szGraph_no (n:Int) (es:List (Int×Int)) (c:Bool) (l:Int) (h:l < (es.length:Int)) (hl:0≤l) (hb:es.length < 9223372036854775808):Ev tb zl61 [] [Gr n es c,I l] [] ⟨I (-1),[],[],[]⟩:=by
  have w1:IntKind.i64.wrap (l - (es.length:Int))=l - es.length:=wrap64 (by omega) (by omega)
  have h0:l - (es.length:Int) < 0:=by omega
  have e1:∀ c,limF tb zl60 [] [L2 es c,I l] []=some ⟨I (-1),[],[],[]⟩:=fun c=>ev_lim (by
    refine call_of_wp zt60 rfl ?_
    repeat (first|apply wp_as|apply wp_ss|refine wr (by simp [w1,h0];with_reducible rfl) ?_|refine wq (by simp [w1,h0];with_reducible rfl) ?_|refine wt (by simpa [w1,h0]) ?_|refine wf (by simpa [w1,h0]) ?_|refine xt (by simpa [w1,h0]) ?_|refine xf (by simpa [w1,h0]) ?_|apply wp_bs|apply wp_b|refine wp_sr ?_|refine wp_sx ?_|refine wp_ret' ?_|refine wp_skip' ?_|refine wp_exit' ?_)
    simp [zi60])
  refine call_of_wp zt61 rfl ?_
  repeat (first|apply wp_as|apply wp_ss|refine wr (by simp [e1];with_reducible rfl) ?_|refine wq (by simp [e1];with_reducible rfl) ?_|refine wt (by simpa [e1]) ?_|refine wf (by simpa [e1]) ?_|refine xt (by simpa [e1]) ?_|refine xf (by simpa [e1]) ?_|apply wp_bs|apply wp_b|refine wp_sr ?_|refine wp_sx ?_|refine wp_ret' ?_|refine wp_skip' ?_|refine wp_exit' ?_)
  simp [zi61]
@[simp] theorem sws_rep (n:Nat):List.replicate n [IV.sc (.int .i64 0),IV.sc (.int .i64 0),IV.sc (.int .i64 0),IV.sc (.int .i64 0)]=sws (List.replicate n (0,0,0,0)):=by simp [sws]
@[simp] theorem sws_set (xs:List Q4) (i:Nat) (a b c d:Int):(sws xs).set i [IV.sc (.int .i64 a),IV.sc (.int .i64 b),IV.sc (.int .i64 c),IV.sc (.int .i64 d)]=sws (xs.set i (a,b,c,d)):=by
  simp [sws,List.map_set]
theorem mrk_sc (k:Int) (n:Nat):(ints (mrk k n)).all (·.all IV.isSc)=true:=by
  rw [List.all_eq_true];intro x hx
  obtain ⟨e,_,rfl⟩:=List.mem_map.1 hx
  rfl
theorem mrk2_sc (k:Int) (n:Nat):(eds (mrk2 k n)).all (·.all IV.isSc)=true:=by
  rw [List.all_eq_true];intro x hx
  obtain ⟨e,_,rfl⟩:=List.mem_map.1 hx
  rfl
end Go.Idl
namespace Go.Idl
def hv:Nat→List Int→Bool
  | 0,_=>true
  | _+1,[]=>true
  | m+1,x::r=>decide (x≤r.length) && (r.take x.toNat).all (fun y=>!decide (y=0)) && hv m (fall ((r.take x.toNat).map (fun y=>y - 1)++r.drop x.toNat))
end Go.Idl
