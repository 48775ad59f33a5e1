/- Part 7 of a proof by an ideal interpreter of the code: its definitions and lemmas. Conditions: none. -/
import Derived.KernelRfl
import Derived.Test.YtpbpoajmibfliaaA6
set_option linter.all false
set_option linter.unusedVariables false
set_option linter.unusedSimpArgs false
namespace Go.Idl
open Go
theorem ev_IndexFuncL (xs:List Int) (F:Lab) (caps:List IV) (M:List Boxes) (p:Int→Bool) (hl:xs.length≤2000000)
    (hp:∀ x ∈ xs,Ev tb F [] (I x::caps) (M++[[]]) ⟨Bo (p x),[],M++[[]],[]⟩) :
    Ev tb zl449 [0] [O xs,.fn F caps] M ⟨I (idx p 0 xs),[O xs],M,[]⟩:=by
  have loop:∀ (m i:Nat),i+m=xs.length→wp tb (.loop z449l7) { T:=[(0,O xs),(1,.fn F caps),(7,I xs.length),(8,I i)],loc:=[],M:=M }
      (fun ex st=>(ex=.exit 0∧idx p i (xs.drop i)=-1∧st={ T:=[(0,O xs),(1,.fn F caps),(7,I xs.length),(8,I xs.length),(9,Bo false)],loc:=[],M:=M }) ∨
        ex=.ret∧st={ T:=[(0,O xs),(4,I (idx p i (xs.drop i)))],loc:=[],M:=M }):=by
    intro m
    induction m with
    | zero =>
      intro i hi
      obtain ⟨h1,h2⟩:=drop_end hi
      have h3:i=xs.length:=hi
      subst h3
      refine wp_loop ?_
      repeat (first|apply wp_as|apply wp_ss|refine wr (by simp;with_reducible rfl) ?_|refine wq (by simp;with_reducible rfl) ?_|refine wt (by simpa) ?_|refine wf (by simpa) ?_|refine xt (by simpa) ?_|refine xf (by simpa) ?_|apply wp_bs|apply wp_b|refine wp_sr ?_|refine wp_sx ?_|refine wp_ret' ?_|refine wp_skip' ?_|refine wp_exit' ?_)
      refine .inl ⟨rfl,by rw [h2];rfl,rfl⟩
    | succ m ih =>
      intro i hi
      obtain ⟨hi2,h2,h3⟩:=drop_get hi
      have e1:=ev_lim (hp _ h3)
      have w1:IntKind.i64.wrap ((i:Int)+1)=((i+1:Nat):Int):=wrapS (by omega)
      rw [h2]
      cases hpx:p xs[i] with
      | true =>
        refine wp_loop ?_
        repeat (first|apply wp_as|apply wp_ss|refine wr (by simp [e1,hi2,w1,hpx];with_reducible rfl) ?_|refine wq (by simp [e1,hi2,w1,hpx];with_reducible rfl) ?_|refine wt (by simpa [e1,hi2,w1,hpx]) ?_|refine wf (by simpa [e1,hi2,w1,hpx]) ?_|refine xt (by simpa [e1,hi2,w1,hpx]) ?_|refine xf (by simpa [e1,hi2,w1,hpx]) ?_|apply wp_bs|apply wp_b|refine wp_sr ?_|refine wp_sx ?_|refine wp_ret' ?_|refine wp_skip' ?_|refine wp_exit' ?_)
        refine .inr ⟨rfl,by simp [idx,hpx]⟩
      | false =>
        refine wp_loop ?_
        repeat (first|apply wp_as|apply wp_ss|refine wr (by simp [e1,hi2,w1,hpx];with_reducible rfl) ?_|refine wq (by simp [e1,hi2,w1,hpx];with_reducible rfl) ?_|refine wt (by simpa [e1,hi2,w1,hpx]) ?_|refine wf (by simpa [e1,hi2,w1,hpx]) ?_|refine xt (by simpa [e1,hi2,w1,hpx]) ?_|refine xf (by simpa [e1,hi2,w1,hpx]) ?_|apply wp_bs|apply wp_b|refine wp_sr ?_|refine wp_sx ?_|refine wp_ret' ?_|refine wp_skip' ?_|refine wp_exit' ?_)
        have:=ih (i+1) (by omega)
        simp only [idx,hpx] at this ⊢
        exact this
  refine call_of_wp zt449 rfl ?_
  repeat (first|apply wp_as|apply wp_ss|refine wr (by simp;with_reducible rfl) ?_|refine wq (by simp;with_reducible rfl) ?_|refine wt (by simpa) ?_|refine wf (by simpa) ?_|refine xt (by simpa) ?_|refine xf (by simpa) ?_|apply wp_bs|apply wp_b|refine wp_sr ?_|refine wp_sx ?_|refine wp_ret' ?_|refine wp_skip' ?_|refine wp_exit' ?_)
  refine wp_imp (loop xs.length 0 (by simp)) ?_
  rintro ex st (⟨rfl,h,rfl⟩ | ⟨rfl,rfl⟩)
  · simp only [if_true]
    repeat (first|apply wp_as|apply wp_ss|refine wr (by simp;with_reducible rfl) ?_|refine wq (by simp;with_reducible rfl) ?_|refine wt (by simpa) ?_|refine wf (by simpa) ?_|refine xt (by simpa) ?_|refine xf (by simpa) ?_|apply wp_bs|apply wp_b|refine wp_sr ?_|refine wp_sx ?_|refine wp_ret' ?_|refine wp_skip' ?_|refine wp_exit' ?_)
    simp at h
    simp [zi449,h]
  · simp [zi449]
theorem idx_spec (p:Int→Bool):∀ (xs:List Int) (i:Nat),(idx p i xs=-1∧∀ x ∈ xs,p x=false) ∨ ∃ k:Nat,∃ h:k < xs.length,idx p i xs=((i+k:Nat):Int)∧p xs[k]=true∧∀ x ∈ xs.take k,p x=false
  | [],i=>.inl ⟨rfl,by simp⟩
  | x::r,i=>by
    cases hp:p x with
    | true=>exact .inr ⟨0,by simp,by simp [idx,hp],hp,by simp⟩
    | false =>
      rcases idx_spec p r (i+1) with ⟨h1,h2⟩ | ⟨k,hk,h1,h2,h3⟩
      · refine .inl ⟨?_,fun y hy=>?_⟩
        · simp only [idx,hp,Bool.false_eq_true,if_false];exact h1
        · rcases List.mem_cons.1 hy with rfl | hy
          · exact hp
          · exact h2 y hy
      · refine .inr ⟨k+1,by simp;exact hk,?_,h2,fun y hy=>?_⟩
        · simp only [idx,hp,Bool.false_eq_true,if_false]
          rw [show ((i:Int)+1)=((i+1:Nat):Int) by omega,h1];omega
        · rw [List.take_succ_cons] at hy
          rcases List.mem_cons.1 hy with rfl | hy
          · exact hp
          · exact h3 y hy
theorem del_loop (xs:List Int) (F:Lab) (caps:List IV) (M:List Boxes) (p:Int→Bool) (hl:xs.length≤2000000)
    (hp:∀ x ∈ xs,Ev tb F [] (I x::caps) (M++[[]]) ⟨Bo (p x),[],M++[[]],[]⟩):∀ (m j i:Nat) (s:List Int),j+m=xs.length→i < j→s.length=xs.length→s.take i=(xs.take j).filter (fun x=>!p x)→s.drop j=xs.drop j →
    wp tb (.loop z266l11) { T:=[(0,O s),(1,.fn F caps),(5,I i),(6,I j)],loc:=[],M:=M }
      (fun ex st=>ex=.exit 0∧∃ (i:Nat) (s:List Int),(i < xs.length∧s.length=xs.length∧s.take i=xs.filter (fun x=>!p x))∧st={ T:=[(0,O s),(1,.fn F caps),(5,I i),(6,I xs.length),(19,Bo false)],loc:=[],M:=M }):=by
  intro m
  induction m with
  | zero =>
    intro j i s hj hij hs h1 h2
    have h3:j=xs.length:=hj
    subst h3
    rw [List.take_length] at h1
    refine wp_loop ?_
    repeat (first|apply wp_as|apply wp_ss|refine wr (by simp [hs];with_reducible rfl) ?_|refine wq (by simp [hs];with_reducible rfl) ?_|refine wt (by simpa [hs]) ?_|refine wf (by simpa [hs]) ?_|refine xt (by simpa [hs]) ?_|refine xf (by simpa [hs]) ?_|apply wp_bs|apply wp_b|refine wp_sr ?_|refine wp_sx ?_|refine wp_ret' ?_|refine wp_skip' ?_|refine wp_exit' ?_)
    exact ⟨rfl,i,s,⟨hij,hs,h1⟩,rfl⟩
  | succ m ih =>
    intro j i s hj hij hs h1 h2
    have hjl:j < xs.length:=by omega
    have hjs:j < s.length:=by omega
    have hil:i < s.length:=by omega
    have hil':i < xs.length:=by omega
    have hsj:s[j]=xs[j]:=by
      have h3:s.drop j=s[j]::s.drop (j+1):=List.drop_eq_getElem_cons hjs
      have h4:xs.drop j=xs[j]::xs.drop (j+1):=List.drop_eq_getElem_cons hjl
      rw [h3,h4] at h2
      exact (List.cons.inj h2).1
    have hd2:s.drop (j+1)=xs.drop (j+1):=by
      have h3:s.drop j=s[j]::s.drop (j+1):=List.drop_eq_getElem_cons hjs
      have h4:xs.drop j=xs[j]::xs.drop (j+1):=List.drop_eq_getElem_cons hjl
      rw [h3,h4] at h2
      exact (List.cons.inj h2).2
    have e1:=ev_lim (hp _ (List.getElem_mem hjl))
    have w1:IntKind.i64.wrap ((j:Int)+1)=((j+1:Nat):Int):=wrapS (by omega)
    have w2:IntKind.i64.wrap ((i:Int)+1)=((i+1:Nat):Int):=wrapS (by omega)
    have ht:(xs.take (j+1)).filter (fun x=>!p x)=(xs.take j).filter (fun x=>!p x)++(if p xs[j] then [] else [xs[j]]):=by
      rw [List.take_succ_eq_append_getElem hjl,List.filter_append,List.filter_cons,List.filter_nil]
      cases p xs[j] <;> rfl
    cases hpx:p xs[j] with
    | true =>
      rw [hpx,if_pos rfl,List.append_nil] at ht
      have hn:=ih (j+1) i s (by omega) (by omega) hs (by rw [ht];exact h1) hd2
      refine wp_loop ?_
      repeat (first|apply wp_as|apply wp_ss|refine wr (by simp [hs,hjl,hjs,hsj,e1,hpx,w1];with_reducible rfl) ?_|refine wq (by simp [hs,hjl,hjs,hsj,e1,hpx,w1];with_reducible rfl) ?_|refine wt (by simpa [hs,hjl,hjs,hsj,e1,hpx,w1]) ?_|refine wf (by simpa [hs,hjl,hjs,hsj,e1,hpx,w1]) ?_|refine xt (by simpa [hs,hjl,hjs,hsj,e1,hpx,w1]) ?_|refine xf (by simpa [hs,hjl,hjs,hsj,e1,hpx,w1]) ?_|apply wp_bs|apply wp_b|refine wp_sr ?_|refine wp_sx ?_|refine wp_ret' ?_|refine wp_skip' ?_|refine wp_exit' ?_)
      exact hn
    | false =>
      rw [hpx,if_neg (by simp)] at ht
      have hn:=ih (j+1) (i+1) (s.set i xs[j]) (by omega) (by omega) (by simpa using hs) (by
        rw [ht,← h1,List.take_succ_eq_append_getElem (by simpa using hil),List.take_set_of_le (Nat.le_refl _),List.getElem_set_self]) (by
        rw [List.drop_set_of_lt (by omega)];exact hd2)
      refine wp_loop ?_
      repeat (first|apply wp_as|apply wp_ss|refine wr (by simp [hs,hjl,hjs,hsj,e1,hpx,w1,w2,hil,hil'];with_reducible rfl) ?_|refine wq (by simp [hs,hjl,hjs,hsj,e1,hpx,w1,w2,hil,hil'];with_reducible rfl) ?_|refine wt (by simpa [hs,hjl,hjs,hsj,e1,hpx,w1,w2,hil,hil']) ?_|refine wf (by simpa [hs,hjl,hjs,hsj,e1,hpx,w1,w2,hil,hil']) ?_|refine xt (by simpa [hs,hjl,hjs,hsj,e1,hpx,w1,w2,hil,hil']) ?_|refine xf (by simpa [hs,hjl,hjs,hsj,e1,hpx,w1,w2,hil,hil']) ?_|apply wp_bs|apply wp_b|refine wp_sr ?_|refine wp_sx ?_|refine wp_ret' ?_|refine wp_skip' ?_|refine wp_exit' ?_)
      exact hn
theorem ints_isSc (xs:List Int):((ints xs).all fun x=>x.all IV.isSc)=true:=by
  induction xs with
  | nil=>rfl
  | cons x xs ih=>simp only [ints,List.map_cons,List.all_cons] at *;rw [ih];rfl
theorem ev_DeleteFunc (xs:List Int) (F:Lab) (caps:List IV) (M:List Boxes) (p:Int→Bool) (hl:xs.length≤2000000)
    (hp:∀ M' x,x ∈ xs→Ev tb F [] (I x::caps) (M++[[]]++M') ⟨Bo (p x),[],M++[[]]++M',[]⟩) :
    Ev tb zl266 [] [O xs,.fn F caps] M ⟨O (xs.filter fun x=>!p x),[],M,[]⟩:=by
  have e1:=ev_lim (ev_IndexFuncL xs F caps (M++[[]]) p hl (fun x hx=>hp [[]] x hx))
  rcases idx_spec p xs 0 with ⟨h1,h2⟩ | ⟨k,hk,h1,h2,h3⟩
  · rw [show ((0:Nat):Int)=0 from rfl] at h1
    rw [h1] at e1
    have hf:(xs.filter fun x=>!p x)=xs:=List.filter_eq_self.2 fun x hx=>by rw [h2 x hx];rfl
    rw [hf]
    refine call_of_wp zt266 rfl ?_
    repeat (first|apply wp_as|apply wp_ss|refine wr (by simp [e1];with_reducible rfl) ?_|refine wq (by simp [e1];with_reducible rfl) ?_|refine wt (by simpa [e1]) ?_|refine wf (by simpa [e1]) ?_|refine xt (by simpa [e1]) ?_|refine xf (by simpa [e1]) ?_|apply wp_bs|apply wp_b|refine wp_sr ?_|refine wp_sx ?_|refine wp_ret' ?_|refine wp_skip' ?_|refine wp_exit' ?_)
    simp [zi266]
  · rw [show ((0:Nat):Int)=0 from rfl,Nat.zero_add] at h1
    rw [h1] at e1
    have hk0:¬ (k:Int)=-1:=by omega
    have w1:IntKind.i64.wrap ((k:Int)+1)=((k+1:Nat):Int):=wrapS (by omega)
    have hlo:=del_loop xs F caps M p hl (fun x hx=>by simpa using hp [] x hx) (xs.length - (k+1)) (k+1) k xs (by omega) (by omega) rfl (by
      rw [List.take_succ_eq_append_getElem hk,List.filter_append,List.filter_cons,h2]
      simp only [Bool.not_true,Bool.false_eq_true,if_false,List.filter_nil,List.append_nil]
      exact (List.filter_eq_self.2 fun x hx=>by rw [h3 x hx];rfl).symm) rfl
    refine call_of_wp zt266 rfl ?_
    repeat (first|apply wp_as|apply wp_ss|refine wr (by simp [e1,hk0,w1];with_reducible rfl) ?_|refine wq (by simp [e1,hk0,w1];with_reducible rfl) ?_|refine wt (by simpa [e1,hk0,w1]) ?_|refine wf (by simpa [e1,hk0,w1]) ?_|refine xt (by simpa [e1,hk0,w1]) ?_|refine xf (by simpa [e1,hk0,w1]) ?_|apply wp_bs|apply wp_b|refine wp_sr ?_|refine wp_sx ?_|refine wp_ret' ?_|refine wp_skip' ?_|refine wp_exit' ?_)
    refine wp_imp hlo ?_
    rintro ex st ⟨rfl,i,s,⟨k1,k2,k3⟩,rfl⟩
    simp only [if_true]
    have hil:i≤xs.length:=by omega
    have hz:s.drop xs.length=[]:=List.drop_of_length_le (by omega)
    have hti:(s.take i).length=i:=by simp;omega
    have hfl:(xs.filter fun x=>!p x).length=i:=by rw [← k3];exact hti
    generalize (xs.filter fun x=>!p x)=G at *
    have htk:∀ Z:List (List IV),(ints G++Z).take i=ints G:=fun Z=>by
      rw [List.take_append_of_le_length (by rw [ints_len];omega),List.take_of_length_le (by rw [ints_len];omega)]
    repeat (first|apply wp_as|apply wp_ss|refine wr (by simp [k2,hil,↓ints_isSc,hz,k3,hti,hfl,htk];with_reducible rfl) ?_|refine wq (by simp [k2,hil,↓ints_isSc,hz,k3,hti,hfl,htk];with_reducible rfl) ?_|refine wt (by simpa [k2,hil,↓ints_isSc,hz,k3,hti,hfl,htk]) ?_|refine wf (by simpa [k2,hil,↓ints_isSc,hz,k3,hti,hfl,htk]) ?_|refine xt (by simpa [k2,hil,↓ints_isSc,hz,k3,hti,hfl,htk]) ?_|refine xf (by simpa [k2,hil,↓ints_isSc,hz,k3,hti,hfl,htk]) ?_|apply wp_bs|apply wp_b|refine wp_sr ?_|refine wp_sx ?_|refine wp_ret' ?_|refine wp_skip' ?_|refine wp_exit' ?_)
    simp [zi266]
end Go.Idl
namespace Go.Idl
def insC {α:Type} (lt:α→α→Bool) (x:α):List α→List α→List α
  | [],B=>x::B
  | a::r,B=>if lt x a then insC lt x r (a::B) else r.reverse++a::x::B
def srtC {α:Type} (lt:α→α→Bool):List α→List α→List α
  | S,[]=>S
  | S,x::r=>srtC lt (insC lt x S.reverse []) r
theorem insC_perm {α:Type} (lt:α→α→Bool) (x:α):∀ (r B:List α),(insC lt x r B).Perm (r.reverse++x::B)
  | [],B=>.refl _
  | a::r,B=>by
    unfold insC
    split
    · refine (insC_perm lt x r (a::B)).trans ?_
      rw [List.reverse_cons,List.append_assoc]
      exact List.Perm.append_left _ (.swap _ _ _)
    · rw [List.reverse_cons,List.append_assoc]
      exact .refl _
abbrev Srt {α:Type} (lt:α→α→Bool) (l:List α):Prop:=l.Pairwise fun a b=>lt b a=false
theorem insC_srt {α:Type} {lt:α→α→Bool} (ht:∀ a b c,lt b a=false→lt c b=false→lt c a=false) (ha:∀ a b,lt a b=true→lt b a=false) (x:α):∀ (r B:List α),Srt lt (r.reverse++B)→(∀ b ∈ B,lt x b=true)→Srt lt (insC lt x r B)
  | [],B,h,hb=>List.pairwise_cons.2 ⟨fun b hb'=>ha _ _ (hb b hb'),by simpa using h⟩
  | a::r,B,h,hb=>by
    rw [List.reverse_cons,List.append_assoc] at h
    unfold insC
    split
    · rename_i hx
      refine insC_srt ht ha x r (a::B) h fun b hb'=>?_
      rcases List.mem_cons.1 hb' with rfl | hb'
      · exact hx
      · exact hb b hb'
    · rename_i hx
      have hx:lt x a=false:=by simpa using hx
      obtain ⟨h1,h2,h3⟩:=List.pairwise_append.1 (show Srt lt (r.reverse++a::B) from h)
      have h2:=List.pairwise_cons.1 h2
      refine List.pairwise_append.2 ⟨h1,?_,fun p hp q hq=>?_⟩
      · refine List.pairwise_cons.2 ⟨fun q hq=>?_,List.pairwise_cons.2 ⟨fun b hb'=>ha _ _ (hb b hb'),h2.2⟩⟩
        rcases List.mem_cons.1 hq with rfl | hq
        · exact hx
        · exact h2.1 q hq
      · have h4:=h3 p hp a (by simp)
        rcases List.mem_cons.1 hq with rfl | hq
        · exact h4
        · rcases List.mem_cons.1 hq with rfl | hq
          · exact ht _ _ _ h4 hx
          · exact h3 p hp q (by simp [hq])
theorem srtC_ok {α:Type} {lt:α→α→Bool} (ht:∀ a b c,lt b a=false→lt c b=false→lt c a=false) (ha:∀ a b,lt a b=true→lt b a=false):∀ (r S:List α),Srt lt S→Srt lt (srtC lt S r)∧(srtC lt S r).Perm (S++r)
  | [],S,h=>⟨h,by simp [srtC]⟩
  | x::r,S,h=>by
    obtain ⟨h1,h2⟩:=srtC_ok ht ha r (insC lt x S.reverse []) (insC_srt ht ha x _ _ (by simpa using h) (by simp))
    refine ⟨h1,h2.trans ?_⟩
    have:=insC_perm lt x S.reverse []
    rw [List.reverse_reverse] at this
    refine (this.append_right r).trans ?_
    rw [List.append_assoc];exact .refl _
theorem srtC_perm {α:Type} (lt:α→α→Bool):∀ (r S:List α),(srtC lt S r).Perm (S++r)
  | [],S=>by simp [srtC]
  | x::r,S=>by
    refine (srtC_perm lt r _).trans ?_
    have:=insC_perm lt x S.reverse []
    rw [List.reverse_reverse] at this
    refine (this.append_right r).trans ?_
    rw [List.append_assoc];exact .refl _
end Go.Idl
namespace Go.Idl
structure Seg {α:Type} (X X':List α) (a b:Nat):Prop where
  perm:X'.Perm X
  out:∀ k,k < a ∨ b≤k→X'[k]? = X[k]?
theorem Seg.len {α:Type} {X X':List α} {a b:Nat} (h:Seg X X' a b):X'.length=X.length:=h.perm.length_eq
theorem Seg.refl {α:Type} (X:List α) (a b:Nat):Seg X X a b:=⟨.refl _,fun _ _=>rfl⟩
theorem Seg.trans {α:Type} {X Y Z:List α} {a b:Nat} (h:Seg X Y a b) (k:Seg Y Z a b):Seg X Z a b:=⟨k.perm.trans h.perm,fun i hi=>(k.out i hi).trans (h.out i hi)⟩
theorem Seg.mono {α:Type} {X Y:List α} {a b a' b':Nat} (h:Seg X Y a b) (h1:a'≤a) (h2:b≤b'):Seg X Y a' b':=⟨h.perm,fun i hi=>h.out i (by omega)⟩
theorem Seg.nodup {α:Type} {X Y:List α} {a b:Nat} (h:Seg X Y a b) (hn:X.Nodup):Y.Nodup:=h.perm.nodup_iff.2 hn
def swapL {α:Type} (X:List α) (i j:Nat) (hi:i < X.length) (hj:j < X.length):List α:=(X.set i X[j]).set j X[i]
theorem swapL_len {α:Type} (X:List α) (i j:Nat) (hi hj):(swapL X i j hi hj).length=X.length:=by simp [swapL]
theorem swapL_get {α:Type} (X:List α) (i j:Nat) (hi:i < X.length) (hj:j < X.length) (k:Nat):(swapL X i j hi hj)[k]? = if k=j then some X[i] else if k=i then some X[j] else X[k]?:=by
  rw [swapL,List.getElem?_set,List.getElem?_set]
  by_cases h1:k=j
  · subst h1;simp [hj]
  · by_cases h2:k=i
    · subst h2;simp [hi,h1,Ne.symm h1]
    · simp [h1,h2,Ne.symm h1,Ne.symm h2]
theorem swapL_perm {α:Type} (X:List α) (i j:Nat) (hi:i < X.length) (hj:j < X.length):(swapL X i j hi hj).Perm X:=by
  exact List.set_set_perm hi hj
theorem swapL_seg {α:Type} (X:List α) (i j a b:Nat) (hi:i < X.length) (hj:j < X.length) (h1:a≤i∧i < b) (h2:a≤j∧j < b):Seg X (swapL X i j hi hj) a b :=
  ⟨swapL_perm X i j hi hj,fun k hk=>by rw [swapL_get,if_neg (by omega),if_neg (by omega)]⟩
theorem Seg.back {α:Type} {X Y:List α} {a b:Nat} (h:Seg X Y a b) (hn:X.Nodup) {k:Nat} (hk:a≤k∧k < b) {e:α} (he:Y[k]? = some e):∃ l,(a≤l∧l < b)∧X[l]? = some e:=by
  have hm:e ∈ X:=h.perm.mem_iff.1 (List.mem_of_getElem? he)
  obtain ⟨l,hl,rfl⟩:=List.getElem_of_mem hm
  by_cases hlb:a≤l∧l < b
  · exact ⟨l,hlb,List.getElem?_eq_getElem hl⟩
  · have h1:=h.out l (by omega)
    rw [List.getElem?_eq_getElem hl] at h1
    have hny:=h.nodup hn
    have hkl:k < Y.length:=(List.getElem?_eq_some_iff.1 he).1
    have hll:l < Y.length:=by rw [h.len];exact hl
    have h2:=(List.getElem?_eq_some_iff.1 he).2
    have h3:=(List.getElem?_eq_some_iff.1 h1).2
    have h4:k=l:=(List.getElem_inj hny).1 (h2.trans h3.symm)
    omega
end Go.Idl
namespace Go.Idl
open Go
theorem below_total {a b:Int×Int} (h:a ≠ b):below a b=true ∨ below b a=true:=by
  simp only [below,Bool.or_eq_true,Bool.and_eq_true,decide_eq_true_eq]
  have:¬ (a.1=b.1∧a.2=b.2):=fun h2=>h (Prod.ext h2.1 h2.2)
  omega
theorem below_asymm {a b:Int×Int} (h:below a b=true):below b a=false:=by
  rw [← Bool.not_eq_true]
  simp only [below,Bool.or_eq_true,Bool.and_eq_true,decide_eq_true_eq] at *
  omega
end Go.Idl
namespace Go.Idl
open Go
def BelowOn (X:List (Int×Int)) (lo hi:Nat) (x:Int×Int):Prop:=∀ k e,lo≤k→k < hi→X[k]? = some e→below e x=true
def AboveOn (X:List (Int×Int)) (lo hi:Nat) (x:Int×Int):Prop:=∀ k e,lo≤k→k < hi→X[k]? = some e→below e x=false
theorem AboveOn.cons {X:List (Int×Int)} {lo hi:Nat} {x:Int×Int} (h:AboveOn X (lo+1) hi x) (hl:lo < X.length) (hb:below X[lo] x=false):AboveOn X lo hi x:=fun k e h1 h2 he=>by
  by_cases hk:k=lo
  · subst hk
    rw [List.getElem?_eq_getElem hl] at he
    cases he;exact hb
  · exact h k e (by omega) h2 he
structure PInv (X0 X:List (Int×Int)) (a b i j:Nat) (x:Int×Int):Prop where
  seg:Seg X0 X a b
  piv:X[a]? = some x
  lo:BelowOn X (a+1) i x
  hi:AboveOn X (j+1) b x
  ai:a+1≤i
  ij:i≤j+1
  jb:j < b
  bl:b≤X.length
theorem PInv.al {X0 X a b i j x} (h:PInv X0 X a b i j x):a < X.length:=(List.getElem?_eq_some_iff.1 h.piv).1
theorem PInv.xa {X0 X a b i j x} (h:PInv X0 X a b i j x):X[a]'h.al=x:=(List.getElem?_eq_some_iff.1 h.piv).2
theorem PInv.swap {X0 X a b i j x} (h:PInv X0 X a b i j x) (hi:i < X.length) (hj:j < X.length) (hij:i≤j) (h1:below X[i] x=false) (h2:below X[j] x=true) :
    ∃ q,j=q+1∧i < j∧PInv X0 (swapL X i j hi hj) a b (i+1) q x:=by
  have hne:i ≠ j:=by rintro rfl;rw [h1] at h2;cases h2
  have hb:=h.bl
  have hjb:=h.jb
  have hai:=h.ai
  refine ⟨j - 1,by omega,by omega,h.seg.trans (swapL_seg X i j a b hi hj (by omega) (by omega)),?_,?_,?_,by omega,by omega,by omega,by rw [swapL_len];exact hb⟩
  · rw [swapL_get,if_neg (by omega),if_neg (by omega)];exact h.piv
  · intro k e k1 k2 he
    rw [swapL_get,if_neg (by omega)] at he
    by_cases hk:k=i
    · rw [if_pos hk] at he
      cases he;exact h2
    · rw [if_neg hk] at he
      exact h.lo k e k1 (by omega) he
  · intro k e k1 k2 he
    rw [swapL_get] at he
    by_cases hk:k=j
    · rw [if_pos hk] at he
      cases he;exact h1
    · rw [if_neg hk,if_neg (by omega)] at he
      exact h.hi k e (by omega) k2 he
theorem PInv.fin {X0 X a b j x} (h:PInv X0 X a b (j+1) j x) (hj:j < X.length):Seg X0 (swapL X j a hj h.al) a b∧(swapL X j a hj h.al)[j]? = some x∧BelowOn (swapL X j a hj h.al) a j x∧AboveOn (swapL X j a hj h.al) (j+1) b x:=by
  have hb:=h.bl
  have hjb:=h.jb
  have hai:=h.ai
  have hxa:=h.xa
  refine ⟨h.seg.trans (swapL_seg X j a a b hj h.al (by omega) (by omega)),?_,fun k e k1 k2 he=>?_,fun k e k1 k2 he=>?_⟩
  · rw [swapL_get]
    by_cases hja:j=a
    · subst hja;rw [if_pos rfl,hxa]
    · rw [if_neg hja,if_pos rfl,hxa]
  · rw [swapL_get] at he
    by_cases hka:k=a
    · rw [if_pos hka] at he
      cases he
      exact h.lo j _ (by omega) (by omega) (List.getElem?_eq_getElem hj)
    · rw [if_neg hka,if_neg (by omega)] at he
      exact h.lo k e (by omega) (by omega) he
  · rw [swapL_get,if_neg (by omega),if_neg (by omega)] at he
    exact h.hi k e k1 k2 he
end Go.Idl
namespace Go.Idl
open Go
theorem below_ht (a b c:Int×Int) (h1:below b a=false) (h2:below c b=false):below c a=false:=by
  rw [← Bool.not_eq_true] at *
  simp only [below,Bool.or_eq_true,Bool.and_eq_true,decide_eq_true_eq] at *
  omega
end Go.Idl
namespace Go.Idl
open Go
def srtE (X:List (Int×Int)):List (Int×Int):=srtC below [] X
theorem srtE_pw {X:List (Int×Int)} (hn:X.Nodup):PW (srtE X):=by
  obtain ⟨h1,h2⟩:=srtC_ok (lt:=below) below_ht (fun a b h=>below_asymm h) X [] .nil
  have hnd:(srtE X).Nodup:=h2.nodup_iff.2 (by simpa using hn)
  refine (h1.and hnd).imp fun {a b} h=>?_
  rcases below_total h.2 with q | q
  · exact q
  · rw [h.1] at q;cases q
theorem srtE_perm (X:List (Int×Int)):(srtE X).Perm X:=by
  have:=srtC_perm below X []
  rwa [List.nil_append] at this
end Go.Idl
namespace Go.Idl
open Go
structure SmallG (n:Int) (es:List (Int×Int)):Prop where
  n1:-1≤n
  n2:n≤8
  len:es.length≤60
  el:∀ e ∈ es,-1≤e.1∧e.1≤8∧-1≤e.2∧e.2≤8
theorem SmallG.fit {n es} (h:SmallG n es):Fit es:=fun e he=>by have:=h.el e he;omega
theorem good_small {n:Nat} {es:List (Int×Int)} (hn:n≤7) (hs:es.Sublist (prs n)):SmallG n es :=
  ⟨by omega,by omega,by have:=prs_len hn hs;omega,fun e he=>by have:=prs_in hs e he;omega⟩
theorem small_set {n:Int} {es:List (Int×Int)} (h:SmallG n es) {k:Nat} {e:Int×Int} (he:-1≤e.1∧e.1≤8∧-1≤e.2∧e.2≤8):SmallG n (es.set k e) :=
  ⟨h.n1,h.n2,by rw [List.length_set];exact h.len,fun x hx=>by
    rcases List.mem_or_eq_of_mem_set hx with hx | rfl
    · exact h.el x hx
    · exact he⟩
theorem ev_someGraph (code:List Int) (c:Bool) (hc:CodeOk code) (cnt:Nat) (hn:cnt≤80000) (A bs:Boxes) (Ms:List Boxes) :
    ∃ (n:Int) (es:List (Int×Int)) (k:Nat),SmallG n es∧k≤cnt+110 ∧
      limF tb zl378 [] [.bptr 0 A.length 0] ((A++R code c cnt::bs)::Ms)=some ⟨OG n es,[],(A++R code c k::bs)::Ms,[]⟩:=by
  obtain ⟨n,es,k1,hn7,hs,hk1,e1⟩:=ev_goodGraphA code c hc cnt (by omega) A bs (Ms++[[]])
  have e1:=ev_lim e1
  have hS:=good_small hn7 hs
  have hel:=hS.len
  suffices hh:∃ r,(∃ (n:Int) (es:List (Int×Int)) (k:Nat),SmallG n es∧k≤cnt+110∧r=⟨OG n es,[],(A++R code c k::bs)::Ms,[]⟩)∧Ev tb zl378 [] [.bptr 0 A.length 0] ((A++R code c cnt::bs)::Ms) r by
    obtain ⟨r,⟨n,es,k,q1,q2,rfl⟩,q3⟩:=hh
    exact ⟨n,es,k,q1,q2,ev_lim q3⟩
  refine call_ex zt378 rfl ?_
  by_cases h0:es.length=0
  · have h00:es=[]:=List.length_eq_zero_iff.1 h0
    subst h00
    repeat (first|apply wp_as|apply wp_ss|refine wr (by simp [e1];with_reducible rfl) ?_|refine wq (by simp [e1];with_reducible rfl) ?_|refine wt (by simpa [e1]) ?_|refine wf (by simpa [e1]) ?_|refine xt (by simpa [e1]) ?_|refine xf (by simpa [e1]) ?_|apply wp_bs|apply wp_b|refine wp_sr ?_|refine wp_sx ?_|refine wp_ret' ?_|refine wp_skip' ?_|refine wp_exit' ?_)
    refine ⟨.inr rfl,_,⟨n,[],k1,hS,by omega,rfl⟩,?_⟩
    simp [zi378]
  have h1:(0:Int) < es.length:=by omega
  have h1':0 < es.length:=by omega
  obtain ⟨v,k2,hv,hk2,e2⟩:=pickA code c hc k1 (by omega) (es.length:Int) (by omega) A bs (Ms++[[]])
  have hv:=hv (by omega)
  have hvl:v < es.length:=by omega
  obtain ⟨u,k3,-,hk3,e3⟩:=pickA code c hc k2 (by omega) 30 (by omega) A bs (Ms++[[]])
  have hev:=hS.el es[v] (List.getElem_mem hvl)
  by_cases hu0:u=0
  · subst hu0
    obtain ⟨x,k4,hx,hk4,e4⟩:=oneA code c hc k3 (by omega) [-1,7,es[v].2] (by simp) A bs (Ms++[[]])
    have hx:-1≤x∧x≤8:=by simp at hx;omega
    repeat (first|apply wp_as|apply wp_ss|refine wr (by simp [e1,e2,e3,h1,h1'];with_reducible rfl) ?_|refine wq (by simp [e1,e2,e3,h1,h1'];with_reducible rfl) ?_|refine wt (by simpa [e1,e2,e3,h1,h1']) ?_|refine wf (by simpa [e1,e2,e3,h1,h1']) ?_|refine xt (by simpa [e1,e2,e3,h1,h1']) ?_|refine xf (by simpa [e1,e2,e3,h1,h1']) ?_|apply wp_bs|apply wp_b|refine wp_sr ?_|refine wp_sx ?_|refine wp_ret' ?_|refine wp_skip' ?_|refine wp_exit' ?_)
    refine wp_rega (by simp [hvl,e4];with_reducible rfl) (by simp;with_reducible rfl) ?_ ?_
    · intro p hp
      simp only [List.mem_cons,List.not_mem_nil,or_false] at hp
      rcases hp with rfl | rfl
      · exact ⟨_,by simp [hvl,e4];with_reducible rfl,by simp⟩
      · exact ⟨_,by simp [hvl,e4];with_reducible rfl,by simp⟩
    repeat (first|apply wp_as|apply wp_ss|refine wr (by simp;with_reducible rfl) ?_|refine wq (by simp;with_reducible rfl) ?_|refine wt (by simpa) ?_|refine wf (by simpa) ?_|refine xt (by simpa) ?_|refine xf (by simpa) ?_|apply wp_bs|apply wp_b|refine wp_sr ?_|refine wp_sx ?_|refine wp_ret' ?_|refine wp_skip' ?_|refine wp_exit' ?_)
    refine ⟨.inr rfl,_,⟨n,es.set v (x,es[v].2),k4,small_set hS ⟨by omega,by omega,by omega,by omega⟩,by omega,rfl⟩,?_⟩
    simp [zi378]
    rw [List.take_of_length_le (by simp)]
  by_cases hu1:u=1
  · subst hu1
    have hap:SmallG n (es++[es[v]]):=⟨hS.n1,hS.n2,by have:=prs_len hn7 hs;simp;omega,fun e he=>by
      rcases List.mem_append.1 he with he | he
      · exact hS.el e he
      · simp at he;subst he;exact hev⟩
    have hlm:es.length+1≤274877906944:=by omega
    repeat (first|apply wp_as|apply wp_ss|refine wr (by simp [e1,e2,e3,h1,h1'];with_reducible rfl) ?_|refine wq (by simp [e1,e2,e3,h1,h1'];with_reducible rfl) ?_|refine wt (by simpa [e1,e2,e3,h1,h1']) ?_|refine wf (by simpa [e1,e2,e3,h1,h1']) ?_|refine xt (by simpa [e1,e2,e3,h1,h1']) ?_|refine xf (by simpa [e1,e2,e3,h1,h1']) ?_|apply wp_bs|apply wp_b|refine wp_sr ?_|refine wp_sx ?_|refine wp_ret' ?_|refine wp_skip' ?_|refine wp_exit' ?_)
    refine wp_rega (by simp [hvl,hlm];with_reducible rfl) (by simp;with_reducible rfl) ?_ ?_
    · intro p hp
      simp only [List.mem_cons,List.not_mem_nil,or_false] at hp
      subst hp
      exact ⟨_,by simp [hvl,hlm];with_reducible rfl,by simp⟩
    repeat (first|apply wp_as|apply wp_ss|refine wr (by simp;with_reducible rfl) ?_|refine wq (by simp;with_reducible rfl) ?_|refine wt (by simpa) ?_|refine wf (by simpa) ?_|refine xt (by simpa) ?_|refine xf (by simpa) ?_|apply wp_bs|apply wp_b|refine wp_sr ?_|refine wp_sx ?_|refine wp_ret' ?_|refine wp_skip' ?_|refine wp_exit' ?_)
    refine ⟨.inr rfl,_,⟨n,es++[es[v]],k3,hap,by omega,rfl⟩,?_⟩
    simp [zi378]
    rw [List.take_of_length_le (by simp)]
  have hu0':¬ (u:Int)=0:=by omega
  have hu1':¬ (u:Int)=1:=by omega
  by_cases hu2:u=2
  · subst hu2
    obtain ⟨x,k4,hx,hk4,e4⟩:=oneA code c hc k3 (by omega) [-1,8,2] (by simp) A bs (Ms++[[]])
    have hx:-1≤x∧x≤8:=by simp at hx;omega
    repeat (first|apply wp_as|apply wp_ss|refine wr (by simp [e1,e2,e3,e4,h1,h1'];with_reducible rfl) ?_|refine wq (by simp [e1,e2,e3,e4,h1,h1'];with_reducible rfl) ?_|refine wt (by simpa [e1,e2,e3,e4,h1,h1']) ?_|refine wf (by simpa [e1,e2,e3,e4,h1,h1']) ?_|refine xt (by simpa [e1,e2,e3,e4,h1,h1']) ?_|refine xf (by simpa [e1,e2,e3,e4,h1,h1']) ?_|apply wp_bs|apply wp_b|refine wp_sr ?_|refine wp_sx ?_|refine wp_ret' ?_|refine wp_skip' ?_|refine wp_exit' ?_)
    refine ⟨.inr rfl,_,⟨x,es,k4,⟨hx.1,hx.2,hS.len,hS.el⟩,by omega,rfl⟩,?_⟩
    simp [zi378]
  · have hu2':¬ (u:Int)=2:=by omega
    repeat (first|apply wp_as|apply wp_ss|refine wr (by simp [e1,e2,e3,h1,h1',hu0,hu1,hu2,hu0',hu1',hu2'];with_reducible rfl) ?_|refine wq (by simp [e1,e2,e3,h1,h1',hu0,hu1,hu2,hu0',hu1',hu2'];with_reducible rfl) ?_|refine wt (by simpa [e1,e2,e3,h1,h1',hu0,hu1,hu2,hu0',hu1',hu2']) ?_|refine wf (by simpa [e1,e2,e3,h1,h1',hu0,hu1,hu2,hu0',hu1',hu2']) ?_|refine xt (by simpa [e1,e2,e3,h1,h1',hu0,hu1,hu2,hu0',hu1',hu2']) ?_|refine xf (by simpa [e1,e2,e3,h1,h1',hu0,hu1,hu2,hu0',hu1',hu2']) ?_|apply wp_bs|apply wp_b|refine wp_sr ?_|refine wp_sx ?_|refine wp_ret' ?_|refine wp_skip' ?_|refine wp_exit' ?_)
    refine ⟨.inr rfl,_,⟨n,es,k3,hS,by omega,rfl⟩,?_⟩
    simp [zi378]
end Go.Idl
namespace Go.Idl
open Go
def idxB (n:Nat) (but:Int):List Int:=((List.range n).map fun v:Nat=>(v:Int)).filter fun v=>decide (v ≠ but)
def nlI:List Int→IV
  | []=>Z
  | x::r=>O (x::r)
theorem ev_indices (n:Nat) (but:Int) (hn:n≤1000):Ev tb zl212 [] [I n,I but] [] ⟨nlI (idxB n but),[],[],[]⟩:=by
  have loop:∀ (m i:Nat),i+m=n→wp tb (.loop z212l8) { T:=[(1,I but),(5,nlI (idxB i but)),(7,I n),(8,I i)],loc:=[],M:=[] }
      (fun ex st=>ex=.exit 0∧st={ T:=[(1,I but),(5,nlI (idxB n but)),(7,I n),(8,I n),(9,Bo false)],loc:=[],M:=[] }):=by
    intro m
    induction m with
    | zero =>
      intro i hi
      have h3:i=n:=hi
      subst h3
      cases idxB i but with
      | nil =>
        simp only [nlI]
        refine wp_loop ?_
        repeat (first|apply wp_as|apply wp_ss|refine wr (by simp;with_reducible rfl) ?_|refine wq (by simp;with_reducible rfl) ?_|refine wt (by simpa) ?_|refine wf (by simpa) ?_|refine xt (by simpa) ?_|refine xf (by simpa) ?_|apply wp_bs|apply wp_b|refine wp_sr ?_|refine wp_sx ?_|refine wp_ret' ?_|refine wp_skip' ?_|refine wp_exit' ?_)
        exact ⟨rfl,rfl⟩
      | cons x r =>
        simp only [nlI]
        refine wp_loop ?_
        repeat (first|apply wp_as|apply wp_ss|refine wr (by simp;with_reducible rfl) ?_|refine wq (by simp;with_reducible rfl) ?_|refine wt (by simpa) ?_|refine wf (by simpa) ?_|refine xt (by simpa) ?_|refine xf (by simpa) ?_|apply wp_bs|apply wp_b|refine wp_sr ?_|refine wp_sx ?_|refine wp_ret' ?_|refine wp_skip' ?_|refine wp_exit' ?_)
        exact ⟨rfl,rfl⟩
    | succ m ih =>
      intro i hi
      have hi2:i < n:=by omega
      have w2:IntKind.i64.wrap ((i:Int)+1)=((i+1:Nat):Int):=wrapS (by omega)
      have hn2:=ih (i+1) (by omega)
      have hs:idxB (i+1) but=idxB i but++if (i:Int)=but then [] else [(i:Int)]:=by
        simp only [idxB,List.range_succ,List.map_append,List.map_cons,List.map_nil,List.filter_append,List.filter_cons,List.filter_nil]
        congr 1
        by_cases h:(i:Int)=but <;> simp [h]
      rw [hs] at hn2
      have hal:(idxB i but).length≤i:=Nat.le_trans (List.length_filter_le _ _) (by simp)
      generalize idxB i but=A at *
      by_cases hb:but=(i:Int)
      · subst hb
        rw [if_pos rfl,List.append_nil] at hn2
        cases A with
        | nil =>
          rw [show nlI []=Z from rfl] at hn2 ⊢
          refine wp_loop ?_
          repeat (first|apply wp_as|apply wp_ss|refine wr (by simp [hi2,w2];with_reducible rfl) ?_|refine wq (by simp [hi2,w2];with_reducible rfl) ?_|refine wt (by simpa [hi2,w2]) ?_|refine wf (by simpa [hi2,w2]) ?_|refine xt (by simpa [hi2,w2]) ?_|refine xf (by simpa [hi2,w2]) ?_|apply wp_bs|apply wp_b|refine wp_sr ?_|refine wp_sx ?_|refine wp_ret' ?_|refine wp_skip' ?_|refine wp_exit' ?_)
          exact hn2
        | cons x r =>
          rw [show nlI (x::r)=O (x::r) from rfl] at hn2 ⊢
          refine wp_loop ?_
          repeat (first|apply wp_as|apply wp_ss|refine wr (by simp [hi2,w2];with_reducible rfl) ?_|refine wq (by simp [hi2,w2];with_reducible rfl) ?_|refine wt (by simpa [hi2,w2]) ?_|refine wf (by simpa [hi2,w2]) ?_|refine xt (by simpa [hi2,w2]) ?_|refine xf (by simpa [hi2,w2]) ?_|apply wp_bs|apply wp_b|refine wp_sr ?_|refine wp_sx ?_|refine wp_ret' ?_|refine wp_skip' ?_|refine wp_exit' ?_)
          exact hn2
      · have hb':¬ (i:Int)=but:=fun h=>hb h.symm
        rw [if_neg hb'] at hn2
        cases A with
        | nil =>
          rw [List.nil_append,show nlI [(i:Int)]=O [(i:Int)] from rfl] at hn2
          rw [show nlI []=Z from rfl]
          refine wp_loop ?_
          repeat (first|apply wp_as|apply wp_ss|refine wr (by simp [hi2,w2,hb'];with_reducible rfl) ?_|refine wq (by simp [hi2,w2,hb'];with_reducible rfl) ?_|refine wt (by simpa [hi2,w2,hb']) ?_|refine wf (by simpa [hi2,w2,hb']) ?_|refine xt (by simpa [hi2,w2,hb']) ?_|refine xf (by simpa [hi2,w2,hb']) ?_|apply wp_bs|apply wp_b|refine wp_sr ?_|refine wp_sx ?_|refine wp_ret' ?_|refine wp_skip' ?_|refine wp_exit' ?_)
          exact hn2
        | cons x r =>
          rw [show nlI (x::r++[(i:Int)])=O (x::r++[(i:Int)]) from rfl] at hn2
          rw [show nlI (x::r)=O (x::r) from rfl]
          have hal1:r.length+1+1≤274877906944:=by simp at hal;omega
          have hat:(x::r).take (r.length+1)=x::r:=List.take_of_length_le (by simp)
          refine wp_loop ?_
          repeat (first|apply wp_as|apply wp_ss|refine wr (by simp [hi2,w2,hb',hal1,hat];with_reducible rfl) ?_|refine wq (by simp [hi2,w2,hb',hal1,hat];with_reducible rfl) ?_|refine wt (by simpa [hi2,w2,hb',hal1,hat]) ?_|refine wf (by simpa [hi2,w2,hb',hal1,hat]) ?_|refine xt (by simpa [hi2,w2,hb',hal1,hat]) ?_|refine xf (by simpa [hi2,w2,hb',hal1,hat]) ?_|apply wp_bs|apply wp_b|refine wp_sr ?_|refine wp_sx ?_|refine wp_ret' ?_|refine wp_skip' ?_|refine wp_exit' ?_)
          exact hn2
  refine call_of_wp zt212 rfl ?_
  repeat (first|apply wp_as|apply wp_ss|refine wr (by simp;with_reducible rfl) ?_|refine wq (by simp;with_reducible rfl) ?_|refine wt (by simpa) ?_|refine wf (by simpa) ?_|refine xt (by simpa) ?_|refine xf (by simpa) ?_|apply wp_bs|apply wp_b|refine wp_sr ?_|refine wp_sx ?_|refine wp_ret' ?_|refine wp_skip' ?_|refine wp_exit' ?_)
  refine wp_imp (loop n 0 (by simp)) ?_
  rintro ex st ⟨rfl,rfl⟩
  try simp only [if_true]
  cases idxB n but with
  | nil =>
    simp only [nlI]
    repeat (first|apply wp_as|apply wp_ss|refine wr (by simp;with_reducible rfl) ?_|refine wq (by simp;with_reducible rfl) ?_|refine wt (by simpa) ?_|refine wf (by simpa) ?_|refine xt (by simpa) ?_|refine xf (by simpa) ?_|apply wp_bs|apply wp_b|refine wp_sr ?_|refine wp_sx ?_|refine wp_ret' ?_|refine wp_skip' ?_|refine wp_exit' ?_)
    simp [zi212]
  | cons x r =>
    simp only [nlI]
    repeat (first|apply wp_as|apply wp_ss|refine wr (by simp;with_reducible rfl) ?_|refine wq (by simp;with_reducible rfl) ?_|refine wt (by simpa) ?_|refine wf (by simpa) ?_|refine xt (by simpa) ?_|refine xf (by simpa) ?_|apply wp_bs|apply wp_b|refine wp_sr ?_|refine wp_sx ?_|refine wp_ret' ?_|refine wp_skip' ?_|refine wp_exit' ?_)
    simp [zi212]
end Go.Idl
namespace Go.Idl
open Go
theorem idxB_all (n:Nat):idxB n (-1)=(List.range n).map fun v:Nat=>(v:Int):=by
  rw [idxB]
  refine List.filter_eq_self.2 fun x hx=>?_
  obtain ⟨v,_,rfl⟩:=List.mem_map.1 hx
  simp
end Go.Idl
namespace Go.Idl
open Go
def wiB (h:Int→Int→Bool) (u v x:Int):Bool:=decide (x ≠ u) && decide (x ≠ v) && h u x && !h v x
def wi (n:Nat) (h:Int→Int→Bool) (u v:Int):Bool:=!((idxB n (-1)).any (wiB h u v))
def neP (n:Nat) (h:Int→Int→Bool) (e:Int×Int):Bool:=!wi n h e.1 e.2 && !wi n h e.2 e.1
def nest (n:Nat) (h:Int→Int→Bool):Bool:=!((prs n).any (neP n h))
end Go.Idl
namespace Go.Idl
open Go
theorem mv_toA (n:Nat) (hn:n≤7) (es:List (Int×Int)) (c:Bool) (A B:Boxes) (Ms:List Boxes):∀ (m i:Nat),i+m=n →
    wp tb (.loop z363l6) { T:=[(0,.bptr 0 A.length 0),(3,.bptr (Ms.length+1) 0 0),(4,.bptr (Ms.length+1) 1 0),(5,O (rI i)),(6,I i)],loc:=[[I n,L2 es c],[I 0,Z]],M:=B::Ms }
      (fun ex st=>ex=.exit 0∧st={ T:=[(0,.bptr 0 A.length 0),(3,.bptr (Ms.length+1) 0 0),(4,.bptr (Ms.length+1) 1 0),(5,O (rI n)),(6,I n),(16,Bo false)],loc:=[[I n,L2 es c],[I 0,Z]],M:=B::Ms }):=by
  intro m
  induction m with
  | zero =>
    intro i hi
    have h3:i=n:=hi
    subst h3
    refine wp_loop ?_
    repeat (first|apply wp_as|apply wp_ss|refine wr (by simp;with_reducible rfl) ?_|refine wq (by simp;with_reducible rfl) ?_|refine wt (by simpa) ?_|refine wf (by simpa) ?_|refine xt (by simpa) ?_|refine xf (by simpa) ?_|apply wp_bs|apply wp_b|refine wp_sr ?_|refine wp_sx ?_|refine wp_ret' ?_|refine wp_skip' ?_|refine wp_exit' ?_)
    exact ⟨rfl,rfl⟩
  | succ m ih =>
    intro i hi
    have hi2:i < n:=by omega
    have w2:IntKind.i64.wrap ((i:Int)+1)=((i+1:Nat):Int):=wrapS (by omega)
    have hn2:=ih (i+1) (by omega)
    rw [rI_succ] at hn2
    have hal:=rI_len i
    generalize rI i=A at *
    have hl1:i+1≤274877906944:=by omega
    have hT:A.take i=A:=List.take_of_length_le (by omega)
    refine wp_loop ?_
    repeat (first|apply wp_as|apply wp_ss|refine wr (by simp [hi2,w2,hal,hl1,hT];with_reducible rfl) ?_|refine wq (by simp [hi2,w2,hal,hl1,hT];with_reducible rfl) ?_|refine wt (by simpa [hi2,w2,hal,hl1,hT]) ?_|refine wf (by simpa [hi2,w2,hal,hl1,hT]) ?_|refine xt (by simpa [hi2,w2,hal,hl1,hT]) ?_|refine xf (by simpa [hi2,w2,hal,hl1,hT]) ?_|apply wp_bs|apply wp_b|refine wp_sr ?_|refine wp_sx ?_|refine wp_ret' ?_|refine wp_skip' ?_|refine wp_exit' ?_)
    exact hn2
theorem mv_swA (code:List Int) (c0:Bool) (hc:CodeOk code) (n:Nat) (hn:n≤7) (es:List (Int×Int)) (c:Bool) (A bs:Boxes) (Ms:List Boxes):∀ (m i cnt:Nat) (to:List Int),i+m=n→to.length=n→(∀ x ∈ to,0≤x∧x < n)→cnt+m≤900000 →
    wp tb (.loop z363l14) { T:=[(0,.bptr 0 A.length 0),(3,.bptr (Ms.length+1) 0 0),(4,.bptr (Ms.length+1) 1 0),(5,O to),(7,I i)],loc:=[[I n,L2 es c],[I 0,Z]],M:=(A++R code c0 cnt::bs)::Ms }
      (fun ex st=>ex=.exit 2∧∃ (to:List Int) (k:Nat),(to.length=n∧(∀ x ∈ to,0≤x∧x < n)∧k≤cnt+m)∧st={ T:=[(0,.bptr 0 A.length 0),(3,.bptr (Ms.length+1) 0 0),(4,.bptr (Ms.length+1) 1 0),(5,O to),(7,I n),(26,Bo false)],loc:=[[I n,L2 es c],[I 0,Z]],M:=(A++R code c0 k::bs)::Ms }):=by
  intro m
  induction m with
  | zero =>
    intro i cnt to hi hl hb hk
    have h3:i=n:=hi
    subst h3
    refine wp_loop ?_
    repeat (first|apply wp_as|apply wp_ss|refine wr (by simp;with_reducible rfl) ?_|refine wq (by simp;with_reducible rfl) ?_|refine wt (by simpa) ?_|refine wf (by simpa) ?_|refine xt (by simpa) ?_|refine xf (by simpa) ?_|apply wp_bs|apply wp_b|refine wp_sr ?_|refine wp_sx ?_|refine wp_ret' ?_|refine wp_skip' ?_|refine wp_exit' ?_)
    exact ⟨rfl,to,cnt,⟨hl,hb,by omega⟩,rfl⟩
  | succ m ih =>
    intro i cnt to hi hl hb hk
    have hi2:i < n:=by omega
    have hil:i < to.length:=by omega
    obtain ⟨v,k,hv,hk2,e1⟩:=pickA code c0 hc cnt (by omega) (n:Int) (by omega) A bs (Ms++[[[I n,L2 es c],[I 0,Z]]])
    have hv:=hv (by omega)
    have hvn:v < n:=by omega
    have hvl:v < to.length:=by omega
    have w2:IntKind.i64.wrap ((i:Int)+1)=((i+1:Nat):Int):=wrapS (by omega)
    have hi3:=hb _ (List.getElem_mem hil)
    have hv3:=hb _ (List.getElem_mem hvl)
    have hn2:=ih (i+1) k ((to.set i to[v]).set v to[i]) (by omega) (by simpa using hl) (fun x hx=>by
      rcases List.mem_or_eq_of_mem_set hx with hx | rfl
      · rcases List.mem_or_eq_of_mem_set hx with hx | rfl
        · exact hb x hx
        · exact hv3
      · exact hi3) (by omega)
    refine wp_loop ?_
    repeat (first|apply wp_as|apply wp_ss|refine wr (by simp [hi2,hil,hvn,hvl,hl,e1,w2];with_reducible rfl) ?_|refine wq (by simp [hi2,hil,hvn,hvl,hl,e1,w2];with_reducible rfl) ?_|refine wt (by simpa [hi2,hil,hvn,hvl,hl,e1,w2]) ?_|refine wf (by simpa [hi2,hil,hvn,hvl,hl,e1,w2]) ?_|refine xt (by simpa [hi2,hil,hvn,hvl,hl,e1,w2]) ?_|refine xf (by simpa [hi2,hil,hvn,hvl,hl,e1,w2]) ?_|apply wp_bs|apply wp_b|refine wp_sr ?_|refine wp_sx ?_|refine wp_ret' ?_|refine wp_skip' ?_|refine wp_exit' ?_)
    refine wp_imp hn2 ?_
    rintro ex st ⟨rfl,to',k',⟨h1,h2,h3⟩,rfl⟩
    exact ⟨rfl,to',k',⟨h1,h2,by omega⟩,rfl⟩
theorem ev_movedA (code:List Int) (c0:Bool) (hc:CodeOk code) (cnt:Nat) (hcn:cnt≤80000) (n:Nat) (hn:n≤7) (es:List (Int×Int)) (c:Bool) (hes:EdgesIn n es) (hel:es.length≤100) (A bs:Boxes) (Ms:List Boxes) :
    ∃ (out:List (Int×Int)) (k:Nat),out.length=es.length∧EdgesIn n out∧k≤cnt+10 ∧
      limF tb zl363 [] [.bptr 0 A.length 0,Gr n es c] ((A++R code c0 cnt::bs)::Ms)=some ⟨OG n out,[],(A++R code c0 k::bs)::Ms,[]⟩:=by
  suffices hh:∃ r,(∃ (out:List (Int×Int)) (k:Nat),out.length=es.length∧EdgesIn n out∧k≤cnt+10∧r=⟨OG n out,[],(A++R code c0 k::bs)::Ms,[]⟩)∧Ev tb zl363 [] [.bptr 0 A.length 0,Gr n es c] ((A++R code c0 cnt::bs)::Ms) r by
    obtain ⟨r,⟨out,k,q1,q2,q3,rfl⟩,q4⟩:=hh
    exact ⟨out,k,q1,q2,q3,ev_lim q4⟩
  refine call_ex zt363 rfl ?_
  repeat (first|apply wp_as|apply wp_ss|refine wr (by simp;with_reducible rfl) ?_|refine wq (by simp;with_reducible rfl) ?_|refine wt (by simpa) ?_|refine wf (by simpa) ?_|refine xt (by simpa) ?_|refine xf (by simpa) ?_|apply wp_bs|apply wp_b|refine wp_sr ?_|refine wp_sx ?_|refine wp_ret' ?_|refine wp_skip' ?_|refine wp_exit' ?_)
  refine wp_imp (mv_toA n hn es c A (A++R code c0 cnt::bs) Ms n 0 (by omega)) ?_
  rintro ex st ⟨rfl,rfl⟩
  simp only [if_true]
  repeat (first|apply wp_as|apply wp_ss|refine wr (by simp;with_reducible rfl) ?_|refine wq (by simp;with_reducible rfl) ?_|refine wt (by simpa) ?_|refine wf (by simpa) ?_|refine xt (by simpa) ?_|refine xf (by simpa) ?_|apply wp_bs|apply wp_b|refine wp_sr ?_|refine wp_sx ?_|refine wp_ret' ?_|refine wp_skip' ?_|refine wp_exit' ?_)
  refine wp_imp (mv_swA code c0 hc n hn es c A bs Ms n 0 cnt (rI n) (by omega) (rI_len n) (fun x hx=>mem_rI.1 hx) (by omega)) ?_
  rintro ex st ⟨rfl,to,k,⟨h1,h2,h3⟩,rfl⟩
  simp only [if_true]
  repeat (first|apply wp_as|apply wp_ss|refine wr (by simp;with_reducible rfl) ?_|refine wq (by simp;with_reducible rfl) ?_|refine wt (by simpa) ?_|refine wf (by simpa) ?_|refine xt (by simpa) ?_|refine xf (by simpa) ?_|apply wp_bs|apply wp_b|refine wp_sr ?_|refine wp_sx ?_|refine wp_ret' ?_|refine wp_skip' ?_|refine wp_exit' ?_)
  refine wp_imp (mv_ed n hn es c hes hel to h1 h2 ((A++R code c0 k::bs)::Ms) (Ms.length+1) (by simp) es.length 0 [] (by simp) rfl (fun e he=>by simp at he)) ?_
  rintro ex st ⟨rfl,out,⟨h4,h5⟩,rfl⟩
  simp only [if_true]
  have hot:out.take out.length=out:=List.take_of_length_le (Nat.le_refl _)
  repeat (first|apply wp_as|apply wp_ss|refine wr (by simp [hot];with_reducible rfl) ?_|refine wq (by simp [hot];with_reducible rfl) ?_|refine wt (by simpa [hot]) ?_|refine wf (by simpa [hot]) ?_|refine xt (by simpa [hot]) ?_|refine xf (by simpa [hot]) ?_|apply wp_bs|apply wp_b|refine wp_sr ?_|refine wp_sx ?_|refine wp_ret' ?_|refine wp_skip' ?_|refine wp_exit' ?_)
  refine ⟨.inr rfl,_,⟨out,k,h4,h5,by omega,rfl⟩,?_⟩
  simp [zi363]
theorem ev_ofA (code:List Int) (c:Bool) (hc:CodeOk code) (cnt:Nat) (hn:cnt≤2000000) (l:List ByteArray) (cl:Bool) (hl:0 < l.length∧l.length≤1000) (A bs:Boxes) (Ms:List Boxes) :
    ∃ (s:ByteArray) (k:Nat),s ∈ l∧k≤cnt+1∧limF tb zl368 [] [.bptr 0 A.length 0,.lst 1 (strs l) cl] ((A++R code c cnt::bs)::Ms)=some ⟨Str s,[],(A++R code c k::bs)::Ms,[]⟩:=by
  obtain ⟨v,k,hv,hk,e1⟩:=pickA code c hc cnt hn (l.length:Int) (by omega) A bs (Ms++[[]])
  have hv:=hv (by omega)
  have hvl:v < l.length:=by omega
  refine ⟨l[v],k,List.getElem_mem hvl,hk,ev_lim ?_⟩
  refine call_of_wp zt368 rfl ?_
  repeat (first|apply wp_as|apply wp_ss|refine wr (by simp [e1,hvl];with_reducible rfl) ?_|refine wq (by simp [e1,hvl];with_reducible rfl) ?_|refine wt (by simpa [e1,hvl]) ?_|refine wf (by simpa [e1,hvl]) ?_|refine xt (by simpa [e1,hvl]) ?_|refine xf (by simpa [e1,hvl]) ?_|apply wp_bs|apply wp_b|refine wp_sr ?_|refine wp_sx ?_|refine wp_ret' ?_|refine wp_skip' ?_|refine wp_exit' ?_)
  simp [zi368]
theorem ac_loopA (code:List Int) (c:Bool) (hc:CodeOk code) (A bs:Boxes) (Ms:List Boxes):∀ (m:Nat) (cnt:Nat) (s:ByteArray),s.size+m≤7→1≤s.size→cnt+m≤900000 →
    wp tb (.loop z330l6) { T:=[(0,.bptr 0 A.length 0),(3,Str s),(4,I m)],loc:=[],M:=(A++R code c cnt::bs)::Ms }
      (fun ex st=>ex=.exit 0∧∃ (s:ByteArray) (k:Nat),(1≤s.size∧s.size≤7∧k≤cnt+m)∧st={ T:=[(0,.bptr 0 A.length 0),(3,Str s),(4,I 0),(9,Bo false)],loc:=[],M:=(A++R code c k::bs)::Ms }):=by
  intro m
  induction m with
  | zero =>
    intro cnt s hs h1 hk
    refine wp_loop ?_
    repeat (first|apply wp_as|apply wp_ss|refine wr (by simp;with_reducible rfl) ?_|refine wq (by simp;with_reducible rfl) ?_|refine wt (by simpa) ?_|refine wf (by simpa) ?_|refine xt (by simpa) ?_|refine xf (by simpa) ?_|apply wp_bs|apply wp_b|refine wp_sr ?_|refine wp_sx ?_|refine wp_ret' ?_|refine wp_skip' ?_|refine wp_exit' ?_)
    exact ⟨rfl,s,cnt,⟨h1,by omega,by omega⟩,rfl⟩
  | succ m ih =>
    intro cnt s hs h1 hk
    obtain ⟨t,k,ht,hk2,e1⟩:=ev_ofA code c hc cnt (by omega) [⟨#[105]⟩,⟨#[100]⟩] false (by simp) A bs (Ms++[[]])
    have hts:t.size=1:=by
      simp only [List.mem_cons,List.not_mem_nil,or_false] at ht
      rcases ht with rfl | rfl <;> rfl
    have h2:(0:Int) < (m:Int)+1:=by omega
    have w1:IntKind.i64.wrap (m:Int)=(m:Int):=wrap64 (by omega) (by omega)
    have e1:limF tb zl368 [] [.bptr 0 A.length 0,.lst 1 [[Str ⟨#[105]⟩],[Str ⟨#[100]⟩]] false] ((A++R code c cnt::bs)::(Ms++[[]]))=some ⟨Str t,[],(A++R code c k::bs)::(Ms++[[]]),[]⟩:=e1
    have hso:Op.stringOp .add s t=Sem.pure (.string (s++t)):=by
      have hno:¬ (((s.size+t.size:Nat):Int) > IntKind.i64.max):=by rw [show IntKind.i64.max=9223372036854775807 from rfl];omega
      unfold Op.stringOp
      simp only [if_neg hno];rfl
    have hss:(s++t).size=s.size+1:=by rw [ByteArray.size_append,hts]
    have hn2:=ih k (s++t) (by omega) (by omega) (by omega)
    refine wp_loop ?_
    repeat (first|apply wp_as|apply wp_ss|refine wr (by simp [h2,w1,e1,hso];with_reducible rfl) ?_|refine wq (by simp [h2,w1,e1,hso];with_reducible rfl) ?_|refine wt (by simpa [h2,w1,e1,hso]) ?_|refine wf (by simpa [h2,w1,e1,hso]) ?_|refine xt (by simpa [h2,w1,e1,hso]) ?_|refine xf (by simpa [h2,w1,e1,hso]) ?_|apply wp_bs|apply wp_b|refine wp_sr ?_|refine wp_sx ?_|refine wp_ret' ?_|refine wp_skip' ?_|refine wp_exit' ?_)
    refine wp_imp hn2 ?_
    rintro ex st ⟨rfl,s',k',⟨g1,g2,g3⟩,rfl⟩
    exact ⟨rfl,s',k',⟨g1,g2,by omega⟩,rfl⟩
theorem ev_aCodeA (code:List Int) (c:Bool) (hc:CodeOk code) (cnt:Nat) (hn:cnt≤800000) (A bs:Boxes) (Ms:List Boxes) :
    ∃ (s:ByteArray) (k:Nat),1≤s.size∧s.size≤7∧k≤cnt+10∧limF tb zl330 [] [.bptr 0 A.length 0] ((A++R code c cnt::bs)::Ms)=some ⟨Str s,[],(A++R code c k::bs)::Ms,[]⟩:=by
  obtain ⟨x,k1,hx,hk1,e1⟩:=oneA code c hc cnt (by omega) [4,3,5,2,1,0,6] (by simp) A bs (Ms++[[]])
  obtain ⟨m,rfl,hm⟩:∃ m:Nat,x=(m:Int)∧m≤6:=by
    simp at hx
    exact ⟨x.toNat,by omega,by omega⟩
  suffices hh:∃ r,(∃ (s:ByteArray) (k:Nat),1≤s.size∧s.size≤7∧k≤cnt+10∧r=⟨Str s,[],(A++R code c k::bs)::Ms,[]⟩)∧Ev tb zl330 [] [.bptr 0 A.length 0] ((A++R code c cnt::bs)::Ms) r by
    obtain ⟨r,⟨s,k,q1,q2,q3,rfl⟩,q4⟩:=hh
    exact ⟨s,k,q1,q2,q3,ev_lim q4⟩
  refine call_ex zt330 rfl ?_
  repeat (first|apply wp_as|apply wp_ss|refine wr (by simp [e1];with_reducible rfl) ?_|refine wq (by simp [e1];with_reducible rfl) ?_|refine wt (by simpa [e1]) ?_|refine wf (by simpa [e1]) ?_|refine xt (by simpa [e1]) ?_|refine xf (by simpa [e1]) ?_|apply wp_bs|apply wp_b|refine wp_sr ?_|refine wp_sx ?_|refine wp_ret' ?_|refine wp_skip' ?_|refine wp_exit' ?_)
  refine wp_imp (ac_loopA code c hc A bs Ms m k1 ⟨#[105]⟩ (by show 1+m≤7;omega) (by show 1≤1;omega) (by omega)) ?_
  rintro ex st ⟨rfl,s,k,⟨q1,q2,q3⟩,rfl⟩
  simp only [if_true]
  repeat (first|apply wp_as|apply wp_ss|refine wr (by simp;with_reducible rfl) ?_|refine wq (by simp;with_reducible rfl) ?_|refine wt (by simpa) ?_|refine wf (by simpa) ?_|refine xt (by simpa) ?_|refine xf (by simpa) ?_|apply wp_bs|apply wp_b|refine wp_sr ?_|refine wp_sx ?_|refine wp_ret' ?_|refine wp_skip' ?_|refine wp_exit' ?_)
  refine ⟨.inr rfl,_,⟨s,k,q1,q2,by omega,rfl⟩,?_⟩
  simp [zi330]
end Go.Idl
namespace Go.Idl
open Go
theorem ev_DrawCodeOf (code:List Int) (c:Bool) (h:∀ x ∈ code,0≤x∧x≤255) (hl:code.length≤10000000) :
    ∃ (n:Int) (es:List (Int×Int)),SmallG n es∧limF tb zl299 [] [.lst 1 (bytes code) c] []=some ⟨Gr n es false,[],[],[]⟩:=by
  obtain ⟨c',e⟩:=ev_newReader code c [[[I 0,Z]]] (by omega)
  have e1:=ev_lim e
  obtain ⟨v,k1,hv,hk1,e2⟩:=pickA (code.take 2000) c' (code_ok h) 0 (by omega) 3 (by omega) [[I 0,Z]] [] []
  rw [show ((0:Nat):Int)=0 from rfl] at e2
  simp only [List.length_cons,List.length_nil,List.cons_append,List.nil_append,Nat.zero_add] at e2
  by_cases hv0:v=0
  · subst hv0
    obtain ⟨n,es,k,h1,h2,e3⟩:=ev_someGraph (code.take 2000) c' (code_ok h) k1 (by omega) [[I 0,Z]] [] []
    simp only [List.length_cons,List.length_nil,List.cons_append,List.nil_append,Nat.zero_add] at e3
    refine ⟨n,es,h1,ev_lim ?_⟩
    refine call_of_wp zt299 rfl ?_
    repeat (first|apply wp_as|apply wp_ss|refine wr (by simp [e1,e2,e3];with_reducible rfl) ?_|refine wq (by simp [e1,e2,e3];with_reducible rfl) ?_|refine wt (by simpa [e1,e2,e3]) ?_|refine wf (by simpa [e1,e2,e3]) ?_|refine xt (by simpa [e1,e2,e3]) ?_|refine xf (by simpa [e1,e2,e3]) ?_|apply wp_bs|apply wp_b|refine wp_sr ?_|refine wp_sx ?_|refine wp_ret' ?_|refine wp_skip' ?_|refine wp_exit' ?_)
    simp [zi299]
  have hv0':¬ (v:Int)=0:=by omega
  obtain ⟨s,k2,hs1,hs2,hk2,e3⟩:=ev_aCodeA (code.take 2000) c' (code_ok h) k1 (by omega) [[I 0,Z]] [] []
  simp only [List.length_cons,List.length_nil,List.cons_append,List.nil_append,Nat.zero_add] at e3
  have e4:=ev_lim (ev_codeGraph s hs2)
  have hsub:=cgE_sub s
  have hel:=prs_len (by omega) hsub
  have hin:=prs_in hsub
  obtain ⟨out,k3,h1,h2,hk3,e5⟩:=ev_movedA (code.take 2000) c' (code_ok h) k2 (by omega) s.size hs2 (cgE s) false hin (by omega) [[I 0,Z]] [] []
  simp only [List.length_cons,List.length_nil,List.cons_append,List.nil_append,Nat.zero_add] at e5
  have hS:SmallG s.size out:=⟨by omega,by omega,by omega,fun e he=>by have:=h2 e he;omega⟩
  refine ⟨s.size,out,hS,ev_lim ?_⟩
  generalize cgE s=E at *
  refine call_of_wp zt299 rfl ?_
  repeat (first|apply wp_as|apply wp_ss|refine wr (by simp [e1,e2,e3,e4,e5,hv0,hv0'];with_reducible rfl) ?_|refine wq (by simp [e1,e2,e3,e4,e5,hv0,hv0'];with_reducible rfl) ?_|refine wt (by simpa [e1,e2,e3,e4,e5,hv0,hv0']) ?_|refine wf (by simpa [e1,e2,e3,e4,e5,hv0,hv0']) ?_|refine xt (by simpa [e1,e2,e3,e4,e5,hv0,hv0']) ?_|refine xf (by simpa [e1,e2,e3,e4,e5,hv0,hv0']) ?_|apply wp_bs|apply wp_b|refine wp_sr ?_|refine wp_sx ?_|refine wp_ret' ?_|refine wp_skip' ?_|refine wp_exit' ?_)
  simp [zi299]
end Go.Idl
namespace Go.Idl
open Go
theorem bs_inj {a b:ByteArray}:(a.toList == b.toList)=decide (a=b):=by
  rw [Go.Lib.toList_data,Go.Lib.toList_data]
  by_cases h:a=b
  · subst h;simp
  · rw [decide_eq_false h,beq_eq_false_iff_ne]
    intro hc
    apply h
    cases a with | mk a=>cases b with | mk b =>
    congr 1
    exact Array.toList_inj.1 hc
theorem so_eql (a b:ByteArray):Op.stringOp .eql a b=Sem.pure (.bool (decide (a=b))):=by
  unfold Op.stringOp
  simp only [bs_inj];rfl
theorem so_neq (a b:ByteArray):Op.stringOp .neq a b=Sem.pure (.bool (!decide (a=b))):=by
  unfold Op.stringOp
  simp only [bs_inj];rfl
@[simp] theorem frzLL_strs:∀ (l:List ByteArray),frzLL (strs l)=strs l
  | []=>rfl
  | s::l=>by
    show [Str s]::frzLL (strs l)=[Str s]::strs l
    rw [frzLL_strs l]
@[simp] theorem noLstLL_strs:∀ (l:List ByteArray),noLstLL (strs l)=true
  | []=>rfl
  | s::l=>by
    show (noLstL [Str s] && noLstLL (strs l))=true
    rw [noLstLL_strs l];rfl
end Go.Idl
namespace Go.Idl
open Go
theorem wp_rngb {tb:Tbl} {ops:List IOp} {f:Lab} {x:Opd} {g:Nat} {live:List Nat} {bid p q:Nat} {asg body:IC} {st s0 s1:St} {Q:Ex→St→Prop} {es:List (List IV)} {c:Bool} {xs:List Int}
    (h0:execOps (limF tb) st ops=some s0) (h1:({ s0 with T:=tput s0.T g .un }.cut live:St)=s1) (h2:rd s1.T x=.lst 1 es c) (h3:intsOf es=some xs) (h4:pureT s1.T=true) (h5:xs.length < 2 ^ 40)
    (h6:rngW (wp tb asg) (wp tb body) s1.T p q (fun ex s=>match ex with
      | .exit e=>Q (if e=bid then .normal else .exit e) s
      | e=>Q e s) xs.reverse s1):wp tb (.rngb ops f x g live bid p q asg body) st Q:=by
  subst h1
  simp only [wp]
  exact ⟨s0,h0,es,c,xs,h2,h3,h4,h5,h6⟩
theorem intsOf_ints (xs:List Int):intsOf (ints xs)=some xs:=by
  induction xs with
  | nil=>rfl
  | cons x xs ih =>
    simp only [ints,List.map_cons] at *
    show (match intsOf _ with | some ys=>some (x::ys) | none=>none)=_
    rw [ih]
abbrev Lx (es:List (Int×Int)) (c:Nat×Bool):IV:=.lst c.1 (eds es) c.2
def cntC (es:List (Int×Int)) (left:List Int) (v:Int):Nat:=left.countP fun u=>decide (u ≠ v) && hasM es u v
theorem ev_CodeOf_F1 (loc:Boxes) (M':List Boxes) (kv kg:Nat) (u v n:Int) (es:List (Int×Int)) (c:Nat×Bool) (h1:loc[kv]? = some [I v]) (h2:loc[kg]? = some [I n,Lx es c]) (hl:es.length≤100000000∧(c.1=2 ∨ es=[])) :
    Ev tb zl406 [] [I u,.bptr 0 kv 0,.bptr 0 kg 0] (loc::M') ⟨Bo (decide (u ≠ v) && hasM es u v),[],loc::M',[]⟩:=by
  have e1:=ev_lim (ev_has n c.1 es c.2 u v hl.2 hl.1 [])
  refine call_of_wp zt406 rfl ?_
  by_cases hq:u=v
  · subst hq
    repeat (first|apply wp_as|apply wp_ss|refine wr (by simp [h1,h2,e1];with_reducible rfl) ?_|refine wq (by simp [h1,h2,e1];with_reducible rfl) ?_|refine wt (by simpa [h1,h2,e1]) ?_|refine wf (by simpa [h1,h2,e1]) ?_|refine xt (by simpa [h1,h2,e1]) ?_|refine xf (by simpa [h1,h2,e1]) ?_|apply wp_bs|apply wp_b|refine wp_sr ?_|refine wp_sx ?_|refine wp_ret' ?_|refine wp_skip' ?_|refine wp_exit' ?_)
    simp [zi406]
  · repeat (first | apply wp_as | apply wp_ss | refine wr (by simp [h1,h2,e1,hq];with_reducible rfl) ?_ | refine wq (by simp [h1,h2,e1,hq];with_reducible rfl) ?_ | refine wt (by simpa [h1,h2,e1,hq]) ?_ | refine wf (by simpa [h1,h2,e1,hq]) ?_ | refine xt (by simpa [h1,h2,e1,hq]) ?_ | refine xf (by simpa [h1,h2,e1,hq]) ?_ | apply wp_bs | apply wp_b | refine wp_sr ?_ | refine wp_sx ?_ | refine wp_ret' ?_ | refine wp_skip' ?_ | refine wp_exit' ?_)
    simp [zi406,hq]
theorem ev_CodeOf_F2 (loc:Boxes) (M':List Boxes) (kv:Nat) (u v:Int) (h1:loc[kv]? = some [I v]) :
    Ev tb zl407 [] [I u,.bptr 0 kv 0] (loc::M') ⟨Bo (decide (u=v)),[],loc::M',[]⟩:=by
  refine call_of_wp zt407 rfl ?_
  repeat (first|apply wp_as|apply wp_ss|refine wr (by simp [h1];with_reducible rfl) ?_|refine wq (by simp [h1];with_reducible rfl) ?_|refine wt (by simpa [h1]) ?_|refine wf (by simpa [h1]) ?_|refine xt (by simpa [h1]) ?_|refine xf (by simpa [h1]) ?_|apply wp_bs|apply wp_b|refine wp_sr ?_|refine wp_sx ?_|refine wp_ret' ?_|refine wp_skip' ?_|refine wp_exit' ?_)
  by_cases hq:u=v <;> simp [zi407,hq]
theorem set_lastC {α:Type} (l:List α) (a b:α):(l++[a]).set l.length b=l++[b]:=by
  rw [List.set_append_right _ _ (Nat.le_refl _)];simp
theorem set232 {α:Type} (l:List α) (a b c:α):((l.set 2 a).set 3 b).set 2 c=(l.set 2 c).set 3 b:=by
  rw [List.set_comm _ _ (by decide),List.set_set]
theorem app_get {α:Type} {l:List α} {i:Nat} {x:α} (h:l[i]? = some x) (y:List α):(l++y)[i]? = some x:=by
  rw [List.getElem?_append_left (List.getElem?_eq_some_iff.1 h).1,h]
structure Bx (loc:Boxes) (n:Int) (es:List (Int×Int)) (c:Nat×Bool) (left:List Int) (cl:Bool) (ls:List Int) (os:List Int) (kk:Nat) (k:Int) (kf:Nat) (fv:Bool):Prop where
  b0:loc[0]? = some [I n,Lx es c]
  b1:loc[1]? = some [L left cl]
  b2:loc[2]? = some [.own 1 (ls.map fun x=>[.sc (.int .u8 x)])]
  b3:loc[3]? = some [O os]
  bk:loc[kk]? = some [I k]
  bf:loc[kf]? = some [Bo fv]
  h4:4≤kk
  h5:4≤kf
  ne:kk ≠ kf
theorem Bx.app {loc n es c left cl ls os kk k kf fv} (h:Bx loc n es c left cl ls os kk k kf fv) (x:List IV):Bx (loc++[x]) n es c left cl ls os kk k kf fv :=
  ⟨app_get h.b0 _,app_get h.b1 _,app_get h.b2 _,app_get h.b3 _,app_get h.bk _,app_get h.bf _,h.h4,h.h5,h.ne⟩
abbrev T6 (kk kf:Nat):Tm:=[(1,.bptr 0 0 0),(5,.bptr 0 1 0),(6,.bptr 0 2 0),(7,.bptr 0 3 0),(8,.bptr 0 kk 0),(9,.bptr 0 kf 0)]
abbrev asgC:IC:=z151r9
abbrev bodyC:IC:=.block 3 (.seq z151r10 (.seq (.seq z151r11 (.cond (.t 50) (.exit 3) .skip)) (.seq z151r12 (.seq (.seq z151r13 (.cond (.t 59) z151r14 .skip)) (.seq z151r15 (.seq z151r16 (.exit 2)))))))
theorem asg_C (loc:Boxes) (kk kf:Nat) (i v:Int) (left:List Int) (cl:Bool) :
    wp tb asgC { T:=tput (tput (T6 kk kf++[(37,L left cl)]) 39 (.sc (iv i))) 40 (.sc (iv v)),loc:=loc,M:=[] } fun ex s=>ex=.normal∧s={ T:=T6 kk kf++[(11,.bptr 0 loc.length 0)],loc:=loc++[[I v]],M:=[] }:=by
  refine wq (by simp [set_lastC,iv];with_reducible rfl) ?_
  exact ⟨rfl,rfl⟩
theorem body_C1 {loc:Boxes} {n:Int} {es:List (Int×Int)} {c:Nat×Bool} {left:List Int} {cl:Bool} {ls os:List Int} {kk kf kv:Nat} {k v:Int} (h:Bx loc n es c left cl ls os kk k kf false) (hv:loc[kv]? = some [I v])
    (hl:left.length≤2000000) (he:es.length≤100000000∧(c.1=2 ∨ es=[])) (h1:cntC es left v ≠ 0) (h2:(cntC es left v:Int) ≠ k) :
    wp tb bodyC { T:=T6 kk kf++[(11,.bptr 0 kv 0)],loc:=loc,M:=[] } fun ex s=>ex=.normal∧∃ T,s={ T:=T,loc:=loc,M:=[] }:=by
  have e1:=ev_lim (ev_count left cl zl406 [.bptr 0 kv 0,.bptr 0 0 0] [loc] (fun u=>decide (u ≠ v) && hasM es u v) hl (fun u _=>ev_CodeOf_F1 loc [[]] kv 0 u v n es c hv h.b0 he))
  rw [show left.countP (fun u=>decide (u ≠ v) && hasM es u v)=cntC es left v from rfl] at e1
  have b1:=h.b1
  have bk:=h.bk
  repeat (first|apply wp_as|apply wp_ss|refine wr (by simp [e1,b1,bk,h1,h2];with_reducible rfl) ?_|refine wq (by simp [e1,b1,bk,h1,h2];with_reducible rfl) ?_|refine wt (by simpa [e1,b1,bk,h1,h2]) ?_|refine wf (by simpa [e1,b1,bk,h1,h2]) ?_|refine xt (by simpa [e1,b1,bk,h1,h2]) ?_|refine xf (by simpa [e1,b1,bk,h1,h2]) ?_|apply wp_bs|apply wp_b|refine wp_sr ?_|refine wp_sx ?_|refine wp_ret' ?_|refine wp_skip' ?_|refine wp_exit' ?_)
  exact ⟨rfl,_,rfl⟩
def tkC (loc:Boxes) (es:List (Int×Int)) (left ls os:List Int) (kf:Nat) (k:Nat) (v:Int):Boxes :=
  (((loc.set 2 [.own 1 ((ls.set k (if 0 < cntC es left v then 100 else 105)).map fun x=>[.sc (.int .u8 x)])]).set 3 [O (os.set k v)]).set 1 [L (left.filter fun u=>!decide (u=v))]).set kf [Bo true]
theorem body_C2 {loc:Boxes} {n:Int} {es:List (Int×Int)} {c:Nat×Bool} {left:List Int} {cl:Bool} {ls os:List Int} {kk kf kv:Nat} {k:Nat} {v:Int} (h:Bx loc n es c left cl ls os kk k kf false) (hv:loc[kv]? = some [I v]) (h6:4≤kv) (h7:kv ≠ kk) (h8:kv ≠ kf)
    (hl:left.length≤2000000) (he:es.length≤100000000∧(c.1=2 ∨ es=[])) (hk1:k < ls.length) (hk2:k < os.length) (h1:cntC es left v=0 ∨ cntC es left v=k) :
    wp tb bodyC { T:=T6 kk kf++[(11,.bptr 0 kv 0)],loc:=loc,M:=[] } fun ex s=>ex=.exit 2∧∃ T,s={ T:=T,loc:=tkC loc es left ls os kf k v,M:=[] }:=by
  have e1:=ev_lim (ev_count left cl zl406 [.bptr 0 kv 0,.bptr 0 0 0] [loc] (fun u=>decide (u ≠ v) && hasM es u v) hl (fun u _=>ev_CodeOf_F1 loc [[]] kv 0 u v n es c hv h.b0 he))
  rw [show left.countP (fun u=>decide (u ≠ v) && hasM es u v)=cntC es left v from rfl] at e1
  have b1:=h.b1
  have b2:=h.b2
  have b3:=h.b3
  have bk:=h.bk
  have bf:=h.bf
  have n2:¬ 2=kv:=by omega
  have n3:¬ 3=kv:=by omega
  have n4:¬ 2=kk:=by have:=h.h4;omega
  have n5:¬ 3=kk:=by have:=h.h4;omega
  have n6:¬ 2=kf:=by have:=h.h5;omega
  have n7:¬ 3=kf:=by have:=h.h5;omega
  have n8:¬ 1=kf:=by have:=h.h5;omega
  have n9:¬ 1=kk:=by have:=h.h4;omega
  have e3_105:=fun (q:∀ loc1:Boxes,loc1[kv]? = some [I v]→True)=>ev_lim (ev_DeleteFunc left zl407 [.bptr 0 kv 0] [((loc.set 2 [.own 1 ((ls.map fun x=>[IV.sc (.int .u8 x)]).set k [.sc (.int .u8 105)])]).set 3 [O (os.set k v)])] (fun u=>decide (u=v)) hl (fun M' u _=>by have q:=ev_CodeOf_F2 ((loc.set 2 [.own 1 ((ls.map fun x=>[IV.sc (.int .u8 x)]).set k [.sc (.int .u8 105)])]).set 3 [O (os.set k v)]) ([]::M') kv u v (by simp [n2,n3,hv]);simpa using q))
  have e3_105:=e3_105 fun _ _=>trivial
  have e3_100:=fun (q:∀ loc1:Boxes,loc1[kv]? = some [I v]→True)=>ev_lim (ev_DeleteFunc left zl407 [.bptr 0 kv 0] [((loc.set 2 [.own 1 ((ls.map fun x=>[IV.sc (.int .u8 x)]).set k [.sc (.int .u8 100)])]).set 3 [O (os.set k v)])] (fun u=>decide (u=v)) hl (fun M' u _=>by have q:=ev_CodeOf_F2 ((loc.set 2 [.own 1 ((ls.map fun x=>[IV.sc (.int .u8 x)]).set k [.sc (.int .u8 100)])]).set 3 [O (os.set k v)]) ([]::M') kv u v (by simp [n2,n3,hv]);simpa using q))
  have e3_100:=e3_100 fun _ _=>trivial
  have m2:2 < loc.length:=(List.getElem?_eq_some_iff.1 b2).1
  have e2:=ev_lim (ev_Clone left cl hl)
  rcases Nat.eq_zero_or_pos (cntC es left v) with hz | hz
  · repeat (first | apply wp_as | apply wp_ss | refine wr (by simp [e1,b1,bk,hz];with_reducible rfl) ?_ | refine wq (by simp [e1,b1,bk,hz];with_reducible rfl) ?_ | refine wt (by simpa [e1,b1,bk,hz]) ?_ | refine wf (by simpa [e1,b1,bk,hz]) ?_ | refine xt (by simpa [e1,b1,bk,hz]) ?_ | refine xf (by simpa [e1,b1,bk,hz]) ?_ | apply wp_bs | apply wp_b | refine wp_sr ?_ | refine wp_sx ?_ | refine wp_ret' ?_ | refine wp_skip' ?_ | refine wp_exit' ?_)
    refine wp_ra (st1:=_) (by simp [b1,b2,b3,bk,hv,hk1,hk2];with_reducible rfl) (by simp;with_reducible rfl) ?_ ?_
    · intro p hp
      simp only [List.mem_cons,List.not_mem_nil,or_false] at hp
      rcases hp with rfl | rfl | rfl | rfl | rfl | rfl | rfl <;> exact ⟨_,by simp [b1,b2,b3,bk,hv,hk1,hk2,n2,n3,n4,n5];with_reducible rfl,by simp⟩
    repeat (first|apply wp_as|apply wp_ss|refine wr (by simp [b1,b2,b3,bk,bf,n2,n3,n4,n5,n6,n7,n8,n9,e2,e3_105];with_reducible rfl) ?_|refine wq (by simp [b1,b2,b3,bk,bf,n2,n3,n4,n5,n6,n7,n8,n9,e2,e3_105];with_reducible rfl) ?_|refine wt (by simpa [b1,b2,b3,bk,bf,n2,n3,n4,n5,n6,n7,n8,n9,e2,e3_105]) ?_|refine wf (by simpa [b1,b2,b3,bk,bf,n2,n3,n4,n5,n6,n7,n8,n9,e2,e3_105]) ?_|refine xt (by simpa [b1,b2,b3,bk,bf,n2,n3,n4,n5,n6,n7,n8,n9,e2,e3_105]) ?_|refine xf (by simpa [b1,b2,b3,bk,bf,n2,n3,n4,n5,n6,n7,n8,n9,e2,e3_105]) ?_|apply wp_bs|apply wp_b|refine wp_sr ?_|refine wp_sx ?_|refine wp_ret' ?_|refine wp_skip' ?_|refine wp_exit' ?_)
    exact ⟨rfl,[],by simp [tkC,hz,List.map_set]⟩
  · have hck:cntC es left v=k:=by omega
    have hk0:k ≠ 0:=by omega
    have hkp:0 < k:=by omega
    rw [hck] at e1
    repeat (first|apply wp_as|apply wp_ss|refine wr (by simp [e1,b1,bk,hk0];with_reducible rfl) ?_|refine wq (by simp [e1,b1,bk,hk0];with_reducible rfl) ?_|refine wt (by simpa [e1,b1,bk,hk0]) ?_|refine wf (by simpa [e1,b1,bk,hk0]) ?_|refine xt (by simpa [e1,b1,bk,hk0]) ?_|refine xf (by simpa [e1,b1,bk,hk0]) ?_|apply wp_bs|apply wp_b|refine wp_sr ?_|refine wp_sx ?_|refine wp_ret' ?_|refine wp_skip' ?_|refine wp_exit' ?_)
    refine wp_ra (st1:=_) (by simp [b1,b2,b3,bk,hv,hk1,hk2];with_reducible rfl) (by simp;with_reducible rfl) ?_ ?_
    · intro p hp
      simp only [List.mem_cons,List.not_mem_nil,or_false] at hp
      rcases hp with rfl | rfl | rfl | rfl | rfl | rfl | rfl <;> exact ⟨_,by simp [b1,b2,b3,bk,hv,hk1,hk2,n2,n3,n4,n5];with_reducible rfl,by simp⟩
    repeat (first|apply wp_as|apply wp_ss|refine wr (by simp [b1,b2,b3,bk,bf,n2,n3,n4,n5,n6,n7,n8,n9,e2,e3_100,hkp,hk1,m2,set232];with_reducible rfl) ?_|refine wq (by simp [b1,b2,b3,bk,bf,n2,n3,n4,n5,n6,n7,n8,n9,e2,e3_100,hkp,hk1,m2,set232];with_reducible rfl) ?_|refine wt (by simpa [b1,b2,b3,bk,bf,n2,n3,n4,n5,n6,n7,n8,n9,e2,e3_100,hkp,hk1,m2,set232]) ?_|refine wf (by simpa [b1,b2,b3,bk,bf,n2,n3,n4,n5,n6,n7,n8,n9,e2,e3_100,hkp,hk1,m2,set232]) ?_|refine xt (by simpa [b1,b2,b3,bk,bf,n2,n3,n4,n5,n6,n7,n8,n9,e2,e3_100,hkp,hk1,m2,set232]) ?_|refine xf (by simpa [b1,b2,b3,bk,bf,n2,n3,n4,n5,n6,n7,n8,n9,e2,e3_100,hkp,hk1,m2,set232]) ?_|apply wp_bs|apply wp_b|refine wp_sr ?_|refine wp_sx ?_|refine wp_ret' ?_|refine wp_skip' ?_|refine wp_exit' ?_)
    exact ⟨rfl,[],by simp [tkC,hck,hkp,List.map_set]⟩
def bkF (es:List (Int×Int)) (left:List Int) (k:Nat):List Int→Option Int
  | []=>none
  | v::r=>if cntC es left v=0 ∨ cntC es left v=k then some v else bkF es left k r
theorem rounds_C {n:Int} {es:List (Int×Int)} {c:Nat×Bool} {left:List Int} {cl:Bool} {ls os:List Int} {kk kf:Nat} {k:Nat} {Q:Ex→St→Prop} (hl:left.length≤2000000) (he:es.length≤100000000∧(c.1=2 ∨ es=[])) (hk1:k < ls.length) (hk2:k < os.length) :
    ∀ (l:List Int) (loc:Boxes),Bx loc n es c left cl ls os kk k kf false→(bkF es left k l=none→∀ ext,Q .normal { T:=T6 kk kf++[(37,L left cl)],loc:=loc++ext,M:=[] }) →
      (∀ v,bkF es left k l=some v→∀ ext,Q (.exit 2) { T:=T6 kk kf++[(37,L left cl)],loc:=tkC (loc++ext) es left ls os kf k v,M:=[] }) →
      rngW (wp tb asgC) (wp tb bodyC) (T6 kk kf++[(37,L left cl)]) 39 40 Q l { T:=T6 kk kf++[(37,L left cl)],loc:=loc,M:=[] }
  | [],loc,h,h1,h2=>by
    have:=h1 rfl []
    simpa [rngW] using this
  | v::r,loc,h,h1,h2=>by
    simp only [rngW]
    refine wp_imp (asg_C loc kk kf r.length v left cl) ?_
    rintro ex s ⟨rfl,rfl⟩
    refine ⟨rfl,?_⟩
    have hv:(loc++[[I v]])[loc.length]? = some [I v]:=by simp
    have hkk:kk < loc.length:=(List.getElem?_eq_some_iff.1 h.bk).1
    have hkf:kf < loc.length:=(List.getElem?_eq_some_iff.1 h.bf).1
    have h4:=h.h4
    by_cases hc:cntC es left v=0 ∨ cntC es left v=k
    · refine wp_imp (body_C2 (h.app [I v]) hv (by omega) (by omega) (by omega) hl he hk1 hk2 hc) ?_
      rintro ex s ⟨rfl,T,rfl⟩
      exact h2 v (by simp [bkF,hc]) [[I v]]
    · refine wp_imp (body_C1 (h.app [I v]) hv hl he (fun e=>hc (.inl e)) (fun e=>hc (.inr (by exact_mod_cast e)))) ?_
      rintro ex s ⟨rfl,T,rfl⟩
      refine rounds_C hl he hk1 hk2 r (loc++[[I v]]) (h.app [I v]) (fun hn ext=>?_) (fun u hu ext=>?_)
      · rw [List.append_assoc];exact h1 (by simp [bkF,hc,hn]) _
      · rw [List.append_assoc];exact h2 u (by simp [bkF,hc,hu]) _
end Go.Idl
namespace Go.Idl
open Go
def ltr (es:List (Int×Int)) (left:List Int) (v:Int):Int:=if 0 < cntC es left v then 100 else 105
def coI (es:List (Int×Int)):Nat→List Int→List Int→List Int→Option (List Int×List Int)
  | 0,_,ls,os=>some (ls,os)
  | k+1,left,ls,os=>match bkF es left k left.reverse with
    | none=>none
    | some v=>coI es k (left.filter fun u=>!decide (u=v)) (ltr es left v::ls) (v::os)
structure Bq (loc:Boxes) (n:Int) (es:List (Int×Int)) (c:Nat×Bool) (left:List Int) (cl:Bool) (ls:List Int) (os:List Int) (kk:Nat) (k:Int):Prop where
  b0:loc[0]? = some [I n,Lx es c]
  b1:loc[1]? = some [L left cl]
  b2:loc[2]? = some [.own 1 (ls.map fun x=>[.sc (.int .u8 x)])]
  b3:loc[3]? = some [O os]
  bk:loc[kk]? = some [I k]
  h4:4≤kk
theorem Bq.bx {loc n es c left cl ls os kk k} (h:Bq loc n es c left cl ls os kk k):Bx (loc++[[Bo false]]) n es c left cl ls os kk k loc.length false:=by
  have hk:=(List.getElem?_eq_some_iff.1 h.bk).1
  have h4:=h.h4
  exact ⟨app_get h.b0 _,app_get h.b1 _,app_get h.b2 _,app_get h.b3 _,app_get h.bk _,by simp,h.h4,by omega,by omega⟩
theorem Bx.apps {loc n es c left cl ls os kk k kf fv} (h:Bx loc n es c left cl ls os kk k kf fv) (x:Boxes):Bx (loc++x) n es c left cl ls os kk k kf fv :=
  ⟨app_get h.b0 _,app_get h.b1 _,app_get h.b2 _,app_get h.b3 _,app_get h.bk _,app_get h.bf _,h.h4,h.h5,h.ne⟩
theorem set_get_ne {α:Type} {l:List α} {i j:Nat} {x y:α} (h:l[i]? = some x) (hne:j ≠ i):(l.set j y)[i]? = some x:=by
  rw [List.getElem?_set_ne hne,h]
theorem set_get_eq {α:Type} {l:List α} {i:Nat} {x y:α} (h:l[i]? = some x):(l.set i y)[i]? = some y:=by
  rw [List.getElem?_set_self (List.getElem?_eq_some_iff.1 h).1]
theorem Bx.tk {loc n es c left cl ls os kk kf} {k:Nat} {v:Int} (h:Bx loc n es c left cl ls os kk k kf false) :
    Bx (tkC loc es left ls os kf k v) n es c (left.filter fun u=>!decide (u=v)) false (ls.set k (ltr es left v)) (os.set k v) kk k kf true:=by
  have h4:=h.h4
  have h5:=h.h5
  have ne:=h.ne
  unfold tkC
  refine ⟨?_,?_,?_,?_,?_,?_,h4,h5,ne⟩
  · exact set_get_ne (set_get_ne (set_get_ne (set_get_ne h.b0 (by omega)) (by omega)) (by omega)) (by omega)
  · exact set_get_ne (set_get_eq (set_get_ne (set_get_ne h.b1 (by omega)) (by omega))) (by omega)
  · exact set_get_ne (set_get_ne (set_get_ne (set_get_eq h.b2) (by omega)) (by omega)) (by omega)
  · exact set_get_ne (set_get_ne (set_get_eq (set_get_ne h.b3 (by omega))) (by omega)) (by omega)
  · exact set_get_ne (set_get_ne (set_get_ne (set_get_ne h.bk (by omega)) (by omega)) (by omega)) (by omega)
  · exact set_get_eq (set_get_ne (set_get_ne (set_get_ne h.bf (by omega)) (by omega)) (by omega))
theorem rep_set {α:Type} (m:Nat) (z x:α) (l:List α):(List.replicate (m+1) z++l).set m x=List.replicate m z++x::l:=by
  rw [List.replicate_succ',List.append_assoc]
  rw [List.set_append_right _ _ (by simp)]
  simp
theorem wp_seqI {tb:Tbl} {a b:IC} {st:St} {Q:Ex→St→Prop} (h:wp tb a st fun ex st'=>match ex with
    | .normal=>wp tb b st' Q
    | e=>Q e st'):wp tb (.seq a b) st Q:=by
  simp only [wp]
  exact h
abbrev T5 (kk:Nat):Tm:=[(1,.bptr 0 0 0),(5,.bptr 0 1 0),(6,.bptr 0 2 0),(7,.bptr 0 3 0),(8,.bptr 0 kk 0)]
def endC (r:Option (List Int×List Int)) (ex:Ex) (st:St):Prop:=match r with
  | some (l,o)=>ex=.exit 0∧∃ loc kk,st={ T:=T5 kk++[(34,Bo false)],loc:=loc,M:=[] }∧loc[2]? = some [.own 1 (l.map fun x=>[.sc (.int .u8 x)])]∧loc[3]? = some [O o]
  | none=>ex=.ret∧∃ loc,st={ T:=[(2,.sc (.string ByteArray.empty)),(3,Z),(4,Bo false),(7,.bptr 0 3 0)],loc:=loc,M:=[] }
theorem loop_C {n:Int} {es:List (Int×Int)} {c:Nat×Bool} (he:es.length≤100000000∧(c.1=2 ∨ es=[])):∀ (m:Nat) (left:List Int) (cl:Bool) (lsd osd:List Int) (loc:Boxes) (kk:Nat),m≤2000000→left.length≤2000000 →
    Bq loc n es c left cl (List.replicate m 0++lsd) (List.replicate m 0++osd) kk ((m:Int) - 1)→wp tb (.loop z151l22) { T:=T5 kk,loc:=loc,M:=[] } (endC (coI es m left lsd osd))
  | 0,left,cl,lsd,osd,loc,kk,hm,hl,h=>by
    have bk:=h.bk
    refine wp_loop ?_
    repeat (first|apply wp_as|apply wp_ss|refine wr (by simp [bk];with_reducible rfl) ?_|refine wq (by simp [bk];with_reducible rfl) ?_|refine wt (by simpa [bk]) ?_|refine wf (by simpa [bk]) ?_|refine xt (by simpa [bk]) ?_|refine xf (by simpa [bk]) ?_|apply wp_bs|apply wp_b|refine wp_sr ?_|refine wp_sx ?_|refine wp_ret' ?_|refine wp_skip' ?_|refine wp_exit' ?_)
    refine ⟨rfl,loc,kk,by simp,?_,?_⟩
    · simpa using h.b2
    · simpa using h.b3
  | m+1,left,cl,lsd,osd,loc,kk,hm,hl,h=>by
    have bk:=h.bk
    have b1:=h.b1
    have hb:=h.bx
    have hm1:(((m+1:Nat):Int) - 1)=(m:Int):=by omega
    rw [hm1] at bk hb
    have bb1:=hb.b1
    refine wp_loop ?_
    repeat (first|apply wp_as|apply wp_ss|refine wr (by simp [bk];with_reducible rfl) ?_|refine wq (by simp [bk];with_reducible rfl) ?_|refine wt (by simpa [bk]) ?_|refine wf (by simpa [bk]) ?_|refine xt (by simpa [bk]) ?_|refine xf (by simpa [bk]) ?_|apply wp_bs|apply wp_b|refine wp_sr ?_|refine wp_sx ?_|refine wp_ret' ?_|refine wp_skip' ?_|refine wp_exit' ?_)
    refine wp_seqI (wp_rngb (by simp [z151r8,bb1];with_reducible rfl) (by simp;with_reducible rfl) (by simp;with_reducible rfl) (intsOf_ints left) (by simp [pureT,pureV]) (by omega) ?_)
    refine rounds_C (k:=m) (ls:=List.replicate (m+1) 0++lsd) (os:=List.replicate (m+1) 0++osd) hl he (by simp;omega) (by simp;omega) left.reverse _ hb (fun hn ext=>?_) (fun v hv ext=>?_)
    · show wp tb _ _ _
      have bf:((loc++[[IV.sc (.bool false)]])++ext)[loc.length]? = some [Bo false]:=app_get hb.bf _
      repeat (first|apply wp_as|apply wp_ss|refine wr (by simp [bf];with_reducible rfl) ?_|refine wq (by simp [bf];with_reducible rfl) ?_|refine wt (by simpa [bf]) ?_|refine wf (by simpa [bf]) ?_|refine xt (by simpa [bf]) ?_|refine xf (by simpa [bf]) ?_|apply wp_bs|apply wp_b|refine wp_sr ?_|refine wp_sx ?_|refine wp_ret' ?_|refine wp_skip' ?_|refine wp_exit' ?_)
      have hc:coI es (m+1) left lsd osd=none:=by simp [coI,hn]
      show endC _ .ret _
      rw [hc]
      exact ⟨rfl,_,rfl⟩
    · show wp tb _ _ _
      have ht:=Bx.tk (v:=v) (Bx.apps hb ext)
      have hc:coI es (m+1) left lsd osd=coI es m (left.filter fun u=>!decide (u=v)) (ltr es left v::lsd) (v::osd):=by simp [coI,hv]
      rw [hc]
      rw [rep_set,rep_set] at ht
      generalize tkC ((loc++[[Bo false]])++ext) es left _ _ _ m v=loc2 at ht ⊢
      have bf:=ht.bf
      have bk2:=ht.bk
      have w:IntKind.i64.wrap ((m:Int) - 1)=(m:Int) - 1:=wrap64 (by omega) (by omega)
      repeat (first|apply wp_as|apply wp_ss|refine wr (by simp [bf,bk2,w];with_reducible rfl) ?_|refine wq (by simp [bf,bk2,w];with_reducible rfl) ?_|refine wt (by simpa [bf,bk2,w]) ?_|refine wf (by simpa [bf,bk2,w]) ?_|refine xt (by simpa [bf,bk2,w]) ?_|refine xf (by simpa [bf,bk2,w]) ?_|apply wp_bs|apply wp_b|refine wp_sr ?_|refine wp_sx ?_|refine wp_ret' ?_|refine wp_skip' ?_|refine wp_exit' ?_)
      refine loop_C he m _ false _ _ _ _ (by omega) (Nat.le_trans (List.length_filter_le _ _) hl) ⟨app_get ht.b0 _,app_get ht.b1 _,app_get ht.b2 _,app_get ht.b3 _,by simp,?_⟩
      have:=(List.getElem?_eq_some_iff.1 ht.bk).1
      have:=ht.h4
      omega
end Go.Idl
namespace Go.Idl
open Go
def resC:Option (List Int×List Int)→IV
  | some (l,o)=>.tup [.sc (.string (strNums l)),O o,Bo true]
  | none=>.tup [.sc (.string ByteArray.empty),Z,Bo false]
theorem numsOf_map (l:List Int):numsOf (l.map fun x=>[.sc (.int .u8 x)])=some l:=by
  induction l with
  | nil=>rfl
  | cons x l ih =>
    simp only [List.map_cons]
    show (match numsOf _ with | some xs=>some (x::xs) | none=>none)=_
    rw [ih]
theorem ev_CodeOf1 (es:List (Int×Int)) (c:Nat×Bool) (hl:es.length≤100000000∧(c.1=2 ∨ es=[])) (e1:limF tb zl26 [] [.agg [I 1,Lx es c]] []=some ⟨Bo true,[],[],[]⟩) :
    Ev tb zl151 [] [.agg [I 1,Lx es c]] [] ⟨resC (coI es 1 (idxB 1 (-1)) [] []),[],[],[]⟩:=by
  have e2:limF tb zl212 [] [I 1,I (-1)] []=some ⟨.own 1 [[I 0]],[],[],[]⟩:=ev_lim (ev_indices 1 (-1) (by omega))
  refine call_of_wp zt151 rfl ?_
  have q3:natOf (I 1)=some 1:=rfl
  repeat (first|apply wp_as|apply wp_ss|refine wr (by simp [e1,e2];with_reducible rfl) ?_|refine wq (by simp [e1,e2];with_reducible rfl) ?_|refine wt (by simpa [e1,e2]) ?_|refine wf (by simpa [e1,e2]) ?_|refine xt (by simpa [e1,e2]) ?_|refine xf (by simpa [e1,e2]) ?_|apply wp_bs|apply wp_b|refine wp_sr ?_|refine wp_sx ?_|refine wp_ret' ?_|refine wp_skip' ?_|refine wp_exit' ?_)
  refine wp_rdws (by simp [NHops]) (by simp [elemsOf,q3];with_reducible rfl) (by simp;with_reducible rfl) ?_ ?_
  · intro p hp
    simp only [List.mem_cons,List.not_mem_nil,or_false] at hp
    have f1:∀ a,IV.noK 0 2 3 (.own 1 a)=true:=fun _=>rfl
    have f2:∀ e a c,IV.noK 0 2 3 (.lst e a c)=true:=fun _ _ _=>rfl
    have f3:∀ v,IV.noK 0 2 3 (.sc v)=true:=fun _=>rfl
    rcases hp with rfl | rfl | rfl | rfl | rfl | rfl | rfl | rfl | rfl
    iterate 3 (exact ⟨_,by simp [elemsOf,q3];with_reducible rfl,.inl (by simp)⟩)
    iterate 4 (refine ⟨_,by simp [elemsOf,q3];with_reducible rfl,.inr ⟨2,3,by simp,by simp,by simp [St.swB,f1,f2,f3,IV.flat,IV.swb,swN]⟩⟩)
    · exact ⟨_,by simp [elemsOf,q3];with_reducible rfl,.inl (by simp)⟩
    · refine ⟨_,by simp [elemsOf,q3];with_reducible rfl,.inr ⟨2,3,by simp,by simp,by simp [St.swB,f1,f2,f3,IV.flat,IV.swb,swN]⟩⟩
  have w2:IntKind.i64.wrap 0=0:=by decide
  iterate 3 (first|apply wp_as|apply wp_ss|refine wr (by simp [w2];with_reducible rfl) ?_|refine wq (by simp [w2];with_reducible rfl) ?_|refine wt (by simpa [w2]) ?_|refine wf (by simpa [w2]) ?_|refine xt (by simpa [w2]) ?_|refine xf (by simpa [w2]) ?_|apply wp_bs|apply wp_b|refine wp_sr ?_|refine wp_sx ?_|refine wp_ret' ?_|refine wp_skip' ?_|refine wp_exit' ?_)
  refine wp_imp (loop_C hl 1 [0] false [] [] _ 4 (by omega) (by simp) ⟨rfl,rfl,rfl,rfl,rfl,by omega⟩) ?_
  intro ex st h
  rw [show idxB 1 (-1)=[0] from rfl]
  unfold endC at h
  cases hq:coI es 1 [0] [] [] with
  | none =>
    rw [hq] at h
    obtain ⟨rfl,loc,rfl⟩:=h
    simp [zi151,resC]
  | some r =>
    obtain ⟨l,o⟩:=r
    rw [hq] at h
    obtain ⟨rfl,loc,kk,rfl,h2,h3⟩:=h
    have hm:numsOf (List.take l.length (List.map (fun x=>[IV.sc (.int .u8 x)]) l))=some l:=by rw [List.take_of_length_le (by simp)];exact numsOf_map l
    show wp tb _ _ _
    refine wp_ra (st1:=_) (by simp [h2,h3,hm];with_reducible rfl) (by simp;with_reducible rfl) ?_ ?_
    · intro p hp
      simp only [List.mem_cons,List.not_mem_nil,or_false] at hp
      subst hp
      exact ⟨_,by simp [h2,h3,hm];with_reducible rfl,by simp⟩
    repeat (first|apply wp_as|apply wp_ss|refine wr (by simp;with_reducible rfl) ?_|refine wq (by simp;with_reducible rfl) ?_|refine wt (by simpa) ?_|refine wf (by simpa) ?_|refine xt (by simpa) ?_|refine xf (by simpa) ?_|apply wp_bs|apply wp_b|refine wp_sr ?_|refine wp_sx ?_|refine wp_ret' ?_|refine wp_skip' ?_|refine wp_exit' ?_)
    simp [zi151,resC,h3]
theorem ev_CodeOf2 (es:List (Int×Int)) (c:Nat×Bool) (hl:es.length≤100000000∧(c.1=2 ∨ es=[])) (e1:limF tb zl26 [] [.agg [I 2,Lx es c]] []=some ⟨Bo true,[],[],[]⟩) :
    Ev tb zl151 [] [.agg [I 2,Lx es c]] [] ⟨resC (coI es 2 (idxB 2 (-1)) [] []),[],[],[]⟩:=by
  have e2:limF tb zl212 [] [I 2,I (-1)] []=some ⟨.own 1 [[I 0],[I 1]],[],[],[]⟩:=ev_lim (ev_indices 2 (-1) (by omega))
  refine call_of_wp zt151 rfl ?_
  have q3:natOf (I 2)=some 2:=rfl
  repeat (first|apply wp_as|apply wp_ss|refine wr (by simp [e1,e2];with_reducible rfl) ?_|refine wq (by simp [e1,e2];with_reducible rfl) ?_|refine wt (by simpa [e1,e2]) ?_|refine wf (by simpa [e1,e2]) ?_|refine xt (by simpa [e1,e2]) ?_|refine xf (by simpa [e1,e2]) ?_|apply wp_bs|apply wp_b|refine wp_sr ?_|refine wp_sx ?_|refine wp_ret' ?_|refine wp_skip' ?_|refine wp_exit' ?_)
  refine wp_rdws (by simp [NHops]) (by simp [elemsOf,q3];with_reducible rfl) (by simp;with_reducible rfl) ?_ ?_
  · intro p hp
    simp only [List.mem_cons,List.not_mem_nil,or_false] at hp
    have f1:∀ a,IV.noK 0 2 3 (.own 1 a)=true:=fun _=>rfl
    have f2:∀ e a c,IV.noK 0 2 3 (.lst e a c)=true:=fun _ _ _=>rfl
    have f3:∀ v,IV.noK 0 2 3 (.sc v)=true:=fun _=>rfl
    rcases hp with rfl | rfl | rfl | rfl | rfl | rfl | rfl | rfl | rfl
    iterate 3 (exact ⟨_,by simp [elemsOf,q3];with_reducible rfl,.inl (by simp)⟩)
    iterate 4 (refine ⟨_,by simp [elemsOf,q3];with_reducible rfl,.inr ⟨2,3,by simp,by simp,by simp [St.swB,f1,f2,f3,IV.flat,IV.swb,swN]⟩⟩)
    · exact ⟨_,by simp [elemsOf,q3];with_reducible rfl,.inl (by simp)⟩
    · refine ⟨_,by simp [elemsOf,q3];with_reducible rfl,.inr ⟨2,3,by simp,by simp,by simp [St.swB,f1,f2,f3,IV.flat,IV.swb,swN]⟩⟩
  have w2:IntKind.i64.wrap 1=1:=by decide
  iterate 3 (first|apply wp_as|apply wp_ss|refine wr (by simp [w2];with_reducible rfl) ?_|refine wq (by simp [w2];with_reducible rfl) ?_|refine wt (by simpa [w2]) ?_|refine wf (by simpa [w2]) ?_|refine xt (by simpa [w2]) ?_|refine xf (by simpa [w2]) ?_|apply wp_bs|apply wp_b|refine wp_sr ?_|refine wp_sx ?_|refine wp_ret' ?_|refine wp_skip' ?_|refine wp_exit' ?_)
  refine wp_imp (loop_C hl 2 [0,1] false [] [] _ 4 (by omega) (by simp) ⟨rfl,rfl,rfl,rfl,rfl,by omega⟩) ?_
  intro ex st h
  rw [show idxB 2 (-1)=[0,1] from rfl]
  unfold endC at h
  cases hq:coI es 2 [0,1] [] [] with
  | none =>
    rw [hq] at h
    obtain ⟨rfl,loc,rfl⟩:=h
    simp [zi151,resC]
  | some r =>
    obtain ⟨l,o⟩:=r
    rw [hq] at h
    obtain ⟨rfl,loc,kk,rfl,h2,h3⟩:=h
    have hm:numsOf (List.take l.length (List.map (fun x=>[IV.sc (.int .u8 x)]) l))=some l:=by rw [List.take_of_length_le (by simp)];exact numsOf_map l
    show wp tb _ _ _
    refine wp_ra (st1:=_) (by simp [h2,h3,hm];with_reducible rfl) (by simp;with_reducible rfl) ?_ ?_
    · intro p hp
      simp only [List.mem_cons,List.not_mem_nil,or_false] at hp
      subst hp
      exact ⟨_,by simp [h2,h3,hm];with_reducible rfl,by simp⟩
    repeat (first|apply wp_as|apply wp_ss|refine wr (by simp;with_reducible rfl) ?_|refine wq (by simp;with_reducible rfl) ?_|refine wt (by simpa) ?_|refine wf (by simpa) ?_|refine xt (by simpa) ?_|refine xf (by simpa) ?_|apply wp_bs|apply wp_b|refine wp_sr ?_|refine wp_sx ?_|refine wp_ret' ?_|refine wp_skip' ?_|refine wp_exit' ?_)
    simp [zi151,resC,h3]
theorem ev_CodeOf3 (es:List (Int×Int)) (c:Nat×Bool) (hl:es.length≤100000000∧(c.1=2 ∨ es=[])) (e1:limF tb zl26 [] [.agg [I 3,Lx es c]] []=some ⟨Bo true,[],[],[]⟩) :
    Ev tb zl151 [] [.agg [I 3,Lx es c]] [] ⟨resC (coI es 3 (idxB 3 (-1)) [] []),[],[],[]⟩:=by
  have e2:limF tb zl212 [] [I 3,I (-1)] []=some ⟨.own 1 [[I 0],[I 1],[I 2]],[],[],[]⟩:=ev_lim (ev_indices 3 (-1) (by omega))
  refine call_of_wp zt151 rfl ?_
  have q3:natOf (I 3)=some 3:=rfl
  repeat (first|apply wp_as|apply wp_ss|refine wr (by simp [e1,e2];with_reducible rfl) ?_|refine wq (by simp [e1,e2];with_reducible rfl) ?_|refine wt (by simpa [e1,e2]) ?_|refine wf (by simpa [e1,e2]) ?_|refine xt (by simpa [e1,e2]) ?_|refine xf (by simpa [e1,e2]) ?_|apply wp_bs|apply wp_b|refine wp_sr ?_|refine wp_sx ?_|refine wp_ret' ?_|refine wp_skip' ?_|refine wp_exit' ?_)
  refine wp_rdws (by simp [NHops]) (by simp [elemsOf,q3];with_reducible rfl) (by simp;with_reducible rfl) ?_ ?_
  · intro p hp
    simp only [List.mem_cons,List.not_mem_nil,or_false] at hp
    have f1:∀ a,IV.noK 0 2 3 (.own 1 a)=true:=fun _=>rfl
    have f2:∀ e a c,IV.noK 0 2 3 (.lst e a c)=true:=fun _ _ _=>rfl
    have f3:∀ v,IV.noK 0 2 3 (.sc v)=true:=fun _=>rfl
    rcases hp with rfl | rfl | rfl | rfl | rfl | rfl | rfl | rfl | rfl
    iterate 3 (exact ⟨_,by simp [elemsOf,q3];with_reducible rfl,.inl (by simp)⟩)
    iterate 4 (refine ⟨_,by simp [elemsOf,q3];with_reducible rfl,.inr ⟨2,3,by simp,by simp,by simp [St.swB,f1,f2,f3,IV.flat,IV.swb,swN]⟩⟩)
    · exact ⟨_,by simp [elemsOf,q3];with_reducible rfl,.inl (by simp)⟩
    · refine ⟨_,by simp [elemsOf,q3];with_reducible rfl,.inr ⟨2,3,by simp,by simp,by simp [St.swB,f1,f2,f3,IV.flat,IV.swb,swN]⟩⟩
  have w2:IntKind.i64.wrap 2=2:=by decide
  iterate 3 (first|apply wp_as|apply wp_ss|refine wr (by simp [w2];with_reducible rfl) ?_|refine wq (by simp [w2];with_reducible rfl) ?_|refine wt (by simpa [w2]) ?_|refine wf (by simpa [w2]) ?_|refine xt (by simpa [w2]) ?_|refine xf (by simpa [w2]) ?_|apply wp_bs|apply wp_b|refine wp_sr ?_|refine wp_sx ?_|refine wp_ret' ?_|refine wp_skip' ?_|refine wp_exit' ?_)
  refine wp_imp (loop_C hl 3 [0,1,2] false [] [] _ 4 (by omega) (by simp) ⟨rfl,rfl,rfl,rfl,rfl,by omega⟩) ?_
  intro ex st h
  rw [show idxB 3 (-1)=[0,1,2] from rfl]
  unfold endC at h
  cases hq:coI es 3 [0,1,2] [] [] with
  | none =>
    rw [hq] at h
    obtain ⟨rfl,loc,rfl⟩:=h
    simp [zi151,resC]
  | some r =>
    obtain ⟨l,o⟩:=r
    rw [hq] at h
    obtain ⟨rfl,loc,kk,rfl,h2,h3⟩:=h
    have hm:numsOf (List.take l.length (List.map (fun x=>[IV.sc (.int .u8 x)]) l))=some l:=by rw [List.take_of_length_le (by simp)];exact numsOf_map l
    show wp tb _ _ _
    refine wp_ra (st1:=_) (by simp [h2,h3,hm];with_reducible rfl) (by simp;with_reducible rfl) ?_ ?_
    · intro p hp
      simp only [List.mem_cons,List.not_mem_nil,or_false] at hp
      subst hp
      exact ⟨_,by simp [h2,h3,hm];with_reducible rfl,by simp⟩
    repeat (first|apply wp_as|apply wp_ss|refine wr (by simp;with_reducible rfl) ?_|refine wq (by simp;with_reducible rfl) ?_|refine wt (by simpa) ?_|refine wf (by simpa) ?_|refine xt (by simpa) ?_|refine xf (by simpa) ?_|apply wp_bs|apply wp_b|refine wp_sr ?_|refine wp_sx ?_|refine wp_ret' ?_|refine wp_skip' ?_|refine wp_exit' ?_)
    simp [zi151,resC,h3]
theorem ev_CodeOf4 (es:List (Int×Int)) (c:Nat×Bool) (hl:es.length≤100000000∧(c.1=2 ∨ es=[])) (e1:limF tb zl26 [] [.agg [I 4,Lx es c]] []=some ⟨Bo true,[],[],[]⟩) :
    Ev tb zl151 [] [.agg [I 4,Lx es c]] [] ⟨resC (coI es 4 (idxB 4 (-1)) [] []),[],[],[]⟩:=by
  have e2:limF tb zl212 [] [I 4,I (-1)] []=some ⟨.own 1 [[I 0],[I 1],[I 2],[I 3]],[],[],[]⟩:=ev_lim (ev_indices 4 (-1) (by omega))
  refine call_of_wp zt151 rfl ?_
  have q3:natOf (I 4)=some 4:=rfl
  repeat (first|apply wp_as|apply wp_ss|refine wr (by simp [e1,e2];with_reducible rfl) ?_|refine wq (by simp [e1,e2];with_reducible rfl) ?_|refine wt (by simpa [e1,e2]) ?_|refine wf (by simpa [e1,e2]) ?_|refine xt (by simpa [e1,e2]) ?_|refine xf (by simpa [e1,e2]) ?_|apply wp_bs|apply wp_b|refine wp_sr ?_|refine wp_sx ?_|refine wp_ret' ?_|refine wp_skip' ?_|refine wp_exit' ?_)
  refine wp_rdws (by simp [NHops]) (by simp [elemsOf,q3];with_reducible rfl) (by simp;with_reducible rfl) ?_ ?_
  · intro p hp
    simp only [List.mem_cons,List.not_mem_nil,or_false] at hp
    have f1:∀ a,IV.noK 0 2 3 (.own 1 a)=true:=fun _=>rfl
    have f2:∀ e a c,IV.noK 0 2 3 (.lst e a c)=true:=fun _ _ _=>rfl
    have f3:∀ v,IV.noK 0 2 3 (.sc v)=true:=fun _=>rfl
    rcases hp with rfl | rfl | rfl | rfl | rfl | rfl | rfl | rfl | rfl
    iterate 3 (exact ⟨_,by simp [elemsOf,q3];with_reducible rfl,.inl (by simp)⟩)
    iterate 4 (refine ⟨_,by simp [elemsOf,q3];with_reducible rfl,.inr ⟨2,3,by simp,by simp,by simp [St.swB,f1,f2,f3,IV.flat,IV.swb,swN]⟩⟩)
    · exact ⟨_,by simp [elemsOf,q3];with_reducible rfl,.inl (by simp)⟩
    · refine ⟨_,by simp [elemsOf,q3];with_reducible rfl,.inr ⟨2,3,by simp,by simp,by simp [St.swB,f1,f2,f3,IV.flat,IV.swb,swN]⟩⟩
  have w2:IntKind.i64.wrap 3=3:=by decide
  iterate 3 (first|apply wp_as|apply wp_ss|refine wr (by simp [w2];with_reducible rfl) ?_|refine wq (by simp [w2];with_reducible rfl) ?_|refine wt (by simpa [w2]) ?_|refine wf (by simpa [w2]) ?_|refine xt (by simpa [w2]) ?_|refine xf (by simpa [w2]) ?_|apply wp_bs|apply wp_b|refine wp_sr ?_|refine wp_sx ?_|refine wp_ret' ?_|refine wp_skip' ?_|refine wp_exit' ?_)
  refine wp_imp (loop_C hl 4 [0,1,2,3] false [] [] _ 4 (by omega) (by simp) ⟨rfl,rfl,rfl,rfl,rfl,by omega⟩) ?_
  intro ex st h
  rw [show idxB 4 (-1)=[0,1,2,3] from rfl]
  unfold endC at h
  cases hq:coI es 4 [0,1,2,3] [] [] with
  | none =>
    rw [hq] at h
    obtain ⟨rfl,loc,rfl⟩:=h
    simp [zi151,resC]
  | some r =>
    obtain ⟨l,o⟩:=r
    rw [hq] at h
    obtain ⟨rfl,loc,kk,rfl,h2,h3⟩:=h
    have hm:numsOf (List.take l.length (List.map (fun x=>[IV.sc (.int .u8 x)]) l))=some l:=by rw [List.take_of_length_le (by simp)];exact numsOf_map l
    show wp tb _ _ _
    refine wp_ra (st1:=_) (by simp [h2,h3,hm];with_reducible rfl) (by simp;with_reducible rfl) ?_ ?_
    · intro p hp
      simp only [List.mem_cons,List.not_mem_nil,or_false] at hp
      subst hp
      exact ⟨_,by simp [h2,h3,hm];with_reducible rfl,by simp⟩
    repeat (first|apply wp_as|apply wp_ss|refine wr (by simp;with_reducible rfl) ?_|refine wq (by simp;with_reducible rfl) ?_|refine wt (by simpa) ?_|refine wf (by simpa) ?_|refine xt (by simpa) ?_|refine xf (by simpa) ?_|apply wp_bs|apply wp_b|refine wp_sr ?_|refine wp_sx ?_|refine wp_ret' ?_|refine wp_skip' ?_|refine wp_exit' ?_)
    simp [zi151,resC,h3]
theorem ev_CodeOf5 (es:List (Int×Int)) (c:Nat×Bool) (hl:es.length≤100000000∧(c.1=2 ∨ es=[])) (e1:limF tb zl26 [] [.agg [I 5,Lx es c]] []=some ⟨Bo true,[],[],[]⟩) :
    Ev tb zl151 [] [.agg [I 5,Lx es c]] [] ⟨resC (coI es 5 (idxB 5 (-1)) [] []),[],[],[]⟩:=by
  have e2:limF tb zl212 [] [I 5,I (-1)] []=some ⟨.own 1 [[I 0],[I 1],[I 2],[I 3],[I 4]],[],[],[]⟩:=ev_lim (ev_indices 5 (-1) (by omega))
  refine call_of_wp zt151 rfl ?_
  have q3:natOf (I 5)=some 5:=rfl
  repeat (first|apply wp_as|apply wp_ss|refine wr (by simp [e1,e2];with_reducible rfl) ?_|refine wq (by simp [e1,e2];with_reducible rfl) ?_|refine wt (by simpa [e1,e2]) ?_|refine wf (by simpa [e1,e2]) ?_|refine xt (by simpa [e1,e2]) ?_|refine xf (by simpa [e1,e2]) ?_|apply wp_bs|apply wp_b|refine wp_sr ?_|refine wp_sx ?_|refine wp_ret' ?_|refine wp_skip' ?_|refine wp_exit' ?_)
  refine wp_rdws (by simp [NHops]) (by simp [elemsOf,q3];with_reducible rfl) (by simp;with_reducible rfl) ?_ ?_
  · intro p hp
    simp only [List.mem_cons,List.not_mem_nil,or_false] at hp
    have f1:∀ a,IV.noK 0 2 3 (.own 1 a)=true:=fun _=>rfl
    have f2:∀ e a c,IV.noK 0 2 3 (.lst e a c)=true:=fun _ _ _=>rfl
    have f3:∀ v,IV.noK 0 2 3 (.sc v)=true:=fun _=>rfl
    rcases hp with rfl | rfl | rfl | rfl | rfl | rfl | rfl | rfl | rfl
    iterate 3 (exact ⟨_,by simp [elemsOf,q3];with_reducible rfl,.inl (by simp)⟩)
    iterate 4 (refine ⟨_,by simp [elemsOf,q3];with_reducible rfl,.inr ⟨2,3,by simp,by simp,by simp [St.swB,f1,f2,f3,IV.flat,IV.swb,swN]⟩⟩)
    · exact ⟨_,by simp [elemsOf,q3];with_reducible rfl,.inl (by simp)⟩
    · refine ⟨_,by simp [elemsOf,q3];with_reducible rfl,.inr ⟨2,3,by simp,by simp,by simp [St.swB,f1,f2,f3,IV.flat,IV.swb,swN]⟩⟩
  have w2:IntKind.i64.wrap 4=4:=by decide
  iterate 3 (first|apply wp_as|apply wp_ss|refine wr (by simp [w2];with_reducible rfl) ?_|refine wq (by simp [w2];with_reducible rfl) ?_|refine wt (by simpa [w2]) ?_|refine wf (by simpa [w2]) ?_|refine xt (by simpa [w2]) ?_|refine xf (by simpa [w2]) ?_|apply wp_bs|apply wp_b|refine wp_sr ?_|refine wp_sx ?_|refine wp_ret' ?_|refine wp_skip' ?_|refine wp_exit' ?_)
  refine wp_imp (loop_C hl 5 [0,1,2,3,4] false [] [] _ 4 (by omega) (by simp) ⟨rfl,rfl,rfl,rfl,rfl,by omega⟩) ?_
  intro ex st h
  rw [show idxB 5 (-1)=[0,1,2,3,4] from rfl]
  unfold endC at h
  cases hq:coI es 5 [0,1,2,3,4] [] [] with
  | none =>
    rw [hq] at h
    obtain ⟨rfl,loc,rfl⟩:=h
    simp [zi151,resC]
  | some r =>
    obtain ⟨l,o⟩:=r
    rw [hq] at h
    obtain ⟨rfl,loc,kk,rfl,h2,h3⟩:=h
    have hm:numsOf (List.take l.length (List.map (fun x=>[IV.sc (.int .u8 x)]) l))=some l:=by rw [List.take_of_length_le (by simp)];exact numsOf_map l
    show wp tb _ _ _
    refine wp_ra (st1:=_) (by simp [h2,h3,hm];with_reducible rfl) (by simp;with_reducible rfl) ?_ ?_
    · intro p hp
      simp only [List.mem_cons,List.not_mem_nil,or_false] at hp
      subst hp
      exact ⟨_,by simp [h2,h3,hm];with_reducible rfl,by simp⟩
    repeat (first|apply wp_as|apply wp_ss|refine wr (by simp;with_reducible rfl) ?_|refine wq (by simp;with_reducible rfl) ?_|refine wt (by simpa) ?_|refine wf (by simpa) ?_|refine xt (by simpa) ?_|refine xf (by simpa) ?_|apply wp_bs|apply wp_b|refine wp_sr ?_|refine wp_sx ?_|refine wp_ret' ?_|refine wp_skip' ?_|refine wp_exit' ?_)
    simp [zi151,resC,h3]
theorem ev_CodeOf6 (es:List (Int×Int)) (c:Nat×Bool) (hl:es.length≤100000000∧(c.1=2 ∨ es=[])) (e1:limF tb zl26 [] [.agg [I 6,Lx es c]] []=some ⟨Bo true,[],[],[]⟩) :
    Ev tb zl151 [] [.agg [I 6,Lx es c]] [] ⟨resC (coI es 6 (idxB 6 (-1)) [] []),[],[],[]⟩:=by
  have e2:limF tb zl212 [] [I 6,I (-1)] []=some ⟨.own 1 [[I 0],[I 1],[I 2],[I 3],[I 4],[I 5]],[],[],[]⟩:=ev_lim (ev_indices 6 (-1) (by omega))
  refine call_of_wp zt151 rfl ?_
  have q3:natOf (I 6)=some 6:=rfl
  repeat (first|apply wp_as|apply wp_ss|refine wr (by simp [e1,e2];with_reducible rfl) ?_|refine wq (by simp [e1,e2];with_reducible rfl) ?_|refine wt (by simpa [e1,e2]) ?_|refine wf (by simpa [e1,e2]) ?_|refine xt (by simpa [e1,e2]) ?_|refine xf (by simpa [e1,e2]) ?_|apply wp_bs|apply wp_b|refine wp_sr ?_|refine wp_sx ?_|refine wp_ret' ?_|refine wp_skip' ?_|refine wp_exit' ?_)
  refine wp_rdws (by simp [NHops]) (by simp [elemsOf,q3];with_reducible rfl) (by simp;with_reducible rfl) ?_ ?_
  · intro p hp
    simp only [List.mem_cons,List.not_mem_nil,or_false] at hp
    have f1:∀ a,IV.noK 0 2 3 (.own 1 a)=true:=fun _=>rfl
    have f2:∀ e a c,IV.noK 0 2 3 (.lst e a c)=true:=fun _ _ _=>rfl
    have f3:∀ v,IV.noK 0 2 3 (.sc v)=true:=fun _=>rfl
    rcases hp with rfl | rfl | rfl | rfl | rfl | rfl | rfl | rfl | rfl
    iterate 3 (exact ⟨_,by simp [elemsOf,q3];with_reducible rfl,.inl (by simp)⟩)
    iterate 4 (refine ⟨_,by simp [elemsOf,q3];with_reducible rfl,.inr ⟨2,3,by simp,by simp,by simp [St.swB,f1,f2,f3,IV.flat,IV.swb,swN]⟩⟩)
    · exact ⟨_,by simp [elemsOf,q3];with_reducible rfl,.inl (by simp)⟩
    · refine ⟨_,by simp [elemsOf,q3];with_reducible rfl,.inr ⟨2,3,by simp,by simp,by simp [St.swB,f1,f2,f3,IV.flat,IV.swb,swN]⟩⟩
  have w2:IntKind.i64.wrap 5=5:=by decide
  iterate 3 (first|apply wp_as|apply wp_ss|refine wr (by simp [w2];with_reducible rfl) ?_|refine wq (by simp [w2];with_reducible rfl) ?_|refine wt (by simpa [w2]) ?_|refine wf (by simpa [w2]) ?_|refine xt (by simpa [w2]) ?_|refine xf (by simpa [w2]) ?_|apply wp_bs|apply wp_b|refine wp_sr ?_|refine wp_sx ?_|refine wp_ret' ?_|refine wp_skip' ?_|refine wp_exit' ?_)
  refine wp_imp (loop_C hl 6 [0,1,2,3,4,5] false [] [] _ 4 (by omega) (by simp) ⟨rfl,rfl,rfl,rfl,rfl,by omega⟩) ?_
  intro ex st h
  rw [show idxB 6 (-1)=[0,1,2,3,4,5] from rfl]
  unfold endC at h
  cases hq:coI es 6 [0,1,2,3,4,5] [] [] with
  | none =>
    rw [hq] at h
    obtain ⟨rfl,loc,rfl⟩:=h
    simp [zi151,resC]
  | some r =>
    obtain ⟨l,o⟩:=r
    rw [hq] at h
    obtain ⟨rfl,loc,kk,rfl,h2,h3⟩:=h
    have hm:numsOf (List.take l.length (List.map (fun x=>[IV.sc (.int .u8 x)]) l))=some l:=by rw [List.take_of_length_le (by simp)];exact numsOf_map l
    show wp tb _ _ _
    refine wp_ra (st1:=_) (by simp [h2,h3,hm];with_reducible rfl) (by simp;with_reducible rfl) ?_ ?_
    · intro p hp
      simp only [List.mem_cons,List.not_mem_nil,or_false] at hp
      subst hp
      exact ⟨_,by simp [h2,h3,hm];with_reducible rfl,by simp⟩
    repeat (first|apply wp_as|apply wp_ss|refine wr (by simp;with_reducible rfl) ?_|refine wq (by simp;with_reducible rfl) ?_|refine wt (by simpa) ?_|refine wf (by simpa) ?_|refine xt (by simpa) ?_|refine xf (by simpa) ?_|apply wp_bs|apply wp_b|refine wp_sr ?_|refine wp_sx ?_|refine wp_ret' ?_|refine wp_skip' ?_|refine wp_exit' ?_)
    simp [zi151,resC,h3]
theorem ev_CodeOf7 (es:List (Int×Int)) (c:Nat×Bool) (hl:es.length≤100000000∧(c.1=2 ∨ es=[])) (e1:limF tb zl26 [] [.agg [I 7,Lx es c]] []=some ⟨Bo true,[],[],[]⟩) :
    Ev tb zl151 [] [.agg [I 7,Lx es c]] [] ⟨resC (coI es 7 (idxB 7 (-1)) [] []),[],[],[]⟩:=by
  have e2:limF tb zl212 [] [I 7,I (-1)] []=some ⟨.own 1 [[I 0],[I 1],[I 2],[I 3],[I 4],[I 5],[I 6]],[],[],[]⟩:=ev_lim (ev_indices 7 (-1) (by omega))
  refine call_of_wp zt151 rfl ?_
  have q3:natOf (I 7)=some 7:=rfl
  repeat (first|apply wp_as|apply wp_ss|refine wr (by simp [e1,e2];with_reducible rfl) ?_|refine wq (by simp [e1,e2];with_reducible rfl) ?_|refine wt (by simpa [e1,e2]) ?_|refine wf (by simpa [e1,e2]) ?_|refine xt (by simpa [e1,e2]) ?_|refine xf (by simpa [e1,e2]) ?_|apply wp_bs|apply wp_b|refine wp_sr ?_|refine wp_sx ?_|refine wp_ret' ?_|refine wp_skip' ?_|refine wp_exit' ?_)
  refine wp_rdws (by simp [NHops]) (by simp [elemsOf,q3];with_reducible rfl) (by simp;with_reducible rfl) ?_ ?_
  · intro p hp
    simp only [List.mem_cons,List.not_mem_nil,or_false] at hp
    have f1:∀ a,IV.noK 0 2 3 (.own 1 a)=true:=fun _=>rfl
    have f2:∀ e a c,IV.noK 0 2 3 (.lst e a c)=true:=fun _ _ _=>rfl
    have f3:∀ v,IV.noK 0 2 3 (.sc v)=true:=fun _=>rfl
    rcases hp with rfl | rfl | rfl | rfl | rfl | rfl | rfl | rfl | rfl
    iterate 3 (exact ⟨_,by simp [elemsOf,q3];with_reducible rfl,.inl (by simp)⟩)
    iterate 4 (refine ⟨_,by simp [elemsOf,q3];with_reducible rfl,.inr ⟨2,3,by simp,by simp,by simp [St.swB,f1,f2,f3,IV.flat,IV.swb,swN]⟩⟩)
    · exact ⟨_,by simp [elemsOf,q3];with_reducible rfl,.inl (by simp)⟩
    · refine ⟨_,by simp [elemsOf,q3];with_reducible rfl,.inr ⟨2,3,by simp,by simp,by simp [St.swB,f1,f2,f3,IV.flat,IV.swb,swN]⟩⟩
  have w2:IntKind.i64.wrap 6=6:=by decide
  iterate 3 (first|apply wp_as|apply wp_ss|refine wr (by simp [w2];with_reducible rfl) ?_|refine wq (by simp [w2];with_reducible rfl) ?_|refine wt (by simpa [w2]) ?_|refine wf (by simpa [w2]) ?_|refine xt (by simpa [w2]) ?_|refine xf (by simpa [w2]) ?_|apply wp_bs|apply wp_b|refine wp_sr ?_|refine wp_sx ?_|refine wp_ret' ?_|refine wp_skip' ?_|refine wp_exit' ?_)
  refine wp_imp (loop_C hl 7 [0,1,2,3,4,5,6] false [] [] _ 4 (by omega) (by simp) ⟨rfl,rfl,rfl,rfl,rfl,by omega⟩) ?_
  intro ex st h
  rw [show idxB 7 (-1)=[0,1,2,3,4,5,6] from rfl]
  unfold endC at h
  cases hq:coI es 7 [0,1,2,3,4,5,6] [] [] with
  | none =>
    rw [hq] at h
    obtain ⟨rfl,loc,rfl⟩:=h
    simp [zi151,resC]
  | some r =>
    obtain ⟨l,o⟩:=r
    rw [hq] at h
    obtain ⟨rfl,loc,kk,rfl,h2,h3⟩:=h
    have hm:numsOf (List.take l.length (List.map (fun x=>[IV.sc (.int .u8 x)]) l))=some l:=by rw [List.take_of_length_le (by simp)];exact numsOf_map l
    show wp tb _ _ _
    refine wp_ra (st1:=_) (by simp [h2,h3,hm];with_reducible rfl) (by simp;with_reducible rfl) ?_ ?_
    · intro p hp
      simp only [List.mem_cons,List.not_mem_nil,or_false] at hp
      subst hp
      exact ⟨_,by simp [h2,h3,hm];with_reducible rfl,by simp⟩
    repeat (first|apply wp_as|apply wp_ss|refine wr (by simp;with_reducible rfl) ?_|refine wq (by simp;with_reducible rfl) ?_|refine wt (by simpa) ?_|refine wf (by simpa) ?_|refine xt (by simpa) ?_|refine xf (by simpa) ?_|apply wp_bs|apply wp_b|refine wp_sr ?_|refine wp_sx ?_|refine wp_ret' ?_|refine wp_skip' ?_|refine wp_exit' ?_)
    simp [zi151,resC,h3]
theorem ev_impl_CodeOf (n:Int) (es:List (Int×Int)) (c:Bool) (hf:Fit es) (hl:es.length≤100000000) (hv:vGraph n es=true) (hn:n ≠ 0) :
    Ev tb zl151 [] [Gr n es c] [] ⟨resC (coI es n.toNat (idxB n.toNat (-1)) [] []),[],[],[]⟩:=by
  have hv':=hv
  simp only [vGraph,Bool.and_eq_true,decide_eq_true_eq] at hv'
  have e1:=ev_lim (ev_ValidGraph n es c hf hl)
  rw [hv] at e1
  have h7:n=1 ∨ n=2 ∨ n=3 ∨ n=4 ∨ n=5 ∨ n=6 ∨ n=7:=by omega
  rcases h7 with rfl | rfl | rfl | rfl | rfl | rfl | rfl
  · exact ev_CodeOf1 es (2,c) ⟨hl,.inl rfl⟩ e1
  · exact ev_CodeOf2 es (2,c) ⟨hl,.inl rfl⟩ e1
  · exact ev_CodeOf3 es (2,c) ⟨hl,.inl rfl⟩ e1
  · exact ev_CodeOf4 es (2,c) ⟨hl,.inl rfl⟩ e1
  · exact ev_CodeOf5 es (2,c) ⟨hl,.inl rfl⟩ e1
  · exact ev_CodeOf6 es (2,c) ⟨hl,.inl rfl⟩ e1
  · exact ev_CodeOf7 es (2,c) ⟨hl,.inl rfl⟩ e1
theorem ev_impl_CodeOf_no (n:Int) (es:List (Int×Int)) (c:Bool) (hf:Fit es) (hl:es.length≤100000000) (hv:vGraph n es=false ∨ n=0) :
    Ev tb zl151 [] [Gr n es c] [] ⟨resC none,[],[],[]⟩:=by
  have e1:=ev_lim (ev_ValidGraph n es c hf hl)
  refine call_of_wp zt151 rfl ?_
  cases hq:vGraph n es with
  | false =>
    rw [hq] at e1
    repeat (first|apply wp_as|apply wp_ss|refine wr (by simp [e1];with_reducible rfl) ?_|refine wq (by simp [e1];with_reducible rfl) ?_|refine wt (by simpa [e1]) ?_|refine wf (by simpa [e1]) ?_|refine xt (by simpa [e1]) ?_|refine xf (by simpa [e1]) ?_|apply wp_bs|apply wp_b|refine wp_sr ?_|refine wp_sx ?_|refine wp_ret' ?_|refine wp_skip' ?_|refine wp_exit' ?_)
    simp [zi151,resC]
  | true =>
    rw [hq] at e1
    have h0:n=0:=by rcases hv with h | h;· rw [hq] at h;cases h
                    · exact h
    subst h0
    repeat (first|apply wp_as|apply wp_ss|refine wr (by simp [e1];with_reducible rfl) ?_|refine wq (by simp [e1];with_reducible rfl) ?_|refine wt (by simpa [e1]) ?_|refine wf (by simpa [e1]) ?_|refine xt (by simpa [e1]) ?_|refine xf (by simpa [e1]) ?_|apply wp_bs|apply wp_b|refine wp_sr ?_|refine wp_sx ?_|refine wp_ret' ?_|refine wp_skip' ?_|refine wp_exit' ?_)
    simp [zi151,resC]
end Go.Idl
namespace Go.Idl
open Go
def apart (a b c d:Int):Bool:=decide (a ≠ b) && decide (a ≠ c) && decide (a ≠ d) && decide (b ≠ c) && decide (b ≠ d) && decide (c ≠ d)
def gone (a b c d:Int) (x:Int×Int):Bool:=decide (x=(min a b,max a b)) || decide (x=(min c d,max c d))
end Go.Idl
namespace Go.Idl
open Go
def dropP (p q:Int) (x:Int×Int):Bool:=!(decide (x.1=p) && decide (x.2=q))
def dropE (a b:Int) (es:List (Int×Int)):List (Int×Int):=es.filter (dropP (min a b) (max a b))
theorem ev_dropEdge (n:Int) (es:List (Int×Int)) (c:Bool) (a b:Int) (hl:es.length≤100000) :
    Ev tb zl348 [] [Gr n es c,I a,I b] [] ⟨OG n (dropE a b es),[],[],[]⟩:=by
  obtain ⟨p,hp⟩:∃ p,p=min a b:=⟨_,rfl⟩
  obtain ⟨q,hq⟩:∃ q,q=max a b:=⟨_,rfl⟩
  have he1:(if b < a then b else a)=p:=by rw [hp];split <;> omega
  have he2:(if a < b then b else a)=q:=by rw [hq];split <;> omega
  rw [dropE,← hp,← hq]
  have loop:∀ (m i:Nat) (acc:List (Int×Int)) (B:Boxes),i+m=es.length→acc.length≤i→wp tb (.loop z348l8) { T:=[(1,I a),(2,I b),(3,.bptr 0 0 0),(6,.bptr 0 1 0),(7,.bptr 0 2 0),(8,I i)],loc:=[I n,L2 es c]::[I 0,Z]::[I n,O2 acc]::B,M:=[] }
      (fun ex st=>ex=.exit 0∧∃ B',st={ T:=[(1,I a),(2,I b),(3,.bptr 0 0 0),(6,.bptr 0 1 0),(7,.bptr 0 2 0),(8,I es.length),(18,Bo false)],loc:=[I n,L2 es c]::[I 0,Z]::[I n,O2 (acc++(es.drop i).filter (dropP p q))]::B',M:=[] }):=by
    intro m
    induction m with
    | zero =>
      intro i acc B hi ha
      have h3:i=es.length:=hi
      subst h3
      refine wp_loop ?_
      repeat (first|apply wp_as|apply wp_ss|refine wr (by simp;with_reducible rfl) ?_|refine wq (by simp;with_reducible rfl) ?_|refine wt (by simpa) ?_|refine wf (by simpa) ?_|refine xt (by simpa) ?_|refine xf (by simpa) ?_|apply wp_bs|apply wp_b|refine wp_sr ?_|refine wp_sx ?_|refine wp_ret' ?_|refine wp_skip' ?_|refine wp_exit' ?_)
      refine ⟨rfl,_,by simp;rfl⟩
    | succ m ih =>
      intro i acc B hi ha
      have hi2:i < es.length:=by omega
      have w1:IntKind.i64.wrap ((i:Int)+1)=((i+1:Nat):Int):=wrapS (by omega)
      have hd:es.drop i=es[i]::es.drop (i+1):=List.drop_eq_getElem_cons hi2
      have hl1:acc.length+1≤274877906944:=by omega
      have hl2:acc.length≤274877906943:=by omega
      have hT:∀ x,List.take (acc.length+1) (acc++[x])=acc++[x]:=fun x=>List.take_of_length_le (by simp)
      have hT2:List.take acc.length acc=acc:=List.take_of_length_le (Nat.le_refl _)
      rw [hd]
      obtain ⟨⟨x1,x2⟩,hx⟩:∃ x,x=es[i]:=⟨_,rfl⟩
      rw [← hx]
      have hx2:=hx.symm
      by_cases h1:x1=p
      · subst h1
        by_cases h2:x2=q
        · subst h2
          refine wp_loop ?_
          repeat (first|apply wp_as|apply wp_ss|refine wr (by simp [hi2,w1,hx2,he1,he2];with_reducible rfl) ?_|refine wq (by simp [hi2,w1,hx2,he1,he2];with_reducible rfl) ?_|refine wt (by simpa [hi2,w1,hx2,he1,he2]) ?_|refine wf (by simpa [hi2,w1,hx2,he1,he2]) ?_|refine xt (by simpa [hi2,w1,hx2,he1,he2]) ?_|refine xf (by simpa [hi2,w1,hx2,he1,he2]) ?_|apply wp_bs|apply wp_b|refine wp_sr ?_|refine wp_sx ?_|refine wp_ret' ?_|refine wp_skip' ?_|refine wp_exit' ?_)
          have hn:=ih (i+1) acc (B++[[I x1,I x2]]) (by omega) (by omega)
          rw [List.filter_cons_of_neg (by simp [dropP])]
          exact hn
        · refine wp_loop ?_
          repeat (first|apply wp_as|apply wp_ss|refine wr (by simp [hi2,w1,hx2,he1,he2,h2,hl1,hl2,hT,hT2];with_reducible rfl) ?_|refine wq (by simp [hi2,w1,hx2,he1,he2,h2,hl1,hl2,hT,hT2];with_reducible rfl) ?_|refine wt (by simpa [hi2,w1,hx2,he1,he2,h2,hl1,hl2,hT,hT2]) ?_|refine wf (by simpa [hi2,w1,hx2,he1,he2,h2,hl1,hl2,hT,hT2]) ?_|refine xt (by simpa [hi2,w1,hx2,he1,he2,h2,hl1,hl2,hT,hT2]) ?_|refine xf (by simpa [hi2,w1,hx2,he1,he2,h2,hl1,hl2,hT,hT2]) ?_|apply wp_bs|apply wp_b|refine wp_sr ?_|refine wp_sx ?_|refine wp_ret' ?_|refine wp_skip' ?_|refine wp_exit' ?_)
          have hn:=ih (i+1) (acc++[(x1,x2)]) (B++[[I x1,I x2]]) (by omega) (by simp;omega)
          rw [List.filter_cons_of_pos (by simp [dropP,h2])]
          simp only [List.append_assoc,List.cons_append,List.nil_append] at hn
          exact hn
      · refine wp_loop ?_
        repeat (first|apply wp_as|apply wp_ss|refine wr (by simp [hi2,w1,hx2,he1,he2,h1,hl1,hl2,hT,hT2];with_reducible rfl) ?_|refine wq (by simp [hi2,w1,hx2,he1,he2,h1,hl1,hl2,hT,hT2];with_reducible rfl) ?_|refine wt (by simpa [hi2,w1,hx2,he1,he2,h1,hl1,hl2,hT,hT2]) ?_|refine wf (by simpa [hi2,w1,hx2,he1,he2,h1,hl1,hl2,hT,hT2]) ?_|refine xt (by simpa [hi2,w1,hx2,he1,he2,h1,hl1,hl2,hT,hT2]) ?_|refine xf (by simpa [hi2,w1,hx2,he1,he2,h1,hl1,hl2,hT,hT2]) ?_|apply wp_bs|apply wp_b|refine wp_sr ?_|refine wp_sx ?_|refine wp_ret' ?_|refine wp_skip' ?_|refine wp_exit' ?_)
        have hn:=ih (i+1) (acc++[(x1,x2)]) (B++[[I x1,I x2]]) (by omega) (by simp;omega)
        rw [List.filter_cons_of_pos (by simp [dropP,h1])]
        simp only [List.append_assoc,List.cons_append,List.nil_append] at hn
        exact hn
  refine call_of_wp zt348 rfl ?_
  repeat (first|apply wp_as|apply wp_ss|refine wr (by simp;with_reducible rfl) ?_|refine wq (by simp;with_reducible rfl) ?_|refine wt (by simpa) ?_|refine wf (by simpa) ?_|refine xt (by simpa) ?_|refine xf (by simpa) ?_|apply wp_bs|apply wp_b|refine wp_sr ?_|refine wp_sx ?_|refine wp_ret' ?_|refine wp_skip' ?_|refine wp_exit' ?_)
  refine wp_imp (loop es.length 0 [] [] (by simp) (by simp)) ?_
  rintro ex st ⟨rfl,B',rfl⟩
  simp only [if_true]
  repeat (first|apply wp_as|apply wp_ss|refine wr (by simp;with_reducible rfl) ?_|refine wq (by simp;with_reducible rfl) ?_|refine wt (by simpa) ?_|refine wf (by simpa) ?_|refine xt (by simpa) ?_|refine xf (by simpa) ?_|apply wp_bs|apply wp_b|refine wp_sr ?_|refine wp_sx ?_|refine wp_ret' ?_|refine wp_skip' ?_|refine wp_exit' ?_)
  simp [zi348]
def mayS (es:List (Int×Int)) (a b c d:Int):Bool:=decide (a ≠ c) && decide (b ≠ d) && decide (a ≠ d) && decide (b ≠ c) && has es a b && has es c d && !has es a c && !has es b d
def swS (es:List (Int×Int)) (a b c d:Int):List (Int×Int):=insE (min b d,max b d) (insE (min a c,max a c) (dropE c d (dropE a b es)))
end Go.Idl
namespace Go.Idl
open Go
def drpV (v:Int):Nat→Nat→List (Int×Int)→List (Int×Int)
  | 0,_,es=>es
  | m+1,u,es=>drpV v m (u+1) (dropE v u es)
abbrev TS (s:ByteArray) (o g:List Int) (v:Int) (u:Nat):Tm:=[(1,.bptr 0 0 0),(5,.sc (.string s)),(6,O o),(7,.bptr 0 1 0),(8,O g),(11,I v),(14,I u)]
theorem drops_S (n:Nat) (hn:n≤7) (es:List (Int×Int)) (c:Bool) (s:ByteArray) (o g:List Int) (v:Int):∀ (m u:Nat) (now:List (Int×Int)),u+m=n→now.length≤1000 →
    wp tb (.loop z340l27) { T:=TS s o g v u,loc:=[[I n,L2 es c],[I n,O2 now]],M:=[] } fun ex st=>ex=.exit 4∧st={ T:=TS s o g v n++[(79,Bo false)],loc:=[[I n,L2 es c],[I n,O2 (drpV v m u now)]],M:=[] }
  | 0,u,now,hm,hl=>by
    have:u=n:=by omega
    subst this
    refine wp_loop ?_
    repeat (first|apply wp_as|apply wp_ss|refine wr (by simp;with_reducible rfl) ?_|refine wq (by simp;with_reducible rfl) ?_|refine wt (by simpa) ?_|refine wf (by simpa) ?_|refine xt (by simpa) ?_|refine xf (by simpa) ?_|apply wp_bs|apply wp_b|refine wp_sr ?_|refine wp_sx ?_|refine wp_ret' ?_|refine wp_skip' ?_|refine wp_exit' ?_)
    exact ⟨rfl,rfl⟩
  | m+1,u,now,hm,hl=>by
    have e1:=ev_lim (ev_dropEdge n now false v u (by omega))
    have hlt:u < n:=by omega
    have w2:IntKind.i64.wrap ((u:Int)+1)=((u+1:Nat):Int):=wrapS (by omega)
    refine wp_loop ?_
    repeat (first|apply wp_as|apply wp_ss|refine wr (by simp [e1,hlt,w2];with_reducible rfl) ?_|refine wq (by simp [e1,hlt,w2];with_reducible rfl) ?_|refine wt (by simpa [e1,hlt,w2]) ?_|refine wf (by simpa [e1,hlt,w2]) ?_|refine xt (by simpa [e1,hlt,w2]) ?_|refine xf (by simpa [e1,hlt,w2]) ?_|apply wp_bs|apply wp_b|refine wp_sr ?_|refine wp_sx ?_|refine wp_ret' ?_|refine wp_skip' ?_|refine wp_exit' ?_)
    refine drops_S n hn es c s o g v m (u+1) (dropE v u now) (by omega) (Nat.le_trans (List.length_filter_le _ _) hl)
def seaS (d gone:List Int) (left:Int):Nat→Int
  | 0=>-1
  | u+1=>if (u:Int) ∉ gone∧(d.getD u 0=0 ∨ d.getD u 0=left - 1) then u else seaS d gone left u
abbrev TU (s:ByteArray) (o g d:List Int) (left:Int) (v u:Int):Tm:=[(1,.bptr 0 0 0),(5,.sc (.string s)),(6,O o),(7,.bptr 0 1 0),(8,O g),(9,O d),(10,I left),(11,I v),(12,I u)]
abbrev TW (s:ByteArray) (o g d:List Int) (v:Int):Tm:=[(1,.bptr 0 0 0),(5,.sc (.string s)),(6,O o),(7,.bptr 0 1 0),(8,O g),(9,O d),(11,I v)]
theorem sea_S (s:ByteArray) (o g d:List Int) (left:Int) (h1:1≤left) (h2:left≤7) (hg:g.length≤1000) (loc:Boxes):∀ (m:Nat),m≤d.length→m≤7 →
    wp tb (.loop z340l14) { T:=TU s o g d left (-1) ((m:Int) - 1),loc:=loc,M:=[] } fun ex st=>ex=.exit 2 ∧
      ((seaS d g left m=-1∧st={ T:=TU s o g d left (-1) (-1)++[(34,Bo false)],loc:=loc,M:=[] }) ∨ ∃ v:Nat,seaS d g left m=v∧st={ T:=TW s o g d v,loc:=loc,M:=[] })
  | 0,hm,hm7=>by
    refine wp_loop ?_
    repeat (first|apply wp_as|apply wp_ss|refine wr (by simp;with_reducible rfl) ?_|refine wq (by simp;with_reducible rfl) ?_|refine wt (by simpa) ?_|refine wf (by simpa) ?_|refine xt (by simpa) ?_|refine xf (by simpa) ?_|apply wp_bs|apply wp_b|refine wp_sr ?_|refine wp_sx ?_|refine wp_ret' ?_|refine wp_skip' ?_|refine wp_exit' ?_)
    exact ⟨rfl,.inl ⟨rfl,rfl⟩⟩
  | m+1,hm,hm7=>by
    have hm1:(((m+1:Nat):Int) - 1)=(m:Int):=by omega
    rw [hm1]
    have hlt:m < d.length:=by omega
    have w1:IntKind.i64.wrap (left - 1)=left - 1:=wrap64 (by omega) (by omega)
    have w2:IntKind.i64.wrap ((m:Int) - 1)=(m:Int) - 1:=wrap64 (by omega) (by omega)
    have e1:=ev_lim (ev_hasInt g false m (by omega))
    have hgd:d.getD m 0=d[m]:=by simp [hlt]
    have ih:=sea_S s o g d left h1 h2 hg loc m (by omega) (by omega)
    refine wp_loop ?_
    by_cases hq:(m:Int) ∈ g
    · have hs:seaS d g left (m+1)=seaS d g left m:=by simp [seaS,hq]
      rw [hs]
      repeat (first|apply wp_as|apply wp_ss|refine wr (by simp [e1,hlt,w1,w2,hq];with_reducible rfl) ?_|refine wq (by simp [e1,hlt,w1,w2,hq];with_reducible rfl) ?_|refine wt (by simpa [e1,hlt,w1,w2,hq]) ?_|refine wf (by simpa [e1,hlt,w1,w2,hq]) ?_|refine xt (by simpa [e1,hlt,w1,w2,hq]) ?_|refine xf (by simpa [e1,hlt,w1,w2,hq]) ?_|apply wp_bs|apply wp_b|refine wp_sr ?_|refine wp_sx ?_|refine wp_ret' ?_|refine wp_skip' ?_|refine wp_exit' ?_)
      exact ih
    · by_cases hz:d[m]=0
      · have hs:seaS d g left (m+1)=(m:Int):=by simp only [seaS,hgd,hz];simp [hq]
        rw [hs]
        repeat (first|apply wp_as|apply wp_ss|refine wr (by simp [e1,hlt,w1,w2,hq,hz];with_reducible rfl) ?_|refine wq (by simp [e1,hlt,w1,w2,hq,hz];with_reducible rfl) ?_|refine wt (by simpa [e1,hlt,w1,w2,hq,hz]) ?_|refine wf (by simpa [e1,hlt,w1,w2,hq,hz]) ?_|refine xt (by simpa [e1,hlt,w1,w2,hq,hz]) ?_|refine xf (by simpa [e1,hlt,w1,w2,hq,hz]) ?_|apply wp_bs|apply wp_b|refine wp_sr ?_|refine wp_sx ?_|refine wp_ret' ?_|refine wp_skip' ?_|refine wp_exit' ?_)
        exact ⟨rfl,.inr ⟨m,rfl,rfl⟩⟩
      · by_cases hy:d[m]=left - 1
        · have hs:seaS d g left (m+1)=(m:Int):=by simp only [seaS,hgd,hy];simp [hq]
          rw [hs]
          have hz2:¬ left - 1=0:=fun e=>hz (hy.trans e)
          repeat (first|apply wp_as|apply wp_ss|refine wr (by simp [e1,hlt,w1,w2,hq,hz2,hy];with_reducible rfl) ?_|refine wq (by simp [e1,hlt,w1,w2,hq,hz2,hy];with_reducible rfl) ?_|refine wt (by simpa [e1,hlt,w1,w2,hq,hz2,hy]) ?_|refine wf (by simpa [e1,hlt,w1,w2,hq,hz2,hy]) ?_|refine xt (by simpa [e1,hlt,w1,w2,hq,hz2,hy]) ?_|refine xf (by simpa [e1,hlt,w1,w2,hq,hz2,hy]) ?_|apply wp_bs|apply wp_b|refine wp_sr ?_|refine wp_sx ?_|refine wp_ret' ?_|refine wp_skip' ?_|refine wp_exit' ?_)
          exact ⟨rfl,.inr ⟨m,rfl,rfl⟩⟩
        · have hs:seaS d g left (m+1)=seaS d g left m:=by simp only [seaS,hgd];simp [hq,hz,hy]
          rw [hs]
          repeat (first|apply wp_as|apply wp_ss|refine wr (by simp [e1,hlt,w1,w2,hq,hz,hy];with_reducible rfl) ?_|refine wq (by simp [e1,hlt,w1,w2,hq,hz,hy];with_reducible rfl) ?_|refine wt (by simpa [e1,hlt,w1,w2,hq,hz,hy]) ?_|refine wf (by simpa [e1,hlt,w1,w2,hq,hz,hy]) ?_|refine xt (by simpa [e1,hlt,w1,w2,hq,hz,hy]) ?_|refine xf (by simpa [e1,hlt,w1,w2,hq,hz,hy]) ?_|apply wp_bs|apply wp_b|refine wp_sr ?_|refine wp_sx ?_|refine wp_ret' ?_|refine wp_skip' ?_|refine wp_exit' ?_)
          exact ih
end Go.Idl
namespace Go.Idl
open Go
theorem drops_S1 (n:Nat) (hn:n≤7) (es:List (Int×Int)) (c:Bool) (s:ByteArray) (o g:List Int) (v:Int) (m:Nat) (hm:m+1=n) (now:List (Int×Int)) (c2:Bool) (hl:now.length≤1000) :
    wp tb (.loop z340l27) { T:=TS s o g v 0,loc:=[[I n,L2 es c],[I n,L2 now c2]],M:=[] } fun ex st=>ex=.exit 4∧st={ T:=TS s o g v n++[(79,Bo false)],loc:=[[I n,L2 es c],[I n,O2 (drpV v n 0 now)]],M:=[] }:=by
  have e1:=ev_lim (ev_dropEdge n now c2 v 0 (by omega))
  have hlt:0 < n:=by omega
  have w2:IntKind.i64.wrap 1=1:=by decide
  have e3:=drops_S n hn es c s o g v m 1 (dropE v 0 now) (by omega) (Nat.le_trans (List.length_filter_le _ _) hl)
  rw [show drpV v n 0 now=drpV v m 1 (dropE v 0 now) by rw [← hm];rfl]
  refine wp_loop ?_
  repeat (first|apply wp_as|apply wp_ss|refine wr (by simp [e1,hlt,w2];with_reducible rfl) ?_|refine wq (by simp [e1,hlt,w2];with_reducible rfl) ?_|refine wt (by simpa [e1,hlt,w2]) ?_|refine wf (by simpa [e1,hlt,w2]) ?_|refine xt (by simpa [e1,hlt,w2]) ?_|refine xf (by simpa [e1,hlt,w2]) ?_|apply wp_bs|apply wp_b|refine wp_sr ?_|refine wp_sx ?_|refine wp_ret' ?_|refine wp_skip' ?_|refine wp_exit' ?_)
  exact e3
def codS (n:Nat):Nat→List (Int×Int)→List Int→List Int→List Int→Option (List Int×List Int)
  | 0,_,_,ls,os=>some (ls,os)
  | m+1,now,g,ls,os=>if seaS (degs n now) g ((m:Int)+1) n < 0 then none else
     codS n m (drpV (seaS (degs n now) g ((m:Int)+1) n) n 0 now) (g++[seaS (degs n now) g ((m:Int)+1) n])
       ((if 0 < (degs n now).getD (seaS (degs n now) g ((m:Int)+1) n).toNat 0 then 100 else 105)::ls) (seaS (degs n now) g ((m:Int)+1) n::os)
abbrev TV (ls o g:List Int):Tm:=[(1,.bptr 0 0 0),(5,.sc (.string (strNums ls))),(6,O o),(7,.bptr 0 1 0),(8,O g)]
theorem str_add (x:UInt8) (k:Int) (ls:List Int) (h:UInt8.ofNat k.toNat=x):(⟨#[x]⟩:ByteArray)++strNums ls=strNums (k::ls):=by
  subst h
  apply ByteArray.ext
  simp [strNums,ByteArray.data_append]
theorem drpV_sub (v:Int):∀ (m u:Nat) (es:List (Int×Int)),(drpV v m u es).Sublist es
  | 0,_,es=>List.Sublist.refl _
  | m+1,u,es=>(drpV_sub v m (u+1) _).trans List.filter_sublist
theorem so_let (x:UInt8) (k:Int) (ls:List Int) (h:UInt8.ofNat k.toNat=x) (hl:ls.length≤1000):Op.stringOp .add (⟨#[x]⟩:ByteArray) (strNums ls)=Sem.pure (.string (strNums (k::ls))):=by
  have hsz:(strNums ls).size=ls.length:=by simp [strNums,ByteArray.size]
  have h1:(⟨#[x]⟩:ByteArray).size=1:=rfl
  have hno:¬ ((((⟨#[x]⟩:ByteArray).size+(strNums ls).size:Nat):Int) > IntKind.i64.max):=by rw [show IntKind.i64.max=9223372036854775807 from rfl,hsz,h1];omega
  unfold Op.stringOp
  simp only [if_neg hno]
  rw [str_add x k ls h];rfl
theorem seaS_lt {d g:List Int} {left:Int}:∀ {m:Nat} {v:Nat},seaS d g left m=v→v < m
  | 0,v,h=>by simp only [seaS] at h;omega
  | m+1,v,h=>by
    unfold seaS at h
    split at h
    · omega
    · exact Nat.lt_succ_of_lt (seaS_lt h)
set_option maxHeartbeats 4000000 in
theorem out_S (n:Nat) (hn:n≤7) (es:List (Int×Int)) (c:Bool):∀ (m:Nat) (now:List (Int×Int)) (X:IV) (ls o g:List Int) (f:Bool) (u:Int),((∃ c2,X=L2 now c2) ∨ X=O2 now)→g.length+m=n→o.length=g.length→ls.length=g.length→now.length≤1000→EdgesIn n now →
    wp tb (.loop z340l28) { T:=TV ls o g++(if f then [(11,I u),(14,I n),(79,Bo false)] else []),loc:=[[I n,L2 es c],[I n,X]],M:=[] } fun ex st=>match codS n m now g ls o with
      | some (l,o')=>ex=.exit 0∧∃ g' B,st={ T:=TV l o' g'++[(22,Bo false)],loc:=[[I n,L2 es c],B],M:=[] }
      | none=>ex=.ret∧∃ T loc,st={ T:=[(2,.sc (.string ByteArray.empty)),(3,Z),(4,Bo false)]++T,loc:=loc,M:=[] }
  | 0,now,X,ls,o,g,f,u,hX,hg,ho,hls,hl,he=>by
    have hgn:g.length=n:=by omega
    subst hgn
    refine wp_loop ?_
    cases f
    · repeat (first | apply wp_as | apply wp_ss | refine wr (by simp;with_reducible rfl) ?_ | refine wq (by simp;with_reducible rfl) ?_ | refine wt (by simpa) ?_ | refine wf (by simpa) ?_ | refine xt (by simpa) ?_ | refine xf (by simpa) ?_ | apply wp_bs | apply wp_b | refine wp_sr ?_ | refine wp_sx ?_ | refine wp_ret' ?_ | refine wp_skip' ?_ | refine wp_exit' ?_)
      exact ⟨rfl,g,_,rfl⟩
    · repeat (first | apply wp_as | apply wp_ss | refine wr (by simp;with_reducible rfl) ?_ | refine wq (by simp;with_reducible rfl) ?_ | refine wt (by simpa) ?_ | refine wf (by simpa) ?_ | refine xt (by simpa) ?_ | refine xf (by simpa) ?_ | apply wp_bs | apply wp_b | refine wp_sr ?_ | refine wp_sx ?_ | refine wp_ret' ?_ | refine wp_skip' ?_ | refine wp_exit' ?_)
      exact ⟨rfl,g,_,rfl⟩
  | m+1,now,X,ls,o,g,f,u,hX,hg,ho,hls,hl,he=>by
    have hlt:g.length < n:=by omega
    have w1:IntKind.i64.wrap ((n:Int) - g.length)=(m:Int)+1:=by rw [wrap64 (by omega) (by omega)];omega
    have w2:IntKind.i64.wrap ((n:Int) - 1)=(n:Int) - 1:=wrap64 (by omega) (by omega)
    have e4:=sea_S (strNums ls) o g (degs n now) ((m:Int)+1) (by omega) (by omega) (by omega)
    have hdl:(degs n now).length=n:=by rw [degs,dfold_len];simp
    have s1:=so_let 105 105 ls (by decide) (by omega)
    have s2:=so_let 100 100 ls (by decide) (by omega)
    have q1:o.length≤274877906943:=by omega
    have q2:g.length≤274877906943:=by omega
    have q3:1+o.length≤274877906944:=by omega
    have q4:g.length+1≤274877906944:=by omega
    have q5:o.length+1≤274877906944:=by omega
    have q6:List.take o.length o=o:=List.take_of_length_le (Nat.le_refl _)
    have q7:List.take g.length g=g:=List.take_of_length_le (Nat.le_refl _)
    have q8:List.take (ints o).length (ints o)=ints o:=List.take_of_length_le (Nat.le_refl _)
    refine wp_loop ?_
    rcases hX with ⟨c2,rfl⟩ | rfl
    · have e1:=ev_lim (ev_degrees n now c2 (by omega) hl he)
      cases f
      · repeat (first | apply wp_as | apply wp_ss | refine wr (by simp [e1,hlt,w1,w2];with_reducible rfl) ?_ | refine wq (by simp [e1,hlt,w1,w2];with_reducible rfl) ?_ | refine wt (by simpa [e1,hlt,w1,w2]) ?_ | refine wf (by simpa [e1,hlt,w1,w2]) ?_ | refine xt (by simpa [e1,hlt,w1,w2]) ?_ | refine xf (by simpa [e1,hlt,w1,w2]) ?_ | apply wp_bs | apply wp_b | refine wp_sr ?_ | refine wp_sx ?_ | refine wp_ret' ?_ | refine wp_skip' ?_ | refine wp_exit' ?_)
        refine wp_imp (e4 _ n (by omega) hn) ?_
        rintro ex st ⟨rfl,⟨hs,rfl⟩ | ⟨v,hs,rfl⟩⟩
        · show wp tb _ _ _
          repeat (first|apply wp_as|apply wp_ss|refine wr (by simp;with_reducible rfl) ?_|refine wq (by simp;with_reducible rfl) ?_|refine wt (by simpa) ?_|refine wf (by simpa) ?_|refine xt (by simpa) ?_|refine xf (by simpa) ?_|apply wp_bs|apply wp_b|refine wp_sr ?_|refine wp_sx ?_|refine wp_ret' ?_|refine wp_skip' ?_|refine wp_exit' ?_)
          simp [codS,hs]
        · show wp tb _ _ _
          have hvn:=seaS_lt hs
          have hvd:v < (degs n now).length:=by omega
          have nv:¬ ((v:Int) < 0):=by omega
          have hsub:=drpV_sub (v:Int) n 0 now
          have hgd:(degs n now).getD v 0=(degs n now)[v]:=by simp [hvd]
          have ih:=fun k=>out_S n hn es c m (drpV v n 0 now) (O2 (drpV v n 0 now)) (k::ls) ((v:Int)::o) (g++[(v:Int)]) true v (.inr rfl) (by simp;omega) (by simp;omega) (by simp;omega) (Nat.le_trans hsub.length_le hl) (fun e hm=>he e (hsub.mem hm))
          by_cases hp:0 < (degs n now)[v]
          · have hc:codS n (m+1) now g ls o=codS n m (drpV v n 0 now) (g++[(v:Int)]) (100::ls) ((v:Int)::o):=by simp [codS,hs,nv,hvd,hp]
            rw [hc]
            repeat (first|apply wp_as|apply wp_ss|refine wr (by simp [nv,hvd,hp,s2,q1,q2,q3,q4,q5,q6,q7,q8];with_reducible rfl) ?_|refine wq (by simp [nv,hvd,hp,s2,q1,q2,q3,q4,q5,q6,q7,q8];with_reducible rfl) ?_|refine wt (by simpa [nv,hvd,hp,s2,q1,q2,q3,q4,q5,q6,q7,q8]) ?_|refine wf (by simpa [nv,hvd,hp,s2,q1,q2,q3,q4,q5,q6,q7,q8]) ?_|refine xt (by simpa [nv,hvd,hp,s2,q1,q2,q3,q4,q5,q6,q7,q8]) ?_|refine xf (by simpa [nv,hvd,hp,s2,q1,q2,q3,q4,q5,q6,q7,q8]) ?_|apply wp_bs|apply wp_b|refine wp_sr ?_|refine wp_sx ?_|refine wp_ret' ?_|refine wp_skip' ?_|refine wp_exit' ?_)
            refine wp_imp (drops_S1 n hn es c (strNums (100::ls)) ((v:Int)::o) (g++[(v:Int)]) v (n - 1) (by omega) now c2 hl) ?_
            rintro ex st ⟨rfl,rfl⟩
            exact ih 100
          · have hc:codS n (m+1) now g ls o=codS n m (drpV v n 0 now) (g++[(v:Int)]) (105::ls) ((v:Int)::o):=by simp [codS,hs,nv,hvd,hp]
            rw [hc]
            repeat (first|apply wp_as|apply wp_ss|refine wr (by simp [nv,hvd,hp,s1,q1,q2,q3,q4,q5,q6,q7,q8];with_reducible rfl) ?_|refine wq (by simp [nv,hvd,hp,s1,q1,q2,q3,q4,q5,q6,q7,q8];with_reducible rfl) ?_|refine wt (by simpa [nv,hvd,hp,s1,q1,q2,q3,q4,q5,q6,q7,q8]) ?_|refine wf (by simpa [nv,hvd,hp,s1,q1,q2,q3,q4,q5,q6,q7,q8]) ?_|refine xt (by simpa [nv,hvd,hp,s1,q1,q2,q3,q4,q5,q6,q7,q8]) ?_|refine xf (by simpa [nv,hvd,hp,s1,q1,q2,q3,q4,q5,q6,q7,q8]) ?_|apply wp_bs|apply wp_b|refine wp_sr ?_|refine wp_sx ?_|refine wp_ret' ?_|refine wp_skip' ?_|refine wp_exit' ?_)
            refine wp_imp (drops_S1 n hn es c (strNums (105::ls)) ((v:Int)::o) (g++[(v:Int)]) v (n - 1) (by omega) now c2 hl) ?_
            rintro ex st ⟨rfl,rfl⟩
            exact ih 105
      · repeat (first | apply wp_as | apply wp_ss | refine wr (by simp [e1,hlt,w1,w2];with_reducible rfl) ?_ | refine wq (by simp [e1,hlt,w1,w2];with_reducible rfl) ?_ | refine wt (by simpa [e1,hlt,w1,w2]) ?_ | refine wf (by simpa [e1,hlt,w1,w2]) ?_ | refine xt (by simpa [e1,hlt,w1,w2]) ?_ | refine xf (by simpa [e1,hlt,w1,w2]) ?_ | apply wp_bs | apply wp_b | refine wp_sr ?_ | refine wp_sx ?_ | refine wp_ret' ?_ | refine wp_skip' ?_ | refine wp_exit' ?_)
        refine wp_imp (e4 _ n (by omega) hn) ?_
        rintro ex st ⟨rfl,⟨hs,rfl⟩ | ⟨v,hs,rfl⟩⟩
        · show wp tb _ _ _
          repeat (first|apply wp_as|apply wp_ss|refine wr (by simp;with_reducible rfl) ?_|refine wq (by simp;with_reducible rfl) ?_|refine wt (by simpa) ?_|refine wf (by simpa) ?_|refine xt (by simpa) ?_|refine xf (by simpa) ?_|apply wp_bs|apply wp_b|refine wp_sr ?_|refine wp_sx ?_|refine wp_ret' ?_|refine wp_skip' ?_|refine wp_exit' ?_)
          simp [codS,hs]
        · show wp tb _ _ _
          have hvn:=seaS_lt hs
          have hvd:v < (degs n now).length:=by omega
          have nv:¬ ((v:Int) < 0):=by omega
          have hsub:=drpV_sub (v:Int) n 0 now
          have hgd:(degs n now).getD v 0=(degs n now)[v]:=by simp [hvd]
          have ih:=fun k=>out_S n hn es c m (drpV v n 0 now) (O2 (drpV v n 0 now)) (k::ls) ((v:Int)::o) (g++[(v:Int)]) true v (.inr rfl) (by simp;omega) (by simp;omega) (by simp;omega) (Nat.le_trans hsub.length_le hl) (fun e hm=>he e (hsub.mem hm))
          by_cases hp:0 < (degs n now)[v]
          · have hc:codS n (m+1) now g ls o=codS n m (drpV v n 0 now) (g++[(v:Int)]) (100::ls) ((v:Int)::o):=by simp [codS,hs,nv,hvd,hp]
            rw [hc]
            repeat (first|apply wp_as|apply wp_ss|refine wr (by simp [nv,hvd,hp,s2,q1,q2,q3,q4,q5,q6,q7,q8];with_reducible rfl) ?_|refine wq (by simp [nv,hvd,hp,s2,q1,q2,q3,q4,q5,q6,q7,q8];with_reducible rfl) ?_|refine wt (by simpa [nv,hvd,hp,s2,q1,q2,q3,q4,q5,q6,q7,q8]) ?_|refine wf (by simpa [nv,hvd,hp,s2,q1,q2,q3,q4,q5,q6,q7,q8]) ?_|refine xt (by simpa [nv,hvd,hp,s2,q1,q2,q3,q4,q5,q6,q7,q8]) ?_|refine xf (by simpa [nv,hvd,hp,s2,q1,q2,q3,q4,q5,q6,q7,q8]) ?_|apply wp_bs|apply wp_b|refine wp_sr ?_|refine wp_sx ?_|refine wp_ret' ?_|refine wp_skip' ?_|refine wp_exit' ?_)
            refine wp_imp (drops_S1 n hn es c (strNums (100::ls)) ((v:Int)::o) (g++[(v:Int)]) v (n - 1) (by omega) now c2 hl) ?_
            rintro ex st ⟨rfl,rfl⟩
            exact ih 100
          · have hc:codS n (m+1) now g ls o=codS n m (drpV v n 0 now) (g++[(v:Int)]) (105::ls) ((v:Int)::o):=by simp [codS,hs,nv,hvd,hp]
            rw [hc]
            repeat (first|apply wp_as|apply wp_ss|refine wr (by simp [nv,hvd,hp,s1,q1,q2,q3,q4,q5,q6,q7,q8];with_reducible rfl) ?_|refine wq (by simp [nv,hvd,hp,s1,q1,q2,q3,q4,q5,q6,q7,q8];with_reducible rfl) ?_|refine wt (by simpa [nv,hvd,hp,s1,q1,q2,q3,q4,q5,q6,q7,q8]) ?_|refine wf (by simpa [nv,hvd,hp,s1,q1,q2,q3,q4,q5,q6,q7,q8]) ?_|refine xt (by simpa [nv,hvd,hp,s1,q1,q2,q3,q4,q5,q6,q7,q8]) ?_|refine xf (by simpa [nv,hvd,hp,s1,q1,q2,q3,q4,q5,q6,q7,q8]) ?_|apply wp_bs|apply wp_b|refine wp_sr ?_|refine wp_sx ?_|refine wp_ret' ?_|refine wp_skip' ?_|refine wp_exit' ?_)
            refine wp_imp (drops_S1 n hn es c (strNums (105::ls)) ((v:Int)::o) (g++[(v:Int)]) v (n - 1) (by omega) now c2 hl) ?_
            rintro ex st ⟨rfl,rfl⟩
            exact ih 105
    · have e1:=ev_lim (ev_degrees n now false (by omega) hl he)
      cases f
      · repeat (first | apply wp_as | apply wp_ss | refine wr (by simp [e1,hlt,w1,w2];with_reducible rfl) ?_ | refine wq (by simp [e1,hlt,w1,w2];with_reducible rfl) ?_ | refine wt (by simpa [e1,hlt,w1,w2]) ?_ | refine wf (by simpa [e1,hlt,w1,w2]) ?_ | refine xt (by simpa [e1,hlt,w1,w2]) ?_ | refine xf (by simpa [e1,hlt,w1,w2]) ?_ | apply wp_bs | apply wp_b | refine wp_sr ?_ | refine wp_sx ?_ | refine wp_ret' ?_ | refine wp_skip' ?_ | refine wp_exit' ?_)
        refine wp_imp (e4 _ n (by omega) hn) ?_
        rintro ex st ⟨rfl,⟨hs,rfl⟩ | ⟨v,hs,rfl⟩⟩
        · show wp tb _ _ _
          repeat (first|apply wp_as|apply wp_ss|refine wr (by simp;with_reducible rfl) ?_|refine wq (by simp;with_reducible rfl) ?_|refine wt (by simpa) ?_|refine wf (by simpa) ?_|refine xt (by simpa) ?_|refine xf (by simpa) ?_|apply wp_bs|apply wp_b|refine wp_sr ?_|refine wp_sx ?_|refine wp_ret' ?_|refine wp_skip' ?_|refine wp_exit' ?_)
          simp [codS,hs]
        · show wp tb _ _ _
          have hvn:=seaS_lt hs
          have hvd:v < (degs n now).length:=by omega
          have nv:¬ ((v:Int) < 0):=by omega
          have hsub:=drpV_sub (v:Int) n 0 now
          have hgd:(degs n now).getD v 0=(degs n now)[v]:=by simp [hvd]
          have ih:=fun k=>out_S n hn es c m (drpV v n 0 now) (O2 (drpV v n 0 now)) (k::ls) ((v:Int)::o) (g++[(v:Int)]) true v (.inr rfl) (by simp;omega) (by simp;omega) (by simp;omega) (Nat.le_trans hsub.length_le hl) (fun e hm=>he e (hsub.mem hm))
          by_cases hp:0 < (degs n now)[v]
          · have hc:codS n (m+1) now g ls o=codS n m (drpV v n 0 now) (g++[(v:Int)]) (100::ls) ((v:Int)::o):=by simp [codS,hs,nv,hvd,hp]
            rw [hc]
            repeat (first|apply wp_as|apply wp_ss|refine wr (by simp [nv,hvd,hp,s2,q1,q2,q3,q4,q5,q6,q7,q8];with_reducible rfl) ?_|refine wq (by simp [nv,hvd,hp,s2,q1,q2,q3,q4,q5,q6,q7,q8];with_reducible rfl) ?_|refine wt (by simpa [nv,hvd,hp,s2,q1,q2,q3,q4,q5,q6,q7,q8]) ?_|refine wf (by simpa [nv,hvd,hp,s2,q1,q2,q3,q4,q5,q6,q7,q8]) ?_|refine xt (by simpa [nv,hvd,hp,s2,q1,q2,q3,q4,q5,q6,q7,q8]) ?_|refine xf (by simpa [nv,hvd,hp,s2,q1,q2,q3,q4,q5,q6,q7,q8]) ?_|apply wp_bs|apply wp_b|refine wp_sr ?_|refine wp_sx ?_|refine wp_ret' ?_|refine wp_skip' ?_|refine wp_exit' ?_)
            refine wp_imp (drops_S n hn es c (strNums (100::ls)) ((v:Int)::o) (g++[(v:Int)]) v n 0 now (by omega) hl) ?_
            rintro ex st ⟨rfl,rfl⟩
            exact ih 100
          · have hc:codS n (m+1) now g ls o=codS n m (drpV v n 0 now) (g++[(v:Int)]) (105::ls) ((v:Int)::o):=by simp [codS,hs,nv,hvd,hp]
            rw [hc]
            repeat (first|apply wp_as|apply wp_ss|refine wr (by simp [nv,hvd,hp,s1,q1,q2,q3,q4,q5,q6,q7,q8];with_reducible rfl) ?_|refine wq (by simp [nv,hvd,hp,s1,q1,q2,q3,q4,q5,q6,q7,q8];with_reducible rfl) ?_|refine wt (by simpa [nv,hvd,hp,s1,q1,q2,q3,q4,q5,q6,q7,q8]) ?_|refine wf (by simpa [nv,hvd,hp,s1,q1,q2,q3,q4,q5,q6,q7,q8]) ?_|refine xt (by simpa [nv,hvd,hp,s1,q1,q2,q3,q4,q5,q6,q7,q8]) ?_|refine xf (by simpa [nv,hvd,hp,s1,q1,q2,q3,q4,q5,q6,q7,q8]) ?_|apply wp_bs|apply wp_b|refine wp_sr ?_|refine wp_sx ?_|refine wp_ret' ?_|refine wp_skip' ?_|refine wp_exit' ?_)
            refine wp_imp (drops_S n hn es c (strNums (105::ls)) ((v:Int)::o) (g++[(v:Int)]) v n 0 now (by omega) hl) ?_
            rintro ex st ⟨rfl,rfl⟩
            exact ih 105
      · repeat (first | apply wp_as | apply wp_ss | refine wr (by simp [e1,hlt,w1,w2];with_reducible rfl) ?_ | refine wq (by simp [e1,hlt,w1,w2];with_reducible rfl) ?_ | refine wt (by simpa [e1,hlt,w1,w2]) ?_ | refine wf (by simpa [e1,hlt,w1,w2]) ?_ | refine xt (by simpa [e1,hlt,w1,w2]) ?_ | refine xf (by simpa [e1,hlt,w1,w2]) ?_ | apply wp_bs | apply wp_b | refine wp_sr ?_ | refine wp_sx ?_ | refine wp_ret' ?_ | refine wp_skip' ?_ | refine wp_exit' ?_)
        refine wp_imp (e4 _ n (by omega) hn) ?_
        rintro ex st ⟨rfl,⟨hs,rfl⟩ | ⟨v,hs,rfl⟩⟩
        · show wp tb _ _ _
          repeat (first|apply wp_as|apply wp_ss|refine wr (by simp;with_reducible rfl) ?_|refine wq (by simp;with_reducible rfl) ?_|refine wt (by simpa) ?_|refine wf (by simpa) ?_|refine xt (by simpa) ?_|refine xf (by simpa) ?_|apply wp_bs|apply wp_b|refine wp_sr ?_|refine wp_sx ?_|refine wp_ret' ?_|refine wp_skip' ?_|refine wp_exit' ?_)
          simp [codS,hs]
        · show wp tb _ _ _
          have hvn:=seaS_lt hs
          have hvd:v < (degs n now).length:=by omega
          have nv:¬ ((v:Int) < 0):=by omega
          have hsub:=drpV_sub (v:Int) n 0 now
          have hgd:(degs n now).getD v 0=(degs n now)[v]:=by simp [hvd]
          have ih:=fun k=>out_S n hn es c m (drpV v n 0 now) (O2 (drpV v n 0 now)) (k::ls) ((v:Int)::o) (g++[(v:Int)]) true v (.inr rfl) (by simp;omega) (by simp;omega) (by simp;omega) (Nat.le_trans hsub.length_le hl) (fun e hm=>he e (hsub.mem hm))
          by_cases hp:0 < (degs n now)[v]
          · have hc:codS n (m+1) now g ls o=codS n m (drpV v n 0 now) (g++[(v:Int)]) (100::ls) ((v:Int)::o):=by simp [codS,hs,nv,hvd,hp]
            rw [hc]
            repeat (first|apply wp_as|apply wp_ss|refine wr (by simp [nv,hvd,hp,s2,q1,q2,q3,q4,q5,q6,q7,q8];with_reducible rfl) ?_|refine wq (by simp [nv,hvd,hp,s2,q1,q2,q3,q4,q5,q6,q7,q8];with_reducible rfl) ?_|refine wt (by simpa [nv,hvd,hp,s2,q1,q2,q3,q4,q5,q6,q7,q8]) ?_|refine wf (by simpa [nv,hvd,hp,s2,q1,q2,q3,q4,q5,q6,q7,q8]) ?_|refine xt (by simpa [nv,hvd,hp,s2,q1,q2,q3,q4,q5,q6,q7,q8]) ?_|refine xf (by simpa [nv,hvd,hp,s2,q1,q2,q3,q4,q5,q6,q7,q8]) ?_|apply wp_bs|apply wp_b|refine wp_sr ?_|refine wp_sx ?_|refine wp_ret' ?_|refine wp_skip' ?_|refine wp_exit' ?_)
            refine wp_imp (drops_S n hn es c (strNums (100::ls)) ((v:Int)::o) (g++[(v:Int)]) v n 0 now (by omega) hl) ?_
            rintro ex st ⟨rfl,rfl⟩
            exact ih 100
          · have hc:codS n (m+1) now g ls o=codS n m (drpV v n 0 now) (g++[(v:Int)]) (105::ls) ((v:Int)::o):=by simp [codS,hs,nv,hvd,hp]
            rw [hc]
            repeat (first|apply wp_as|apply wp_ss|refine wr (by simp [nv,hvd,hp,s1,q1,q2,q3,q4,q5,q6,q7,q8];with_reducible rfl) ?_|refine wq (by simp [nv,hvd,hp,s1,q1,q2,q3,q4,q5,q6,q7,q8];with_reducible rfl) ?_|refine wt (by simpa [nv,hvd,hp,s1,q1,q2,q3,q4,q5,q6,q7,q8]) ?_|refine wf (by simpa [nv,hvd,hp,s1,q1,q2,q3,q4,q5,q6,q7,q8]) ?_|refine xt (by simpa [nv,hvd,hp,s1,q1,q2,q3,q4,q5,q6,q7,q8]) ?_|refine xf (by simpa [nv,hvd,hp,s1,q1,q2,q3,q4,q5,q6,q7,q8]) ?_|apply wp_bs|apply wp_b|refine wp_sr ?_|refine wp_sx ?_|refine wp_ret' ?_|refine wp_skip' ?_|refine wp_exit' ?_)
            refine wp_imp (drops_S n hn es c (strNums (105::ls)) ((v:Int)::o) (g++[(v:Int)]) v n 0 now (by omega) hl) ?_
            rintro ex st ⟨rfl,rfl⟩
            exact ih 105
end Go.Idl
namespace Go.Idl
open Go
theorem ev_spec_codeOf (n:Nat) (hn:n≤7) (es:List (Int×Int)) (c:Bool) (hl:es.length≤1000) (he:EdgesIn n es) :
    Ev tb zl340 [] [Gr n es c] [] ⟨resC (codS n n es [] [] []),[],[],[]⟩:=by
  have e1:=out_S n hn es c n es (L2 es c) [] [] [] false 0 (.inl ⟨c,rfl⟩) (by simp) rfl rfl hl he
  have h0:strNums []=ByteArray.empty:=rfl
  refine call_of_wp zt340 rfl ?_
  repeat (first|apply wp_as|apply wp_ss|refine wr (by simp;with_reducible rfl) ?_|refine wq (by simp;with_reducible rfl) ?_|refine wt (by simpa) ?_|refine wf (by simpa) ?_|refine xt (by simpa) ?_|refine xf (by simpa) ?_|apply wp_bs|apply wp_b|refine wp_sr ?_|refine wp_sx ?_|refine wp_ret' ?_|refine wp_skip' ?_|refine wp_exit' ?_)
  refine wp_imp e1 ?_
  intro ex st h
  cases hq:codS n n es [] [] [] with
  | none =>
    rw [hq] at h
    obtain ⟨rfl,T,loc,rfl⟩:=h
    simp [zi340,resC]
  | some r =>
    obtain ⟨l,o⟩:=r
    rw [hq] at h
    obtain ⟨rfl,g,B,rfl⟩:=h
    show wp tb _ _ _
    repeat (first|apply wp_as|apply wp_ss|refine wr (by simp;with_reducible rfl) ?_|refine wq (by simp;with_reducible rfl) ?_|refine wt (by simpa) ?_|refine wf (by simpa) ?_|refine xt (by simpa) ?_|refine xf (by simpa) ?_|apply wp_bs|apply wp_b|refine wp_sr ?_|refine wp_sx ?_|refine wp_ret' ?_|refine wp_skip' ?_|refine wp_exit' ?_)
    simp [zi340,resC]
theorem ev_spec_CodeOf (n:Nat) (es:List (Int×Int)) (c:Bool) (hl:es.length≤1000) (he:EdgesIn n es) (hv:vGraph n es=true) (hn:n ≠ 0) :
    Ev tb zl481 [] [Gr n es c] [] ⟨resC (codS n n es [] [] []),[],[],[]⟩:=by
  have e1:=ev_lim (ev_validGraph n es c (by omega))
  rw [hv] at e1
  have hv':=hv
  simp only [vGraph,Bool.and_eq_true,decide_eq_true_eq] at hv'
  have e2:=ev_lim (ev_spec_codeOf n (by omega) es c hl he)
  refine call_of_wp zt481 rfl ?_
  cases hq:codS n n es [] [] [] with
  | none =>
    rw [hq] at e2
    simp only [resC] at e2
    repeat (first|apply wp_as|apply wp_ss|refine wr (by simp [e1,e2,hn];with_reducible rfl) ?_|refine wq (by simp [e1,e2,hn];with_reducible rfl) ?_|refine wt (by simpa [e1,e2,hn]) ?_|refine wf (by simpa [e1,e2,hn]) ?_|refine xt (by simpa [e1,e2,hn]) ?_|refine xf (by simpa [e1,e2,hn]) ?_|apply wp_bs|apply wp_b|refine wp_sr ?_|refine wp_sx ?_|refine wp_ret' ?_|refine wp_skip' ?_|refine wp_exit' ?_)
    simp [zi481,resC]
  | some r =>
    obtain ⟨l,o⟩:=r
    rw [hq] at e2
    simp only [resC] at e2
    repeat (first|apply wp_as|apply wp_ss|refine wr (by simp [e1,e2,hn];with_reducible rfl) ?_|refine wq (by simp [e1,e2,hn];with_reducible rfl) ?_|refine wt (by simpa [e1,e2,hn]) ?_|refine wf (by simpa [e1,e2,hn]) ?_|refine xt (by simpa [e1,e2,hn]) ?_|refine xf (by simpa [e1,e2,hn]) ?_|apply wp_bs|apply wp_b|refine wp_sr ?_|refine wp_sx ?_|refine wp_ret' ?_|refine wp_skip' ?_|refine wp_exit' ?_)
    simp [zi481,resC]
theorem ev_spec_CodeOf_no (n:Int) (es:List (Int×Int)) (c:Bool) (hl:es.length≤100000000) (hv:vGraph n es=false ∨ n=0) :
    Ev tb zl481 [] [Gr n es c] [] ⟨resC none,[],[],[]⟩:=by
  have e1:=ev_lim (ev_validGraph n es c hl)
  refine call_of_wp zt481 rfl ?_
  cases hq:vGraph n es with
  | false =>
    rw [hq] at e1
    repeat (first|apply wp_as|apply wp_ss|refine wr (by simp [e1];with_reducible rfl) ?_|refine wq (by simp [e1];with_reducible rfl) ?_|refine wt (by simpa [e1]) ?_|refine wf (by simpa [e1]) ?_|refine xt (by simpa [e1]) ?_|refine xf (by simpa [e1]) ?_|apply wp_bs|apply wp_b|refine wp_sr ?_|refine wp_sx ?_|refine wp_ret' ?_|refine wp_skip' ?_|refine wp_exit' ?_)
    simp [zi481,resC]
  | true =>
    rw [hq] at e1
    have h0:n=0:=hv.resolve_left (by rw [hq];simp)
    subst h0
    repeat (first|apply wp_as|apply wp_ss|refine wr (by simp [e1];with_reducible rfl) ?_|refine wq (by simp [e1];with_reducible rfl) ?_|refine wt (by simpa [e1]) ?_|refine wf (by simpa [e1]) ?_|refine xt (by simpa [e1]) ?_|refine xf (by simpa [e1]) ?_|apply wp_bs|apply wp_b|refine wp_sr ?_|refine wp_sx ?_|refine wp_ret' ?_|refine wp_skip' ?_|refine wp_exit' ?_)
    simp [zi481,resC]
end Go.Idl
namespace Go.Idl
def insP (x:Nat×Nat):List (Nat×Nat)→List (Nat×Nat)
  | []=>[x]
  | y::r=>if Nat.ble y.1 x.1 then x::y::r else y::insP x r
def hh:Nat→List (Nat×Nat)→List (Nat×Nat)
  | 0,_=>[]
  | _+1,[]=>[]
  | m+1,x::r=>(r.take x.1).map (fun y:Nat×Nat=>(x.2,y.2))++hh m ((((r.take x.1).map (fun y:Nat×Nat=>(y.1 - 1,y.2))++r.drop x.1:List (Nat×Nat))).foldr insP [])
theorem getD_zero_all {left:List Int} {N:Nat} (hl:left.length=N):left.all (fun x=>decide (x=0))=true ↔ ∀ v,v < N→(0:Int)=left.getD v 0:=by
  rw [List.all_eq_true]
  constructor
  · intro h v hv
    rw [List.getD_eq_getElem?_getD,List.getElem?_eq_getElem (by omega)]
    have:=of_decide_eq_true (h _ (List.getElem_mem (show v < left.length by omega)))
    simp [this]
  · intro h x hx
    obtain ⟨v,hv,rfl⟩:=List.getElem_of_mem hx
    have:=h v (by omega)
    rw [List.getD_eq_getElem?_getD,List.getElem?_eq_getElem hv] at this
    simpa using this.symm
theorem decAt_get {o:List Int} {i v:Nat} (hv:v < o.length):(decAt o i).getD v 0=o.getD v 0 - (if i=v then 1 else 0):=by
  rw [decAt,List.getD_eq_getElem?_getD,List.getElem?_set]
  by_cases h:i=v
  · subst h;simp [hv,List.getD_eq_getElem?_getD]
  · simp [h,List.getD_eq_getElem?_getD]
theorem inc_nonneg (v:Nat) (e:Int×Int):0≤inc v e:=by simp only [inc];split <;> split <;> decide
theorem mem_subs {N:Nat}:∀ (r:List (Int×Int)) (left:List Int) (ch g:List (Int×Int)),(∀ e ∈ r,0≤e.1∧e.1 < e.2∧e.2 < N)→left.length=N →
    (g ∈ subs r left ch ↔ ∃ s:List (Int×Int),s.Sublist r∧g=ch++s∧∀ v,v < N→deg s v=left.getD v 0)
  | [],left,ch,g,_,hl=>by
    rw [subs]
    constructor
    · intro h
      split at h
      · rename_i hz
        simp at h
        subst h
        exact ⟨[],List.Sublist.refl _,by simp,fun v hv=>(getD_zero_all hl).1 hz v hv⟩
      · simp at h
    · rintro ⟨s,hs,rfl,hd⟩
      have:s=[]:=by simpa using hs
      subst this
      rw [if_pos ((getD_zero_all hl).2 fun v hv=>hd v hv)]
      simp
  | e::r,left,ch,g,hr,hl=>by
    have he:=hr e (by simp)
    have hr':∀ x ∈ r,0≤x.1∧x.1 < x.2∧x.2 < N:=fun x hx=>hr x (by simp [hx])
    have hdl:(decAt (decAt left e.1.toNat) e.2.toNat).length=N:=by simp [decAt,hl]
    have hget:∀ v,v < N→(decAt (decAt left e.1.toNat) e.2.toNat).getD v 0=left.getD v 0 - inc v e:=fun v hv=>by
      rw [decAt_get (by simp [decAt];omega),decAt_get (by omega),inc]
      have c1:(e.1.toNat=v)=(e.1=(v:Int)):=by rw [eq_iff_iff];omega
      have c2:(e.2.toNat=v)=(e.2=(v:Int)):=by rw [eq_iff_iff];omega
      simp only [c1,c2];omega
    rw [subs,List.mem_append]
    constructor
    · rintro (h | h)
      · split at h
        rotate_left
        · simp at h
        obtain ⟨s,hs,rfl,hd⟩:=(mem_subs r _ _ g hr' hdl).1 h
        refine ⟨e::s,hs.cons_cons e,by simp,fun v hv=>?_⟩
        have h1:=hd v hv
        rw [hget v hv] at h1
        rw [deg,S_cons]
        have h2:S s (inc v)=left.getD v 0 - inc v e:=h1
        rw [h2];omega
      · obtain ⟨s,hs,rfl,hd⟩:=(mem_subs r _ _ g hr' hl).1 h
        exact ⟨s,hs.cons e,rfl,hd⟩
    · rintro ⟨s,hs,rfl,hd⟩
      rcases List.sublist_cons_iff.1 hs with hs2 | ⟨s',rfl,hs2⟩
      · exact .inr ((mem_subs r _ _ _ hr' hl).2 ⟨s,hs2,rfl,hd⟩)
      · refine .inl ?_
        have hd':∀ v,v < N→inc v e+deg s' v=left.getD v 0:=fun v hv=>by
          rw [← hd v hv,deg,deg,S_cons]
        have pos:∀ x:Int,0≤x→x < N→(e.1=x ∨ e.2=x)→0 < left.getD x.toNat 0:=fun x h0 h1 h2=>by
          have h3:=hd' x.toNat (by omega)
          have h4:0≤deg s' x.toNat:=S_nonneg fun y _=>inc_nonneg _ y
          have h5:1≤inc x.toNat e:=by
            simp only [inc,show ((x.toNat:Nat):Int)=x by omega]
            rcases h2 with h2 | h2
            · rw [if_pos h2];split <;> decide
            · rw [if_pos h2];split <;> decide
          omega
        rw [if_pos ⟨pos e.1 (by omega) (by omega) (.inl rfl),pos e.2 (by omega) (by omega) (.inr rfl)⟩]
        refine (mem_subs r _ _ _ hr' hdl).2 ⟨s',hs2,by simp,fun v hv=>?_⟩
        rw [hget v hv,← hd' v hv];omega
theorem ite_iff {α:Type} {p q:Prop} [Decidable p] [Decidable q] (h:p ↔ q) (a b:α):(if p then a else b)=if q then a else b:=by
  by_cases hp:p
  · rw [if_pos hp,if_pos (h.1 hp)]
  · rw [if_neg hp,if_neg fun hq=>hp (h.2 hq)]
def mk (u v:Nat):Int×Int:=(min (u:Int) v,max (u:Int) v)
theorem inc_mk_all:(List.range 8).all (fun n=>(prs n).all fun e=>(List.range n).all fun v=>decide (inc v e=S (List.range n) (fun u=>if u=v then 0 else if e=mk u v then 1 else 0)))=true:=by decide +kernel
theorem inc_mk {n:Nat} (hn:n≤7) {e:Int×Int} (he:e ∈ prs n) {v:Nat} (hv:v < n):inc v e=S (List.range n) (fun u=>if u=v then 0 else if e=mk u v then 1 else 0):=by
  have:=List.all_eq_true.1 (List.all_eq_true.1 (List.all_eq_true.1 inc_mk_all n (List.mem_range.2 (by omega))) e he) v (List.mem_range.2 hv)
  exact of_decide_eq_true this
theorem S_ite {α:Type} (l:List α) (p:α→Bool) (f:α→Int):S (l.filter p) f=S l (fun a=>if p a then f a else 0):=by
  induction l with
  | nil=>rfl
  | cons a l ih =>
    rw [List.filter_cons,S_cons]
    split <;> rename_i h
    · rw [S_cons,ih]
    · rw [ih];omega
theorem mk_mem {n u v:Nat} (hu:u < n) (hv:v < n) (h:u ≠ v):mk u v ∈ prs n:=mem_prs.2 (by simp only [mk];omega)
theorem deg_filter {n:Nat} (hn:n≤7) (p:Int×Int→Bool) {v:Nat} (hv:v < n):deg ((prs n).filter p) v=S (List.range n) (fun u=>if u=v then 0 else if p (mk u v) then 1 else 0):=by
  rw [deg,S_ite,S_congr (g:=fun e=>S (List.range n) (fun u=>if u=v then 0 else if e=mk u v then (if p (mk u v) then 1 else 0) else 0)) fun e he=>?_,S_swap]
  · refine S_congr fun u hu=>?_
    have hu:=List.mem_range.1 hu
    by_cases huv:u=v
    · simp only [huv,if_true];exact S_zero _
    · simp only [if_neg huv]
      have hm:=mk_mem hu hv huv
      have h1:=S_one (pw_nodup (prs_pw n)) (mk u v)
      rw [if_pos hm] at h1
      by_cases hp:p (mk u v)=true
      · simp only [hp,if_true]
        exact Eq.trans (S_congr fun e _=>ite_iff eq_comm _ _) h1
      · simp only [if_neg hp,ite_self];exact S_zero _
  · rw [inc_mk hn he hv]
    by_cases hp:p e=true
    · rw [if_pos hp]
      refine S_congr fun u _=>?_
      by_cases huv:u=v
      · simp [huv]
      · simp only [if_neg huv]
        by_cases hem:e=mk u v
        · rw [if_pos hem,if_pos hem,← hem,if_pos hp]
        · rw [if_neg hem,if_neg hem]
    · rw [if_neg hp]
      symm
      rw [S_congr (g:=fun _=>0),S_zero]
      intro u _
      by_cases huv:u=v
      · simp [huv]
      · simp only [if_neg huv]
        by_cases hem:e=mk u v
        · rw [if_pos hem,← hem,if_neg hp]
        · rw [if_neg hem]
theorem mk_comm (u v:Nat):mk u v=mk v u:=Prod.ext (by simp only [mk];omega) (by simp only [mk];omega)
end Go.Idl
namespace Go.Idl
theorem deg_degs {n:Nat} {s:List (Int×Int)} (hs:s.Sublist (prs n)) {d:List Int} (hl:d.length=n):(∀ v,v < n→deg s v=d.getD v 0) ↔ degs n s=d:=by
  rw [degs_eq (prs_in hs)]
  constructor
  · intro h
    refine List.ext_getElem (by simp [hl]) fun v h1 h2=>?_
    rw [List.getElem_map,List.getElem_range,h v (by omega),List.getD_eq_getElem?_getD,List.getElem?_eq_getElem h2];rfl
  · intro h v hv
    rw [← h,List.getD_eq_getElem?_getD,List.getElem?_map,List.getElem?_range hv];rfl
theorem mem_reals {d:List Int} (h7:d.length≤7) (g:List (Int×Int)):g ∈ reals d ↔ vGraph d.length g=true∧degs d.length g=d:=by
  rw [reals,mem_subs (N:=d.length) _ _ _ _ (fun e he=>mem_prs.1 he) rfl]
  constructor
  · rintro ⟨s,hs,rfl,hd⟩
    exact ⟨vG_iff.2 ⟨(prs_pw _).sublist hs,fun e he=>hs.mem he,h7⟩,(deg_degs hs rfl).1 hd⟩
  · rintro ⟨h1,h2⟩
    exact ⟨g,vG_sub h1,rfl,(deg_degs (vG_sub h1) rfl).2 h2⟩
end Go.Idl
namespace Go.Idl
theorem insE_pw {e:Int×Int}:∀ {es:List (Int×Int)},PW es→e ∉ es→PW (insE e es)
  | [],_,_=>by simp [insE,PW]
  | x::r,h,hn=>by
    have h':=List.pairwise_cons.1 h
    rw [insE]
    split
    · rename_i hx
      refine List.pairwise_cons.2 ⟨fun y hy=>?_,insE_pw h'.2 fun hm=>hn (by simp [hm])⟩
      rcases (insE_mem _ _ _).1 hy with rfl | hy
      · exact hx
      · exact h'.1 y hy
    · rename_i hx
      have hxe:below e x=true:=by
        rcases below_total (a:=e) (b:=x) (fun h=>hn (by simp [h])) with q | q
        · exact q
        · exact absurd q hx
      refine List.pairwise_cons.2 ⟨fun y hy=>?_,h⟩
      rcases List.mem_cons.1 hy with rfl | hy
      · exact hxe
      · exact below_trans hxe (h'.1 y hy)
end Go.Idl
namespace Go.Idl
theorem idxB_pw (n:Nat):(idxB n (-1)).Pairwise (fun a b:Int=>a < b):=by
  rw [idxB_all,List.pairwise_map]
  exact (List.pairwise_lt_range).imp fun h=>by omega
theorem mem_idxB {n:Nat} {x:Int}:x ∈ idxB n (-1) ↔ 0≤x∧x < n:=by
  rw [idxB_all,List.mem_map]
  constructor
  · rintro ⟨v,hv,rfl⟩;have:=List.mem_range.1 hv;omega
  · intro h;exact ⟨x.toNat,List.mem_range.2 (by omega),by omega⟩
end Go.Idl
namespace Go.Idl
def hv:Nat→List Int→Bool
  | 0,_=>true
  | _+1,[]=>true
  | m+1,x::r=>decide (x≤r.length) && (r.take x.toNat).all (fun y=>!decide (y=0)) && hv m (fall ((r.take x.toNat).map (fun y=>y - 1)++r.drop x.toNat))
end Go.Idl
namespace Go.Idl
theorem len_sub {α:Type} [DecidableEq α]:∀ {l k:List α},l.Nodup→(∀ x ∈ l,x ∈ k)→l.length≤k.length
  | [],_,_,_=>by simp
  | a::l,k,hn,hs=>by
    have hn':=List.nodup_cons.1 hn
    have h1:=len_sub (l:=l) (k:=k.erase a) hn'.2 (fun x hx=>(List.mem_erase_of_ne (fun h=>hn'.1 (by rw [← h];exact hx))).2 (hs x (by simp [hx])))
    have h2:=List.length_erase_of_mem (hs a (by simp))
    have h3:0 < k.length:=List.length_pos_of_mem (hs a (by simp))
    simp only [List.length_cons];omega
theorem len_inj {α β:Type} [DecidableEq β] {l:List α} {k:List β} (f:α→β) (hn:l.Nodup) (hi:∀ x ∈ l,∀ y ∈ l,f x=f y→x=y) (hf:∀ x ∈ l,f x ∈ k):l.length≤k.length:=by
  have h1:(l.map f).Nodup:=by
    rw [List.Nodup,List.pairwise_map]
    exact List.Pairwise.imp_of_mem (fun ha hb h hab=>h (hi _ ha _ hb hab)) hn
  have:=len_sub h1 (fun y hy=>by obtain ⟨x,hx,rfl⟩:=List.mem_map.1 hy;exact hf x hx)
  simpa using this
theorem subs_nodup {N:Nat}:∀ (r:List (Int×Int)) (left:List Int) (ch:List (Int×Int)),(∀ e ∈ r,0≤e.1∧e.1 < e.2∧e.2 < N)→left.length=N→r.Nodup→(subs r left ch).Nodup
  | [],left,ch,_,_,_=>by rw [subs];split <;> simp
  | e::r,left,ch,hr,hl,hn=>by
    have hn':=List.nodup_cons.1 hn
    have hr':∀ x ∈ r,0≤x.1∧x.1 < x.2∧x.2 < N:=fun x hx=>hr x (by simp [hx])
    rw [subs]
    refine List.nodup_append.2 ⟨?_,subs_nodup r left ch hr' hl hn'.2,?_⟩
    · split
      · exact subs_nodup r _ _ hr' (by simp [decAt,hl]) hn'.2
      · exact .nil
    · intro g hg g2 hg2 hgg
      subst hgg
      split at hg
      · obtain ⟨s1,-,h1,-⟩:=(mem_subs r _ _ g hr' (by simp [decAt,hl])).1 hg
        obtain ⟨s2,hs2,h2,-⟩:=(mem_subs r _ _ g hr' hl).1 hg2
        rw [h1,List.append_assoc] at h2
        have h3:=List.append_cancel_left h2
        exact hn'.1 (hs2.mem (by rw [← h3];simp))
      · cases hg
theorem reals_nodup (d:List Int):(reals d).Nodup:=subs_nodup _ _ _ (fun _ he=>mem_prs.1 he) rfl (pw_nodup (prs_pw _))
def rel (n:Nat) (σ:Nat→Nat) (g:List (Int×Int)):List (Int×Int):=(prs n).filter fun e=>decide (mk (σ e.1.toNat) (σ e.2.toNat) ∈ g)
theorem mk_nat {n:Nat} {e:Int×Int} (he:e ∈ prs n):mk e.1.toNat e.2.toNat=e:=by
  have:=mem_prs.1 he
  exact Prod.ext (by simp only [mk];omega) (by simp only [mk];omega)
theorem rel_deg {n:Nat} (hn:n≤7) {σ:Nat→Nat} (hσ:∀ u,u < n→σ u < n) (hi:∀ u v,u < n→v < n→(σ u=σ v ↔ u=v)) (hp:((List.range n).map σ).Perm (List.range n)) {g:List (Int×Int)} (hg:vGraph n g=true) {v:Nat} (hv:v < n) :
    deg (rel n σ g) v=deg g (σ v):=by
  conv=>rhs;rw [vG_filter hg]
  rw [rel,deg_filter hn _ hv,deg_filter hn _ (hσ v hv)]
  conv=>rhs;rw [← S_perm hp,S_map]
  refine S_congr fun u hu=>?_
  have hu:=List.mem_range.1 hu
  have hm:mk (σ (mk u v).1.toNat) (σ (mk u v).2.toNat)=mk (σ u) (σ v):=by
    rcases Nat.le_total u v with h | h
    · rw [show (mk u v).1.toNat=u by simp only [mk];omega,show (mk u v).2.toNat=v by simp only [mk];omega]
    · rw [show (mk u v).1.toNat=v by simp only [mk];omega,show (mk u v).2.toNat=u by simp only [mk];omega,mk_comm]
  rw [hm]
  exact ite_iff (hi u v hu hv).symm _ _
theorem rel_rel {n:Nat} {σ τ:Nat→Nat} (hτ:∀ u,u < n→τ u < n) (hi:∀ u v,u < n→v < n→(τ u=τ v ↔ u=v)) (hst:∀ u,u < n→σ (τ u)=u) {g:List (Int×Int)} (hg:vGraph n g=true) :
    rel n τ (rel n σ g)=g:=by
  conv=>rhs;rw [vG_filter hg]
  refine List.filter_congr fun e he=>?_
  have hb:=mem_prs.1 he
  obtain ⟨a,ha⟩:=Int.eq_ofNat_of_zero_le (show 0≤e.1 by omega)
  obtain ⟨b,hb2⟩:=Int.eq_ofNat_of_zero_le (show 0≤e.2 by omega)
  have he2:=mk_nat he
  rw [ha,hb2,Int.toNat_natCast,Int.toNat_natCast] at he2 ⊢
  have han:a < n:=by omega
  have hbn:b < n:=by omega
  have hm:mk (τ a) (τ b) ∈ prs n:=mk_mem (hτ a han) (hτ b hbn) (fun h=>by have:=(hi a b han hbn).1 h;omega)
  rw [decide_eq_decide,rel,List.mem_filter,decide_eq_true_eq]
  have hm2:mk (σ (mk (τ a) (τ b)).1.toNat) (σ (mk (τ a) (τ b)).2.toNat)=e:=by
    rcases Nat.le_total (τ a) (τ b) with h | h
    · rw [show (mk (τ a) (τ b)).1.toNat=τ a by simp only [mk];omega,show (mk (τ a) (τ b)).2.toNat=τ b by simp only [mk];omega,hst a han,hst b hbn,he2]
    · rw [show (mk (τ a) (τ b)).1.toNat=τ b by simp only [mk];omega,show (mk (τ a) (τ b)).2.toNat=τ a by simp only [mk];omega,hst a han,hst b hbn,mk_comm,he2]
  rw [hm2]
  exact ⟨fun h=>h.2,fun h=>⟨hm,h⟩⟩
theorem reals_rel {d f:List Int} (h7:d.length≤7) (hl:f.length=d.length) {σ τ:Nat→Nat} (hσ:∀ u,u < d.length→σ u < d.length) (hτ:∀ u,u < d.length→τ u < d.length)
    (hst:∀ u,u < d.length→σ (τ u)=u) (hts:∀ u,u < d.length→τ (σ u)=u) (hp:((List.range d.length).map σ).Perm (List.range d.length)) (hd:∀ u,u < d.length→f.getD u 0=d.getD (σ u) 0) :
    (reals d).length≤(reals f).length:=by
  have hiσ:∀ u v,u < d.length→v < d.length→(σ u=σ v ↔ u=v):=fun u v hu hv=>⟨fun h=>by rw [← hts u hu,h,hts v hv],fun h=>by rw [h]⟩
  have hiτ:∀ u v,u < d.length→v < d.length→(τ u=τ v ↔ u=v):=fun u v hu hv=>⟨fun h=>by rw [← hst u hu,h,hst v hv],fun h=>by rw [h]⟩
  refine len_inj (rel d.length σ) (reals_nodup d) (fun x hx y hy h=>?_) fun g hg=>?_
  · rw [← rel_rel hτ hiτ hst ((mem_reals h7 x).1 hx).1,h,rel_rel hτ hiτ hst ((mem_reals h7 y).1 hy).1]
  · obtain ⟨h1,h2⟩:=(mem_reals h7 g).1 hg
    have hv:vGraph d.length (rel d.length σ g)=true:=filter_vG h7 _
    refine (mem_reals (by omega) _).2 ?_
    rw [hl]
    refine ⟨hv,(deg_degs (vG_sub hv) hl).1 fun v hv=>?_⟩
    rw [rel_deg h7 hσ hiσ hp h1 hv,hd v hv]
    exact (deg_degs (vG_sub h1) rfl).2 h2 _ (hσ v hv)
theorem reals_fall {d:List Int} (h7:d.length≤7):(reals (fall d)).length=(reals d).length:=by
  obtain ⟨n,hn⟩:∃ n,n=d.length:=⟨_,rfl⟩
  have hd:d=(List.range n).map fun v=>d.getD v 0:=by
    refine List.ext_getElem (by simp [hn]) fun i k1 k2=>?_
    simp [List.getD_eq_getElem?_getD,List.getElem?_eq_getElem k1]
  obtain ⟨π,hπ,hfp⟩:=perm_map_inv (f:=fun v=>d.getD v 0) (fall_perm d) hd
  have hπn:π.Nodup:=hπ.nodup_iff.2 List.nodup_range
  have hπl:π.length=n:=by rw [hπ.length_eq,List.length_range]
  have hσ:∀ v,v < n→π.idxOf v < n:=fun v hv=>by
    have hm:v ∈ π:=hπ.mem_iff.2 (List.mem_range.2 hv)
    have:=List.idxOf_lt_length_of_mem hm
    omega
  have hτσ:∀ v,v < n→π.getD (π.idxOf v) 0=v:=fun v hv=>by
    have hm:v ∈ π:=hπ.mem_iff.2 (List.mem_range.2 hv)
    have:=List.idxOf_lt_length_of_mem hm
    rw [List.getD_eq_getElem?_getD,List.getElem?_eq_getElem this,List.getElem_idxOf];rfl
  have hτ:∀ i,i < n→π.getD i 0 < n:=fun i hi=>by
    rw [List.getD_eq_getElem?_getD,List.getElem?_eq_getElem (by omega)]
    exact List.mem_range.1 (hπ.mem_iff.1 (List.getElem_mem _))
  have hστ:∀ i,i < n→π.idxOf (π.getD i 0)=i:=fun i hi=>by
    rw [List.getD_eq_getElem?_getD,List.getElem?_eq_getElem (by omega)]
    exact hπn.idxOf_getElem i (by omega)
  have hp1:((List.range n).map (π.getD · 0)).Perm (List.range n):=by
    have:(List.range n).map (π.getD · 0)=π:=by
      refine List.ext_getElem (by simp [hπl]) fun i k1 k2=>?_
      simp [List.getD_eq_getElem?_getD,List.getElem?_eq_getElem k2]
    rw [this];exact hπ
  have hp2:((List.range n).map (π.idxOf ·)).Perm (List.range n):=by
    have hmap:π.map (π.idxOf ·)=List.range n:=by
      refine List.ext_getElem (by simp [hπl]) fun i k1 k2=>?_
      rw [List.getElem_map,List.getElem_range]
      exact hπn.idxOf_getElem i (by simpa using k1)
    have:=hπ.symm.map (π.idxOf ·)
    rwa [hmap] at this
  have hf:∀ i,i < n→(fall d).getD i 0=d.getD (π.getD i 0) 0:=fun i hi=>by
    rw [hfp,List.getD_eq_getElem?_getD,List.getElem?_map,List.getD_eq_getElem?_getD (l:=π),List.getElem?_eq_getElem (by omega:i < π.length)];rfl
  have hfl:=fall_len d
  have a1:=reals_rel (d:=d) (f:=fall d) h7 hfl (σ:=(π.getD · 0)) (τ:=(π.idxOf ·)) (by rw [← hn];exact hτ) (by rw [← hn];exact hσ) (by rw [← hn];exact hτσ) (by rw [← hn];exact hστ) (by rw [← hn];exact hp1) (by rw [← hn];exact hf)
  have a2:=reals_rel (d:=fall d) (f:=d) (by omega) hfl.symm (σ:=(π.idxOf ·)) (τ:=(π.getD · 0)) (by rw [hfl,← hn];exact hσ) (by rw [hfl,← hn];exact hτ) (by rw [hfl,← hn];exact hστ) (by rw [hfl,← hn];exact hτσ) (by rw [hfl,← hn];exact hp2) (fun i hi=>by
    rw [hfl,← hn] at hi
    rw [hf _ (hσ i hi),hτσ i hi])
  omega
theorem insE_end {e:Int×Int}:∀ {es:List (Int×Int)},(∀ x ∈ es,below x e=true)→insE e es=es++[e]
  | [],_=>rfl
  | x::es,h=>by rw [insE,if_pos (h x (by simp)),insE_end fun y hy=>h y (by simp [hy])];rfl
theorem sum_zero:∀ {l:List Int},(∀ x ∈ l,0≤x)→(l.sum=0 ↔ l.all (fun x=>decide (x=0))=true)
  | [],_=>by simp
  | x::l,h=>by
    have h1:=h x (by simp)
    have h2:0≤l.sum:=by
      have:∀ {l:List Int},(∀ x ∈ l,0≤x)→0≤l.sum:=by
        intro l
        induction l with
        | nil=>intro _;simp
        | cons y l ih=>intro h;have:=ih fun z hz=>h z (by simp [hz]);have:=h y (by simp);simp only [List.sum_cons];omega
      exact this fun y hy=>h y (by simp [hy])
    rw [List.sum_cons,List.all_cons,Bool.and_eq_true,← sum_zero fun y hy=>h y (by simp [hy]),decide_eq_true_eq]
    omega
theorem srS_subs {n:Nat}:∀ (r:List (Int×Int)) (left:List Int) (es:List (Int×Int)),PW r→(∀ e ∈ r,e ∈ prs n)→left.length=n→(∀ x ∈ left,0≤x)→(∀ x ∈ es,∀ e ∈ r,below x e=true) →
    srS n es left r=subs r left es
  | [],left,es,_,_,_,hb,_=>by rw [srS,subs];exact ite_iff (sum_zero hb) _ _
  | e::r,left,es,hp,hr,hl,hb,hes=>by
    have hp':=List.pairwise_cons.1 hp
    have he:=mem_prs.1 (hr e (by simp))
    have hr':∀ x ∈ r,x ∈ prs n:=fun x hx=>hr x (by simp [hx])
    have hes':∀ x ∈ es,∀ y ∈ r,below x y=true:=fun x hx y hy=>hes x hx y (by simp [hy])
    have h2:=srS_subs r left es hp'.2 hr' hl hb hes'
    rw [srS,subs,insE_end fun x hx=>hes x hx e (by simp)]
    congr 1
    · split
      · rename_i hq
        refine srS_subs r _ _ hp'.2 hr' (by simp [decAt,hl]) (fun x hx=>?_) fun x hx y hy=>?_
        · obtain ⟨i,hi,rfl⟩:=List.mem_iff_getElem.1 hx
          have hi2:i < left.length:=by simpa [decAt] using hi
          have g1:=decAt_get (o:=decAt left e.1.toNat) (i:=e.2.toNat) (v:=i) (by simpa [decAt] using hi2)
          have g2:=decAt_get (o:=left) (i:=e.1.toNat) (v:=i) hi2
          rw [List.getD_eq_getElem?_getD,List.getElem?_eq_getElem hi] at g1
          have g3:=hb left[i] (List.getElem_mem hi2)
          have g4:left.getD i 0=left[i]:=by rw [List.getD_eq_getElem?_getD,List.getElem?_eq_getElem hi2];rfl
          simp only [Option.getD_some] at g1
          rw [g1,g2,g4]
          by_cases k1:e.1.toNat=i
          · rw [k1] at hq
            have:¬ e.2.toNat=i:=by omega
            rw [if_pos k1,if_neg this];omega
          · by_cases k2:e.2.toNat=i
            · rw [k2] at hq
              rw [if_neg k1,if_pos k2];omega
            · rw [if_neg k1,if_neg k2];omega
        · rcases List.mem_append.1 hx with hx | hx
          · exact hes' x hx y hy
          · simp at hx;subst hx;exact hp'.1 y hy
      · rfl
    · by_cases hq:e.2+1 < n ∨ left.getD e.1.toNat 0=0
      · rw [if_pos hq,h2]
      · rw [if_neg hq]
        cases hs:subs r left es with
        | nil=>rfl
        | cons g gl =>
          exfalso
          have hg:g ∈ subs r left es:=by rw [hs];simp
          obtain ⟨s,hsr,-,hd⟩:=(mem_subs r left es g (fun x hx=>mem_prs.1 (hr' x hx)) hl).1 hg
          have h3:=hd e.1.toNat (by omega)
          have h4:deg s e.1.toNat=0:=by
            rw [deg,S_congr (g:=fun _=>0),S_zero]
            intro x hx
            have hx1:=hp'.1 x (hsr.mem hx)
            have hx2:=mem_prs.1 (hr' x (hsr.mem hx))
            rw [below_iff] at hx1
            rw [inc,if_neg (by omega),if_neg (by omega)];rfl
          omega
theorem srS_reals {d:List Int} (hv:valid d=true):srS d.length [] d (prs d.length)=reals d :=
  srS_subs _ _ _ (prs_pw _) (fun _ h=>h) rfl (fun x hx=>(valid_mem hv x hx).1) (by simp)
end Go.Idl
namespace Go.Idl
def encI:List Int→Nat
  | []=>0
  | x::r=>x.toNat+8 * encI r
theorem dig_enc:∀ (l:List Int) (i:Nat),(∀ x ∈ l,0≤x∧x < 8)→encI l / 8 ^ i % 8=(l.getD i 0).toNat
  | [],i,_=>by simp [encI]
  | x::r,0,h=>by
    have:=h x (by simp)
    simp only [encI,Nat.pow_zero,Nat.div_one,List.getD_cons_zero];omega
  | x::r,i+1,h=>by
    have h1:=h x (by simp)
    have h2:=dig_enc r i fun y hy=>h y (by simp [hy])
    rw [encI,Nat.pow_succ,Nat.mul_comm (8 ^ i),← Nat.div_div_eq_div_mul,show (x.toNat+8 * encI r) / 8=encI r by omega,h2,List.getD_cons_succ]
theorem enc_dec:∀ (l:List Int) (i:Nat),(∀ x ∈ l,0≤x∧x < 8)→0 < l.getD i 0→encI (decAt l i)+8 ^ i=encI l
  | [],i,_,h=>by simp at h
  | x::r,0,h,hp=>by
    simp only [List.getD_cons_zero] at hp
    simp only [decAt,List.getD_cons_zero,List.set_cons_zero,encI,Nat.pow_zero];omega
  | x::r,i+1,h,hp=>by
    rw [List.getD_cons_succ] at hp
    have h2:=enc_dec r i (fun y hy=>h y (by simp [hy])) hp
    rw [decAt] at h2
    rw [decAt,List.getD_cons_succ,List.set_cons_succ,encI,encI,Nat.pow_succ];omega
theorem enc_zero:∀ l:List Int,(∀ x ∈ l,0≤x∧x < 8)→(encI l=0 ↔ l.sum=0)
  | [],_=>by simp [encI]
  | x::r,h=>by
    have h1:=h x (by simp)
    have h2:=enc_zero r fun y hy=>h y (by simp [hy])
    have h3:0≤r.sum:=by
      have:∀ {l:List Int},(∀ x ∈ l,0≤x∧x < 8)→0≤l.sum:=by
        intro l
        induction l with
        | nil=>intro _;simp
        | cons y l ih=>intro h;have:=ih fun z hz=>h z (by simp [hz]);have:=h y (by simp);simp only [List.sum_cons];omega
      exact this fun y hy=>h y (by simp [hy])
    rw [encI,List.sum_cons];omega
noncomputable def sNq (n:Nat) (P:List (Nat×Nat)):Nat→Nat :=
  List.rec (motive:=fun _=>Nat→Nat) (fun q=>Bool.rec 0 1 (Nat.beq q 0))
    (fun e _ ih q=>Nat.add
      (Bool.rec 0 (Bool.rec 0 (ih (Nat.sub (Nat.sub q (Nat.pow 8 e.1)) (Nat.pow 8 e.2))) (Nat.ble 1 (Nat.mod (Nat.div q (Nat.pow 8 e.2)) 8))) (Nat.ble 1 (Nat.mod (Nat.div q (Nat.pow 8 e.1)) 8)))
      (Bool.rec (Bool.rec 0 (ih q) (Nat.beq (Nat.mod (Nat.div q (Nat.pow 8 e.1)) 8) 0)) (ih q) (Nat.ble (e.2+2) n))) P
theorem rec_ite (b:Bool) (x y:Nat):(Bool.rec x y b:Nat)=if b=true then y else x:=by cases b <;> rfl
theorem sN_consq (n:Nat) (a b:Nat) (P:List (Nat×Nat)) (q:Nat):sNq n ((a,b)::P) q =
    (if 1≤q / 8 ^ a % 8 then (if 1≤q / 8 ^ b % 8 then sNq n P (q - 8 ^ a - 8 ^ b) else 0) else 0)+(if b+2≤n then sNq n P q else if q / 8 ^ a % 8=0 then sNq n P q else 0):=by
  show Nat.add (Bool.rec 0 (Bool.rec 0 (sNq n P (Nat.sub (Nat.sub q (Nat.pow 8 a)) (Nat.pow 8 b))) (Nat.ble 1 (Nat.mod (Nat.div q (Nat.pow 8 b)) 8))) (Nat.ble 1 (Nat.mod (Nat.div q (Nat.pow 8 a)) 8)))
      (Bool.rec (Bool.rec 0 (sNq n P q) (Nat.beq (Nat.mod (Nat.div q (Nat.pow 8 a)) 8) 0)) (sNq n P q) (Nat.ble (b+2) n))=_
  simp only [rec_ite,Nat.ble_eq,Nat.beq_eq]
  rfl
theorem dec_bound {l:List Int} {i:Nat} (h:∀ x ∈ l,0≤x∧x < 8) (hp:0 < l.getD i 0):∀ x ∈ decAt l i,0≤x∧x < 8:=by
  intro x hx
  rcases List.mem_or_eq_of_mem_set hx with hx | rfl
  · exact h x hx
  · have:l.getD i 0 < 8:=by
      rw [List.getD_eq_getElem?_getD] at hp ⊢
      cases hq:l[i]? with
      | none=>rw [hq] at hp;simp at hp
      | some y=>have:=h y (List.mem_of_getElem? hq);simpa using this.2
    omega
theorem dec_other {l:List Int} {i j:Nat} (h:i ≠ j):(decAt l i).getD j 0=l.getD j 0:=by
  rw [decAt,List.getD_eq_getElem?_getD,List.getElem?_set_ne h,List.getD_eq_getElem?_getD]
theorem srS_sN (n:Nat):∀ (r:List (Int×Int)) (es:List (Int×Int)) (left:List Int),(∀ e ∈ r,0≤e.1∧e.1 < e.2)→(∀ x ∈ left,0≤x∧x < 8) →
    (srS n es left r).length=sNq n (r.map fun e=>(e.1.toNat,e.2.toNat)) (encI left)
  | [],es,left,_,hb=>by
    rw [srS]
    show _=(Bool.rec 0 1 (Nat.beq (encI left) 0):Nat)
    rw [rec_ite]
    simp only [Nat.beq_eq]
    by_cases h0:left.sum=0
    · rw [if_pos h0,if_pos ((enc_zero left hb).2 h0)];rfl
    · rw [if_neg h0,if_neg fun h=>h0 ((enc_zero left hb).1 h)];rfl
  | e::r,es,left,hr,hb=>by
    have he:=hr e (by simp)
    have hr':∀ x ∈ r,0≤x.1∧x.1 < x.2:=fun x hx=>hr x (by simp [hx])
    have d1:=dig_enc left e.1.toNat hb
    have d2:=dig_enc left e.2.toNat hb
    have hne:e.1.toNat ≠ e.2.toNat:=by omega
    rw [srS,List.map_cons,sN_consq,d1,d2,List.length_append]
    have i2:=srS_sN n r es left hr' hb
    congr 1
    · by_cases h1:0 < left.getD e.1.toNat 0
      · rw [if_pos (show 1≤(left.getD e.1.toNat 0).toNat by omega)]
        by_cases h2:0 < left.getD e.2.toNat 0
        · rw [if_pos ⟨h1,h2⟩,if_pos (show 1≤(left.getD e.2.toNat 0).toNat by omega)]
          have k1:=enc_dec left e.1.toNat hb h1
          have b1:=dec_bound hb h1
          have h2':0 < (decAt left e.1.toNat).getD e.2.toNat 0:=by rw [dec_other hne];exact h2
          have k2:=enc_dec _ e.2.toNat b1 h2'
          rw [srS_sN n r _ _ hr' (dec_bound b1 h2')]
          congr 1
          omega
        · rw [if_neg (fun h=>h2 h.2),if_neg (show ¬ 1≤(left.getD e.2.toNat 0).toNat by omega)];rfl
      · rw [if_neg (fun h=>h1 h.1),if_neg (show ¬ 1≤(left.getD e.1.toNat 0).toNat by omega)];rfl
    · have hz:(left.getD e.1.toNat 0).toNat=0 ↔ left.getD e.1.toNat 0=0:=by
        have:0≤left.getD e.1.toNat 0:=by
          rw [List.getD_eq_getElem?_getD]
          cases hq:left[e.1.toNat]? with
          | none=>simp
          | some y=>exact (hb y (List.mem_of_getElem? hq)).1
        omega
      by_cases h3:e.2+1 < n
      · rw [if_pos (.inl h3),if_pos (by omega),i2]
      · rw [if_neg (show ¬ e.2.toNat+2≤n by omega)]
        by_cases h4:left.getD e.1.toNat 0=0
        · rw [if_pos (.inr h4),if_pos (hz.2 h4),i2]
        · rw [if_neg (fun h=>h.elim h3 h4),if_neg fun h=>h4 (hz.1 h)];rfl
def thS (s:List Int):Bool:=decide (s=corrs s)
end Go.Idl
namespace Go.Idl
open Go
def swX (es:List (Int×Int)) (a b c d:Int):List (Int×Int):=es.filter (fun x=>!gone a b c d x)++[(min a c,max a c),(min b d,max b d)]
def sw (es:List (Int×Int)) (a b c d:Int):List (Int×Int):=srtE (swX es a b c d)
def mayI (es:List (Int×Int)) (a b c d:Int):Bool:=apart a b c d && hasM es a b && hasM es c d && !hasM es a c && !hasM es b d
theorem hasM_iff {es:List (Int×Int)} {a b:Int}:hasM es a b=true ↔ (min a b,max a b) ∈ es:=by
  simp [hasM]
theorem hasM_no {es:List (Int×Int)} {a b:Int}:hasM es a b=false ↔ (min a b,max a b) ∉ es:=by
  rw [← hasM_iff];simp
theorem mayI_iff {es:List (Int×Int)} {a b c d:Int}:mayI es a b c d=true ↔ (a ≠ b∧a ≠ c∧a ≠ d∧b ≠ c∧b ≠ d∧c ≠ d)∧(min a b,max a b) ∈ es∧(min c d,max c d) ∈ es∧(min a c,max a c) ∉ es∧(min b d,max b d) ∉ es:=by
  rw [mayI]
  simp only [Bool.and_eq_true,Bool.not_eq_true',apart,decide_eq_true_eq,hasM_iff,hasM_no,and_assoc]
theorem vG21 {n:Nat} (hn:n≤7) {es:List (Int×Int)} (h:vGraph n es=true):es.length≤21:=by
  have h1:=(vG_sub h).length_le
  have h2:∀ n,n≤7→(prs n).length≤21:=by decide +kernel
  have:=h2 _ hn
  omega
theorem swX_ok {n:Nat} {es:List (Int×Int)} {a b c d:Int} (h:vGraph n es=true) (hm:mayI es a b c d=true) :
    (swX es a b c d).Nodup∧(∀ e ∈ swX es a b c d,e ∈ prs n)∧vGraph n (sw es a b c d)=true∧(swX es a b c d).length≤21:=by
  obtain ⟨h1,h2,h3⟩:=vG_iff.1 h
  obtain ⟨⟨k1,k2,k3,k4,k5,k6⟩,m1,m2,m3,m4⟩:=mayI_iff.1 hm
  have p1:=mem_prs.1 (h2 _ m1)
  have p2:=mem_prs.1 (h2 _ m2)
  have hn:(swX es a b c d).Nodup:=by
    refine List.nodup_append.2 ⟨(pw_nodup h1).filter _,?_,?_⟩
    · simp only [List.nodup_cons,List.mem_singleton,List.not_mem_nil,not_false_eq_true,List.nodup_nil,and_true,Prod.mk.injEq]
      omega
    · intro x hx y hy hxy
      subst hxy
      have hx:=(List.mem_filter.1 hx).1
      simp only [List.mem_cons,List.not_mem_nil,or_false] at hy
      rcases hy with rfl | rfl
      · exact m3 hx
      · exact m4 hx
  have hp:∀ e ∈ swX es a b c d,e ∈ prs n:=fun e he=>by
    rcases List.mem_append.1 he with he | he
    · exact h2 _ (List.mem_filter.1 he).1
    · simp only [List.mem_cons,List.not_mem_nil,or_false] at he
      simp only at p1 p2
      rcases he with rfl | rfl
      · exact mem_prs.2 (by simp only;omega)
      · exact mem_prs.2 (by simp only;omega)
  have hv:vGraph n (sw es a b c d)=true:=vG_iff.2 ⟨srtE_pw hn,fun e he=>hp e ((srtE_perm _).mem_iff.1 he),h3⟩
  refine ⟨hn,hp,hv,?_⟩
  have:=vG21 h3 hv
  rw [sw,(srtE_perm _).length_eq] at this
  exact this
end Go.Idl
namespace Go.Idl
open Go
abbrev Q4:=Int×Int×Int×Int
def sws (xs:List Q4):List (List IV):=xs.map fun s=>[I s.1,I s.2.1,I s.2.2.1,I s.2.2.2]
@[simp] theorem sws_len (xs:List Q4):(sws xs).length=xs.length:=by simp [sws]
@[simp] theorem sws_nil:sws []=[]:=rfl
@[simp] theorem sws_take (xs:List Q4) (n:Nat):(sws xs).take n=sws (xs.take n):=by simp [sws,List.map_take]
@[simp] theorem sws_drop (xs:List Q4) (n:Nat):(sws xs).drop n=sws (xs.drop n):=by simp [sws,List.map_drop]
@[simp] theorem sws_one (xs:List Q4) (a b c d:Int):sws xs++[[IV.sc (.int .i64 a),IV.sc (.int .i64 b),IV.sc (.int .i64 c),IV.sc (.int .i64 d)]]=sws (xs++[(a,b,c,d)]):=by simp [sws]
@[simp] theorem sws_get (xs:List Q4) (i:Nat) (h:i < (sws xs).length):(sws xs)[i]=[IV.sc (.int .i64 (xs[i]'(by simpa [sws] using h)).1),IV.sc (.int .i64 (xs[i]'(by simpa [sws] using h)).2.1),IV.sc (.int .i64 (xs[i]'(by simpa [sws] using h)).2.2.1),IV.sc (.int .i64 (xs[i]'(by simpa [sws] using h)).2.2.2)]:=by simp [sws]
@[simp] theorem sws_get? (xs:List Q4) (i:Nat):(sws xs)[i]? = xs[i]?.map fun s=>[IV.sc (.int .i64 s.1),IV.sc (.int .i64 s.2.1),IV.sc (.int .i64 s.2.2.1),IV.sc (.int .i64 s.2.2.2)]:=by simp [sws]
@[simp] theorem sws_all1 (xs:List Q4):((sws xs).all fun x=>x.all IV.plain1)=true:=by
  induction xs with
  | nil=>rfl
  | cons x xs ih=>simp only [sws,List.map_cons,List.all_cons] at *;rw [ih];rfl
@[simp] theorem sws_all2 (xs:List Q4):((sws xs).all fun x=>x.all IV.isData)=true:=by
  induction xs with
  | nil=>rfl
  | cons x xs ih=>simp only [sws,List.map_cons,List.all_cons] at *;rw [ih];rfl
@[simp] theorem sws_noLst (xs:List Q4):noLstLL (sws xs)=true:=by
  induction xs with
  | nil=>rfl
  | cons x xs ih=>simp only [sws,List.map_cons,noLstLL,noLstL,noLstV] at *;rw [ih];rfl
@[simp] theorem frz_sws (xs:List Q4):frzLL (sws xs)=sws xs:=by
  induction xs with
  | nil=>rfl
  | cons x xs ih=>simp only [sws,List.map_cons,frzLL,frzL,frzV] at *;rw [ih]
end Go.Idl
namespace Go.Idl
open Go
def diffP (es fs:List (Int×Int)) (e:Int×Int):Bool:=hasM es e.1 e.2 != hasM fs e.1 e.2
def diffN (es fs P:List (Int×Int)):Nat:=(P.filter (diffP es fs)).length
structure SwLaw (n:Nat) (es:List (Int×Int)) (a b c d:Int):Prop where
  may:mayS es a b c d=mayI es a b c d
  same:mayI es a b c d=true→swS es a b c d=sw es a b c d
  deg:mayI es a b c d=true→degs n (sw es a b c d)=degs n es
  back:mayI es a b c d=true→mayI (sw es a b c d) a c b d=true∧sw (sw es a b c d) a c b d=es
  four:mayI es a b c d=true→diffN es (sw es a b c d) (prs n)=4
end Go.Idl
namespace Go.Idl
theorem mem_sw {es:List (Int×Int)} {a b c d:Int} {e:Int×Int}:e ∈ sw es a b c d ↔ (e ∈ es∧e ≠ (min a b,max a b)∧e ≠ (min c d,max c d)) ∨ e=(min a c,max a c) ∨ e=(min b d,max b d):=by
  rw [sw,(srtE_perm _).mem_iff,swX,List.mem_append,List.mem_filter]
  simp only [gone,Bool.not_eq_true',Bool.or_eq_false_iff,decide_eq_false_iff_not,List.mem_cons,List.not_mem_nil,or_false,ne_eq]
theorem has_hasM {n:Nat} {es:List (Int×Int)} (h:∀ e ∈ es,e ∈ prs n) (a b:Int):has es a b=hasM es a b:=by
  rw [Bool.eq_iff_iff,hasM_iff,has,List.any_eq_true]
  constructor
  · rintro ⟨e,he,hi⟩
    have hp:=mem_prs.1 (h e he)
    simp only [isE,Bool.or_eq_true,Bool.and_eq_true,decide_eq_true_eq] at hi
    have h2:e=(min a b,max a b):=Prod.ext (by simp only;omega) (by simp only;omega)
    rw [← h2];exact he
  · intro hm
    refine ⟨_,hm,?_⟩
    simp only [isE,Bool.or_eq_true,Bool.and_eq_true,decide_eq_true_eq]
    omega
theorem may_eq {n:Nat} {es:List (Int×Int)} (h:vGraph n es=true) (a b c d:Int):mayS es a b c d=mayI es a b c d:=by
  have hin:=(vG_iff.1 h).2.1
  rw [Bool.eq_iff_iff,mayI_iff]
  simp only [mayS,has_hasM hin,Bool.and_eq_true,decide_eq_true_eq,Bool.not_eq_true',hasM_iff,hasM_no,and_assoc]
  constructor
  · rintro ⟨h1,h2,h3,h4,m1,m2,m3,m4⟩
    have p1:=mem_prs.1 (hin _ m1)
    have p2:=mem_prs.1 (hin _ m2)
    simp only at p1 p2
    exact ⟨by omega,h1,h3,fun h=>h4 h,h2,by omega,m1,m2,m3,m4⟩
  · rintro ⟨h1,h2,h3,h4,h5,h6,m1,m2,m3,m4⟩
    exact ⟨h2,h5,h3,h4,m1,m2,m3,m4⟩
theorem four_ne {a b c d:Int} (h:a ≠ b∧a ≠ c∧a ≠ d∧b ≠ c∧b ≠ d∧c ≠ d) :
    ((min a b,max a b):Int×Int) ≠ (min c d,max c d)∧((min a b,max a b):Int×Int) ≠ (min a c,max a c)∧((min a b,max a b):Int×Int) ≠ (min b d,max b d) ∧
    ((min c d,max c d):Int×Int) ≠ (min a c,max a c)∧((min c d,max c d):Int×Int) ≠ (min b d,max b d)∧((min a c,max a c):Int×Int) ≠ (min b d,max b d):=by
  simp only [ne_eq,Prod.mk.injEq]
  omega
theorem sw_eq {n:Nat} {es:List (Int×Int)} {a b c d:Int} (h:vGraph n es=true) (hm:mayI es a b c d=true):swS es a b c d=sw es a b c d:=by
  obtain ⟨h1,h2,h3⟩:=vG_iff.1 h
  obtain ⟨hd,m1,m2,m3,m4⟩:=mayI_iff.1 hm
  have f4:=four_ne hd
  have hs1:PW (dropE c d (dropE a b es)):=(h1.filter _).filter _
  have hs2:∀ e,e ∈ dropE c d (dropE a b es) ↔ e ∈ es∧e ≠ (min a b,max a b)∧e ≠ (min c d,max c d):=fun e=>by
    simp only [dropE,List.mem_filter,dropP,Bool.not_eq_true',Bool.and_eq_false_imp,decide_eq_true_eq,decide_eq_false_iff_not,and_assoc,ne_eq,Prod.ext_iff,not_and]
  have n1:((min a c,max a c):Int×Int) ∉ dropE c d (dropE a b es):=fun hh=>m3 ((hs2 _).1 hh).1
  have n2:((min b d,max b d):Int×Int) ∉ insE (min a c,max a c) (dropE c d (dropE a b es)):=fun hh=>by
    rcases (insE_mem _ _ _).1 hh with hh | hh
    · exact f4.2.2.2.2.2 hh.symm
    · exact m4 ((hs2 _).1 hh).1
  refine pw_ext (insE_pw (insE_pw hs1 n1) n2) (srtE_pw (swX_ok h hm).1) fun e=>?_
  show e ∈ insE _ _ ↔ e ∈ sw es a b c d
  rw [insE_mem,insE_mem,hs2,mem_sw]
  constructor
  · rintro (h | h | h)
    · exact .inr (.inr h)
    · exact .inr (.inl h)
    · exact .inl h
  · rintro (h | h | h)
    · exact .inr (.inr h)
    · exact .inr (.inl h)
    · exact .inl h
theorem inc_mm (v:Nat) (a c:Int):inc v (min a c,max a c)=(if a=v then 1 else 0)+(if c=v then 1 else 0):=by
  rcases Int.le_total a c with h | h
  · rw [inc,Int.min_eq_left h,Int.max_eq_right h]
  · rw [inc,Int.min_eq_right h,Int.max_eq_left h,Int.add_comm]
theorem sw_deg {n:Nat} {es:List (Int×Int)} {a b c d:Int} (h:vGraph n es=true) (hm:mayI es a b c d=true) (v:Nat):deg (sw es a b c d) v=deg es v:=by
  obtain ⟨h1,h2,h3⟩:=vG_iff.1 h
  obtain ⟨hd,m1,m2,m3,m4⟩:=mayI_iff.1 hm
  have f4:=four_ne hd
  have hp:(es.filter (gone a b c d)).Perm [(min a b,max a b),(min c d,max c d)]:=by
    refine (List.perm_ext_iff_of_nodup ((pw_nodup h1).filter _) (by simpa using f4.1)).2 fun e=>?_
    simp only [List.mem_filter,gone,Bool.or_eq_true,decide_eq_true_eq,List.mem_cons,List.not_mem_nil,or_false]
    constructor
    · exact fun h=>h.2
    · rintro (rfl | rfl)
      · exact ⟨m1,.inl rfl⟩
      · exact ⟨m2,.inr rfl⟩
  have e1:=S_filter es (gone a b c d) (inc v)
  have e2:=S_perm hp (inc v)
  have e3:=S_perm (srtE_perm (swX es a b c d)) (inc v)
  rw [deg,deg,sw,e3,swX,S_app,← e1,e2]
  simp only [S,List.map_cons,List.map_nil,List.sum_cons,List.sum_nil,inc_mm]
  omega
theorem sw_degs {n:Nat} {es:List (Int×Int)} {a b c d:Int} (h:vGraph n es=true) (hm:mayI es a b c d=true):degs n (sw es a b c d)=degs n es:=by
  have i1:EdgesIn n es:=fun e he=>by have:=mem_prs.1 ((vG_iff.1 h).2.1 e he);omega
  have i2:EdgesIn n (sw es a b c d):=fun e he=>by have:=mem_prs.1 ((vG_iff.1 (swX_ok h hm).2.2.1).2.1 e he);omega
  rw [degs_eq i1,degs_eq i2]
  exact List.map_congr_left fun v _=>sw_deg h hm v
theorem sw_back {n:Nat} {es:List (Int×Int)} {a b c d:Int} (h:vGraph n es=true) (hm:mayI es a b c d=true) :
    mayI (sw es a b c d) a c b d=true∧sw (sw es a b c d) a c b d=es:=by
  obtain ⟨h1,h2,h3⟩:=vG_iff.1 h
  obtain ⟨hd,m1,m2,m3,m4⟩:=mayI_iff.1 hm
  have f4:=four_ne hd
  have hm':mayI (sw es a b c d) a c b d=true:=by
    refine mayI_iff.2 ⟨by omega,mem_sw.2 (.inr (.inl rfl)),mem_sw.2 (.inr (.inr rfl)),fun hh=>?_,fun hh=>?_⟩
    · rcases mem_sw.1 hh with hh | hh | hh
      · exact hh.2.1 rfl
      · exact f4.2.1 hh
      · exact f4.2.2.1 hh
    · rcases mem_sw.1 hh with hh | hh | hh
      · exact hh.2.2 rfl
      · exact f4.2.2.2.1 hh
      · exact f4.2.2.2.2.1 hh
  refine ⟨hm',pw_ext (srtE_pw (swX_ok (swX_ok h hm).2.2.1 hm').1) h1 fun e=>?_⟩
  show e ∈ sw (sw es a b c d) a c b d ↔ _
  rw [mem_sw,mem_sw]
  constructor
  · rintro (⟨(h | h),k1,k2⟩ | h | h)
    · exact h.1
    · rcases h with h | h
      · exact absurd h k1
      · exact absurd h k2
    · rw [h];exact m1
    · rw [h];exact m2
  · intro he
    by_cases k1:e=(min a b,max a b)
    · exact .inr (.inl k1)
    by_cases k2:e=(min c d,max c d)
    · exact .inr (.inr k2)
    exact .inl ⟨.inl ⟨he,k1,k2⟩,fun h=>m3 (h ▸ he),fun h=>m4 (h ▸ he)⟩
theorem sw_diffs {n:Nat} {es:List (Int×Int)} {a b c d:Int} (h:vGraph n es=true) (hm:mayI es a b c d=true):diffN es (sw es a b c d) (prs n)=4:=by
  obtain ⟨h1,h2,h3⟩:=vG_iff.1 h
  obtain ⟨hd,m1,m2,m3,m4⟩:=mayI_iff.1 hm
  have f4:=four_ne hd
  have h2':=(vG_iff.1 (swX_ok h hm).2.2.1).2.1
  have hp:((prs n).filter (diffP es (sw es a b c d))).Perm [(min a b,max a b),(min c d,max c d),(min a c,max a c),(min b d,max b d)]:=by
    refine (List.perm_ext_iff_of_nodup ((pw_nodup (prs_pw n)).filter _) ?_).2 fun e=>?_
    · simp only [List.nodup_cons,List.mem_cons,List.not_mem_nil,or_false,not_or,not_false_eq_true,List.nodup_nil,and_true]
      exact ⟨⟨f4.1,f4.2.1,f4.2.2.1⟩,⟨f4.2.2.2.1,f4.2.2.2.2.1⟩,f4.2.2.2.2.2⟩
    · rw [List.mem_filter]
      simp only [List.mem_cons,List.not_mem_nil,or_false]
      constructor
      · rintro ⟨he,hx⟩
        rw [diffP,hasM_mem he,hasM_mem he] at hx
        by_cases k1:e ∈ es
        · have k2:e ∉ sw es a b c d:=fun k2=>by simp [k1,k2] at hx
          by_cases q1:e=(min a b,max a b)
          · exact .inl q1
          by_cases q2:e=(min c d,max c d)
          · exact .inr (.inl q2)
          exact absurd (mem_sw.2 (.inl ⟨k1,q1,q2⟩)) k2
        · have k2:e ∈ sw es a b c d:=by
            by_cases k2:e ∈ sw es a b c d
            · exact k2
            · simp [k1,k2] at hx
          rcases mem_sw.1 k2 with h | h | h
          · exact absurd h.1 k1
          · exact .inr (.inr (.inl h))
          · exact .inr (.inr (.inr h))
      · have key:∀ e,e ∈ prs n→(e ∈ es∧e ∉ sw es a b c d) ∨ (e ∉ es∧e ∈ sw es a b c d)→e ∈ prs n∧diffP es (sw es a b c d) e=true:=fun e he hh=>by
          refine ⟨he,?_⟩
          rw [diffP,hasM_mem he,hasM_mem he]
          rcases hh with ⟨h1,h2⟩ | ⟨h1,h2⟩ <;> simp [h1,h2]
        have no1:((min a b,max a b):Int×Int) ∉ sw es a b c d:=fun hh=>by
          rcases mem_sw.1 hh with hh | hh | hh
          · exact hh.2.1 rfl
          · exact f4.2.1 hh
          · exact f4.2.2.1 hh
        have no2:((min c d,max c d):Int×Int) ∉ sw es a b c d:=fun hh=>by
          rcases mem_sw.1 hh with hh | hh | hh
          · exact hh.2.2 rfl
          · exact f4.2.2.2.1 hh
          · exact f4.2.2.2.2.1 hh
        have y3:((min a c,max a c):Int×Int) ∈ sw es a b c d:=mem_sw.2 (.inr (.inl rfl))
        have y4:((min b d,max b d):Int×Int) ∈ sw es a b c d:=mem_sw.2 (.inr (.inr rfl))
        rintro (rfl | rfl | rfl | rfl)
        · exact key _ (h2 _ m1) (.inl ⟨m1,no1⟩)
        · exact key _ (h2 _ m2) (.inl ⟨m2,no2⟩)
        · exact key _ (h2' _ y3) (.inr ⟨m3,y3⟩)
        · exact key _ (h2' _ y4) (.inr ⟨m4,y4⟩)
  rw [diffN,hp.length_eq]
  rfl
theorem swLaw:∀ (n:Nat) es a b c d,vGraph n es=true→SwLaw n es a b c d:=fun _ es a b c d h =>
  ⟨may_eq h a b c d,sw_eq h,sw_degs h,sw_back h,sw_diffs h⟩
end Go.Idl
namespace Go.Idl
theorem S_zero_iff {α:Type}:∀ {l:List α} {f:α→Int},(∀ a ∈ l,0≤f a)→(S l f=0 ↔ ∀ a ∈ l,f a=0)
  | [],f,_=>by simp [S]
  | a::l,f,h=>by
    have h1:=h a (by simp)
    have h2:0≤S l f:=S_nonneg fun b hb=>h b (by simp [hb])
    have h3:=S_zero_iff (l:=l) (f:=f) fun b hb=>h b (by simp [hb])
    rw [S_cons,List.forall_mem_cons,← h3]
    omega
end Go.Idl
namespace Go.Idl
def NA (n:Nat) (es:List (Int×Int)) (u v:Nat):Prop:=∀ x,x < n→x ≠ u→x ≠ v→mk u x ∈ es→mk v x ∈ es
theorem hasM_mk (es:List (Int×Int)) (u v:Nat):hasM es u v=decide (mk u v ∈ es):=by
  rw [Bool.eq_iff_iff,hasM_iff,decide_eq_true_eq];rfl
theorem wi_iff {n:Nat} {es:List (Int×Int)} {u v:Nat}:wi n (hasM es) u v=true ↔ NA n es u v:=by
  rw [wi,Bool.not_eq_true',List.any_eq_false]
  constructor
  · intro h x hx h1 h2 h3
    have hm:((x:Nat):Int) ∈ idxB n (-1):=mem_idxB.2 (by omega)
    have:=h _ hm
    simp only [wiB,hasM_mk,Bool.and_eq_true,decide_eq_true_eq,Bool.not_eq_true',decide_eq_false_iff_not,not_and,Classical.not_not] at this
    exact this ⟨⟨by omega,by omega⟩,h3⟩
  · intro h x hx
    have hb:=mem_idxB.1 hx
    obtain ⟨k,rfl⟩:=Int.eq_ofNat_of_zero_le hb.1
    simp only [wiB,hasM_mk,Bool.and_eq_true,decide_eq_true_eq,Bool.not_eq_true',decide_eq_false_iff_not,not_and,Classical.not_not]
    rintro ⟨⟨h1,h2⟩,h3⟩
    exact h k (by omega) (by omega) (by omega) h3
theorem nest_iff {n:Nat} {es:List (Int×Int)}:nest n (hasM es)=true ↔ ∀ u v,u < v→v < n→NA n es u v ∨ NA n es v u:=by
  rw [nest,Bool.not_eq_true',List.any_eq_false]
  constructor
  · intro h u v h1 h2
    have:=h ((u:Int),(v:Int)) (mem_prs.2 (by simp only;omega))
    simp only [neP,Bool.and_eq_true,Bool.not_eq_true',not_and,Bool.not_eq_false] at this
    by_cases hq:wi n (hasM es) u v=true
    · exact .inl (wi_iff.1 hq)
    · exact .inr (wi_iff.1 (this (by simpa using hq)))
  · intro h e he
    have hb:=mem_prs.1 he
    obtain ⟨a,ha⟩:=Int.eq_ofNat_of_zero_le (show 0≤e.1 by omega)
    obtain ⟨b,hb2⟩:=Int.eq_ofNat_of_zero_le (show 0≤e.2 by omega)
    rw [neP,ha,hb2]
    rcases h a b (by omega) (by omega) with h | h
    · rw [wi_iff.2 h];simp
    · rw [wi_iff.2 h];simp
noncomputable def chkV (s:List Int):Bool:=Bool.rec true (Nat.beq (sNq s.length ((prs s.length).map fun e=>(e.1.toNat,e.2.toNat)) (encI s)) 1) (thS s)
set_option maxRecDepth 100000 in
theorem chkV_all:(List.range 8).all (fun n=>allD chkV n (n - 1) [])=true:=by kernel_rfl
theorem thr_one {d:List Int} (hv:valid d=true) (h:thr d=true):(reals d).length=1:=by
  have h1:=(valid_few hv).1
  have h2:=valid_mem hv
  have hb:∀ x ∈ fall d,0≤x∧x≤((d.length - 1:Nat):Int):=fun x hx=>by
    have:=h2 x (fall_mem.1 hx)
    omega
  have ht:thr d=thS (fall d):=by rw [thr,hv,thS,Bool.true_and]
  have hc:=List.all_eq_true.1 chkV_all d.length (List.mem_range.2 (by omega))
  have h4:=allD_ok chkV d.length (d.length - 1) [] (fall d) hc (fall_len d) (fall_desc d) hb
  have h5:=srS_sN (fall d).length (prs (fall d).length) [] (fall d) (fun e he=>by have:=mem_prs.1 he;omega) (fun x hx=>by have:=hb x hx;omega)
  rw [srS_reals (fall_valid hv),reals_fall h1] at h5
  simp only [List.reverse_nil,List.nil_append,chkV] at h4
  rw [← h5,← ht,h] at h4
  exact Nat.eq_of_beq_eq_true h4
theorem nest_no {n:Nat} {es:List (Int×Int)} (h:vGraph n es=true) (hn:nest n (hasM es)=false):thr (degs n es)=false:=by
  have hin:=(vG_iff.1 h).2.1
  have hn7:=(vG_iff.1 h).2.2
  have hno:¬ ∀ u v,u < v→v < n→NA n es u v ∨ NA n es v u:=fun hh=>by have:=nest_iff.2 hh;rw [hn] at this;cases this
  simp only [Classical.not_forall,not_or,NA] at hno
  obtain ⟨u,v,huv,hvn,⟨x,hx,hxu,hxv,m1,m2⟩,⟨y,hy,hyv,hyu,m3,m4⟩⟩:=hno
  have hxy:x ≠ y:=fun hh=>m4 (hh ▸ m1)
  have hm:mayI es u x y v=true:=mayI_iff.2 ⟨by omega,m1,by
    have:mk y v ∈ es:=by rw [mk_comm];exact m3
    exact this,fun hh=>m4 hh,fun hh=>m2 (by rw [mk_comm];exact hh)⟩
  have hl:=swLaw n es u x y v h
  have q3:=(swX_ok h hm).2.2.1
  have hdl:(degs n es).length=n:=by rw [degs,dfold_len];simp
  have hne:sw es u x y v ≠ es:=fun hh=>by
    have:((min (u:Int) y,max (u:Int) y):Int×Int) ∈ sw es u x y v:=mem_sw.2 (.inr (.inl rfl))
    rw [hh] at this
    exact m4 this
  have r1:es ∈ reals (degs n es):=(mem_reals (by omega) _).2 (by rw [hdl];exact ⟨h,rfl⟩)
  have r2:sw es u x y v ∈ reals (degs n es):=(mem_reals (by omega) _).2 (by rw [hdl];exact ⟨q3,hl.deg hm⟩)
  cases ht:thr (degs n es) with
  | false=>rfl
  | true =>
    have h1:=thr_one (degs_valid h) ht
    have h2:[es,sw es u x y v].length≤(reals (degs n es)).length:=len_sub (by simpa using hne.symm) (fun z hz=>by
      simp only [List.mem_cons,List.not_mem_nil,or_false] at hz
      rcases hz with rfl | rfl
      · exact r1
      · exact r2)
    simp at h2
    omega
theorem S_countP {α:Type} (p:α→Bool):∀ l:List α,S l (fun a=>if p a=true then 1 else 0)=(l.countP p:Int)
  | []=>rfl
  | a::l=>by rw [S_cons,S_countP p l,List.countP_cons];split <;> simp_all <;> omega
theorem deg_nb {n:Nat} {es:List (Int×Int)} (h:vGraph n es=true) {v:Nat} (hv:v < n):deg es v=S (List.range n) (fun u=>if u=v then 0 else if mk u v ∈ es then 1 else 0):=by
  have h1:=deg_filter (vG_iff.1 h).2.2 (fun e=>decide (e ∈ es)) hv
  rw [← vG_filter h] at h1
  rw [h1]
  exact S_congr fun u _=>by simp only [decide_eq_true_eq]
theorem nest_deg {n:Nat} {es:List (Int×Int)} (h:vGraph n es=true) (hn:∀ u v,u < v→v < n→NA n es u v ∨ NA n es v u) {u v:Nat} (hu:u < n) (hv:v < n) (huv:u ≠ v) (hd:deg es v≤deg es u):NA n es v u:=by
  have hor:NA n es u v ∨ NA n es v u:=by
    rcases Nat.lt_or_gt_of_ne huv with h1 | h1
    · exact hn u v h1 hv
    · exact (hn v u h1 hu).symm
  refine hor.elim (fun ha=>?_) id
  have hsp:∀ a b,a < n→b < n→a ≠ b→deg es a=S (List.range n) (fun x=>if x=a ∨ x=b then 0 else if mk x a ∈ es then 1 else 0)+(if mk a b ∈ es then 1 else 0):=fun a b ha hb hab=>by
    have h1:=S_one (List.nodup_range (n:=n)) b
    rw [if_pos (List.mem_range.2 hb)] at h1
    have h2:(if mk a b ∈ es then (1:Int) else 0)=S (List.range n) (fun x=>(if mk a b ∈ es then (1:Int) else 0) * (if b=x then 1 else 0)):=by rw [S_mul,h1];omega
    rw [deg_nb h ha,h2,← S_add]
    refine S_congr fun x _=>?_
    by_cases k1:x=a
    · subst k1
      have:¬ b=x:=fun hh=>hab hh.symm
      simp [this]
    · by_cases k2:x=b
      · subst k2
        rw [mk_comm a x]
        simp [k1]
      · have:¬ b=x:=fun hh=>k2 hh.symm
        simp [k1,k2,this]
  have e1:=hsp u v hu hv huv
  have e2:=hsp v u hv hu (Ne.symm huv)
  rw [mk_comm v u] at e2
  have hnn:∀ x ∈ List.range n,(0:Int)≤(if x=v ∨ x=u then 0 else if mk x v ∈ es then 1 else 0) - (if x=u ∨ x=v then 0 else if mk x u ∈ es then 1 else 0):=fun x hx=>by
    have hx:=List.mem_range.1 hx
    by_cases k:x=u ∨ x=v
    · rw [if_pos k,if_pos k.symm];decide
    · rw [if_neg k,if_neg fun hh=>k hh.symm]
      by_cases m:mk x u ∈ es
      · rw [if_pos m,if_pos (by rw [mk_comm];exact ha x hx (fun hh=>k (.inl hh)) (fun hh=>k (.inr hh)) (by rw [mk_comm];exact m))];decide
      · rw [if_neg m];split <;> decide
  have hz:S (List.range n) (fun x=>(if x=v ∨ x=u then 0 else if mk x v ∈ es then 1 else 0) - (if x=u ∨ x=v then 0 else if mk x u ∈ es then 1 else 0))=0:=by
    have h0:=S_nonneg hnn
    rw [S_sub] at h0 ⊢
    omega
  intro x hx h1 h2 h3
  have:=(S_zero_iff hnn).1 hz x (List.mem_range.2 hx)
  simp only [if_neg (show ¬ (x=v ∨ x=u) from fun hh=>hh.elim h1 h2),if_neg (show ¬ (x=u ∨ x=v) from fun hh=>hh.elim h2 h1),if_pos (show mk x v ∈ es by rw [mk_comm];exact h3)] at this
  by_cases m:mk x u ∈ es
  · rw [mk_comm];exact m
  · rw [if_neg m] at this;omega
theorem init_count (g:Nat→Bool):∀ m,(∀ i j,i < j→j < m→g j=true→g i=true)→∀ i,i < m→(g i=true ↔ i < (List.range m).countP g)
  | 0,_,i,hi=>absurd hi (by omega)
  | m+1,h,i,hi=>by
    have ih:=init_count g m (fun i j h1 h2=>h i j h1 (by omega))
    rw [List.range_succ,List.countP_append,List.countP_singleton]
    have hle:(List.range m).countP g≤m:=by have:=List.countP_le_length (p:=g) (l:=List.range m);simpa using this
    by_cases hm:g m=true
    · have hall:(List.range m).countP g=m:=by
        have h1:(List.range m).countP g=(List.range m).length:=List.countP_eq_length.2 fun a ha=>h a m (List.mem_range.1 ha) (by omega) hm
        simpa using h1
      rw [if_pos hm,hall]
      refine ⟨fun _=>by omega,fun _=>?_⟩
      by_cases hq:i=m
      · rw [hq];exact hm
      · exact h i m (by omega) (by omega) hm
    · rw [if_neg hm,Nat.add_zero]
      by_cases hq:i=m
      · subst hq
        refine ⟨fun h=>absurd h hm,fun h=>by omega⟩
      · exact ih i (by omega)
theorem skip_all:∀ n,n≤7→∀ k,k < n→(List.range n).filter (fun i=>decide (i ≠ k))=(List.range (n - 1)).map (fun r=>if r < k then r else r+1):=by decide +kernel
theorem skip_count {n k:Nat} (hn:n≤7) (hk:k < n) (F:Nat→Bool) (hF:∀ i j,i < j→j < n→i ≠ k→j ≠ k→F j=true→F i=true) :
    (∀ i,i < k→(F i=true ↔ i < (List.range n).countP fun i=>decide (i ≠ k) && F i))∧(∀ i,k < i→i < n→(F i=true ↔ i≤(List.range n).countP fun i=>decide (i ≠ k) && F i)):=by
  have h1:((List.range n).countP fun i=>decide (i ≠ k) && F i)=(List.range (n - 1)).countP fun r=>F (if r < k then r else r+1):=by
    have:=List.countP_filter (p:=F) (q:=fun i=>decide (i ≠ k)) (l:=List.range n)
    rw [skip_all n hn k hk,List.countP_map] at this
    rw [show ((List.range n).countP fun i=>decide (i ≠ k) && F i)=(List.range n).countP fun a=>F a && decide (a ≠ k) from List.countP_congr fun i _=>by simp [and_comm]]
    exact this.symm
  rw [h1]
  have ic:=init_count (fun r=>F (if r < k then r else r+1)) (n - 1) (fun i j hij hj h=>by
    refine hF _ (if j < k then j else j+1) ?_ ?_ ?_ ?_ h <;> split <;> (try split) <;> omega)
  refine ⟨fun i hi=>?_,fun i hi hin=>?_⟩
  · have:=ic i (by omega)
    simp only [if_pos hi] at this
    exact this
  · have:=ic (i - 1) (by omega)
    simp only [if_neg (show ¬ i - 1 < k by omega),show i - 1+1=i by omega] at this
    rw [this];omega
theorem nest_yes {n:Nat} {es:List (Int×Int)} (h:vGraph n es=true) (hn:nest n (hasM es)=true):thr (degs n es)=true:=by
  have hn7:=(vG_iff.1 h).2.2
  have hN:=nest_iff.1 hn
  have hin:EdgesIn n es:=fun e he=>by have:=mem_prs.1 ((vG_iff.1 h).2.1 e he);omega
  have hdl:(degs n es).length=n:=by rw [degs,dfold_len];simp
  rw [thr,degs_valid h,Bool.true_and,decide_eq_true_eq]
  have hd:=degs_eq hin
  obtain ⟨π,hπ,hfp⟩:=perm_map_inv (fall_perm (degs n es)) hd
  have hπn:π.Nodup:=hπ.nodup_iff.2 List.nodup_range
  have hπl:π.length=n:=by rw [hπ.length_eq,List.length_range]
  have hlt:∀ i,(hi:i < π.length)→π[i] < n:=fun i hi=>List.mem_range.1 (hπ.mem_iff.1 (List.getElem_mem hi))
  have hdesc:=fall_desc (degs n es)
  have hsl:(fall (degs n es)).length=n:=by rw [fall_len,hdl]
  have hs:∀ i,(hi:i < n)→(fall (degs n es))[i]'(by omega)=deg es (π[i]'(by omega)):=fun i hi=>by
    simp only [hfp,List.getElem_map]
  obtain ⟨F,hF⟩:∃ F:Nat→Nat→Bool,F=fun i j=>decide (mk (π.getD i 0) (π.getD j 0) ∈ es):=⟨_,rfl⟩
  have hFg:∀ i j,(hi:i < n)→(hj:j < n)→F i j=decide (mk (π[i]'(by omega)) (π[j]'(by omega)) ∈ es):=fun i j hi hj=>by
    rw [hF]
    simp only [List.getD_eq_getElem?_getD,List.getElem?_eq_getElem (show i < π.length by omega),List.getElem?_eq_getElem (show j < π.length by omega),Option.getD_some]
  have hFs:∀ i j,F i j=F j i:=fun i j=>by rw [hF];simp only [mk_comm]
  have hinj:∀ i j,(hi:i < n)→(hj:j < n)→i ≠ j→π[i]'(by omega) ≠ π[j]'(by omega):=fun i j hi hj hij hh=>by
    have a1:=hπn.idxOf_getElem i (by omega)
    have a2:=hπn.idxOf_getElem j (by omega)
    rw [hh] at a1
    omega
  have hcnt:∀ k,(hk:k < n)→(fall (degs n es))[k]'(by omega)=(((List.range n).countP fun i=>decide (i ≠ k) && F k i:Nat):Int):=fun k hk=>by
    rw [hs k hk,deg_nb h (hlt k (by omega)),← S_perm hπ,← S_countP]
    have hπm:π=(List.range n).map fun i=>π.getD i 0:=by
      refine List.ext_getElem (by simp [hπl]) fun i k1 k2=>?_
      simp [List.getD_eq_getElem?_getD,List.getElem?_eq_getElem k1]
    obtain ⟨w,hw⟩:∃ w,w=π[k]'(by omega):=⟨_,rfl⟩
    simp only [← hw]
    conv=>lhs;rw [hπm]
    rw [S_map]
    refine S_congr fun i hi=>?_
    have hi:=List.mem_range.1 hi
    have hg:π.getD i 0=π[i]'(by omega):=by rw [List.getD_eq_getElem?_getD,List.getElem?_eq_getElem (show i < π.length by omega)];rfl
    rw [hg]
    by_cases hik:i=k
    · subst hik;simp [hw]
    · rw [if_neg (by rw [hw];exact hinj i k hi hk hik)]
      refine ite_iff ?_ _ _
      rw [hFg k i hk hi,mk_comm,← hw]
      simp [hik]
  have hini:∀ k,k < n→∀ i j,i < j→j < n→i ≠ k→j ≠ k→F k j=true→F k i=true:=fun k hk i j hij hj hik hjk hh=>by
    have hi:i < n:=by omega
    rw [hFg k j hk hj,decide_eq_true_eq] at hh
    rw [hFg k i hk hi,decide_eq_true_eq]
    have hge:deg es (π[j]'(by omega))≤deg es (π[i]'(by omega)):=by
      rw [← hs i hi,← hs j hj]
      exact desc_get hdesc (Nat.le_of_lt hij) (by omega)
    have hna:=nest_deg h hN (hlt i (by omega)) (hlt j (by omega)) (hinj i j hi hj (by omega)) hge
    have:=hna _ (hlt k (by omega)) (hinj k j hk hj (Ne.symm hjk)) (hinj k i hk hi (Ne.symm hik)) (by rw [mk_comm];exact hh)
    rw [mk_comm];exact this
  refine List.ext_getElem (by simp [corrs]) fun k k1 k2=>?_
  have hk:k < n:=by omega
  rw [hcnt k hk]
  simp only [corrs,List.getElem_map,List.getElem_range,corr]
  have hsm:fall (degs n es)=(List.range n).map fun i=>(fall (degs n es)).getD i 0:=by
    refine List.ext_getElem (by simp [hsl]) fun i k1 k2=>?_
    simp [List.getD_eq_getElem?_getD,List.getElem?_eq_getElem k1]
  have hgd:∀ i,(hi:i < n)→(fall (degs n es)).getD i 0=(((List.range n).countP fun j=>decide (j ≠ i) && F i j:Nat):Int):=fun i hi=>by
    rw [← hcnt i hi,List.getD_eq_getElem?_getD,List.getElem?_eq_getElem (by omega)];rfl
  have c1:((fall (degs n es)).take k).countP (fun x=>decide ((k:Int)≤x))=((List.range n).take k).countP fun i=>decide (i ≠ k) && F k i:=by
    conv=>lhs;rw [hsm,← List.map_take,List.countP_map]
    refine List.countP_congr fun i hi=>?_
    have hik:i < k:=by
      rw [List.take_range] at hi
      have:=List.mem_range.1 hi;omega
    have:=(skip_count hn7 (show i < n by omega) (F i) (hini i (by omega))).2 k hik hk
    simp only [Function.comp_apply,hgd i (by omega),decide_eq_true_eq,Bool.and_eq_true]
    rw [hFs k i,this];omega
  have c2:((fall (degs n es)).drop (k+1)).countP (fun x=>decide ((k:Int) < x))=((List.range n).drop (k+1)).countP fun i=>decide (i ≠ k) && F k i:=by
    conv=>lhs;rw [hsm,← List.map_drop,List.countP_map]
    refine List.countP_congr fun i hi=>?_
    obtain ⟨j,hj,rfl⟩:=List.mem_iff_getElem.1 hi
    simp only [List.length_drop,List.length_range] at hj
    simp only [List.getElem_drop,List.getElem_range]
    have hi2:k+1+j < n:=by omega
    have:=(skip_count hn7 hi2 (F (k+1+j)) (hini _ hi2)).1 k (by omega)
    simp only [Function.comp_apply,hgd _ hi2,decide_eq_true_eq,Bool.and_eq_true]
    rw [hFs k,this];omega
  rw [c1,c2]
  have c3:(List.range n).countP (fun i=>decide (i ≠ k) && F k i)=((List.range n).take k).countP (fun i=>decide (i ≠ k) && F k i)+((List.range n).drop (k+1)).countP (fun i=>decide (i ≠ k) && F k i):=by
    conv=>lhs;rw [← List.take_append_drop k (List.range n),List.countP_append,List.drop_eq_getElem_cons (show k < (List.range n).length by simpa using hk),List.countP_cons]
    simp
  rw [c3];omega
end Go.Idl
