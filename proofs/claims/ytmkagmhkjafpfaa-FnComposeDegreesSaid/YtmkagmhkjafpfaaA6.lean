/- Part 6 of a proof by an ideal interpreter of the code: its definitions and lemmas. Conditions: none. -/
import Derived.KernelRfl
import Derived.Test.YtmkagmhkjafpfaaA5
set_option linter.all false
set_option linter.unusedVariables false
set_option linter.unusedSimpArgs false
namespace Go.Idl
open Go
def cmpD (k s d:List Int):List Int:=(k.map fun x=>x+(d.length:Int))++((d.map fun x=>x+(k.length:Int))++s)
theorem ev_composed (k s d:List Int) (c1 c2 c3:Bool) (hk:k.length≤100) (hs:s.length≤100) (hd:d.length≤100) (bk:∀ x ∈ k,-1000≤x∧x≤1000) (bd:∀ x ∈ d,-1000≤x∧x≤1000) :
    Ev tb zl582 [] [L k c1,L s c2,L d c3] [] ⟨O (cmpD k s d),[],[],[]⟩:=by
  have l1:∀ (m i:Nat),i+m=k.length→wp tb (.loop z582l6) { T:=[(0,L k c1),(1,L s c2),(2,L d c3),(7,O ((k.take i).map fun x=>x+(d.length:Int))),(8,I i)],loc:=[],M:=[] }
      (fun ex st=>ex=.exit 0∧st={ T:=[(0,L k c1),(1,L s c2),(2,L d c3),(7,O (k.map fun x=>x+(d.length:Int))),(8,I k.length),(14,Bo false)],loc:=[],M:=[] }):=by
    intro m
    induction m with
    | zero =>
      intro i hi
      have h3:i=k.length:=hi
      subst h3
      rw [List.take_length]
      refine wp_loop ?_
      repeat (first|apply wp_as|apply wp_ss|refine wr (by simp;with_reducible rfl) ?_|refine wq (by simp;with_reducible rfl) ?_|refine wt (by simpa) ?_|refine wf (by simpa) ?_|refine xt (by simpa) ?_|refine xf (by simpa) ?_|apply wp_bs|apply wp_b|refine wp_sr ?_|refine wp_sx ?_|refine wp_ret' ?_|refine wp_skip' ?_|refine wp_exit' ?_)
      exact ⟨rfl,rfl⟩
    | succ m ih =>
      intro i hi
      have hi2:i < k.length:=by omega
      have w1:IntKind.i64.wrap ((i:Int)+1)=((i+1:Nat):Int):=wrapS (by omega)
      have b:=bk _ (List.getElem_mem hi2)
      have w2:IntKind.i64.wrap (k[i]+(d.length:Int))=k[i]+d.length:=wrap64 (by omega) (by omega)
      have hn:=ih (i+1) (by omega)
      rw [List.take_succ_eq_append_getElem hi2,List.map_append] at hn
      have hA:((k.take i).map fun x=>x+(d.length:Int)).length=i:=by simp;omega
      generalize (k.take i).map (fun x=>x+(d.length:Int))=A at *
      have htA:A.take i=A:=List.take_of_length_le (by omega)
      have hlm:i+1≤274877906944:=by omega
      refine wp_loop ?_
      repeat (first|apply wp_as|apply wp_ss|refine wr (by simp [hi2,w1,w2,hA,htA,hlm];with_reducible rfl) ?_|refine wq (by simp [hi2,w1,w2,hA,htA,hlm];with_reducible rfl) ?_|refine wt (by simpa [hi2,w1,w2,hA,htA,hlm]) ?_|refine wf (by simpa [hi2,w1,w2,hA,htA,hlm]) ?_|refine xt (by simpa [hi2,w1,w2,hA,htA,hlm]) ?_|refine xf (by simpa [hi2,w1,w2,hA,htA,hlm]) ?_|apply wp_bs|apply wp_b|refine wp_sr ?_|refine wp_sx ?_|refine wp_ret' ?_|refine wp_skip' ?_|refine wp_exit' ?_)
      simpa using hn
  have l2:∀ (m i:Nat),i+m=d.length→wp tb (.loop z582l11) { T:=[(0,L k c1),(1,L s c2),(2,L d c3),(7,O ((k.map fun x=>x+(d.length:Int))++(d.take i).map fun x=>x+(k.length:Int))),(9,I i)],loc:=[],M:=[] }
      (fun ex st=>ex=.exit 2∧st={ T:=[(0,L k c1),(1,L s c2),(2,L d c3),(7,O ((k.map fun x=>x+(d.length:Int))++d.map fun x=>x+(k.length:Int))),(9,I d.length),(30,Bo false)],loc:=[],M:=[] }):=by
    intro m
    induction m with
    | zero =>
      intro i hi
      have h3:i=d.length:=hi
      subst h3
      rw [List.take_length]
      refine wp_loop ?_
      repeat (first|apply wp_as|apply wp_ss|refine wr (by simp;with_reducible rfl) ?_|refine wq (by simp;with_reducible rfl) ?_|refine wt (by simpa) ?_|refine wf (by simpa) ?_|refine xt (by simpa) ?_|refine xf (by simpa) ?_|apply wp_bs|apply wp_b|refine wp_sr ?_|refine wp_sx ?_|refine wp_ret' ?_|refine wp_skip' ?_|refine wp_exit' ?_)
      exact ⟨rfl,rfl⟩
    | succ m ih =>
      intro i hi
      have hi2:i < d.length:=by omega
      have w1:IntKind.i64.wrap ((i:Int)+1)=((i+1:Nat):Int):=wrapS (by omega)
      have b:=bd _ (List.getElem_mem hi2)
      have w2:IntKind.i64.wrap (d[i]+(k.length:Int))=d[i]+k.length:=wrap64 (by omega) (by omega)
      have hn:=ih (i+1) (by omega)
      rw [List.take_succ_eq_append_getElem hi2,List.map_append,← List.append_assoc] at hn
      have hA:((k.map fun x=>x+(d.length:Int))++(d.take i).map fun x=>x+(k.length:Int)).length=k.length+i:=by simp;omega
      generalize (k.map fun x=>x+(d.length:Int))++(d.take i).map (fun x=>x+(k.length:Int))=A at *
      have htA:A.take (k.length+i)=A:=List.take_of_length_le (by omega)
      have hlm:k.length+i+1≤274877906944:=by omega
      refine wp_loop ?_
      repeat (first|apply wp_as|apply wp_ss|refine wr (by simp [hi2,w1,w2,hA,htA,hlm];with_reducible rfl) ?_|refine wq (by simp [hi2,w1,w2,hA,htA,hlm];with_reducible rfl) ?_|refine wt (by simpa [hi2,w1,w2,hA,htA,hlm]) ?_|refine wf (by simpa [hi2,w1,w2,hA,htA,hlm]) ?_|refine xt (by simpa [hi2,w1,w2,hA,htA,hlm]) ?_|refine xf (by simpa [hi2,w1,w2,hA,htA,hlm]) ?_|apply wp_bs|apply wp_b|refine wp_sr ?_|refine wp_sx ?_|refine wp_ret' ?_|refine wp_skip' ?_|refine wp_exit' ?_)
      simpa using hn
  have q1:=l1 k.length 0 (by omega)
  have q2:=l2 d.length 0 (by omega)
  rw [List.take_zero,show ((0:Nat):Int)=0 from rfl] at q1 q2
  rw [List.map_nil] at q1
  rw [List.map_nil,List.append_nil] at q2
  have hA:((k.map fun x=>x+(d.length:Int))++d.map fun x=>x+(k.length:Int)).length=k.length+d.length:=by simp
  have hc:cmpD k s d=((k.map fun x=>x+(d.length:Int))++d.map fun x=>x+(k.length:Int))++s:=by rw [cmpD,List.append_assoc]
  rw [hc]
  generalize (k.map fun x=>x+(d.length:Int))++d.map (fun x=>x+(k.length:Int))=A at *
  generalize k.map (fun x=>x+(d.length:Int))=B at *
  have htA:A.take (k.length+d.length)=A:=List.take_of_length_le (by omega)
  have hlm:k.length+d.length+s.length≤274877906944:=by omega
  refine call_of_wp zt582 rfl ?_
  repeat (first|apply wp_as|apply wp_ss|refine wr (by simp;with_reducible rfl) ?_|refine wq (by simp;with_reducible rfl) ?_|refine wt (by simpa) ?_|refine wf (by simpa) ?_|refine xt (by simpa) ?_|refine xf (by simpa) ?_|apply wp_bs|apply wp_b|refine wp_sr ?_|refine wp_sx ?_|refine wp_ret' ?_|refine wp_skip' ?_|refine wp_exit' ?_)
  refine wp_imp q1 ?_
  rintro ex st ⟨rfl,rfl⟩
  simp only [if_true]
  repeat (first|apply wp_as|apply wp_ss|refine wr (by simp;with_reducible rfl) ?_|refine wq (by simp;with_reducible rfl) ?_|refine wt (by simpa) ?_|refine wf (by simpa) ?_|refine xt (by simpa) ?_|refine xf (by simpa) ?_|apply wp_bs|apply wp_b|refine wp_sr ?_|refine wp_sx ?_|refine wp_ret' ?_|refine wp_skip' ?_|refine wp_exit' ?_)
  refine wp_imp q2 ?_
  rintro ex st ⟨rfl,rfl⟩
  simp only [if_true]
  repeat (first|apply wp_as|apply wp_ss|refine wr (by simp [hA,htA,hlm];with_reducible rfl) ?_|refine wq (by simp [hA,htA,hlm];with_reducible rfl) ?_|refine wt (by simpa [hA,htA,hlm]) ?_|refine wf (by simpa [hA,htA,hlm]) ?_|refine xt (by simpa [hA,htA,hlm]) ?_|refine xf (by simpa [hA,htA,hlm]) ?_|apply wp_bs|apply wp_b|refine wp_sr ?_|refine wp_sx ?_|refine wp_ret' ?_|refine wp_skip' ?_|refine wp_exit' ?_)
  simp [zi582]
end Go.Idl
namespace Go.Idl
open Go
def pF1 (k:List Int):Bool:=match k with
  | []=>true
  | x::r=>decide ((k.length:Int) - 1≤least1 x r)
def pF2 (m:Int) (s:List Int):Bool:=match fall s with
  | []=>true
  | y::_=>decide (y≤m)
def pFit (k s:List Int):Bool:=decide (k.sum - k.length * ((k.length:Int) - 1)=s.sum) && (pF1 k && pF2 k.length s)
set_option maxHeartbeats 4000000 in
theorem ev_partsFit (k s:List Int) (c1 c2:Bool) (hk:k.length≤100) (hs:s.length≤100) (hsk:SmallSum k) (hss:SmallSum s) (b:-1000000≤k.sum∧k.sum≤1000000) :
    Ev tb zl593 [] [L k c1,L s c2] [] ⟨Bo (pFit k s),[],[],[]⟩:=by
  have e1:=fun c=>ev_lim (ev_spec_sum k c hsk)
  have e2:=fun c=>ev_lim (ev_spec_sum s c hss)
  have w1:IntKind.i64.wrap ((k.length:Int) - 1)=(k.length:Int) - 1:=wrap64 (by omega) (by omega)
  obtain ⟨N,hN⟩:∃ N:Int,N=k.length * ((k.length:Int) - 1):=⟨_,rfl⟩
  have hNb:-1000000≤N∧N≤1000000:=by
    rw [hN]
    have h1:(k.length:Int)≤100:=by omega
    have h0:(0:Int)≤k.length:=by omega
    constructor
    · have:(k.length:Int) * ((k.length:Int) - 1) ≥ (k.length:Int) * (-1):=Int.mul_le_mul_of_nonneg_left (by omega) h0
      omega
    · have:(k.length:Int) * ((k.length:Int) - 1)≤100 * 99:=by
        by_cases hz:k.length=0
        · rw [hz];decide
        · exact Int.mul_le_mul (by omega) (by omega) (by omega) (by omega)
      omega
  have w2:IntKind.i64.wrap (k.length * ((k.length:Int) - 1))=N:=by rw [← hN];exact wrap64 (by omega) (by omega)
  have w3:IntKind.i64.wrap (k.sum - N)=k.sum - N:=wrap64 (by omega) (by omega)
  have f1:=fun c=>ev_lim (ev_spec_falling s c (by omega))
  have htf:(fall s).take (fall s).length=fall s:=List.take_of_length_le (Nat.le_refl _)
  rw [pFit,← hN]
  by_cases h0:k.sum - N=s.sum
  rotate_left
  · rw [decide_eq_false h0]
    refine call_of_wp zt593 rfl ?_
    repeat (first|apply wp_as|apply wp_ss|refine wr (by simp [e1,e2,w1,w2,w3,h0];with_reducible rfl) ?_|refine wq (by simp [e1,e2,w1,w2,w3,h0];with_reducible rfl) ?_|refine wt (by simpa [e1,e2,w1,w2,w3,h0]) ?_|refine wf (by simpa [e1,e2,w1,w2,w3,h0]) ?_|refine xt (by simpa [e1,e2,w1,w2,w3,h0]) ?_|refine xf (by simpa [e1,e2,w1,w2,w3,h0]) ?_|apply wp_bs|apply wp_b|refine wp_sr ?_|refine wp_sx ?_|refine wp_ret' ?_|refine wp_skip' ?_|refine wp_exit' ?_)
    simp [zi593]
  rw [decide_eq_true h0,Bool.true_and]
  cases k with
  | nil =>
    have hN0:N=0:=by rw [hN];rfl
    subst hN0
    have hs0:s.sum=0:=by rw [← h0];rfl
    have wz:IntKind.i64.wrap 0=0:=by decide
    have wm:IntKind.i64.wrap (-1)=-1:=by decide
    rw [hs0] at e2
    simp only [pF1,Bool.true_and]
    cases s with
    | nil =>
      have hp:pF2 ((([]:List Int).length:Nat):Int) []=true:=rfl
      rw [hp]
      refine call_of_wp zt593 rfl ?_
      repeat (first|apply wp_as|apply wp_ss|refine wr (by simp [e1,e2,wz,wm];with_reducible rfl) ?_|refine wq (by simp [e1,e2,wz,wm];with_reducible rfl) ?_|refine wt (by simpa [e1,e2,wz,wm]) ?_|refine wf (by simpa [e1,e2,wz,wm]) ?_|refine xt (by simpa [e1,e2,wz,wm]) ?_|refine xf (by simpa [e1,e2,wz,wm]) ?_|apply wp_bs|apply wp_b|refine wp_sr ?_|refine wp_sx ?_|refine wp_ret' ?_|refine wp_skip' ?_|refine wp_exit' ?_)
      simp [zi593]
    | cons y r =>
      have hfl:(fall (y::r)).length=r.length+1:=by rw [fall_len];simp
      rw [pF2]
      cases hf:fall (y::r) with
      | nil=>rw [hf] at hfl;cases hfl
      | cons z q =>
        rw [hf] at f1 htf
        have hS:¬ (y::r).length=0:=by simp
        generalize y::r=S at *
        refine call_of_wp zt593 rfl ?_
        repeat (first|apply wp_as|apply wp_ss|refine wr (by simp [e1,e2,wz,wm,f1,htf,hS];with_reducible rfl) ?_|refine wq (by simp [e1,e2,wz,wm,f1,htf,hS];with_reducible rfl) ?_|refine wt (by simpa [e1,e2,wz,wm,f1,htf,hS]) ?_|refine wf (by simpa [e1,e2,wz,wm,f1,htf,hS]) ?_|refine xt (by simpa [e1,e2,wz,wm,f1,htf,hS]) ?_|refine xf (by simpa [e1,e2,wz,wm,f1,htf,hS]) ?_|apply wp_bs|apply wp_b|refine wp_sr ?_|refine wp_sx ?_|refine wp_ret' ?_|refine wp_skip' ?_|refine wp_exit' ?_)
        simp [zi593]
  | cons x r =>
    have e3:=fun c=>ev_lim (ev_smallest x r c (by simp at hk;omega))
    have hK:¬ (x::r).length=0:=by simp
    simp only [pF1]
    generalize least1 x r=m at *
    generalize x::r=K at *
    have hK2:¬ (K.length:Int)=0:=by omega
    have w4:IntKind.i64.wrap s.sum=s.sum:=by rw [← h0];exact w3
    by_cases hm:(K.length:Int) - 1≤m
    rotate_left
    · rw [decide_eq_false hm]
      refine call_of_wp zt593 rfl ?_
      repeat (first|apply wp_as|apply wp_ss|refine wr (by simp [e1,e2,e3,w1,w2,w3,w4,h0,hK,hK2,hm];with_reducible rfl) ?_|refine wq (by simp [e1,e2,e3,w1,w2,w3,w4,h0,hK,hK2,hm];with_reducible rfl) ?_|refine wt (by simpa [e1,e2,e3,w1,w2,w3,w4,h0,hK,hK2,hm]) ?_|refine wf (by simpa [e1,e2,e3,w1,w2,w3,w4,h0,hK,hK2,hm]) ?_|refine xt (by simpa [e1,e2,e3,w1,w2,w3,w4,h0,hK,hK2,hm]) ?_|refine xf (by simpa [e1,e2,e3,w1,w2,w3,w4,h0,hK,hK2,hm]) ?_|apply wp_bs|apply wp_b|refine wp_sr ?_|refine wp_sx ?_|refine wp_ret' ?_|refine wp_skip' ?_|refine wp_exit' ?_)
      simp [zi593]
    rw [decide_eq_true hm,Bool.true_and]
    cases s with
    | nil =>
      have hp:pF2 (K.length:Int) []=true:=rfl
      rw [hp]
      simp only [List.sum_nil] at e2 h0
      have wz:IntKind.i64.wrap 0=0:=by decide
      refine call_of_wp zt593 rfl ?_
      repeat (first|apply wp_as|apply wp_ss|refine wr (by simp [e1,e2,e3,w1,w2,w3,wz,h0,hK,hK2,hm];with_reducible rfl) ?_|refine wq (by simp [e1,e2,e3,w1,w2,w3,wz,h0,hK,hK2,hm];with_reducible rfl) ?_|refine wt (by simpa [e1,e2,e3,w1,w2,w3,wz,h0,hK,hK2,hm]) ?_|refine wf (by simpa [e1,e2,e3,w1,w2,w3,wz,h0,hK,hK2,hm]) ?_|refine xt (by simpa [e1,e2,e3,w1,w2,w3,wz,h0,hK,hK2,hm]) ?_|refine xf (by simpa [e1,e2,e3,w1,w2,w3,wz,h0,hK,hK2,hm]) ?_|apply wp_bs|apply wp_b|refine wp_sr ?_|refine wp_sx ?_|refine wp_ret' ?_|refine wp_skip' ?_|refine wp_exit' ?_)
      simp [zi593]
    | cons y r =>
      have hfl:(fall (y::r)).length=r.length+1:=by rw [fall_len];simp
      rw [pF2]
      cases hf:fall (y::r) with
      | nil=>rw [hf] at hfl;cases hfl
      | cons z q =>
        rw [hf] at f1 htf
        have hS:¬ (y::r).length=0:=by simp
        generalize y::r=S at *
        refine call_of_wp zt593 rfl ?_
        repeat (first|apply wp_as|apply wp_ss|refine wr (by simp [e1,e2,e3,w1,w2,w3,w4,h0,hK,hK2,hm,f1,htf,hS];with_reducible rfl) ?_|refine wq (by simp [e1,e2,e3,w1,w2,w3,w4,h0,hK,hK2,hm,f1,htf,hS];with_reducible rfl) ?_|refine wt (by simpa [e1,e2,e3,w1,w2,w3,w4,h0,hK,hK2,hm,f1,htf,hS]) ?_|refine wf (by simpa [e1,e2,e3,w1,w2,w3,w4,h0,hK,hK2,hm,f1,htf,hS]) ?_|refine xt (by simpa [e1,e2,e3,w1,w2,w3,w4,h0,hK,hK2,hm,f1,htf,hS]) ?_|refine xf (by simpa [e1,e2,e3,w1,w2,w3,w4,h0,hK,hK2,hm,f1,htf,hS]) ?_|apply wp_bs|apply wp_b|refine wp_sr ?_|refine wp_sx ?_|refine wp_ret' ?_|refine wp_skip' ?_|refine wp_exit' ?_)
        simp [zi593]
end Go.Idl
namespace Go.Idl
open Go
theorem ev_Grow0:Ev tb zl553 [] [Z,I 0] [] ⟨Z,[],[],[]⟩:=by
  have w1:IntKind.i64.wrap 0=0:=by decide
  refine call_of_wp zt553 rfl ?_
  repeat (first|apply wp_as|apply wp_ss|refine wr (by simp [w1];with_reducible rfl) ?_|refine wq (by simp [w1];with_reducible rfl) ?_|refine wt (by simpa [w1]) ?_|refine wf (by simpa [w1]) ?_|refine xt (by simpa [w1]) ?_|refine xf (by simpa [w1]) ?_|apply wp_bs|apply wp_b|refine wp_sr ?_|refine wp_sx ?_|refine wp_ret' ?_|refine wp_skip' ?_|refine wp_exit' ?_)
  simp [zi553]
theorem ev_Grow (n:Nat) (h:n≤1000000) (h0:0 < n):Ev tb zl553 [] [Z,I n] [] ⟨O [],[],[],[]⟩:=by
  have w1:IntKind.i64.wrap 0=0:=by decide
  have w2:IntKind.i64.wrap (n:Int)=n:=wrap64 (by omega) (by omega)
  have w3:¬ (n:Int) < 0:=by omega
  have w4:(0:Int) < n:=by omega
  have hlm:n≤274877906944:=by omega
  have hlm2:(n:Int)≤274877906944:=by omega
  refine call_of_wp zt553 rfl ?_
  repeat (first|apply wp_as|apply wp_ss|refine wr (by simp [w1,w2,w3,h0,hlm,hlm2];with_reducible rfl) ?_|refine wq (by simp [w1,w2,w3,h0,hlm,hlm2];with_reducible rfl) ?_|refine wt (by simpa [w1,w2,w3,h0,hlm,hlm2]) ?_|refine wf (by simpa [w1,w2,w3,h0,hlm,hlm2]) ?_|refine xt (by simpa [w1,w2,w3,h0,hlm,hlm2]) ?_|refine xf (by simpa [w1,w2,w3,h0,hlm,hlm2]) ?_|apply wp_bs|apply wp_b|refine wp_sr ?_|refine wp_sx ?_|refine wp_ret' ?_|refine wp_skip' ?_|refine wp_exit' ?_)
  simp [zi553]
theorem ev_Concat (k s:List Int) (c1 c2 c:Bool) (hk:k.length≤1000) (hs:s.length≤1000):Ev tb zl548 [] [.lst 1 [[L k c1],[L s c2]] c] [] ⟨O (k++s),[],[],[]⟩:=by
  have w1:IntKind.i64.wrap 1=1:=by decide
  have w1':IntKind.i64.wrap 2=2:=by decide
  by_cases h0:k.length+s.length=0
  · have hk0:k=[]:=List.length_eq_zero_iff.1 (by omega)
    have hs0:s=[]:=List.length_eq_zero_iff.1 (by omega)
    subst hk0 hs0
    have w0:IntKind.i64.wrap 0=0:=by decide
    have eg:=ev_lim ev_Grow0
    refine call_of_wp zt548 rfl ?_
    repeat (first|apply wp_as|apply wp_ss|refine wr (by simp;with_reducible rfl) ?_|refine wq (by simp;with_reducible rfl) ?_|refine wt (by simpa) ?_|refine wf (by simpa) ?_|refine xt (by simpa) ?_|refine xf (by simpa) ?_|apply wp_bs|apply wp_b|refine wp_sr ?_|refine wp_sx ?_|refine wp_ret' ?_|refine wp_skip' ?_|refine wp_exit' ?_)
    refine wp_loop ?_
    repeat (first|apply wp_as|apply wp_ss|refine wr (by simp [w1,w1',w0,eg];with_reducible rfl) ?_|refine wq (by simp [w1,w1',w0,eg];with_reducible rfl) ?_|refine wt (by simpa [w1,w1',w0,eg]) ?_|refine wf (by simpa [w1,w1',w0,eg]) ?_|refine xt (by simpa [w1,w1',w0,eg]) ?_|refine xf (by simpa [w1,w1',w0,eg]) ?_|apply wp_bs|apply wp_b|refine wp_sr ?_|refine wp_sx ?_|refine wp_ret' ?_|refine wp_skip' ?_|refine wp_exit' ?_)
    refine wp_loop ?_
    repeat (first|apply wp_as|apply wp_ss|refine wr (by simp [w1,w1',w0,eg];with_reducible rfl) ?_|refine wq (by simp [w1,w1',w0,eg];with_reducible rfl) ?_|refine wt (by simpa [w1,w1',w0,eg]) ?_|refine wf (by simpa [w1,w1',w0,eg]) ?_|refine xt (by simpa [w1,w1',w0,eg]) ?_|refine xf (by simpa [w1,w1',w0,eg]) ?_|apply wp_bs|apply wp_b|refine wp_sr ?_|refine wp_sx ?_|refine wp_ret' ?_|refine wp_skip' ?_|refine wp_exit' ?_)
    refine wp_loop ?_
    repeat (first|apply wp_as|apply wp_ss|refine wr (by simp [w1,w1',w0,eg];with_reducible rfl) ?_|refine wq (by simp [w1,w1',w0,eg];with_reducible rfl) ?_|refine wt (by simpa [w1,w1',w0,eg]) ?_|refine wf (by simpa [w1,w1',w0,eg]) ?_|refine xt (by simpa [w1,w1',w0,eg]) ?_|refine xf (by simpa [w1,w1',w0,eg]) ?_|apply wp_bs|apply wp_b|refine wp_sr ?_|refine wp_sx ?_|refine wp_ret' ?_|refine wp_skip' ?_|refine wp_exit' ?_)
    refine wp_loop ?_
    repeat (first|apply wp_as|apply wp_ss|refine wr (by simp [w1,w1',w0,eg];with_reducible rfl) ?_|refine wq (by simp [w1,w1',w0,eg];with_reducible rfl) ?_|refine wt (by simpa [w1,w1',w0,eg]) ?_|refine wf (by simpa [w1,w1',w0,eg]) ?_|refine xt (by simpa [w1,w1',w0,eg]) ?_|refine xf (by simpa [w1,w1',w0,eg]) ?_|apply wp_bs|apply wp_b|refine wp_sr ?_|refine wp_sx ?_|refine wp_ret' ?_|refine wp_skip' ?_|refine wp_exit' ?_)
    refine wp_loop ?_
    repeat (first|apply wp_as|apply wp_ss|refine wr (by simp [w1,w1',w0,eg];with_reducible rfl) ?_|refine wq (by simp [w1,w1',w0,eg];with_reducible rfl) ?_|refine wt (by simpa [w1,w1',w0,eg]) ?_|refine wf (by simpa [w1,w1',w0,eg]) ?_|refine xt (by simpa [w1,w1',w0,eg]) ?_|refine xf (by simpa [w1,w1',w0,eg]) ?_|apply wp_bs|apply wp_b|refine wp_sr ?_|refine wp_sx ?_|refine wp_ret' ?_|refine wp_skip' ?_|refine wp_exit' ?_)
    refine wp_loop ?_
    repeat (first|apply wp_as|apply wp_ss|refine wr (by simp [w1,w1',w0,eg];with_reducible rfl) ?_|refine wq (by simp [w1,w1',w0,eg];with_reducible rfl) ?_|refine wt (by simpa [w1,w1',w0,eg]) ?_|refine wf (by simpa [w1,w1',w0,eg]) ?_|refine xt (by simpa [w1,w1',w0,eg]) ?_|refine xf (by simpa [w1,w1',w0,eg]) ?_|apply wp_bs|apply wp_b|refine wp_sr ?_|refine wp_sx ?_|refine wp_ret' ?_|refine wp_skip' ?_|refine wp_exit' ?_)
    simp [zi548]
  have w2':IntKind.i64.wrap (k.length:Int)=k.length:=wrap64 (by omega) (by omega)
  have w3:IntKind.i64.wrap ((k.length:Int)+s.length)=(k.length:Int)+s.length:=wrap64 (by omega) (by omega)
  have w4:¬ (k.length:Int) < 0:=by omega
  have w5:¬ (k.length:Int)+s.length < 0:=by omega
  have eg:=ev_lim (ev_Grow (k.length+s.length) (by omega) (by omega))
  rw [Int.natCast_add] at eg
  have htk:k.take k.length=k:=List.take_of_length_le (by omega)
  have hlm:k.length≤274877906944:=by omega
  have hlm2:k.length+s.length≤274877906944:=by omega
  refine call_of_wp zt548 rfl ?_
  repeat (first|apply wp_as|apply wp_ss|refine wr (by simp;with_reducible rfl) ?_|refine wq (by simp;with_reducible rfl) ?_|refine wt (by simpa) ?_|refine wf (by simpa) ?_|refine xt (by simpa) ?_|refine xf (by simpa) ?_|apply wp_bs|apply wp_b|refine wp_sr ?_|refine wp_sx ?_|refine wp_ret' ?_|refine wp_skip' ?_|refine wp_exit' ?_)
  refine wp_loop ?_
  repeat (first|apply wp_as|apply wp_ss|refine wr (by simp [w1,w1',w2',w3,w4,w5,eg,htk,hlm,hlm2];with_reducible rfl) ?_|refine wq (by simp [w1,w1',w2',w3,w4,w5,eg,htk,hlm,hlm2];with_reducible rfl) ?_|refine wt (by simpa [w1,w1',w2',w3,w4,w5,eg,htk,hlm,hlm2]) ?_|refine wf (by simpa [w1,w1',w2',w3,w4,w5,eg,htk,hlm,hlm2]) ?_|refine xt (by simpa [w1,w1',w2',w3,w4,w5,eg,htk,hlm,hlm2]) ?_|refine xf (by simpa [w1,w1',w2',w3,w4,w5,eg,htk,hlm,hlm2]) ?_|apply wp_bs|apply wp_b|refine wp_sr ?_|refine wp_sx ?_|refine wp_ret' ?_|refine wp_skip' ?_|refine wp_exit' ?_)
  refine wp_loop ?_
  repeat (first|apply wp_as|apply wp_ss|refine wr (by simp [w1,w1',w2',w3,w4,w5,eg,htk,hlm,hlm2];with_reducible rfl) ?_|refine wq (by simp [w1,w1',w2',w3,w4,w5,eg,htk,hlm,hlm2];with_reducible rfl) ?_|refine wt (by simpa [w1,w1',w2',w3,w4,w5,eg,htk,hlm,hlm2]) ?_|refine wf (by simpa [w1,w1',w2',w3,w4,w5,eg,htk,hlm,hlm2]) ?_|refine xt (by simpa [w1,w1',w2',w3,w4,w5,eg,htk,hlm,hlm2]) ?_|refine xf (by simpa [w1,w1',w2',w3,w4,w5,eg,htk,hlm,hlm2]) ?_|apply wp_bs|apply wp_b|refine wp_sr ?_|refine wp_sx ?_|refine wp_ret' ?_|refine wp_skip' ?_|refine wp_exit' ?_)
  refine wp_loop ?_
  repeat (first|apply wp_as|apply wp_ss|refine wr (by simp [w1,w1',w2',w3,w4,w5,eg,htk,hlm,hlm2];with_reducible rfl) ?_|refine wq (by simp [w1,w1',w2',w3,w4,w5,eg,htk,hlm,hlm2];with_reducible rfl) ?_|refine wt (by simpa [w1,w1',w2',w3,w4,w5,eg,htk,hlm,hlm2]) ?_|refine wf (by simpa [w1,w1',w2',w3,w4,w5,eg,htk,hlm,hlm2]) ?_|refine xt (by simpa [w1,w1',w2',w3,w4,w5,eg,htk,hlm,hlm2]) ?_|refine xf (by simpa [w1,w1',w2',w3,w4,w5,eg,htk,hlm,hlm2]) ?_|apply wp_bs|apply wp_b|refine wp_sr ?_|refine wp_sx ?_|refine wp_ret' ?_|refine wp_skip' ?_|refine wp_exit' ?_)
  refine wp_loop ?_
  repeat (first|apply wp_as|apply wp_ss|refine wr (by simp [w1,w1',w2',w3,w4,w5,eg,htk,hlm,hlm2];with_reducible rfl) ?_|refine wq (by simp [w1,w1',w2',w3,w4,w5,eg,htk,hlm,hlm2];with_reducible rfl) ?_|refine wt (by simpa [w1,w1',w2',w3,w4,w5,eg,htk,hlm,hlm2]) ?_|refine wf (by simpa [w1,w1',w2',w3,w4,w5,eg,htk,hlm,hlm2]) ?_|refine xt (by simpa [w1,w1',w2',w3,w4,w5,eg,htk,hlm,hlm2]) ?_|refine xf (by simpa [w1,w1',w2',w3,w4,w5,eg,htk,hlm,hlm2]) ?_|apply wp_bs|apply wp_b|refine wp_sr ?_|refine wp_sx ?_|refine wp_ret' ?_|refine wp_skip' ?_|refine wp_exit' ?_)
  refine wp_loop ?_
  repeat (first|apply wp_as|apply wp_ss|refine wr (by simp [w1,w1',w2',w3,w4,w5,eg,htk,hlm,hlm2];with_reducible rfl) ?_|refine wq (by simp [w1,w1',w2',w3,w4,w5,eg,htk,hlm,hlm2];with_reducible rfl) ?_|refine wt (by simpa [w1,w1',w2',w3,w4,w5,eg,htk,hlm,hlm2]) ?_|refine wf (by simpa [w1,w1',w2',w3,w4,w5,eg,htk,hlm,hlm2]) ?_|refine xt (by simpa [w1,w1',w2',w3,w4,w5,eg,htk,hlm,hlm2]) ?_|refine xf (by simpa [w1,w1',w2',w3,w4,w5,eg,htk,hlm,hlm2]) ?_|apply wp_bs|apply wp_b|refine wp_sr ?_|refine wp_sx ?_|refine wp_ret' ?_|refine wp_skip' ?_|refine wp_exit' ?_)
  refine wp_loop ?_
  repeat (first|apply wp_as|apply wp_ss|refine wr (by simp [w1,w1',w2',w3,w4,w5,eg,htk,hlm,hlm2];with_reducible rfl) ?_|refine wq (by simp [w1,w1',w2',w3,w4,w5,eg,htk,hlm,hlm2];with_reducible rfl) ?_|refine wt (by simpa [w1,w1',w2',w3,w4,w5,eg,htk,hlm,hlm2]) ?_|refine wf (by simpa [w1,w1',w2',w3,w4,w5,eg,htk,hlm,hlm2]) ?_|refine xt (by simpa [w1,w1',w2',w3,w4,w5,eg,htk,hlm,hlm2]) ?_|refine xf (by simpa [w1,w1',w2',w3,w4,w5,eg,htk,hlm,hlm2]) ?_|apply wp_bs|apply wp_b|refine wp_sr ?_|refine wp_sx ?_|refine wp_ret' ?_|refine wp_skip' ?_|refine wp_exit' ?_)
  simp [zi548]
  rw [List.take_of_length_le (by simp)]
end Go.Idl
namespace Go.Idl
open Go
def nlI:List Int→IV
  | []=>Z
  | x::r=>O (x::r)
end Go.Idl
namespace Go.Idl
open Go
theorem ev_CloneI_Z:Ev tb zl71 [] [Z] [] ⟨O [],[],[],[]⟩:=by
  refine call_of_wp zt71 rfl ?_
  refine wp_rs (by simp;rfl) (by simp;rfl) ?_
  refine wp_nil2 (b:=([]:List Int).isEmpty) (by simp [z71r1];rfl) (by simp) ?_ ?_ ?_ (ex:=.ret) (st':={ T:=[(2,.own 1 (ints []))],loc:=[],M:=[] })
  · refine wp_ct (t:=false) (by simp) (by simp) fun _=>wp_ss ?_
    refine wp_rs (by simp;rfl) (by simp;rfl) ?_
    refine wp_ret' ?_
    simp
  · intro he
    refine wp_ct (t:=true) (by simp) (fun _=>wp_as ?_) (by simp)
    refine wp_rs (by simp;rfl) (by simp;rfl) ?_
    refine wp_sr ?_
    simp
  · simp [zi71]
theorem ev_clone_Z:Ev tb zl31 [] [Z] [] ⟨O [],[],[],[]⟩:=by
  have e1:=ev_lim ev_CloneI_Z
  have e2:=ev_lim (ev_Clip [])
  simp only [O,ints_nil] at e1 e2 ⊢
  refine call_of_wp zt31 rfl ?_
  repeat (first|apply wp_as|apply wp_ss|refine wr (by simp [e1,e2];with_reducible rfl) ?_|refine wq (by simp [e1,e2];with_reducible rfl) ?_|refine wt (by simpa [e1,e2]) ?_|refine wf (by simpa [e1,e2]) ?_|refine xt (by simpa [e1,e2]) ?_|refine xf (by simpa [e1,e2]) ?_|apply wp_bs|apply wp_b|refine wp_sr ?_|refine wp_sx ?_|refine wp_ret' ?_|refine wp_skip' ?_|refine wp_exit' ?_)
  simp [zi31]
end Go.Idl
namespace Go.Idl
open Go
theorem ev_CmpF1 (x n:Int) (M2:List Boxes) (h:-1000000≤n∧n≤1000000):Ev tb zl500 [] [I x,.bptr 0 0 0] ([[I n]]::M2) ⟨Bo (decide (x < n - 1)),[],[[I n]]::M2,[]⟩:=by
  have w1:IntKind.i64.wrap (n - 1)=n - 1:=wrap64 (by omega) (by omega)
  refine call_of_wp zt500 rfl ?_
  repeat (first|apply wp_as|apply wp_ss|refine wr (by simp [w1];with_reducible rfl) ?_|refine wq (by simp [w1];with_reducible rfl) ?_|refine wt (by simpa [w1]) ?_|refine wf (by simpa [w1]) ?_|refine xt (by simpa [w1]) ?_|refine xf (by simpa [w1]) ?_|apply wp_bs|apply wp_b|refine wp_sr ?_|refine wp_sx ?_|refine wp_ret' ?_|refine wp_skip' ?_|refine wp_exit' ?_)
  simp [zi500]
theorem ev_CmpF2 (x n:Int) (M2:List Boxes):Ev tb zl501 [] [I x,.bptr 0 0 0] ([[I n]]::M2) ⟨Bo (decide (n < x)),[],[[I n]]::M2,[]⟩:=by
  refine call_of_wp zt501 rfl ?_
  repeat (first|apply wp_as|apply wp_ss|refine wr (by simp;with_reducible rfl) ?_|refine wq (by simp;with_reducible rfl) ?_|refine wt (by simpa) ?_|refine wf (by simpa) ?_|refine xt (by simpa) ?_|refine xf (by simpa) ?_|apply wp_bs|apply wp_b|refine wp_sr ?_|refine wp_sx ?_|refine wp_ret' ?_|refine wp_skip' ?_|refine wp_exit' ?_)
  simp [zi501]
theorem idx_any (p:Int→Bool) (xs:List Int):decide (0≤idx p 0 xs)=xs.any p:=idx_ge p xs 0 (Int.le_refl _)
theorem nlI_app (A:List Int) (x:Int):nlI (A++[x])=O (A++[x]):=by cases A <;> rfl
theorem cmp_l10 (k s d:List Int) (c1 c2 c3:Bool) (B:Boxes) (hk:k.length≤100) (hd:d.length≤100) (bk:∀ x ∈ k,-1000000≤x∧x≤1000000):∀ (m i:Nat),i+m=k.length →
    wp tb (.loop z499l10) { T:=[(0,L k c1),(1,L s c2),(2,L d c3),(8,.bptr 0 0 0),(9,nlI ((k.take i).map fun x=>x+(d.length:Int))),(59,L k c1),(60,I k.length),(61,I i)],loc:=B,M:=[] }
      (fun ex st=>ex=.exit 0∧st={ T:=[(0,L k c1),(1,L s c2),(2,L d c3),(8,.bptr 0 0 0),(9,nlI (k.map fun x=>x+(d.length:Int))),(59,L k c1),(60,I k.length),(61,I k.length),(62,Bo false)],loc:=B,M:=[] }):=by
  intro m
  induction m with
  | zero =>
    intro i hi
    have h3:i=k.length:=hi
    subst h3
    rw [List.take_length]
    cases k.map fun x=>x+(d.length:Int) with
    | nil =>
      simp only [nlI]
      refine wp_loop ?_
      repeat (first|apply wp_as|apply wp_ss|refine wr (by simp;with_reducible rfl) ?_|refine wq (by simp;with_reducible rfl) ?_|refine wt (by simpa) ?_|refine wf (by simpa) ?_|refine xt (by simpa) ?_|refine xf (by simpa) ?_|apply wp_bs|apply wp_b|refine wp_sr ?_|refine wp_sx ?_|refine wp_ret' ?_|refine wp_skip' ?_|refine wp_exit' ?_)
      exact ⟨rfl,rfl⟩
    | cons x r =>
      simp only [nlI]
      refine wp_loop ?_
      repeat (first|apply wp_as|apply wp_ss|refine wr (by simp;with_reducible rfl) ?_|refine wq (by simp;with_reducible rfl) ?_|refine wt (by simpa) ?_|refine wf (by simpa) ?_|refine xt (by simpa) ?_|refine xf (by simpa) ?_|apply wp_bs|apply wp_b|refine wp_sr ?_|refine wp_sx ?_|refine wp_ret' ?_|refine wp_skip' ?_|refine wp_exit' ?_)
      exact ⟨rfl,rfl⟩
  | succ m ih =>
    intro i hi
    have hi2:i < k.length:=by omega
    have w1:IntKind.i64.wrap ((i:Int)+1)=((i+1:Nat):Int):=wrapS (by omega)
    have b:=bk _ (List.getElem_mem hi2)
    have w2:IntKind.i64.wrap (k[i]+(d.length:Int))=k[i]+d.length:=wrap64 (by omega) (by omega)
    have hn:=ih (i+1) (by omega)
    rw [List.take_succ_eq_append_getElem hi2,List.map_append,List.map_cons,List.map_nil,nlI_app] at hn
    have hA:((k.take i).map fun x=>x+(d.length:Int)).length=i:=by simp;omega
    generalize (k.take i).map (fun x=>x+(d.length:Int))=A at *
    have hlm:i+1≤274877906944:=by omega
    cases A with
    | nil =>
      have hi0:i=0:=by simpa using hA.symm
      subst hi0
      have w1:IntKind.i64.wrap 1=1:=by decide
      rw [show nlI []=Z from rfl]
      refine wp_loop ?_
      repeat (first|apply wp_as|apply wp_ss|refine wr (by simp [hi2,w1,w2];with_reducible rfl) ?_|refine wq (by simp [hi2,w1,w2];with_reducible rfl) ?_|refine wt (by simpa [hi2,w1,w2]) ?_|refine wf (by simpa [hi2,w1,w2]) ?_|refine xt (by simpa [hi2,w1,w2]) ?_|refine xf (by simpa [hi2,w1,w2]) ?_|apply wp_bs|apply wp_b|refine wp_sr ?_|refine wp_sx ?_|refine wp_ret' ?_|refine wp_skip' ?_|refine wp_exit' ?_)
      simp at hn
      exact hn
    | cons a A =>
      rw [show nlI (a::A)=O (a::A) from rfl]
      have htA:(a::A).take i=a::A:=List.take_of_length_le (by omega)
      generalize a::A=A at *
      refine wp_loop ?_
      repeat (first|apply wp_as|apply wp_ss|refine wr (by simp [hi2,w1,w2,hA,htA,hlm];with_reducible rfl) ?_|refine wq (by simp [hi2,w1,w2,hA,htA,hlm];with_reducible rfl) ?_|refine wt (by simpa [hi2,w1,w2,hA,htA,hlm]) ?_|refine wf (by simpa [hi2,w1,w2,hA,htA,hlm]) ?_|refine xt (by simpa [hi2,w1,w2,hA,htA,hlm]) ?_|refine xf (by simpa [hi2,w1,w2,hA,htA,hlm]) ?_|apply wp_bs|apply wp_b|refine wp_sr ?_|refine wp_sx ?_|refine wp_ret' ?_|refine wp_skip' ?_|refine wp_exit' ?_)
      simpa using hn
theorem cmp_l16 (k s d:List Int) (c2 c3:Bool) (hk:k.length≤100) (hd:d.length≤100) (bd:∀ x ∈ d,-1000000≤x∧x≤1000000) (C:List Int) (hC:C.length=k.length):∀ (m i:Nat),i+m=d.length →
    wp tb (.loop z499l16) { T:=[(1,L s c2),(2,L d c3),(8,.bptr 0 0 0),(9,nlI (C++(d.take i).map fun x=>x+(k.length:Int))),(73,L d c3),(74,I d.length),(75,I i)],loc:=[[I k.length]],M:=[] }
      (fun ex st=>ex=.exit 2∧st={ T:=[(1,L s c2),(2,L d c3),(8,.bptr 0 0 0),(9,nlI (C++d.map fun x=>x+(k.length:Int))),(73,L d c3),(74,I d.length),(75,I d.length),(76,Bo false)],loc:=[[I k.length]],M:=[] }):=by
  intro m
  induction m with
  | zero =>
    intro i hi
    have h3:i=d.length:=hi
    subst h3
    rw [List.take_length]
    cases C++d.map fun x=>x+(k.length:Int) with
    | nil =>
      simp only [nlI]
      refine wp_loop ?_
      repeat (first|apply wp_as|apply wp_ss|refine wr (by simp;with_reducible rfl) ?_|refine wq (by simp;with_reducible rfl) ?_|refine wt (by simpa) ?_|refine wf (by simpa) ?_|refine xt (by simpa) ?_|refine xf (by simpa) ?_|apply wp_bs|apply wp_b|refine wp_sr ?_|refine wp_sx ?_|refine wp_ret' ?_|refine wp_skip' ?_|refine wp_exit' ?_)
      exact ⟨rfl,rfl⟩
    | cons x r =>
      simp only [nlI]
      refine wp_loop ?_
      repeat (first|apply wp_as|apply wp_ss|refine wr (by simp;with_reducible rfl) ?_|refine wq (by simp;with_reducible rfl) ?_|refine wt (by simpa) ?_|refine wf (by simpa) ?_|refine xt (by simpa) ?_|refine xf (by simpa) ?_|apply wp_bs|apply wp_b|refine wp_sr ?_|refine wp_sx ?_|refine wp_ret' ?_|refine wp_skip' ?_|refine wp_exit' ?_)
      exact ⟨rfl,rfl⟩
  | succ m ih =>
    intro i hi
    have hi2:i < d.length:=by omega
    have w1:IntKind.i64.wrap ((i:Int)+1)=((i+1:Nat):Int):=wrapS (by omega)
    have b:=bd _ (List.getElem_mem hi2)
    have w2:IntKind.i64.wrap (d[i]+(k.length:Int))=d[i]+k.length:=wrap64 (by omega) (by omega)
    have hn:=ih (i+1) (by omega)
    rw [List.take_succ_eq_append_getElem hi2,List.map_append,← List.append_assoc,List.map_cons,List.map_nil,nlI_app] at hn
    have hA:(C++(d.take i).map fun x=>x+(k.length:Int)).length=k.length+i:=by simp;omega
    generalize C++(d.take i).map (fun x=>x+(k.length:Int))=A at *
    have hlm:k.length+i+1≤274877906944:=by omega
    cases A with
    | nil =>
      rw [show nlI []=Z from rfl]
      refine wp_loop ?_
      repeat (first|apply wp_as|apply wp_ss|refine wr (by simp [hi2,w1,w2];with_reducible rfl) ?_|refine wq (by simp [hi2,w1,w2];with_reducible rfl) ?_|refine wt (by simpa [hi2,w1,w2]) ?_|refine wf (by simpa [hi2,w1,w2]) ?_|refine xt (by simpa [hi2,w1,w2]) ?_|refine xf (by simpa [hi2,w1,w2]) ?_|apply wp_bs|apply wp_b|refine wp_sr ?_|refine wp_sx ?_|refine wp_ret' ?_|refine wp_skip' ?_|refine wp_exit' ?_)
      simp at hn
      exact hn
    | cons a A =>
      rw [show nlI (a::A)=O (a::A) from rfl]
      have htA:(a::A).take (k.length+i)=a::A:=List.take_of_length_le (by omega)
      generalize a::A=A at *
      refine wp_loop ?_
      repeat (first|apply wp_as|apply wp_ss|refine wr (by simp [hi2,w1,w2,hA,htA,hlm];with_reducible rfl) ?_|refine wq (by simp [hi2,w1,w2,hA,htA,hlm];with_reducible rfl) ?_|refine wt (by simpa [hi2,w1,w2,hA,htA,hlm]) ?_|refine wf (by simpa [hi2,w1,w2,hA,htA,hlm]) ?_|refine xt (by simpa [hi2,w1,w2,hA,htA,hlm]) ?_|refine xf (by simpa [hi2,w1,w2,hA,htA,hlm]) ?_|apply wp_bs|apply wp_b|refine wp_sr ?_|refine wp_sx ?_|refine wp_ret' ?_|refine wp_skip' ?_|refine wp_exit' ?_)
      simpa using hn
end Go.Idl
namespace Go.Idl
open Go
structure CmpFew (k s d:List Int):Prop where
  lk:k.length≤20
  ls:s.length≤20
  ld:d.length≤20
  bk:∀ x ∈ k,-1000≤x∧x≤1000
  bs:∀ x ∈ s,-1000≤x∧x≤1000
  bd:∀ x ∈ d,-1000≤x∧x≤1000
theorem sum_bound {B:Int}:∀ {xs:List Int},(∀ x ∈ xs,-B≤x∧x≤B)→-(B * xs.length)≤xs.sum∧xs.sum≤B * xs.length
  | [],_=>by simp
  | x::xs,h=>by
    have h1:=h x (by simp)
    have h2:=sum_bound (xs:=xs) fun y hy=>h y (by simp [hy])
    simp only [List.sum_cons,List.length_cons,Int.natCast_add,Int.natCast_one,Int.mul_add,Int.mul_one]
    omega
theorem few_small {xs:List Int} (hl:xs.length≤20) (h:∀ x ∈ xs,-1000≤x∧x≤1000):SmallSum xs:=by
  refine ⟨by omega,fun k=>?_⟩
  have h1:=sum_bound (B:=1000) (xs:=xs.take k) fun x hx=>h x (List.mem_of_mem_take hx)
  have h2:(xs.take k).length≤xs.length:=by rw [List.length_take];omega
  omega
set_option maxHeartbeats 8000000 in
theorem ev_ComposeDegrees_0 (k s d:List Int) (c1 c2 c3:Bool) (hf:CmpFew k s d) (h1:graphic (k++s)=false) :
    Ev tb zl499 [] [L k c1,L s c2,L d c3] [] ⟨.tup [Z,Bo false],[],[],[]⟩:=by
  have lk:=hf.lk
  have ls:=hf.ls
  have ld:=hf.ld
  have eC:=ev_lim (ev_Concat k s c1 c2 false (by omega) (by omega))
  have eG:=ev_lim (ev_IsGraphic (k++s) false (by simp;omega))
  have eD:=fun c=>ev_lim (ev_IsGraphic d c (by omega))
  have eK:=fun c=>ev_lim (ev_sum k c (few_small (by omega) hf.bk))
  have eS:=fun c=>ev_lim (ev_sum s c (few_small (by omega) hf.bs))
  have e1:=ev_lim (ev_ContainsFunc k c1 zl500 [.bptr 0 0 0] [[[I k.length]]] (fun x=>decide (x < (k.length:Int) - 1)) (by omega) fun x hx=>ev_CmpF1 x k.length [[],[]] (by omega))
  have e2:=ev_lim (ev_ContainsFunc s c2 zl501 [.bptr 0 0 0] [[[I k.length]]] (fun x=>decide ((k.length:Int) < x)) (by omega) fun x hx=>ev_CmpF2 x k.length [[],[]])
  rw [idx_any] at e1 e2
  have hsk:=sum_bound hf.bk
  have hss:=sum_bound hf.bs
  obtain ⟨N,hN⟩:∃ N:Int,N=k.length * ((k.length:Int) - 1):=⟨_,rfl⟩
  have hNb:-1000000≤N∧N≤1000000:=by
    rw [hN]
    have h1:(k.length:Int)≤20:=by omega
    have h0:(0:Int)≤k.length:=by omega
    constructor
    · have:(k.length:Int) * ((k.length:Int) - 1) ≥ (k.length:Int) * (-1):=Int.mul_le_mul_of_nonneg_left (by omega) h0
      omega
    · have:(k.length:Int) * ((k.length:Int) - 1)≤100 * 99:=by
        by_cases hz:k.length=0
        · rw [hz];decide
        · exact Int.mul_le_mul (by omega) (by omega) (by omega) (by omega)
      omega
  have w1:IntKind.i64.wrap ((k.length:Int) - 1)=(k.length:Int) - 1:=wrap64 (by omega) (by omega)
  have w2:IntKind.i64.wrap (k.length * ((k.length:Int) - 1))=N:=by rw [← hN];exact wrap64 (by omega) (by omega)
  have w3:IntKind.i64.wrap (s.sum+N)=s.sum+N:=wrap64 (by omega) (by omega)
  have w4:IntKind.i64.wrap ((k.length:Int)+s.length)=(k.length:Int)+s.length:=wrap64 (by omega) (by omega)
  have w5:IntKind.i64.wrap ((k.length:Int)+s.length+d.length)=(k.length:Int)+s.length+d.length:=wrap64 (by omega) (by omega)
  rw [h1] at eG
  refine call_of_wp zt499 rfl ?_
  repeat (first|apply wp_as|apply wp_ss|refine wr (by simp;with_reducible rfl) ?_|refine wq (by simp;with_reducible rfl) ?_|refine wt (by simpa) ?_|refine wf (by simpa) ?_|refine xt (by simpa) ?_|refine xf (by simpa) ?_|apply wp_bs|apply wp_b|refine wp_sr ?_|refine wp_sx ?_|refine wp_ret' ?_|refine wp_skip' ?_|refine wp_exit' ?_)
  refine wp_ra (by simp [eC,eG,eD,eK,eS,e1,e2,w1,w2,w3,w4,w5];with_reducible rfl) (by simp;with_reducible rfl) ?_ ?_
  · intro p hp
    simp only [List.mem_cons,List.not_mem_nil,or_false] at hp
    rcases hp with rfl | rfl | rfl | rfl | rfl | rfl | rfl | rfl
    · exact ⟨_,by simp [eC,eG,eD,eK,eS,e1,e2,w1,w2,w3,w4,w5];with_reducible rfl,by simp⟩
    · exact ⟨_,by simp [eC,eG,eD,eK,eS,e1,e2,w1,w2,w3,w4,w5];with_reducible rfl,by simp⟩
    · exact ⟨_,by simp [eC,eG,eD,eK,eS,e1,e2,w1,w2,w3,w4,w5];with_reducible rfl,by simp⟩
    · exact ⟨_,by simp [eC,eG,eD,eK,eS,e1,e2,w1,w2,w3,w4,w5];with_reducible rfl,by simp⟩
    · exact ⟨_,by simp [eC,eG,eD,eK,eS,e1,e2,w1,w2,w3,w4,w5];with_reducible rfl,by simp⟩
    · exact ⟨_,by simp [eC,eG,eD,eK,eS,e1,e2,w1,w2,w3,w4,w5];with_reducible rfl,by simp⟩
    · exact ⟨_,by simp [eC,eG,eD,eK,eS,e1,e2,w1,w2,w3,w4,w5];with_reducible rfl,by simp⟩
    · exact ⟨_,by simp [eC,eG,eD,eK,eS,e1,e2,w1,w2,w3,w4,w5];with_reducible rfl,by simp⟩
  repeat (first|apply wp_as|apply wp_ss|refine wr (by simp;with_reducible rfl) ?_|refine wq (by simp;with_reducible rfl) ?_|refine wt (by simpa) ?_|refine wf (by simpa) ?_|refine xt (by simpa) ?_|refine xf (by simpa) ?_|apply wp_bs|apply wp_b|refine wp_sr ?_|refine wp_sx ?_|refine wp_ret' ?_|refine wp_skip' ?_|refine wp_exit' ?_)
  simp [zi499]
set_option maxHeartbeats 8000000 in
theorem ev_ComposeDegrees_1 (k s d:List Int) (c1 c2 c3:Bool) (hf:CmpFew k s d) (h1:graphic (k++s)=true) (h2:graphic d=false) :
    Ev tb zl499 [] [L k c1,L s c2,L d c3] [] ⟨.tup [Z,Bo false],[],[],[]⟩:=by
  have lk:=hf.lk
  have ls:=hf.ls
  have ld:=hf.ld
  have eC:=ev_lim (ev_Concat k s c1 c2 false (by omega) (by omega))
  have eG:=ev_lim (ev_IsGraphic (k++s) false (by simp;omega))
  have eD:=fun c=>ev_lim (ev_IsGraphic d c (by omega))
  have eK:=fun c=>ev_lim (ev_sum k c (few_small (by omega) hf.bk))
  have eS:=fun c=>ev_lim (ev_sum s c (few_small (by omega) hf.bs))
  have e1:=ev_lim (ev_ContainsFunc k c1 zl500 [.bptr 0 0 0] [[[I k.length]]] (fun x=>decide (x < (k.length:Int) - 1)) (by omega) fun x hx=>ev_CmpF1 x k.length [[],[]] (by omega))
  have e2:=ev_lim (ev_ContainsFunc s c2 zl501 [.bptr 0 0 0] [[[I k.length]]] (fun x=>decide ((k.length:Int) < x)) (by omega) fun x hx=>ev_CmpF2 x k.length [[],[]])
  rw [idx_any] at e1 e2
  have hsk:=sum_bound hf.bk
  have hss:=sum_bound hf.bs
  obtain ⟨N,hN⟩:∃ N:Int,N=k.length * ((k.length:Int) - 1):=⟨_,rfl⟩
  have hNb:-1000000≤N∧N≤1000000:=by
    rw [hN]
    have h1:(k.length:Int)≤20:=by omega
    have h0:(0:Int)≤k.length:=by omega
    constructor
    · have:(k.length:Int) * ((k.length:Int) - 1) ≥ (k.length:Int) * (-1):=Int.mul_le_mul_of_nonneg_left (by omega) h0
      omega
    · have:(k.length:Int) * ((k.length:Int) - 1)≤100 * 99:=by
        by_cases hz:k.length=0
        · rw [hz];decide
        · exact Int.mul_le_mul (by omega) (by omega) (by omega) (by omega)
      omega
  have w1:IntKind.i64.wrap ((k.length:Int) - 1)=(k.length:Int) - 1:=wrap64 (by omega) (by omega)
  have w2:IntKind.i64.wrap (k.length * ((k.length:Int) - 1))=N:=by rw [← hN];exact wrap64 (by omega) (by omega)
  have w3:IntKind.i64.wrap (s.sum+N)=s.sum+N:=wrap64 (by omega) (by omega)
  have w4:IntKind.i64.wrap ((k.length:Int)+s.length)=(k.length:Int)+s.length:=wrap64 (by omega) (by omega)
  have w5:IntKind.i64.wrap ((k.length:Int)+s.length+d.length)=(k.length:Int)+s.length+d.length:=wrap64 (by omega) (by omega)
  rw [h1] at eG
  simp only [h2] at eD
  refine call_of_wp zt499 rfl ?_
  repeat (first|apply wp_as|apply wp_ss|refine wr (by simp;with_reducible rfl) ?_|refine wq (by simp;with_reducible rfl) ?_|refine wt (by simpa) ?_|refine wf (by simpa) ?_|refine xt (by simpa) ?_|refine xf (by simpa) ?_|apply wp_bs|apply wp_b|refine wp_sr ?_|refine wp_sx ?_|refine wp_ret' ?_|refine wp_skip' ?_|refine wp_exit' ?_)
  refine wp_ra (by simp [eC,eG,eD,eK,eS,e1,e2,w1,w2,w3,w4,w5];with_reducible rfl) (by simp;with_reducible rfl) ?_ ?_
  · intro p hp
    simp only [List.mem_cons,List.not_mem_nil,or_false] at hp
    rcases hp with rfl | rfl | rfl | rfl | rfl | rfl | rfl | rfl
    · exact ⟨_,by simp [eC,eG,eD,eK,eS,e1,e2,w1,w2,w3,w4,w5];with_reducible rfl,by simp⟩
    · exact ⟨_,by simp [eC,eG,eD,eK,eS,e1,e2,w1,w2,w3,w4,w5];with_reducible rfl,by simp⟩
    · exact ⟨_,by simp [eC,eG,eD,eK,eS,e1,e2,w1,w2,w3,w4,w5];with_reducible rfl,by simp⟩
    · exact ⟨_,by simp [eC,eG,eD,eK,eS,e1,e2,w1,w2,w3,w4,w5];with_reducible rfl,by simp⟩
    · exact ⟨_,by simp [eC,eG,eD,eK,eS,e1,e2,w1,w2,w3,w4,w5];with_reducible rfl,by simp⟩
    · exact ⟨_,by simp [eC,eG,eD,eK,eS,e1,e2,w1,w2,w3,w4,w5];with_reducible rfl,by simp⟩
    · exact ⟨_,by simp [eC,eG,eD,eK,eS,e1,e2,w1,w2,w3,w4,w5];with_reducible rfl,by simp⟩
    · exact ⟨_,by simp [eC,eG,eD,eK,eS,e1,e2,w1,w2,w3,w4,w5];with_reducible rfl,by simp⟩
  repeat (first|apply wp_as|apply wp_ss|refine wr (by simp;with_reducible rfl) ?_|refine wq (by simp;with_reducible rfl) ?_|refine wt (by simpa) ?_|refine wf (by simpa) ?_|refine xt (by simpa) ?_|refine xf (by simpa) ?_|apply wp_bs|apply wp_b|refine wp_sr ?_|refine wp_sx ?_|refine wp_ret' ?_|refine wp_skip' ?_|refine wp_exit' ?_)
  simp [zi499]
set_option maxHeartbeats 8000000 in
theorem ev_ComposeDegrees_2 (k s d:List Int) (c1 c2 c3:Bool) (hf:CmpFew k s d) (h1:graphic (k++s)=true) (h2:graphic d=true) (h3:¬ k.sum=s.sum+k.length * ((k.length:Int) - 1)) :
    Ev tb zl499 [] [L k c1,L s c2,L d c3] [] ⟨.tup [Z,Bo false],[],[],[]⟩:=by
  have lk:=hf.lk
  have ls:=hf.ls
  have ld:=hf.ld
  have eC:=ev_lim (ev_Concat k s c1 c2 false (by omega) (by omega))
  have eG:=ev_lim (ev_IsGraphic (k++s) false (by simp;omega))
  have eD:=fun c=>ev_lim (ev_IsGraphic d c (by omega))
  have eK:=fun c=>ev_lim (ev_sum k c (few_small (by omega) hf.bk))
  have eS:=fun c=>ev_lim (ev_sum s c (few_small (by omega) hf.bs))
  have e1:=ev_lim (ev_ContainsFunc k c1 zl500 [.bptr 0 0 0] [[[I k.length]]] (fun x=>decide (x < (k.length:Int) - 1)) (by omega) fun x hx=>ev_CmpF1 x k.length [[],[]] (by omega))
  have e2:=ev_lim (ev_ContainsFunc s c2 zl501 [.bptr 0 0 0] [[[I k.length]]] (fun x=>decide ((k.length:Int) < x)) (by omega) fun x hx=>ev_CmpF2 x k.length [[],[]])
  rw [idx_any] at e1 e2
  have hsk:=sum_bound hf.bk
  have hss:=sum_bound hf.bs
  obtain ⟨N,hN⟩:∃ N:Int,N=k.length * ((k.length:Int) - 1):=⟨_,rfl⟩
  have hNb:-1000000≤N∧N≤1000000:=by
    rw [hN]
    have h1:(k.length:Int)≤20:=by omega
    have h0:(0:Int)≤k.length:=by omega
    constructor
    · have:(k.length:Int) * ((k.length:Int) - 1) ≥ (k.length:Int) * (-1):=Int.mul_le_mul_of_nonneg_left (by omega) h0
      omega
    · have:(k.length:Int) * ((k.length:Int) - 1)≤100 * 99:=by
        by_cases hz:k.length=0
        · rw [hz];decide
        · exact Int.mul_le_mul (by omega) (by omega) (by omega) (by omega)
      omega
  have w1:IntKind.i64.wrap ((k.length:Int) - 1)=(k.length:Int) - 1:=wrap64 (by omega) (by omega)
  have w2:IntKind.i64.wrap (k.length * ((k.length:Int) - 1))=N:=by rw [← hN];exact wrap64 (by omega) (by omega)
  have w3:IntKind.i64.wrap (s.sum+N)=s.sum+N:=wrap64 (by omega) (by omega)
  have w4:IntKind.i64.wrap ((k.length:Int)+s.length)=(k.length:Int)+s.length:=wrap64 (by omega) (by omega)
  have w5:IntKind.i64.wrap ((k.length:Int)+s.length+d.length)=(k.length:Int)+s.length+d.length:=wrap64 (by omega) (by omega)
  rw [h1] at eG
  simp only [h2] at eD
  rw [← hN] at h3
  refine call_of_wp zt499 rfl ?_
  repeat (first|apply wp_as|apply wp_ss|refine wr (by simp;with_reducible rfl) ?_|refine wq (by simp;with_reducible rfl) ?_|refine wt (by simpa) ?_|refine wf (by simpa) ?_|refine xt (by simpa) ?_|refine xf (by simpa) ?_|apply wp_bs|apply wp_b|refine wp_sr ?_|refine wp_sx ?_|refine wp_ret' ?_|refine wp_skip' ?_|refine wp_exit' ?_)
  refine wp_ra (by simp [eC,eG,eD,eK,eS,e1,e2,w1,w2,w3,w4,w5,h3];with_reducible rfl) (by simp;with_reducible rfl) ?_ ?_
  · intro p hp
    simp only [List.mem_cons,List.not_mem_nil,or_false] at hp
    rcases hp with rfl | rfl | rfl | rfl | rfl | rfl | rfl | rfl
    · exact ⟨_,by simp [eC,eG,eD,eK,eS,e1,e2,w1,w2,w3,w4,w5,h3];with_reducible rfl,by simp⟩
    · exact ⟨_,by simp [eC,eG,eD,eK,eS,e1,e2,w1,w2,w3,w4,w5,h3];with_reducible rfl,by simp⟩
    · exact ⟨_,by simp [eC,eG,eD,eK,eS,e1,e2,w1,w2,w3,w4,w5,h3];with_reducible rfl,by simp⟩
    · exact ⟨_,by simp [eC,eG,eD,eK,eS,e1,e2,w1,w2,w3,w4,w5,h3];with_reducible rfl,by simp⟩
    · exact ⟨_,by simp [eC,eG,eD,eK,eS,e1,e2,w1,w2,w3,w4,w5,h3];with_reducible rfl,by simp⟩
    · exact ⟨_,by simp [eC,eG,eD,eK,eS,e1,e2,w1,w2,w3,w4,w5,h3];with_reducible rfl,by simp⟩
    · exact ⟨_,by simp [eC,eG,eD,eK,eS,e1,e2,w1,w2,w3,w4,w5,h3];with_reducible rfl,by simp⟩
    · exact ⟨_,by simp [eC,eG,eD,eK,eS,e1,e2,w1,w2,w3,w4,w5,h3];with_reducible rfl,by simp⟩
  repeat (first|apply wp_as|apply wp_ss|refine wr (by simp;with_reducible rfl) ?_|refine wq (by simp;with_reducible rfl) ?_|refine wt (by simpa) ?_|refine wf (by simpa) ?_|refine xt (by simpa) ?_|refine xf (by simpa) ?_|apply wp_bs|apply wp_b|refine wp_sr ?_|refine wp_sx ?_|refine wp_ret' ?_|refine wp_skip' ?_|refine wp_exit' ?_)
  simp [zi499]
set_option maxHeartbeats 8000000 in
theorem ev_ComposeDegrees_3 (k s d:List Int) (c1 c2 c3:Bool) (hf:CmpFew k s d) (h1:graphic (k++s)=true) (h2:graphic d=true) (h3:k.sum=s.sum+k.length * ((k.length:Int) - 1)) (h4:(k.any fun x=>decide (x < (k.length:Int) - 1))=true) :
    Ev tb zl499 [] [L k c1,L s c2,L d c3] [] ⟨.tup [Z,Bo false],[],[],[]⟩:=by
  have lk:=hf.lk
  have ls:=hf.ls
  have ld:=hf.ld
  have eC:=ev_lim (ev_Concat k s c1 c2 false (by omega) (by omega))
  have eG:=ev_lim (ev_IsGraphic (k++s) false (by simp;omega))
  have eD:=fun c=>ev_lim (ev_IsGraphic d c (by omega))
  have eK:=fun c=>ev_lim (ev_sum k c (few_small (by omega) hf.bk))
  have eS:=fun c=>ev_lim (ev_sum s c (few_small (by omega) hf.bs))
  have e1:=ev_lim (ev_ContainsFunc k c1 zl500 [.bptr 0 0 0] [[[I k.length]]] (fun x=>decide (x < (k.length:Int) - 1)) (by omega) fun x hx=>ev_CmpF1 x k.length [[],[]] (by omega))
  have e2:=ev_lim (ev_ContainsFunc s c2 zl501 [.bptr 0 0 0] [[[I k.length]]] (fun x=>decide ((k.length:Int) < x)) (by omega) fun x hx=>ev_CmpF2 x k.length [[],[]])
  rw [idx_any] at e1 e2
  have hsk:=sum_bound hf.bk
  have hss:=sum_bound hf.bs
  obtain ⟨N,hN⟩:∃ N:Int,N=k.length * ((k.length:Int) - 1):=⟨_,rfl⟩
  have hNb:-1000000≤N∧N≤1000000:=by
    rw [hN]
    have h1:(k.length:Int)≤20:=by omega
    have h0:(0:Int)≤k.length:=by omega
    constructor
    · have:(k.length:Int) * ((k.length:Int) - 1) ≥ (k.length:Int) * (-1):=Int.mul_le_mul_of_nonneg_left (by omega) h0
      omega
    · have:(k.length:Int) * ((k.length:Int) - 1)≤100 * 99:=by
        by_cases hz:k.length=0
        · rw [hz];decide
        · exact Int.mul_le_mul (by omega) (by omega) (by omega) (by omega)
      omega
  have w1:IntKind.i64.wrap ((k.length:Int) - 1)=(k.length:Int) - 1:=wrap64 (by omega) (by omega)
  have w2:IntKind.i64.wrap (k.length * ((k.length:Int) - 1))=N:=by rw [← hN];exact wrap64 (by omega) (by omega)
  have w3:IntKind.i64.wrap (s.sum+N)=s.sum+N:=wrap64 (by omega) (by omega)
  have w4:IntKind.i64.wrap ((k.length:Int)+s.length)=(k.length:Int)+s.length:=wrap64 (by omega) (by omega)
  have w5:IntKind.i64.wrap ((k.length:Int)+s.length+d.length)=(k.length:Int)+s.length+d.length:=wrap64 (by omega) (by omega)
  rw [h1] at eG
  simp only [h2] at eD
  rw [← hN] at h3
  rw [h4] at e1
  refine call_of_wp zt499 rfl ?_
  repeat (first|apply wp_as|apply wp_ss|refine wr (by simp;with_reducible rfl) ?_|refine wq (by simp;with_reducible rfl) ?_|refine wt (by simpa) ?_|refine wf (by simpa) ?_|refine xt (by simpa) ?_|refine xf (by simpa) ?_|apply wp_bs|apply wp_b|refine wp_sr ?_|refine wp_sx ?_|refine wp_ret' ?_|refine wp_skip' ?_|refine wp_exit' ?_)
  refine wp_ra (by simp [eC,eG,eD,eK,eS,e1,e2,w1,w2,w3,w4,w5,h3];with_reducible rfl) (by simp;with_reducible rfl) ?_ ?_
  · intro p hp
    simp only [List.mem_cons,List.not_mem_nil,or_false] at hp
    rcases hp with rfl | rfl | rfl | rfl | rfl | rfl | rfl | rfl
    · exact ⟨_,by simp [eC,eG,eD,eK,eS,e1,e2,w1,w2,w3,w4,w5,h3];with_reducible rfl,by simp⟩
    · exact ⟨_,by simp [eC,eG,eD,eK,eS,e1,e2,w1,w2,w3,w4,w5,h3];with_reducible rfl,by simp⟩
    · exact ⟨_,by simp [eC,eG,eD,eK,eS,e1,e2,w1,w2,w3,w4,w5,h3];with_reducible rfl,by simp⟩
    · exact ⟨_,by simp [eC,eG,eD,eK,eS,e1,e2,w1,w2,w3,w4,w5,h3];with_reducible rfl,by simp⟩
    · exact ⟨_,by simp [eC,eG,eD,eK,eS,e1,e2,w1,w2,w3,w4,w5,h3];with_reducible rfl,by simp⟩
    · exact ⟨_,by simp [eC,eG,eD,eK,eS,e1,e2,w1,w2,w3,w4,w5,h3];with_reducible rfl,by simp⟩
    · exact ⟨_,by simp [eC,eG,eD,eK,eS,e1,e2,w1,w2,w3,w4,w5,h3];with_reducible rfl,by simp⟩
    · exact ⟨_,by simp [eC,eG,eD,eK,eS,e1,e2,w1,w2,w3,w4,w5,h3];with_reducible rfl,by simp⟩
  repeat (first|apply wp_as|apply wp_ss|refine wr (by simp;with_reducible rfl) ?_|refine wq (by simp;with_reducible rfl) ?_|refine wt (by simpa) ?_|refine wf (by simpa) ?_|refine xt (by simpa) ?_|refine xf (by simpa) ?_|apply wp_bs|apply wp_b|refine wp_sr ?_|refine wp_sx ?_|refine wp_ret' ?_|refine wp_skip' ?_|refine wp_exit' ?_)
  simp [zi499]
set_option maxHeartbeats 8000000 in
theorem ev_ComposeDegrees_4 (k s d:List Int) (c1 c2 c3:Bool) (hf:CmpFew k s d) (h1:graphic (k++s)=true) (h2:graphic d=true) (h3:k.sum=s.sum+k.length * ((k.length:Int) - 1)) (h4:(k.any fun x=>decide (x < (k.length:Int) - 1))=false) (h5:(s.any fun x=>decide ((k.length:Int) < x))=true) :
    Ev tb zl499 [] [L k c1,L s c2,L d c3] [] ⟨.tup [Z,Bo false],[],[],[]⟩:=by
  have lk:=hf.lk
  have ls:=hf.ls
  have ld:=hf.ld
  have eC:=ev_lim (ev_Concat k s c1 c2 false (by omega) (by omega))
  have eG:=ev_lim (ev_IsGraphic (k++s) false (by simp;omega))
  have eD:=fun c=>ev_lim (ev_IsGraphic d c (by omega))
  have eK:=fun c=>ev_lim (ev_sum k c (few_small (by omega) hf.bk))
  have eS:=fun c=>ev_lim (ev_sum s c (few_small (by omega) hf.bs))
  have e1:=ev_lim (ev_ContainsFunc k c1 zl500 [.bptr 0 0 0] [[[I k.length]]] (fun x=>decide (x < (k.length:Int) - 1)) (by omega) fun x hx=>ev_CmpF1 x k.length [[],[]] (by omega))
  have e2:=ev_lim (ev_ContainsFunc s c2 zl501 [.bptr 0 0 0] [[[I k.length]]] (fun x=>decide ((k.length:Int) < x)) (by omega) fun x hx=>ev_CmpF2 x k.length [[],[]])
  rw [idx_any] at e1 e2
  have hsk:=sum_bound hf.bk
  have hss:=sum_bound hf.bs
  obtain ⟨N,hN⟩:∃ N:Int,N=k.length * ((k.length:Int) - 1):=⟨_,rfl⟩
  have hNb:-1000000≤N∧N≤1000000:=by
    rw [hN]
    have h1:(k.length:Int)≤20:=by omega
    have h0:(0:Int)≤k.length:=by omega
    constructor
    · have:(k.length:Int) * ((k.length:Int) - 1) ≥ (k.length:Int) * (-1):=Int.mul_le_mul_of_nonneg_left (by omega) h0
      omega
    · have:(k.length:Int) * ((k.length:Int) - 1)≤100 * 99:=by
        by_cases hz:k.length=0
        · rw [hz];decide
        · exact Int.mul_le_mul (by omega) (by omega) (by omega) (by omega)
      omega
  have w1:IntKind.i64.wrap ((k.length:Int) - 1)=(k.length:Int) - 1:=wrap64 (by omega) (by omega)
  have w2:IntKind.i64.wrap (k.length * ((k.length:Int) - 1))=N:=by rw [← hN];exact wrap64 (by omega) (by omega)
  have w3:IntKind.i64.wrap (s.sum+N)=s.sum+N:=wrap64 (by omega) (by omega)
  have w4:IntKind.i64.wrap ((k.length:Int)+s.length)=(k.length:Int)+s.length:=wrap64 (by omega) (by omega)
  have w5:IntKind.i64.wrap ((k.length:Int)+s.length+d.length)=(k.length:Int)+s.length+d.length:=wrap64 (by omega) (by omega)
  rw [h1] at eG
  simp only [h2] at eD
  rw [← hN] at h3
  rw [h4] at e1
  rw [h5] at e2
  refine call_of_wp zt499 rfl ?_
  repeat (first|apply wp_as|apply wp_ss|refine wr (by simp;with_reducible rfl) ?_|refine wq (by simp;with_reducible rfl) ?_|refine wt (by simpa) ?_|refine wf (by simpa) ?_|refine xt (by simpa) ?_|refine xf (by simpa) ?_|apply wp_bs|apply wp_b|refine wp_sr ?_|refine wp_sx ?_|refine wp_ret' ?_|refine wp_skip' ?_|refine wp_exit' ?_)
  refine wp_ra (by simp [eC,eG,eD,eK,eS,e1,e2,w1,w2,w3,w4,w5,h3];with_reducible rfl) (by simp;with_reducible rfl) ?_ ?_
  · intro p hp
    simp only [List.mem_cons,List.not_mem_nil,or_false] at hp
    rcases hp with rfl | rfl | rfl | rfl | rfl | rfl | rfl | rfl
    · exact ⟨_,by simp [eC,eG,eD,eK,eS,e1,e2,w1,w2,w3,w4,w5,h3];with_reducible rfl,by simp⟩
    · exact ⟨_,by simp [eC,eG,eD,eK,eS,e1,e2,w1,w2,w3,w4,w5,h3];with_reducible rfl,by simp⟩
    · exact ⟨_,by simp [eC,eG,eD,eK,eS,e1,e2,w1,w2,w3,w4,w5,h3];with_reducible rfl,by simp⟩
    · exact ⟨_,by simp [eC,eG,eD,eK,eS,e1,e2,w1,w2,w3,w4,w5,h3];with_reducible rfl,by simp⟩
    · exact ⟨_,by simp [eC,eG,eD,eK,eS,e1,e2,w1,w2,w3,w4,w5,h3];with_reducible rfl,by simp⟩
    · exact ⟨_,by simp [eC,eG,eD,eK,eS,e1,e2,w1,w2,w3,w4,w5,h3];with_reducible rfl,by simp⟩
    · exact ⟨_,by simp [eC,eG,eD,eK,eS,e1,e2,w1,w2,w3,w4,w5,h3];with_reducible rfl,by simp⟩
    · exact ⟨_,by simp [eC,eG,eD,eK,eS,e1,e2,w1,w2,w3,w4,w5,h3];with_reducible rfl,by simp⟩
  repeat (first|apply wp_as|apply wp_ss|refine wr (by simp;with_reducible rfl) ?_|refine wq (by simp;with_reducible rfl) ?_|refine wt (by simpa) ?_|refine wf (by simpa) ?_|refine xt (by simpa) ?_|refine xf (by simpa) ?_|apply wp_bs|apply wp_b|refine wp_sr ?_|refine wp_sx ?_|refine wp_ret' ?_|refine wp_skip' ?_|refine wp_exit' ?_)
  simp [zi499]
set_option maxHeartbeats 8000000 in
theorem ev_ComposeDegrees_5 (k s d:List Int) (c1 c2 c3:Bool) (hf:CmpFew k s d) (h1:graphic (k++s)=true) (h2:graphic d=true) (h3:k.sum=s.sum+k.length * ((k.length:Int) - 1)) (h4:(k.any fun x=>decide (x < (k.length:Int) - 1))=false) (h5:(s.any fun x=>decide ((k.length:Int) < x))=false) (h6:¬ k.length+s.length+d.length≤7) :
    Ev tb zl499 [] [L k c1,L s c2,L d c3] [] ⟨.tup [Z,Bo false],[],[],[]⟩:=by
  have lk:=hf.lk
  have ls:=hf.ls
  have ld:=hf.ld
  have eC:=ev_lim (ev_Concat k s c1 c2 false (by omega) (by omega))
  have eG:=ev_lim (ev_IsGraphic (k++s) false (by simp;omega))
  have eD:=fun c=>ev_lim (ev_IsGraphic d c (by omega))
  have eK:=fun c=>ev_lim (ev_sum k c (few_small (by omega) hf.bk))
  have eS:=fun c=>ev_lim (ev_sum s c (few_small (by omega) hf.bs))
  have e1:=ev_lim (ev_ContainsFunc k c1 zl500 [.bptr 0 0 0] [[[I k.length]]] (fun x=>decide (x < (k.length:Int) - 1)) (by omega) fun x hx=>ev_CmpF1 x k.length [[],[]] (by omega))
  have e2:=ev_lim (ev_ContainsFunc s c2 zl501 [.bptr 0 0 0] [[[I k.length]]] (fun x=>decide ((k.length:Int) < x)) (by omega) fun x hx=>ev_CmpF2 x k.length [[],[]])
  rw [idx_any] at e1 e2
  have hsk:=sum_bound hf.bk
  have hss:=sum_bound hf.bs
  obtain ⟨N,hN⟩:∃ N:Int,N=k.length * ((k.length:Int) - 1):=⟨_,rfl⟩
  have hNb:-1000000≤N∧N≤1000000:=by
    rw [hN]
    have h1:(k.length:Int)≤20:=by omega
    have h0:(0:Int)≤k.length:=by omega
    constructor
    · have:(k.length:Int) * ((k.length:Int) - 1) ≥ (k.length:Int) * (-1):=Int.mul_le_mul_of_nonneg_left (by omega) h0
      omega
    · have:(k.length:Int) * ((k.length:Int) - 1)≤100 * 99:=by
        by_cases hz:k.length=0
        · rw [hz];decide
        · exact Int.mul_le_mul (by omega) (by omega) (by omega) (by omega)
      omega
  have w1:IntKind.i64.wrap ((k.length:Int) - 1)=(k.length:Int) - 1:=wrap64 (by omega) (by omega)
  have w2:IntKind.i64.wrap (k.length * ((k.length:Int) - 1))=N:=by rw [← hN];exact wrap64 (by omega) (by omega)
  have w3:IntKind.i64.wrap (s.sum+N)=s.sum+N:=wrap64 (by omega) (by omega)
  have w4:IntKind.i64.wrap ((k.length:Int)+s.length)=(k.length:Int)+s.length:=wrap64 (by omega) (by omega)
  have w5:IntKind.i64.wrap ((k.length:Int)+s.length+d.length)=(k.length:Int)+s.length+d.length:=wrap64 (by omega) (by omega)
  rw [h1] at eG
  simp only [h2] at eD
  rw [← hN] at h3
  rw [h4] at e1
  rw [h5] at e2
  have h7:(7:Int) < (k.length:Int)+s.length+d.length:=by omega
  refine call_of_wp zt499 rfl ?_
  repeat (first|apply wp_as|apply wp_ss|refine wr (by simp;with_reducible rfl) ?_|refine wq (by simp;with_reducible rfl) ?_|refine wt (by simpa) ?_|refine wf (by simpa) ?_|refine xt (by simpa) ?_|refine xf (by simpa) ?_|apply wp_bs|apply wp_b|refine wp_sr ?_|refine wp_sx ?_|refine wp_ret' ?_|refine wp_skip' ?_|refine wp_exit' ?_)
  refine wp_ra (by simp [eC,eG,eD,eK,eS,e1,e2,w1,w2,w3,w4,w5,h3,h7];with_reducible rfl) (by simp;with_reducible rfl) ?_ ?_
  · intro p hp
    simp only [List.mem_cons,List.not_mem_nil,or_false] at hp
    rcases hp with rfl | rfl | rfl | rfl | rfl | rfl | rfl | rfl
    · exact ⟨_,by simp [eC,eG,eD,eK,eS,e1,e2,w1,w2,w3,w4,w5,h3,h7];with_reducible rfl,by simp⟩
    · exact ⟨_,by simp [eC,eG,eD,eK,eS,e1,e2,w1,w2,w3,w4,w5,h3,h7];with_reducible rfl,by simp⟩
    · exact ⟨_,by simp [eC,eG,eD,eK,eS,e1,e2,w1,w2,w3,w4,w5,h3,h7];with_reducible rfl,by simp⟩
    · exact ⟨_,by simp [eC,eG,eD,eK,eS,e1,e2,w1,w2,w3,w4,w5,h3,h7];with_reducible rfl,by simp⟩
    · exact ⟨_,by simp [eC,eG,eD,eK,eS,e1,e2,w1,w2,w3,w4,w5,h3,h7];with_reducible rfl,by simp⟩
    · exact ⟨_,by simp [eC,eG,eD,eK,eS,e1,e2,w1,w2,w3,w4,w5,h3,h7];with_reducible rfl,by simp⟩
    · exact ⟨_,by simp [eC,eG,eD,eK,eS,e1,e2,w1,w2,w3,w4,w5,h3,h7];with_reducible rfl,by simp⟩
    · exact ⟨_,by simp [eC,eG,eD,eK,eS,e1,e2,w1,w2,w3,w4,w5,h3,h7];with_reducible rfl,by simp⟩
  repeat (first|apply wp_as|apply wp_ss|refine wr (by simp;with_reducible rfl) ?_|refine wq (by simp;with_reducible rfl) ?_|refine wt (by simpa) ?_|refine wf (by simpa) ?_|refine xt (by simpa) ?_|refine xf (by simpa) ?_|apply wp_bs|apply wp_b|refine wp_sr ?_|refine wp_sx ?_|refine wp_ret' ?_|refine wp_skip' ?_|refine wp_exit' ?_)
  simp [zi499]
set_option maxHeartbeats 8000000 in
theorem ev_ComposeDegrees_6 (k s d:List Int) (c1 c2 c3:Bool) (hf:CmpFew k s d) (h1:graphic (k++s)=true) (h2:graphic d=true) (h3:k.sum=s.sum+k.length * ((k.length:Int) - 1)) (h4:(k.any fun x=>decide (x < (k.length:Int) - 1))=false) (h5:(s.any fun x=>decide ((k.length:Int) < x))=false) (h6:k.length+s.length+d.length≤7) :
    Ev tb zl499 [] [L k c1,L s c2,L d c3] [] ⟨.tup [O (cmpD k s d),Bo true],[],[],[]⟩:=by
  have lk:=hf.lk
  have ls:=hf.ls
  have ld:=hf.ld
  have eC:=ev_lim (ev_Concat k s c1 c2 false (by omega) (by omega))
  have eG:=ev_lim (ev_IsGraphic (k++s) false (by simp;omega))
  have eD:=fun c=>ev_lim (ev_IsGraphic d c (by omega))
  have eK:=fun c=>ev_lim (ev_sum k c (few_small (by omega) hf.bk))
  have eS:=fun c=>ev_lim (ev_sum s c (few_small (by omega) hf.bs))
  have e1:=ev_lim (ev_ContainsFunc k c1 zl500 [.bptr 0 0 0] [[[I k.length]]] (fun x=>decide (x < (k.length:Int) - 1)) (by omega) fun x hx=>ev_CmpF1 x k.length [[],[]] (by omega))
  have e2:=ev_lim (ev_ContainsFunc s c2 zl501 [.bptr 0 0 0] [[[I k.length]]] (fun x=>decide ((k.length:Int) < x)) (by omega) fun x hx=>ev_CmpF2 x k.length [[],[]])
  rw [idx_any] at e1 e2
  have hsk:=sum_bound hf.bk
  have hss:=sum_bound hf.bs
  obtain ⟨N,hN⟩:∃ N:Int,N=k.length * ((k.length:Int) - 1):=⟨_,rfl⟩
  have hNb:-1000000≤N∧N≤1000000:=by
    rw [hN]
    have h1:(k.length:Int)≤20:=by omega
    have h0:(0:Int)≤k.length:=by omega
    constructor
    · have:(k.length:Int) * ((k.length:Int) - 1) ≥ (k.length:Int) * (-1):=Int.mul_le_mul_of_nonneg_left (by omega) h0
      omega
    · have:(k.length:Int) * ((k.length:Int) - 1)≤100 * 99:=by
        by_cases hz:k.length=0
        · rw [hz];decide
        · exact Int.mul_le_mul (by omega) (by omega) (by omega) (by omega)
      omega
  have w1:IntKind.i64.wrap ((k.length:Int) - 1)=(k.length:Int) - 1:=wrap64 (by omega) (by omega)
  have w2:IntKind.i64.wrap (k.length * ((k.length:Int) - 1))=N:=by rw [← hN];exact wrap64 (by omega) (by omega)
  have w3:IntKind.i64.wrap (s.sum+N)=s.sum+N:=wrap64 (by omega) (by omega)
  have w4:IntKind.i64.wrap ((k.length:Int)+s.length)=(k.length:Int)+s.length:=wrap64 (by omega) (by omega)
  have w5:IntKind.i64.wrap ((k.length:Int)+s.length+d.length)=(k.length:Int)+s.length+d.length:=wrap64 (by omega) (by omega)
  rw [h1] at eG
  simp only [h2] at eD
  rw [← hN] at h3
  rw [h4] at e1
  rw [h5] at e2
  have h7:¬ (7:Int) < (k.length:Int)+s.length+d.length:=by omega
  refine call_of_wp zt499 rfl ?_
  repeat (first|apply wp_as|apply wp_ss|refine wr (by simp;with_reducible rfl) ?_|refine wq (by simp;with_reducible rfl) ?_|refine wt (by simpa) ?_|refine wf (by simpa) ?_|refine xt (by simpa) ?_|refine xf (by simpa) ?_|apply wp_bs|apply wp_b|refine wp_sr ?_|refine wp_sx ?_|refine wp_ret' ?_|refine wp_skip' ?_|refine wp_exit' ?_)
  refine wp_ra (by simp [eC,eG,eD,eK,eS,e1,e2,w1,w2,w3,w4,w5,h3,h7];with_reducible rfl) (by simp;with_reducible rfl) ?_ ?_
  · intro p hp
    simp only [List.mem_cons,List.not_mem_nil,or_false] at hp
    rcases hp with rfl | rfl | rfl | rfl | rfl | rfl | rfl | rfl
    · exact ⟨_,by simp [eC,eG,eD,eK,eS,e1,e2,w1,w2,w3,w4,w5,h3,h7];with_reducible rfl,by simp⟩
    · exact ⟨_,by simp [eC,eG,eD,eK,eS,e1,e2,w1,w2,w3,w4,w5,h3,h7];with_reducible rfl,by simp⟩
    · exact ⟨_,by simp [eC,eG,eD,eK,eS,e1,e2,w1,w2,w3,w4,w5,h3,h7];with_reducible rfl,by simp⟩
    · exact ⟨_,by simp [eC,eG,eD,eK,eS,e1,e2,w1,w2,w3,w4,w5,h3,h7];with_reducible rfl,by simp⟩
    · exact ⟨_,by simp [eC,eG,eD,eK,eS,e1,e2,w1,w2,w3,w4,w5,h3,h7];with_reducible rfl,by simp⟩
    · exact ⟨_,by simp [eC,eG,eD,eK,eS,e1,e2,w1,w2,w3,w4,w5,h3,h7];with_reducible rfl,by simp⟩
    · exact ⟨_,by simp [eC,eG,eD,eK,eS,e1,e2,w1,w2,w3,w4,w5,h3,h7];with_reducible rfl,by simp⟩
    · exact ⟨_,by simp [eC,eG,eD,eK,eS,e1,e2,w1,w2,w3,w4,w5,h3,h7];with_reducible rfl,by simp⟩
  have q1:=cmp_l10 k s d c1 c2 c3 [[I k.length]] (by omega) (by omega) (fun x hx=>by have:=hf.bk x hx;omega) k.length 0 (by omega)
  have q2:=cmp_l16 k s d c2 c3 (by omega) (by omega) (fun x hx=>by have:=hf.bd x hx;omega) (k.map fun x=>x+(d.length:Int)) (by simp) d.length 0 (by omega)
  rw [List.take_zero,show ((0:Nat):Int)=0 from rfl] at q1 q2
  rw [List.map_nil] at q1
  rw [List.map_nil,List.append_nil] at q2
  have hc:cmpD k s d=((k.map fun x=>x+(d.length:Int))++d.map fun x=>x+(k.length:Int))++s:=by rw [cmpD,List.append_assoc]
  have hA:((k.map fun x=>x+(d.length:Int))++d.map fun x=>x+(k.length:Int)).length=k.length+d.length:=by simp
  rw [hc]
  generalize (k.map fun x=>x+(d.length:Int))++d.map (fun x=>x+(k.length:Int))=A at *
  generalize k.map (fun x=>x+(d.length:Int))=B at *
  repeat (first|apply wp_as|apply wp_ss|refine wr (by simp;with_reducible rfl) ?_|refine wq (by simp;with_reducible rfl) ?_|refine wt (by simpa) ?_|refine wf (by simpa) ?_|refine xt (by simpa) ?_|refine xf (by simpa) ?_|apply wp_bs|apply wp_b|refine wp_sr ?_|refine wp_sx ?_|refine wp_ret' ?_|refine wp_skip' ?_|refine wp_exit' ?_)
  refine wp_imp q1 ?_
  rintro ex st ⟨rfl,rfl⟩
  simp only [if_true]
  cases B with
  | nil =>
    simp only [show nlI []=Z from rfl] at q2 ⊢
    repeat (first|apply wp_as|apply wp_ss|refine wr (by simp;with_reducible rfl) ?_|refine wq (by simp;with_reducible rfl) ?_|refine wt (by simpa) ?_|refine wf (by simpa) ?_|refine xt (by simpa) ?_|refine xf (by simpa) ?_|apply wp_bs|apply wp_b|refine wp_sr ?_|refine wp_sx ?_|refine wp_ret' ?_|refine wp_skip' ?_|refine wp_exit' ?_)
    refine wp_imp q2 ?_
    rintro ex st ⟨rfl,rfl⟩
    simp only [if_true]
    cases A with
    | nil =>
      simp only [show nlI []=Z from rfl,List.nil_append]
      cases s with
      | nil =>
        have e9:=ev_lim ev_clone_Z
        have e9':=fun c=>ev_lim (ev_clone [] c (by simp))
        simp only [O,ints_nil] at e9 e9' ⊢
        repeat (first|apply wp_as|apply wp_ss|refine wr (by simp [e9,e9'];with_reducible rfl) ?_|refine wq (by simp [e9,e9'];with_reducible rfl) ?_|refine wt (by simpa [e9,e9']) ?_|refine wf (by simpa [e9,e9']) ?_|refine xt (by simpa [e9,e9']) ?_|refine xf (by simpa [e9,e9']) ?_|apply wp_bs|apply wp_b|refine wp_sr ?_|refine wp_sx ?_|refine wp_ret' ?_|refine wp_skip' ?_|refine wp_exit' ?_)
        simp [zi499]
      | cons y s =>
        have e9:=fun c=>ev_lim (ev_clone (y::s) c (by omega))
        have hS:(y::s).length≤274877906944:=by omega
        have hS0:¬ (y::s).length=0:=by simp
        generalize y::s=S at *
        repeat (first|apply wp_as|apply wp_ss|refine wr (by simp [e9,hS,hS0];with_reducible rfl) ?_|refine wq (by simp [e9,hS,hS0];with_reducible rfl) ?_|refine wt (by simpa [e9,hS,hS0]) ?_|refine wf (by simpa [e9,hS,hS0]) ?_|refine xt (by simpa [e9,hS,hS0]) ?_|refine xf (by simpa [e9,hS,hS0]) ?_|apply wp_bs|apply wp_b|refine wp_sr ?_|refine wp_sx ?_|refine wp_ret' ?_|refine wp_skip' ?_|refine wp_exit' ?_)
        simp [zi499]
    | cons a A =>
      simp only [show nlI (a::A)=O (a::A) from rfl]
      have e9:=fun c=>ev_lim (ev_clone ((a::A)++s) c (by simp at hA ⊢;omega))
      have hlm:(a::A).length+s.length≤274877906944:=by omega
      have htA:(a::A).take (a::A).length=a::A:=List.take_of_length_le (by omega)
      generalize a::A=A at *
      repeat (first|apply wp_as|apply wp_ss|refine wr (by simp [e9,hlm,htA];with_reducible rfl) ?_|refine wq (by simp [e9,hlm,htA];with_reducible rfl) ?_|refine wt (by simpa [e9,hlm,htA]) ?_|refine wf (by simpa [e9,hlm,htA]) ?_|refine xt (by simpa [e9,hlm,htA]) ?_|refine xf (by simpa [e9,hlm,htA]) ?_|apply wp_bs|apply wp_b|refine wp_sr ?_|refine wp_sx ?_|refine wp_ret' ?_|refine wp_skip' ?_|refine wp_exit' ?_)
      simp [zi499]
  | cons b B =>
    simp only [show nlI (b::B)=O (b::B) from rfl] at q2 ⊢
    generalize b::B=B at *
    repeat (first|apply wp_as|apply wp_ss|refine wr (by simp;with_reducible rfl) ?_|refine wq (by simp;with_reducible rfl) ?_|refine wt (by simpa) ?_|refine wf (by simpa) ?_|refine xt (by simpa) ?_|refine xf (by simpa) ?_|apply wp_bs|apply wp_b|refine wp_sr ?_|refine wp_sx ?_|refine wp_ret' ?_|refine wp_skip' ?_|refine wp_exit' ?_)
    refine wp_imp q2 ?_
    rintro ex st ⟨rfl,rfl⟩
    simp only [if_true]
    cases A with
    | nil =>
      simp only [show nlI []=Z from rfl,List.nil_append]
      cases s with
      | nil =>
        have e9:=ev_lim ev_clone_Z
        have e9':=fun c=>ev_lim (ev_clone [] c (by simp))
        simp only [O,ints_nil] at e9 e9' ⊢
        repeat (first|apply wp_as|apply wp_ss|refine wr (by simp [e9,e9'];with_reducible rfl) ?_|refine wq (by simp [e9,e9'];with_reducible rfl) ?_|refine wt (by simpa [e9,e9']) ?_|refine wf (by simpa [e9,e9']) ?_|refine xt (by simpa [e9,e9']) ?_|refine xf (by simpa [e9,e9']) ?_|apply wp_bs|apply wp_b|refine wp_sr ?_|refine wp_sx ?_|refine wp_ret' ?_|refine wp_skip' ?_|refine wp_exit' ?_)
        simp [zi499]
      | cons y s =>
        have e9:=fun c=>ev_lim (ev_clone (y::s) c (by omega))
        have hS:(y::s).length≤274877906944:=by omega
        have hS0:¬ (y::s).length=0:=by simp
        generalize y::s=S at *
        repeat (first|apply wp_as|apply wp_ss|refine wr (by simp [e9,hS,hS0];with_reducible rfl) ?_|refine wq (by simp [e9,hS,hS0];with_reducible rfl) ?_|refine wt (by simpa [e9,hS,hS0]) ?_|refine wf (by simpa [e9,hS,hS0]) ?_|refine xt (by simpa [e9,hS,hS0]) ?_|refine xf (by simpa [e9,hS,hS0]) ?_|apply wp_bs|apply wp_b|refine wp_sr ?_|refine wp_sx ?_|refine wp_ret' ?_|refine wp_skip' ?_|refine wp_exit' ?_)
        simp [zi499]
    | cons a A =>
      simp only [show nlI (a::A)=O (a::A) from rfl]
      have e9:=fun c=>ev_lim (ev_clone ((a::A)++s) c (by simp at hA ⊢;omega))
      have hlm:(a::A).length+s.length≤274877906944:=by omega
      have htA:(a::A).take (a::A).length=a::A:=List.take_of_length_le (by omega)
      generalize a::A=A at *
      repeat (first|apply wp_as|apply wp_ss|refine wr (by simp [e9,hlm,htA];with_reducible rfl) ?_|refine wq (by simp [e9,hlm,htA];with_reducible rfl) ?_|refine wt (by simpa [e9,hlm,htA]) ?_|refine wf (by simpa [e9,hlm,htA]) ?_|refine xt (by simpa [e9,hlm,htA]) ?_|refine xf (by simpa [e9,hlm,htA]) ?_|apply wp_bs|apply wp_b|refine wp_sr ?_|refine wp_sx ?_|refine wp_ret' ?_|refine wp_skip' ?_|refine wp_exit' ?_)
      simp [zi499]
end Go.Idl
namespace Go.Idl
open Go
theorem drop_ne {xs ys:List Int} {i:Nat} (h1:i < xs.length) (h2:i < ys.length):(xs.drop i=ys.drop i) ↔ xs[i]=ys[i]∧xs.drop (i+1)=ys.drop (i+1):=by
  rw [List.drop_eq_getElem_cons h1,List.drop_eq_getElem_cons h2,List.cons.injEq]
theorem ev_EqualI (xs ys:List Int) (c1 c2:Bool) (hl:xs.length≤2000000) (hl2:ys.length≤2000000):Ev tb zl267 [] [L xs c1,L ys c2] [] ⟨Bo (decide (xs=ys)),[],[],[]⟩:=by
  by_cases hlen:xs.length=ys.length
  · have loop:∀ (m i:Nat),i+m=xs.length→wp tb (.loop z267l9) { T:=[(0,L xs c1),(1,L ys c2),(12,I xs.length),(13,I i)],loc:=[],M:=[] }
        (fun ex st=>(ex=.exit 0∧xs.drop i=ys.drop i∧st={ T:=[(0,L xs c1),(1,L ys c2),(12,I xs.length),(13,I xs.length),(14,Bo false)],loc:=[],M:=[] }) ∨
          ex=.ret∧¬ xs.drop i=ys.drop i∧st={ T:=[(4,Bo false)],loc:=[],M:=[] }):=by
      intro m
      induction m with
      | zero =>
        intro i hi
        have h3:i=xs.length:=hi
        subst h3
        refine wp_loop ?_
        repeat (first|apply wp_as|apply wp_ss|refine wr (by simp;with_reducible rfl) ?_|refine wq (by simp;with_reducible rfl) ?_|refine wt (by simpa) ?_|refine wf (by simpa) ?_|refine xt (by simpa) ?_|refine xf (by simpa) ?_|apply wp_bs|apply wp_b|refine wp_sr ?_|refine wp_sx ?_|refine wp_ret' ?_|refine wp_skip' ?_|refine wp_exit' ?_)
        exact .inl ⟨rfl,by simp [hlen],rfl⟩
      | succ m ih =>
        intro i hi
        have hi2:i < xs.length:=by omega
        have hi3:i < ys.length:=by omega
        have w2:IntKind.i64.wrap ((i:Int)+1)=((i+1:Nat):Int):=wrapS (by omega)
        rw [drop_ne hi2 hi3]
        obtain ⟨x,hx⟩:∃ x,x=xs[i]:=⟨_,rfl⟩
        obtain ⟨y,hy⟩:∃ y,y=ys[i]:=⟨_,rfl⟩
        have hx2:=hx.symm
        have hy2:=hy.symm
        rw [hx2,hy2]
        by_cases hxy:x=y
        · subst hxy
          refine wp_loop ?_
          repeat (first|apply wp_as|apply wp_ss|refine wr (by simp [hi2,hi3,hx2,hy2,w2];with_reducible rfl) ?_|refine wq (by simp [hi2,hi3,hx2,hy2,w2];with_reducible rfl) ?_|refine wt (by simpa [hi2,hi3,hx2,hy2,w2]) ?_|refine wf (by simpa [hi2,hi3,hx2,hy2,w2]) ?_|refine xt (by simpa [hi2,hi3,hx2,hy2,w2]) ?_|refine xf (by simpa [hi2,hi3,hx2,hy2,w2]) ?_|apply wp_bs|apply wp_b|refine wp_sr ?_|refine wp_sx ?_|refine wp_ret' ?_|refine wp_skip' ?_|refine wp_exit' ?_)
          simpa using ih (i+1) (by omega)
        · refine wp_loop ?_
          repeat (first|apply wp_as|apply wp_ss|refine wr (by simp [hi2,hi3,hx2,hy2,w2,hxy];with_reducible rfl) ?_|refine wq (by simp [hi2,hi3,hx2,hy2,w2,hxy];with_reducible rfl) ?_|refine wt (by simpa [hi2,hi3,hx2,hy2,w2,hxy]) ?_|refine wf (by simpa [hi2,hi3,hx2,hy2,w2,hxy]) ?_|refine xt (by simpa [hi2,hi3,hx2,hy2,w2,hxy]) ?_|refine xf (by simpa [hi2,hi3,hx2,hy2,w2,hxy]) ?_|apply wp_bs|apply wp_b|refine wp_sr ?_|refine wp_sx ?_|refine wp_ret' ?_|refine wp_skip' ?_|refine wp_exit' ?_)
          exact .inr ⟨rfl,fun h=>hxy h.1,rfl⟩
    have hlen':=hlen.symm
    refine call_of_wp zt267 rfl ?_
    repeat (first|apply wp_as|apply wp_ss|refine wr (by simp [hlen'];with_reducible rfl) ?_|refine wq (by simp [hlen'];with_reducible rfl) ?_|refine wt (by simpa [hlen']) ?_|refine wf (by simpa [hlen']) ?_|refine xt (by simpa [hlen']) ?_|refine xf (by simpa [hlen']) ?_|apply wp_bs|apply wp_b|refine wp_sr ?_|refine wp_sx ?_|refine wp_ret' ?_|refine wp_skip' ?_|refine wp_exit' ?_)
    refine wp_imp (loop xs.length 0 (by simp)) ?_
    rintro ex st (⟨rfl,h,rfl⟩ | ⟨rfl,h,rfl⟩)
    · simp only [if_true]
      repeat (first|apply wp_as|apply wp_ss|refine wr (by simp;with_reducible rfl) ?_|refine wq (by simp;with_reducible rfl) ?_|refine wt (by simpa) ?_|refine wf (by simpa) ?_|refine xt (by simpa) ?_|refine xf (by simpa) ?_|apply wp_bs|apply wp_b|refine wp_sr ?_|refine wp_sx ?_|refine wp_ret' ?_|refine wp_skip' ?_|refine wp_exit' ?_)
      simp only [List.drop_zero] at h
      simp [zi267,h]
    · simp only [List.drop_zero] at h
      simp [zi267,h]
  · have hne:¬ xs=ys:=fun h=>hlen (by rw [h])
    have h2:¬ (xs.length:Int)=ys.length:=by omega
    rw [decide_eq_false hne]
    refine call_of_wp zt267 rfl ?_
    repeat (first|apply wp_as|apply wp_ss|refine wr (by simp [hlen,h2];with_reducible rfl) ?_|refine wq (by simp [hlen,h2];with_reducible rfl) ?_|refine wt (by simpa [hlen,h2]) ?_|refine wf (by simpa [hlen,h2]) ?_|refine xt (by simpa [hlen,h2]) ?_|refine xf (by simpa [hlen,h2]) ?_|apply wp_bs|apply wp_b|refine wp_sr ?_|refine wp_sx ?_|refine wp_ret' ?_|refine wp_skip' ?_|refine wp_exit' ?_)
    simp [zi267]
def thr (d:List Int):Bool:=valid d && decide (fall d=corrs (fall d))
theorem ev_IsThreshold (d:List Int) (c:Bool) (hl:d.length≤12):Ev tb zl187 [] [L d c] [] ⟨Bo (thr d),[],[],[]⟩:=by
  have e1:=ev_lim (ev_ValidDegrees d c (by omega))
  rw [thr]
  cases hv:valid d with
  | false =>
    rw [hv] at e1
    refine call_of_wp zt187 rfl ?_
    repeat (first|apply wp_as|apply wp_ss|refine wr (by simp [e1];with_reducible rfl) ?_|refine wq (by simp [e1];with_reducible rfl) ?_|refine wt (by simpa [e1]) ?_|refine wf (by simpa [e1]) ?_|refine xt (by simpa [e1]) ?_|refine xf (by simpa [e1]) ?_|apply wp_bs|apply wp_b|refine wp_sr ?_|refine wp_sx ?_|refine wp_ret' ?_|refine wp_skip' ?_|refine wp_exit' ?_)
    simp [zi187]
  | true =>
  rw [hv] at e1
  have e2:=ev_lim (ev_falling d c (by omega))
  have e3:=ev_lim (ev_CorrectedOf d c hv)
  have hcl:(corrs (fall d)).length=d.length:=by simp [corrs,fall_len]
  have e4:=ev_lim (ev_EqualI (fall d) (corrs (fall d)) false false (by rw [fall_len];omega) (by omega))
  generalize corrs (fall d)=cs at *
  generalize fall d=fs at *
  generalize decide (fs=cs)=b at *
  refine call_of_wp zt187 rfl ?_
  repeat (first|apply wp_as|apply wp_ss|refine wr (by simp [e1,e2,e3,e4];with_reducible rfl) ?_|refine wq (by simp [e1,e2,e3,e4];with_reducible rfl) ?_|refine wt (by simpa [e1,e2,e3,e4]) ?_|refine wf (by simpa [e1,e2,e3,e4]) ?_|refine xt (by simpa [e1,e2,e3,e4]) ?_|refine xf (by simpa [e1,e2,e3,e4]) ?_|apply wp_bs|apply wp_b|refine wp_sr ?_|refine wp_sx ?_|refine wp_ret' ?_|refine wp_skip' ?_|refine wp_exit' ?_)
  simp [zi187]
end Go.Idl
namespace Go.Idl
open Go
abbrev Str (s:ByteArray):IV:=.sc (.string s)
def strs (l:List ByteArray):List (List IV):=l.map fun s=>[Str s]
@[simp] theorem strs_len (l:List ByteArray):(strs l).length=l.length:=by simp [strs]
@[simp] theorem strs_get (l:List ByteArray) (i:Nat) (h:i < (strs l).length):(strs l)[i]=[IV.sc (.string (l[i]'(by simpa [strs] using h)))]:=by simp [strs]
@[simp] theorem strs_get? (l:List ByteArray) (i:Nat):(strs l)[i]? = l[i]?.map fun s=>[IV.sc (.string s)]:=by simp [strs]
end Go.Idl
namespace Go.Idl
open Go
theorem count_F1 (n:Int) (k:Nat) (es:List (Int×Int)) (B:Boxes) (Es:List Boxes) (hk:k≤100000000) :
    Ev tb zl159 [] [.agg [I n,O2 es],.bptr 0 0 0] ([[I k]]::B::Es) ⟨Bo true,[],[[I ((k+1:Nat):Int)]]::B::Es,[]⟩:=by
  have w1:IntKind.i64.wrap ((k:Int)+1)=((k+1:Nat):Int):=wrapS (by omega)
  refine call_of_wp zt159 rfl ?_
  repeat (first|apply wp_as|apply wp_ss|refine wr (by simp [w1];with_reducible rfl) ?_|refine wq (by simp [w1];with_reducible rfl) ?_|refine wt (by simpa [w1]) ?_|refine wf (by simpa [w1]) ?_|refine xt (by simpa [w1]) ?_|refine xf (by simpa [w1]) ?_|apply wp_bs|apply wp_b|refine wp_sr ?_|refine wp_sx ?_|refine wp_ret' ?_|refine wp_skip' ?_|refine wp_exit' ?_)
  simp [zi159]
theorem calls_count (n:Int):CallsBack n zl159 [.bptr 0 0 0] (fun _=>true) (fun gl bs=>bs=[[I gl.length]]):=by
  intro gl bs es hP hl he
  exact ⟨[[I (gl.length+1:Nat)]],by simp,fun B Es=>by rw [hP];exact count_F1 n gl.length es B Es (by omega)⟩
theorem ev_CountRealizations (d:List Int) (c:Bool) (hv:valid d=true) (h6:d.length≤6):Ev tb zl158 [] [L d c] [] ⟨I (reals d).length,[],[],[]⟩:=by
  have hf:=valid_few hv
  have e1:=ev_lim (ev_listed d c 6 (by omega))
  rw [hv,decide_eq_true (by omega:(d.length:Int)≤6),Bool.true_and] at e1
  have e2:=ev_lim (ev_impl_pairs d.length (by omega))
  have hpl:=prs21 d.length (by omega)
  have hin:∀ e ∈ prs d.length,0≤e.1∧e.1 < e.2∧e.2 < d.length:=fun e he=>mem_prs.1 he
  obtain ⟨bs',k1,k2⟩:∃ bs',(fun (gl:List (List (Int×Int))) bs=>bs=[[I gl.length]]) (upTo (fun _=>true) (reals d)).1 bs'∧Ev tb zl218 [] [I d.length,match nl2 (prs d.length) with | .own e x=>.lst e x false | x=>x,L d c,.fn zl159 [.bptr 0 0 0]] [[[I 0]]] ⟨.tup [],[],[bs'],[]⟩:=by
    unfold reals
    cases hq:prs d.length with
    | nil=>exact ev_subgraphs d.length 0 [] true d c _ _ _ _ (calls_count d.length) (.inr rfl) (by simp) (by simp) (by omega) (fun x hx=>by have:=hf.2 x hx;omega) [[I 0]] rfl
    | cons e r =>
      rw [hq] at hin hpl
      exact ev_subgraphs d.length 2 (e::r) false d c _ _ _ _ (calls_count d.length) (.inl rfl) hin hpl (by omega) (fun x hx=>by have:=hf.2 x hx;omega) [[I 0]] rfl
  rw [upTo_true] at k1
  simp only at k1
  subst k1
  have e3:=ev_lim k2
  generalize (reals d).length=m at *
  cases hq:prs d.length with
  | nil =>
    rw [hq] at e2 e3
    simp only [nl2_nil] at e2 e3
    refine call_of_wp zt158 rfl ?_
    repeat (first|apply wp_as|apply wp_ss|refine wr (by simp [e1,e2,e3];with_reducible rfl) ?_|refine wq (by simp [e1,e2,e3];with_reducible rfl) ?_|refine wt (by simpa [e1,e2,e3]) ?_|refine wf (by simpa [e1,e2,e3]) ?_|refine xt (by simpa [e1,e2,e3]) ?_|refine xf (by simpa [e1,e2,e3]) ?_|apply wp_bs|apply wp_b|refine wp_sr ?_|refine wp_sx ?_|refine wp_ret' ?_|refine wp_skip' ?_|refine wp_exit' ?_)
    simp [zi158]
  | cons e r =>
    rw [hq] at e2 e3
    simp only [nl2_cons] at e2 e3
    have hT:(e::r).take (r.length+1)=e::r:=List.take_of_length_le (by simp)
    refine call_of_wp zt158 rfl ?_
    repeat (first|apply wp_as|apply wp_ss|refine wr (by simp [e1,e2,e3,hT];with_reducible rfl) ?_|refine wq (by simp [e1,e2,e3,hT];with_reducible rfl) ?_|refine wt (by simpa [e1,e2,e3,hT]) ?_|refine wf (by simpa [e1,e2,e3,hT]) ?_|refine xt (by simpa [e1,e2,e3,hT]) ?_|refine xf (by simpa [e1,e2,e3,hT]) ?_|apply wp_bs|apply wp_b|refine wp_sr ?_|refine wp_sx ?_|refine wp_ret' ?_|refine wp_skip' ?_|refine wp_exit' ?_)
    simp [zi158]
def srS (n:Nat) (es:List (Int×Int)) (left:List Int):List (Int×Int)→List (List (Int×Int))
  | []=>if left.sum=0 then [es] else []
  | e::r=>(if 0 < left.getD e.1.toNat 0∧0 < left.getD e.2.toNat 0 then srS n (insE e es) (decAt (decAt left e.1.toNat) e.2.toNat) r else []) ++
     (if e.2+1 < n ∨ left.getD e.1.toNat 0=0 then srS n es left r else [])
abbrev GF:=List (List (Int×Int)×Bool)
def glf (n:Int) (R:GF):List (List IV):=R.map fun x=>[I n,L2 x.1 x.2]
@[simp] theorem glf_len (n:Int) (R:GF):(glf n R).length=R.length:=by simp [glf]
@[simp] theorem glf_nil (n:Int):glf n []=[]:=rfl
@[simp] theorem glf_app (n:Int) (R S:GF):glf n R++glf n S=glf n (R++S):=by simp [glf]
@[simp] theorem glf_take (n:Int) (R:GF) (k:Nat):(glf n R).take k=glf n (R.take k):=by simp [glf,List.map_take]
@[simp] theorem glf_all (n:Int) (R:GF):((glf n R).all fun x=>x.all IV.isData)=true:=by
  induction R with
  | nil=>rfl
  | cons x xs ih=>simp only [glf,List.map_cons,List.all_cons] at *;rw [ih];rfl
end Go.Idl
namespace Go.Idl
open Go
theorem fall_valid {d:List Int} (hv:valid d=true):valid (fall d)=true:=by
  have hf:=valid_few hv
  have hm:=valid_mem hv
  rw [valid,Bool.and_eq_true,decide_eq_true_eq,List.all_eq_true,fall_len]
  refine ⟨hf.1,fun x hx=>?_⟩
  have:=hm x (fall_mem.1 hx)
  simp only [Bool.and_eq_true,decide_eq_true_eq]
  exact this
end Go.Idl
namespace Go.Idl
open Go
@[simp] theorem un_neg (n:Int):Op.unary .neg (.int .i64 n)=.pure (.int .i64 (IntKind.i64.wrap (-n))):=by
  rw [← Int.zero_sub];rfl
def gs (r c:List Int) (i:Nat):Int:=-((fall r).take (i+1)).sum+(c.map fun x:Int=>min x ((i:Int)+1)).sum
end Go.Idl
namespace Go.Idl
open Go
def TT (n:Nat) (t:List (List Int)):Prop:=t.length=n∧∀ r ∈ t,r.length=n∧∀ x ∈ r,0≤x∧x≤1
theorem TT.set {n:Nat} {t:List (List Int)} (h:TT n t) {a b:Nat} {v:Int} (ha:a < t.length) (hv:0≤v∧v≤1):TT n (t.set a (t[a].set b v)):=by
  refine ⟨by simpa using h.1,fun r hr=>?_⟩
  have h1:=h.2 _ (List.getElem_mem ha)
  rcases List.mem_or_eq_of_mem_set hr with hr | rfl
  · exact h.2 r hr
  · refine ⟨by simpa using h1.1,fun x hx=>?_⟩
    rcases List.mem_or_eq_of_mem_set hx with hx | rfl
    · exact h1.2 x hx
    · exact hv
end Go.Idl
namespace Go.Idl
open Go
def MM (h w:Nat) (t:List (List Int)):Prop:=t.length=h∧∀ r ∈ t,r.length=w∧∀ x ∈ r,0≤x∧x≤1
theorem am_in (code:List Int) (c:Bool) (hc:CodeOk code) (h w:Nat) (hw:w≤5) (bs:Boxes) (Ms:List Boxes) (t:List (List Int)) (i:Nat) :
    ∀ (m j cnt:Nat) (r:List Int),j+m=w→cnt+m≤90000→r.length=j→(∀ x ∈ r,0≤x∧x≤1) →
    wp tb (.loop z331l9) { T:=[(0,.bptr 0 0 0),(1,I h),(2,I w),(7,OT t),(8,I i),(9,O r),(10,I j)],loc:=[],M:=(R code c cnt::bs)::Ms }
      (fun ex st=>ex=.exit 2∧∃ (r':List Int) (k:Nat),(r'.length=w∧∀ x ∈ r',0≤x∧x≤1)∧k≤cnt+m ∧
        st={ T:=[(0,.bptr 0 0 0),(1,I h),(2,I w),(7,OT t),(8,I i),(9,O r'),(10,I w),(20,Bo false)],loc:=[],M:=(R code c k::bs)::Ms }):=by
  intro m
  induction m with
  | zero =>
    intro j cnt r hj hcn hr h01
    have h3:j=w:=hj
    subst h3
    refine wp_loop ?_
    repeat (first|apply wp_as|apply wp_ss|refine wr (by simp;with_reducible rfl) ?_|refine wq (by simp;with_reducible rfl) ?_|refine wt (by simpa) ?_|refine wf (by simpa) ?_|refine xt (by simpa) ?_|refine xf (by simpa) ?_|apply wp_bs|apply wp_b|refine wp_sr ?_|refine wp_sx ?_|refine wp_ret' ?_|refine wp_skip' ?_|refine wp_exit' ?_)
    exact ⟨rfl,r,cnt,⟨hr,h01⟩,by omega,rfl⟩
  | succ m ih =>
    intro j cnt r hj hcn hr h01
    have hjw:j < w:=by omega
    have w2:IntKind.i64.wrap ((j:Int)+1)=((j+1:Nat):Int):=wrapS (by omega)
    obtain ⟨v,k,hv,hk,e1⟩:=pick' code c hc cnt (by omega) 2 (by omega) bs (Ms++[[]])
    have hv:=hv (by omega)
    have hrl:r.length≤274877906943:=by omega
    have hrt:r.take r.length=r:=List.take_of_length_le (by omega)
    refine wp_loop ?_
    repeat (first|apply wp_as|apply wp_ss|refine wr (by simp [hjw,e1,w2,hrl,hrt];with_reducible rfl) ?_|refine wq (by simp [hjw,e1,w2,hrl,hrt];with_reducible rfl) ?_|refine wt (by simpa [hjw,e1,w2,hrl,hrt]) ?_|refine wf (by simpa [hjw,e1,w2,hrl,hrt]) ?_|refine xt (by simpa [hjw,e1,w2,hrl,hrt]) ?_|refine xf (by simpa [hjw,e1,w2,hrl,hrt]) ?_|apply wp_bs|apply wp_b|refine wp_sr ?_|refine wp_sx ?_|refine wp_ret' ?_|refine wp_skip' ?_|refine wp_exit' ?_)
    refine wp_imp (ih (j+1) k (r++[(v:Int)]) (by omega) (by omega) (by simp [hr]) (fun x hx=>?_)) ?_
    · rcases List.mem_append.1 hx with hx | hx
      · exact h01 x hx
      · simp at hx;omega
    · rintro ex st ⟨rfl,r',k',h1,h2,rfl⟩
      exact ⟨rfl,r',k',h1,by omega,rfl⟩
theorem am_out (code:List Int) (c:Bool) (hc:CodeOk code) (h w:Nat) (hh:h≤5) (hw:w≤5) (bs:Boxes) (Ms:List Boxes) :
    ∀ (m i cnt:Nat) (t:List (List Int)),i+m=h→cnt+5 * m≤90000→MM i w t →
    wp tb (.loop z331l12) { T:=[(0,.bptr 0 0 0),(1,I h),(2,I w),(7,OT t),(8,I i)],loc:=[],M:=(R code c cnt::bs)::Ms }
      (fun ex st=>ex=.exit 0∧∃ (t':List (List Int)) (k:Nat),MM h w t'∧k≤cnt+5 * m ∧
        st={ T:=[(0,.bptr 0 0 0),(1,I h),(2,I w),(7,OT t'),(8,I h),(14,Bo false)],loc:=[],M:=(R code c k::bs)::Ms }):=by
  intro m
  induction m with
  | zero =>
    intro i cnt t hi hcn ht
    have h3:i=h:=hi
    subst h3
    refine wp_loop ?_
    repeat (first|apply wp_as|apply wp_ss|refine wr (by simp;with_reducible rfl) ?_|refine wq (by simp;with_reducible rfl) ?_|refine wt (by simpa) ?_|refine wf (by simpa) ?_|refine xt (by simpa) ?_|refine xf (by simpa) ?_|apply wp_bs|apply wp_b|refine wp_sr ?_|refine wp_sx ?_|refine wp_ret' ?_|refine wp_skip' ?_|refine wp_exit' ?_)
    exact ⟨rfl,t,cnt,ht,by omega,rfl⟩
  | succ m ih =>
    intro i cnt t hi hcn ht
    have hih:i < h:=by omega
    have w2:IntKind.i64.wrap ((i:Int)+1)=((i+1:Nat):Int):=wrapS (by omega)
    refine wp_loop ?_
    repeat (first|apply wp_as|apply wp_ss|refine wr (by simp [hih];with_reducible rfl) ?_|refine wq (by simp [hih];with_reducible rfl) ?_|refine wt (by simpa [hih]) ?_|refine wf (by simpa [hih]) ?_|refine xt (by simpa [hih]) ?_|refine xf (by simpa [hih]) ?_|apply wp_bs|apply wp_b|refine wp_sr ?_|refine wp_sx ?_|refine wp_ret' ?_|refine wp_skip' ?_|refine wp_exit' ?_)
    have hin:=am_in code c hc h w hw bs Ms t i w 0 cnt [] (by omega) (by omega) rfl (by simp)
    rw [show ((0:Nat):Int)=0 from rfl] at hin
    refine wp_imp hin ?_
    rintro ex st ⟨rfl,r',k',h1,h2,rfl⟩
    simp only [if_true]
    have htl:=ht.1
    have htt:t.length≤274877906943:=by omega
    have hto:t.take t.length=t:=List.take_of_length_le (by omega)
    repeat (first|apply wp_as|apply wp_ss|refine wr (by simp [w2,htt,hto];with_reducible rfl) ?_|refine wq (by simp [w2,htt,hto];with_reducible rfl) ?_|refine wt (by simpa [w2,htt,hto]) ?_|refine wf (by simpa [w2,htt,hto]) ?_|refine xt (by simpa [w2,htt,hto]) ?_|refine xf (by simpa [w2,htt,hto]) ?_|apply wp_bs|apply wp_b|refine wp_sr ?_|refine wp_sx ?_|refine wp_ret' ?_|refine wp_skip' ?_|refine wp_exit' ?_)
    refine wp_imp (ih (i+1) k' (t++[r']) (by omega) (by omega) ⟨by simp [htl],fun r hr=>?_⟩) ?_
    · rcases List.mem_append.1 hr with hr | hr
      · exact ht.2 r hr
      · simp at hr;subst hr;exact h1
    · rintro ex st ⟨rfl,t'',k'',h3,h4,rfl⟩
      exact ⟨rfl,t'',k'',h3,by omega,rfl⟩
theorem ev_aMatrix (code:List Int) (c:Bool) (hc:CodeOk code) (cnt:Nat) (hn:cnt≤80000) (h w:Nat) (hh:h≤5) (hw:w≤5) (bs:Boxes) (Ms:List Boxes) :
    ∃ (t:List (List Int)) (k:Nat),MM h w t∧k≤cnt+25 ∧
      limF tb zl331 [] [.bptr 0 0 0,I h,I w] ((R code c cnt::bs)::Ms)=some ⟨OT t,[],(R code c k::bs)::Ms,[]⟩:=by
  suffices h:∃ r,(∃ (t:List (List Int)) (k:Nat),MM h w t∧k≤cnt+25∧r=⟨OT t,[],(R code c k::bs)::Ms,[]⟩)∧Ev tb zl331 [] [.bptr 0 0 0,I h,I w] ((R code c cnt::bs)::Ms) r by
    obtain ⟨r,⟨t,k,h1,h2,rfl⟩,h⟩:=h
    exact ⟨t,k,h1,h2,ev_lim h⟩
  refine call_ex zt331 rfl ?_
  repeat (first|apply wp_as|apply wp_ss|refine wr (by simp;with_reducible rfl) ?_|refine wq (by simp;with_reducible rfl) ?_|refine wt (by simpa) ?_|refine wf (by simpa) ?_|refine xt (by simpa) ?_|refine xf (by simpa) ?_|apply wp_bs|apply wp_b|refine wp_sr ?_|refine wp_sx ?_|refine wp_ret' ?_|refine wp_skip' ?_|refine wp_exit' ?_)
  have hin:=am_out code c hc h w hh hw bs Ms h 0 cnt [] (by omega) (by omega) ⟨rfl,by simp⟩
  rw [show ((0:Nat):Int)=0 from rfl] at hin
  refine wp_imp hin ?_
  rintro ex st ⟨rfl,t',k',h1,h2,rfl⟩
  simp only [if_true]
  repeat (first|apply wp_as|apply wp_ss|refine wr (by simp;with_reducible rfl) ?_|refine wq (by simp;with_reducible rfl) ?_|refine wt (by simpa) ?_|refine wf (by simpa) ?_|refine xt (by simpa) ?_|refine xf (by simpa) ?_|apply wp_bs|apply wp_b|refine wp_sr ?_|refine wp_sx ?_|refine wp_ret' ?_|refine wp_skip' ?_|refine wp_exit' ?_)
  exact ⟨.inr rfl,_,⟨t',k',h1,by omega,rfl⟩,by simp [zi331]⟩
end Go.Idl
namespace Go.Idl
open Go
theorem MM.few {h w:Nat} {t:List (List Int)} (ht:MM h w t) (hw:w≤5):∀ r ∈ t,Few r:=fun r hr=>⟨by have:=(ht.2 r hr).1;omega,fun x hx=>by have:=(ht.2 r hr).2 x hx;omega⟩
theorem MM.sums {h w:Nat} {t:List (List Int)} (ht:MM h w t) (hw:w≤5):∀ x ∈ t.map List.sum,0≤x∧x≤5:=by
  intro x hx
  obtain ⟨r,hr,rfl⟩:=List.mem_map.1 hx
  have h1:=ht.2 r hr
  have:=sum01 r h1.2
  omega
end Go.Idl
namespace Go.Idl
open Go
def durfA:List Int→Nat→Nat→Nat
  | [],_,k=>k
  | x::q,i,k=>durfA q (i+1) (if (i:Int)≤x then i+1 else k)
def durf (s:List Int):Nat:=durfA s 0 0
theorem durfA_le (B:Nat):∀ (s:List Int) (i k:Nat),k≤B→i+s.length≤B→durfA s i k≤B
  | [],_,_,h,_=>h
  | x::q,i,k,h,hb=>by
    simp only [List.length_cons] at hb
    rw [durfA]
    refine durfA_le B q _ _ ?_ (by omega)
    split <;> omega
theorem durfA_ge:∀ (s:List Int) (i k:Nat),1≤k→1≤durfA s i k
  | [],_,_,h=>h
  | x::q,i,k,h=>by
    rw [durfA]
    refine durfA_ge q _ _ ?_
    split <;> omega
theorem durf_le (s:List Int):durf s≤s.length:=durfA_le _ s 0 0 (by omega) (by omega)
theorem durf_ge {s:List Int} (h:s ≠ []) (h0:∀ x ∈ s,0≤x):1≤durf s:=by
  cases s with
  | nil=>exact absurd rfl h
  | cons x q =>
    have:=h0 x (by simp)
    simp only [durf,durfA]
    refine durfA_ge q _ _ ?_
    rw [if_pos (by simpa using this)]
    omega
theorem ev_DurfeeOf (d:List Int) (c:Bool) (hv:valid d=true):Ev tb zl164 [] [L d c] [] ⟨I (durf (fall d)),[],[],[]⟩:=by
  have hl:=(valid_few hv).1
  have e1:=ev_lim (ev_SortDegrees d c hv)
  have hfl:=fall_len d
  generalize fall d=s at *
  have loop:∀ (m i k:Nat),i+m=s.length→k≤i→wp tb (.loop z164l8) { T:=[(3,I k),(7,O s),(8,I s.length),(9,I i)],loc:=[],M:=[] }
      (fun ex st=>ex=.exit 0∧st={ T:=[(3,I (durfA (s.drop i) i k)),(7,O s),(8,I s.length),(9,I s.length),(10,Bo false)],loc:=[],M:=[] }):=by
    intro m
    induction m with
    | zero =>
      intro i k hi hk
      obtain ⟨h1,h2⟩:=drop_end hi
      have h3:i=s.length:=hi
      subst h3
      refine wp_loop ?_
      repeat (first|apply wp_as|apply wp_ss|refine wr (by simp;with_reducible rfl) ?_|refine wq (by simp;with_reducible rfl) ?_|refine wt (by simpa) ?_|refine wf (by simpa) ?_|refine xt (by simpa) ?_|refine xf (by simpa) ?_|apply wp_bs|apply wp_b|refine wp_sr ?_|refine wp_sx ?_|refine wp_ret' ?_|refine wp_skip' ?_|refine wp_exit' ?_)
      rw [h2];exact ⟨rfl,rfl⟩
    | succ m ih =>
      intro i k hi hk
      obtain ⟨hi2,h2,h3⟩:=drop_get hi
      have w2:IntKind.i64.wrap ((i:Int)+1)=((i+1:Nat):Int):=wrapS (by omega)
      rw [h2,durfA]
      by_cases hq:(i:Int)≤s[i]
      · rw [if_pos hq]
        refine wp_loop ?_
        repeat (first|apply wp_as|apply wp_ss|refine wr (by simp [hi2,hq,w2];with_reducible rfl) ?_|refine wq (by simp [hi2,hq,w2];with_reducible rfl) ?_|refine wt (by simpa [hi2,hq,w2]) ?_|refine wf (by simpa [hi2,hq,w2]) ?_|refine xt (by simpa [hi2,hq,w2]) ?_|refine xf (by simpa [hi2,hq,w2]) ?_|apply wp_bs|apply wp_b|refine wp_sr ?_|refine wp_sx ?_|refine wp_ret' ?_|refine wp_skip' ?_|refine wp_exit' ?_)
        exact ih (i+1) (i+1) (by omega) (by omega)
      · rw [if_neg hq]
        refine wp_loop ?_
        repeat (first|apply wp_as|apply wp_ss|refine wr (by simp [hi2,hq,w2];with_reducible rfl) ?_|refine wq (by simp [hi2,hq,w2];with_reducible rfl) ?_|refine wt (by simpa [hi2,hq,w2]) ?_|refine wf (by simpa [hi2,hq,w2]) ?_|refine xt (by simpa [hi2,hq,w2]) ?_|refine xf (by simpa [hi2,hq,w2]) ?_|apply wp_bs|apply wp_b|refine wp_sr ?_|refine wp_sx ?_|refine wp_ret' ?_|refine wp_skip' ?_|refine wp_exit' ?_)
        exact ih (i+1) k (by omega) (by omega)
  refine call_of_wp zt164 rfl ?_
  repeat (first|apply wp_as|apply wp_ss|refine wr (by simp [e1];with_reducible rfl) ?_|refine wq (by simp [e1];with_reducible rfl) ?_|refine wt (by simpa [e1]) ?_|refine wf (by simpa [e1]) ?_|refine xt (by simpa [e1]) ?_|refine xf (by simpa [e1]) ?_|apply wp_bs|apply wp_b|refine wp_sr ?_|refine wp_sx ?_|refine wp_ret' ?_|refine wp_skip' ?_|refine wp_exit' ?_)
  refine wp_imp (loop s.length 0 0 (by simp) (by omega)) ?_
  rintro ex st ⟨rfl,rfl⟩
  try simp only [if_true]
  repeat (first|apply wp_as|apply wp_ss|refine wr (by simp;with_reducible rfl) ?_|refine wq (by simp;with_reducible rfl) ?_|refine wt (by simpa) ?_|refine wf (by simpa) ?_|refine xt (by simpa) ?_|refine xf (by simpa) ?_|apply wp_bs|apply wp_b|refine wp_sr ?_|refine wp_sx ?_|refine wp_ret' ?_|refine wp_skip' ?_|refine wp_exit' ?_)
  simp [zi164,durf]
def splitt (d:List Int):Int:=if graphic d then (if d.length=0 then 0 else ((slacks d).getD (durf (fall d) - 1) 0).tdiv 2) else -1
theorem ev_SplittanceOf (d:List Int) (c:Bool) (hl:d.length≤2000000):Ev tb zl197 [] [L d c] [] ⟨I (splitt d),[],[],[]⟩:=by
  have e1:=ev_lim (ev_IsGraphic d c hl)
  cases hg:graphic d with
  | false =>
    refine call_of_wp zt197 rfl ?_
    repeat (first|apply wp_as|apply wp_ss|refine wr (by simp [e1,hg];with_reducible rfl) ?_|refine wq (by simp [e1,hg];with_reducible rfl) ?_|refine wt (by simpa [e1,hg]) ?_|refine wf (by simpa [e1,hg]) ?_|refine xt (by simpa [e1,hg]) ?_|refine xf (by simpa [e1,hg]) ?_|apply wp_bs|apply wp_b|refine wp_sr ?_|refine wp_sx ?_|refine wp_ret' ?_|refine wp_skip' ?_|refine wp_exit' ?_)
    simp [zi197,splitt,hg]
  | true =>
  by_cases h0:d.length=0
  · refine call_of_wp zt197 rfl ?_
    repeat (first|apply wp_as|apply wp_ss|refine wr (by simp [e1,hg,h0];with_reducible rfl) ?_|refine wq (by simp [e1,hg,h0];with_reducible rfl) ?_|refine wt (by simpa [e1,hg,h0]) ?_|refine wf (by simpa [e1,hg,h0]) ?_|refine xt (by simpa [e1,hg,h0]) ?_|refine xf (by simpa [e1,hg,h0]) ?_|apply wp_bs|apply wp_b|refine wp_sr ?_|refine wp_sx ?_|refine wp_ret' ?_|refine wp_skip' ?_|refine wp_exit' ?_)
    simp [zi197,splitt,hg,h0]
  have hv:valid d=true:=by simp only [graphic,Bool.and_eq_true] at hg;exact hg.1.1
  have hf:=valid_few hv
  have e2:=ev_lim (ev_SlacksOf d c hv)
  have e3:=ev_lim (ev_DurfeeOf d c hv)
  have hd1:=durf_le (fall d)
  have hd2:1≤durf (fall d):=durf_ge (fun h=>h0 (by rw [← fall_len,h];rfl)) (fun x hx=>(hf.fall.2 x hx).1)
  rw [fall_len] at hd1
  have hsl:=slacks_len d
  have hb:∀ x ∈ slacks d,-100≤x∧x≤200:=by
    intro x hx
    simp only [slacks,List.mem_map,List.mem_range] at hx
    obtain ⟨i,hi,rfl⟩:=hx
    exact slk_bound (by have:=hf.1;omega) hf.fall.1 hf.fall.2
  obtain ⟨k,hk⟩:∃ k,durf (fall d)=k+1:=⟨durf (fall d) - 1,by omega⟩
  have w1:IntKind.i64.wrap (k:Int)=(k:Int):=wrap64 (by omega) (by omega)
  have hk2:k < (slacks d).length:=by omega
  have hx:=hb _ (List.getElem_mem hk2)
  have hnn:0≤(slacks d)[k]:=by
    have hg2:=hg
    simp only [graphic,Bool.and_eq_true,List.all_eq_true,decide_eq_true_eq] at hg2
    exact hg2.2 _ (List.getElem_mem hk2)
  have w2:IntKind.i64.wrap (((slacks d)[k]).tdiv 2)=((slacks d)[k]).tdiv 2:=by
    rw [Int.tdiv_eq_ediv_of_nonneg hnn];exact wrap64 (by omega) (by omega)
  have hs:splitt d=((slacks d)[k]).tdiv 2:=by
    rw [splitt,hg,hk,Nat.add_sub_cancel]
    simp only [if_true,h0,if_false,List.getD_eq_getElem?_getD,List.getElem?_eq_getElem hk2,Option.getD_some]
  rw [hk] at e3
  refine call_of_wp zt197 rfl ?_
  repeat (first|apply wp_as|apply wp_ss|refine wr (by simp [e1,hg,h0,e2,e3,w1,hk2,w2];with_reducible rfl) ?_|refine wq (by simp [e1,hg,h0,e2,e3,w1,hk2,w2];with_reducible rfl) ?_|refine wt (by simpa [e1,hg,h0,e2,e3,w1,hk2,w2]) ?_|refine wf (by simpa [e1,hg,h0,e2,e3,w1,hk2,w2]) ?_|refine xt (by simpa [e1,hg,h0,e2,e3,w1,hk2,w2]) ?_|refine xf (by simpa [e1,hg,h0,e2,e3,w1,hk2,w2]) ?_|apply wp_bs|apply wp_b|refine wp_sr ?_|refine wp_sx ?_|refine wp_ret' ?_|refine wp_skip' ?_|refine wp_exit' ?_)
  simp [zi197,hs]
theorem ev_IsSplit (d:List Int) (c:Bool) (hl:d.length≤2000000):Ev tb zl186 [] [L d c] [] ⟨Bo (decide (splitt d=0)),[],[],[]⟩:=by
  have e1:=ev_lim (ev_SplittanceOf d c hl)
  refine call_of_wp zt186 rfl ?_
  repeat (first|apply wp_as|apply wp_ss|refine wr (by simp [e1];with_reducible rfl) ?_|refine wq (by simp [e1];with_reducible rfl) ?_|refine wt (by simpa [e1]) ?_|refine wf (by simpa [e1]) ?_|refine xt (by simpa [e1]) ?_|refine xf (by simpa [e1]) ?_|apply wp_bs|apply wp_b|refine wp_sr ?_|refine wp_sx ?_|refine wp_ret' ?_|refine wp_skip' ?_|refine wp_exit' ?_)
  simp [zi186]
  rfl
end Go.Idl
namespace Go.Idl
open Go
theorem low_degs {n:Nat} {es:List (Int×Int)} (h:es.length≤100):Low 1000 (degs n es):=by
  intro x hx
  have:=dfold_bound es (List.replicate n 0) 0 (by intro x hx;have:=List.eq_of_mem_replicate hx;omega) (by omega) x hx
  omega
end Go.Idl
namespace Go.Idl
def insP (x:Nat×Nat):List (Nat×Nat)→List (Nat×Nat)
  | []=>[x]
  | y::r=>if Nat.ble y.1 x.1 then x::y::r else y::insP x r
def hh:Nat→List (Nat×Nat)→List (Nat×Nat)
  | 0,_=>[]
  | _+1,[]=>[]
  | m+1,x::r=>(r.take x.1).map (fun y:Nat×Nat=>(x.2,y.2))++hh m ((((r.take x.1).map (fun y:Nat×Nat=>(y.1 - 1,y.2))++r.drop x.1:List (Nat×Nat))).foldr insP [])
theorem getD_zero_all {left:List Int} {N:Nat} (hl:left.length=N):left.all (fun x=>decide (x=0))=true ↔ ∀ v,v < N→(0:Int)=left.getD v 0:=by
  rw [List.all_eq_true]
  constructor
  · intro h v hv
    rw [List.getD_eq_getElem?_getD,List.getElem?_eq_getElem (by omega)]
    have:=of_decide_eq_true (h _ (List.getElem_mem (show v < left.length by omega)))
    simp [this]
  · intro h x hx
    obtain ⟨v,hv,rfl⟩:=List.getElem_of_mem hx
    have:=h v (by omega)
    rw [List.getD_eq_getElem?_getD,List.getElem?_eq_getElem hv] at this
    simpa using this.symm
theorem decAt_get {o:List Int} {i v:Nat} (hv:v < o.length):(decAt o i).getD v 0=o.getD v 0 - (if i=v then 1 else 0):=by
  rw [decAt,List.getD_eq_getElem?_getD,List.getElem?_set]
  by_cases h:i=v
  · subst h;simp [hv,List.getD_eq_getElem?_getD]
  · simp [h,List.getD_eq_getElem?_getD]
theorem inc_nonneg (v:Nat) (e:Int×Int):0≤inc v e:=by simp only [inc];split <;> split <;> decide
theorem mem_subs {N:Nat}:∀ (r:List (Int×Int)) (left:List Int) (ch g:List (Int×Int)),(∀ e ∈ r,0≤e.1∧e.1 < e.2∧e.2 < N)→left.length=N →
    (g ∈ subs r left ch ↔ ∃ s:List (Int×Int),s.Sublist r∧g=ch++s∧∀ v,v < N→deg s v=left.getD v 0)
  | [],left,ch,g,_,hl=>by
    rw [subs]
    constructor
    · intro h
      split at h
      · rename_i hz
        simp at h
        subst h
        exact ⟨[],List.Sublist.refl _,by simp,fun v hv=>(getD_zero_all hl).1 hz v hv⟩
      · simp at h
    · rintro ⟨s,hs,rfl,hd⟩
      have:s=[]:=by simpa using hs
      subst this
      rw [if_pos ((getD_zero_all hl).2 fun v hv=>hd v hv)]
      simp
  | e::r,left,ch,g,hr,hl=>by
    have he:=hr e (by simp)
    have hr':∀ x ∈ r,0≤x.1∧x.1 < x.2∧x.2 < N:=fun x hx=>hr x (by simp [hx])
    have hdl:(decAt (decAt left e.1.toNat) e.2.toNat).length=N:=by simp [decAt,hl]
    have hget:∀ v,v < N→(decAt (decAt left e.1.toNat) e.2.toNat).getD v 0=left.getD v 0 - inc v e:=fun v hv=>by
      rw [decAt_get (by simp [decAt];omega),decAt_get (by omega),inc]
      have c1:(e.1.toNat=v)=(e.1=(v:Int)):=by rw [eq_iff_iff];omega
      have c2:(e.2.toNat=v)=(e.2=(v:Int)):=by rw [eq_iff_iff];omega
      simp only [c1,c2];omega
    rw [subs,List.mem_append]
    constructor
    · rintro (h | h)
      · split at h
        rotate_left
        · simp at h
        obtain ⟨s,hs,rfl,hd⟩:=(mem_subs r _ _ g hr' hdl).1 h
        refine ⟨e::s,hs.cons_cons e,by simp,fun v hv=>?_⟩
        have h1:=hd v hv
        rw [hget v hv] at h1
        rw [deg,S_cons]
        have h2:S s (inc v)=left.getD v 0 - inc v e:=h1
        rw [h2];omega
      · obtain ⟨s,hs,rfl,hd⟩:=(mem_subs r _ _ g hr' hl).1 h
        exact ⟨s,hs.cons e,rfl,hd⟩
    · rintro ⟨s,hs,rfl,hd⟩
      rcases List.sublist_cons_iff.1 hs with hs2 | ⟨s',rfl,hs2⟩
      · exact .inr ((mem_subs r _ _ _ hr' hl).2 ⟨s,hs2,rfl,hd⟩)
      · refine .inl ?_
        have hd':∀ v,v < N→inc v e+deg s' v=left.getD v 0:=fun v hv=>by
          rw [← hd v hv,deg,deg,S_cons]
        have pos:∀ x:Int,0≤x→x < N→(e.1=x ∨ e.2=x)→0 < left.getD x.toNat 0:=fun x h0 h1 h2=>by
          have h3:=hd' x.toNat (by omega)
          have h4:0≤deg s' x.toNat:=S_nonneg fun y _=>inc_nonneg _ y
          have h5:1≤inc x.toNat e:=by
            simp only [inc,show ((x.toNat:Nat):Int)=x by omega]
            rcases h2 with h2 | h2
            · rw [if_pos h2];split <;> decide
            · rw [if_pos h2];split <;> decide
          omega
        rw [if_pos ⟨pos e.1 (by omega) (by omega) (.inl rfl),pos e.2 (by omega) (by omega) (.inr rfl)⟩]
        refine (mem_subs r _ _ _ hr' hdl).2 ⟨s',hs2,by simp,fun v hv=>?_⟩
        rw [hget v hv,← hd' v hv];omega
theorem ite_iff {α:Type} {p q:Prop} [Decidable p] [Decidable q] (h:p ↔ q) (a b:α):(if p then a else b)=if q then a else b:=by
  by_cases hp:p
  · rw [if_pos hp,if_pos (h.1 hp)]
  · rw [if_neg hp,if_neg fun hq=>hp (h.2 hq)]
def mk (u v:Nat):Int×Int:=(min (u:Int) v,max (u:Int) v)
theorem inc_mk_all:(List.range 8).all (fun n=>(prs n).all fun e=>(List.range n).all fun v=>decide (inc v e=S (List.range n) (fun u=>if u=v then 0 else if e=mk u v then 1 else 0)))=true:=by decide +kernel
theorem inc_mk {n:Nat} (hn:n≤7) {e:Int×Int} (he:e ∈ prs n) {v:Nat} (hv:v < n):inc v e=S (List.range n) (fun u=>if u=v then 0 else if e=mk u v then 1 else 0):=by
  have:=List.all_eq_true.1 (List.all_eq_true.1 (List.all_eq_true.1 inc_mk_all n (List.mem_range.2 (by omega))) e he) v (List.mem_range.2 hv)
  exact of_decide_eq_true this
theorem S_ite {α:Type} (l:List α) (p:α→Bool) (f:α→Int):S (l.filter p) f=S l (fun a=>if p a then f a else 0):=by
  induction l with
  | nil=>rfl
  | cons a l ih =>
    rw [List.filter_cons,S_cons]
    split <;> rename_i h
    · rw [S_cons,ih]
    · rw [ih];omega
theorem mk_mem {n u v:Nat} (hu:u < n) (hv:v < n) (h:u ≠ v):mk u v ∈ prs n:=mem_prs.2 (by simp only [mk];omega)
theorem deg_filter {n:Nat} (hn:n≤7) (p:Int×Int→Bool) {v:Nat} (hv:v < n):deg ((prs n).filter p) v=S (List.range n) (fun u=>if u=v then 0 else if p (mk u v) then 1 else 0):=by
  rw [deg,S_ite,S_congr (g:=fun e=>S (List.range n) (fun u=>if u=v then 0 else if e=mk u v then (if p (mk u v) then 1 else 0) else 0)) fun e he=>?_,S_swap]
  · refine S_congr fun u hu=>?_
    have hu:=List.mem_range.1 hu
    by_cases huv:u=v
    · simp only [huv,if_true];exact S_zero _
    · simp only [if_neg huv]
      have hm:=mk_mem hu hv huv
      have h1:=S_one (pw_nodup (prs_pw n)) (mk u v)
      rw [if_pos hm] at h1
      by_cases hp:p (mk u v)=true
      · simp only [hp,if_true]
        exact Eq.trans (S_congr fun e _=>ite_iff eq_comm _ _) h1
      · simp only [if_neg hp,ite_self];exact S_zero _
  · rw [inc_mk hn he hv]
    by_cases hp:p e=true
    · rw [if_pos hp]
      refine S_congr fun u _=>?_
      by_cases huv:u=v
      · simp [huv]
      · simp only [if_neg huv]
        by_cases hem:e=mk u v
        · rw [if_pos hem,if_pos hem,← hem,if_pos hp]
        · rw [if_neg hem,if_neg hem]
    · rw [if_neg hp]
      symm
      rw [S_congr (g:=fun _=>0),S_zero]
      intro u _
      by_cases huv:u=v
      · simp [huv]
      · simp only [if_neg huv]
        by_cases hem:e=mk u v
        · rw [if_pos hem,← hem,if_neg hp]
        · rw [if_neg hem]
theorem mk_comm (u v:Nat):mk u v=mk v u:=Prod.ext (by simp only [mk];omega) (by simp only [mk];omega)
end Go.Idl
namespace Go.Idl
theorem deg_degs {n:Nat} {s:List (Int×Int)} (hs:s.Sublist (prs n)) {d:List Int} (hl:d.length=n):(∀ v,v < n→deg s v=d.getD v 0) ↔ degs n s=d:=by
  rw [degs_eq (prs_in hs)]
  constructor
  · intro h
    refine List.ext_getElem (by simp [hl]) fun v h1 h2=>?_
    rw [List.getElem_map,List.getElem_range,h v (by omega),List.getD_eq_getElem?_getD,List.getElem?_eq_getElem h2];rfl
  · intro h v hv
    rw [← h,List.getD_eq_getElem?_getD,List.getElem?_map,List.getElem?_range hv];rfl
theorem mem_reals {d:List Int} (h7:d.length≤7) (g:List (Int×Int)):g ∈ reals d ↔ vGraph d.length g=true∧degs d.length g=d:=by
  rw [reals,mem_subs (N:=d.length) _ _ _ _ (fun e he=>mem_prs.1 he) rfl]
  constructor
  · rintro ⟨s,hs,rfl,hd⟩
    exact ⟨vG_iff.2 ⟨(prs_pw _).sublist hs,fun e he=>hs.mem he,h7⟩,(deg_degs hs rfl).1 hd⟩
  · rintro ⟨h1,h2⟩
    exact ⟨g,vG_sub h1,rfl,(deg_degs (vG_sub h1) rfl).2 h2⟩
end Go.Idl
namespace Go.Idl
structure Seg {α:Type} (X X':List α) (a b:Nat):Prop where
  perm:X'.Perm X
  out:∀ k,k < a ∨ b≤k→X'[k]? = X[k]?
theorem Seg.len {α:Type} {X X':List α} {a b:Nat} (h:Seg X X' a b):X'.length=X.length:=h.perm.length_eq
theorem Seg.refl {α:Type} (X:List α) (a b:Nat):Seg X X a b:=⟨.refl _,fun _ _=>rfl⟩
theorem Seg.trans {α:Type} {X Y Z:List α} {a b:Nat} (h:Seg X Y a b) (k:Seg Y Z a b):Seg X Z a b:=⟨k.perm.trans h.perm,fun i hi=>(k.out i hi).trans (h.out i hi)⟩
theorem Seg.mono {α:Type} {X Y:List α} {a b a' b':Nat} (h:Seg X Y a b) (h1:a'≤a) (h2:b≤b'):Seg X Y a' b':=⟨h.perm,fun i hi=>h.out i (by omega)⟩
theorem Seg.nodup {α:Type} {X Y:List α} {a b:Nat} (h:Seg X Y a b) (hn:X.Nodup):Y.Nodup:=h.perm.nodup_iff.2 hn
def swapL {α:Type} (X:List α) (i j:Nat) (hi:i < X.length) (hj:j < X.length):List α:=(X.set i X[j]).set j X[i]
theorem swapL_len {α:Type} (X:List α) (i j:Nat) (hi hj):(swapL X i j hi hj).length=X.length:=by simp [swapL]
theorem swapL_get {α:Type} (X:List α) (i j:Nat) (hi:i < X.length) (hj:j < X.length) (k:Nat):(swapL X i j hi hj)[k]? = if k=j then some X[i] else if k=i then some X[j] else X[k]?:=by
  rw [swapL,List.getElem?_set,List.getElem?_set]
  by_cases h1:k=j
  · subst h1;simp [hj]
  · by_cases h2:k=i
    · subst h2;simp [hi,h1,Ne.symm h1]
    · simp [h1,h2,Ne.symm h1,Ne.symm h2]
theorem swapL_perm {α:Type} (X:List α) (i j:Nat) (hi:i < X.length) (hj:j < X.length):(swapL X i j hi hj).Perm X:=by
  exact List.set_set_perm hi hj
theorem swapL_seg {α:Type} (X:List α) (i j a b:Nat) (hi:i < X.length) (hj:j < X.length) (h1:a≤i∧i < b) (h2:a≤j∧j < b):Seg X (swapL X i j hi hj) a b :=
  ⟨swapL_perm X i j hi hj,fun k hk=>by rw [swapL_get,if_neg (by omega),if_neg (by omega)]⟩
theorem Seg.back {α:Type} {X Y:List α} {a b:Nat} (h:Seg X Y a b) (hn:X.Nodup) {k:Nat} (hk:a≤k∧k < b) {e:α} (he:Y[k]? = some e):∃ l,(a≤l∧l < b)∧X[l]? = some e:=by
  have hm:e ∈ X:=h.perm.mem_iff.1 (List.mem_of_getElem? he)
  obtain ⟨l,hl,rfl⟩:=List.getElem_of_mem hm
  by_cases hlb:a≤l∧l < b
  · exact ⟨l,hlb,List.getElem?_eq_getElem hl⟩
  · have h1:=h.out l (by omega)
    rw [List.getElem?_eq_getElem hl] at h1
    have hny:=h.nodup hn
    have hkl:k < Y.length:=(List.getElem?_eq_some_iff.1 he).1
    have hll:l < Y.length:=by rw [h.len];exact hl
    have h2:=(List.getElem?_eq_some_iff.1 he).2
    have h3:=(List.getElem?_eq_some_iff.1 h1).2
    have h4:k=l:=(List.getElem_inj hny).1 (h2.trans h3.symm)
    omega
end Go.Idl
namespace Go.Idl
open Go
def BelowOn (X:List (Int×Int)) (lo hi:Nat) (x:Int×Int):Prop:=∀ k e,lo≤k→k < hi→X[k]? = some e→below e x=true
def AboveOn (X:List (Int×Int)) (lo hi:Nat) (x:Int×Int):Prop:=∀ k e,lo≤k→k < hi→X[k]? = some e→below e x=false
theorem AboveOn.cons {X:List (Int×Int)} {lo hi:Nat} {x:Int×Int} (h:AboveOn X (lo+1) hi x) (hl:lo < X.length) (hb:below X[lo] x=false):AboveOn X lo hi x:=fun k e h1 h2 he=>by
  by_cases hk:k=lo
  · subst hk
    rw [List.getElem?_eq_getElem hl] at he
    cases he;exact hb
  · exact h k e (by omega) h2 he
structure PInv (X0 X:List (Int×Int)) (a b i j:Nat) (x:Int×Int):Prop where
  seg:Seg X0 X a b
  piv:X[a]? = some x
  lo:BelowOn X (a+1) i x
  hi:AboveOn X (j+1) b x
  ai:a+1≤i
  ij:i≤j+1
  jb:j < b
  bl:b≤X.length
theorem PInv.al {X0 X a b i j x} (h:PInv X0 X a b i j x):a < X.length:=(List.getElem?_eq_some_iff.1 h.piv).1
theorem PInv.xa {X0 X a b i j x} (h:PInv X0 X a b i j x):X[a]'h.al=x:=(List.getElem?_eq_some_iff.1 h.piv).2
theorem PInv.swap {X0 X a b i j x} (h:PInv X0 X a b i j x) (hi:i < X.length) (hj:j < X.length) (hij:i≤j) (h1:below X[i] x=false) (h2:below X[j] x=true) :
    ∃ q,j=q+1∧i < j∧PInv X0 (swapL X i j hi hj) a b (i+1) q x:=by
  have hne:i ≠ j:=by rintro rfl;rw [h1] at h2;cases h2
  have hb:=h.bl
  have hjb:=h.jb
  have hai:=h.ai
  refine ⟨j - 1,by omega,by omega,h.seg.trans (swapL_seg X i j a b hi hj (by omega) (by omega)),?_,?_,?_,by omega,by omega,by omega,by rw [swapL_len];exact hb⟩
  · rw [swapL_get,if_neg (by omega),if_neg (by omega)];exact h.piv
  · intro k e k1 k2 he
    rw [swapL_get,if_neg (by omega)] at he
    by_cases hk:k=i
    · rw [if_pos hk] at he
      cases he;exact h2
    · rw [if_neg hk] at he
      exact h.lo k e k1 (by omega) he
  · intro k e k1 k2 he
    rw [swapL_get] at he
    by_cases hk:k=j
    · rw [if_pos hk] at he
      cases he;exact h1
    · rw [if_neg hk,if_neg (by omega)] at he
      exact h.hi k e (by omega) k2 he
theorem PInv.fin {X0 X a b j x} (h:PInv X0 X a b (j+1) j x) (hj:j < X.length):Seg X0 (swapL X j a hj h.al) a b∧(swapL X j a hj h.al)[j]? = some x∧BelowOn (swapL X j a hj h.al) a j x∧AboveOn (swapL X j a hj h.al) (j+1) b x:=by
  have hb:=h.bl
  have hjb:=h.jb
  have hai:=h.ai
  have hxa:=h.xa
  refine ⟨h.seg.trans (swapL_seg X j a a b hj h.al (by omega) (by omega)),?_,fun k e k1 k2 he=>?_,fun k e k1 k2 he=>?_⟩
  · rw [swapL_get]
    by_cases hja:j=a
    · subst hja;rw [if_pos rfl,hxa]
    · rw [if_neg hja,if_pos rfl,hxa]
  · rw [swapL_get] at he
    by_cases hka:k=a
    · rw [if_pos hka] at he
      cases he
      exact h.lo j _ (by omega) (by omega) (List.getElem?_eq_getElem hj)
    · rw [if_neg hka,if_neg (by omega)] at he
      exact h.lo k e (by omega) (by omega) he
  · rw [swapL_get,if_neg (by omega),if_neg (by omega)] at he
    exact h.hi k e k1 k2 he
end Go.Idl
namespace Go.Idl
open Go
structure SmallG (n:Int) (es:List (Int×Int)):Prop where
  n1:-1≤n
  n2:n≤8
  len:es.length≤60
  el:∀ e ∈ es,-1≤e.1∧e.1≤8∧-1≤e.2∧e.2≤8
theorem SmallG.fit {n es} (h:SmallG n es):Fit es:=fun e he=>by have:=h.el e he;omega
end Go.Idl
namespace Go.Idl
open Go
theorem degs_len (n:Nat) (es:List (Int×Int)):(degs n es).length=n:=by rw [degs,dfold_len];simp
end Go.Idl
namespace Go.Idl
def hv:Nat→List Int→Bool
  | 0,_=>true
  | _+1,[]=>true
  | m+1,x::r=>decide (x≤r.length) && (r.take x.toNat).all (fun y=>!decide (y=0)) && hv m (fall ((r.take x.toNat).map (fun y=>y - 1)++r.drop x.toNat))
end Go.Idl
namespace Go.Idl
theorem len_sub {α:Type} [DecidableEq α]:∀ {l k:List α},l.Nodup→(∀ x ∈ l,x ∈ k)→l.length≤k.length
  | [],_,_,_=>by simp
  | a::l,k,hn,hs=>by
    have hn':=List.nodup_cons.1 hn
    have h1:=len_sub (l:=l) (k:=k.erase a) hn'.2 (fun x hx=>(List.mem_erase_of_ne (fun h=>hn'.1 (by rw [← h];exact hx))).2 (hs x (by simp [hx])))
    have h2:=List.length_erase_of_mem (hs a (by simp))
    have h3:0 < k.length:=List.length_pos_of_mem (hs a (by simp))
    simp only [List.length_cons];omega
theorem len_inj {α β:Type} [DecidableEq β] {l:List α} {k:List β} (f:α→β) (hn:l.Nodup) (hi:∀ x ∈ l,∀ y ∈ l,f x=f y→x=y) (hf:∀ x ∈ l,f x ∈ k):l.length≤k.length:=by
  have h1:(l.map f).Nodup:=by
    rw [List.Nodup,List.pairwise_map]
    exact List.Pairwise.imp_of_mem (fun ha hb h hab=>h (hi _ ha _ hb hab)) hn
  have:=len_sub h1 (fun y hy=>by obtain ⟨x,hx,rfl⟩:=List.mem_map.1 hy;exact hf x hx)
  simpa using this
theorem subs_nodup {N:Nat}:∀ (r:List (Int×Int)) (left:List Int) (ch:List (Int×Int)),(∀ e ∈ r,0≤e.1∧e.1 < e.2∧e.2 < N)→left.length=N→r.Nodup→(subs r left ch).Nodup
  | [],left,ch,_,_,_=>by rw [subs];split <;> simp
  | e::r,left,ch,hr,hl,hn=>by
    have hn':=List.nodup_cons.1 hn
    have hr':∀ x ∈ r,0≤x.1∧x.1 < x.2∧x.2 < N:=fun x hx=>hr x (by simp [hx])
    rw [subs]
    refine List.nodup_append.2 ⟨?_,subs_nodup r left ch hr' hl hn'.2,?_⟩
    · split
      · exact subs_nodup r _ _ hr' (by simp [decAt,hl]) hn'.2
      · exact .nil
    · intro g hg g2 hg2 hgg
      subst hgg
      split at hg
      · obtain ⟨s1,-,h1,-⟩:=(mem_subs r _ _ g hr' (by simp [decAt,hl])).1 hg
        obtain ⟨s2,hs2,h2,-⟩:=(mem_subs r _ _ g hr' hl).1 hg2
        rw [h1,List.append_assoc] at h2
        have h3:=List.append_cancel_left h2
        exact hn'.1 (hs2.mem (by rw [← h3];simp))
      · cases hg
theorem reals_nodup (d:List Int):(reals d).Nodup:=subs_nodup _ _ _ (fun _ he=>mem_prs.1 he) rfl (pw_nodup (prs_pw _))
def rel (n:Nat) (σ:Nat→Nat) (g:List (Int×Int)):List (Int×Int):=(prs n).filter fun e=>decide (mk (σ e.1.toNat) (σ e.2.toNat) ∈ g)
theorem mk_nat {n:Nat} {e:Int×Int} (he:e ∈ prs n):mk e.1.toNat e.2.toNat=e:=by
  have:=mem_prs.1 he
  exact Prod.ext (by simp only [mk];omega) (by simp only [mk];omega)
theorem rel_deg {n:Nat} (hn:n≤7) {σ:Nat→Nat} (hσ:∀ u,u < n→σ u < n) (hi:∀ u v,u < n→v < n→(σ u=σ v ↔ u=v)) (hp:((List.range n).map σ).Perm (List.range n)) {g:List (Int×Int)} (hg:vGraph n g=true) {v:Nat} (hv:v < n) :
    deg (rel n σ g) v=deg g (σ v):=by
  conv=>rhs;rw [vG_filter hg]
  rw [rel,deg_filter hn _ hv,deg_filter hn _ (hσ v hv)]
  conv=>rhs;rw [← S_perm hp,S_map]
  refine S_congr fun u hu=>?_
  have hu:=List.mem_range.1 hu
  have hm:mk (σ (mk u v).1.toNat) (σ (mk u v).2.toNat)=mk (σ u) (σ v):=by
    rcases Nat.le_total u v with h | h
    · rw [show (mk u v).1.toNat=u by simp only [mk];omega,show (mk u v).2.toNat=v by simp only [mk];omega]
    · rw [show (mk u v).1.toNat=v by simp only [mk];omega,show (mk u v).2.toNat=u by simp only [mk];omega,mk_comm]
  rw [hm]
  exact ite_iff (hi u v hu hv).symm _ _
theorem rel_rel {n:Nat} {σ τ:Nat→Nat} (hτ:∀ u,u < n→τ u < n) (hi:∀ u v,u < n→v < n→(τ u=τ v ↔ u=v)) (hst:∀ u,u < n→σ (τ u)=u) {g:List (Int×Int)} (hg:vGraph n g=true) :
    rel n τ (rel n σ g)=g:=by
  conv=>rhs;rw [vG_filter hg]
  refine List.filter_congr fun e he=>?_
  have hb:=mem_prs.1 he
  obtain ⟨a,ha⟩:=Int.eq_ofNat_of_zero_le (show 0≤e.1 by omega)
  obtain ⟨b,hb2⟩:=Int.eq_ofNat_of_zero_le (show 0≤e.2 by omega)
  have he2:=mk_nat he
  rw [ha,hb2,Int.toNat_natCast,Int.toNat_natCast] at he2 ⊢
  have han:a < n:=by omega
  have hbn:b < n:=by omega
  have hm:mk (τ a) (τ b) ∈ prs n:=mk_mem (hτ a han) (hτ b hbn) (fun h=>by have:=(hi a b han hbn).1 h;omega)
  rw [decide_eq_decide,rel,List.mem_filter,decide_eq_true_eq]
  have hm2:mk (σ (mk (τ a) (τ b)).1.toNat) (σ (mk (τ a) (τ b)).2.toNat)=e:=by
    rcases Nat.le_total (τ a) (τ b) with h | h
    · rw [show (mk (τ a) (τ b)).1.toNat=τ a by simp only [mk];omega,show (mk (τ a) (τ b)).2.toNat=τ b by simp only [mk];omega,hst a han,hst b hbn,he2]
    · rw [show (mk (τ a) (τ b)).1.toNat=τ b by simp only [mk];omega,show (mk (τ a) (τ b)).2.toNat=τ a by simp only [mk];omega,hst a han,hst b hbn,mk_comm,he2]
  rw [hm2]
  exact ⟨fun h=>h.2,fun h=>⟨hm,h⟩⟩
theorem reals_rel {d f:List Int} (h7:d.length≤7) (hl:f.length=d.length) {σ τ:Nat→Nat} (hσ:∀ u,u < d.length→σ u < d.length) (hτ:∀ u,u < d.length→τ u < d.length)
    (hst:∀ u,u < d.length→σ (τ u)=u) (hts:∀ u,u < d.length→τ (σ u)=u) (hp:((List.range d.length).map σ).Perm (List.range d.length)) (hd:∀ u,u < d.length→f.getD u 0=d.getD (σ u) 0) :
    (reals d).length≤(reals f).length:=by
  have hiσ:∀ u v,u < d.length→v < d.length→(σ u=σ v ↔ u=v):=fun u v hu hv=>⟨fun h=>by rw [← hts u hu,h,hts v hv],fun h=>by rw [h]⟩
  have hiτ:∀ u v,u < d.length→v < d.length→(τ u=τ v ↔ u=v):=fun u v hu hv=>⟨fun h=>by rw [← hst u hu,h,hst v hv],fun h=>by rw [h]⟩
  refine len_inj (rel d.length σ) (reals_nodup d) (fun x hx y hy h=>?_) fun g hg=>?_
  · rw [← rel_rel hτ hiτ hst ((mem_reals h7 x).1 hx).1,h,rel_rel hτ hiτ hst ((mem_reals h7 y).1 hy).1]
  · obtain ⟨h1,h2⟩:=(mem_reals h7 g).1 hg
    have hv:vGraph d.length (rel d.length σ g)=true:=filter_vG h7 _
    refine (mem_reals (by omega) _).2 ?_
    rw [hl]
    refine ⟨hv,(deg_degs (vG_sub hv) hl).1 fun v hv=>?_⟩
    rw [rel_deg h7 hσ hiσ hp h1 hv,hd v hv]
    exact (deg_degs (vG_sub h1) rfl).2 h2 _ (hσ v hv)
theorem reals_fall {d:List Int} (h7:d.length≤7):(reals (fall d)).length=(reals d).length:=by
  obtain ⟨n,hn⟩:∃ n,n=d.length:=⟨_,rfl⟩
  have hd:d=(List.range n).map fun v=>d.getD v 0:=by
    refine List.ext_getElem (by simp [hn]) fun i k1 k2=>?_
    simp [List.getD_eq_getElem?_getD,List.getElem?_eq_getElem k1]
  obtain ⟨π,hπ,hfp⟩:=perm_map_inv (f:=fun v=>d.getD v 0) (fall_perm d) hd
  have hπn:π.Nodup:=hπ.nodup_iff.2 List.nodup_range
  have hπl:π.length=n:=by rw [hπ.length_eq,List.length_range]
  have hσ:∀ v,v < n→π.idxOf v < n:=fun v hv=>by
    have hm:v ∈ π:=hπ.mem_iff.2 (List.mem_range.2 hv)
    have:=List.idxOf_lt_length_of_mem hm
    omega
  have hτσ:∀ v,v < n→π.getD (π.idxOf v) 0=v:=fun v hv=>by
    have hm:v ∈ π:=hπ.mem_iff.2 (List.mem_range.2 hv)
    have:=List.idxOf_lt_length_of_mem hm
    rw [List.getD_eq_getElem?_getD,List.getElem?_eq_getElem this,List.getElem_idxOf];rfl
  have hτ:∀ i,i < n→π.getD i 0 < n:=fun i hi=>by
    rw [List.getD_eq_getElem?_getD,List.getElem?_eq_getElem (by omega)]
    exact List.mem_range.1 (hπ.mem_iff.1 (List.getElem_mem _))
  have hστ:∀ i,i < n→π.idxOf (π.getD i 0)=i:=fun i hi=>by
    rw [List.getD_eq_getElem?_getD,List.getElem?_eq_getElem (by omega)]
    exact hπn.idxOf_getElem i (by omega)
  have hp1:((List.range n).map (π.getD · 0)).Perm (List.range n):=by
    have:(List.range n).map (π.getD · 0)=π:=by
      refine List.ext_getElem (by simp [hπl]) fun i k1 k2=>?_
      simp [List.getD_eq_getElem?_getD,List.getElem?_eq_getElem k2]
    rw [this];exact hπ
  have hp2:((List.range n).map (π.idxOf ·)).Perm (List.range n):=by
    have hmap:π.map (π.idxOf ·)=List.range n:=by
      refine List.ext_getElem (by simp [hπl]) fun i k1 k2=>?_
      rw [List.getElem_map,List.getElem_range]
      exact hπn.idxOf_getElem i (by simpa using k1)
    have:=hπ.symm.map (π.idxOf ·)
    rwa [hmap] at this
  have hf:∀ i,i < n→(fall d).getD i 0=d.getD (π.getD i 0) 0:=fun i hi=>by
    rw [hfp,List.getD_eq_getElem?_getD,List.getElem?_map,List.getD_eq_getElem?_getD (l:=π),List.getElem?_eq_getElem (by omega:i < π.length)];rfl
  have hfl:=fall_len d
  have a1:=reals_rel (d:=d) (f:=fall d) h7 hfl (σ:=(π.getD · 0)) (τ:=(π.idxOf ·)) (by rw [← hn];exact hτ) (by rw [← hn];exact hσ) (by rw [← hn];exact hτσ) (by rw [← hn];exact hστ) (by rw [← hn];exact hp1) (by rw [← hn];exact hf)
  have a2:=reals_rel (d:=fall d) (f:=d) (by omega) hfl.symm (σ:=(π.idxOf ·)) (τ:=(π.getD · 0)) (by rw [hfl,← hn];exact hσ) (by rw [hfl,← hn];exact hτ) (by rw [hfl,← hn];exact hστ) (by rw [hfl,← hn];exact hτσ) (by rw [hfl,← hn];exact hp2) (fun i hi=>by
    rw [hfl,← hn] at hi
    rw [hf _ (hσ i hi),hτσ i hi])
  omega
theorem insE_end {e:Int×Int}:∀ {es:List (Int×Int)},(∀ x ∈ es,below x e=true)→insE e es=es++[e]
  | [],_=>rfl
  | x::es,h=>by rw [insE,if_pos (h x (by simp)),insE_end fun y hy=>h y (by simp [hy])];rfl
theorem sum_zero:∀ {l:List Int},(∀ x ∈ l,0≤x)→(l.sum=0 ↔ l.all (fun x=>decide (x=0))=true)
  | [],_=>by simp
  | x::l,h=>by
    have h1:=h x (by simp)
    have h2:0≤l.sum:=by
      have:∀ {l:List Int},(∀ x ∈ l,0≤x)→0≤l.sum:=by
        intro l
        induction l with
        | nil=>intro _;simp
        | cons y l ih=>intro h;have:=ih fun z hz=>h z (by simp [hz]);have:=h y (by simp);simp only [List.sum_cons];omega
      exact this fun y hy=>h y (by simp [hy])
    rw [List.sum_cons,List.all_cons,Bool.and_eq_true,← sum_zero fun y hy=>h y (by simp [hy]),decide_eq_true_eq]
    omega
theorem srS_subs {n:Nat}:∀ (r:List (Int×Int)) (left:List Int) (es:List (Int×Int)),PW r→(∀ e ∈ r,e ∈ prs n)→left.length=n→(∀ x ∈ left,0≤x)→(∀ x ∈ es,∀ e ∈ r,below x e=true) →
    srS n es left r=subs r left es
  | [],left,es,_,_,_,hb,_=>by rw [srS,subs];exact ite_iff (sum_zero hb) _ _
  | e::r,left,es,hp,hr,hl,hb,hes=>by
    have hp':=List.pairwise_cons.1 hp
    have he:=mem_prs.1 (hr e (by simp))
    have hr':∀ x ∈ r,x ∈ prs n:=fun x hx=>hr x (by simp [hx])
    have hes':∀ x ∈ es,∀ y ∈ r,below x y=true:=fun x hx y hy=>hes x hx y (by simp [hy])
    have h2:=srS_subs r left es hp'.2 hr' hl hb hes'
    rw [srS,subs,insE_end fun x hx=>hes x hx e (by simp)]
    congr 1
    · split
      · rename_i hq
        refine srS_subs r _ _ hp'.2 hr' (by simp [decAt,hl]) (fun x hx=>?_) fun x hx y hy=>?_
        · obtain ⟨i,hi,rfl⟩:=List.mem_iff_getElem.1 hx
          have hi2:i < left.length:=by simpa [decAt] using hi
          have g1:=decAt_get (o:=decAt left e.1.toNat) (i:=e.2.toNat) (v:=i) (by simpa [decAt] using hi2)
          have g2:=decAt_get (o:=left) (i:=e.1.toNat) (v:=i) hi2
          rw [List.getD_eq_getElem?_getD,List.getElem?_eq_getElem hi] at g1
          have g3:=hb left[i] (List.getElem_mem hi2)
          have g4:left.getD i 0=left[i]:=by rw [List.getD_eq_getElem?_getD,List.getElem?_eq_getElem hi2];rfl
          simp only [Option.getD_some] at g1
          rw [g1,g2,g4]
          by_cases k1:e.1.toNat=i
          · rw [k1] at hq
            have:¬ e.2.toNat=i:=by omega
            rw [if_pos k1,if_neg this];omega
          · by_cases k2:e.2.toNat=i
            · rw [k2] at hq
              rw [if_neg k1,if_pos k2];omega
            · rw [if_neg k1,if_neg k2];omega
        · rcases List.mem_append.1 hx with hx | hx
          · exact hes' x hx y hy
          · simp at hx;subst hx;exact hp'.1 y hy
      · rfl
    · by_cases hq:e.2+1 < n ∨ left.getD e.1.toNat 0=0
      · rw [if_pos hq,h2]
      · rw [if_neg hq]
        cases hs:subs r left es with
        | nil=>rfl
        | cons g gl =>
          exfalso
          have hg:g ∈ subs r left es:=by rw [hs];simp
          obtain ⟨s,hsr,-,hd⟩:=(mem_subs r left es g (fun x hx=>mem_prs.1 (hr' x hx)) hl).1 hg
          have h3:=hd e.1.toNat (by omega)
          have h4:deg s e.1.toNat=0:=by
            rw [deg,S_congr (g:=fun _=>0),S_zero]
            intro x hx
            have hx1:=hp'.1 x (hsr.mem hx)
            have hx2:=mem_prs.1 (hr' x (hsr.mem hx))
            rw [below_iff] at hx1
            rw [inc,if_neg (by omega),if_neg (by omega)];rfl
          omega
theorem srS_reals {d:List Int} (hv:valid d=true):srS d.length [] d (prs d.length)=reals d :=
  srS_subs _ _ _ (prs_pw _) (fun _ h=>h) rfl (fun x hx=>(valid_mem hv x hx).1) (by simp)
end Go.Idl
namespace Go.Idl
def gS (s:List Int):Bool:=s.all (fun x=>decide (0≤x) && decide (x < s.length)) && decide (s.sum % 2=0) && noneNeg (slS s)
theorem all_perm' {xs ys:List Int} (h:xs.Perm ys) (p:Int→Bool):xs.all p=ys.all p:=by
  rw [Bool.eq_iff_iff,List.all_eq_true,List.all_eq_true]
  exact ⟨fun k x hx=>k x (h.mem_iff.2 hx),fun k x hx=>k x (h.mem_iff.1 hx)⟩
theorem graphic_gS {d:List Int} (hl:d.length≤7):graphic d=gS (fall d):=by
  rw [graphic,gS,valid,slacks_S,fall_len,fall_sum,all_perm' (fall_perm d),decide_eq_true hl,Bool.true_and]
  rfl
end Go.Idl
namespace Go.Idl
def encI:List Int→Nat
  | []=>0
  | x::r=>x.toNat+8 * encI r
theorem dig_enc:∀ (l:List Int) (i:Nat),(∀ x ∈ l,0≤x∧x < 8)→encI l / 8 ^ i % 8=(l.getD i 0).toNat
  | [],i,_=>by simp [encI]
  | x::r,0,h=>by
    have:=h x (by simp)
    simp only [encI,Nat.pow_zero,Nat.div_one,List.getD_cons_zero];omega
  | x::r,i+1,h=>by
    have h1:=h x (by simp)
    have h2:=dig_enc r i fun y hy=>h y (by simp [hy])
    rw [encI,Nat.pow_succ,Nat.mul_comm (8 ^ i),← Nat.div_div_eq_div_mul,show (x.toNat+8 * encI r) / 8=encI r by omega,h2,List.getD_cons_succ]
theorem enc_dec:∀ (l:List Int) (i:Nat),(∀ x ∈ l,0≤x∧x < 8)→0 < l.getD i 0→encI (decAt l i)+8 ^ i=encI l
  | [],i,_,h=>by simp at h
  | x::r,0,h,hp=>by
    simp only [List.getD_cons_zero] at hp
    simp only [decAt,List.getD_cons_zero,List.set_cons_zero,encI,Nat.pow_zero];omega
  | x::r,i+1,h,hp=>by
    rw [List.getD_cons_succ] at hp
    have h2:=enc_dec r i (fun y hy=>h y (by simp [hy])) hp
    rw [decAt] at h2
    rw [decAt,List.getD_cons_succ,List.set_cons_succ,encI,encI,Nat.pow_succ];omega
theorem enc_zero:∀ l:List Int,(∀ x ∈ l,0≤x∧x < 8)→(encI l=0 ↔ l.sum=0)
  | [],_=>by simp [encI]
  | x::r,h=>by
    have h1:=h x (by simp)
    have h2:=enc_zero r fun y hy=>h y (by simp [hy])
    have h3:0≤r.sum:=by
      have:∀ {l:List Int},(∀ x ∈ l,0≤x∧x < 8)→0≤l.sum:=by
        intro l
        induction l with
        | nil=>intro _;simp
        | cons y l ih=>intro h;have:=ih fun z hz=>h z (by simp [hz]);have:=h y (by simp);simp only [List.sum_cons];omega
      exact this fun y hy=>h y (by simp [hy])
    rw [encI,List.sum_cons];omega
noncomputable def sNq (n:Nat) (P:List (Nat×Nat)):Nat→Nat :=
  List.rec (motive:=fun _=>Nat→Nat) (fun q=>Bool.rec 0 1 (Nat.beq q 0))
    (fun e _ ih q=>Nat.add
      (Bool.rec 0 (Bool.rec 0 (ih (Nat.sub (Nat.sub q (Nat.pow 8 e.1)) (Nat.pow 8 e.2))) (Nat.ble 1 (Nat.mod (Nat.div q (Nat.pow 8 e.2)) 8))) (Nat.ble 1 (Nat.mod (Nat.div q (Nat.pow 8 e.1)) 8)))
      (Bool.rec (Bool.rec 0 (ih q) (Nat.beq (Nat.mod (Nat.div q (Nat.pow 8 e.1)) 8) 0)) (ih q) (Nat.ble (e.2+2) n))) P
theorem rec_ite (b:Bool) (x y:Nat):(Bool.rec x y b:Nat)=if b=true then y else x:=by cases b <;> rfl
theorem sN_consq (n:Nat) (a b:Nat) (P:List (Nat×Nat)) (q:Nat):sNq n ((a,b)::P) q =
    (if 1≤q / 8 ^ a % 8 then (if 1≤q / 8 ^ b % 8 then sNq n P (q - 8 ^ a - 8 ^ b) else 0) else 0)+(if b+2≤n then sNq n P q else if q / 8 ^ a % 8=0 then sNq n P q else 0):=by
  show Nat.add (Bool.rec 0 (Bool.rec 0 (sNq n P (Nat.sub (Nat.sub q (Nat.pow 8 a)) (Nat.pow 8 b))) (Nat.ble 1 (Nat.mod (Nat.div q (Nat.pow 8 b)) 8))) (Nat.ble 1 (Nat.mod (Nat.div q (Nat.pow 8 a)) 8)))
      (Bool.rec (Bool.rec 0 (sNq n P q) (Nat.beq (Nat.mod (Nat.div q (Nat.pow 8 a)) 8) 0)) (sNq n P q) (Nat.ble (b+2) n))=_
  simp only [rec_ite,Nat.ble_eq,Nat.beq_eq]
  rfl
theorem dec_bound {l:List Int} {i:Nat} (h:∀ x ∈ l,0≤x∧x < 8) (hp:0 < l.getD i 0):∀ x ∈ decAt l i,0≤x∧x < 8:=by
  intro x hx
  rcases List.mem_or_eq_of_mem_set hx with hx | rfl
  · exact h x hx
  · have:l.getD i 0 < 8:=by
      rw [List.getD_eq_getElem?_getD] at hp ⊢
      cases hq:l[i]? with
      | none=>rw [hq] at hp;simp at hp
      | some y=>have:=h y (List.mem_of_getElem? hq);simpa using this.2
    omega
theorem dec_other {l:List Int} {i j:Nat} (h:i ≠ j):(decAt l i).getD j 0=l.getD j 0:=by
  rw [decAt,List.getD_eq_getElem?_getD,List.getElem?_set_ne h,List.getD_eq_getElem?_getD]
theorem srS_sN (n:Nat):∀ (r:List (Int×Int)) (es:List (Int×Int)) (left:List Int),(∀ e ∈ r,0≤e.1∧e.1 < e.2)→(∀ x ∈ left,0≤x∧x < 8) →
    (srS n es left r).length=sNq n (r.map fun e=>(e.1.toNat,e.2.toNat)) (encI left)
  | [],es,left,_,hb=>by
    rw [srS]
    show _=(Bool.rec 0 1 (Nat.beq (encI left) 0):Nat)
    rw [rec_ite]
    simp only [Nat.beq_eq]
    by_cases h0:left.sum=0
    · rw [if_pos h0,if_pos ((enc_zero left hb).2 h0)];rfl
    · rw [if_neg h0,if_neg fun h=>h0 ((enc_zero left hb).1 h)];rfl
  | e::r,es,left,hr,hb=>by
    have he:=hr e (by simp)
    have hr':∀ x ∈ r,0≤x.1∧x.1 < x.2:=fun x hx=>hr x (by simp [hx])
    have d1:=dig_enc left e.1.toNat hb
    have d2:=dig_enc left e.2.toNat hb
    have hne:e.1.toNat ≠ e.2.toNat:=by omega
    rw [srS,List.map_cons,sN_consq,d1,d2,List.length_append]
    have i2:=srS_sN n r es left hr' hb
    congr 1
    · by_cases h1:0 < left.getD e.1.toNat 0
      · rw [if_pos (show 1≤(left.getD e.1.toNat 0).toNat by omega)]
        by_cases h2:0 < left.getD e.2.toNat 0
        · rw [if_pos ⟨h1,h2⟩,if_pos (show 1≤(left.getD e.2.toNat 0).toNat by omega)]
          have k1:=enc_dec left e.1.toNat hb h1
          have b1:=dec_bound hb h1
          have h2':0 < (decAt left e.1.toNat).getD e.2.toNat 0:=by rw [dec_other hne];exact h2
          have k2:=enc_dec _ e.2.toNat b1 h2'
          rw [srS_sN n r _ _ hr' (dec_bound b1 h2')]
          congr 1
          omega
        · rw [if_neg (fun h=>h2 h.2),if_neg (show ¬ 1≤(left.getD e.2.toNat 0).toNat by omega)];rfl
      · rw [if_neg (fun h=>h1 h.1),if_neg (show ¬ 1≤(left.getD e.1.toNat 0).toNat by omega)];rfl
    · have hz:(left.getD e.1.toNat 0).toNat=0 ↔ left.getD e.1.toNat 0=0:=by
        have:0≤left.getD e.1.toNat 0:=by
          rw [List.getD_eq_getElem?_getD]
          cases hq:left[e.1.toNat]? with
          | none=>simp
          | some y=>exact (hb y (List.mem_of_getElem? hq)).1
        omega
      by_cases h3:e.2+1 < n
      · rw [if_pos (.inl h3),if_pos (by omega),i2]
      · rw [if_neg (show ¬ e.2.toNat+2≤n by omega)]
        by_cases h4:left.getD e.1.toNat 0=0
        · rw [if_pos (.inr h4),if_pos (hz.2 h4),i2]
        · rw [if_neg (fun h=>h.elim h3 h4),if_neg fun h=>h4 (hz.1 h)];rfl
def thS (s:List Int):Bool:=decide (s=corrs s)
def spS (s:List Int):Int:=if gS s then (if s.length=0 then 0 else ((slS s).getD (durf s - 1) 0).tdiv 2) else -1
end Go.Idl
namespace Go.Idl
theorem splitt_spS {d:List Int} (h:d.length≤7):splitt d=spS (fall d):=by rw [splitt,spS,graphic_gS h,slacks_S,fall_len]
theorem thr_thS {d:List Int} (h:valid d=true):thr d=thS (fall d):=by rw [thr,h,thS,Bool.true_and]
noncomputable def cntS (s:List Int):Nat:=sNq s.length ((prs s.length).map fun e=>(e.1.toNat,e.2.toNat)) (encI s)
theorem cnt_S {d:List Int} (hv:valid d=true):(reals d).length=cntS (fall d):=by
  have h1:=(valid_few hv).1
  have hb:∀ x ∈ fall d,0≤x∧x < 8:=fun x hx=>by
    have:=valid_mem hv x (fall_mem.1 hx)
    omega
  rw [cntS,← srS_sN (fall d).length (prs (fall d).length) [] (fall d) (fun e he=>by have:=mem_prs.1 he;omega) hb,srS_reals (fall_valid hv),reals_fall h1]
theorem fall_cmp (k s d:List Int):fall (cmpD k s d)=fall (cmpD (fall k) (fall s) (fall d)):=by
  refine fall_congr ?_
  rw [cmpD,cmpD]
  simp only [fall_len]
  exact ((fall_perm k).symm.map _).append (((fall_perm d).symm.map _).append (fall_perm s).symm)
theorem fall_app (k s:List Int):fall (k++s)=fall (fall k++fall s):=fall_congr ((fall_perm k).symm.append (fall_perm s).symm)
noncomputable def chkX (X B D:List Int):Bool :=
  gS X && ((decide (spS X=0) == decide (spS D=0)) && ((thS X == (thS B && thS D)) && (Nat.ble 7 X.length || Nat.beq (cntS X) (Nat.mul (cntS B) (cntS D)))))
noncomputable def chkCd (K S D:List Int):Bool:=!(gS D) || chkX (fall (cmpD K S D)) (fall (K++S)) D
def okKS (n:Nat) (K S:List Int):Bool:=decide (K.sum=S.sum+n * ((n:Int) - 1)) && gS (fall (K++S))
noncomputable def allK (n m l:Nat):Bool:=allD (fun K=>!(K.all fun x=>decide ((n:Int) - 1≤x)) || allD (fun S=>!(okKS n K S) || allD (chkCd K S) l (l - 1) []) m n []) n (n+m - 1) []
noncomputable def allKn (n:Nat):Bool:=(List.range (8 - n)).all fun m=>(List.range (8 - n - m)).all fun l=>allK n m l
set_option maxRecDepth 100000 in
theorem allKn_0:allKn 0=true:=by kernel_rfl
set_option maxRecDepth 100000 in
theorem allKn_1:allKn 1=true:=by kernel_rfl
set_option maxRecDepth 100000 in
theorem allKn_2:allKn 2=true:=by kernel_rfl
set_option maxRecDepth 100000 in
theorem allKn_3:allKn 3=true:=by kernel_rfl
set_option maxRecDepth 100000 in
theorem allKn_4:allKn 4=true:=by kernel_rfl
set_option maxRecDepth 100000 in
theorem allKn_5:allKn 5=true:=by kernel_rfl
set_option maxRecDepth 100000 in
theorem allKn_6:allKn 6=true:=by kernel_rfl
set_option maxRecDepth 100000 in
theorem allKn_7:allKn 7=true:=by kernel_rfl
theorem allKn_all (n:Nat) (h:n < 8):allKn n=true:=by
  match n,h with
  | 0,_=>exact allKn_0
  | 1,_=>exact allKn_1
  | 2,_=>exact allKn_2
  | 3,_=>exact allKn_3
  | 4,_=>exact allKn_4
  | 5,_=>exact allKn_5
  | 6,_=>exact allKn_6
  | 7,_=>exact allKn_7
structure CmpOk (k s d:List Int):Prop where
  both:graphic (k++s)=true
  last:graphic d=true
  sum:k.sum=s.sum+k.length * ((k.length:Int) - 1)
  low:∀ x ∈ k,(k.length:Int) - 1≤x
  high:∀ x ∈ s,x≤k.length
  few:k.length+s.length+d.length≤7
structure CmpLaw (k s d:List Int):Prop where
  valid:valid (cmpD k s d)=true
  graphic:graphic (cmpD k s d)=true
  split:decide (splitt (cmpD k s d)=0)=decide (splitt d=0)
  thr:thr (cmpD k s d)=(thr (k++s) && thr d)
  count:(cmpD k s d).length≤6→(reals (cmpD k s d)).length=(reals (k++s)).length * (reals d).length
theorem cmpLaw {k s d:List Int} (h:CmpOk k s d):CmpLaw k s d:=by
  have vB:=graphic_valid h.both
  have vD:=graphic_valid h.last
  have mB:=valid_mem vB
  have mD:=valid_mem vD
  have hf:=h.few
  have hX:(cmpD k s d).length=k.length+s.length+d.length:=by simp [cmpD];omega
  have h7:(cmpD k s d).length≤7:=by omega
  have hm:=List.all_eq_true.1 (allKn_all k.length (by omega)) s.length (List.mem_range.2 (by omega))
  have hl:=List.all_eq_true.1 hm d.length (List.mem_range.2 (by omega))
  have bK:∀ x ∈ fall k,0≤x∧x≤((k.length+s.length - 1:Nat):Int):=fun x hx=>by
    have:=mB x (by simp [fall_mem.1 hx])
    simp only [List.length_append] at this
    omega
  have h1:=allD_ok _ _ _ [] (fall k) hl (fall_len k) (fall_desc k) bK
  simp only [List.reverse_nil,List.nil_append,Bool.or_eq_true,Bool.not_eq_true'] at h1
  have h1:=h1.resolve_left fun hc=>by
    rw [List.all_eq_false] at hc
    obtain ⟨x,hx,hc⟩:=hc
    exact hc (decide_eq_true (h.low x (fall_mem.1 hx)))
  have bS:∀ x ∈ fall s,0≤x∧x≤((k.length:Nat):Int):=fun x hx=>by
    have:=mB x (by simp [fall_mem.1 hx])
    exact ⟨by omega,h.high x (fall_mem.1 hx)⟩
  have h2:=allD_ok _ _ _ [] (fall s) h1 (fall_len s) (fall_desc s) bS
  simp only [List.reverse_nil,List.nil_append,Bool.or_eq_true,Bool.not_eq_true'] at h2
  have hB:fall (fall k++fall s)=fall (k++s):=(fall_app k s).symm
  have lB:(k++s).length≤7:=by simp;omega
  have h2:=h2.resolve_left fun hc=>by
    rw [okKS,hB,← graphic_gS lB,h.both,fall_sum,fall_sum,decide_eq_true h.sum] at hc
    cases hc
  have bD:∀ x ∈ fall d,0≤x∧x≤((d.length - 1:Nat):Int):=fun x hx=>by
    have:=mD x (fall_mem.1 hx)
    omega
  have h3:=allD_ok _ _ _ [] (fall d) h2 (fall_len d) (fall_desc d) bD
  simp only [List.reverse_nil,List.nil_append,chkCd,Bool.or_eq_true,Bool.not_eq_true'] at h3
  have lD:d.length≤7:=by omega
  have h3:=h3.resolve_left fun hc=>by
    rw [← graphic_gS lD,h.last] at hc
    cases hc
  rw [hB,← fall_cmp,chkX,← graphic_gS h7,← splitt_spS h7,← splitt_spS lD] at h3
  simp only [Bool.and_eq_true] at h3
  obtain ⟨g,q1,q2,q3⟩:=h3
  have vX:=graphic_valid g
  rw [← thr_thS vX,← thr_thS vB,← thr_thS vD] at q2
  refine ⟨vX,g,by simpa using q1,by simpa using q2,fun h6=>?_⟩
  rw [Bool.or_eq_true,fall_len] at q3
  have q3:=q3.resolve_left fun hc=>by
    have:=Nat.le_of_ble_eq_true hc
    omega
  rw [cnt_S vX,cnt_S vB,cnt_S vD]
  exact Nat.eq_of_beq_eq_true q3
end Go.Idl
namespace Go.Idl
open Go
theorem not_any_all (p q:Int→Bool) (xs:List Int) (h:∀ x,q x=!p x):(!(xs.any p))=xs.all q:=by
  induction xs with
  | nil=>rfl
  | cons x xs ih=>simp [h,← ih]
theorem least1_all (m:Int):∀ (x:Int) (r:List Int),decide (m≤least1 x r)=(x::r).all fun x=>decide (m≤x)
  | x,[]=>by
    show decide (m≤x)=(decide (m≤x) && true)
    rw [Bool.and_true]
  | x,y::r=>by
    rw [least1,least1_all m (min x y) r,List.all_cons,List.all_cons,List.all_cons,← Bool.and_assoc]
    congr 1
    rw [← Bool.decide_and,decide_eq_decide]
    omega
theorem pF1_iff (k:List Int):pF1 k=!(k.any fun x=>decide (x < (k.length:Int) - 1)):=by
  rw [not_any_all _ (fun x=>decide ((k.length:Int) - 1≤x)) _ (fun x=>by rw [← decide_not,decide_eq_decide];omega)]
  cases k with
  | nil=>rfl
  | cons x r =>
    rw [pF1]
    generalize (((x::r).length:Nat):Int) - 1=m
    rw [least1_all m x r]
theorem pF2_iff (m:Int) (s:List Int):pF2 m s=!(s.any fun x=>decide (m < x)):=by
  rw [not_any_all _ (fun x=>decide (x≤m)) _ (fun x=>by rw [← decide_not,decide_eq_decide];omega),← all_perm' (fall_perm s)]
  rw [pF2]
  have hd:=fall_desc s
  cases h:fall s with
  | nil=>rfl
  | cons y r =>
    rw [h] at hd
    have hd:=(List.pairwise_cons.1 hd).1
    rw [Bool.eq_iff_iff,decide_eq_true_eq,List.all_eq_true]
    constructor
    · intro hy x hx
      rcases List.mem_cons.1 hx with rfl | hx
      · exact decide_eq_true hy
      · have:=hd x hx
        exact decide_eq_true (by omega)
    · intro hx
      exact of_decide_eq_true (hx y (by simp))
set_option maxHeartbeats 8000000 in
theorem ev_sComposeDegrees_0 (k s d:List Int) (c1 c2 c3:Bool) (hf:CmpFew k s d) (h1:valid (k++s)=false) :
    Ev tb zl558 [] [L k c1,L s c2,L d c3] [] ⟨.tup [Z,Bo false],[],[],[]⟩:=by
  have lk:=hf.lk
  have ls:=hf.ls
  have ld:=hf.ld
  have eC:=fun c=>ev_lim (ev_copyInts k c (by omega))
  have hto:k.take k.length=k:=List.take_of_length_le (by omega)
  have hlm:k.length+s.length≤274877906944:=by omega
  have eV:=fun c=>ev_lim (ev_validDegrees (k++s) c (by simp;omega))
  have eW:=fun c=>ev_lim (ev_validDegrees d c (by omega))
  have eP:=fun c c'=>ev_lim (ev_partsFit k s c c' (by omega) (by omega) (few_small (by omega) hf.bk) (few_small (by omega) hf.bs) (by have:=sum_bound hf.bk;omega))
  have w4:IntKind.i64.wrap ((k.length:Int)+s.length+d.length)=(k.length:Int)+s.length+d.length:=wrap64 (by omega) (by omega)
  have hlen:(k++s).length=k.length+s.length:=by simp
  have htb:(k++s).take (k.length+s.length)=k++s:=List.take_of_length_le (by simp)
  simp only [h1] at eV
  refine call_of_wp zt558 rfl ?_
  repeat (first|apply wp_as|apply wp_ss|refine wr (by simp [eC,hto,hlm,eV,eW,eP,hlen,htb,w4];with_reducible rfl) ?_|refine wq (by simp [eC,hto,hlm,eV,eW,eP,hlen,htb,w4];with_reducible rfl) ?_|refine wt (by simpa [eC,hto,hlm,eV,eW,eP,hlen,htb,w4]) ?_|refine wf (by simpa [eC,hto,hlm,eV,eW,eP,hlen,htb,w4]) ?_|refine xt (by simpa [eC,hto,hlm,eV,eW,eP,hlen,htb,w4]) ?_|refine xf (by simpa [eC,hto,hlm,eV,eW,eP,hlen,htb,w4]) ?_|apply wp_bs|apply wp_b|refine wp_sr ?_|refine wp_sx ?_|refine wp_ret' ?_|refine wp_skip' ?_|refine wp_exit' ?_)
  simp [zi558]
set_option maxHeartbeats 8000000 in
theorem ev_sComposeDegrees_1 (k s d:List Int) (c1 c2 c3:Bool) (hf:CmpFew k s d) (h1:valid (k++s)=true) (h2:graphic (k++s)=false) :
    Ev tb zl558 [] [L k c1,L s c2,L d c3] [] ⟨.tup [Z,Bo false],[],[],[]⟩:=by
  have lk:=hf.lk
  have ls:=hf.ls
  have ld:=hf.ld
  have eC:=fun c=>ev_lim (ev_copyInts k c (by omega))
  have hto:k.take k.length=k:=List.take_of_length_le (by omega)
  have hlm:k.length+s.length≤274877906944:=by omega
  have eV:=fun c=>ev_lim (ev_validDegrees (k++s) c (by simp;omega))
  have eW:=fun c=>ev_lim (ev_validDegrees d c (by omega))
  have eP:=fun c c'=>ev_lim (ev_partsFit k s c c' (by omega) (by omega) (few_small (by omega) hf.bk) (few_small (by omega) hf.bs) (by have:=sum_bound hf.bk;omega))
  have w4:IntKind.i64.wrap ((k.length:Int)+s.length+d.length)=(k.length:Int)+s.length+d.length:=wrap64 (by omega) (by omega)
  have hlen:(k++s).length=k.length+s.length:=by simp
  have htb:(k++s).take (k.length+s.length)=k++s:=List.take_of_length_le (by simp)
  simp only [h1] at eV
  have eG:=fun c=>ev_lim (ev_isGraphic (k++s) c h1)
  simp only [h2] at eG
  refine call_of_wp zt558 rfl ?_
  repeat (first|apply wp_as|apply wp_ss|refine wr (by simp [eC,hto,hlm,eV,eW,eP,hlen,htb,w4,eG];with_reducible rfl) ?_|refine wq (by simp [eC,hto,hlm,eV,eW,eP,hlen,htb,w4,eG];with_reducible rfl) ?_|refine wt (by simpa [eC,hto,hlm,eV,eW,eP,hlen,htb,w4,eG]) ?_|refine wf (by simpa [eC,hto,hlm,eV,eW,eP,hlen,htb,w4,eG]) ?_|refine xt (by simpa [eC,hto,hlm,eV,eW,eP,hlen,htb,w4,eG]) ?_|refine xf (by simpa [eC,hto,hlm,eV,eW,eP,hlen,htb,w4,eG]) ?_|apply wp_bs|apply wp_b|refine wp_sr ?_|refine wp_sx ?_|refine wp_ret' ?_|refine wp_skip' ?_|refine wp_exit' ?_)
  simp [zi558]
set_option maxHeartbeats 8000000 in
theorem ev_sComposeDegrees_2 (k s d:List Int) (c1 c2 c3:Bool) (hf:CmpFew k s d) (h1:valid (k++s)=true) (h2:graphic (k++s)=true) (h3:valid d=false) :
    Ev tb zl558 [] [L k c1,L s c2,L d c3] [] ⟨.tup [Z,Bo false],[],[],[]⟩:=by
  have lk:=hf.lk
  have ls:=hf.ls
  have ld:=hf.ld
  have eC:=fun c=>ev_lim (ev_copyInts k c (by omega))
  have hto:k.take k.length=k:=List.take_of_length_le (by omega)
  have hlm:k.length+s.length≤274877906944:=by omega
  have eV:=fun c=>ev_lim (ev_validDegrees (k++s) c (by simp;omega))
  have eW:=fun c=>ev_lim (ev_validDegrees d c (by omega))
  have eP:=fun c c'=>ev_lim (ev_partsFit k s c c' (by omega) (by omega) (few_small (by omega) hf.bk) (few_small (by omega) hf.bs) (by have:=sum_bound hf.bk;omega))
  have w4:IntKind.i64.wrap ((k.length:Int)+s.length+d.length)=(k.length:Int)+s.length+d.length:=wrap64 (by omega) (by omega)
  have hlen:(k++s).length=k.length+s.length:=by simp
  have htb:(k++s).take (k.length+s.length)=k++s:=List.take_of_length_le (by simp)
  simp only [h1] at eV
  have eG:=fun c=>ev_lim (ev_isGraphic (k++s) c h1)
  simp only [h2] at eG
  simp only [h3] at eW
  refine call_of_wp zt558 rfl ?_
  repeat (first|apply wp_as|apply wp_ss|refine wr (by simp [eC,hto,hlm,eV,eW,eP,hlen,htb,w4,eG];with_reducible rfl) ?_|refine wq (by simp [eC,hto,hlm,eV,eW,eP,hlen,htb,w4,eG];with_reducible rfl) ?_|refine wt (by simpa [eC,hto,hlm,eV,eW,eP,hlen,htb,w4,eG]) ?_|refine wf (by simpa [eC,hto,hlm,eV,eW,eP,hlen,htb,w4,eG]) ?_|refine xt (by simpa [eC,hto,hlm,eV,eW,eP,hlen,htb,w4,eG]) ?_|refine xf (by simpa [eC,hto,hlm,eV,eW,eP,hlen,htb,w4,eG]) ?_|apply wp_bs|apply wp_b|refine wp_sr ?_|refine wp_sx ?_|refine wp_ret' ?_|refine wp_skip' ?_|refine wp_exit' ?_)
  simp [zi558]
set_option maxHeartbeats 8000000 in
theorem ev_sComposeDegrees_3 (k s d:List Int) (c1 c2 c3:Bool) (hf:CmpFew k s d) (h1:valid (k++s)=true) (h2:graphic (k++s)=true) (h3:valid d=true) (h4:graphic d=false) :
    Ev tb zl558 [] [L k c1,L s c2,L d c3] [] ⟨.tup [Z,Bo false],[],[],[]⟩:=by
  have lk:=hf.lk
  have ls:=hf.ls
  have ld:=hf.ld
  have eC:=fun c=>ev_lim (ev_copyInts k c (by omega))
  have hto:k.take k.length=k:=List.take_of_length_le (by omega)
  have hlm:k.length+s.length≤274877906944:=by omega
  have eV:=fun c=>ev_lim (ev_validDegrees (k++s) c (by simp;omega))
  have eW:=fun c=>ev_lim (ev_validDegrees d c (by omega))
  have eP:=fun c c'=>ev_lim (ev_partsFit k s c c' (by omega) (by omega) (few_small (by omega) hf.bk) (few_small (by omega) hf.bs) (by have:=sum_bound hf.bk;omega))
  have w4:IntKind.i64.wrap ((k.length:Int)+s.length+d.length)=(k.length:Int)+s.length+d.length:=wrap64 (by omega) (by omega)
  have hlen:(k++s).length=k.length+s.length:=by simp
  have htb:(k++s).take (k.length+s.length)=k++s:=List.take_of_length_le (by simp)
  simp only [h1] at eV
  have eG:=fun c=>ev_lim (ev_isGraphic (k++s) c h1)
  simp only [h2] at eG
  simp only [h3] at eW
  have eD:=fun c=>ev_lim (ev_isGraphic d c h3)
  simp only [h4] at eD
  refine call_of_wp zt558 rfl ?_
  repeat (first|apply wp_as|apply wp_ss|refine wr (by simp [eC,hto,hlm,eV,eW,eP,hlen,htb,w4,eG,eD];with_reducible rfl) ?_|refine wq (by simp [eC,hto,hlm,eV,eW,eP,hlen,htb,w4,eG,eD];with_reducible rfl) ?_|refine wt (by simpa [eC,hto,hlm,eV,eW,eP,hlen,htb,w4,eG,eD]) ?_|refine wf (by simpa [eC,hto,hlm,eV,eW,eP,hlen,htb,w4,eG,eD]) ?_|refine xt (by simpa [eC,hto,hlm,eV,eW,eP,hlen,htb,w4,eG,eD]) ?_|refine xf (by simpa [eC,hto,hlm,eV,eW,eP,hlen,htb,w4,eG,eD]) ?_|apply wp_bs|apply wp_b|refine wp_sr ?_|refine wp_sx ?_|refine wp_ret' ?_|refine wp_skip' ?_|refine wp_exit' ?_)
  simp [zi558]
set_option maxHeartbeats 8000000 in
theorem ev_sComposeDegrees_4 (k s d:List Int) (c1 c2 c3:Bool) (hf:CmpFew k s d) (h1:valid (k++s)=true) (h2:graphic (k++s)=true) (h3:valid d=true) (h4:graphic d=true) (h5:¬ k.length+s.length+d.length≤7) :
    Ev tb zl558 [] [L k c1,L s c2,L d c3] [] ⟨.tup [Z,Bo false],[],[],[]⟩:=by
  have lk:=hf.lk
  have ls:=hf.ls
  have ld:=hf.ld
  have eC:=fun c=>ev_lim (ev_copyInts k c (by omega))
  have hto:k.take k.length=k:=List.take_of_length_le (by omega)
  have hlm:k.length+s.length≤274877906944:=by omega
  have eV:=fun c=>ev_lim (ev_validDegrees (k++s) c (by simp;omega))
  have eW:=fun c=>ev_lim (ev_validDegrees d c (by omega))
  have eP:=fun c c'=>ev_lim (ev_partsFit k s c c' (by omega) (by omega) (few_small (by omega) hf.bk) (few_small (by omega) hf.bs) (by have:=sum_bound hf.bk;omega))
  have w4:IntKind.i64.wrap ((k.length:Int)+s.length+d.length)=(k.length:Int)+s.length+d.length:=wrap64 (by omega) (by omega)
  have hlen:(k++s).length=k.length+s.length:=by simp
  have htb:(k++s).take (k.length+s.length)=k++s:=List.take_of_length_le (by simp)
  simp only [h1] at eV
  have eG:=fun c=>ev_lim (ev_isGraphic (k++s) c h1)
  simp only [h2] at eG
  simp only [h3] at eW
  have eD:=fun c=>ev_lim (ev_isGraphic d c h3)
  simp only [h4] at eD
  have h7:(7:Int) < (k.length:Int)+s.length+d.length:=by omega
  refine call_of_wp zt558 rfl ?_
  repeat (first|apply wp_as|apply wp_ss|refine wr (by simp [eC,hto,hlm,eV,eW,eP,hlen,htb,w4,eG,eD,h7];with_reducible rfl) ?_|refine wq (by simp [eC,hto,hlm,eV,eW,eP,hlen,htb,w4,eG,eD,h7];with_reducible rfl) ?_|refine wt (by simpa [eC,hto,hlm,eV,eW,eP,hlen,htb,w4,eG,eD,h7]) ?_|refine wf (by simpa [eC,hto,hlm,eV,eW,eP,hlen,htb,w4,eG,eD,h7]) ?_|refine xt (by simpa [eC,hto,hlm,eV,eW,eP,hlen,htb,w4,eG,eD,h7]) ?_|refine xf (by simpa [eC,hto,hlm,eV,eW,eP,hlen,htb,w4,eG,eD,h7]) ?_|apply wp_bs|apply wp_b|refine wp_sr ?_|refine wp_sx ?_|refine wp_ret' ?_|refine wp_skip' ?_|refine wp_exit' ?_)
  simp [zi558]
set_option maxHeartbeats 8000000 in
theorem ev_sComposeDegrees_5 (k s d:List Int) (c1 c2 c3:Bool) (hf:CmpFew k s d) (h1:valid (k++s)=true) (h2:graphic (k++s)=true) (h3:valid d=true) (h4:graphic d=true) (h5:k.length+s.length+d.length≤7) (h6:pFit k s=false) :
    Ev tb zl558 [] [L k c1,L s c2,L d c3] [] ⟨.tup [Z,Bo false],[],[],[]⟩:=by
  have lk:=hf.lk
  have ls:=hf.ls
  have ld:=hf.ld
  have eC:=fun c=>ev_lim (ev_copyInts k c (by omega))
  have hto:k.take k.length=k:=List.take_of_length_le (by omega)
  have hlm:k.length+s.length≤274877906944:=by omega
  have eV:=fun c=>ev_lim (ev_validDegrees (k++s) c (by simp;omega))
  have eW:=fun c=>ev_lim (ev_validDegrees d c (by omega))
  have eP:=fun c c'=>ev_lim (ev_partsFit k s c c' (by omega) (by omega) (few_small (by omega) hf.bk) (few_small (by omega) hf.bs) (by have:=sum_bound hf.bk;omega))
  have w4:IntKind.i64.wrap ((k.length:Int)+s.length+d.length)=(k.length:Int)+s.length+d.length:=wrap64 (by omega) (by omega)
  have hlen:(k++s).length=k.length+s.length:=by simp
  have htb:(k++s).take (k.length+s.length)=k++s:=List.take_of_length_le (by simp)
  simp only [h1] at eV
  have eG:=fun c=>ev_lim (ev_isGraphic (k++s) c h1)
  simp only [h2] at eG
  simp only [h3] at eW
  have eD:=fun c=>ev_lim (ev_isGraphic d c h3)
  simp only [h4] at eD
  have h7:¬ (7:Int) < (k.length:Int)+s.length+d.length:=by omega
  simp only [h6] at eP
  refine call_of_wp zt558 rfl ?_
  repeat (first|apply wp_as|apply wp_ss|refine wr (by simp [eC,hto,hlm,eV,eW,eP,hlen,htb,w4,eG,eD,h7];with_reducible rfl) ?_|refine wq (by simp [eC,hto,hlm,eV,eW,eP,hlen,htb,w4,eG,eD,h7];with_reducible rfl) ?_|refine wt (by simpa [eC,hto,hlm,eV,eW,eP,hlen,htb,w4,eG,eD,h7]) ?_|refine wf (by simpa [eC,hto,hlm,eV,eW,eP,hlen,htb,w4,eG,eD,h7]) ?_|refine xt (by simpa [eC,hto,hlm,eV,eW,eP,hlen,htb,w4,eG,eD,h7]) ?_|refine xf (by simpa [eC,hto,hlm,eV,eW,eP,hlen,htb,w4,eG,eD,h7]) ?_|apply wp_bs|apply wp_b|refine wp_sr ?_|refine wp_sx ?_|refine wp_ret' ?_|refine wp_skip' ?_|refine wp_exit' ?_)
  simp [zi558]
set_option maxHeartbeats 8000000 in
theorem ev_sComposeDegrees_6 (k s d:List Int) (c1 c2 c3:Bool) (hf:CmpFew k s d) (h1:valid (k++s)=true) (h2:graphic (k++s)=true) (h3:valid d=true) (h4:graphic d=true) (h5:k.length+s.length+d.length≤7) (h6:pFit k s=true) :
    Ev tb zl558 [] [L k c1,L s c2,L d c3] [] ⟨.tup [O (cmpD k s d),Bo true],[],[],[]⟩:=by
  have lk:=hf.lk
  have ls:=hf.ls
  have ld:=hf.ld
  have eC:=fun c=>ev_lim (ev_copyInts k c (by omega))
  have hto:k.take k.length=k:=List.take_of_length_le (by omega)
  have hlm:k.length+s.length≤274877906944:=by omega
  have eV:=fun c=>ev_lim (ev_validDegrees (k++s) c (by simp;omega))
  have eW:=fun c=>ev_lim (ev_validDegrees d c (by omega))
  have eP:=fun c c'=>ev_lim (ev_partsFit k s c c' (by omega) (by omega) (few_small (by omega) hf.bk) (few_small (by omega) hf.bs) (by have:=sum_bound hf.bk;omega))
  have w4:IntKind.i64.wrap ((k.length:Int)+s.length+d.length)=(k.length:Int)+s.length+d.length:=wrap64 (by omega) (by omega)
  have hlen:(k++s).length=k.length+s.length:=by simp
  have htb:(k++s).take (k.length+s.length)=k++s:=List.take_of_length_le (by simp)
  simp only [h1] at eV
  have eG:=fun c=>ev_lim (ev_isGraphic (k++s) c h1)
  simp only [h2] at eG
  simp only [h3] at eW
  have eD:=fun c=>ev_lim (ev_isGraphic d c h3)
  simp only [h4] at eD
  have h7:¬ (7:Int) < (k.length:Int)+s.length+d.length:=by omega
  simp only [h6] at eP
  have e9:=fun c c1 c2=>ev_lim (ev_composed k s d c c1 c2 (by omega) (by omega) (by omega) (fun x hx=>by have:=hf.bk x hx;omega) (fun x hx=>by have:=hf.bd x hx;omega))
  refine call_of_wp zt558 rfl ?_
  repeat (first|apply wp_as|apply wp_ss|refine wr (by simp [eC,hto,hlm,eV,eW,eP,hlen,htb,w4,eG,eD,h7,e9];with_reducible rfl) ?_|refine wq (by simp [eC,hto,hlm,eV,eW,eP,hlen,htb,w4,eG,eD,h7,e9];with_reducible rfl) ?_|refine wt (by simpa [eC,hto,hlm,eV,eW,eP,hlen,htb,w4,eG,eD,h7,e9]) ?_|refine wf (by simpa [eC,hto,hlm,eV,eW,eP,hlen,htb,w4,eG,eD,h7,e9]) ?_|refine xt (by simpa [eC,hto,hlm,eV,eW,eP,hlen,htb,w4,eG,eD,h7,e9]) ?_|refine xf (by simpa [eC,hto,hlm,eV,eW,eP,hlen,htb,w4,eG,eD,h7,e9]) ?_|apply wp_bs|apply wp_b|refine wp_sr ?_|refine wp_sx ?_|refine wp_ret' ?_|refine wp_skip' ?_|refine wp_exit' ?_)
  simp [zi558]
end Go.Idl
namespace Go.Idl
open Go
def apart (a b c d:Int):Bool:=decide (a ≠ b) && decide (a ≠ c) && decide (a ≠ d) && decide (b ≠ c) && decide (b ≠ d) && decide (c ≠ d)
def gone (a b c d:Int) (x:Int×Int):Bool:=decide (x=(min a b,max a b)) || decide (x=(min c d,max c d))
end Go.Idl
namespace Go.Idl
open Go
abbrev Q4:=Int×Int×Int×Int
def sws (xs:List Q4):List (List IV):=xs.map fun s=>[I s.1,I s.2.1,I s.2.2.1,I s.2.2.2]
@[simp] theorem sws_len (xs:List Q4):(sws xs).length=xs.length:=by simp [sws]
@[simp] theorem sws_nil:sws []=[]:=rfl
@[simp] theorem sws_take (xs:List Q4) (n:Nat):(sws xs).take n=sws (xs.take n):=by simp [sws,List.map_take]
@[simp] theorem sws_drop (xs:List Q4) (n:Nat):(sws xs).drop n=sws (xs.drop n):=by simp [sws,List.map_drop]
@[simp] theorem sws_one (xs:List Q4) (a b c d:Int):sws xs++[[IV.sc (.int .i64 a),IV.sc (.int .i64 b),IV.sc (.int .i64 c),IV.sc (.int .i64 d)]]=sws (xs++[(a,b,c,d)]):=by simp [sws]
@[simp] theorem sws_get (xs:List Q4) (i:Nat) (h:i < (sws xs).length):(sws xs)[i]=[IV.sc (.int .i64 (xs[i]'(by simpa [sws] using h)).1),IV.sc (.int .i64 (xs[i]'(by simpa [sws] using h)).2.1),IV.sc (.int .i64 (xs[i]'(by simpa [sws] using h)).2.2.1),IV.sc (.int .i64 (xs[i]'(by simpa [sws] using h)).2.2.2)]:=by simp [sws]
@[simp] theorem sws_get? (xs:List Q4) (i:Nat):(sws xs)[i]? = xs[i]?.map fun s=>[IV.sc (.int .i64 s.1),IV.sc (.int .i64 s.2.1),IV.sc (.int .i64 s.2.2.1),IV.sc (.int .i64 s.2.2.2)]:=by simp [sws]
@[simp] theorem sws_all1 (xs:List Q4):((sws xs).all fun x=>x.all IV.plain1)=true:=by
  induction xs with
  | nil=>rfl
  | cons x xs ih=>simp only [sws,List.map_cons,List.all_cons] at *;rw [ih];rfl
@[simp] theorem sws_all2 (xs:List Q4):((sws xs).all fun x=>x.all IV.isData)=true:=by
  induction xs with
  | nil=>rfl
  | cons x xs ih=>simp only [sws,List.map_cons,List.all_cons] at *;rw [ih];rfl
@[simp] theorem sws_noLst (xs:List Q4):noLstLL (sws xs)=true:=by
  induction xs with
  | nil=>rfl
  | cons x xs ih=>simp only [sws,List.map_cons,noLstLL,noLstL,noLstV] at *;rw [ih];rfl
@[simp] theorem frz_sws (xs:List Q4):frzLL (sws xs)=sws xs:=by
  induction xs with
  | nil=>rfl
  | cons x xs ih=>simp only [sws,List.map_cons,frzLL,frzL,frzV] at *;rw [ih]
end Go.Idl
namespace Go.Idl
open Go
theorem prs_le21:∀ n,n≤7→(prs n).length≤21:=by decide +kernel
end Go.Idl
namespace Go.Idl
open Go
def mgP (h:Nat) (t:List (List Int)) (e:Int×Int):Bool:=decide (e.2 < h) || (decide (e.1 < h) && decide (g2 t e.1.toNat (e.2.toNat - h)=1))
def mgE (h w:Nat) (t:List (List Int)):List (Int×Int):=(prs (h+w)).filter (mgP h t)
theorem mgP_eq (h:Nat) (t:List (List Int)) (p q:Nat):mgP h t ((p:Int),(q:Int))=(decide (q < h) || (decide (p < h) && decide (g2 t p (q - h)=1))):=by
  simp [mgP]
theorem flt_take_one {α:Type} (P:α→Bool) {l:List α} {i:Nat} (h:i < l.length):(l.take (i+1)).filter P=(l.take i).filter P++(if P l[i]=true then [l[i]] else []):=by
  rw [List.take_succ_eq_append_getElem h,List.filter_append]
  by_cases q:P l[i]=true <;> simp [q]
set_option maxHeartbeats 1000000 in
theorem sx_in (h w:Nat) (hhw:h+w≤7) (h1:1≤h) (t:List (List Int)) (c:Bool) (htl:t.length=h) (hr:∀ r ∈ t,r.length=w) :
    ∀ (m i:Nat) (Bx:Boxes),i+m=(prs (h+w)).length →
    wp tb (.loop z380l9) { T:=[(0,TL t c),(2,.bptr 0 0 0),(3,.bptr 0 1 0),(4,O2 (prs (h+w))),(5,I i)],loc:=[I 0,Z]::[I ((h:Int)+w),O2 (((prs (h+w)).take i).filter (mgP h t))]::Bx,M:=[] }
      (fun ex st=>ex=.exit 0∧∃ (Bx:Boxes),st={ T:=[(0,TL t c),(2,.bptr 0 0 0),(3,.bptr 0 1 0),(4,O2 (prs (h+w))),(5,I (prs (h+w)).length),(22,Bo false)],loc:=[I 0,Z]::[I ((h:Int)+w),O2 (mgE h w t)]::Bx,M:=[] }):=by
  have hpl:=prs_le21 (h+w) hhw
  intro m
  induction m with
  | zero =>
    intro i Bx hi
    have h3:i=(prs (h+w)).length:=hi
    subst h3
    rw [List.take_length]
    refine wp_loop ?_
    repeat (first|apply wp_as|apply wp_ss|refine wr (by simp;with_reducible rfl) ?_|refine wq (by simp;with_reducible rfl) ?_|refine wt (by simpa) ?_|refine wf (by simpa) ?_|refine xt (by simpa) ?_|refine xf (by simpa) ?_|apply wp_bs|apply wp_b|refine wp_sr ?_|refine wp_sx ?_|refine wp_ret' ?_|refine wp_skip' ?_|refine wp_exit' ?_)
    exact ⟨rfl,Bx,rfl⟩
  | succ m ih =>
    intro i Bx hi
    have hi2:i < (prs (h+w)).length:=by omega
    have he:=mem_prs.1 (List.getElem_mem hi2)
    obtain ⟨p,hp⟩:=Int.eq_ofNat_of_zero_le he.1
    obtain ⟨q,hq⟩:=Int.eq_ofNat_of_zero_le (show 0≤((prs (h+w))[i]).2 by omega)
    have hpq:p < q:=by omega
    have hqn:q < h+w:=by omega
    have w2:IntKind.i64.wrap ((i:Int)+1)=((i+1:Nat):Int):=wrapS (by omega)
    have heq:(prs (h+w))[i]=((p:Int),(q:Int)):=Prod.ext hp hq
    have hg:=ih (i+1) (Bx++[[I p,I q]]) (by omega)
    rw [flt_take_one _ hi2,heq,mgP_eq] at hg
    generalize hacc:((prs (h+w)).take i).filter (mgP h t)=acc at *
    have hall:acc.length≤21:=by
      rw [← hacc]
      refine Nat.le_trans (List.length_filter_le _ _) ?_
      simp;omega
    have hal1:acc.length+1≤274877906944:=by omega
    have hat:acc.take acc.length=acc:=List.take_of_length_le (Nat.le_refl _)
    by_cases hqh:q < h
    · have hqh':(q:Int) < (t.length:Int):=by omega
      rw [decide_eq_true hqh,Bool.true_or,if_pos rfl] at hg
      refine wp_loop ?_
      repeat (first|apply wp_as|apply wp_ss|refine wr (by simp [hi2,hp,hq,htl,hqh,hqh',w2,hal1,hat];with_reducible rfl) ?_|refine wq (by simp [hi2,hp,hq,htl,hqh,hqh',w2,hal1,hat];with_reducible rfl) ?_|refine wt (by simpa [hi2,hp,hq,htl,hqh,hqh',w2,hal1,hat]) ?_|refine wf (by simpa [hi2,hp,hq,htl,hqh,hqh',w2,hal1,hat]) ?_|refine xt (by simpa [hi2,hp,hq,htl,hqh,hqh',w2,hal1,hat]) ?_|refine xf (by simpa [hi2,hp,hq,htl,hqh,hqh',w2,hal1,hat]) ?_|apply wp_bs|apply wp_b|refine wp_sr ?_|refine wp_sx ?_|refine wp_ret' ?_|refine wp_skip' ?_|refine wp_exit' ?_)
      exact hg
    have hqh':¬ (q:Int) < (t.length:Int):=by omega
    rw [decide_eq_false hqh,Bool.false_or] at hg
    by_cases hph:p < h
    · have hpt:p < t.length:=by omega
      have hrl:=hr _ (List.getElem_mem hpt)
      obtain ⟨j,hj⟩:∃ j,q=h+j:=⟨q - h,by omega⟩
      have hjl:j < t[p].length:=by omega
      have w3:IntKind.i64.wrap ((q:Int) - h)=(j:Int):=by rw [wrap64 (by omega) (by omega)];omega
      have hjw:j < w:=by omega
      have hjq:q - h=j:=by omega
      rw [decide_eq_true hph,Bool.true_and,hjq,g2_eq hpt hjl] at hg
      by_cases hone:t[p][j]=1
      · rw [if_pos (by simp [hone])] at hg
        refine wp_loop ?_
        repeat (first|apply wp_as|apply wp_ss|refine wr (by simp [hi2,hp,hq,htl,hqh,hqh',hph,hpt,w3,hjl,hrl,hjw,hone,w2,hal1,hat];with_reducible rfl) ?_|refine wq (by simp [hi2,hp,hq,htl,hqh,hqh',hph,hpt,w3,hjl,hrl,hjw,hone,w2,hal1,hat];with_reducible rfl) ?_|refine wt (by simpa [hi2,hp,hq,htl,hqh,hqh',hph,hpt,w3,hjl,hrl,hjw,hone,w2,hal1,hat]) ?_|refine wf (by simpa [hi2,hp,hq,htl,hqh,hqh',hph,hpt,w3,hjl,hrl,hjw,hone,w2,hal1,hat]) ?_|refine xt (by simpa [hi2,hp,hq,htl,hqh,hqh',hph,hpt,w3,hjl,hrl,hjw,hone,w2,hal1,hat]) ?_|refine xf (by simpa [hi2,hp,hq,htl,hqh,hqh',hph,hpt,w3,hjl,hrl,hjw,hone,w2,hal1,hat]) ?_|apply wp_bs|apply wp_b|refine wp_sr ?_|refine wp_sx ?_|refine wp_ret' ?_|refine wp_skip' ?_|refine wp_exit' ?_)
        exact hg
      · rw [if_neg (by simp [hone]),List.append_nil] at hg
        refine wp_loop ?_
        repeat (first|apply wp_as|apply wp_ss|refine wr (by simp [hi2,hp,hq,htl,hqh,hqh',hph,hpt,w3,hjl,hrl,hjw,hone,w2,hal1,hat];with_reducible rfl) ?_|refine wq (by simp [hi2,hp,hq,htl,hqh,hqh',hph,hpt,w3,hjl,hrl,hjw,hone,w2,hal1,hat];with_reducible rfl) ?_|refine wt (by simpa [hi2,hp,hq,htl,hqh,hqh',hph,hpt,w3,hjl,hrl,hjw,hone,w2,hal1,hat]) ?_|refine wf (by simpa [hi2,hp,hq,htl,hqh,hqh',hph,hpt,w3,hjl,hrl,hjw,hone,w2,hal1,hat]) ?_|refine xt (by simpa [hi2,hp,hq,htl,hqh,hqh',hph,hpt,w3,hjl,hrl,hjw,hone,w2,hal1,hat]) ?_|refine xf (by simpa [hi2,hp,hq,htl,hqh,hqh',hph,hpt,w3,hjl,hrl,hjw,hone,w2,hal1,hat]) ?_|apply wp_bs|apply wp_b|refine wp_sr ?_|refine wp_sx ?_|refine wp_ret' ?_|refine wp_skip' ?_|refine wp_exit' ?_)
        exact hg
    · rw [decide_eq_false hph,Bool.false_and,if_neg (by simp),List.append_nil] at hg
      refine wp_loop ?_
      repeat (first|apply wp_as|apply wp_ss|refine wr (by simp [hi2,hp,hq,htl,hqh,hqh',hph,w2,hal1,hat];with_reducible rfl) ?_|refine wq (by simp [hi2,hp,hq,htl,hqh,hqh',hph,w2,hal1,hat];with_reducible rfl) ?_|refine wt (by simpa [hi2,hp,hq,htl,hqh,hqh',hph,w2,hal1,hat]) ?_|refine wf (by simpa [hi2,hp,hq,htl,hqh,hqh',hph,w2,hal1,hat]) ?_|refine xt (by simpa [hi2,hp,hq,htl,hqh,hqh',hph,w2,hal1,hat]) ?_|refine xf (by simpa [hi2,hp,hq,htl,hqh,hqh',hph,w2,hal1,hat]) ?_|apply wp_bs|apply wp_b|refine wp_sr ?_|refine wp_sx ?_|refine wp_ret' ?_|refine wp_skip' ?_|refine wp_exit' ?_)
      exact hg
theorem ev_splitGraphX (h w:Nat) (hhw:h+w≤7) (h1:1≤h) (t:List (List Int)) (c:Bool) (htl:t.length=h) (hr:∀ r ∈ t,r.length=w) :
    Ev tb zl380 [] [TL t c] [] ⟨OG ((h:Int)+w) (mgE h w t),[],[],[]⟩:=by
  have h0:0 < t.length:=by omega
  have hr0:=hr _ (List.getElem_mem h0)
  have h0':0 < h:=h1
  have w1:IntKind.i64.wrap ((h:Int)+w)=(h:Int)+w:=wrap64 (by omega) (by omega)
  have e1:=ev_lim (ev_pairs (h+w) (by omega))
  rw [show ((h+w:Nat):Int)=(h:Int)+w by omega] at e1
  have hlo:=sx_in h w hhw h1 t c htl hr (prs (h+w)).length 0 [] (by simp)
  rw [List.take_zero,List.filter_nil] at hlo
  refine call_of_wp zt380 rfl ?_
  repeat (first|apply wp_as|apply wp_ss|refine wr (by simp [htl,h0',h0,hr0,w1,e1];with_reducible rfl) ?_|refine wq (by simp [htl,h0',h0,hr0,w1,e1];with_reducible rfl) ?_|refine wt (by simpa [htl,h0',h0,hr0,w1,e1]) ?_|refine wf (by simpa [htl,h0',h0,hr0,w1,e1]) ?_|refine xt (by simpa [htl,h0',h0,hr0,w1,e1]) ?_|refine xf (by simpa [htl,h0',h0,hr0,w1,e1]) ?_|apply wp_bs|apply wp_b|refine wp_sr ?_|refine wp_sx ?_|refine wp_ret' ?_|refine wp_skip' ?_|refine wp_exit' ?_)
  refine wp_imp hlo ?_
  rintro ex st ⟨rfl,Bx,rfl⟩
  simp only [if_true]
  generalize mgE h w t=acc at *
  have hat:acc.take acc.length=acc:=List.take_of_length_le (Nat.le_refl _)
  repeat (first|apply wp_as|apply wp_ss|refine wr (by simp [hat];with_reducible rfl) ?_|refine wq (by simp [hat];with_reducible rfl) ?_|refine wt (by simpa [hat]) ?_|refine wf (by simpa [hat]) ?_|refine xt (by simpa [hat]) ?_|refine xf (by simpa [hat]) ?_|apply wp_bs|apply wp_b|refine wp_sr ?_|refine wp_sx ?_|refine wp_ret' ?_|refine wp_skip' ?_|refine wp_exit' ?_)
  simp [zi380]
section
variable (h w:Nat) (t:List (List Int)) (c:Bool) (hh:1≤h∧h≤5) (hw:1≤w∧w≤5) (hl:t.length=h) (hr:∀ r ∈ t,r.length=w) (hm:mOk t=true)
include hh hw hl hr hm
end
end Go.Idl
namespace Go.Idl
open Go
def CmpForm (X Y W:IV) (k s d:List Int):Prop:=(X=O k∧Y=O s∧W=O d) ∨ ∃ c1 c2,X=L k c1∧Y=L s c2∧W=O d
theorem low_take {B:Int} {d:List Int} (h:Low B d) (i:Nat):Low B (d.take i):=fun x hx=>h x (List.mem_of_mem_take hx)
theorem low_drop {B:Int} {d:List Int} (h:Low B d) (i:Nat):Low B (d.drop i):=fun x hx=>h x (List.mem_of_mem_drop hx)
set_option maxHeartbeats 4000000 in
theorem ev_DrawCompose (code:List Int) (c:Bool) (h:∀ x ∈ code,0≤x∧x≤255) (hl:code.length≤10000000) :
    ∃ (k s d:List Int) (X Y W:IV),CmpFew k s d∧CmpForm X Y W k s d∧limF tb zl560 [] [.lst 1 (bytes code) c] []=some ⟨.tup [X,Y,W],[],[],[]⟩:=by
  obtain ⟨c',e⟩:=ev_newReader code c [[]] (by omega)
  have e1:=ev_lim e
  have hco:=code_ok h
  obtain ⟨v1,k1,hv1,hk1,e2⟩:=pick' (code.take 2000) c' hco 0 (by omega) 2 (by omega) [] []
  have hv1:=hv1 (by omega)
  rw [show ((0:Nat):Int)=0 from rfl] at e2
  obtain ⟨v2,k2,hv2,hk2,e3⟩:=pick' (code.take 2000) c' hco k1 (by omega) 3 (by omega) [] []
  have hv2:=hv2 (by omega)
  obtain ⟨H,hH⟩:∃ H:Nat,H=1+v1:=⟨_,rfl⟩
  obtain ⟨V,hV⟩:∃ V:Nat,V=1+v2:=⟨_,rfl⟩
  have w1:IntKind.i64.wrap (1+(v1:Int))=(H:Int):=by rw [wrap64 (by omega) (by omega)];omega
  have w2:IntKind.i64.wrap (1+(v2:Int))=(V:Int):=by rw [wrap64 (by omega) (by omega)];omega
  obtain ⟨t,k3,ht,hk3,e4⟩:=ev_aMatrix (code.take 2000) c' hco k2 (by omega) H V (by omega) (by omega) [] []
  have e5:=ev_lim (ev_splitGraphX H V (by omega) (by omega) t false ht.1 (fun r hr=>(ht.2 r hr).1))
  obtain ⟨n,hn⟩:∃ n:Nat,n=H+V:=⟨_,rfl⟩
  rw [show ((H:Int)+V)=(n:Int) by omega] at e5
  have hsub:(mgE H V t).Sublist (prs n):=by rw [hn];exact List.filter_sublist
  have hel:=prs_len (by omega) hsub
  have e6:=ev_lim (ev_degrees n (mgE H V t) false (by omega) (by omega) (prs_in hsub))
  have hAl:(degs n (mgE H V t)).length=n:=degs_len n _
  have hlo:Low 1000 (degs n (mgE H V t)):=low_degs (by omega)
  generalize degs n (mgE H V t)=A at *
  obtain ⟨v3,k4,hv3,hk4,e7⟩:=pick' (code.take 2000) c' hco k3 (by omega) 4 (by omega) [] []
  have hv3:=hv3 (by omega)
  obtain ⟨es,k5,hes,hk5,e⟩:=ev_aGraph (code.take 2000) c' hco k4 (by omega) v3 (by omega) [] []
  have e8:=ev_lim e
  have hel2:=prs_len (by omega) hes
  have e9:=ev_lim (ev_degrees v3 es false (by omega) (by omega) (prs_in hes))
  have hDl:(degs v3 es).length=v3:=degs_len v3 _
  have hld:Low 1000 (degs v3 es):=low_degs (by omega)
  generalize degs v3 es=D at *
  obtain ⟨v4,k6,hv4,hk6,e10⟩:=pick' (code.take 2000) c' hco k5 (by omega) 10 (by omega) [] []
  have hHA:H≤A.length:=by omega
  have hHA':(H:Int)≤A.length:=by omega
  have hta:A.take A.length=A:=List.take_of_length_le (by omega)
  have htk:(A.take H).length=H:=by rw [List.length_take];omega
  have htk2:(A.take H).take H=A.take H:=List.take_of_length_le (by omega)
  have hlm:H+(A.length - H)≤274877906944:=by omega
  have htd:(A.drop H).take (A.length - H)=A.drop H:=List.take_of_length_le (by rw [List.length_drop];omega)
  have hld':(A.drop H).length=A.length - H:=List.length_drop
  have hmin:min H A.length=H:=by omega
  have hlm2:H≤274877906944:=by omega
  have hlm3:A.length≤274877906944:=by omega
  have hadd:H+(A.length - H)=A.length:=by omega
  have htd2:A.take H++A.drop H=A:=List.take_append_drop H A
  have hF:∀ d:List Int,d.length≤20→Low 1000 d→CmpFew (A.take H) (A.drop H) d:=fun d h1 h2=>⟨by omega,by rw [List.length_drop];omega,h1,low_take hlo H,low_drop hlo H,h2⟩
  by_cases z0:v4=0
  · subst z0
    rw [show ((0:Nat):Int)=0 from rfl] at e10
    refine ⟨A.take H++A.drop H,[],D,O (A.take H++A.drop H),O [],O D,⟨by simp;omega,by simp,by omega,by rw [List.take_append_drop];exact hlo,by simp,hld⟩,.inl ⟨rfl,rfl,rfl⟩,ev_lim ?_⟩
    have e11:=fun c=>ev_lim (ev_copyInts (A.take H) c (by omega))
    refine call_of_wp zt560 rfl ?_
    repeat (first|apply wp_as|apply wp_ss|refine wr (by simp [e1,e2,e3,e4,e5,e6,e7,e8,e9,e10,e11,w1,w2,hHA,hHA',hta,htk,htk,htk2,hlm,htd,hld',hmin,hlm2,hlm3,hadd,htd2];with_reducible rfl) ?_|refine wq (by simp [e1,e2,e3,e4,e5,e6,e7,e8,e9,e10,e11,w1,w2,hHA,hHA',hta,htk,htk,htk2,hlm,htd,hld',hmin,hlm2,hlm3,hadd,htd2];with_reducible rfl) ?_|refine wt (by simpa [e1,e2,e3,e4,e5,e6,e7,e8,e9,e10,e11,w1,w2,hHA,hHA',hta,htk,htk,htk2,hlm,htd,hld',hmin,hlm2,hlm3,hadd,htd2]) ?_|refine wf (by simpa [e1,e2,e3,e4,e5,e6,e7,e8,e9,e10,e11,w1,w2,hHA,hHA',hta,htk,htk,htk2,hlm,htd,hld',hmin,hlm2,hlm3,hadd,htd2]) ?_|refine xt (by simpa [e1,e2,e3,e4,e5,e6,e7,e8,e9,e10,e11,w1,w2,hHA,hHA',hta,htk,htk,htk2,hlm,htd,hld',hmin,hlm2,hlm3,hadd,htd2]) ?_|refine xf (by simpa [e1,e2,e3,e4,e5,e6,e7,e8,e9,e10,e11,w1,w2,hHA,hHA',hta,htk,htk,htk2,hlm,htd,hld',hmin,hlm2,hlm3,hadd,htd2]) ?_|apply wp_bs|apply wp_b|refine wp_sr ?_|refine wp_sx ?_|refine wp_ret' ?_|refine wp_skip' ?_|refine wp_exit' ?_)
    simp [zi560]
  by_cases z1:v4=1
  · subst z1
    rw [show ((1:Nat):Int)=1 from rfl] at e10
    obtain ⟨d',k7,hd',hlo',hk7,e11⟩:=ev_lifted (code.take 2000) c' hco k6 (by omega) D (by omega) hld [] []
    refine ⟨A.take H,A.drop H,d',L (A.take H) false,L (A.drop H) false,O d',hF d' (by omega) hlo',.inr ⟨false,false,rfl,rfl,rfl⟩,ev_lim ?_⟩
    refine call_of_wp zt560 rfl ?_
    repeat (first|apply wp_as|apply wp_ss|refine wr (by simp [e1,e2,e3,e4,e5,e6,e7,e8,e9,e10,e11,w1,w2,hHA,hHA',hta,htk,htk,htk2,hlm,htd,hld',hmin,hlm2,hlm3,hadd,htd2];with_reducible rfl) ?_|refine wq (by simp [e1,e2,e3,e4,e5,e6,e7,e8,e9,e10,e11,w1,w2,hHA,hHA',hta,htk,htk,htk2,hlm,htd,hld',hmin,hlm2,hlm3,hadd,htd2];with_reducible rfl) ?_|refine wt (by simpa [e1,e2,e3,e4,e5,e6,e7,e8,e9,e10,e11,w1,w2,hHA,hHA',hta,htk,htk,htk2,hlm,htd,hld',hmin,hlm2,hlm3,hadd,htd2]) ?_|refine wf (by simpa [e1,e2,e3,e4,e5,e6,e7,e8,e9,e10,e11,w1,w2,hHA,hHA',hta,htk,htk,htk2,hlm,htd,hld',hmin,hlm2,hlm3,hadd,htd2]) ?_|refine xt (by simpa [e1,e2,e3,e4,e5,e6,e7,e8,e9,e10,e11,w1,w2,hHA,hHA',hta,htk,htk,htk2,hlm,htd,hld',hmin,hlm2,hlm3,hadd,htd2]) ?_|refine xf (by simpa [e1,e2,e3,e4,e5,e6,e7,e8,e9,e10,e11,w1,w2,hHA,hHA',hta,htk,htk,htk2,hlm,htd,hld',hmin,hlm2,hlm3,hadd,htd2]) ?_|apply wp_bs|apply wp_b|refine wp_sr ?_|refine wp_sx ?_|refine wp_ret' ?_|refine wp_skip' ?_|refine wp_exit' ?_)
    simp [zi560]
  have q1:¬ (v4:Int)=0:=by omega
  have q2:¬ (v4:Int)=1:=by omega
  by_cases z2:v4=2
  · subst z2
    rw [show ((2:Nat):Int)=2 from rfl] at e10
    refine ⟨[],[0,0],D,O [],O [0,0],O D,⟨by simp,by simp,by omega,by simp,by simp,hld⟩,.inl ⟨rfl,rfl,rfl⟩,ev_lim ?_⟩
    refine call_of_wp zt560 rfl ?_
    repeat (first|apply wp_as|apply wp_ss|refine wr (by simp [e1,e2,e3,e4,e5,e6,e7,e8,e9,e10,w1,w2,hHA,hHA',hta,htk,htk,htk2,hlm,htd,hld',hmin,hlm2,hlm3,hadd,htd2];with_reducible rfl) ?_|refine wq (by simp [e1,e2,e3,e4,e5,e6,e7,e8,e9,e10,w1,w2,hHA,hHA',hta,htk,htk,htk2,hlm,htd,hld',hmin,hlm2,hlm3,hadd,htd2];with_reducible rfl) ?_|refine wt (by simpa [e1,e2,e3,e4,e5,e6,e7,e8,e9,e10,w1,w2,hHA,hHA',hta,htk,htk,htk2,hlm,htd,hld',hmin,hlm2,hlm3,hadd,htd2]) ?_|refine wf (by simpa [e1,e2,e3,e4,e5,e6,e7,e8,e9,e10,w1,w2,hHA,hHA',hta,htk,htk,htk2,hlm,htd,hld',hmin,hlm2,hlm3,hadd,htd2]) ?_|refine xt (by simpa [e1,e2,e3,e4,e5,e6,e7,e8,e9,e10,w1,w2,hHA,hHA',hta,htk,htk,htk2,hlm,htd,hld',hmin,hlm2,hlm3,hadd,htd2]) ?_|refine xf (by simpa [e1,e2,e3,e4,e5,e6,e7,e8,e9,e10,w1,w2,hHA,hHA',hta,htk,htk,htk2,hlm,htd,hld',hmin,hlm2,hlm3,hadd,htd2]) ?_|apply wp_bs|apply wp_b|refine wp_sr ?_|refine wp_sx ?_|refine wp_ret' ?_|refine wp_skip' ?_|refine wp_exit' ?_)
    simp [zi560]
  by_cases z3:v4=3
  · subst z3
    rw [show ((3:Nat):Int)=3 from rfl] at e10
    obtain ⟨es2,k7,hes2,hk7,e⟩:=ev_aGraph (code.take 2000) c' hco k6 (by omega) 6 (by omega) [] []
    have e11:=ev_lim e
    rw [show ((6:Nat):Int)=6 from rfl] at e11
    have hel3:=prs_len (by omega) hes2
    have e12:=ev_lim (ev_degrees 6 es2 false (by omega) (by omega) (prs_in hes2))
    rw [show ((6:Nat):Int)=6 from rfl] at e12
    refine ⟨A.take H,A.drop H,degs 6 es2,L (A.take H) false,L (A.drop H) false,O (degs 6 es2),hF _ (by rw [degs_len];omega) (low_degs (by omega)),.inr ⟨false,false,rfl,rfl,rfl⟩,ev_lim ?_⟩
    refine call_of_wp zt560 rfl ?_
    repeat (first|apply wp_as|apply wp_ss|refine wr (by simp [e1,e2,e3,e4,e5,e6,e7,e8,e9,e10,e11,e12,w1,w2,hHA,hHA',hta,htk,htk,htk2,hlm,htd,hld',hmin,hlm2,hlm3,hadd,htd2];with_reducible rfl) ?_|refine wq (by simp [e1,e2,e3,e4,e5,e6,e7,e8,e9,e10,e11,e12,w1,w2,hHA,hHA',hta,htk,htk,htk2,hlm,htd,hld',hmin,hlm2,hlm3,hadd,htd2];with_reducible rfl) ?_|refine wt (by simpa [e1,e2,e3,e4,e5,e6,e7,e8,e9,e10,e11,e12,w1,w2,hHA,hHA',hta,htk,htk,htk2,hlm,htd,hld',hmin,hlm2,hlm3,hadd,htd2]) ?_|refine wf (by simpa [e1,e2,e3,e4,e5,e6,e7,e8,e9,e10,e11,e12,w1,w2,hHA,hHA',hta,htk,htk,htk2,hlm,htd,hld',hmin,hlm2,hlm3,hadd,htd2]) ?_|refine xt (by simpa [e1,e2,e3,e4,e5,e6,e7,e8,e9,e10,e11,e12,w1,w2,hHA,hHA',hta,htk,htk,htk2,hlm,htd,hld',hmin,hlm2,hlm3,hadd,htd2]) ?_|refine xf (by simpa [e1,e2,e3,e4,e5,e6,e7,e8,e9,e10,e11,e12,w1,w2,hHA,hHA',hta,htk,htk,htk2,hlm,htd,hld',hmin,hlm2,hlm3,hadd,htd2]) ?_|apply wp_bs|apply wp_b|refine wp_sr ?_|refine wp_sx ?_|refine wp_ret' ?_|refine wp_skip' ?_|refine wp_exit' ?_)
    simp [zi560]
  have q3:¬ (v4:Int)=2:=by omega
  have q4:¬ (v4:Int)=3:=by omega
  refine ⟨A.take H,A.drop H,D,L (A.take H) false,L (A.drop H) false,O D,hF D (by omega) hld,.inr ⟨false,false,rfl,rfl,rfl⟩,ev_lim ?_⟩
  refine call_of_wp zt560 rfl ?_
  repeat (first|apply wp_as|apply wp_ss|refine wr (by simp [e1,e2,e3,e4,e5,e6,e7,e8,e9,e10,w1,w2,hHA,hHA',hta,htk,htk,htk2,hlm,htd,hld',q1,q2,q3,q4];with_reducible rfl) ?_|refine wq (by simp [e1,e2,e3,e4,e5,e6,e7,e8,e9,e10,w1,w2,hHA,hHA',hta,htk,htk,htk2,hlm,htd,hld',q1,q2,q3,q4];with_reducible rfl) ?_|refine wt (by simpa [e1,e2,e3,e4,e5,e6,e7,e8,e9,e10,w1,w2,hHA,hHA',hta,htk,htk,htk2,hlm,htd,hld',q1,q2,q3,q4]) ?_|refine wf (by simpa [e1,e2,e3,e4,e5,e6,e7,e8,e9,e10,w1,w2,hHA,hHA',hta,htk,htk,htk2,hlm,htd,hld',q1,q2,q3,q4]) ?_|refine xt (by simpa [e1,e2,e3,e4,e5,e6,e7,e8,e9,e10,w1,w2,hHA,hHA',hta,htk,htk,htk2,hlm,htd,hld',q1,q2,q3,q4]) ?_|refine xf (by simpa [e1,e2,e3,e4,e5,e6,e7,e8,e9,e10,w1,w2,hHA,hHA',hta,htk,htk,htk2,hlm,htd,hld',q1,q2,q3,q4]) ?_|apply wp_bs|apply wp_b|refine wp_sr ?_|refine wp_sx ?_|refine wp_ret' ?_|refine wp_skip' ?_|refine wp_exit' ?_)
  simp [zi560]
end Go.Idl
namespace Go.Idl
open Go
theorem subs_cnt:∀ (r:List (Int×Int)) (left:List Int) (ch:List (Int×Int)),(subs r left ch).length≤2 ^ r.length
  | [],left,ch=>by rw [subs];split <;> simp
  | e::r,left,ch=>by
    have h2:=subs_cnt r left ch
    rw [subs,List.length_append,List.length_cons,Nat.pow_succ]
    split
    · have h1:=subs_cnt r (decAt (decAt left e.1.toNat) e.2.toNat) (ch++[e])
      omega
    · simp;omega
theorem reals_cnt {d:List Int} (h:d.length≤7):(reals d).length≤2 ^ 49:=by
  have h1:=subs_cnt (prs d.length) d []
  have h2:=prs_len h (List.Sublist.refl (prs d.length))
  exact Nat.le_trans h1 (Nat.pow_le_pow_right (by decide) (by omega))
theorem cmpOk_of {k s d:List Int} (h1:graphic (k++s)=true) (h2:graphic d=true) (h3:k.sum=s.sum+k.length * ((k.length:Int) - 1)) (h4:(k.any fun x=>decide (x < (k.length:Int) - 1))=false)
    (h5:(s.any fun x=>decide ((k.length:Int) < x))=false) (h6:k.length+s.length+d.length≤7):CmpOk k s d:=by
  rw [List.any_eq_false] at h4 h5
  refine ⟨h1,h2,h3,fun x hx=>?_,fun x hx=>?_,h6⟩
  · have:=h4 x hx
    simp at this;omega
  · have:=h5 x hx
    simp at this;omega
theorem pFit_eq (k s:List Int):pFit k s=(decide (k.sum=s.sum+k.length * ((k.length:Int) - 1)) && (!(k.any fun x=>decide (x < (k.length:Int) - 1)) && !(s.any fun x=>decide ((k.length:Int) < x)))):=by
  rw [pFit,pF1_iff,pF2_iff]
  congr 1
  rw [decide_eq_decide]
  omega
abbrev cmpNo:IV:=.tup [Z,Bo false]
abbrev cmpYes (k s d:List Int):IV:=.tup [O (cmpD k s d),Bo true]
theorem cmp_both (k s d:List Int) (c1 c2 c3:Bool) (hf:CmpFew k s d) :
    (CmpOk k s d∧limF tb zl499 [] [L k c1,L s c2,L d c3] []=some ⟨cmpYes k s d,[],[],[]⟩∧limF tb zl558 [] [L k c1,L s c2,L d c3] []=some ⟨cmpYes k s d,[],[],[]⟩) ∨
    (limF tb zl499 [] [L k c1,L s c2,L d c3] []=some ⟨cmpNo,[],[],[]⟩∧limF tb zl558 [] [L k c1,L s c2,L d c3] []=some ⟨cmpNo,[],[],[]⟩):=by
  cases h1:graphic (k++s) with
  | false =>
    refine .inr ⟨ev_lim (ev_ComposeDegrees_0 k s d c1 c2 c3 hf h1),?_⟩
    cases v1:valid (k++s) with
    | false=>exact ev_lim (ev_sComposeDegrees_0 k s d c1 c2 c3 hf v1)
    | true=>exact ev_lim (ev_sComposeDegrees_1 k s d c1 c2 c3 hf v1 h1)
  | true =>
  have v1:=graphic_valid h1
  cases h2:graphic d with
  | false =>
    refine .inr ⟨ev_lim (ev_ComposeDegrees_1 k s d c1 c2 c3 hf h1 h2),?_⟩
    cases v2:valid d with
    | false=>exact ev_lim (ev_sComposeDegrees_2 k s d c1 c2 c3 hf v1 h1 v2)
    | true=>exact ev_lim (ev_sComposeDegrees_3 k s d c1 c2 c3 hf v1 h1 v2 h2)
  | true =>
  have v2:=graphic_valid h2
  have hp:=pFit_eq k s
  have hno:k.length+s.length+d.length≤7→pFit k s=false→limF tb zl558 [] [L k c1,L s c2,L d c3] []=some ⟨cmpNo,[],[],[]⟩:=fun h6 h =>
    ev_lim (ev_sComposeDegrees_5 k s d c1 c2 c3 hf v1 h1 v2 h2 h6 h)
  have hno2:¬ k.length+s.length+d.length≤7→limF tb zl558 [] [L k c1,L s c2,L d c3] []=some ⟨cmpNo,[],[],[]⟩:=fun h6 =>
    ev_lim (ev_sComposeDegrees_4 k s d c1 c2 c3 hf v1 h1 v2 h2 h6)
  have hno':pFit k s=false→limF tb zl558 [] [L k c1,L s c2,L d c3] []=some ⟨cmpNo,[],[],[]⟩:=fun h=>by
    by_cases h6:k.length+s.length+d.length≤7
    · exact hno h6 h
    · exact hno2 h6
  by_cases h3:k.sum=s.sum+k.length * ((k.length:Int) - 1)
  rotate_left
  · rw [decide_eq_false h3] at hp
    exact .inr ⟨ev_lim (ev_ComposeDegrees_2 k s d c1 c2 c3 hf h1 h2 h3),hno' hp⟩
  cases h4:(k.any fun x=>decide (x < (k.length:Int) - 1)) with
  | true =>
    rw [h4,Bool.not_true,Bool.false_and,Bool.and_false] at hp
    exact .inr ⟨ev_lim (ev_ComposeDegrees_3 k s d c1 c2 c3 hf h1 h2 h3 h4),hno' hp⟩
  | false =>
  cases h5:(s.any fun x=>decide ((k.length:Int) < x)) with
  | true =>
    rw [h5,Bool.not_true,Bool.and_false,Bool.and_false] at hp
    exact .inr ⟨ev_lim (ev_ComposeDegrees_4 k s d c1 c2 c3 hf h1 h2 h3 h4 h5),hno' hp⟩
  | false =>
  rw [h4,h5,decide_eq_true h3] at hp
  by_cases h6:k.length+s.length+d.length≤7
  · exact .inl ⟨cmpOk_of h1 h2 h3 h4 h5 h6,ev_lim (ev_ComposeDegrees_6 k s d c1 c2 c3 hf h1 h2 h3 h4 h5 h6),ev_lim (ev_sComposeDegrees_6 k s d c1 c2 c3 hf v1 h1 v2 h2 h6 hp)⟩
  · exact .inr ⟨ev_lim (ev_ComposeDegrees_5 k s d c1 c2 c3 hf h1 h2 h3 h4 h5 h6),hno2 h6⟩
set_option maxHeartbeats 8000000 in
theorem ev_FnComposeDegrees (code:List Int) (cl:Bool) (h:∀ x ∈ code,0≤x∧x≤255) :
    Ev tb zl527 [] [.lst 1 (bytes code) cl] [] ⟨Bo true,[],[],[]⟩:=by
  by_cases hc:(1048576:Int) < code.length
  · refine call_of_wp zt527 rfl ?_
    repeat (first|apply wp_as|apply wp_ss|refine wr (by simp [hc];with_reducible rfl) ?_|refine wq (by simp [hc];with_reducible rfl) ?_|refine wt (by simpa [hc]) ?_|refine wf (by simpa [hc]) ?_|refine xt (by simpa [hc]) ?_|refine xf (by simpa [hc]) ?_|apply wp_bs|apply wp_b|refine wp_sr ?_|refine wp_sx ?_|refine wp_ret' ?_|refine wp_skip' ?_|refine wp_exit' ?_)
    simp [zi527]
  obtain ⟨k,s,d,X,Y,W,hf,hform,e1⟩:=ev_DrawCompose code cl h (by omega)
  have lk:=hf.lk
  have ls:=hf.ls
  have ld:=hf.ld
  have ez:=ev_lim ev_equalInts_Z
  rcases hform with ⟨rfl,rfl,rfl⟩ | ⟨c1,c2,rfl,rfl,rfl⟩
  · rcases cmp_both k s d false false false hf with ⟨hok,e2,e3⟩ | ⟨e2,e3⟩
    · unfold cmpYes at e2 e3
      have hl:=cmpLaw hok
      have h7:=hok.few
      have hX:(cmpD k s d).length=k.length+s.length+d.length:=by simp [cmpD];omega
      have hB:(k++s).length=k.length+s.length:=by simp
      have vB:=graphic_valid hok.both
      have vD:=graphic_valid hok.last
      have e4:=ev_lim (ev_equalInts (cmpD k s d) (cmpD k s d) false false (by omega) (by omega))
      have e5:=ev_lim (ev_IsGraphic (cmpD k s d) false (by omega))
      have e6:=ev_lim (ev_IsSplit (cmpD k s d) false (by omega))
      have e7:=ev_lim (ev_IsSplit d false (by omega))
      have e8:=ev_lim (ev_IsThreshold (cmpD k s d) false (by omega))
      have e9:=ev_lim (ev_IsThreshold (k++s) false (by omega))
      have e10:=ev_lim (ev_IsThreshold d false (by omega))
      rw [hl.graphic] at e5
      rw [hl.split] at e6
      rw [hl.thr] at e8
      have hto:k.take k.length=k:=List.take_of_length_le (by omega)
      have hkl:k.length≤274877906944:=by omega
      have htb:(k++s).take (k.length+s.length)=k++s:=List.take_of_length_le (by simp)
      have hlm:k.length+s.length≤274877906944:=by omega
      by_cases h6:6 < (cmpD k s d).length
      · have h6':(6:Int) < (cmpD k s d).length:=by omega
        generalize cmpD k s d=X at *
        generalize decide (splitt d=0)=b1 at *
        generalize thr (k++s)=b2 at *
        generalize thr d=b3 at *
        cases b2 with
        | false =>
          refine call_of_wp zt527 rfl ?_
          repeat (first|apply wp_as|apply wp_ss|refine wr (by simp [hc,e1,e2,e3,e4,e5,e6,e7,e8,e9,e10,hto,htb,hkl,hlm,h6'];with_reducible rfl) ?_|refine wq (by simp [hc,e1,e2,e3,e4,e5,e6,e7,e8,e9,e10,hto,htb,hkl,hlm,h6'];with_reducible rfl) ?_|refine wt (by simpa [hc,e1,e2,e3,e4,e5,e6,e7,e8,e9,e10,hto,htb,hkl,hlm,h6']) ?_|refine wf (by simpa [hc,e1,e2,e3,e4,e5,e6,e7,e8,e9,e10,hto,htb,hkl,hlm,h6']) ?_|refine xt (by simpa [hc,e1,e2,e3,e4,e5,e6,e7,e8,e9,e10,hto,htb,hkl,hlm,h6']) ?_|refine xf (by simpa [hc,e1,e2,e3,e4,e5,e6,e7,e8,e9,e10,hto,htb,hkl,hlm,h6']) ?_|apply wp_bs|apply wp_b|refine wp_sr ?_|refine wp_sx ?_|refine wp_ret' ?_|refine wp_skip' ?_|refine wp_exit' ?_)
          simp [zi527]
        | true =>
          refine call_of_wp zt527 rfl ?_
          repeat (first|apply wp_as|apply wp_ss|refine wr (by simp [hc,e1,e2,e3,e4,e5,e6,e7,e8,e9,e10,hto,htb,hkl,hlm,h6'];with_reducible rfl) ?_|refine wq (by simp [hc,e1,e2,e3,e4,e5,e6,e7,e8,e9,e10,hto,htb,hkl,hlm,h6'];with_reducible rfl) ?_|refine wt (by simpa [hc,e1,e2,e3,e4,e5,e6,e7,e8,e9,e10,hto,htb,hkl,hlm,h6']) ?_|refine wf (by simpa [hc,e1,e2,e3,e4,e5,e6,e7,e8,e9,e10,hto,htb,hkl,hlm,h6']) ?_|refine xt (by simpa [hc,e1,e2,e3,e4,e5,e6,e7,e8,e9,e10,hto,htb,hkl,hlm,h6']) ?_|refine xf (by simpa [hc,e1,e2,e3,e4,e5,e6,e7,e8,e9,e10,hto,htb,hkl,hlm,h6']) ?_|apply wp_bs|apply wp_b|refine wp_sr ?_|refine wp_sx ?_|refine wp_ret' ?_|refine wp_skip' ?_|refine wp_exit' ?_)
          simp [zi527]
      · have h6':¬ (6:Int) < (cmpD k s d).length:=by omega
        have hcnt:=hl.count (by omega)
        have e11:=ev_lim (ev_CountRealizations (cmpD k s d) false hl.valid (by omega))
        have e12:=ev_lim (ev_CountRealizations (k++s) false vB (by omega))
        have e13:=ev_lim (ev_CountRealizations d false vD (by omega))
        have hcb:=reals_cnt (d:=cmpD k s d) (by omega)
        rw [hcnt] at e11 hcb
        have w1:IntKind.i64.wrap (((reals (k++s)).length:Int) * ((reals d).length:Int))=(reals (k++s)).length * (reals d).length:=by
          rw [← Int.natCast_mul]
          exact wrap64 (by omega) (by omega)
        rw [Int.natCast_mul] at e11
        generalize cmpD k s d=X at *
        generalize decide (splitt d=0)=b1 at *
        generalize thr (k++s)=b2 at *
        generalize thr d=b3 at *
        cases b2 with
        | false =>
          refine call_of_wp zt527 rfl ?_
          repeat (first|apply wp_as|apply wp_ss|refine wr (by simp [hc,e1,e2,e3,e4,e5,e6,e7,e8,e9,e10,e11,e12,e13,hto,htb,hkl,hlm,h6',w1];with_reducible rfl) ?_|refine wq (by simp [hc,e1,e2,e3,e4,e5,e6,e7,e8,e9,e10,e11,e12,e13,hto,htb,hkl,hlm,h6',w1];with_reducible rfl) ?_|refine wt (by simpa [hc,e1,e2,e3,e4,e5,e6,e7,e8,e9,e10,e11,e12,e13,hto,htb,hkl,hlm,h6',w1]) ?_|refine wf (by simpa [hc,e1,e2,e3,e4,e5,e6,e7,e8,e9,e10,e11,e12,e13,hto,htb,hkl,hlm,h6',w1]) ?_|refine xt (by simpa [hc,e1,e2,e3,e4,e5,e6,e7,e8,e9,e10,e11,e12,e13,hto,htb,hkl,hlm,h6',w1]) ?_|refine xf (by simpa [hc,e1,e2,e3,e4,e5,e6,e7,e8,e9,e10,e11,e12,e13,hto,htb,hkl,hlm,h6',w1]) ?_|apply wp_bs|apply wp_b|refine wp_sr ?_|refine wp_sx ?_|refine wp_ret' ?_|refine wp_skip' ?_|refine wp_exit' ?_)
          simp [zi527]
        | true =>
          refine call_of_wp zt527 rfl ?_
          repeat (first|apply wp_as|apply wp_ss|refine wr (by simp [hc,e1,e2,e3,e4,e5,e6,e7,e8,e9,e10,e11,e12,e13,hto,htb,hkl,hlm,h6',w1];with_reducible rfl) ?_|refine wq (by simp [hc,e1,e2,e3,e4,e5,e6,e7,e8,e9,e10,e11,e12,e13,hto,htb,hkl,hlm,h6',w1];with_reducible rfl) ?_|refine wt (by simpa [hc,e1,e2,e3,e4,e5,e6,e7,e8,e9,e10,e11,e12,e13,hto,htb,hkl,hlm,h6',w1]) ?_|refine wf (by simpa [hc,e1,e2,e3,e4,e5,e6,e7,e8,e9,e10,e11,e12,e13,hto,htb,hkl,hlm,h6',w1]) ?_|refine xt (by simpa [hc,e1,e2,e3,e4,e5,e6,e7,e8,e9,e10,e11,e12,e13,hto,htb,hkl,hlm,h6',w1]) ?_|refine xf (by simpa [hc,e1,e2,e3,e4,e5,e6,e7,e8,e9,e10,e11,e12,e13,hto,htb,hkl,hlm,h6',w1]) ?_|apply wp_bs|apply wp_b|refine wp_sr ?_|refine wp_sx ?_|refine wp_ret' ?_|refine wp_skip' ?_|refine wp_exit' ?_)
          simp [zi527]
    · refine call_of_wp zt527 rfl ?_
      repeat (first|apply wp_as|apply wp_ss|refine wr (by simp [hc,e1,e2,e3,ez];with_reducible rfl) ?_|refine wq (by simp [hc,e1,e2,e3,ez];with_reducible rfl) ?_|refine wt (by simpa [hc,e1,e2,e3,ez]) ?_|refine wf (by simpa [hc,e1,e2,e3,ez]) ?_|refine xt (by simpa [hc,e1,e2,e3,ez]) ?_|refine xf (by simpa [hc,e1,e2,e3,ez]) ?_|apply wp_bs|apply wp_b|refine wp_sr ?_|refine wp_sx ?_|refine wp_ret' ?_|refine wp_skip' ?_|refine wp_exit' ?_)
      simp [zi527]
  · rcases cmp_both k s d c1 c2 false hf with ⟨hok,e2,e3⟩ | ⟨e2,e3⟩
    · unfold cmpYes at e2 e3
      have hl:=cmpLaw hok
      have h7:=hok.few
      have hX:(cmpD k s d).length=k.length+s.length+d.length:=by simp [cmpD];omega
      have hB:(k++s).length=k.length+s.length:=by simp
      have vB:=graphic_valid hok.both
      have vD:=graphic_valid hok.last
      have e4:=ev_lim (ev_equalInts (cmpD k s d) (cmpD k s d) false false (by omega) (by omega))
      have e5:=ev_lim (ev_IsGraphic (cmpD k s d) false (by omega))
      have e6:=ev_lim (ev_IsSplit (cmpD k s d) false (by omega))
      have e7:=ev_lim (ev_IsSplit d false (by omega))
      have e8:=ev_lim (ev_IsThreshold (cmpD k s d) false (by omega))
      have e9:=ev_lim (ev_IsThreshold (k++s) false (by omega))
      have e10:=ev_lim (ev_IsThreshold d false (by omega))
      rw [hl.graphic] at e5
      rw [hl.split] at e6
      rw [hl.thr] at e8
      have hto:k.take k.length=k:=List.take_of_length_le (by omega)
      have hkl:k.length≤274877906944:=by omega
      have htb:(k++s).take (k.length+s.length)=k++s:=List.take_of_length_le (by simp)
      have hlm:k.length+s.length≤274877906944:=by omega
      by_cases h6:6 < (cmpD k s d).length
      · have h6':(6:Int) < (cmpD k s d).length:=by omega
        generalize cmpD k s d=X at *
        generalize decide (splitt d=0)=b1 at *
        generalize thr (k++s)=b2 at *
        generalize thr d=b3 at *
        cases b2 with
        | false =>
          refine call_of_wp zt527 rfl ?_
          repeat (first|apply wp_as|apply wp_ss|refine wr (by simp [hc,e1,e2,e3,e4,e5,e6,e7,e8,e9,e10,hto,htb,hkl,hlm,h6'];with_reducible rfl) ?_|refine wq (by simp [hc,e1,e2,e3,e4,e5,e6,e7,e8,e9,e10,hto,htb,hkl,hlm,h6'];with_reducible rfl) ?_|refine wt (by simpa [hc,e1,e2,e3,e4,e5,e6,e7,e8,e9,e10,hto,htb,hkl,hlm,h6']) ?_|refine wf (by simpa [hc,e1,e2,e3,e4,e5,e6,e7,e8,e9,e10,hto,htb,hkl,hlm,h6']) ?_|refine xt (by simpa [hc,e1,e2,e3,e4,e5,e6,e7,e8,e9,e10,hto,htb,hkl,hlm,h6']) ?_|refine xf (by simpa [hc,e1,e2,e3,e4,e5,e6,e7,e8,e9,e10,hto,htb,hkl,hlm,h6']) ?_|apply wp_bs|apply wp_b|refine wp_sr ?_|refine wp_sx ?_|refine wp_ret' ?_|refine wp_skip' ?_|refine wp_exit' ?_)
          simp [zi527]
        | true =>
          refine call_of_wp zt527 rfl ?_
          repeat (first|apply wp_as|apply wp_ss|refine wr (by simp [hc,e1,e2,e3,e4,e5,e6,e7,e8,e9,e10,hto,htb,hkl,hlm,h6'];with_reducible rfl) ?_|refine wq (by simp [hc,e1,e2,e3,e4,e5,e6,e7,e8,e9,e10,hto,htb,hkl,hlm,h6'];with_reducible rfl) ?_|refine wt (by simpa [hc,e1,e2,e3,e4,e5,e6,e7,e8,e9,e10,hto,htb,hkl,hlm,h6']) ?_|refine wf (by simpa [hc,e1,e2,e3,e4,e5,e6,e7,e8,e9,e10,hto,htb,hkl,hlm,h6']) ?_|refine xt (by simpa [hc,e1,e2,e3,e4,e5,e6,e7,e8,e9,e10,hto,htb,hkl,hlm,h6']) ?_|refine xf (by simpa [hc,e1,e2,e3,e4,e5,e6,e7,e8,e9,e10,hto,htb,hkl,hlm,h6']) ?_|apply wp_bs|apply wp_b|refine wp_sr ?_|refine wp_sx ?_|refine wp_ret' ?_|refine wp_skip' ?_|refine wp_exit' ?_)
          simp [zi527]
      · have h6':¬ (6:Int) < (cmpD k s d).length:=by omega
        have hcnt:=hl.count (by omega)
        have e11:=ev_lim (ev_CountRealizations (cmpD k s d) false hl.valid (by omega))
        have e12:=ev_lim (ev_CountRealizations (k++s) false vB (by omega))
        have e13:=ev_lim (ev_CountRealizations d false vD (by omega))
        have hcb:=reals_cnt (d:=cmpD k s d) (by omega)
        rw [hcnt] at e11 hcb
        have w1:IntKind.i64.wrap (((reals (k++s)).length:Int) * ((reals d).length:Int))=(reals (k++s)).length * (reals d).length:=by
          rw [← Int.natCast_mul]
          exact wrap64 (by omega) (by omega)
        rw [Int.natCast_mul] at e11
        generalize cmpD k s d=X at *
        generalize decide (splitt d=0)=b1 at *
        generalize thr (k++s)=b2 at *
        generalize thr d=b3 at *
        cases b2 with
        | false =>
          refine call_of_wp zt527 rfl ?_
          repeat (first|apply wp_as|apply wp_ss|refine wr (by simp [hc,e1,e2,e3,e4,e5,e6,e7,e8,e9,e10,e11,e12,e13,hto,htb,hkl,hlm,h6',w1];with_reducible rfl) ?_|refine wq (by simp [hc,e1,e2,e3,e4,e5,e6,e7,e8,e9,e10,e11,e12,e13,hto,htb,hkl,hlm,h6',w1];with_reducible rfl) ?_|refine wt (by simpa [hc,e1,e2,e3,e4,e5,e6,e7,e8,e9,e10,e11,e12,e13,hto,htb,hkl,hlm,h6',w1]) ?_|refine wf (by simpa [hc,e1,e2,e3,e4,e5,e6,e7,e8,e9,e10,e11,e12,e13,hto,htb,hkl,hlm,h6',w1]) ?_|refine xt (by simpa [hc,e1,e2,e3,e4,e5,e6,e7,e8,e9,e10,e11,e12,e13,hto,htb,hkl,hlm,h6',w1]) ?_|refine xf (by simpa [hc,e1,e2,e3,e4,e5,e6,e7,e8,e9,e10,e11,e12,e13,hto,htb,hkl,hlm,h6',w1]) ?_|apply wp_bs|apply wp_b|refine wp_sr ?_|refine wp_sx ?_|refine wp_ret' ?_|refine wp_skip' ?_|refine wp_exit' ?_)
          simp [zi527]
        | true =>
          refine call_of_wp zt527 rfl ?_
          repeat (first|apply wp_as|apply wp_ss|refine wr (by simp [hc,e1,e2,e3,e4,e5,e6,e7,e8,e9,e10,e11,e12,e13,hto,htb,hkl,hlm,h6',w1];with_reducible rfl) ?_|refine wq (by simp [hc,e1,e2,e3,e4,e5,e6,e7,e8,e9,e10,e11,e12,e13,hto,htb,hkl,hlm,h6',w1];with_reducible rfl) ?_|refine wt (by simpa [hc,e1,e2,e3,e4,e5,e6,e7,e8,e9,e10,e11,e12,e13,hto,htb,hkl,hlm,h6',w1]) ?_|refine wf (by simpa [hc,e1,e2,e3,e4,e5,e6,e7,e8,e9,e10,e11,e12,e13,hto,htb,hkl,hlm,h6',w1]) ?_|refine xt (by simpa [hc,e1,e2,e3,e4,e5,e6,e7,e8,e9,e10,e11,e12,e13,hto,htb,hkl,hlm,h6',w1]) ?_|refine xf (by simpa [hc,e1,e2,e3,e4,e5,e6,e7,e8,e9,e10,e11,e12,e13,hto,htb,hkl,hlm,h6',w1]) ?_|apply wp_bs|apply wp_b|refine wp_sr ?_|refine wp_sx ?_|refine wp_ret' ?_|refine wp_skip' ?_|refine wp_exit' ?_)
          simp [zi527]
    · refine call_of_wp zt527 rfl ?_
      repeat (first|apply wp_as|apply wp_ss|refine wr (by simp [hc,e1,e2,e3,ez];with_reducible rfl) ?_|refine wq (by simp [hc,e1,e2,e3,ez];with_reducible rfl) ?_|refine wt (by simpa [hc,e1,e2,e3,ez]) ?_|refine wf (by simpa [hc,e1,e2,e3,ez]) ?_|refine xt (by simpa [hc,e1,e2,e3,ez]) ?_|refine xf (by simpa [hc,e1,e2,e3,ez]) ?_|apply wp_bs|apply wp_b|refine wp_sr ?_|refine wp_sx ?_|refine wp_ret' ?_|refine wp_skip' ?_|refine wp_exit' ?_)
      simp [zi527]
end Go.Idl
