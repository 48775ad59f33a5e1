/- Part 6 of a proof by an ideal interpreter of the code: its definitions and lemmas. Conditions: none. -/
import Derived.KernelRfl
import Derived.Test.YtcneneaofkacoaaA5
set_option linter.all false
set_option linter.unusedVariables false
set_option linter.unusedSimpArgs false
namespace Go.Idl
open Go
theorem tail_sum (l:List Int) (k:Nat) (hk:k≤l.length):(l.drop (l.length - k)).sum=(l.reverse.take k).sum:=by
  rw [List.take_reverse,perm_sum (List.reverse_perm (l.drop (l.length - k)))]
theorem ev_scoreSlacks (s:List Int) (c:Bool) (hs:Few s):Ev tb zl493 [] [L s c] [] ⟨O (over s),[],[],[]⟩:=by
  have hl:=hs.1
  have e1:=ev_lim (ev_spec_falling s c (by omega))
  have hfl:(fall s).length=s.length:=fall_len s
  have loop:∀ (m i:Nat),i+m=s.length→wp tb (.loop z493l7) { T:=[(0,L s c),(3,O (fall s)),(4,O (mapR i (overT s))),(5,I ((i:Int)+1))],loc:=[],M:=[] }
      (fun ex st=>ex=.exit 0∧st={ T:=[(0,L s c),(3,O (fall s)),(4,O (over s)),(5,I ((s.length:Int)+1)),(12,Bo false)],loc:=[],M:=[] }):=by
    intro m
    induction m with
    | zero =>
      intro i hi
      have h3:i=s.length:=hi
      subst h3
      have hq:¬ ((s.length:Int)+1≤s.length):=by omega
      refine wp_loop ?_
      repeat (first|apply wp_as|apply wp_ss|refine wr (by simp [hq];with_reducible rfl) ?_|refine wq (by simp [hq];with_reducible rfl) ?_|refine wt (by simpa [hq]) ?_|refine wf (by simpa [hq]) ?_|refine xt (by simpa [hq]) ?_|refine xf (by simpa [hq]) ?_|apply wp_bs|apply wp_b|refine wp_sr ?_|refine wp_sx ?_|refine wp_ret' ?_|refine wp_skip' ?_|refine wp_exit' ?_)
      simp [over]
    | succ m ih =>
      intro i hi
      have hi2:i < s.length:=by omega
      have hi3:(i:Int)+1≤s.length:=by omega
      have w2:IntKind.i64.wrap ((i:Int)+1+1)=(i:Int)+1+1:=wrap64 (by omega) (by omega)
      obtain ⟨p,hp⟩:∃ p,p=s.length - (i+1):=⟨_,rfl⟩
      have w7:IntKind.i64.wrap ((s.length:Int) - ((i:Int)+1))=(p:Int):=by rw [wrap64 (by omega) (by omega)];omega
      have w6:IntKind.i64.wrap (i:Int)=(i:Int):=wrapN (by omega)
      have hdl:((fall s).drop p).length=i+1:=by rw [List.length_drop,hfl];omega
      have hsd:((fall s).drop p).sum=((asc0 s).take (i+1)).sum:=by
        rw [asc0,← tail_sum (fall s) (i+1) (by omega),hfl,hp]
      have hfd:Few ((fall s).drop p):=⟨by rw [hdl];omega,fun x hx=>hs.fall.2 x (List.mem_of_mem_drop hx)⟩
      have hsum:=hfd.sum
      have e3:=fun cc=>ev_lim (ev_spec_sum ((fall s).drop p) cc hfd.small)
      rw [hsd] at e3 hsum
      have hmm:0≤((i:Int)+1) * i∧((i:Int)+1) * i≤56:=by
        have h8:i≤6:=by omega
        have:∀ j:Nat,j≤6→0≤((j:Int)+1) * j∧((j:Int)+1) * j≤56:=by decide
        exact this i h8
      have w3:IntKind.i64.wrap (((i:Int)+1) * i)=((i:Int)+1) * i:=wrap64 (by omega) (by omega)
      have hq:Int.tdiv (((i:Int)+1) * i) 2=((i:Int)+1) * i / 2:=by rw [Int.tdiv_eq_ediv_of_nonneg hmm.1]
      have w4:IntKind.i64.wrap (((i:Int)+1) * i / 2)=((i:Int)+1) * i / 2:=wrap64 (by omega) (by omega)
      have w5:IntKind.i64.wrap (((asc0 s).take (i+1)).sum - ((i:Int)+1) * i / 2)=overT s i:=by rw [overT];exact wrap64 (by omega) (by omega)
      have hT:List.take (s.length - p) (List.drop p (fall s))=List.drop p (fall s):=List.take_of_length_le (by rw [hdl];omega)
      have hpl:p≤s.length:=by omega
      have hln:(mapR i (overT s)).length=i:=by simp [mapR]
      have h9:i+1≤274877906944:=by omega
      have hTm:List.take i (mapR i (overT s))=mapR i (overT s):=List.take_of_length_le (by omega)
      have hsucc:mapR i (overT s)++[overT s i]=mapR (i+1) (overT s):=by simp [mapR,List.range_succ]
      refine wp_loop ?_
      repeat (first|apply wp_as|apply wp_ss|refine wr (by simp [hi3,hfl,w7,w6,hT,hpl,e3,w3,hq,w4,w5,w2,hln,h9,hTm,hsucc];with_reducible rfl) ?_|refine wq (by simp [hi3,hfl,w7,w6,hT,hpl,e3,w3,hq,w4,w5,w2,hln,h9,hTm,hsucc];with_reducible rfl) ?_|refine wt (by simpa [hi3,hfl,w7,w6,hT,hpl,e3,w3,hq,w4,w5,w2,hln,h9,hTm,hsucc]) ?_|refine wf (by simpa [hi3,hfl,w7,w6,hT,hpl,e3,w3,hq,w4,w5,w2,hln,h9,hTm,hsucc]) ?_|refine xt (by simpa [hi3,hfl,w7,w6,hT,hpl,e3,w3,hq,w4,w5,w2,hln,h9,hTm,hsucc]) ?_|refine xf (by simpa [hi3,hfl,w7,w6,hT,hpl,e3,w3,hq,w4,w5,w2,hln,h9,hTm,hsucc]) ?_|apply wp_bs|apply wp_b|refine wp_sr ?_|refine wp_sx ?_|refine wp_ret' ?_|refine wp_skip' ?_|refine wp_exit' ?_)
      have:=ih (i+1) (by omega)
      simpa using this
  have:=loop 0
  have hgo:=loop s.length 0 (by omega)
  rw [show mapR 0 (overT s)=[] from rfl] at hgo
  simp only [O,ints_nil] at hgo
  refine call_of_wp zt493 rfl ?_
  repeat (first|apply wp_as|apply wp_ss|refine wr (by simp [e1];with_reducible rfl) ?_|refine wq (by simp [e1];with_reducible rfl) ?_|refine wt (by simpa [e1]) ?_|refine wf (by simpa [e1]) ?_|refine xt (by simpa [e1]) ?_|refine xf (by simpa [e1]) ?_|apply wp_bs|apply wp_b|refine wp_sr ?_|refine wp_sx ?_|refine wp_ret' ?_|refine wp_skip' ?_|refine wp_exit' ?_)
  refine wp_imp hgo ?_
  rintro ex st ⟨rfl,rfl⟩
  try simp only [if_true]
  repeat (first|apply wp_as|apply wp_ss|refine wr (by simp;with_reducible rfl) ?_|refine wq (by simp;with_reducible rfl) ?_|refine wt (by simpa) ?_|refine wf (by simpa) ?_|refine xt (by simpa) ?_|refine xf (by simpa) ?_|apply wp_bs|apply wp_b|refine wp_sr ?_|refine wp_sx ?_|refine wp_ret' ?_|refine wp_skip' ?_|refine wp_exit' ?_)
  simp [zi493]
theorem ev_isScores (s:List Int) (c:Bool) (hs:Few s) (h1:1≤s.length):Ev tb zl492 [] [L s c] [] ⟨Bo (isScr s),[],[],[]⟩:=by
  have hl:=hs.1
  have e1:=ev_lim (ev_scoreSlacks s c hs)
  have hol:=over_len s
  have e2:=fun c=>ev_lim (ev_least (over s) c (by omega))
  have hz:=least_zero (over s)
  have hx:isScr s=if least (over s)=0 then decide ((over s).getD (s.length - 1) 0=0) else false:=by
    rw [isScr]
    by_cases h:least (over s)=0
    · rw [if_pos h,decide_eq_true (hz.1 h)];rfl
    · rw [if_neg h,decide_eq_false (fun q=>h (hz.2 q))];rfl
  rw [hx]
  obtain ⟨n,hn⟩:∃ n,s.length=n+1:=⟨s.length - 1,by omega⟩
  rw [hn] at hol ⊢
  generalize over s=o at *
  have w1:IntKind.i64.wrap ((n:Int)+1 - 1)=(n:Int):=by rw [wrap64 (by omega) (by omega)];omega
  have w2:IntKind.i64.wrap (n:Int)=(n:Int):=wrapN (by omega)
  have hno:n < o.length:=by omega
  have hn1:n < n+1:=by omega
  have hto:List.take (n+1) o=o:=List.take_of_length_le (by omega)
  rw [Nat.add_sub_cancel,getD_get hno]
  by_cases h:least o=0
  · rw [if_pos h]
    refine call_of_wp zt492 rfl ?_
    repeat (first|apply wp_as|apply wp_ss|refine wr (by simp [e1,e2,h,hol,hto,w1,w2,hno,hn1];with_reducible rfl) ?_|refine wq (by simp [e1,e2,h,hol,hto,w1,w2,hno,hn1];with_reducible rfl) ?_|refine wt (by simpa [e1,e2,h,hol,hto,w1,w2,hno,hn1]) ?_|refine wf (by simpa [e1,e2,h,hol,hto,w1,w2,hno,hn1]) ?_|refine xt (by simpa [e1,e2,h,hol,hto,w1,w2,hno,hn1]) ?_|refine xf (by simpa [e1,e2,h,hol,hto,w1,w2,hno,hn1]) ?_|apply wp_bs|apply wp_b|refine wp_sr ?_|refine wp_sx ?_|refine wp_ret' ?_|refine wp_skip' ?_|refine wp_exit' ?_)
    simp [zi492]
    rfl
  · rw [if_neg h]
    refine call_of_wp zt492 rfl ?_
    repeat (first|apply wp_as|apply wp_ss|refine wr (by simp [e1,e2,h,hol,hto];with_reducible rfl) ?_|refine wq (by simp [e1,e2,h,hol,hto];with_reducible rfl) ?_|refine wt (by simpa [e1,e2,h,hol,hto]) ?_|refine wf (by simpa [e1,e2,h,hol,hto]) ?_|refine xt (by simpa [e1,e2,h,hol,hto]) ?_|refine xf (by simpa [e1,e2,h,hol,hto]) ?_|apply wp_bs|apply wp_b|refine wp_sr ?_|refine wp_sx ?_|refine wp_ret' ?_|refine wp_skip' ?_|refine wp_exit' ?_)
    simp [zi492]
theorem valS_few {s:List Int} (h:valS s=true):Few s∧(1≤s.length∧s.length≤5)∧∀ x ∈ s,0≤x∧x≤(s.length:Int) - 1:=by
  simp only [valS,Bool.and_eq_true,List.all_eq_true,decide_eq_true_eq] at h
  refine ⟨⟨by omega,fun x hx=>by have:=h.1 x hx;omega⟩,by omega,fun x hx=>by have:=h.1 x hx;omega⟩
theorem ev_spec_IsScores (s:List Int) (c:Bool) (hl:s.length≤2000000):Ev tb zl488 [] [L s c] [] ⟨Bo (valS s && isScr s),[],[],[]⟩:=by
  have e1:=ev_lim (ev_validScores s c hl)
  cases hv:valS s with
  | false =>
    rw [hv] at e1
    refine call_of_wp zt488 rfl ?_
    repeat (first|apply wp_as|apply wp_ss|refine wr (by simp [e1];with_reducible rfl) ?_|refine wq (by simp [e1];with_reducible rfl) ?_|refine wt (by simpa [e1]) ?_|refine wf (by simpa [e1]) ?_|refine xt (by simpa [e1]) ?_|refine xf (by simpa [e1]) ?_|apply wp_bs|apply wp_b|refine wp_sr ?_|refine wp_sx ?_|refine wp_ret' ?_|refine wp_skip' ?_|refine wp_exit' ?_)
    simp [zi488]
  | true =>
    rw [hv] at e1
    obtain ⟨h1,h2,h3⟩:=valS_few hv
    have e2:=ev_lim (ev_isScores s c h1 h2.1)
    refine call_of_wp zt488 rfl ?_
    repeat (first|apply wp_as|apply wp_ss|refine wr (by simp [e1,e2];with_reducible rfl) ?_|refine wq (by simp [e1,e2];with_reducible rfl) ?_|refine wt (by simpa [e1,e2]) ?_|refine wf (by simpa [e1,e2]) ?_|refine xt (by simpa [e1,e2]) ?_|refine xf (by simpa [e1,e2]) ?_|apply wp_bs|apply wp_b|refine wp_sr ?_|refine wp_sx ?_|refine wp_ret' ?_|refine wp_skip' ?_|refine wp_exit' ?_)
    simp [zi488]
theorem ev_IsScores_all (s:List Int) (c:Bool) (hl:s.length≤2000000):Ev tb zl11 [] [L s c] [] ⟨Bo (valS s && isScr s),[],[],[]⟩:=by
  cases hv:valS s with
  | true =>
    obtain ⟨h1,h2,h3⟩:=valS_few hv
    exact ev_IsScores s c h2 h3
  | false =>
    have e1:=ev_lim (ev_in (s.length:Int) 1 5)
    have e2:=ev_lim (ev_allIn s c 0 ((s.length:Int) - 1) (by omega))
    have w1:IntKind.i64.wrap ((s.length:Int) - 1)=(s.length:Int) - 1:=wrap64 (by omega) (by omega)
    have hx:(s.all fun x=>decide (0≤x) && decide (x≤(s.length:Int) - 1))=(s.all fun x=>decide (0≤x) && decide (x < s.length)):=by
      congr 1;funext x;congr 1;rw [decide_eq_decide];omega
    rw [hx] at e2
    rw [valS] at hv
    generalize (s.all fun x=>decide (0≤x) && decide (x < (s.length:Int)))=p at *
    generalize (decide (1≤(s.length:Int)) && decide ((s.length:Int)≤5))=q at *
    cases q with
    | false =>
      refine call_of_wp zt11 rfl ?_
      repeat (first|apply wp_as|apply wp_ss|refine wr (by simp [e1];with_reducible rfl) ?_|refine wq (by simp [e1];with_reducible rfl) ?_|refine wt (by simpa [e1]) ?_|refine wf (by simpa [e1]) ?_|refine xt (by simpa [e1]) ?_|refine xf (by simpa [e1]) ?_|apply wp_bs|apply wp_b|refine wp_sr ?_|refine wp_sx ?_|refine wp_ret' ?_|refine wp_skip' ?_|refine wp_exit' ?_)
      simp [zi11]
    | true =>
      simp only [Bool.and_true] at hv
      subst hv
      refine call_of_wp zt11 rfl ?_
      repeat (first|apply wp_as|apply wp_ss|refine wr (by simp [e1,e2,w1];with_reducible rfl) ?_|refine wq (by simp [e1,e2,w1];with_reducible rfl) ?_|refine wt (by simpa [e1,e2,w1]) ?_|refine wf (by simpa [e1,e2,w1]) ?_|refine xt (by simpa [e1,e2,w1]) ?_|refine xf (by simpa [e1,e2,w1]) ?_|apply wp_bs|apply wp_b|refine wp_sr ?_|refine wp_sx ?_|refine wp_ret' ?_|refine wp_skip' ?_|refine wp_exit' ?_)
      simp [zi11]
end Go.Idl
namespace Go.Idl
open Go
def bestF (l low:List Int):List Int→Int→Int
  | [],best=>best
  | b::r,best=>bestF l low r (if b ∈ low then best else if best < 0 then b else if l.getD b.toNat 0 < l.getD best.toNat 0 then b else best)
def lowF (l cands:List Int):Nat→List Int→List Int
  | 0,low=>low
  | k+1,low=>lowF l cands k (low++[bestF l low cands (-1)])
def spRow (i:Nat) (low:List Int):List Int→List Int→List (List Int)→List Int×List (List Int)
  | [],l,t=>(l,t)
  | b::r,l,t=>if b ∈ low then spRow i low r l (set2 t i b.toNat 1) else spRow i low r (decAt l b.toNat) (set2 t b.toNat i 1)
def upN (i:Nat):Nat→List Int
  | 0=>[]
  | m+1=>(i:Int)::upN (i+1) m
def rsS (n:Nat):Nat→Nat→List Int→List (List Int)→List (List Int)
  | 0,_,_,t=>t
  | m+1,i,l,t=>rsS n m (i+1) (spRow i (lowF l (upN (i+1) m) (l.getD i 0).toNat []) (upN (i+1) m) l t).1 (spRow i (lowF l (upN (i+1) m) (l.getD i 0).toNat []) (upN (i+1) m) l t).2
def realS2 (s:List Int):List (List Int):=rsS s.length s.length 0 s (zeroT s.length s.length)
end Go.Idl
namespace Go.Idl
open Go
@[simp] theorem un_neg (n:Int):Op.unary .neg (.int .i64 n)=.pure (.int .i64 (IntKind.i64.wrap (-n))):=by
  rw [← Int.zero_sub];rfl
def gs (r c:List Int) (i:Nat):Int:=-((fall r).take (i+1)).sum+(c.map fun x:Int=>min x ((i:Int)+1)).sum
end Go.Idl
namespace Go.Idl
open Go
def MM (h w:Nat) (t:List (List Int)):Prop:=t.length=h∧∀ r ∈ t,r.length=w∧∀ x ∈ r,0≤x∧x≤1
theorem ev_rowSums (t:List (List Int)) (c:Bool) (hl:t.length≤1000) (h:∀ r ∈ t,Few r) :
    Ev tb zl371 [] [TL t c] [] ⟨O (t.map List.sum),[],[],[]⟩:=by
  have loop:∀ (m i:Nat),i+m=t.length→wp tb (.loop z371l6) { T:=[(0,TL t c),(3,O ((t.take i).map List.sum)),(4,I i)],loc:=[],M:=[] }
      (fun ex st=>ex=.exit 0∧st={ T:=[(0,TL t c),(3,O (t.map List.sum)),(4,I t.length),(9,Bo false)],loc:=[],M:=[] }):=by
    intro m
    induction m with
    | zero =>
      intro i hi
      have h3:i=t.length:=hi
      subst h3
      refine wp_loop ?_
      repeat (first|apply wp_as|apply wp_ss|refine wr (by simp;with_reducible rfl) ?_|refine wq (by simp;with_reducible rfl) ?_|refine wt (by simpa) ?_|refine wf (by simpa) ?_|refine xt (by simpa) ?_|refine xf (by simpa) ?_|apply wp_bs|apply wp_b|refine wp_sr ?_|refine wp_sx ?_|refine wp_ret' ?_|refine wp_skip' ?_|refine wp_exit' ?_)
      exact ⟨rfl,by simp⟩
    | succ m ih =>
      intro i hi
      have hi2:i < t.length:=by omega
      have w2:IntKind.i64.wrap ((i:Int)+1)=((i+1:Nat):Int):=wrapS (by omega)
      have e1:=ev_lim (ev_spec_sum t[i] false (h _ (List.getElem_mem hi2)).small)
      have hs:(t.take (i+1)).map List.sum=(t.take i).map List.sum++[t[i].sum]:=by
        rw [List.take_succ_eq_append_getElem hi2,List.map_append];rfl
      have hg:=ih (i+1) (by omega)
      have hlt:((t.take i).map List.sum).length≤274877906943:=by simp;omega
      rw [hs] at hg
      generalize (t.take i).map List.sum=o at *
      have hot:o.take o.length=o:=List.take_of_length_le (by omega)
      refine wp_loop ?_
      repeat (first|apply wp_as|apply wp_ss|refine wr (by simp [hi2,e1,hlt,w2,hot];with_reducible rfl) ?_|refine wq (by simp [hi2,e1,hlt,w2,hot];with_reducible rfl) ?_|refine wt (by simpa [hi2,e1,hlt,w2,hot]) ?_|refine wf (by simpa [hi2,e1,hlt,w2,hot]) ?_|refine xt (by simpa [hi2,e1,hlt,w2,hot]) ?_|refine xf (by simpa [hi2,e1,hlt,w2,hot]) ?_|apply wp_bs|apply wp_b|refine wp_sr ?_|refine wp_sx ?_|refine wp_ret' ?_|refine wp_skip' ?_|refine wp_exit' ?_)
      exact hg
  refine call_of_wp zt371 rfl ?_
  repeat (first|apply wp_as|apply wp_ss|refine wr (by simp;with_reducible rfl) ?_|refine wq (by simp;with_reducible rfl) ?_|refine wt (by simpa) ?_|refine wf (by simpa) ?_|refine xt (by simpa) ?_|refine xf (by simpa) ?_|apply wp_bs|apply wp_b|refine wp_sr ?_|refine wp_sx ?_|refine wp_ret' ?_|refine wp_skip' ?_|refine wp_exit' ?_)
  have:=loop t.length 0 (by omega)
  simp at this
  refine wp_imp this ?_
  rintro ex st ⟨rfl,rfl⟩
  simp only [if_true]
  repeat (first|apply wp_as|apply wp_ss|refine wr (by simp;with_reducible rfl) ?_|refine wq (by simp;with_reducible rfl) ?_|refine wt (by simpa) ?_|refine wf (by simpa) ?_|refine xt (by simpa) ?_|refine xf (by simpa) ?_|apply wp_bs|apply wp_b|refine wp_sr ?_|refine wp_sx ?_|refine wp_ret' ?_|refine wp_skip' ?_|refine wp_exit' ?_)
  simp [zi371]
  rw [List.take_of_length_le (by simp)]
end Go.Idl
namespace Go.Idl
open Go
theorem MM.few {h w:Nat} {t:List (List Int)} (ht:MM h w t) (hw:w≤5):∀ r ∈ t,Few r:=fun r hr=>⟨by have:=(ht.2 r hr).1;omega,fun x hx=>by have:=(ht.2 r hr).2 x hx;omega⟩
theorem MM.sums {h w:Nat} {t:List (List Int)} (ht:MM h w t) (hw:w≤5):∀ x ∈ t.map List.sum,0≤x∧x≤5:=by
  intro x hx
  obtain ⟨r,hr,rfl⟩:=List.mem_map.1 hx
  have h1:=ht.2 r hr
  have:=sum01 r h1.2
  omega
end Go.Idl
namespace Go.Idl
open Go
def fl (t:List (List Int)) (a b:Nat):List (List Int):=(t.set a ((t.getD a []).set b 0)).set b ((t.getD b []).set a 1)
theorem fl_eq {t:List (List Int)} {a b:Nat} (ha:a < t.length) (hb:b < t.length):fl t a b=(t.set a (t[a].set b 0)).set b (t[b].set a 1):=by
  simp [fl,List.getD_eq_getElem?_getD,List.getElem?_eq_getElem ha,List.getElem?_eq_getElem hb]
theorem TT.fl {n:Nat} {t:List (List Int)} (h:TT n t) {a b:Nat} (ha:a < n) (hb:b < n) (hne:a ≠ b):TT n (fl t a b):=by
  have ha':a < t.length:=by rw [h.1];exact ha
  have hb':b < t.length:=by rw [h.1];exact hb
  rw [fl_eq ha' hb']
  have h1:=h.set (b:=b) (v:=0) ha' (by omega)
  have hb2:b < (t.set a (t[a].set b 0)).length:=by simpa using hb'
  have h2:=h1.set (b:=a) (v:=1) hb2 (by omega)
  have:(t.set a (t[a].set b 0))[b]=t[b]:=by rw [List.getElem_set_ne hne]
  rw [this] at h2
  exact h2
def turned (t:List (List Int)) (a b c:Nat):List (List Int):=fl (fl (fl t a b) b c) c a
theorem Tour.tt {t:List (List Int)} (h:Tour t):TT t.length t:=⟨rfl,fun r hr=>⟨(h.2.1 r hr).1,(h.2.1 r hr).2⟩⟩
end Go.Idl
namespace Go.Idl
open Go
theorem TT.row {n:Nat} {t:List (List Int)} (h:TT n t) {a:Nat} (ha:a < n):(t.getD a []).length=n:=by
  have ha':a < t.length:=by rw [h.1];exact ha
  rw [List.getD_eq_getElem?_getD,List.getElem?_eq_getElem ha',Option.getD_some]
  exact (h.2 _ (List.getElem_mem ha')).1
theorem TT.ext {n:Nat} {t u:List (List Int)} (ht:TT n t) (hu:TT n u) (h:∀ i j,i < n→j < n→g2 t i j=g2 u i j):t=u:=by
  rw [← tabF_self ht,← tabF_self hu]
  unfold tabF
  refine List.map_congr_left fun i hi=>?_
  unfold mapR
  exact List.map_congr_left fun j hj=>h i j (List.mem_range.1 hi) (List.mem_range.1 hj)
end Go.Idl
namespace Go.Idl
open Go
theorem TT.few {n:Nat} {t:List (List Int)} (ht:TT n t) (hn:n≤5):∀ r ∈ t,Few r:=fun r hr=>⟨by have:=(ht.2 r hr).1;omega,fun x hx=>by have:=(ht.2 r hr).2 x hx;omega⟩
theorem TT.sums {n:Nat} {t:List (List Int)} (ht:TT n t) (hn:n≤5):∀ x ∈ t.map List.sum,0≤x∧x≤5:=by
  intro x hx
  obtain ⟨r,hr,rfl⟩:=List.mem_map.1 hx
  have h1:=ht.2 r hr
  have:=sum01 r h1.2
  omega
def nudge (y x m:Int):Int:=if m < (if y+x < 0 then 0 else y+x) then m else (if y+x < 0 then 0 else y+x)
set_option maxHeartbeats 4000000 in
theorem ev_someScores (code:List Int) (c:Bool) (hc:CodeOk code) (cnt:Nat) (hn:cnt≤50000) (bs:Boxes) (Ms:List Boxes) :
    ∃ (a:List Int) (k:Nat),a.length≤6∧limF tb zl494 [] [.bptr 0 0 0] ((R code c cnt::bs)::Ms)=some ⟨O a,[],(R code c k::bs)::Ms,[]⟩:=by
  suffices h:∃ r,(∃ (a:List Int) (k:Nat),a.length≤6∧r=⟨O a,[],(R code c k::bs)::Ms,[]⟩)∧Ev tb zl494 [] [.bptr 0 0 0] ((R code c cnt::bs)::Ms) r by
    obtain ⟨r,⟨a,k,h1,rfl⟩,h⟩:=h
    exact ⟨a,k,h1,ev_lim h⟩
  refine call_ex zt494 rfl ?_
  obtain ⟨n,t,k1,hn1,hn5,ht,hk1,p1⟩:=ev_aTournament code c hc cnt (by omega) bs (Ms++[[]])
  have e1:=fun cc=>ev_lim (ev_rowSums t cc (by have:=ht.1;omega) (ht.few (by omega)))
  have sa:=ht.sums (by omega)
  have la:(t.map List.sum).length=n:=by simp [ht.1]
  generalize t.map List.sum=a at *
  have fin1:∀ (z:IV) (a:List Int) (k:Nat),k≤60000→a.length≤5 →
      wp tb (.seq (.seq z494r7 (.block 0 (.seq z494r8 (.cond (.t 58) (.seq z494r9 .ret) (.seq z494r10 (.cond (.t 63) (.seq z494r11 .ret) .skip)))))) (.seq z494r12 .ret))
        { T:=(0,.bptr 0 0 0)::(3,O a)::[],loc:=[],M:=(R code c k::bs)::Ms }
        (fun ex st=>(ex=.normal ∨ ex=.ret)∧∃ r,(∃ (a:List Int) (k:Nat),a.length≤6∧r=⟨O a,[],(R code c k::bs)::Ms,[]⟩)∧finish zi494 [] st=some r):=by
    intro z a k hk hal
    obtain ⟨v,k5,hv,hk5,q1⟩:=pick' code c hc k (by omega) 24 (by omega) bs (Ms++[[]])
    have hat:a.take a.length=a:=List.take_of_length_le (by omega)
    by_cases v0:v=0
    · subst v0
      rw [show ((0:Nat):Int)=0 from rfl] at q1
      repeat (first|apply wp_as|apply wp_ss|refine wr (by simp [q1,hat,show a.length≤274877906943 by omega];with_reducible rfl) ?_|refine wq (by simp [q1,hat,show a.length≤274877906943 by omega];with_reducible rfl) ?_|refine wt (by simpa [q1,hat,show a.length≤274877906943 by omega]) ?_|refine wf (by simpa [q1,hat,show a.length≤274877906943 by omega]) ?_|refine xt (by simpa [q1,hat,show a.length≤274877906943 by omega]) ?_|refine xf (by simpa [q1,hat,show a.length≤274877906943 by omega]) ?_|apply wp_bs|apply wp_b|refine wp_sr ?_|refine wp_sx ?_|refine wp_ret' ?_|refine wp_skip' ?_|refine wp_exit' ?_)
      exact ⟨.inr rfl,_,⟨a++[-1],k5,by simp;omega,rfl⟩,by simp [zi494]⟩
    by_cases v1:v=1
    · subst v1
      rw [show ((1:Nat):Int)=1 from rfl] at q1
      repeat (first|apply wp_as|apply wp_ss|refine wr (by simp [q1];with_reducible rfl) ?_|refine wq (by simp [q1];with_reducible rfl) ?_|refine wt (by simpa [q1]) ?_|refine wf (by simpa [q1]) ?_|refine xt (by simpa [q1]) ?_|refine xf (by simpa [q1]) ?_|apply wp_bs|apply wp_b|refine wp_sr ?_|refine wp_sx ?_|refine wp_ret' ?_|refine wp_skip' ?_|refine wp_exit' ?_)
      exact ⟨.inr rfl,_,⟨[],k5,by simp,rfl⟩,by simp [zi494]⟩
    have v1':¬ (v:Int)=1:=by omega
    repeat (first|apply wp_as|apply wp_ss|refine wr (by simp [q1,v0,v1'];with_reducible rfl) ?_|refine wq (by simp [q1,v0,v1'];with_reducible rfl) ?_|refine wt (by simpa [q1,v0,v1']) ?_|refine wf (by simpa [q1,v0,v1']) ?_|refine xt (by simpa [q1,v0,v1']) ?_|refine xf (by simpa [q1,v0,v1']) ?_|apply wp_bs|apply wp_b|refine wp_sr ?_|refine wp_sx ?_|refine wp_ret' ?_|refine wp_skip' ?_|refine wp_exit' ?_)
    exact ⟨.inr rfl,_,⟨a,k5,by omega,rfl⟩,by simp [zi494,hat]⟩
  have fin2:∀ (z:IV) (a:List Int) (k:Nat),k≤60000→a.length≤5 →
      wp tb (.seq (.seq z494r7 (.block 0 (.seq z494r8 (.cond (.t 58) (.seq z494r9 .ret) (.seq z494r10 (.cond (.t 63) (.seq z494r11 .ret) .skip)))))) (.seq z494r12 .ret))
        { T:=(0,.bptr 0 0 0)::(3,O a)::[(15,z)],loc:=[],M:=(R code c k::bs)::Ms }
        (fun ex st=>(ex=.normal ∨ ex=.ret)∧∃ r,(∃ (a:List Int) (k:Nat),a.length≤6∧r=⟨O a,[],(R code c k::bs)::Ms,[]⟩)∧finish zi494 [] st=some r):=by
    intro z a k hk hal
    obtain ⟨v,k5,hv,hk5,q1⟩:=pick' code c hc k (by omega) 24 (by omega) bs (Ms++[[]])
    have hat:a.take a.length=a:=List.take_of_length_le (by omega)
    by_cases v0:v=0
    · subst v0
      rw [show ((0:Nat):Int)=0 from rfl] at q1
      repeat (first|apply wp_as|apply wp_ss|refine wr (by simp [q1,hat,show a.length≤274877906943 by omega];with_reducible rfl) ?_|refine wq (by simp [q1,hat,show a.length≤274877906943 by omega];with_reducible rfl) ?_|refine wt (by simpa [q1,hat,show a.length≤274877906943 by omega]) ?_|refine wf (by simpa [q1,hat,show a.length≤274877906943 by omega]) ?_|refine xt (by simpa [q1,hat,show a.length≤274877906943 by omega]) ?_|refine xf (by simpa [q1,hat,show a.length≤274877906943 by omega]) ?_|apply wp_bs|apply wp_b|refine wp_sr ?_|refine wp_sx ?_|refine wp_ret' ?_|refine wp_skip' ?_|refine wp_exit' ?_)
      exact ⟨.inr rfl,_,⟨a++[-1],k5,by simp;omega,rfl⟩,by simp [zi494]⟩
    by_cases v1:v=1
    · subst v1
      rw [show ((1:Nat):Int)=1 from rfl] at q1
      repeat (first|apply wp_as|apply wp_ss|refine wr (by simp [q1];with_reducible rfl) ?_|refine wq (by simp [q1];with_reducible rfl) ?_|refine wt (by simpa [q1]) ?_|refine wf (by simpa [q1]) ?_|refine xt (by simpa [q1]) ?_|refine xf (by simpa [q1]) ?_|apply wp_bs|apply wp_b|refine wp_sr ?_|refine wp_sx ?_|refine wp_ret' ?_|refine wp_skip' ?_|refine wp_exit' ?_)
      exact ⟨.inr rfl,_,⟨[],k5,by simp,rfl⟩,by simp [zi494]⟩
    have v1':¬ (v:Int)=1:=by omega
    repeat (first|apply wp_as|apply wp_ss|refine wr (by simp [q1,v0,v1'];with_reducible rfl) ?_|refine wq (by simp [q1,v0,v1'];with_reducible rfl) ?_|refine wt (by simpa [q1,v0,v1']) ?_|refine wf (by simpa [q1,v0,v1']) ?_|refine xt (by simpa [q1,v0,v1']) ?_|refine xf (by simpa [q1,v0,v1']) ?_|apply wp_bs|apply wp_b|refine wp_sr ?_|refine wp_sx ?_|refine wp_ret' ?_|refine wp_skip' ?_|refine wp_exit' ?_)
    exact ⟨.inr rfl,_,⟨a,k5,by omega,rfl⟩,by simp [zi494,hat]⟩
  have hto:t.take t.length=t:=List.take_of_length_le (by omega)
  by_cases hn2:n≤1
  · have hq:¬ ((1:Int) < (n:Int)):=by omega
    repeat (first|apply wp_as|apply wp_ss|refine wr (by simp [p1,hto,e1,la,hq];with_reducible rfl) ?_|refine wq (by simp [p1,hto,e1,la,hq];with_reducible rfl) ?_|refine wt (by simpa [p1,hto,e1,la,hq]) ?_|refine wf (by simpa [p1,hto,e1,la,hq]) ?_|refine xt (by simpa [p1,hto,e1,la,hq]) ?_|refine xf (by simpa [p1,hto,e1,la,hq]) ?_|apply wp_bs|apply wp_b|refine wp_sr ?_|refine wp_sx ?_|refine wp_ret' ?_|refine wp_skip' ?_|refine wp_exit' ?_)
    exact fin2 _ a k1 (by omega) (by omega)
  have hq:(1:Int) < (n:Int):=by omega
  obtain ⟨v3,k4,hv3,hk4,p4⟩:=pick' code c hc k1 (by omega) 3 (by omega) bs (Ms++[[]])
  by_cases v30:v3=0
  rotate_left
  · repeat (first | apply wp_as | apply wp_ss | refine wr (by simp [p1,hto,e1,la,hq,p4,v30];with_reducible rfl) ?_ | refine wq (by simp [p1,hto,e1,la,hq,p4,v30];with_reducible rfl) ?_ | refine wt (by simpa [p1,hto,e1,la,hq,p4,v30]) ?_ | refine wf (by simpa [p1,hto,e1,la,hq,p4,v30]) ?_ | refine xt (by simpa [p1,hto,e1,la,hq,p4,v30]) ?_ | refine xf (by simpa [p1,hto,e1,la,hq,p4,v30]) ?_ | apply wp_bs | apply wp_b | refine wp_sr ?_ | refine wp_sx ?_ | refine wp_ret' ?_ | refine wp_skip' ?_ | refine wp_exit' ?_)
    exact fin2 _ a k4 (by omega) (by omega)
  subst v30
  rw [show ((0:Nat):Int)=0 from rfl] at p4
  have w0:IntKind.i64.wrap ((n:Int) - 1)=(n:Int) - 1:=wrap64 (by omega) (by omega)
  obtain ⟨v5,k5,hv5,hk5,p5⟩:=pick' code c hc k4 (by omega) (n:Int) (by omega) bs (Ms++[[]])
  have hv5:=hv5 (by omega)
  have hv5':v5 < a.length:=by omega
  have hv5n:v5 < n:=by omega
  obtain ⟨x,k6,hx,hk6,p6⟩:=one2 code c hc k5 (by omega) [1,-1] (by simp) bs (Ms++[[]])
  have hx:-1≤x∧x≤1:=by simp at hx;omega
  have ba:=sa _ (List.getElem_mem hv5')
  have w3:IntKind.i64.wrap (a[v5]+x)=a[v5]+x:=wrap64 (by omega) (by omega)
  obtain ⟨y,hy⟩:∃ y,y=nudge a[v5] x ((n:Int) - 1):=⟨_,rfl⟩
  have hy2:0≤y∧y≤5:=by rw [hy,nudge];split <;> split at * <;> omega
  have sa2:∀ z ∈ a.set v5 y,0≤z∧z≤5:=fun z hz=>by
    rcases List.mem_or_eq_of_mem_set hz with hz | rfl
    · exact sa z hz
    · exact hy2
  have la2:(a.set v5 y).length=n:=by simpa using la
  repeat (first|apply wp_as|apply wp_ss|refine wr (by simp [p1,hto,e1,la,hq,p4,p5];with_reducible rfl) ?_|refine wq (by simp [p1,hto,e1,la,hq,p4,p5];with_reducible rfl) ?_|refine wt (by simpa [p1,hto,e1,la,hq,p4,p5]) ?_|refine wf (by simpa [p1,hto,e1,la,hq,p4,p5]) ?_|refine xt (by simpa [p1,hto,e1,la,hq,p4,p5]) ?_|refine xf (by simpa [p1,hto,e1,la,hq,p4,p5]) ?_|apply wp_bs|apply wp_b|refine wp_sr ?_|refine wp_sx ?_|refine wp_ret' ?_|refine wp_skip' ?_|refine wp_exit' ?_)
  refine wp_ra (by simp [hv5',hv5n,p6,w3,la,w0];with_reducible rfl) (by simp;with_reducible rfl) ?_ ?_
  · intro p hp
    simp only [List.mem_cons,List.not_mem_nil,or_false] at hp
    rcases hp with rfl | rfl
    · exact ⟨_,by simp [hv5',hv5n,p6,w3,la,w0];with_reducible rfl,by simp⟩
    · exact ⟨_,by simp [hv5',hv5n,p6,w3,la,w0];with_reducible rfl,by simp⟩
  rw [show (if (n:Int) - 1 < (if a[v5]+x < 0 then 0 else a[v5]+x) then (n:Int) - 1 else (if a[v5]+x < 0 then 0 else a[v5]+x))=y from hy.symm]
  generalize a.set v5 y=a2 at *
  obtain ⟨v7,k7,hv7,hk7,p7⟩:=pick' code c hc k6 (by omega) (n:Int) (by omega) bs (Ms++[[]])
  have hv7:=hv7 (by omega)
  have hv7':v7 < a2.length:=by omega
  have hv7n:v7 < n:=by omega
  obtain ⟨x2,k8,hx2,hk8,p8⟩:=one2 code c hc k7 (by omega) [1,-1] (by simp) bs (Ms++[[]])
  have hx2:-1≤x2∧x2≤1:=by simp at hx2;omega
  have ba2:=sa2 _ (List.getElem_mem hv7')
  have w4:IntKind.i64.wrap (a2[v7]+x2)=a2[v7]+x2:=wrap64 (by omega) (by omega)
  repeat (first|apply wp_as|apply wp_ss|refine wr (by simp [p7,la2];with_reducible rfl) ?_|refine wq (by simp [p7,la2];with_reducible rfl) ?_|refine wt (by simpa [p7,la2]) ?_|refine wf (by simpa [p7,la2]) ?_|refine xt (by simpa [p7,la2]) ?_|refine xf (by simpa [p7,la2]) ?_|apply wp_bs|apply wp_b|refine wp_sr ?_|refine wp_sx ?_|refine wp_ret' ?_|refine wp_skip' ?_|refine wp_exit' ?_)
  refine wp_ra (by simp [hv7',hv7n,p8,w4,la2,w0];with_reducible rfl) (by simp;with_reducible rfl) ?_ ?_
  · intro p hp
    simp only [List.mem_cons,List.not_mem_nil,or_false] at hp
    rcases hp with rfl | rfl
    · exact ⟨_,by simp [hv7',hv7n,p8,w4,la2,w0];with_reducible rfl,by simp⟩
    · exact ⟨_,by simp [hv7',hv7n,p8,w4,la2,w0];with_reducible rfl,by simp⟩
  repeat (first|apply wp_as|apply wp_ss|refine wr (by simp;with_reducible rfl) ?_|refine wq (by simp;with_reducible rfl) ?_|refine wt (by simpa) ?_|refine wf (by simpa) ?_|refine xt (by simpa) ?_|refine xf (by simpa) ?_|apply wp_bs|apply wp_b|refine wp_sr ?_|refine wp_sx ?_|refine wp_ret' ?_|refine wp_skip' ?_|refine wp_exit' ?_)
  exact fin1 .un _ k8 (by omega) (by simp;omega)
theorem ev_DrawIsScores (code:List Int) (c:Bool) (h:∀ x ∈ code,0≤x∧x≤255) (hl:code.length≤10000000) :
    ∃ a:List Int,a.length≤6∧limF tb zl485 [] [.lst 1 (bytes code) c] []=some ⟨O a,[],[],[]⟩:=by
  obtain ⟨c',e⟩:=ev_newReader code c [[]] (by omega)
  have e1:=ev_lim e
  obtain ⟨a,k,h1,e2⟩:=ev_someScores (code.take 2000) c' (code_ok h) 0 (by omega) [] []
  refine ⟨a,h1,ev_lim ?_⟩
  rw [show ((0:Nat):Int)=0 from rfl] at e2
  refine call_of_wp zt485 rfl ?_
  repeat (first|apply wp_as|apply wp_ss|refine wr (by simp [e1,e2];with_reducible rfl) ?_|refine wq (by simp [e1,e2];with_reducible rfl) ?_|refine wt (by simpa [e1,e2]) ?_|refine wf (by simpa [e1,e2]) ?_|refine xt (by simpa [e1,e2]) ?_|refine xf (by simpa [e1,e2]) ?_|apply wp_bs|apply wp_b|refine wp_sr ?_|refine wp_sx ?_|refine wp_ret' ?_|refine wp_skip' ?_|refine wp_exit' ?_)
  simp [zi485]
structure ScrLaw (s:List Int):Prop where
  same:realI2 s=realS2 s
  tour:Tour (realI2 s)
  scr:scores (realI2 s)=s
  dig:implD s (comp s)=true
set_option maxHeartbeats 4000000 in
theorem ev_FnIsScores (law:∀ s,valS s=true→isScr s=true→ScrLaw s) (law2:∀ s,valS s=true→isScr (comp s)=isScr s) (code:List Int) (c:Bool) (h:∀ x ∈ code,0≤x∧x≤255) :
    Ev tb zl469 [] [.lst 1 (bytes code) c] [] ⟨Bo true,[],[],[]⟩:=by
  by_cases hc:(1048576:Int) < code.length
  · refine call_of_wp zt469 rfl ?_
    repeat (first|apply wp_as|apply wp_ss|refine wr (by simp [hc];with_reducible rfl) ?_|refine wq (by simp [hc];with_reducible rfl) ?_|refine wt (by simpa [hc]) ?_|refine wf (by simpa [hc]) ?_|refine xt (by simpa [hc]) ?_|refine xf (by simpa [hc]) ?_|apply wp_bs|apply wp_b|refine wp_sr ?_|refine wp_sx ?_|refine wp_ret' ?_|refine wp_skip' ?_|refine wp_exit' ?_)
    simp [zi469]
  obtain ⟨s,hs,e1⟩:=ev_DrawIsScores code c h (by omega)
  have i1:=fun c=>ev_lim (ev_IsScores_all s c (by omega))
  have i2:=fun c=>ev_lim (ev_spec_IsScores s c (by omega))
  have v1:=fun c=>ev_lim (ev_ValidDegrees s c (by omega))
  cases hv:valS s with
  | false =>
    simp only [hv,Bool.false_and] at i1 i2
    by_cases hok:valid s=true∧¬ s.length=0∧¬ 5 < s.length
    · exfalso
      obtain ⟨q1,q2,q3⟩:=hok
      have:valS s=true:=by
        rw [valid] at q1
        simp only [Bool.and_eq_true,List.all_eq_true,decide_eq_true_eq] at q1
        simp only [valS,Bool.and_eq_true,List.all_eq_true,decide_eq_true_eq]
        exact ⟨fun x hx=>by have:=q1.2 x hx;omega,by omega,by omega⟩
      rw [this] at hv;cases hv
    · cases q1:valid s with
      | false =>
        rw [q1] at v1
        refine call_of_wp zt469 rfl ?_
        repeat (first|apply wp_as|apply wp_ss|refine wr (by simp [hc,e1,i1,i2,v1];with_reducible rfl) ?_|refine wq (by simp [hc,e1,i1,i2,v1];with_reducible rfl) ?_|refine wt (by simpa [hc,e1,i1,i2,v1]) ?_|refine wf (by simpa [hc,e1,i1,i2,v1]) ?_|refine xt (by simpa [hc,e1,i1,i2,v1]) ?_|refine xf (by simpa [hc,e1,i1,i2,v1]) ?_|apply wp_bs|apply wp_b|refine wp_sr ?_|refine wp_sx ?_|refine wp_ret' ?_|refine wp_skip' ?_|refine wp_exit' ?_)
        simp [zi469]
      | true =>
        rw [q1] at v1
        by_cases q2:s.length=0
        · have:s=[]:=List.length_eq_zero_iff.1 q2
          subst this
          simp only [O,L,ints_nil] at e1 i1 i2 v1
          refine call_of_wp zt469 rfl ?_
          repeat (first|apply wp_as|apply wp_ss|refine wr (by simp [hc,e1,i1,i2,v1];with_reducible rfl) ?_|refine wq (by simp [hc,e1,i1,i2,v1];with_reducible rfl) ?_|refine wt (by simpa [hc,e1,i1,i2,v1]) ?_|refine wf (by simpa [hc,e1,i1,i2,v1]) ?_|refine xt (by simpa [hc,e1,i1,i2,v1]) ?_|refine xf (by simpa [hc,e1,i1,i2,v1]) ?_|apply wp_bs|apply wp_b|refine wp_sr ?_|refine wp_sx ?_|refine wp_ret' ?_|refine wp_skip' ?_|refine wp_exit' ?_)
          simp [zi469]
        · have q3:5 < s.length:=by
            by_cases q3:5 < s.length
            · exact q3
            · exact absurd ⟨q1,q2,q3⟩ hok
          have q4:(5:Int) < s.length:=by omega
          have q5:¬ (s.length:Int)=0:=by omega
          refine call_of_wp zt469 rfl ?_
          repeat (first|apply wp_as|apply wp_ss|refine wr (by simp [hc,e1,i1,i2,v1,q2,q4,q5,q3];with_reducible rfl) ?_|refine wq (by simp [hc,e1,i1,i2,v1,q2,q4,q5,q3];with_reducible rfl) ?_|refine wt (by simpa [hc,e1,i1,i2,v1,q2,q4,q5,q3]) ?_|refine wf (by simpa [hc,e1,i1,i2,v1,q2,q4,q5,q3]) ?_|refine xt (by simpa [hc,e1,i1,i2,v1,q2,q4,q5,q3]) ?_|refine xf (by simpa [hc,e1,i1,i2,v1,q2,q4,q5,q3]) ?_|apply wp_bs|apply wp_b|refine wp_sr ?_|refine wp_sx ?_|refine wp_ret' ?_|refine wp_skip' ?_|refine wp_exit' ?_)
          simp [zi469]
  | true =>
    obtain ⟨f1,f2,f3⟩:=valS_few hv
    have hval:valid s=true:=by
      rw [valid]
      simp only [Bool.and_eq_true,List.all_eq_true,decide_eq_true_eq]
      exact ⟨by omega,fun x hx=>by have:=f3 x hx;omega⟩
    rw [hval] at v1
    have hcl:(comp s).length=s.length:=by simp [comp]
    have hvc:valS (comp s)=true:=by
      simp only [valS,Bool.and_eq_true,List.all_eq_true,decide_eq_true_eq,hcl]
      refine ⟨fun x hx=>?_,by omega,by omega⟩
      simp only [comp,List.mem_map,List.mem_range] at hx
      obtain ⟨y,hy,rfl⟩:=hx
      have:=f3 (s.getD y 0) (by rw [getD_get hy];exact List.getElem_mem hy)
      omega
    have e2:=fun c=>ev_lim (ev_Complement s c hval)
    have i3:=fun c=>ev_lim (ev_IsScores_all (comp s) c (by omega))
    simp only [hv,hvc,Bool.true_and,law2 s hv] at i1 i2 i3
    have e3:=fun c=>ev_lim (ev_RealizeScores s c f2 f3)
    have q2:¬ s.length=0:=by omega
    have q3:¬ 5 < s.length:=by omega
    have q4:¬ (5:Int) < s.length:=by omega
    have q5:¬ (s.length:Int)=0:=by omega
    cases hi:isScr s with
    | false =>
      simp only [hi,Bool.false_eq_true,if_false] at i1 i2 i3 e3
      generalize comp s=s' at *
      refine call_of_wp zt469 rfl ?_
      repeat (first|apply wp_as|apply wp_ss|refine wr (by simp [hc,e1,i1,i2,v1,q2,q3,q4,q5,e2,e3,i3];with_reducible rfl) ?_|refine wq (by simp [hc,e1,i1,i2,v1,q2,q3,q4,q5,e2,e3,i3];with_reducible rfl) ?_|refine wt (by simpa [hc,e1,i1,i2,v1,q2,q3,q4,q5,e2,e3,i3]) ?_|refine wf (by simpa [hc,e1,i1,i2,v1,q2,q3,q4,q5,e2,e3,i3]) ?_|refine xt (by simpa [hc,e1,i1,i2,v1,q2,q3,q4,q5,e2,e3,i3]) ?_|refine xf (by simpa [hc,e1,i1,i2,v1,q2,q3,q4,q5,e2,e3,i3]) ?_|apply wp_bs|apply wp_b|refine wp_sr ?_|refine wp_sx ?_|refine wp_ret' ?_|refine wp_skip' ?_|refine wp_exit' ?_)
      simp [zi469]
    | true =>
      simp only [hi,if_true] at i1 i2 i3 e3
      have e4:=fun c d=>ev_lim (ev_impl_IsDigraphic s (comp s) c d (by omega) (by omega))
      rw [(law s hv hi).dig] at e4
      generalize comp s=s' at *
      generalize realI2 s=t at *
      refine call_of_wp zt469 rfl ?_
      repeat (first|apply wp_as|apply wp_ss|refine wr (by simp [hc,e1,i1,i2,v1,q2,q3,q4,q5,e2,e3,i3,e4];with_reducible rfl) ?_|refine wq (by simp [hc,e1,i1,i2,v1,q2,q3,q4,q5,e2,e3,i3,e4];with_reducible rfl) ?_|refine wt (by simpa [hc,e1,i1,i2,v1,q2,q3,q4,q5,e2,e3,i3,e4]) ?_|refine wf (by simpa [hc,e1,i1,i2,v1,q2,q3,q4,q5,e2,e3,i3,e4]) ?_|refine xt (by simpa [hc,e1,i1,i2,v1,q2,q3,q4,q5,e2,e3,i3,e4]) ?_|refine xf (by simpa [hc,e1,i1,i2,v1,q2,q3,q4,q5,e2,e3,i3,e4]) ?_|apply wp_bs|apply wp_b|refine wp_sr ?_|refine wp_sx ?_|refine wp_ret' ?_|refine wp_skip' ?_|refine wp_exit' ?_)
      simp [zi469]
end Go.Idl
namespace Go.Idl
def S {α:Type} (l:List α) (f:α→Int):Int:=(l.map f).sum
@[simp] theorem S_nil {α:Type} (f:α→Int):S [] f=0:=rfl
@[simp] theorem S_cons {α:Type} (a:α) (l:List α) (f:α→Int):S (a::l) f=f a+S l f:=by simp [S]
theorem S_app {α:Type} (l k:List α) (f:α→Int):S (l++k) f=S l f+S k f:=by simp [S]
theorem S_zero {α:Type} (l:List α):S l (fun _=>0)=0:=by
  induction l with
  | nil=>rfl
  | cons a l ih=>simp [ih]
theorem S_congr {α:Type} {l:List α} {f g:α→Int} (h:∀ a ∈ l,f a=g a):S l f=S l g:=by
  induction l with
  | nil=>rfl
  | cons a l ih=>rw [S_cons,S_cons,h a (by simp),ih fun b hb=>h b (by simp [hb])]
theorem S_le {α:Type} {l:List α} {f g:α→Int} (h:∀ a ∈ l,f a≤g a):S l f≤S l g:=by
  induction l with
  | nil=>simp
  | cons a l ih =>
    have h1:=h a (by simp)
    have h2:=ih fun b hb=>h b (by simp [hb])
    simp only [S_cons];omega
theorem S_mulr {α:Type} (l:List α) (f:α→Int) (c:Int):S l (fun a=>f a * c)=S l f * c:=by
  induction l with
  | nil=>simp
  | cons a l ih=>rw [S_cons,S_cons,ih,Int.add_mul]
theorem S_nonneg {α:Type} {l:List α} {f:α→Int} (h:∀ a ∈ l,0≤f a):0≤S l f:=by
  have:=S_le (l:=l) (f:=fun _=>0) h
  rwa [S_zero] at this
theorem S_map {α γ:Type} (l:List γ) (g:γ→α) (f:α→Int):S (l.map g) f=S l (fun c=>f (g c)):=by simp [S];rfl
theorem S_one {α:Type} [DecidableEq α] {l:List α} (h:l.Nodup) (x:α):S l (fun a=>if x=a then 1 else 0)=if x ∈ l then 1 else 0:=by
  induction l with
  | nil=>simp
  | cons a l ih =>
    have h':=List.nodup_cons.1 h
    rw [S_cons,ih h'.2]
    by_cases hx:x=a
    · subst hx;simp [h'.1]
    · simp [hx]
end Go.Idl
namespace Go.Idl
def insP (x:Nat×Nat):List (Nat×Nat)→List (Nat×Nat)
  | []=>[x]
  | y::r=>if Nat.ble y.1 x.1 then x::y::r else y::insP x r
def hh:Nat→List (Nat×Nat)→List (Nat×Nat)
  | 0,_=>[]
  | _+1,[]=>[]
  | m+1,x::r=>(r.take x.1).map (fun y:Nat×Nat=>(x.2,y.2))++hh m ((((r.take x.1).map (fun y:Nat×Nat=>(y.1 - 1,y.2))++r.drop x.1:List (Nat×Nat))).foldr insP [])
theorem decAt_get {o:List Int} {i v:Nat} (hv:v < o.length):(decAt o i).getD v 0=o.getD v 0 - (if i=v then 1 else 0):=by
  rw [decAt,List.getD_eq_getElem?_getD,List.getElem?_set]
  by_cases h:i=v
  · subst h;simp [hv,List.getD_eq_getElem?_getD]
  · simp [h,List.getD_eq_getElem?_getD]
def mk (u v:Nat):Int×Int:=(min (u:Int) v,max (u:Int) v)
end Go.Idl
namespace Go.Idl
open Go
theorem lil_zero {l:List Int} (h:Lil l) (hs:¬ 0 < l.sum) (i:Nat):l.getD i 0=0:=by
  induction l generalizing i with
  | nil=>simp
  | cons x r ih =>
    have h1:=h x (by simp)
    have hr:Lil r:=fun y hy=>h y (by simp [hy])
    have h2:=hr.sum
    rw [List.sum_cons] at hs
    cases i with
    | zero=>simp;omega
    | succ i=>simpa using ih hr (by omega) i
theorem zero_sum {l:List Int} (h:∀ i,i < l.length→l.getD i 0=0):l.sum=0:=by
  induction l with
  | nil=>rfl
  | cons x r ih =>
    have h1:=h 0 (by simp)
    have h2:=ih fun i hi=>by have:=h (i+1) (by simpa using hi);simpa using this
    simp at h1
    rw [List.sum_cons];omega
def cR (f:Nat→Bool) (h m k i:Nat):Int:=S (List.range' k m) fun c=>if c / h=i then (if f c then 1 else 0) else 0
def cC (f:Nat→Bool) (h m k j:Nat):Int:=S (List.range' k m) fun c=>if c % h=j then (if f c then 1 else 0) else 0
theorem cR_succ (f:Nat→Bool) (h m k i:Nat):cR f h (m+1) k i=(if k / h=i then (if f k then 1 else 0) else 0)+cR f h m (k+1) i:=by
  rw [cR,List.range'_succ,S_cons];rfl
theorem cC_succ (f:Nat→Bool) (h m k i:Nat):cC f h (m+1) k i=(if k % h=i then (if f k then 1 else 0) else 0)+cC f h m (k+1) i:=by
  rw [cC,List.range'_succ,S_cons];rfl
theorem cR_pos (f:Nat→Bool) (h m k i:Nat):0≤cR f h m k i:=S_nonneg fun c _=>by split <;> (try split) <;> omega
theorem cC_pos (f:Nat→Bool) (h m k i:Nat):0≤cC f h m k i:=S_nonneg fun c _=>by split <;> (try split) <;> omega
theorem cR_congr {f g:Nat→Bool} (h m k i:Nat) (hfg:∀ c,k≤c→f c=g c):cR f h m k i=cR g h m k i :=
  S_congr fun c hc=>by rw [hfg c (by have:=List.mem_range'_1.1 hc;omega)]
theorem cC_congr {f g:Nat→Bool} (h m k i:Nat) (hfg:∀ c,k≤c→f c=g c):cC f h m k i=cC g h m k i :=
  S_congr fun c hc=>by rw [hfg c (by have:=List.mem_range'_1.1 hc;omega)]
theorem cR_le (f:Nat→Bool) (h:Nat) (h0:0 < h) (i:Nat):∀ m k:Nat,cR f h m k i≤(((i+1) * h - k:Nat):Int)
  | 0,k=>by show (0:Int)≤_;omega
  | m+1,k=>by
    have h1:=cR_le f h h0 i m (k+1)
    rw [cR_succ]
    by_cases hk:k / h=i
    · have h2:k < (i+1) * h:=by rw [← hk,Nat.mul_comm];exact Nat.lt_mul_div_succ k h0
      rw [if_pos hk]
      split <;> omega
    · rw [if_neg hk];omega
theorem mts_iff (may:Nat→Nat→Bool) (w h:Nat) (h0:0 < h):∀ (m k:Nat) (l r:List Int) (t:List (List Int)),k+m=w * h→l.length=w→r.length=h→Lil l→Lil r →
    (mts may h m k l r t ≠ [] ↔ ∃ f:Nat→Bool,(∀ c,k≤c→f c=true→may (c / h) (c % h)=true)∧(∀ i,i < w→cR f h m k i=l.getD i 0)∧(∀ j,j < h→cC f h m k j=r.getD j 0))
  | 0,k,l,r,t,hk,hl,hr,ll,lr=>by
    rw [mts]
    constructor
    · intro hne
      have hs:¬ (0 < l.sum ∨ 0 < r.sum):=fun q=>hne (by rw [if_pos q])
      refine ⟨fun _=>false,fun _ _ q=>by simp at q,fun i _=>?_,fun j _=>?_⟩
      · rw [lil_zero ll (fun q=>hs (.inl q))];rfl
      · rw [lil_zero lr (fun q=>hs (.inr q))];rfl
    · rintro ⟨f,_,h1,h2⟩
      have s1:l.sum=0:=zero_sum fun i hi=>(h1 i (by omega)).symm
      have s2:r.sum=0:=zero_sum fun i hi=>(h2 i (by omega)).symm
      rw [if_neg (by omega)]
      simp
  | m+1,k,l,r,t,hk,hl,hr,ll,lr=>by
    have hkw:k < w * h:=by omega
    have iw:k / h < w:=Nat.div_lt_of_lt_mul (by rw [Nat.mul_comm];exact hkw)
    have jh:k % h < h:=Nat.mod_lt _ h0
    have hdm:(k / h+1) * h - k=h - k % h:=by
      have:=Nat.div_add_mod k h
      rw [Nat.mul_comm] at this
      rw [Nat.succ_mul];omega
    rw [mts]
    by_cases hov:(h:Int) - ((k % h:Nat):Int) < l.getD (k / h) 0
    · rw [if_pos hov]
      refine ⟨fun q=>absurd rfl q,?_⟩
      rintro ⟨f,_,h1,_⟩
      have:=cR_le f h h0 (k / h) (m+1) k
      rw [h1 _ iw,hdm] at this
      omega
    · rw [if_neg hov]
      have hap:∀ (x y:List (List (List Int))),x++y ≠ [] ↔ x ≠ [] ∨ y ≠ []:=fun x y=>by
        cases x <;> simp
      rw [hap,mts_iff may w h h0 m (k+1) l r t (by omega) hl hr ll lr]
      have dl:∀ i,(decAt l (k / h)).getD i 0=l.getD i 0 - (if k / h=i∧i < w then 1 else 0):=fun i=>by
        by_cases hi:i < l.length
        · rw [decAt_get hi]
          by_cases hq:k / h=i
          · rw [if_pos hq,if_pos ⟨hq,by omega⟩]
          · rw [if_neg hq,if_neg fun q=>hq q.1]
        · have e1:∀ x:List Int,x.length=l.length→x.getD i 0=0:=fun x hx=>by
            rw [List.getD_eq_getElem?_getD,List.getElem?_eq_none (by omega)];rfl
          rw [e1 _ (by simp [decAt]),e1 _ rfl,if_neg (by omega)];rfl
      have dr:∀ i,(decAt r (k % h)).getD i 0=r.getD i 0 - (if k % h=i∧i < h then 1 else 0):=fun i=>by
        by_cases hi:i < r.length
        · rw [decAt_get hi]
          by_cases hq:k % h=i
          · rw [if_pos hq,if_pos ⟨hq,by omega⟩]
          · rw [if_neg hq,if_neg fun q=>hq q.1]
        · have e1:∀ x:List Int,x.length=r.length→x.getD i 0=0:=fun x hx=>by
            rw [List.getD_eq_getElem?_getD,List.getElem?_eq_none (by omega)];rfl
          rw [e1 _ (by simp [decAt]),e1 _ rfl,if_neg (by omega)];rfl
      constructor
      · rintro (h1 | ⟨f,f1,f2,f3⟩)
        · by_cases htk:may (k / h) (k % h)=true∧0 < l.getD (k / h) 0∧0 < r.getD (k % h) 0
          · rw [if_pos htk,mts_iff may w h h0 m (k+1) _ _ _ (by omega) (by simp [decAt,hl]) (by simp [decAt,hr]) (ll.dec htk.2.1) (lr.dec htk.2.2)] at h1
            obtain ⟨f,f1,f2,f3⟩:=h1
            refine ⟨fun c=>if c=k then true else f c,fun c hc hf=>?_,fun i hi=>?_,fun j hj=>?_⟩
            · by_cases hck:c=k
              · subst hck;exact htk.1
              · exact f1 c (by omega) (by simpa [hck] using hf)
            · have e1:=cR_congr (f:=fun c=>if c=k then true else f c) (g:=f) h m (k+1) i fun c hc=>by
                  have hck:¬ c=k:=by omega
                  simp [hck]
              rw [cR_succ,e1,f2 i hi,dl]
              by_cases hq:k / h=i
              · rw [if_pos hq,if_pos (show k / h=i∧i < w from ⟨hq,hi⟩)];simp;omega
              · rw [if_neg hq,if_neg fun q=>hq q.1];omega
            · have e1:=cC_congr (f:=fun c=>if c=k then true else f c) (g:=f) h m (k+1) j fun c hc=>by
                  have hck:¬ c=k:=by omega
                  simp [hck]
              rw [cC_succ,e1,f3 j hj,dr]
              by_cases hq:k % h=j
              · rw [if_pos hq,if_pos (show k % h=j∧j < h from ⟨hq,hj⟩)];simp;omega
              · rw [if_neg hq,if_neg fun q=>hq q.1];omega
          · rw [if_neg htk] at h1;exact absurd rfl h1
        · refine ⟨fun c=>if c=k then false else f c,fun c hc hf=>?_,fun i hi=>?_,fun j hj=>?_⟩
          · by_cases hck:c=k
            · simp [hck] at hf
            · exact f1 c (by omega) (by simpa [hck] using hf)
          · have e1:=cR_congr (f:=fun c=>if c=k then false else f c) (g:=f) h m (k+1) i fun c hc=>by
                  have hck:¬ c=k:=by omega
                  simp [hck]
            rw [cR_succ,e1,f2 i hi];simp
          · have e1:=cC_congr (f:=fun c=>if c=k then false else f c) (g:=f) h m (k+1) j fun c hc=>by
                  have hck:¬ c=k:=by omega
                  simp [hck]
            rw [cC_succ,e1,f3 j hj];simp
      · rintro ⟨f,f1,f2,f3⟩
        by_cases hf:f k=true
        · refine .inl ?_
          have p1:=f2 _ iw
          have p2:=f3 _ jh
          rw [cR_succ,if_pos rfl,if_pos hf] at p1
          rw [cC_succ,if_pos rfl,if_pos hf] at p2
          have q1:=cR_pos f h m (k+1) (k / h)
          have q2:=cC_pos f h m (k+1) (k % h)
          have htk:may (k / h) (k % h)=true∧0 < l.getD (k / h) 0∧0 < r.getD (k % h) 0:=⟨f1 k (Nat.le_refl _) hf,by omega,by omega⟩
          rw [if_pos htk,mts_iff may w h h0 m (k+1) _ _ _ (by omega) (by simp [decAt,hl]) (by simp [decAt,hr]) (ll.dec htk.2.1) (lr.dec htk.2.2)]
          refine ⟨f,fun c hc=>f1 c (by omega),fun i hi=>?_,fun j hj=>?_⟩
          · have:=f2 i hi
            rw [cR_succ] at this
            rw [dl]
            by_cases hq:k / h=i
            · rw [if_pos hq,if_pos hf] at this;rw [if_pos (show k / h=i∧i < w from ⟨hq,hi⟩)];omega
            · rw [if_neg hq] at this;rw [if_neg fun q=>hq q.1];omega
          · have:=f3 j hj
            rw [cC_succ] at this
            rw [dr]
            by_cases hq:k % h=j
            · rw [if_pos hq,if_pos hf] at this;rw [if_pos (show k % h=j∧j < h from ⟨hq,hj⟩)];omega
            · rw [if_neg hq] at this;rw [if_neg fun q=>hq q.1];omega
        · refine .inr ⟨f,fun c hc=>f1 c (by omega),fun i hi=>?_,fun j hj=>?_⟩
          · have:=f2 i hi
            rw [cR_succ,if_neg hf] at this
            simpa using this
          · have:=f3 j hj
            rw [cC_succ,if_neg hf] at this
            simpa using this
end Go.Idl
namespace Go.Idl
open Go
theorem S_pick {n j:Nat} (hj:j < n) (g:Nat→Int):S (List.range n) (fun u=>if u=j then g u else 0)=g j:=by
  rw [S_congr (g:=fun u=>(if j=u then 1 else 0) * g j) fun u _=>?_,S_mulr,S_one List.nodup_range,if_pos (List.mem_range.2 hj)]
  · omega
  · by_cases h:u=j
    · subst h;simp
    · rw [if_neg h,if_neg fun q=>h q.symm];simp
theorem blk (w h:Nat) (g:Nat→Int):S (List.range' 0 ((w+1) * h)) g=S (List.range' 0 (w * h)) g+S (List.range h) (fun j=>g (w * h+j)):=by
  have e:=List.range'_append_1 (s:=0) (m:=w * h) (n:=h)
  have e2:S (List.range' (w * h) h) g=S (List.range h) (fun j=>g (w * h+j)):=by rw [List.range'_eq_map_range,S_map]
  rw [Nat.succ_mul,← e,S_app,Nat.zero_add,e2]
theorem blk_div {w h j:Nat} (hj:j < h):(w * h+j) / h=w∧(w * h+j) % h=j:=by
  constructor
  · rw [Nat.add_comm,Nat.add_mul_div_right _ _ (by omega),Nat.div_eq_of_lt hj];omega
  · rw [Nat.add_comm,Nat.add_mul_mod_self_right,Nat.mod_eq_of_lt hj]
theorem cR_sum (f:Nat→Bool) (h:Nat) (i:Nat):∀ w,cR f h (w * h) 0 i=if i < w then S (List.range h) (fun j=>if f (i * h+j) then 1 else 0) else 0
  | 0=>by simp [cR,S]
  | w+1=>by
    have ih:=cR_sum f h i w
    rw [cR] at ih ⊢
    have hb:S (List.range h) (fun j=>if (w * h+j) / h=i then (if f (w * h+j) then (1:Int) else 0) else 0)=S (List.range h) (fun j=>if w=i then (if f (w * h+j) then 1 else 0) else 0) :=
      S_congr fun j hj=>by rw [(blk_div (List.mem_range.1 hj)).1]
    rw [blk,ih,hb]
    by_cases hw:w=i
    · subst hw
      rw [if_neg (by omega),if_pos (by omega)];simp
    · simp only [if_neg hw,S_zero]
      by_cases hi:i < w
      · rw [if_pos hi,if_pos (by omega)];omega
      · rw [if_neg hi,if_neg (by omega)];rfl
theorem cC_sum (f:Nat→Bool) (h:Nat) (j:Nat) (hj:j < h):∀ w,cC f h (w * h) 0 j=S (List.range w) (fun i=>if f (i * h+j) then 1 else 0)
  | 0=>by simp [cC,S]
  | w+1=>by
    have ih:=cC_sum f h j hj w
    rw [cC] at ih ⊢
    have hb:S (List.range h) (fun u=>if (w * h+u) % h=j then (if f (w * h+u) then (1:Int) else 0) else 0)=S (List.range h) (fun u=>if u=j then (if f (w * h+u) then 1 else 0) else 0) :=
      S_congr fun u hu=>by rw [(blk_div (List.mem_range.1 hu)).2]
    rw [blk,ih,hb,S_pick hj fun u=>if f (w * h+u) then 1 else 0,List.range_succ,S_app]
    simp [S]
def Dg (n:Nat) (a b:List Int):Prop:=∃ p:Nat→Nat→Bool,(∀ v,p v v=false) ∧
  (∀ v,v < n→S (List.range n) (fun u=>if p v u then 1 else 0)=a.getD v 0)∧(∀ v,v < n→S (List.range n) (fun u=>if p u v then 1 else 0)=b.getD v 0)
theorem Dg.symm {n:Nat} {a b:List Int}:Dg n a b→Dg n b a:=fun ⟨p,h1,h2,h3⟩=>⟨fun u v=>p v u,h1,h3,h2⟩
theorem hasM2_iff {a b:List Int} {n:Nat} (ha:a.length=n) (hb:b.length=n) (h0:0 < n) (la:Lil a) (lb:Lil b):hasM2 a b=true ↔ Dg n a b:=by
  have h1:hasM2 a b=true ↔ mts mayD n (n * n) 0 a b (zeroT n n) ≠ []:=by
    rw [hasM2,ha,hb];simp
  rw [h1,mts_iff mayD n n h0 (n * n) 0 a b _ (by omega) ha hb la lb]
  constructor
  · rintro ⟨f,f1,f2,f3⟩
    refine ⟨fun v u=>if u < n then f (v * n+u) else false,fun v=>?_,fun v hv=>?_,fun v hv=>?_⟩
    · by_cases hv:v < n
      · simp only [if_pos hv]
        cases hf:f (v * n+v) with
        | false=>rfl
        | true =>
          have:=f1 _ (Nat.zero_le _) hf
          rw [(blk_div hv).1,(blk_div hv).2] at this
          simp [mayD] at this
      · simp [hv]
    · rw [← f2 v hv,cR_sum,if_pos hv]
      exact S_congr fun u hu=>by
        have hu2:=List.mem_range.1 hu
        simp [hu2]
    · rw [← f3 v hv,cC_sum f n v hv]
      exact S_congr fun u hu=>by simp [hv]
  · rintro ⟨p,p1,p2,p3⟩
    refine ⟨fun c=>p (c / n) (c % n),fun c _ hc=>?_,fun i hi=>?_,fun j hj=>?_⟩
    · simp only [mayD,Bool.not_eq_true',decide_eq_false_iff_not]
      intro q
      have hc2:p (c / n) (c % n)=true:=hc
      rw [q,p1] at hc2
      simp at hc2
    · rw [cR_sum,if_pos hi,← p2 i hi]
      exact S_congr fun u hu=>by rw [(blk_div (List.mem_range.1 hu)).1,(blk_div (List.mem_range.1 hu)).2]
    · rw [cC_sum _ _ _ hj,← p3 j hj]
      exact S_congr fun u hu=>by rw [(blk_div hj).1,(blk_div hj).2]
end Go.Idl
namespace Go.Idl
open Go
theorem MM.set {h w:Nat} {t:List (List Int)} (ht:MM h w t) {i j:Nat} {v:Int} (hi:i < t.length) (hv:0≤v∧v≤1):MM h w (t.set i (t[i].set j v)):=by
  refine ⟨by simpa using ht.1,fun r hr=>?_⟩
  have h1:=ht.2 _ (List.getElem_mem hi)
  rcases List.mem_or_eq_of_mem_set hr with hr | rfl
  · exact ht.2 r hr
  · refine ⟨by simpa using h1.1,fun x hx=>?_⟩
    rcases List.mem_or_eq_of_mem_set hx with hx | rfl
    · exact h1.2 x hx
    · exact hv
end Go.Idl
namespace Go.Idl
open Go
def allVz (n:Nat):Nat→(List Int→Bool)→Bool
  | 0,f=>f []
  | m+1,f=>(List.range n).all fun x=>allVz n m fun l=>f ((x:Int)::l)
theorem allVz_ok (n:Nat):∀ (m:Nat) (f:List Int→Bool) (l:List Int),allVz n m f=true→l.length=m→(∀ x ∈ l,0≤x∧x < n)→f l=true
  | 0,f,l,h,hl,_=>by
    have:l=[]:=List.length_eq_zero_iff.1 hl
    subst this;exact h
  | m+1,f,[],h,hl,_=>by simp at hl
  | m+1,f,x::r,h,hl,hx=>by
    obtain ⟨k,rfl⟩:=Int.eq_ofNat_of_zero_le (hx x (by simp)).1
    have hk:=(hx (k:Int) (by simp)).2
    have h1:=List.all_eq_true.1 h k (List.mem_range.2 (by omega))
    exact allVz_ok n m (fun l=>f ((k:Int)::l)) r h1 (by simpa using hl) fun y hy=>hx y (by simp [hy])
def tourBz (n:Nat) (t:List (List Int)):Bool:=decide (t.length=n) && (t.all (fun r=>decide (r.length=n) && r.all fun x=>decide (0≤x) && decide (x≤1)) &&
  (List.range n).all fun a=>(List.range n).all fun b=>if a=b then decide (g2 t a b=0) else decide (g2 t a b+g2 t b a=1))
theorem tourBz_ok {n:Nat} {t:List (List Int)} (h1:1≤n) (h5:n≤5) (h:tourBz n t=true):Tour t:=by
  simp only [tourBz,Bool.and_eq_true,List.all_eq_true,decide_eq_true_eq,List.mem_range] at h
  obtain ⟨hl,hr,ht⟩:=h
  refine ⟨by omega,fun r hr'=>⟨by rw [hl];exact (hr r hr').1,(hr r hr').2⟩,fun a b ha hb=>?_⟩
  have:=ht a (by omega) b (by omega)
  rw [tAt]
  split
  · rename_i hab;rw [if_pos hab] at this;simpa using this
  · rename_i hab;rw [if_neg hab] at this;simpa using this
def colBz (n:Nat) (s:List Int) (t:List (List Int)):Bool:=(List.range n).all fun v =>
  decide (((List.range n).map fun u=>if decide (g2 t v u=1)=true then (1:Int) else 0).sum=s.getD v 0) && decide (((List.range n).map fun u=>if decide (g2 t u v=1)=true then (1:Int) else 0).sum=(comp s).getD v 0)
def bigRz (n:Nat) (s:List Int) (t:List (List Int)):Bool:=decide (t=realS2 s) && (tourBz n t && (decide (scores t=s) && colBz n s t))
def chkRz (n:Nat) (s:List Int):Bool:=if s.sum=((n:Int) - 1+1) * ((n:Int) - 1) / 2 then (if isScr s=true then bigRz n s (realI2 s) else true) else true
def chkFz (s:List Int):Bool:=isScr (comp s) == isScr s
def allWz:Nat→Nat→(List Int→Bool)→Bool
  | 0,_,f=>f []
  | m+1,t,f=>(List.range t).all fun x=>allWz m (x+1) fun l=>f ((x:Int)::l)
theorem allWz_ok:∀ (m t:Nat) (f:List Int→Bool) (l:List Int),allWz m t f=true→l.length=m→Desc l→(∀ x ∈ l,0≤x∧x < t)→f l=true
  | 0,t,f,l,h,hl,_,_=>by
    have:l=[]:=List.length_eq_zero_iff.1 hl
    subst this;exact h
  | m+1,t,f,[],h,hl,_,_=>by simp at hl
  | m+1,t,f,x::r,h,hl,hd,hx=>by
    obtain ⟨k,rfl⟩:=Int.eq_ofNat_of_zero_le (hx x (by simp)).1
    have hk:=(hx (k:Int) (by simp)).2
    have h1:=List.all_eq_true.1 h k (List.mem_range.2 (by omega))
    obtain ⟨d1,d2⟩:=List.pairwise_cons.1 hd
    refine allWz_ok m (k+1) (fun l=>f ((k:Int)::l)) r h1 (by simpa using hl) d2 fun y hy=>⟨(hx y (by simp [hy])).1,?_⟩
    have:=d1 y hy
    omega
set_option maxRecDepth 100000 in
theorem cr_1:allVz 1 1 (chkRz 1)=true:=by kernel_rfl
set_option maxRecDepth 100000 in
theorem cr_2:allVz 2 2 (chkRz 2)=true:=by kernel_rfl
set_option maxRecDepth 100000 in
theorem cr_3:allVz 3 3 (chkRz 3)=true:=by kernel_rfl
set_option maxRecDepth 100000 in
theorem cr_4:allVz 4 4 (chkRz 4)=true:=by kernel_rfl
set_option maxRecDepth 100000 in
theorem cr_5_0:allVz 5 4 (fun l=>chkRz 5 (((0:Nat):Int)::l))=true:=by kernel_rfl
set_option maxRecDepth 100000 in
theorem cr_5_1:allVz 5 4 (fun l=>chkRz 5 (((1:Nat):Int)::l))=true:=by kernel_rfl
set_option maxRecDepth 100000 in
theorem cr_5_2:allVz 5 4 (fun l=>chkRz 5 (((2:Nat):Int)::l))=true:=by kernel_rfl
set_option maxRecDepth 100000 in
theorem cr_5_3:allVz 5 4 (fun l=>chkRz 5 (((3:Nat):Int)::l))=true:=by kernel_rfl
set_option maxRecDepth 100000 in
theorem cr_5_4:allVz 5 4 (fun l=>chkRz 5 (((4:Nat):Int)::l))=true:=by kernel_rfl
theorem cr_5:allVz 5 5 (chkRz 5)=true:=by
  refine List.all_eq_true.2 fun x hx=>?_
  match x,List.mem_range.1 hx with
  | 0,_=>exact cr_5_0
  | 1,_=>exact cr_5_1
  | 2,_=>exact cr_5_2
  | 3,_=>exact cr_5_3
  | 4,_=>exact cr_5_4
  | n+5,h=>exact absurd h (by omega)
theorem cr_all (n:Nat) (h1:1≤n) (h5:n≤5):allVz n n (chkRz n)=true:=match n,h1,h5 with
  | 1,_,_=>cr_1
  | 2,_,_=>cr_2
  | 3,_,_=>cr_3
  | 4,_,_=>cr_4
  | 5,_,_=>cr_5
  | n+6,_,h=>absurd h (by omega)
set_option maxRecDepth 100000 in
theorem cf_all:(List.range 6).all (fun n=>allWz n n chkFz)=true:=by kernel_rfl
theorem isScr_sumz {s:List Int} (h1:1≤s.length) (h:isScr s=true):s.sum=((s.length:Int) - 1+1) * ((s.length:Int) - 1) / 2:=by
  rw [isScr,Bool.and_eq_true,decide_eq_true_eq,decide_eq_true_eq] at h
  have h2:=h.2
  obtain ⟨n,hn⟩:∃ n,s.length=n+1:=⟨s.length - 1,by omega⟩
  have hol:=over_len s
  rw [getD_get (by rw [hol];omega)] at h2
  have h3:(over s)[s.length - 1]'(by rw [hol];omega)=overT s (s.length - 1):=by simp [over,mapR]
  rw [h3,overT,hn] at h2
  have hal:(asc0 s).length=n+1:=by simp [asc0,fall_len,hn]
  rw [Nat.add_sub_cancel,List.take_of_length_le (by omega)] at h2
  have hs:(asc0 s).sum=s.sum:=by rw [asc0,perm_sum (List.reverse_perm _),fall_sum]
  rw [hs] at h2
  rw [hn]
  push_cast
  have e1:((n:Int)+1 - 1)=n:=by omega
  rw [e1]
  omega
theorem scrLaw (s:List Int) (hv:valS s=true) (hi:isScr s=true):ScrLaw s:=by
  obtain ⟨f1,f2,f3⟩:=valS_few hv
  have h1:=allVz_ok s.length s.length (chkRz s.length) s (cr_all _ f2.1 f2.2) rfl fun x hx=>by have:=f3 x hx;omega
  rw [chkRz,if_pos (isScr_sumz f2.1 hi),if_pos hi] at h1
  simp only [bigRz,Bool.and_eq_true,decide_eq_true_eq] at h1
  obtain ⟨q1,q2,q3,q4⟩:=h1
  have ht:=tourBz_ok f2.1 f2.2 q2
  refine ⟨q1,ht,q3,?_⟩
  have hcl:(comp s).length=s.length:=by simp [comp]
  have hvc:valS (comp s)=true:=by
    simp only [valS,Bool.and_eq_true,List.all_eq_true,decide_eq_true_eq,hcl]
    refine ⟨fun x hx=>?_,by omega,by omega⟩
    simp only [comp,List.mem_map,List.mem_range] at hx
    obtain ⟨y,hy,rfl⟩:=hx
    have:=f3 (s.getD y 0) (by rw [getD_get hy];exact List.getElem_mem hy)
    omega
  have hM:=(hasM2_iff (n:=s.length) rfl hcl (by omega) (valS_lil hv).1 (valS_lil hvc).1).2 ⟨fun v u=>decide (v ≠ u) && decide (g2 (realI2 s) v u=1),fun v=>by simp,fun v hv'=>?_,fun v hv'=>?_⟩
  · rw [implD,decide_eq_true hcl.symm,hv,hvc,hM];rfl
  · have:=List.all_eq_true.1 q4 v (List.mem_range.2 hv')
    simp only [Bool.and_eq_true,decide_eq_true_eq] at this
    rw [← this.1,S]
    congr 1
    refine List.map_congr_left fun u hu=>?_
    by_cases huv:v=u
    · subst huv
      have hd:=ht.2.2 v v (by have:=q2;simp only [tourBz,Bool.and_eq_true,decide_eq_true_eq] at this;omega) (by have:=q2;simp only [tourBz,Bool.and_eq_true,decide_eq_true_eq] at this;omega)
      rw [tAt,if_pos rfl] at hd
      simp [hd]
    · simp [huv]
  · have:=List.all_eq_true.1 q4 v (List.mem_range.2 hv')
    simp only [Bool.and_eq_true,decide_eq_true_eq] at this
    rw [← this.2,S]
    congr 1
    refine List.map_congr_left fun u hu=>?_
    by_cases huv:u=v
    · subst huv
      have hd:=ht.2.2 u u (by have:=q2;simp only [tourBz,Bool.and_eq_true,decide_eq_true_eq] at this;omega) (by have:=q2;simp only [tourBz,Bool.and_eq_true,decide_eq_true_eq] at this;omega)
      rw [tAt,if_pos rfl] at hd
      simp [hd]
    · simp [huv]
theorem over_permz {s s':List Int} (h:s.Perm s'):over s=over s':=by
  have e:fall s=fall s':=fall_congr h
  have:overT s=overT s':=by funext i;rw [overT,overT,asc0,asc0,e]
  rw [over,over,this,h.length_eq]
theorem isScr_permz {s s':List Int} (h:s.Perm s'):isScr s=isScr s':=by rw [isScr,isScr,over_permz h,h.length_eq]
theorem comp_mapz (s:List Int):comp s=s.map fun x=>(s.length:Int) - 1 - x:=by
  refine List.ext_getElem (by simp [comp]) fun i h1 h2=>?_
  have hi:i < s.length:=by simpa using h2
  simp [comp,List.getElem?_eq_getElem hi]
theorem comp_permz {s s':List Int} (h:s.Perm s'):(comp s).Perm (comp s'):=by
  rw [comp_mapz,comp_mapz,h.length_eq]
  exact h.map _
theorem scrLaw2 (s:List Int) (hv:valS s=true):isScr (comp s)=isScr s:=by
  obtain ⟨f1,f2,f3⟩:=valS_few hv
  have h1:=List.all_eq_true.1 cf_all s.length (List.mem_range.2 (by omega))
  have h2:=allWz_ok s.length s.length chkFz (fall s) h1 (fall_len s) (fall_desc s) fun x hx=>by have:=f3 x (fall_mem.1 hx);omega
  have h3:isScr (comp (fall s))=isScr (fall s):=by simpa [chkFz] using h2
  rw [isScr_permz (comp_permz (fall_perm s).symm),h3,isScr_permz (fall_perm s)]
end Go.Idl
