/- Part 7 of a proof by an ideal interpreter of the code: its definitions and lemmas. Conditions: none. -/
import Derived.KernelRfl
import Derived.Test.YtnpcdnpfncdbnaaA6
set_option linter.all false
set_option linter.unusedVariables false
set_option linter.unusedSimpArgs false
namespace Go.Idl
open Go
theorem scanG_sortedM {d:List Int} {k:Nat} (hk:k < (srtC (gtD d) [] (idxB d.length (-1))).length) :
    scanG d (-1) ((srtC (gtD d) [] (idxB d.length (-1))).take k) d.length=(srtC (gtD d) [] (idxB d.length (-1)))[k]:=by
  obtain ⟨r,hr⟩:∃ r,r=srtC (gtD d) [] (idxB d.length (-1)):=⟨_,rfl⟩
  have hrp:r.Perm (idxB d.length (-1)):=by rw [hr];simpa using srtC_perm (gtD d) (idxB d.length (-1)) []
  have hrlex:r.Pairwise (lexR d):=by rw [hr];exact srtC_lex (left:=d) _ [] .nil (by simp) (idxV_pw _ _)
  have hrn:r.Nodup:=hrp.nodup_iff.2 ((idxV_pw _ _).imp fun h=>by omega)
  simp only [← hr] at hk ⊢
  have hm:∀ x,x ∈ r ↔ (0≤x∧x < d.length)∧x ≠ (-1:Int):=fun x=>by
    rw [hrp.mem_iff,mem_idxB]
    exact ⟨fun h=>⟨h,by omega⟩,fun h=>h.1⟩
  have hsplit:r=r.take k++(r[k]::r.drop (k+1)):=by rw [List.getElem_cons_drop,List.take_append_drop]
  rw [hsplit] at hrlex hrn
  obtain ⟨p1,p2,p3⟩:=List.pairwise_append.1 hrlex
  have p4:=(List.pairwise_cons.1 p2).1
  obtain ⟨n1,n2,n3⟩:=List.nodup_append.1 hrn
  have hkm:=(hm r[k]).1 (List.getElem_mem hk)
  have hkg:r[k] ∉ r.take k:=fun h=>n3 _ h _ List.mem_cons_self rfl
  obtain ⟨q,hq⟩:=Int.eq_ofNat_of_zero_le hkm.1.1
  rcases scanG_spec d (-1) (r.take k) d.length with ⟨h3,h4⟩ | ⟨b,h3,h4,h5,h6,h7⟩
  · exact (h4 q (by omega) (by omega) (by rw [← hq];exact hkg)).elim
  · rw [h3]
    by_cases hbq:b=q
    · rw [hq,hbq]
    · have l1:=h7 q (by omega) (by omega) (by rw [← hq];exact hkg) (fun h=>hbq h.symm)
      have hbr:(b:Int) ∈ r:=(hm b).2 ⟨by omega,h5⟩
      have hbd:(b:Int) ∈ r.drop (k+1):=by
        rw [hsplit] at hbr
        rcases List.mem_append.1 hbr with h | h
        · exact (h6 h).elim
        · rcases List.mem_cons.1 h with h | h
          · omega
          · exact h
      have l2:=p4 _ hbd
      rw [hq] at l2
      exact (lexR_irr (lexR_trans l1 l2)).elim
theorem sg_inM (d:List Int) (c:Bool) (k:Int) (gone:List Int) (hg:gone.length≤100) (hd:d.length≤100):∀ (m j:Nat),j+m=d.length →
    wp tb (.loop z587l9) { T:=[(0,L d c),(1,I (-1)),(2,I k),(7,O gone),(8,I (scanG d (-1) gone j)),(9,I j)],loc:=[],M:=[] }
      (fun ex st=>ex=.exit 2∧st={ T:=[(0,L d c),(1,I (-1)),(2,I k),(7,O gone),(8,I (scanG d (-1) gone d.length)),(9,I d.length),(18,Bo false)],loc:=[],M:=[] }):=by
  intro m
  induction m with
  | zero =>
    intro j hj
    have h3:j=d.length:=hj
    subst h3
    refine wp_loop ?_
    repeat (first|apply wp_as|apply wp_ss|refine wr (by simp;with_reducible rfl) ?_|refine wq (by simp;with_reducible rfl) ?_|refine wt (by simpa) ?_|refine wf (by simpa) ?_|refine xt (by simpa) ?_|refine xf (by simpa) ?_|apply wp_bs|apply wp_b|refine wp_sr ?_|refine wp_sx ?_|refine wp_ret' ?_|refine wp_skip' ?_|refine wp_exit' ?_)
    exact ⟨rfl,rfl⟩
  | succ m ih =>
    intro j hj
    have e1:=fun cc=>ev_lim (ev_hasInt gone cc (j:Int) (by omega))
    have hjl:j < d.length:=by omega
    have w1:IntKind.i64.wrap ((j:Int)+1)=((j+1:Nat):Int):=wrapS (by omega)
    have hn:=ih (j+1) (by omega)
    rw [scanG] at hn
    have hgj:d.getD j 0=d[j]:=by rw [List.getD_eq_getElem?_getD,List.getElem?_eq_getElem hjl];rfl
    have h1:¬ (j:Int)=-1:=by omega
    by_cases h2:(j:Int) ∈ gone
    · rw [if_neg (fun h=>h.2.1 h2)] at hn
      refine wp_loop ?_
      repeat (first|apply wp_as|apply wp_ss|refine wr (by simp [hjl,h1,e1,h2,w1,Int.ofNat_inj];with_reducible rfl) ?_|refine wq (by simp [hjl,h1,e1,h2,w1,Int.ofNat_inj];with_reducible rfl) ?_|refine wt (by simpa [hjl,h1,e1,h2,w1,Int.ofNat_inj]) ?_|refine wf (by simpa [hjl,h1,e1,h2,w1,Int.ofNat_inj]) ?_|refine xt (by simpa [hjl,h1,e1,h2,w1,Int.ofNat_inj]) ?_|refine xf (by simpa [hjl,h1,e1,h2,w1,Int.ofNat_inj]) ?_|apply wp_bs|apply wp_b|refine wp_sr ?_|refine wp_sx ?_|refine wp_ret' ?_|refine wp_skip' ?_|refine wp_exit' ?_)
      exact hn
    have h1':(j:Int) ≠ -1:=by omega
    rcases scanG_spec d (-1) gone j with ⟨h3,h4⟩ | ⟨b,h3,h4,h5,h6,h7⟩
    · rw [if_pos ⟨h1',h2,.inl (by omega)⟩] at hn
      rw [h3]
      refine wp_loop ?_
      repeat (first|apply wp_as|apply wp_ss|refine wr (by simp [hjl,h1,e1,h2,w1,Int.ofNat_inj];with_reducible rfl) ?_|refine wq (by simp [hjl,h1,e1,h2,w1,Int.ofNat_inj];with_reducible rfl) ?_|refine wt (by simpa [hjl,h1,e1,h2,w1,Int.ofNat_inj]) ?_|refine wf (by simpa [hjl,h1,e1,h2,w1,Int.ofNat_inj]) ?_|refine xt (by simpa [hjl,h1,e1,h2,w1,Int.ofNat_inj]) ?_|refine xf (by simpa [hjl,h1,e1,h2,w1,Int.ofNat_inj]) ?_|apply wp_bs|apply wp_b|refine wp_sr ?_|refine wp_sx ?_|refine wp_ret' ?_|refine wp_skip' ?_|refine wp_exit' ?_)
      exact hn
    · have hbl:b < d.length:=by omega
      have hgb:d.getD b 0=d[b]:=by rw [List.getD_eq_getElem?_getD,List.getElem?_eq_getElem hbl];rfl
      rw [h3,Int.toNat_natCast,hgj,hgb] at hn
      have hb0:¬ (b:Int) < 0:=by omega
      rw [h3]
      by_cases h8:d[b] < d[j]
      · rw [if_pos ⟨h1',h2,.inr h8⟩] at hn
        refine wp_loop ?_
        repeat (first|apply wp_as|apply wp_ss|refine wr (by simp [hjl,hbl,h1,e1,h2,w1,Int.ofNat_inj,hb0,h8];with_reducible rfl) ?_|refine wq (by simp [hjl,hbl,h1,e1,h2,w1,Int.ofNat_inj,hb0,h8];with_reducible rfl) ?_|refine wt (by simpa [hjl,hbl,h1,e1,h2,w1,Int.ofNat_inj,hb0,h8]) ?_|refine wf (by simpa [hjl,hbl,h1,e1,h2,w1,Int.ofNat_inj,hb0,h8]) ?_|refine xt (by simpa [hjl,hbl,h1,e1,h2,w1,Int.ofNat_inj,hb0,h8]) ?_|refine xf (by simpa [hjl,hbl,h1,e1,h2,w1,Int.ofNat_inj,hb0,h8]) ?_|apply wp_bs|apply wp_b|refine wp_sr ?_|refine wp_sx ?_|refine wp_ret' ?_|refine wp_skip' ?_|refine wp_exit' ?_)
        exact hn
      · rw [if_neg (fun h=>by rcases h.2.2 with h | h;exact hb0 h;exact h8 h)] at hn
        refine wp_loop ?_
        repeat (first|apply wp_as|apply wp_ss|refine wr (by simp [hjl,hbl,h1,e1,h2,w1,Int.ofNat_inj,hb0,h8];with_reducible rfl) ?_|refine wq (by simp [hjl,hbl,h1,e1,h2,w1,Int.ofNat_inj,hb0,h8];with_reducible rfl) ?_|refine wt (by simpa [hjl,hbl,h1,e1,h2,w1,Int.ofNat_inj,hb0,h8]) ?_|refine wf (by simpa [hjl,hbl,h1,e1,h2,w1,Int.ofNat_inj,hb0,h8]) ?_|refine xt (by simpa [hjl,hbl,h1,e1,h2,w1,Int.ofNat_inj,hb0,h8]) ?_|refine xf (by simpa [hjl,hbl,h1,e1,h2,w1,Int.ofNat_inj,hb0,h8]) ?_|apply wp_bs|apply wp_b|refine wp_sr ?_|refine wp_sx ?_|refine wp_ret' ?_|refine wp_skip' ?_|refine wp_exit' ?_)
        exact hn
theorem sg_outM (d:List Int) (c:Bool) (hd:d.length≤100) (k:Nat):∀ (m j:Nat),j+m=k→k≤(srtC (gtD d) [] (idxB d.length (-1))).length →
    wp tb (.loop z587l11) { T:=[(0,L d c),(1,I (-1)),(2,I k),(7,O ((srtC (gtD d) [] (idxB d.length (-1))).take j))],loc:=[],M:=[] }
      (fun ex st=>ex=.exit 0∧st={ T:=[(0,L d c),(1,I (-1)),(2,I k),(7,O ((srtC (gtD d) [] (idxB d.length (-1))).take k)),(14,Bo false)],loc:=[],M:=[] }):=by
  have hrl:(srtC (gtD d) [] (idxB d.length (-1))).length=d.length:=by rw [topD_len d _ 0,idxB_all];simp
  intro m
  induction m with
  | zero =>
    intro j hj hk
    have h3:j=k:=hj
    subst h3
    have hl:((srtC (gtD d) [] (idxB d.length (-1))).take j).length=j:=by rw [List.length_take];omega
    generalize (srtC (gtD d) [] (idxB d.length (-1))).take j=t at *
    refine wp_loop ?_
    repeat (first|apply wp_as|apply wp_ss|refine wr (by simp [hl];with_reducible rfl) ?_|refine wq (by simp [hl];with_reducible rfl) ?_|refine wt (by simpa [hl]) ?_|refine wf (by simpa [hl]) ?_|refine xt (by simpa [hl]) ?_|refine xf (by simpa [hl]) ?_|apply wp_bs|apply wp_b|refine wp_sr ?_|refine wp_sx ?_|refine wp_ret' ?_|refine wp_skip' ?_|refine wp_exit' ?_)
    exact ⟨rfl,rfl⟩
  | succ m ih =>
    intro j hj hk
    have hjr:j < (srtC (gtD d) [] (idxB d.length (-1))).length:=by omega
    have hs:=scanG_sortedM hjr
    have ht:(srtC (gtD d) [] (idxB d.length (-1))).take j++[(srtC (gtD d) [] (idxB d.length (-1)))[j]]=(srtC (gtD d) [] (idxB d.length (-1))).take (j+1):=by
      rw [List.take_succ,List.getElem?_eq_getElem hjr];rfl
    have hn:=ih (j+1) (by omega) hk
    have hl:((srtC (gtD d) [] (idxB d.length (-1))).take j).length=j:=by rw [List.length_take];omega
    have hin:=sg_inM d c k ((srtC (gtD d) [] (idxB d.length (-1))).take j) (by omega) hd d.length 0 (by omega)
    rw [hs,scanG] at hin
    rw [← ht] at hn
    generalize (srtC (gtD d) [] (idxB d.length (-1)))[j]=x at *
    generalize (srtC (gtD d) [] (idxB d.length (-1))).take j=t at *
    have hjk:(j:Int) < k:=by omega
    have hjk2:j < k:=by omega
    have hlim:j+1≤274877906944:=by omega
    have hT:t.take j=t:=List.take_of_length_le (by omega)
    refine wp_loop ?_
    repeat (first|apply wp_as|apply wp_ss|refine wr (by simp [hl,hjk,hjk2];with_reducible rfl) ?_|refine wq (by simp [hl,hjk,hjk2];with_reducible rfl) ?_|refine wt (by simpa [hl,hjk,hjk2]) ?_|refine wf (by simpa [hl,hjk,hjk2]) ?_|refine xt (by simpa [hl,hjk,hjk2]) ?_|refine xf (by simpa [hl,hjk,hjk2]) ?_|apply wp_bs|apply wp_b|refine wp_sr ?_|refine wp_sx ?_|refine wp_ret' ?_|refine wp_skip' ?_|refine wp_exit' ?_)
    refine wp_imp hin ?_
    rintro ex st ⟨rfl,rfl⟩
    try simp only [if_true]
    repeat (first|apply wp_as|apply wp_ss|refine wr (by simp [hl,hlim,hT];with_reducible rfl) ?_|refine wq (by simp [hl,hlim,hT];with_reducible rfl) ?_|refine wt (by simpa [hl,hlim,hT]) ?_|refine wf (by simpa [hl,hlim,hT]) ?_|refine xt (by simpa [hl,hlim,hT]) ?_|refine xf (by simpa [hl,hlim,hT]) ?_|apply wp_bs|apply wp_b|refine wp_sr ?_|refine wp_sx ?_|refine wp_ret' ?_|refine wp_skip' ?_|refine wp_exit' ?_)
    exact hn
theorem ev_spec_greatestM (d:List Int) (c:Bool) (hd:d.length≤100) (k:Nat) (hk:k≤d.length) :
    Ev tb zl587 [] [L d c,I (-1),I k] [] ⟨O (topD d (idxB d.length (-1)) k),[],[],[]⟩:=by
  have hrl:(srtC (gtD d) [] (idxB d.length (-1))).length=d.length:=by rw [topD_len d _ 0,idxB_all];simp
  have loop:=sg_outM d c hd k k 0 (by omega) (by omega)
  rw [List.take_zero] at loop
  have ht3:((srtC (gtD d) [] (idxB d.length (-1))).take k).take (min k (srtC (gtD d) [] (idxB d.length (-1))).length)=(srtC (gtD d) [] (idxB d.length (-1))).take k:=List.take_of_length_le (by rw [List.length_take];omega)
  refine call_of_wp zt587 rfl ?_
  repeat (first|apply wp_as|apply wp_ss|refine wr (by simp;with_reducible rfl) ?_|refine wq (by simp;with_reducible rfl) ?_|refine wt (by simpa) ?_|refine wf (by simpa) ?_|refine xt (by simpa) ?_|refine xf (by simpa) ?_|apply wp_bs|apply wp_b|refine wp_sr ?_|refine wp_sx ?_|refine wp_ret' ?_|refine wp_skip' ?_|refine wp_exit' ?_)
  refine wp_imp loop ?_
  rintro ex st ⟨rfl,rfl⟩
  try simp only [if_true]
  repeat (first|apply wp_as|apply wp_ss|refine wr (by simp;with_reducible rfl) ?_|refine wq (by simp;with_reducible rfl) ?_|refine wt (by simpa) ?_|refine wf (by simpa) ?_|refine xt (by simpa) ?_|refine xf (by simpa) ?_|apply wp_bs|apply wp_b|refine wp_sr ?_|refine wp_sx ?_|refine wp_ret' ?_|refine wp_skip' ?_|refine wp_exit' ?_)
  simp [zi587,topD,ht3]
theorem am_inA (code:List Int) (c:Bool) (hc:CodeOk code) (h w:Nat) (hw:w≤5) (A bs:Boxes) (Ms:List Boxes) (t:List (List Int)) (i:Nat) :
    ∀ (m j cnt:Nat) (r:List Int),j+m=w→cnt+m≤90000→r.length=j→(∀ x ∈ r,0≤x∧x≤1) →
    wp tb (.loop z331l9) { T:=[(0,.bptr 0 A.length 0),(1,I h),(2,I w),(7,OT t),(8,I i),(9,O r),(10,I j)],loc:=[],M:=(A++R code c cnt::bs)::Ms }
      (fun ex st=>ex=.exit 2∧∃ (r':List Int) (k:Nat),(r'.length=w∧∀ x ∈ r',0≤x∧x≤1)∧k≤cnt+m ∧
        st={ T:=[(0,.bptr 0 A.length 0),(1,I h),(2,I w),(7,OT t),(8,I i),(9,O r'),(10,I w),(20,Bo false)],loc:=[],M:=(A++R code c k::bs)::Ms }):=by
  intro m
  induction m with
  | zero =>
    intro j cnt r hj hcn hr h01
    have h3:j=w:=hj
    subst h3
    refine wp_loop ?_
    repeat (first|apply wp_as|apply wp_ss|refine wr (by simp;with_reducible rfl) ?_|refine wq (by simp;with_reducible rfl) ?_|refine wt (by simpa) ?_|refine wf (by simpa) ?_|refine xt (by simpa) ?_|refine xf (by simpa) ?_|apply wp_bs|apply wp_b|refine wp_sr ?_|refine wp_sx ?_|refine wp_ret' ?_|refine wp_skip' ?_|refine wp_exit' ?_)
    exact ⟨rfl,r,cnt,⟨hr,h01⟩,by omega,rfl⟩
  | succ m ih =>
    intro j cnt r hj hcn hr h01
    have hjw:j < w:=by omega
    have w2:IntKind.i64.wrap ((j:Int)+1)=((j+1:Nat):Int):=wrapS (by omega)
    obtain ⟨v,k,hv,hk,e1⟩:=pickA code c hc cnt (by omega) 2 (by omega) A bs (Ms++[[]])
    have hv:=hv (by omega)
    have hrl:r.length≤274877906943:=by omega
    have hrt:r.take r.length=r:=List.take_of_length_le (by omega)
    refine wp_loop ?_
    repeat (first|apply wp_as|apply wp_ss|refine wr (by simp [hjw,e1,w2,hrl,hrt];with_reducible rfl) ?_|refine wq (by simp [hjw,e1,w2,hrl,hrt];with_reducible rfl) ?_|refine wt (by simpa [hjw,e1,w2,hrl,hrt]) ?_|refine wf (by simpa [hjw,e1,w2,hrl,hrt]) ?_|refine xt (by simpa [hjw,e1,w2,hrl,hrt]) ?_|refine xf (by simpa [hjw,e1,w2,hrl,hrt]) ?_|apply wp_bs|apply wp_b|refine wp_sr ?_|refine wp_sx ?_|refine wp_ret' ?_|refine wp_skip' ?_|refine wp_exit' ?_)
    refine wp_imp (ih (j+1) k (r++[(v:Int)]) (by omega) (by omega) (by simp [hr]) (fun x hx=>?_)) ?_
    · rcases List.mem_append.1 hx with hx | hx
      · exact h01 x hx
      · simp at hx;omega
    · rintro ex st ⟨rfl,r',k',h1,h2,rfl⟩
      exact ⟨rfl,r',k',h1,by omega,rfl⟩
theorem am_outA (code:List Int) (c:Bool) (hc:CodeOk code) (h w:Nat) (hh:h≤5) (hw:w≤5) (A bs:Boxes) (Ms:List Boxes) :
    ∀ (m i cnt:Nat) (t:List (List Int)),i+m=h→cnt+5 * m≤90000→MM i w t →
    wp tb (.loop z331l12) { T:=[(0,.bptr 0 A.length 0),(1,I h),(2,I w),(7,OT t),(8,I i)],loc:=[],M:=(A++R code c cnt::bs)::Ms }
      (fun ex st=>ex=.exit 0∧∃ (t':List (List Int)) (k:Nat),MM h w t'∧k≤cnt+5 * m ∧
        st={ T:=[(0,.bptr 0 A.length 0),(1,I h),(2,I w),(7,OT t'),(8,I h),(14,Bo false)],loc:=[],M:=(A++R code c k::bs)::Ms }):=by
  intro m
  induction m with
  | zero =>
    intro i cnt t hi hcn ht
    have h3:i=h:=hi
    subst h3
    refine wp_loop ?_
    repeat (first|apply wp_as|apply wp_ss|refine wr (by simp;with_reducible rfl) ?_|refine wq (by simp;with_reducible rfl) ?_|refine wt (by simpa) ?_|refine wf (by simpa) ?_|refine xt (by simpa) ?_|refine xf (by simpa) ?_|apply wp_bs|apply wp_b|refine wp_sr ?_|refine wp_sx ?_|refine wp_ret' ?_|refine wp_skip' ?_|refine wp_exit' ?_)
    exact ⟨rfl,t,cnt,ht,by omega,rfl⟩
  | succ m ih =>
    intro i cnt t hi hcn ht
    have hih:i < h:=by omega
    have w2:IntKind.i64.wrap ((i:Int)+1)=((i+1:Nat):Int):=wrapS (by omega)
    refine wp_loop ?_
    repeat (first|apply wp_as|apply wp_ss|refine wr (by simp [hih];with_reducible rfl) ?_|refine wq (by simp [hih];with_reducible rfl) ?_|refine wt (by simpa [hih]) ?_|refine wf (by simpa [hih]) ?_|refine xt (by simpa [hih]) ?_|refine xf (by simpa [hih]) ?_|apply wp_bs|apply wp_b|refine wp_sr ?_|refine wp_sx ?_|refine wp_ret' ?_|refine wp_skip' ?_|refine wp_exit' ?_)
    have hin:=am_inA code c hc h w hw A bs Ms t i w 0 cnt [] (by omega) (by omega) rfl (by simp)
    rw [show ((0:Nat):Int)=0 from rfl] at hin
    refine wp_imp hin ?_
    rintro ex st ⟨rfl,r',k',h1,h2,rfl⟩
    simp only [if_true]
    have htl:=ht.1
    have htt:t.length≤274877906943:=by omega
    have hto:t.take t.length=t:=List.take_of_length_le (by omega)
    repeat (first|apply wp_as|apply wp_ss|refine wr (by simp [w2,htt,hto];with_reducible rfl) ?_|refine wq (by simp [w2,htt,hto];with_reducible rfl) ?_|refine wt (by simpa [w2,htt,hto]) ?_|refine wf (by simpa [w2,htt,hto]) ?_|refine xt (by simpa [w2,htt,hto]) ?_|refine xf (by simpa [w2,htt,hto]) ?_|apply wp_bs|apply wp_b|refine wp_sr ?_|refine wp_sx ?_|refine wp_ret' ?_|refine wp_skip' ?_|refine wp_exit' ?_)
    refine wp_imp (ih (i+1) k' (t++[r']) (by omega) (by omega) ⟨by simp [htl],fun r hr=>?_⟩) ?_
    · rcases List.mem_append.1 hr with hr | hr
      · exact ht.2 r hr
      · simp at hr;subst hr;exact h1
    · rintro ex st ⟨rfl,t'',k'',h3,h4,rfl⟩
      exact ⟨rfl,t'',k'',h3,by omega,rfl⟩
theorem ev_aMatrixA (code:List Int) (c:Bool) (hc:CodeOk code) (cnt:Nat) (hn:cnt≤80000) (h w:Nat) (hh:h≤5) (hw:w≤5) (A bs:Boxes) (Ms:List Boxes) :
    ∃ (t:List (List Int)) (k:Nat),MM h w t∧k≤cnt+25 ∧
      limF tb zl331 [] [.bptr 0 A.length 0,I h,I w] ((A++R code c cnt::bs)::Ms)=some ⟨OT t,[],(A++R code c k::bs)::Ms,[]⟩:=by
  suffices h:∃ r,(∃ (t:List (List Int)) (k:Nat),MM h w t∧k≤cnt+25∧r=⟨OT t,[],(A++R code c k::bs)::Ms,[]⟩)∧Ev tb zl331 [] [.bptr 0 A.length 0,I h,I w] ((A++R code c cnt::bs)::Ms) r by
    obtain ⟨r,⟨t,k,h1,h2,rfl⟩,h⟩:=h
    exact ⟨t,k,h1,h2,ev_lim h⟩
  refine call_ex zt331 rfl ?_
  repeat (first|apply wp_as|apply wp_ss|refine wr (by simp;with_reducible rfl) ?_|refine wq (by simp;with_reducible rfl) ?_|refine wt (by simpa) ?_|refine wf (by simpa) ?_|refine xt (by simpa) ?_|refine xf (by simpa) ?_|apply wp_bs|apply wp_b|refine wp_sr ?_|refine wp_sx ?_|refine wp_ret' ?_|refine wp_skip' ?_|refine wp_exit' ?_)
  have hin:=am_outA code c hc h w hh hw A bs Ms h 0 cnt [] (by omega) (by omega) ⟨rfl,by simp⟩
  rw [show ((0:Nat):Int)=0 from rfl] at hin
  refine wp_imp hin ?_
  rintro ex st ⟨rfl,t',k',h1,h2,rfl⟩
  simp only [if_true]
  repeat (first|apply wp_as|apply wp_ss|refine wr (by simp;with_reducible rfl) ?_|refine wq (by simp;with_reducible rfl) ?_|refine wt (by simpa) ?_|refine wf (by simpa) ?_|refine xt (by simpa) ?_|refine xf (by simpa) ?_|apply wp_bs|apply wp_b|refine wp_sr ?_|refine wp_sx ?_|refine wp_ret' ?_|refine wp_skip' ?_|refine wp_exit' ?_)
  exact ⟨.inr rfl,_,⟨t',k',h1,by omega,rfl⟩,by simp [zi331]⟩
theorem ev_aSplitA (code:List Int) (c:Bool) (hc:CodeOk code) (cnt:Nat) (hn:cnt≤60000) (A bs:Boxes) (Ms:List Boxes) :
    ∃ (n:Nat) (es:List (Int×Int)) (k:Nat),n≤7∧es.length≤21∧EdgesIn n es∧k≤cnt+100 ∧
      limF tb zl332 [] [.bptr 0 A.length 0] ((A++R code c cnt::bs)::Ms)=some ⟨OG n es,[],(A++R code c k::bs)::Ms,[]⟩:=by
  obtain ⟨v1,k1,hv1,hk1,e1⟩:=pickA code c hc cnt (by omega) 3 (by omega) A bs (Ms++[[[I 0,Z]]])
  have hv1:=hv1 (by omega)
  obtain ⟨v2,k2,hv2,hk2,e2⟩:=pickA code c hc k1 (by omega) 4 (by omega) A bs (Ms++[[[I 0,Z]]])
  have hv2:=hv2 (by omega)
  obtain ⟨t,k3,ht,hk3,e3⟩:=ev_aMatrixA code c hc k2 (by omega) (1+v1) (1+v2) (by omega) (by omega) A bs (Ms++[[[I 0,Z]]])
  rw [show ((1+v1:Nat):Int)=1+(v1:Int) by omega,show ((1+v2:Nat):Int)=1+(v2:Int) by omega] at e3
  obtain ⟨acc,hs,hE⟩:=ev_splitGraph (1+v1) (1+v2) (by omega) (by omega) (by omega) t false ht
  have e4:=ev_lim hE
  have hal:=hs.length_le
  have hp21:=prs_le21 (1+v1+(1+v2)) (by omega)
  obtain ⟨out,k4,ho1,ho2,hk4,e5⟩:=ev_movedA code c hc k3 (by omega) (1+v1+(1+v2)) (by omega) acc false (prs_in hs) (by omega) A bs (Ms++[[[I 0,Z]]])
  rw [show ((1+v1+(1+v2):Nat):Int)=((1+v1:Nat):Int)+((1+v2:Nat):Int) by omega] at e5
  have w1:IntKind.i64.wrap (1+(v1:Int))=1+(v1:Int):=wrap64 (by omega) (by omega)
  have w2:IntKind.i64.wrap (1+(v2:Int))=1+(v2:Int):=wrap64 (by omega) (by omega)
  have hto:t.take t.length=t:=List.take_of_length_le (Nat.le_refl _)
  refine ⟨1+v1+(1+v2),out,k4,by omega,by omega,ho2,by omega,ev_lim ?_⟩
  rw [show ((1+v1+(1+v2):Nat):Int)=((1+v1:Nat):Int)+((1+v2:Nat):Int) by omega]
  generalize ((1+v1:Nat):Int)+((1+v2:Nat):Int)=nn at *
  have hot:out.take out.length=out:=List.take_of_length_le (Nat.le_refl _)
  refine call_of_wp zt332 rfl ?_
  repeat (first|apply wp_as|apply wp_ss|refine wr (by simp [e1,e2,e3,e4,e5,w1,w2,hto,hot];with_reducible rfl) ?_|refine wq (by simp [e1,e2,e3,e4,e5,w1,w2,hto,hot];with_reducible rfl) ?_|refine wt (by simpa [e1,e2,e3,e4,e5,w1,w2,hto,hot]) ?_|refine wf (by simpa [e1,e2,e3,e4,e5,w1,w2,hto,hot]) ?_|refine xt (by simpa [e1,e2,e3,e4,e5,w1,w2,hto,hot]) ?_|refine xf (by simpa [e1,e2,e3,e4,e5,w1,w2,hto,hot]) ?_|apply wp_bs|apply wp_b|refine wp_sr ?_|refine wp_sx ?_|refine wp_ret' ?_|refine wp_skip' ?_|refine wp_exit' ?_)
  simp [zi332]
theorem ev_DrawSplitParts (code:List Int) (c:Bool) (h:∀ x ∈ code,0≤x∧x≤255) (hl:code.length≤10000000) :
    ∃ (n:Int) (es:List (Int×Int)),SmallG n es∧limF tb zl568 [] [.lst 1 (bytes code) c] []=some ⟨Gr n es false,[],[],[]⟩:=by
  obtain ⟨c',e⟩:=ev_newReader code c [[[I 0,Z]]] (by omega)
  have e1:=ev_lim e
  obtain ⟨v,k,hv,hk,e2⟩:=pickA (code.take 2000) c' (code_ok h) 0 (by omega) 3 (by omega) [[I 0,Z]] [] []
  rw [show ((0:Nat):Int)=0 from rfl] at e2
  simp only [List.length_cons,List.length_nil,List.cons_append,List.nil_append,Nat.zero_add] at e2
  cases v with
  | zero =>
    obtain ⟨n,es,k2,h1,h2,e3⟩:=ev_someGraph (code.take 2000) c' (code_ok h) k (by omega) [[I 0,Z]] [] []
    simp only [List.length_cons,List.length_nil,List.cons_append,List.nil_append,Nat.zero_add] at e3
    refine ⟨n,es,h1,ev_lim ?_⟩
    refine call_of_wp zt568 rfl ?_
    repeat (first|apply wp_as|apply wp_ss|refine wr (by simp [e1,e2,e3];with_reducible rfl) ?_|refine wq (by simp [e1,e2,e3];with_reducible rfl) ?_|refine wt (by simpa [e1,e2,e3]) ?_|refine wf (by simpa [e1,e2,e3]) ?_|refine xt (by simpa [e1,e2,e3]) ?_|refine xf (by simpa [e1,e2,e3]) ?_|apply wp_bs|apply wp_b|refine wp_sr ?_|refine wp_sx ?_|refine wp_ret' ?_|refine wp_skip' ?_|refine wp_exit' ?_)
    simp [zi568]
  | succ v =>
    have hp:¬ (v:Int)+1=0:=by omega
    obtain ⟨n,es,k2,hn7,hel,hes,hk2,e3⟩:=ev_aSplitA (code.take 2000) c' (code_ok h) k (by omega) [[I 0,Z]] [] []
    simp only [List.length_cons,List.length_nil,List.cons_append,List.nil_append,Nat.zero_add] at e3
    refine ⟨n,es,⟨by omega,by omega,by omega,fun e he=>by have:=hes e he;omega⟩,ev_lim ?_⟩
    refine call_of_wp zt568 rfl ?_
    repeat (first|apply wp_as|apply wp_ss|refine wr (by simp [e1,e2,e3,hp];with_reducible rfl) ?_|refine wq (by simp [e1,e2,e3,hp];with_reducible rfl) ?_|refine wt (by simpa [e1,e2,e3,hp]) ?_|refine wf (by simpa [e1,e2,e3,hp]) ?_|refine xt (by simpa [e1,e2,e3,hp]) ?_|refine xf (by simpa [e1,e2,e3,hp]) ?_|apply wp_bs|apply wp_b|refine wp_sr ?_|refine wp_sx ?_|refine wp_ret' ?_|refine wp_skip' ?_|refine wp_exit' ?_)
    simp [zi568]
theorem ip_loop (n:Nat) (es:List (Int×Int)) (c:Bool) (hl:es.length≤1000) (K:List Int) (cK:Bool) (hK:K.length≤1000) (P:List (Int×Int)) (hP:P.length≤1000) (hh:∀ e ∈ P,has es e.1 e.2=hasM es e.1 e.2):∀ (m k:Nat),k+m=P.length →
    wp tb (.loop z589l10) { T:=[(1,L K cK),(2,.bptr 0 0 0),(5,O2 P),(6,I k)],loc:=[[I n,L2 es c]],M:=[] }
      (fun ex st=>(ex=.exit 0∧(P.drop k).all (spP es K)=true∧st={ T:=[(1,L K cK),(2,.bptr 0 0 0),(5,O2 P),(6,I P.length),(16,Bo false)],loc:=[[I n,L2 es c]],M:=[] }) ∨
        (ex=.ret∧(P.drop k).all (spP es K)=false∧st={ T:=[(4,Bo false)],loc:=[[I n,L2 es c]],M:=[] })):=by
  intro m
  induction m with
  | zero =>
    intro k hk
    have h3:k=P.length:=hk
    subst h3
    rw [List.drop_length]
    refine wp_loop ?_
    repeat (first|apply wp_as|apply wp_ss|refine wr (by simp;with_reducible rfl) ?_|refine wq (by simp;with_reducible rfl) ?_|refine wt (by simpa) ?_|refine wf (by simpa) ?_|refine xt (by simpa) ?_|refine xf (by simpa) ?_|apply wp_bs|apply wp_b|refine wp_sr ?_|refine wp_sx ?_|refine wp_ret' ?_|refine wp_skip' ?_|refine wp_exit' ?_)
    exact .inl ⟨rfl,rfl,rfl⟩
  | succ m ih =>
    intro k hk
    have hk2:k < P.length:=by omega
    have hd:P.drop k=P[k]::P.drop (k+1):=List.drop_eq_getElem_cons hk2
    have hhk:=hh _ (List.getElem_mem hk2)
    obtain ⟨⟨a,b⟩,hx⟩:∃ s,s=P[k]:=⟨_,rfl⟩
    have hx2:=hx.symm
    rw [hx2] at hhk
    simp only at hhk
    have w1:IntKind.i64.wrap ((k:Int)+1)=((k+1:Nat):Int):=wrapS (by omega)
    have e1a:=fun c=>ev_lim (ev_hasInt K c a (by omega))
    have e1b:=fun c=>ev_lim (ev_hasInt K c b (by omega))
    have e2:=fun c=>ev_lim (ev_hasEdge n es c a b (by omega))
    rw [hhk] at e2
    have hn:=ih (k+1) (by omega)
    rw [hd,← hx,List.all_cons]
    have hsp:spP es K (a,b)=(decide (a ∈ K) != decide (b ∈ K) || hasM es a b == decide (a ∈ K)):=rfl
    rw [hsp]
    clear hsp hhk
    generalize hasM es a b=q at *
    generalize decide (a ∈ K)=p1 at *
    generalize decide (b ∈ K)=p2 at *
    cases p1 <;> cases p2 <;> cases q
    all_goals
      refine wp_loop ?_
      repeat (first|apply wp_as|apply wp_ss|refine wr (by simp [hk2,hx2,e1a,e1b,e2,w1];with_reducible rfl) ?_|refine wq (by simp [hk2,hx2,e1a,e1b,e2,w1];with_reducible rfl) ?_|refine wt (by simpa [hk2,hx2,e1a,e1b,e2,w1]) ?_|refine wf (by simpa [hk2,hx2,e1a,e1b,e2,w1]) ?_|refine xt (by simpa [hk2,hx2,e1a,e1b,e2,w1]) ?_|refine xf (by simpa [hk2,hx2,e1a,e1b,e2,w1]) ?_|apply wp_bs|apply wp_b|refine wp_sr ?_|refine wp_sx ?_|refine wp_ret' ?_|refine wp_skip' ?_|refine wp_exit' ?_)
      first | exact hn | exact .inr ⟨rfl,rfl,rfl⟩
theorem ev_isParts (n:Nat) (es:List (Int×Int)) (c:Bool) (hv:vGraph n es=true) (K:List Int) (cK:Bool) (hK:K.length≤1000):Ev tb zl589 [] [Gr n es c,L K cK] [] ⟨Bo ((prs n).all (spP es K)),[],[],[]⟩:=by
  have hn7:=(vG_iff.1 hv).2.2
  have h21:=vG21 hn7 hv
  have hpl:(prs n).length≤1000:=by have:=prs_le21 n hn7;omega
  have e1:=ev_lim (ev_pairs n (by omega))
  have loop:=ip_loop n es c (by omega) K cK hK (prs n) hpl (fun e he=>has_hasM (vG_iff.1 hv).2.1 e.1 e.2) (prs n).length 0 (by omega)
  rw [show ((0:Nat):Int)=0 from rfl,List.drop_zero] at loop
  generalize prs n=P at *
  refine call_of_wp zt589 rfl ?_
  repeat (first|apply wp_as|apply wp_ss|refine wr (by simp [e1];with_reducible rfl) ?_|refine wq (by simp [e1];with_reducible rfl) ?_|refine wt (by simpa [e1]) ?_|refine wf (by simpa [e1]) ?_|refine xt (by simpa [e1]) ?_|refine xf (by simpa [e1]) ?_|apply wp_bs|apply wp_b|refine wp_sr ?_|refine wp_sx ?_|refine wp_ret' ?_|refine wp_skip' ?_|refine wp_exit' ?_)
  refine wp_imp loop ?_
  rintro ex st (⟨rfl,h,rfl⟩ | ⟨rfl,h,rfl⟩)
  · simp only [if_true]
    rw [h]
    repeat (first|apply wp_as|apply wp_ss|refine wr (by simp;with_reducible rfl) ?_|refine wq (by simp;with_reducible rfl) ?_|refine wt (by simpa) ?_|refine wf (by simpa) ?_|refine xt (by simpa) ?_|refine xf (by simpa) ?_|apply wp_bs|apply wp_b|refine wp_sr ?_|refine wp_sx ?_|refine wp_ret' ?_|refine wp_skip' ?_|refine wp_exit' ?_)
    simp [zi589]
  · rw [h]
    simp [zi589]
theorem ss_loop (n:Nat) (hn:n≤7) (es:List (Int×Int)) (c:Bool) (K:List Int) (hK:K.length≤1000):∀ (m v:Nat) (k s:List Int),v+m=n→k.length≤v→s.length≤v →
    wp tb (.loop z578l15) { T:=[(1,.bptr 0 0 0),(6,O K),(7,O k),(8,O s),(9,I v)],loc:=[[I n,L2 es c]],M:=[] }
      (fun ex st=>ex=.exit 0∧st={ T:=[(1,.bptr 0 0 0),(6,O K),(7,O (k++(rgF n v).filter fun x=>decide (x ∈ K))),(8,O (s++(rgF n v).filter fun x=>!decide (x ∈ K))),(9,I n),(28,Bo false)],loc:=[[I n,L2 es c]],M:=[] }):=by
  intro m
  induction m with
  | zero =>
    intro v k s hv hk hs
    have h3:v=n:=hv
    subst h3
    rw [rgF_end,List.filter_nil,List.filter_nil,List.append_nil,List.append_nil]
    refine wp_loop ?_
    repeat (first|apply wp_as|apply wp_ss|refine wr (by simp;with_reducible rfl) ?_|refine wq (by simp;with_reducible rfl) ?_|refine wt (by simpa) ?_|refine wf (by simpa) ?_|refine xt (by simpa) ?_|refine xf (by simpa) ?_|apply wp_bs|apply wp_b|refine wp_sr ?_|refine wp_sx ?_|refine wp_ret' ?_|refine wp_skip' ?_|refine wp_exit' ?_)
    exact ⟨rfl,rfl⟩
  | succ m ih =>
    intro v k s hv hk hs
    have hvn:v < n:=by omega
    have w1:IntKind.i64.wrap ((v:Int)+1)=((v+1:Nat):Int):=wrapS (by omega)
    have e1:=fun c=>ev_lim (ev_hasInt K c (v:Int) (by omega))
    have hkl:k.length+1≤274877906944:=by omega
    have hsl:s.length+1≤274877906944:=by omega
    have hT:∀ (l:List Int) z,List.take (l.length+1) (l++[z])=l++[z]:=fun l z=>List.take_of_length_le (by simp)
    have hT2:∀ l:List Int,List.take l.length l=l:=fun l=>List.take_of_length_le (Nat.le_refl _)
    rw [rgF_cons hvn]
    cases hq:decide ((v:Int) ∈ K) with
    | true =>
      rw [hq] at e1
      rw [List.filter_cons_of_pos (by rw [hq]),List.filter_cons_of_neg (by rw [hq];simp)]
      have hn2:=ih (v+1) (k++[(v:Int)]) s (by omega) (by simp;omega) (by omega)
      rw [List.append_assoc,List.cons_append,List.nil_append] at hn2
      refine wp_loop ?_
      repeat (first|apply wp_as|apply wp_ss|refine wr (by simp [hvn,e1,w1,hkl,hT,hT2];with_reducible rfl) ?_|refine wq (by simp [hvn,e1,w1,hkl,hT,hT2];with_reducible rfl) ?_|refine wt (by simpa [hvn,e1,w1,hkl,hT,hT2]) ?_|refine wf (by simpa [hvn,e1,w1,hkl,hT,hT2]) ?_|refine xt (by simpa [hvn,e1,w1,hkl,hT,hT2]) ?_|refine xf (by simpa [hvn,e1,w1,hkl,hT,hT2]) ?_|apply wp_bs|apply wp_b|refine wp_sr ?_|refine wp_sx ?_|refine wp_ret' ?_|refine wp_skip' ?_|refine wp_exit' ?_)
      exact hn2
    | false =>
      rw [hq] at e1
      rw [List.filter_cons_of_neg (by rw [hq];simp),List.filter_cons_of_pos (by rw [hq];rfl)]
      have hn2:=ih (v+1) k (s++[(v:Int)]) (by omega) (by omega) (by simp;omega)
      rw [List.append_assoc,List.cons_append,List.nil_append] at hn2
      refine wp_loop ?_
      repeat (first|apply wp_as|apply wp_ss|refine wr (by simp [hvn,e1,w1,hsl,hT,hT2];with_reducible rfl) ?_|refine wq (by simp [hvn,e1,w1,hsl,hT,hT2];with_reducible rfl) ?_|refine wt (by simpa [hvn,e1,w1,hsl,hT,hT2]) ?_|refine wf (by simpa [hvn,e1,w1,hsl,hT,hT2]) ?_|refine xt (by simpa [hvn,e1,w1,hsl,hT,hT2]) ?_|refine xf (by simpa [hvn,e1,w1,hsl,hT,hT2]) ?_|apply wp_bs|apply wp_b|refine wp_sr ?_|refine wp_sx ?_|refine wp_ret' ?_|refine wp_skip' ?_|refine wp_exit' ?_)
      exact hn2
theorem spA_eq {n:Nat} {K:List Int} (hn:K.Nodup) (hb:∀ x ∈ K,0≤x∧x < n):spA K=(rgF n 0).filter fun x=>decide (x ∈ K):=by
  have h1:=asc_ok K [] .nil
  have hpw:((rgF n 0).filter fun x=>decide (x ∈ K)).Pairwise (fun a b:Int=>a < b):=by
    rw [rgF_all];exact List.Pairwise.filter _ (idxB_pw n)
  have hp:(spA K).Perm ((rgF n 0).filter fun x=>decide (x ∈ K)):=by
    have h2:(spA K).Perm K:=by simpa using h1.2
    refine h2.trans ((List.perm_ext_iff_of_nodup hn (hpw.imp fun h=>by omega)).2 fun x=>?_)
    rw [List.mem_filter,rgF_all,mem_idxB,decide_eq_true_eq]
    exact ⟨fun h=>⟨hb x h,h⟩,fun h=>h.2⟩
  exact List.Perm.eq_of_pairwise (le:=fun a b=>a≤b) (fun a b _ _ h1 h2=>by omega) h1.1 (hpw.imp fun h=>by omega) hp
theorem spO_eq {n:Nat} {K:List Int}:spO n (spA K)=(rgF n 0).filter fun x=>!decide (x ∈ K):=by
  rw [spO,rgF_all]
  refine List.filter_congr fun x _=>?_
  simp only [spA_mem]
set_option maxHeartbeats 4000000 in
theorem ev_spec_SplitParts (n:Nat) (es:List (Int×Int)) (c:Bool) (hv:vGraph n es=true):Ev tb zl578 [] [Gr n es c] [] ⟨SPR n es,[],[],[]⟩:=by
  have hn7:=(vG_iff.1 hv).2.2
  have h21:=vG21 hn7 hv
  have hin:EdgesIn n es:=fun e he=>by have:=mem_prs.1 ((vG_iff.1 hv).2.1 e he);omega
  have v1:=fun c=>ev_lim (ev_validGraph n es c (by omega))
  rw [hv] at v1
  have e1:=fun c=>ev_lim (ev_degrees n es c (by omega) (by omega) hin)
  have hdl:(degs n es).length=n:=degs_len n es
  have e2:=fun c=>ev_lim (ev_durfee (degs n es) c (by omega))
  have hdm:=durf_le (fall (degs n es))
  rw [fall_len] at hdm
  have e3:=fun c=>ev_lim (ev_spec_greatestM (degs n es) c (by omega) (durf (fall (degs n es))) hdm)
  rw [show topD (degs n es) (idxB (degs n es).length (-1)) (durf (fall (degs n es)))=spK (degs n es) from rfl] at e3
  have hkl:=spK_len (degs n es)
  have e4:=fun c cK=>ev_lim (ev_isParts n es c hv (spK (degs n es)) cK (by omega))
  rw [show (prs n).all (spP es (spK (degs n es)))=spOK n es from rfl] at e4
  have loop:=ss_loop n hn7 es c (spK (degs n es)) (by omega) n 0 [] [] (by omega) (by simp) (by simp)
  rw [show ((0:Nat):Int)=0 from rfl] at loop
  simp only [List.nil_append] at loop
  have hmem:∀ x ∈ spK (degs n es),0≤x∧x < (n:Int):=fun x hx=>by have:=spK_mem hx;rw [hdl] at this;exact this
  rw [← spA_eq (spK_nd (degs n es)) hmem,← spO_eq] at loop
  simp only [SPR]
  have tk:∀ l:List Int,List.take l.length l=l:=fun l=>List.take_of_length_le (Nat.le_refl _)
  generalize spO n (spA (spK (degs n es)))=Q at *
  generalize spA (spK (degs n es))=KA at *
  generalize spK (degs n es)=K at *
  generalize durf (fall (degs n es))=dm at *
  generalize degs n es=D at *
  cases hok:spOK n es with
  | false =>
    rw [hok] at e4
    refine call_of_wp zt578 rfl ?_
    repeat (first|apply wp_as|apply wp_ss|refine wr (by simp [v1,e1,e2,e3,e4];with_reducible rfl) ?_|refine wq (by simp [v1,e1,e2,e3,e4];with_reducible rfl) ?_|refine wt (by simpa [v1,e1,e2,e3,e4]) ?_|refine wf (by simpa [v1,e1,e2,e3,e4]) ?_|refine xt (by simpa [v1,e1,e2,e3,e4]) ?_|refine xf (by simpa [v1,e1,e2,e3,e4]) ?_|apply wp_bs|apply wp_b|refine wp_sr ?_|refine wp_sx ?_|refine wp_ret' ?_|refine wp_skip' ?_|refine wp_exit' ?_)
    simp [zi578]
  | true =>
    rw [hok] at e4
    refine call_of_wp zt578 rfl ?_
    repeat (first|apply wp_as|apply wp_ss|refine wr (by simp [v1,e1,e2,e3,e4];with_reducible rfl) ?_|refine wq (by simp [v1,e1,e2,e3,e4];with_reducible rfl) ?_|refine wt (by simpa [v1,e1,e2,e3,e4]) ?_|refine wf (by simpa [v1,e1,e2,e3,e4]) ?_|refine xt (by simpa [v1,e1,e2,e3,e4]) ?_|refine xf (by simpa [v1,e1,e2,e3,e4]) ?_|apply wp_bs|apply wp_b|refine wp_sr ?_|refine wp_sx ?_|refine wp_ret' ?_|refine wp_skip' ?_|refine wp_exit' ?_)
    refine wp_imp loop ?_
    rintro ex st ⟨rfl,rfl⟩
    simp only [if_true]
    repeat (first|apply wp_as|apply wp_ss|refine wr (by simp;with_reducible rfl) ?_|refine wq (by simp;with_reducible rfl) ?_|refine wt (by simpa) ?_|refine wf (by simpa) ?_|refine xt (by simpa) ?_|refine xf (by simpa) ?_|apply wp_bs|apply wp_b|refine wp_sr ?_|refine wp_sx ?_|refine wp_ret' ?_|refine wp_skip' ?_|refine wp_exit' ?_)
    simp [zi578,tk]
end Go.Idl
namespace Go.Idl
open Go
theorem ev_HasEdge (n:Nat) (es:List (Int×Int)) (c:Bool) (a b:Int) (hv:vGraph n es=true):Ev tb zl459 [] [Gr n es c,I a,I b] [] ⟨Bo (hasM es a b),[],[],[]⟩:=by
  have hn7:=(vG_iff.1 hv).2.2
  have h21:=vG21 hn7 hv
  have hf:Fit es:=fun e he=>by have:=mem_prs.1 ((vG_iff.1 hv).2.1 e he);omega
  have v1:=fun c=>ev_lim (ev_ValidGraph n es c hf (by omega))
  rw [hv] at v1
  have e2:=fun c=>ev_lim (ev_has n 2 es c a b (.inl rfl) (by omega) [])
  generalize hasM es a b=q at *
  refine call_of_wp zt459 rfl ?_
  repeat (first|apply wp_as|apply wp_ss|refine wr (by simp [v1,e2];with_reducible rfl) ?_|refine wq (by simp [v1,e2];with_reducible rfl) ?_|refine wt (by simpa [v1,e2]) ?_|refine wf (by simpa [v1,e2]) ?_|refine xt (by simpa [v1,e2]) ?_|refine xf (by simpa [v1,e2]) ?_|apply wp_bs|apply wp_b|refine wp_sr ?_|refine wp_sx ?_|refine wp_ret' ?_|refine wp_skip' ?_|refine wp_exit' ?_)
  simp [zi459]
theorem ev_SplitParts_no (n:Int) (es:List (Int×Int)) (c:Bool) (hf:Fit es) (hl:es.length≤1000) (hv:vGraph n es=false):Ev tb zl515 [] [Gr n es c] [] ⟨.tup [Z,Z,Bo false],[],[],[]⟩:=by
  have v1:=fun c=>ev_lim (ev_ValidGraph n es c hf (by omega))
  rw [hv] at v1
  refine call_of_wp zt515 rfl ?_
  repeat (first|apply wp_as|apply wp_ss|refine wr (by simp [v1];with_reducible rfl) ?_|refine wq (by simp [v1];with_reducible rfl) ?_|refine wt (by simpa [v1]) ?_|refine wf (by simpa [v1]) ?_|refine xt (by simpa [v1]) ?_|refine xf (by simpa [v1]) ?_|apply wp_bs|apply wp_b|refine wp_sr ?_|refine wp_sx ?_|refine wp_ret' ?_|refine wp_skip' ?_|refine wp_exit' ?_)
  simp [zi515]
theorem ev_spec_SplitParts_no (n:Int) (es:List (Int×Int)) (c:Bool) (hl:es.length≤1000) (hv:vGraph n es=false):Ev tb zl578 [] [Gr n es c] [] ⟨.tup [Z,Z,Bo false],[],[],[]⟩:=by
  have v1:=fun c=>ev_lim (ev_validGraph n es c (by omega))
  rw [hv] at v1
  refine call_of_wp zt578 rfl ?_
  repeat (first|apply wp_as|apply wp_ss|refine wr (by simp [v1];with_reducible rfl) ?_|refine wq (by simp [v1];with_reducible rfl) ?_|refine wt (by simpa [v1]) ?_|refine wf (by simpa [v1]) ?_|refine xt (by simpa [v1]) ?_|refine xf (by simpa [v1]) ?_|apply wp_bs|apply wp_b|refine wp_sr ?_|refine wp_sx ?_|refine wp_ret' ?_|refine wp_skip' ?_|refine wp_exit' ?_)
  simp [zi578]
theorem nd_inj {xs:List Int} (h:xs.Nodup) {i j:Nat} (hi:i < xs.length) (hj:j < xs.length) (he:xs[i]=xs[j]):i=j:=by
  have h2:=List.pairwise_iff_getElem.1 h
  rcases Nat.lt_trichotomy i j with hlt | hlt | hlt
  · exact absurd he (h2 i j hi hj hlt)
  · exact hlt
  · exact absurd he.symm (h2 j i hj hi hlt)
theorem sp_pair {n:Nat} {es:List (Int×Int)} {K:List Int} (hok:(prs n).all (spP es K)=true) {a b:Int} (ha:0≤a∧a < n) (hb:0≤b∧b < n) (hab:a ≠ b) (hs:decide (a ∈ K)=decide (b ∈ K)):hasM es a b=decide (a ∈ K):=by
  have h:=List.all_eq_true.1 hok (min a b,max a b) (mem_prs.2 (by simp only;omega))
  have h2:hasM es (min a b) (max a b)=hasM es a b:=by
    rw [Bool.eq_iff_iff,hasM_iff,hasM_iff,show min (min a b) (max a b)=min a b by omega,show max (min a b) (max a b)=max a b by omega]
  simp only [spP,h2] at h
  by_cases hlt:a≤b
  · rw [show min a b=a by omega,show max a b=b by omega,hs] at h
    rw [hs]
    cases hq:decide (b ∈ K) <;> cases hm:hasM es a b <;> simp_all
  · rw [show min a b=b by omega,show max a b=a by omega,hs] at h
    rw [hs]
    cases hq:decide (b ∈ K) <;> cases hm:hasM es a b <;> simp_all
theorem fp_ink (n:Nat) (es:List (Int×Int)) (hv:vGraph n es=true) (A B:List Int) (hl:A.length≤1000) (i:Nat) (hi:i < A.length) (hH:∀ j,(hj:j < A.length)→i ≠ j→hasM es A[i] A[j]=true):∀ (m j:Nat),j+m=i →
    wp tb (.loop z539l17) { T:=[(3,.bptr 0 0 0),(4,O A),(5,O B),(10,I i),(11,I j)],loc:=[[I n,L2 es false]],M:=[] }
      (fun ex st=>ex=.exit 2∧st={ T:=[(3,.bptr 0 0 0),(4,O A),(5,O B),(10,I i),(11,I i),(78,Bo false)],loc:=[[I n,L2 es false]],M:=[] }):=by
  intro m
  induction m with
  | zero =>
    intro j hj
    have h3:j=i:=hj
    subst h3
    refine wp_loop ?_
    repeat (first|apply wp_as|apply wp_ss|refine wr (by simp;with_reducible rfl) ?_|refine wq (by simp;with_reducible rfl) ?_|refine wt (by simpa) ?_|refine wf (by simpa) ?_|refine xt (by simpa) ?_|refine xf (by simpa) ?_|apply wp_bs|apply wp_b|refine wp_sr ?_|refine wp_sx ?_|refine wp_ret' ?_|refine wp_skip' ?_|refine wp_exit' ?_)
    exact ⟨rfl,rfl⟩
  | succ m ih =>
    intro j hj
    have hji:j < i:=by omega
    have hjl:j < A.length:=by omega
    have w1:IntKind.i64.wrap ((j:Int)+1)=((j+1:Nat):Int):=wrapS (by omega)
    have e1:=fun c=>ev_lim (ev_HasEdge n es c A[i] A[j] hv)
    rw [hH j hjl (by omega)] at e1
    have hn:=ih (j+1) (by omega)
    refine wp_loop ?_
    repeat (first|apply wp_as|apply wp_ss|refine wr (by simp [hji,hi,hjl,e1,w1];with_reducible rfl) ?_|refine wq (by simp [hji,hi,hjl,e1,w1];with_reducible rfl) ?_|refine wt (by simpa [hji,hi,hjl,e1,w1]) ?_|refine wf (by simpa [hji,hi,hjl,e1,w1]) ?_|refine xt (by simpa [hji,hi,hjl,e1,w1]) ?_|refine xf (by simpa [hji,hi,hjl,e1,w1]) ?_|apply wp_bs|apply wp_b|refine wp_sr ?_|refine wp_sx ?_|refine wp_ret' ?_|refine wp_skip' ?_|refine wp_exit' ?_)
    exact hn
theorem fp_outk (n:Nat) (es:List (Int×Int)) (hv:vGraph n es=true) (A B:List Int) (hl:A.length≤1000) (hH:∀ i j,(hi:i < A.length)→(hj:j < A.length)→i ≠ j→hasM es A[i] A[j]=true):∀ (m i:Nat),i+m=A.length →
    wp tb (.loop z539l19) { T:=[(3,.bptr 0 0 0),(4,O A),(5,O B),(10,I i)],loc:=[[I n,L2 es false]],M:=[] }
      (fun ex st=>ex=.exit 0∧st={ T:=[(3,.bptr 0 0 0),(4,O A),(5,O B),(10,I A.length),(73,Bo false)],loc:=[[I n,L2 es false]],M:=[] }):=by
  intro m
  induction m with
  | zero =>
    intro i hi
    have h3:i=A.length:=hi
    subst h3
    refine wp_loop ?_
    repeat (first|apply wp_as|apply wp_ss|refine wr (by simp;with_reducible rfl) ?_|refine wq (by simp;with_reducible rfl) ?_|refine wt (by simpa) ?_|refine wf (by simpa) ?_|refine xt (by simpa) ?_|refine xf (by simpa) ?_|apply wp_bs|apply wp_b|refine wp_sr ?_|refine wp_sx ?_|refine wp_ret' ?_|refine wp_skip' ?_|refine wp_exit' ?_)
    exact ⟨rfl,rfl⟩
  | succ m ih =>
    intro i hi
    have hil:i < A.length:=by omega
    have w1:IntKind.i64.wrap ((i:Int)+1)=((i+1:Nat):Int):=wrapS (by omega)
    have inner:=fp_ink n es hv A B hl i hil (fun j hj hne=>hH i j hil hj hne) i 0 (by omega)
    rw [show ((0:Nat):Int)=0 from rfl] at inner
    have hn:=ih (i+1) (by omega)
    refine wp_loop ?_
    repeat (first|apply wp_as|apply wp_ss|refine wr (by simp [hil];with_reducible rfl) ?_|refine wq (by simp [hil];with_reducible rfl) ?_|refine wt (by simpa [hil]) ?_|refine wf (by simpa [hil]) ?_|refine xt (by simpa [hil]) ?_|refine xf (by simpa [hil]) ?_|apply wp_bs|apply wp_b|refine wp_sr ?_|refine wp_sx ?_|refine wp_ret' ?_|refine wp_skip' ?_|refine wp_exit' ?_)
    refine wp_imp inner ?_
    rintro ex st ⟨rfl,rfl⟩
    simp only [if_true]
    repeat (first|apply wp_as|apply wp_ss|refine wr (by simp [w1];with_reducible rfl) ?_|refine wq (by simp [w1];with_reducible rfl) ?_|refine wt (by simpa [w1]) ?_|refine wf (by simpa [w1]) ?_|refine xt (by simpa [w1]) ?_|refine xf (by simpa [w1]) ?_|apply wp_bs|apply wp_b|refine wp_sr ?_|refine wp_sx ?_|refine wp_ret' ?_|refine wp_skip' ?_|refine wp_exit' ?_)
    exact hn
theorem fp_ins (n:Nat) (es:List (Int×Int)) (hv:vGraph n es=true) (A B:List Int) (hl:B.length≤1000) (i:Nat) (hi:i < B.length) (hH:∀ j,(hj:j < B.length)→i ≠ j→hasM es B[i] B[j]=false):∀ (m j:Nat),j+m=i →
    wp tb (.loop z539l27) { T:=[(3,.bptr 0 0 0),(4,O A),(5,O B),(12,I i),(13,I j)],loc:=[[I n,L2 es false]],M:=[] }
      (fun ex st=>ex=.exit 6∧st={ T:=[(3,.bptr 0 0 0),(4,O A),(5,O B),(12,I i),(13,I i),(100,Bo false)],loc:=[[I n,L2 es false]],M:=[] }):=by
  intro m
  induction m with
  | zero =>
    intro j hj
    have h3:j=i:=hj
    subst h3
    refine wp_loop ?_
    repeat (first|apply wp_as|apply wp_ss|refine wr (by simp;with_reducible rfl) ?_|refine wq (by simp;with_reducible rfl) ?_|refine wt (by simpa) ?_|refine wf (by simpa) ?_|refine xt (by simpa) ?_|refine xf (by simpa) ?_|apply wp_bs|apply wp_b|refine wp_sr ?_|refine wp_sx ?_|refine wp_ret' ?_|refine wp_skip' ?_|refine wp_exit' ?_)
    exact ⟨rfl,rfl⟩
  | succ m ih =>
    intro j hj
    have hji:j < i:=by omega
    have hjl:j < B.length:=by omega
    have w1:IntKind.i64.wrap ((j:Int)+1)=((j+1:Nat):Int):=wrapS (by omega)
    have e1:=fun c=>ev_lim (ev_HasEdge n es c B[i] B[j] hv)
    rw [hH j hjl (by omega)] at e1
    have hn:=ih (j+1) (by omega)
    refine wp_loop ?_
    repeat (first|apply wp_as|apply wp_ss|refine wr (by simp [hji,hi,hjl,e1,w1];with_reducible rfl) ?_|refine wq (by simp [hji,hi,hjl,e1,w1];with_reducible rfl) ?_|refine wt (by simpa [hji,hi,hjl,e1,w1]) ?_|refine wf (by simpa [hji,hi,hjl,e1,w1]) ?_|refine xt (by simpa [hji,hi,hjl,e1,w1]) ?_|refine xf (by simpa [hji,hi,hjl,e1,w1]) ?_|apply wp_bs|apply wp_b|refine wp_sr ?_|refine wp_sx ?_|refine wp_ret' ?_|refine wp_skip' ?_|refine wp_exit' ?_)
    exact hn
theorem fp_outs (n:Nat) (es:List (Int×Int)) (hv:vGraph n es=true) (A B:List Int) (hl:B.length≤1000) (hH:∀ i j,(hi:i < B.length)→(hj:j < B.length)→i ≠ j→hasM es B[i] B[j]=false):∀ (m i:Nat),i+m=B.length →
    wp tb (.loop z539l29) { T:=[(3,.bptr 0 0 0),(4,O A),(5,O B),(12,I i)],loc:=[[I n,L2 es false]],M:=[] }
      (fun ex st=>ex=.exit 4∧st={ T:=[(3,.bptr 0 0 0),(4,O A),(5,O B),(12,I B.length),(95,Bo false)],loc:=[[I n,L2 es false]],M:=[] }):=by
  intro m
  induction m with
  | zero =>
    intro i hi
    have h3:i=B.length:=hi
    subst h3
    refine wp_loop ?_
    repeat (first|apply wp_as|apply wp_ss|refine wr (by simp;with_reducible rfl) ?_|refine wq (by simp;with_reducible rfl) ?_|refine wt (by simpa) ?_|refine wf (by simpa) ?_|refine xt (by simpa) ?_|refine xf (by simpa) ?_|apply wp_bs|apply wp_b|refine wp_sr ?_|refine wp_sx ?_|refine wp_ret' ?_|refine wp_skip' ?_|refine wp_exit' ?_)
    exact ⟨rfl,rfl⟩
  | succ m ih =>
    intro i hi
    have hil:i < B.length:=by omega
    have w1:IntKind.i64.wrap ((i:Int)+1)=((i+1:Nat):Int):=wrapS (by omega)
    have inner:=fp_ins n es hv A B hl i hil (fun j hj hne=>hH i j hil hj hne) i 0 (by omega)
    rw [show ((0:Nat):Int)=0 from rfl] at inner
    have hn:=ih (i+1) (by omega)
    refine wp_loop ?_
    repeat (first|apply wp_as|apply wp_ss|refine wr (by simp [hil];with_reducible rfl) ?_|refine wq (by simp [hil];with_reducible rfl) ?_|refine wt (by simpa [hil]) ?_|refine wf (by simpa [hil]) ?_|refine xt (by simpa [hil]) ?_|refine xf (by simpa [hil]) ?_|apply wp_bs|apply wp_b|refine wp_sr ?_|refine wp_sx ?_|refine wp_ret' ?_|refine wp_skip' ?_|refine wp_exit' ?_)
    refine wp_imp inner ?_
    rintro ex st ⟨rfl,rfl⟩
    simp only [if_true]
    repeat (first|apply wp_as|apply wp_ss|refine wr (by simp [w1];with_reducible rfl) ?_|refine wq (by simp [w1];with_reducible rfl) ?_|refine wt (by simpa [w1]) ?_|refine wf (by simpa [w1]) ?_|refine xt (by simpa [w1]) ?_|refine xf (by simpa [w1]) ?_|apply wp_bs|apply wp_b|refine wp_sr ?_|refine wp_sx ?_|refine wp_ret' ?_|refine wp_skip' ?_|refine wp_exit' ?_)
    exact hn
set_option maxHeartbeats 4000000 in
theorem ev_FnSplitParts (code:List Int) (cl:Bool) (h:∀ x ∈ code,0≤x∧x≤255) :
    Ev tb zl539 [] [.lst 1 (bytes code) cl] [] ⟨Bo true,[],[],[]⟩:=by
  by_cases hc:(1048576:Int) < code.length
  · refine call_of_wp zt539 rfl ?_
    repeat (first|apply wp_as|apply wp_ss|refine wr (by simp [hc];with_reducible rfl) ?_|refine wq (by simp [hc];with_reducible rfl) ?_|refine wt (by simpa [hc]) ?_|refine wf (by simpa [hc]) ?_|refine xt (by simpa [hc]) ?_|refine xf (by simpa [hc]) ?_|apply wp_bs|apply wp_b|refine wp_sr ?_|refine wp_sx ?_|refine wp_ret' ?_|refine wp_skip' ?_|refine wp_exit' ?_)
    simp [zi539]
  obtain ⟨n,es,hS,e1⟩:=ev_DrawSplitParts code cl h (by omega)
  have hlen:=hS.len
  have v1:=ev_lim (ev_ValidGraph n es false hS.fit (by omega))
  have ez:=ev_lim ev_equalInts_Z
  cases hv:vGraph n es with
  | false =>
    rw [hv] at v1
    have e2:=ev_lim (ev_SplitParts_no n es false hS.fit (by omega) hv)
    have e3:=ev_lim (ev_spec_SplitParts_no n es false (by omega) hv)
    refine call_of_wp zt539 rfl ?_
    repeat (first|apply wp_as|apply wp_ss|refine wr (by simp [hc,e1,e2,e3,ez,v1];with_reducible rfl) ?_|refine wq (by simp [hc,e1,e2,e3,ez,v1];with_reducible rfl) ?_|refine wt (by simpa [hc,e1,e2,e3,ez,v1]) ?_|refine wf (by simpa [hc,e1,e2,e3,ez,v1]) ?_|refine xt (by simpa [hc,e1,e2,e3,ez,v1]) ?_|refine xf (by simpa [hc,e1,e2,e3,ez,v1]) ?_|apply wp_bs|apply wp_b|refine wp_sr ?_|refine wp_sx ?_|refine wp_ret' ?_|refine wp_skip' ?_|refine wp_exit' ?_)
    simp [zi539]
  | true =>
  have hn:=vG_n hv
  obtain ⟨n,rfl⟩:=Int.eq_ofNat_of_zero_le hn.1
  rw [hv] at v1
  have hn7:=(vG_iff.1 hv).2.2
  have e2:=ev_lim (ev_SplitParts n es false hv)
  have e3:=ev_lim (ev_spec_SplitParts n es false hv)
  have e4:=ev_lim (ev_impl_DegreesOf n es false hS.fit (by omega) hv)
  have hdl:(degs n es).length=n:=degs_len n es
  have e5:=ev_lim (ev_IsSplit (degs n es) false (by omega))
  rw [sp_split n es hv] at e5
  cases hok:spOK n es with
  | false =>
    rw [hok] at e5
    simp only [SPR,hok,Bool.false_eq_true,if_false] at e2 e3
    generalize degs n es=D at *
    refine call_of_wp zt539 rfl ?_
    repeat (first|apply wp_as|apply wp_ss|refine wr (by simp [hc,e1,e2,e3,ez,v1,e4,e5];with_reducible rfl) ?_|refine wq (by simp [hc,e1,e2,e3,ez,v1,e4,e5];with_reducible rfl) ?_|refine wt (by simpa [hc,e1,e2,e3,ez,v1,e4,e5]) ?_|refine wf (by simpa [hc,e1,e2,e3,ez,v1,e4,e5]) ?_|refine xt (by simpa [hc,e1,e2,e3,ez,v1,e4,e5]) ?_|refine xf (by simpa [hc,e1,e2,e3,ez,v1,e4,e5]) ?_|apply wp_bs|apply wp_b|refine wp_sr ?_|refine wp_sx ?_|refine wp_ret' ?_|refine wp_skip' ?_|refine wp_exit' ?_)
    simp [zi539]
  | true =>
    rw [hok] at e5
    simp only [SPR,hok,if_true] at e2 e3
    have hmem:∀ x ∈ spK (degs n es),0≤x∧x < (n:Int):=fun x hx=>by have:=spK_mem hx;rw [hdl] at this;exact this
    have hall:(prs n).all (spP es (spK (degs n es)))=true:=hok
    have hnd:=spK_nd (degs n es)
    have hAe:=spA_eq hnd hmem
    have hOe:spO n (spA (spK (degs n es)))=_:=spO_eq
    have hcnt:(spA (spK (degs n es))).length+(spO n (spA (spK (degs n es)))).length=n:=by
      rw [hOe,hAe,filter_len];simp [rgF]
    have hA:∀ x ∈ spA (spK (degs n es)),(0≤x∧x < (n:Int))∧x ∈ spK (degs n es):=fun x hx=>⟨hmem x (spA_mem.1 hx),spA_mem.1 hx⟩
    have hO:∀ x ∈ spO n (spA (spK (degs n es))),(0≤x∧x < (n:Int))∧x ∉ spK (degs n es):=fun x hx=>by
      rw [hOe,List.mem_filter,rgF_all,mem_idxB] at hx
      exact ⟨hx.1,by simpa using hx.2⟩
    have hrn:(rgF n 0).Nodup:=by rw [rgF_all];exact (idxB_pw n).imp fun h=>by omega
    have hAn:(spA (spK (degs n es))).Nodup:=by rw [hAe];exact hrn.filter _
    have hOn:(spO n (spA (spK (degs n es)))).Nodup:=by rw [hOe];exact hrn.filter _
    generalize spO n (spA (spK (degs n es)))=B at *
    generalize spA (spK (degs n es))=A at *
    have HA:∀ i j,(hi:i < A.length)→(hj:j < A.length)→i ≠ j→hasM es A[i] A[j]=true:=fun i j hi hj hij=>by
      have h1:=hA _ (List.getElem_mem hi)
      have h2:=hA _ (List.getElem_mem hj)
      rw [sp_pair hall h1.1 h2.1 (fun hh=>hij (nd_inj hAn hi hj hh)) (by rw [decide_eq_true h1.2,decide_eq_true h2.2]),decide_eq_true h1.2]
    have HB:∀ i j,(hi:i < B.length)→(hj:j < B.length)→i ≠ j→hasM es B[i] B[j]=false:=fun i j hi hj hij=>by
      have h1:=hO _ (List.getElem_mem hi)
      have h2:=hO _ (List.getElem_mem hj)
      rw [sp_pair hall h1.1 h2.1 (fun hh=>hij (nd_inj hOn hi hj hh)) (by rw [decide_eq_false h1.2,decide_eq_false h2.2]),decide_eq_false h1.2]
    have e6:=ev_lim (ev_equalInts A A false false (by omega) (by omega))
    have e7:=ev_lim (ev_equalInts B B false false (by omega) (by omega))
    have lpA:=fp_outk n es hv A B (by omega) HA A.length 0 (by omega)
    have lpB:=fp_outs n es hv A B (by omega) HB B.length 0 (by omega)
    rw [show ((0:Nat):Int)=0 from rfl] at lpA lpB
    have w1:IntKind.i64.wrap ((A.length:Int)+(B.length:Int))=(n:Int):=by rw [wrap64 (by omega) (by omega)];omega
    generalize degs n es=D at *
    refine call_of_wp zt539 rfl ?_
    repeat (first|apply wp_as|apply wp_ss|refine wr (by simp [hc,e1,e2,e3,v1,e6,e7];with_reducible rfl) ?_|refine wq (by simp [hc,e1,e2,e3,v1,e6,e7];with_reducible rfl) ?_|refine wt (by simpa [hc,e1,e2,e3,v1,e6,e7]) ?_|refine wf (by simpa [hc,e1,e2,e3,v1,e6,e7]) ?_|refine xt (by simpa [hc,e1,e2,e3,v1,e6,e7]) ?_|refine xf (by simpa [hc,e1,e2,e3,v1,e6,e7]) ?_|apply wp_bs|apply wp_b|refine wp_sr ?_|refine wp_sx ?_|refine wp_ret' ?_|refine wp_skip' ?_|refine wp_exit' ?_)
    refine wp_imp lpA ?_
    rintro ex st ⟨rfl,rfl⟩
    simp only [if_true]
    repeat (first|apply wp_as|apply wp_ss|refine wr (by simp;with_reducible rfl) ?_|refine wq (by simp;with_reducible rfl) ?_|refine wt (by simpa) ?_|refine wf (by simpa) ?_|refine xt (by simpa) ?_|refine xf (by simpa) ?_|apply wp_bs|apply wp_b|refine wp_sr ?_|refine wp_sx ?_|refine wp_ret' ?_|refine wp_skip' ?_|refine wp_exit' ?_)
    refine wp_imp lpB ?_
    rintro ex st ⟨rfl,rfl⟩
    simp only [if_true]
    repeat (first|apply wp_as|apply wp_ss|refine wr (by simp [w1,e4,e5];with_reducible rfl) ?_|refine wq (by simp [w1,e4,e5];with_reducible rfl) ?_|refine wt (by simpa [w1,e4,e5]) ?_|refine wf (by simpa [w1,e4,e5]) ?_|refine xt (by simpa [w1,e4,e5]) ?_|refine xf (by simpa [w1,e4,e5]) ?_|apply wp_bs|apply wp_b|refine wp_sr ?_|refine wp_sx ?_|refine wp_ret' ?_|refine wp_skip' ?_|refine wp_exit' ?_)
    simp [zi539]
end Go.Idl
