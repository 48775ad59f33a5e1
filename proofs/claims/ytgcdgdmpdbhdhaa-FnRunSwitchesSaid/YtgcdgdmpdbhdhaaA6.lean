/- Part 6 of a proof by an ideal interpreter of the code: its definitions and lemmas. Conditions: none. -/
import Derived.KernelRfl
import Derived.Test.YtgcdgdmpdbhdhaaA5
set_option linter.all false
set_option linter.unusedVariables false
set_option linter.unusedSimpArgs false
namespace Go.Idl
open Go
def SrtOn (X:List (Int×Int)) (a b:Nat):Prop:=∀ k l e f,a≤k→k < l→l < b→X[k]? = some e→X[l]? = some f→below e f=true
def CutOn (X:List (Int×Int)) (a mid b:Nat):Prop:=∀ k l e f,a≤k→k < mid→mid≤l→l < b→X[k]? = some e→X[l]? = some f→below e f=true
theorem srt_join {X Y:List (Int×Int)} {a mid b:Nat} (hn:X.Nodup) (h1:SrtOn X a mid) (hc:CutOn X a mid b) (hs:Seg X Y mid b) (h2:SrtOn Y mid b):SrtOn Y a b:=by
  intro k l e f hk hkl hl he hf
  by_cases h:mid≤k
  · exact h2 k l e f h hkl hl he hf
  · have he':X[k]? = some e:=by rw [← hs.out k (by omega)];exact he
    by_cases h':mid≤l
    · obtain ⟨l',hl',hf'⟩:=hs.back hn ⟨h',hl⟩ hf
      exact hc k l' e f hk (by omega) (by omega) (by omega) he' hf'
    · have hf':X[l]? = some f:=by rw [← hs.out l (by omega)];exact hf
      exact h1 k l e f hk hkl (by omega) he' hf'
theorem srt_join' {X Y:List (Int×Int)} {a mid b:Nat} (hn:X.Nodup) (h1:SrtOn X mid b) (hc:CutOn X a mid b) (hs:Seg X Y a mid) (h2:SrtOn Y a mid):SrtOn Y a b:=by
  intro k l e f hk hkl hl he hf
  by_cases h:l < mid
  · exact h2 k l e f hk hkl h he hf
  · have hf':X[l]? = some f:=by rw [← hs.out l (by omega)];exact hf
    by_cases h':k < mid
    · obtain ⟨k',hk',he'⟩:=hs.back hn ⟨hk,h'⟩ he
      exact hc k' l e f (by omega) (by omega) (by omega) hl he' hf'
    · have he':X[k]? = some e:=by rw [← hs.out k (by omega)];exact he
      exact h1 k l e f (by omega) hkl hl he' hf'
theorem below_ht (a b c:Int×Int) (h1:below b a=false) (h2:below c b=false):below c a=false:=by
  rw [← Bool.not_eq_true] at *
  simp only [below,Bool.or_eq_true,Bool.and_eq_true,decide_eq_true_eq] at *
  omega
theorem ins_part (X:List (Int×Int)) (hX:∀ x ∈ X,DE x) (hn:X.Nodup) (hl:X.length≤700000) (a n:Nat) (hab:a+n≤X.length) (M:List Boxes) :
    ∃ X':List (Int×Int),Seg X X' a (a+n)∧SrtOn X' a (a+n)∧Ev tb zl277 [0] [O2 X,I a,I ((a:Int)+n),fcE] M ⟨.tup [],[O2 X'],M,[]⟩:=by
  have hc:CmpOK vE zl32 [] below DE M:=fun x y hx hy=>⟨cmpE x y,cmpE_below x y,ev_cmpE hx hy _⟩
  obtain ⟨P,hP⟩:∃ P,P=X.take a:=⟨_,rfl⟩
  obtain ⟨S,hS⟩:∃ S,S=(X.drop a).take n:=⟨_,rfl⟩
  obtain ⟨Q,hQ⟩:∃ Q,Q=X.drop (a+n):=⟨_,rfl⟩
  have hXe:X=P++(S++Q):=by
    rw [hP,hS,hQ,← List.drop_drop,List.take_append_drop,List.take_append_drop]
  have hPl:P.length=a:=by rw [hP,List.length_take];omega
  have hSl:S.length=n:=by rw [hS,List.length_take,List.length_drop];omega
  have hsrt:=srtC_ok (lt:=below) below_ht (fun a b h=>below_asymm h) S [] .nil
  have hsp:=hsrt.2
  rw [List.nil_append] at hsp
  have hTl:(srtC below [] S).length=n:=by rw [hsp.length_eq,hSl]
  have hp:(P++(srtC below [] S++Q)).Perm X:=by
    rw [hXe];exact List.Perm.append_left P (hsp.append_right Q)
  refine ⟨P++(srtC below [] S++Q),⟨hp,fun k hk=>?_⟩,?_,?_⟩
  · rw [hXe]
    rcases hk with hk | hk
    · rw [List.getElem?_append_left (by omega),List.getElem?_append_left (by omega)]
    · rw [List.getElem?_append_right (by omega),List.getElem?_append_right (by omega),List.getElem?_append_right (by omega),List.getElem?_append_right (by omega),hTl,hSl]
  · intro k l e f hk hkl hlb he hf
    have hny:(P++(srtC below [] S++Q)).Nodup:=hp.nodup_iff.2 hn
    have hne:e ≠ f:=by
      rintro rfl
      obtain ⟨h1,h2⟩:=List.getElem?_eq_some_iff.1 he
      obtain ⟨h3,h4⟩:=List.getElem?_eq_some_iff.1 hf
      have:=(List.getElem_inj hny).1 (h2.trans h4.symm)
      omega
    rw [List.getElem?_append_right (by omega),List.getElem?_append_left (by omega)] at he hf
    obtain ⟨h1,h2⟩:=List.getElem?_eq_some_iff.1 he
    obtain ⟨h3,h4⟩:=List.getElem?_eq_some_iff.1 hf
    have:=List.pairwise_iff_getElem.1 hsrt.1 _ _ h1 h3 (by omega)
    rw [h2,h4] at this
    rcases below_total hne with h | h
    · exact h
    · rw [this] at h;cases h
  · have e:=ev_insCe zl32 [] below DE M hc P Q S (by rw [hXe] at hl;simp at hl;omega) (fun x hx=>hX x (by rw [hXe];simp [hx]))
    rw [← hXe,hPl,hSl,show ((a+n:Nat):Int)=(a:Int)+n by omega] at e
    exact e
def PdqRec (n:Nat) (lim:Nat) (M:List Boxes):Prop:=∀ (n' a':Nat) (X:List (Int×Int)),n'+2≤n→(∀ x ∈ X,DE x)→X.Nodup→X.length≤700000→a'+n'≤X.length→(a'=0 ∨ ∀ k e f,a'≤k→k < a'+n'→X[a' - 1]? = some e→X[k]? = some f→below e f=true) →
  ∃ X':List (Int×Int),Seg X X' a' (a'+n')∧SrtOn X' a' (a'+n')∧limF tb zl285 [0] [O2 X,I a',I ((a':Int)+n'),I lim,fcE] M=some ⟨.tup [],[O2 X'],M,[]⟩
abbrev cD:IC:=(.seq z285r20 (.seq z285r21 (.seq z285r22 (.seq z285r23 (.seq z285r24 (.cond (.t 125) (.seq z285r25 (.seq z285r26 z285r27)) (.seq z285r28 (.seq z285r29 z285r30))))))))
set_option maxHeartbeats 2000000 in
theorem pdq_D (X:List (Int×Int)) (hX:∀ x ∈ X,DE x) (hn:X.Nodup) (hl:X.length≤700000) (a n m lim:Nat) (h13:13≤n) (h21:n≤21) (hab:a+n≤X.length) (hm:a≤m∧m < a+n) (M:List Boxes) (hrec:PdqRec n lim (M++[[]]))
    (h0:a=0 ∨ ∀ k e f,a≤k→k < a+n→X[a - 1]? = some e→X[k]? = some f→below e f=true)
    (p1:∃ p,(a≤p∧p < a+n)∧∀ h1 h2,below (X[p]'h1) (X[m]'h2)=true) (p2:∃ p,(a≤p∧p < a+n)∧∀ h1 h2,below (X[m]'h1) (X[p]'h2)=true)
    (bal part:Bool) (Q:Ex→St→Prop)
    (hL:∀ (X3:List (Int×Int)) (mid:Nat) (bal part:Bool),a < mid→mid+1 < a+n→Seg X X3 a (a+n)→SrtOn X3 a (mid+1)→CutOn X3 a (mid+1) (a+n) →
      Q .normal { T:=[(0,O2 X3),(1,I (mid+1:Nat)),(2,I ((a:Int)+n)),(3,I lim),(4,fcE),(10,Bo bal),(11,Bo part)],loc:=[],M:=M })
    (hR:∀ (X3:List (Int×Int)) (mid:Nat) (bal part:Bool),a < mid→mid+1 < a+n→Seg X X3 a (a+n)→SrtOn X3 mid (a+n)→CutOn X3 a mid (a+n) →
      Q .normal { T:=[(0,O2 X3),(1,I a),(2,I mid),(3,I lim),(4,fcE),(10,Bo bal),(11,Bo part)],loc:=[],M:=M }) :
    wp tb cD { T:=[(0,O2 X),(1,I a),(2,I ((a:Int)+n)),(3,I lim),(4,fcE),(10,Bo bal),(11,Bo part),(12,I n),(13,I m),(97,Bo false)],loc:=[],M:=M } Q:=by
  obtain ⟨X2,mid,t,hS,hmid,hpv,hcut,hE⟩:=ev_partition X hX (by omega) a n m (by omega) hab hm (M++[[]])
  have e1:=ev_lim hE
  have hml:m < X.length:=by omega
  rw [List.getElem?_eq_getElem hml] at hpv hcut
  obtain ⟨hlo,hhi⟩:=hcut _ rfl
  have hl2:=hS.len
  have hn2:=hS.nodup hn
  have hX2:∀ x ∈ X2,DE x:=fun x hx=>hX x (hS.perm.mem_iff.1 hx)
  obtain ⟨p,hp,hp1⟩:=p1
  obtain ⟨q,hq,hq1⟩:=p2
  have hpl:p < X.length:=by omega
  have hql:q < X.length:=by omega
  have hp1:=hp1 hpl hml
  have hq1:=hq1 hml hql
  have whereIs:∀ r,(a≤r∧r < a+n)→∀ hr:r < X.length,∃ r',(a≤r'∧r' < a+n)∧X2[r']? = some X[r]:=fun r hr hrl=>by
    have hm2:X[r] ∈ X2:=hS.perm.mem_iff.2 (List.getElem_mem hrl)
    obtain ⟨r',hr',he⟩:=List.getElem_of_mem hm2
    refine ⟨r',?_,by rw [List.getElem?_eq_getElem hr',he]⟩
    refine Classical.byContradiction fun hno=>?_
    have h1:=hS.out r' (by omega)
    rw [List.getElem?_eq_getElem hr',he] at h1
    obtain ⟨h2,h3⟩:=List.getElem?_eq_some_iff.1 h1.symm
    have:=(List.getElem_inj hn).1 h3
    omega
  obtain ⟨p',hp',hpe⟩:=whereIs p hp hpl
  obtain ⟨q',hq',hqe⟩:=whereIs q hq hql
  have hamid:a < mid:=by
    refine Classical.byContradiction fun hno=>?_
    have hma:mid=a:=by omega
    by_cases hpm:p'=mid
    · rw [hpm,hpv] at hpe
      exact below_ne hp1 (Option.some.inj hpe).symm
    · have:=hhi p' _ (by omega) hp'.2 hpe
      rw [hp1] at this;cases this
  have hmidb:mid+1 < a+n:=by
    refine Classical.byContradiction fun hno=>?_
    have hma:mid+1=a+n:=by omega
    by_cases hpm:q'=mid
    · rw [hpm,hpv] at hqe
      exact below_ne hq1 (Option.some.inj hqe)
    · have:=hlo q' _ hq'.1 (by omega) hqe
      rw [below_asymm hq1] at this;cases this
  have hhi':∀ k e,mid < k→k < a+n→X2[k]? = some e→below X[m] e=true:=fun k e k1 k2 he=>by
    have h1:=hhi k e (by omega) k2 he
    have hne:X[m] ≠ e:=by
      rintro rfl
      obtain ⟨h2,h3⟩:=List.getElem?_eq_some_iff.1 he
      obtain ⟨h4,h5⟩:=List.getElem?_eq_some_iff.1 hpv
      have:=(List.getElem_inj hn2).1 (h3.trans h5.symm)
      omega
    rcases below_total hne with h | h
    · exact h
    · rw [h1] at h;cases h
  have hcutm:CutOn X2 a mid (a+n):=fun k l e f k1 k2 k3 k4 he hf=>by
    have h1:=hlo k e k1 k2 he
    by_cases hlm:l=mid
    · rw [hlm,hpv] at hf;cases hf;exact h1
    · exact below_trans h1 (hhi' l f (by omega) k4 hf)
  have hcutm':CutOn X2 a (mid+1) (a+n):=fun k l e f k1 k2 k3 k4 he hf=>by
    by_cases hkm:k=mid
    · rw [hkm,hpv] at he;cases he;exact hhi' l f (by omega) k4 hf
    · exact hcutm k l e f k1 (by omega) (by omega) k4 he hf
  obtain ⟨n1,hn1⟩:∃ n1,mid=a+n1:=⟨mid - a,by omega⟩
  obtain ⟨n2,hn2'⟩:∃ n2,n=n1+1+n2:=⟨n - (n1+1),by omega⟩
  have w1:IntKind.i64.wrap ((mid:Int) - a)=(n1:Int):=by rw [wrap64 (by omega) (by omega)];omega
  have w2:IntKind.i64.wrap ((a:Int)+n - mid)=((n2+1:Nat):Int):=by rw [wrap64 (by omega) (by omega)];omega
  have t1:(n:Int).tdiv 8=((n / 8:Nat):Int):=by rw [Int.tdiv_eq_ediv_of_nonneg (by omega)];rfl
  obtain ⟨th,hth⟩:∃ th,th=n / 8:=⟨_,rfl⟩
  rw [← hth] at t1
  have w3:IntKind.i64.wrap (th:Int)=(th:Int):=wrap64 (by omega) (by omega)
  have w4:IntKind.i64.wrap ((mid:Int)+1)=(mid:Int)+1:=wrap64 (by omega) (by omega)
  by_cases hc:(n1:Int) < ((n2+1:Nat):Int)
  · obtain ⟨X3,hS3,hsr,e2⟩:=hrec n1 a X2 (by omega) hX2 hn2 (by omega) (by omega) (by
      rcases h0 with h0 | h0
      · exact .inl h0
      · by_cases ha:a=0
        · exact .inl ha
        · refine .inr fun k e f k1 k2 he hf=>?_
          rw [hS.out (a - 1) (by omega)] at he
          obtain ⟨k',hk',hf'⟩:=hS.back hn ⟨k1,by omega⟩ hf
          exact h0 k' e f hk'.1 hk'.2 he hf')
    rw [show (a:Int)+n1=(mid:Int) by omega] at e2
    have hfin:=hL X3 mid (decide (th≤n1)) t hamid hmidb (hS.trans (hS3.mono (Nat.le_refl _) (by omega))) (srt_join' hn2 (fun k l e f k1 k2 k3=>by omega) (fun k l e f k1 k2 k3 k4=>hcutm k l e f k1 (by omega) k3 (by omega)) (by rw [← hn1] at hS3;exact hS3) (by rw [← hn1] at hsr;exact hsr)) (fun k l e f k1 k2 k3 k4 he hf=>by
      have hf':X2[l]? = some f:=by rw [← hS3.out l (by omega)];exact hf
      by_cases hkm:k=mid
      · have he':X2[k]? = some e:=by rw [← hS3.out k (by omega)];exact he
        exact hcutm' k l e f k1 k2 k3 k4 he' hf'
      · obtain ⟨k',hk',he'⟩:=hS3.back hn2 ⟨k1,by omega⟩ he
        exact hcutm' k' l e f hk'.1 (by omega) k3 k4 he' hf')
    rw [show ((mid+1:Nat):Int)=(mid:Int)+1 by omega] at hfin
    rw [show ((n2+1:Nat):Int)=(n2:Int)+1 by omega] at hc w2
    repeat (first|refine wp_as ?_|refine wp_ss ?_|refine wr (by simp [e1,e2,w1,w2,w3,w4,t1,hc];with_reducible rfl) ?_|refine wq (by simp [e1,e2,w1,w2,w3,w4,t1,hc];with_reducible rfl) ?_|refine wt (by simpa [e1,e2,w1,w2,w3,w4,t1,hc]) ?_|refine wf (by simpa [e1,e2,w1,w2,w3,w4,t1,hc]) ?_|refine xt (by simpa [e1,e2,w1,w2,w3,w4,t1,hc]) ?_|refine xf (by simpa [e1,e2,w1,w2,w3,w4,t1,hc]) ?_|refine wp_bs ?_|refine wp_b ?_|refine wp_sr ?_|refine wp_sx ?_|refine wp_ret' ?_|refine wp_skip' ?_|refine wp_exit' ?_)
    exact hfin
  · obtain ⟨X3,hS3,hsr,e2⟩:=hrec n2 (mid+1) X2 (by omega) hX2 hn2 (by omega) (by omega) (.inr fun k e f k1 k2 he hf=>by
      rw [Nat.add_sub_cancel,hpv] at he
      cases he
      exact hhi' k f (by omega) (by omega) hf)
    rw [show ((mid+1:Nat):Int)+n2=(a:Int)+n by omega,show ((mid+1:Nat):Int)=(mid:Int)+1 by omega] at e2
    have hS3':Seg X2 X3 (mid+1) (a+n):=by rw [show mid+1+n2=a+n by omega] at hS3;exact hS3
    have hsr':SrtOn X3 (mid+1) (a+n):=by rw [show mid+1+n2=a+n by omega] at hsr;exact hsr
    have hfin:=hR X3 mid (decide ((th:Int)≤(n2:Int)+1)) t hamid hmidb (hS.trans (hS3'.mono (by omega) (Nat.le_refl _))) (srt_join hn2 (mid:=mid+1) (fun k l e f k1 k2 k3=>by omega) (fun k l e f k1 k2 k3 k4=>hcutm' k l e f (by omega) k2 k3 k4) hS3' hsr') (fun k l e f k1 k2 k3 k4 he hf=>by
      have he':X2[k]? = some e:=by rw [← hS3'.out k (by omega)];exact he
      by_cases hlm:l=mid
      · have hf':X2[l]? = some f:=by rw [← hS3'.out l (by omega)];exact hf
        exact hcutm k l e f k1 k2 k3 k4 he' hf'
      · obtain ⟨l',hl',hf'⟩:=hS3'.back hn2 ⟨by omega,k4⟩ hf
        exact hcutm k l' e f k1 k2 (by omega) hl'.2 he' hf')
    rw [show ((n2+1:Nat):Int)=(n2:Int)+1 by omega] at hc w2
    repeat (first|refine wp_as ?_|refine wp_ss ?_|refine wr (by simp [e1,e2,w1,w2,w3,w4,t1,hc];with_reducible rfl) ?_|refine wq (by simp [e1,e2,w1,w2,w3,w4,t1,hc];with_reducible rfl) ?_|refine wt (by simpa [e1,e2,w1,w2,w3,w4,t1,hc]) ?_|refine wf (by simpa [e1,e2,w1,w2,w3,w4,t1,hc]) ?_|refine xt (by simpa [e1,e2,w1,w2,w3,w4,t1,hc]) ?_|refine xf (by simpa [e1,e2,w1,w2,w3,w4,t1,hc]) ?_|refine wp_bs ?_|refine wp_b ?_|refine wp_sr ?_|refine wp_sx ?_|refine wp_ret' ?_|refine wp_skip' ?_|refine wp_exit' ?_)
    exact hfin
end Go.Idl
namespace Go.Idl
open Go
abbrev cB':IC:=(.seq (.seq z285r11 (.cond (.t 56) (.seq z285r12 (.seq z285r13 z285r14)) .skip)) (.seq (.seq z285r15 (.cond (.t 75) (.seq z285r16 (.cond (.t 80) .ret .skip)) .skip)) (.seq (.seq z285r17 (.cond (.t 97) (.seq z285r18 (.seq z285r19 (.exit 1))) .skip)) cD)))
abbrev cB:IC:=.seq z285r10 cB'
theorem srt_adj {X:List (Int×Int)} {a b:Nat} (hn:X.Nodup) (h:∀ k,a < k→k < b→∀ h1 h2,below (X[k]'h1) (X[k - 1]'h2)=false):SrtOn X a b:=by
  have key:∀ (d k:Nat) (e f:Int×Int),a≤k→k+d+1 < b→X[k]? = some e→X[k+d+1]? = some f→below e f=true:=by
    intro d
    induction d with
    | zero =>
      intro k e f hk hb he hf
      obtain ⟨h1,h2⟩:=List.getElem?_eq_some_iff.1 he
      obtain ⟨h3,h4⟩:=List.getElem?_eq_some_iff.1 hf
      have h5:=h (k+0+1) (by omega) hb h3 (by simpa using h1)
      simp only [Nat.add_zero,Nat.add_sub_cancel] at h5 h4
      rw [h4,h2] at h5
      have hne:e ≠ f:=by
        rintro rfl
        have:=(List.getElem_inj hn).1 (h2.trans h4.symm)
        omega
      rcases below_total hne with q | q
      · exact q
      · rw [h5] at q;cases q
    | succ d ih =>
      intro k e f hk hb he hf
      have h3:=(List.getElem?_eq_some_iff.1 hf).1
      have hg:k+d+1 < X.length:=by omega
      have q1:=ih k e X[k+d+1] hk (by omega) he (List.getElem?_eq_getElem hg)
      obtain ⟨h3,h4⟩:=List.getElem?_eq_some_iff.1 hf
      have h5:=h (k+(d+1)+1) (by omega) hb h3 (by omega)
      have hi:k+(d+1)+1 - 1=k+d+1:=by omega
      simp only [hi] at h5
      rw [h4] at h5
      have hne:X[k+d+1] ≠ f:=by
        intro he2
        have:=(List.getElem_inj hn).1 (he2.trans h4.symm)
        omega
      rcases below_total hne with q | q
      · exact below_trans q1 q
      · rw [h5] at q;cases q
  intro k l e f hk hkl hl he hf
  obtain ⟨d,rfl⟩:∃ d,l=k+d+1:=⟨l - k - 1,by omega⟩
  exact key d k e f hk hl he hf
set_option maxHeartbeats 8000000 in
theorem pdq_B' (X:List (Int×Int)) (hX:∀ x ∈ X,DE x) (hn:X.Nodup) (hl:X.length≤700000) (a n lim:Nat) (h13:13≤n) (h21:n≤21) (hab:a+n≤X.length) (M:List Boxes) (hrec:PdqRec n lim (M++[[]]))
    (h0:a=0 ∨ ∀ k e f,a≤k→k < a+n→X[a - 1]? = some e→X[k]? = some f→below e f=true)
    (bal part:Bool) (Q:Ex→St→Prop) (m:Nat) (hint:Int) (hm:a≤m∧m < a+n) (hh:hint=0 ∨ hint=1)
    (p1:∃ p,(a≤p∧p < a+n)∧∀ h1 h2,below (X[p]'h1) (X[m]'h2)=true) (p2:∃ p,(a≤p∧p < a+n)∧∀ h1 h2,below (X[m]'h1) (X[p]'h2)=true)
    (hS:∀ m:Nat,SrtOn X a (a+n)→Q .ret { T:=[(0,O2 X),(1,I a),(2,I ((a:Int)+n)),(3,I lim),(4,fcE),(10,Bo bal),(11,Bo part),(12,I n),(13,I m),(80,Bo true)],loc:=[],M:=M })
    (hL:∀ (X3:List (Int×Int)) (mid:Nat) (bal part:Bool),a < mid→mid+1 < a+n→Seg X X3 a (a+n)→SrtOn X3 a (mid+1)→CutOn X3 a (mid+1) (a+n) →
      Q .normal { T:=[(0,O2 X3),(1,I (mid+1:Nat)),(2,I ((a:Int)+n)),(3,I lim),(4,fcE),(10,Bo bal),(11,Bo part)],loc:=[],M:=M })
    (hR:∀ (X3:List (Int×Int)) (mid:Nat) (bal part:Bool),a < mid→mid+1 < a+n→Seg X X3 a (a+n)→SrtOn X3 mid (a+n)→CutOn X3 a mid (a+n) →
      Q .normal { T:=[(0,O2 X3),(1,I a),(2,I mid),(3,I lim),(4,fcE),(10,Bo bal),(11,Bo part)],loc:=[],M:=M }) :
    wp tb cB' { T:=[(0,O2 X),(1,I a),(2,I ((a:Int)+n)),(3,I lim),(4,fcE),(10,Bo bal),(11,Bo part),(12,I n),(13,I m),(14,I hint)],loc:=[],M:=M } Q:=by
  obtain ⟨t,ht,hE2⟩:=ev_partialIns X hX (by omega) a n (by omega) (by omega) hab (M++[[]])
  have e2:=ev_lim hE2
  have hml:m < X.length:=by omega
  have hD:=pdq_D X hX hn hl a n m lim h13 h21 hab hm M hrec h0 p1 p2 bal part Q hL hR
  have key:∀ (hq:a=0 ∨ ∃ a0,∃ h:a0 < X.length,a=a0+1∧cmpE X[a0] X[m] < 0),True:=fun _=>trivial
  have hq:a=0 ∨ ∃ a0,∃ h:a0 < X.length,a=a0+1∧cmpE X[a0] X[m] < 0:=by
    rcases h0 with h0 | h0
    · exact .inl h0
    · by_cases ha:a=0
      · exact .inl ha
      · refine .inr ⟨a - 1,by omega,by omega,?_⟩
        have:=h0 m X[a - 1] X[m] hm.1 hm.2 (List.getElem?_eq_getElem (by omega)) (List.getElem?_eq_getElem hml)
        rw [← cmpE_below] at this
        exact of_decide_eq_true this
  clear key
  have hto:X.take X.length=X:=List.take_of_length_le (Nat.le_refl _)
  rcases hq with ha | ⟨a0,ha0,ha,hcm⟩
  · have g1:¬ (0:Int) < (a:Int):=by omega
    have g1':¬ 0 < a:=by omega
    clear ha
    rcases hh with rfl | rfl
    · cases bal <;> cases part
      all_goals
        repeat (first|refine wp_as ?_|refine wp_ss ?_|refine wr (by simp [hml,g1,g1'];with_reducible rfl) ?_|refine wq (by simp [hml,g1,g1'];with_reducible rfl) ?_|refine wt (by simpa [hml,g1,g1']) ?_|refine wf (by simpa [hml,g1,g1']) ?_|refine xt (by simpa [hml,g1,g1']) ?_|refine xf (by simpa [hml,g1,g1']) ?_|refine wp_bs ?_|refine wp_b ?_|refine wp_sr ?_|refine wp_sx ?_|refine wp_ret' ?_|refine wp_skip' ?_|refine wp_exit' ?_)
        exact hD
    · cases bal <;> cases part
      rotate_right 1
      · cases t with
        | true =>
          have hs:=hS m (srt_adj hn (ht rfl))
          repeat (first|refine wp_as ?_|refine wp_ss ?_|refine wr (by simp [e2,hml,g1,g1'];with_reducible rfl) ?_|refine wq (by simp [e2,hml,g1,g1'];with_reducible rfl) ?_|refine wt (by simpa [e2,hml,g1,g1']) ?_|refine wf (by simpa [e2,hml,g1,g1']) ?_|refine xt (by simpa [e2,hml,g1,g1']) ?_|refine xf (by simpa [e2,hml,g1,g1']) ?_|refine wp_bs ?_|refine wp_b ?_|refine wp_sr ?_|refine wp_sx ?_|refine wp_ret' ?_|refine wp_skip' ?_|refine wp_exit' ?_)
          exact hs
        | false =>
          repeat (first|refine wp_as ?_|refine wp_ss ?_|refine wr (by simp [e2,hml,g1,g1'];with_reducible rfl) ?_|refine wq (by simp [e2,hml,g1,g1'];with_reducible rfl) ?_|refine wt (by simpa [e2,hml,g1,g1']) ?_|refine wf (by simpa [e2,hml,g1,g1']) ?_|refine xt (by simpa [e2,hml,g1,g1']) ?_|refine xf (by simpa [e2,hml,g1,g1']) ?_|refine wp_bs ?_|refine wp_b ?_|refine wp_sr ?_|refine wp_sx ?_|refine wp_ret' ?_|refine wp_skip' ?_|refine wp_exit' ?_)
          exact hD
      all_goals
        repeat (first|refine wp_as ?_|refine wp_ss ?_|refine wr (by simp [hml,g1,g1'];with_reducible rfl) ?_|refine wq (by simp [hml,g1,g1'];with_reducible rfl) ?_|refine wt (by simpa [hml,g1,g1']) ?_|refine wf (by simpa [hml,g1,g1']) ?_|refine xt (by simpa [hml,g1,g1']) ?_|refine xf (by simpa [hml,g1,g1']) ?_|refine wp_bs ?_|refine wp_b ?_|refine wp_sr ?_|refine wp_sx ?_|refine wp_ret' ?_|refine wp_skip' ?_|refine wp_exit' ?_)
        exact hD
  · have e3:=fun M=>ev_lim (ev_cmpE (hX _ (List.getElem_mem ha0)) (hX _ (List.getElem_mem hml)) M)
    have w1:IntKind.i64.wrap ((a:Int) - 1)=(a0:Int):=by rw [wrap64 (by omega) (by omega)];omega
    have g1:(0:Int) < (a:Int):=by omega
    have g1':0 < a:=by omega
    rcases hh with rfl | rfl
    · cases bal <;> cases part
      all_goals
        repeat (first|refine wp_as ?_|refine wp_ss ?_|refine wr (by simp [e3,hml,ha0,w1,g1,g1',hcm];with_reducible rfl) ?_|refine wq (by simp [e3,hml,ha0,w1,g1,g1',hcm];with_reducible rfl) ?_|refine wt (by simpa [e3,hml,ha0,w1,g1,g1',hcm]) ?_|refine wf (by simpa [e3,hml,ha0,w1,g1,g1',hcm]) ?_|refine xt (by simpa [e3,hml,ha0,w1,g1,g1',hcm]) ?_|refine xf (by simpa [e3,hml,ha0,w1,g1,g1',hcm]) ?_|refine wp_bs ?_|refine wp_b ?_|refine wp_sr ?_|refine wp_sx ?_|refine wp_ret' ?_|refine wp_skip' ?_|refine wp_exit' ?_)
        exact hD
    · cases bal <;> cases part
      rotate_right 1
      · cases t with
        | true =>
          have hs:=hS m (srt_adj hn (ht rfl))
          repeat (first|refine wp_as ?_|refine wp_ss ?_|refine wr (by simp [e2,e3,hml,ha0,w1,g1,g1',hcm];with_reducible rfl) ?_|refine wq (by simp [e2,e3,hml,ha0,w1,g1,g1',hcm];with_reducible rfl) ?_|refine wt (by simpa [e2,e3,hml,ha0,w1,g1,g1',hcm]) ?_|refine wf (by simpa [e2,e3,hml,ha0,w1,g1,g1',hcm]) ?_|refine xt (by simpa [e2,e3,hml,ha0,w1,g1,g1',hcm]) ?_|refine xf (by simpa [e2,e3,hml,ha0,w1,g1,g1',hcm]) ?_|refine wp_bs ?_|refine wp_b ?_|refine wp_sr ?_|refine wp_sx ?_|refine wp_ret' ?_|refine wp_skip' ?_|refine wp_exit' ?_)
          exact hs
        | false =>
          repeat (first|refine wp_as ?_|refine wp_ss ?_|refine wr (by simp [e2,e3,hml,ha0,w1,g1,g1',hcm];with_reducible rfl) ?_|refine wq (by simp [e2,e3,hml,ha0,w1,g1,g1',hcm];with_reducible rfl) ?_|refine wt (by simpa [e2,e3,hml,ha0,w1,g1,g1',hcm]) ?_|refine wf (by simpa [e2,e3,hml,ha0,w1,g1,g1',hcm]) ?_|refine xt (by simpa [e2,e3,hml,ha0,w1,g1,g1',hcm]) ?_|refine xf (by simpa [e2,e3,hml,ha0,w1,g1,g1',hcm]) ?_|refine wp_bs ?_|refine wp_b ?_|refine wp_sr ?_|refine wp_sx ?_|refine wp_ret' ?_|refine wp_skip' ?_|refine wp_exit' ?_)
          exact hD
      all_goals
        repeat (first|refine wp_as ?_|refine wp_ss ?_|refine wr (by simp [e3,hml,ha0,w1,g1,g1',hcm];with_reducible rfl) ?_|refine wq (by simp [e3,hml,ha0,w1,g1,g1',hcm];with_reducible rfl) ?_|refine wt (by simpa [e3,hml,ha0,w1,g1,g1',hcm]) ?_|refine wf (by simpa [e3,hml,ha0,w1,g1,g1',hcm]) ?_|refine xt (by simpa [e3,hml,ha0,w1,g1,g1',hcm]) ?_|refine xf (by simpa [e3,hml,ha0,w1,g1,g1',hcm]) ?_|refine wp_bs ?_|refine wp_b ?_|refine wp_sr ?_|refine wp_sx ?_|refine wp_ret' ?_|refine wp_skip' ?_|refine wp_exit' ?_)
        exact hD
set_option maxHeartbeats 2000000 in
theorem pdq_B (X:List (Int×Int)) (hX:∀ x ∈ X,DE x) (hn:X.Nodup) (hl:X.length≤700000) (a n lim:Nat) (h13:13≤n) (h21:n≤21) (hab:a+n≤X.length) (M:List Boxes) (hrec:PdqRec n lim (M++[[]]))
    (h0:a=0 ∨ ∀ k e f,a≤k→k < a+n→X[a - 1]? = some e→X[k]? = some f→below e f=true)
    (bal part:Bool) (Q:Ex→St→Prop) (f:Bool)
    (hS:∀ m:Nat,SrtOn X a (a+n)→Q .ret { T:=[(0,O2 X),(1,I a),(2,I ((a:Int)+n)),(3,I lim),(4,fcE),(10,Bo bal),(11,Bo part),(12,I n),(13,I m),(80,Bo true)],loc:=[],M:=M })
    (hL:∀ (X3:List (Int×Int)) (mid:Nat) (bal part:Bool),a < mid→mid+1 < a+n→Seg X X3 a (a+n)→SrtOn X3 a (mid+1)→CutOn X3 a (mid+1) (a+n) →
      Q .normal { T:=[(0,O2 X3),(1,I (mid+1:Nat)),(2,I ((a:Int)+n)),(3,I lim),(4,fcE),(10,Bo bal),(11,Bo part)],loc:=[],M:=M })
    (hR:∀ (X3:List (Int×Int)) (mid:Nat) (bal part:Bool),a < mid→mid+1 < a+n→Seg X X3 a (a+n)→SrtOn X3 mid (a+n)→CutOn X3 a mid (a+n) →
      Q .normal { T:=[(0,O2 X3),(1,I a),(2,I mid),(3,I lim),(4,fcE),(10,Bo bal),(11,Bo part)],loc:=[],M:=M }) :
    wp tb cB { T:=[(0,O2 X),(1,I a),(2,I ((a:Int)+n)),(3,I lim),(4,fcE),(10,Bo bal),(11,Bo part),(12,I n)]++(if f then [(39,Bo false)] else []),loc:=[],M:=M } Q:=by
  obtain ⟨m,hint,hm,hh,p1,p2,hE⟩:=ev_choosePivot X hX hn (by omega) a n hab h13 (by omega) (M++[[]])
  have e1:=ev_lim hE
  have hB:=pdq_B' X hX hn hl a n lim h13 h21 hab M hrec h0 bal part Q m hint hm hh p1 p2 hS hL hR
  cases f
  all_goals
    simp only [if_true,if_false,Bool.false_eq_true,List.append_nil,List.cons_append,List.nil_append]
    refine wr (by simp [e1];with_reducible rfl) ?_
    exact hB
end Go.Idl
namespace Go.Idl
open Go
def pot (n:Nat):Nat:=if n≤12 then 0 else (n - 11) / 2
theorem pdq_call {X:List (Int×Int)} {a n lim:Nat} {M:List Boxes}
    (h:wp tb (.loop z285l31) { T:=[(0,O2 X),(1,I a),(2,I ((a:Int)+n)),(3,I lim),(4,fcE),(10,Bo true),(11,Bo true)],loc:=[],M:=M }
      (fun ex st=>ex=.ret∧∃ X':List (Int×Int),Seg X X' a (a+n)∧SrtOn X' a (a+n)∧finish zi285 [0] st=some ⟨.tup [],[O2 X'],M,[]⟩)) :
    ∃ X':List (Int×Int),Seg X X' a (a+n)∧SrtOn X' a (a+n)∧Ev tb zl285 [0] [O2 X,I a,I ((a:Int)+n),I lim,fcE] M ⟨.tup [],[O2 X'],M,[]⟩:=by
  suffices hh:∃ r,(∃ X':List (Int×Int),Seg X X' a (a+n)∧SrtOn X' a (a+n)∧r=⟨.tup [],[O2 X'],M,[]⟩)∧Ev tb zl285 [0] [O2 X,I a,I ((a:Int)+n),I lim,fcE] M r by
    obtain ⟨r,⟨X',q1,q2,rfl⟩,q3⟩:=hh
    exact ⟨X',q1,q2,q3⟩
  refine call_ex zt285 rfl ?_
  repeat (first|refine wp_as ?_|refine wp_ss ?_|refine wr (by simp;with_reducible rfl) ?_|refine wq (by simp;with_reducible rfl) ?_|refine wt (by simpa) ?_|refine wf (by simpa) ?_|refine xt (by simpa) ?_|refine xf (by simpa) ?_|refine wp_bs ?_|refine wp_b ?_|refine wp_sr ?_|refine wp_sx ?_|refine wp_ret' ?_|refine wp_skip' ?_|refine wp_exit' ?_)
  refine wp_imp h ?_
  rintro ex st ⟨rfl,X',q1,q2,q3⟩
  exact ⟨.inr rfl,_,⟨X',q1,q2,rfl⟩,q3⟩
abbrev PdqPost (X:List (Int×Int)) (a n:Nat) (M:List Boxes) (ex:Ex) (st:St):Prop :=
  ex=.ret∧∃ X':List (Int×Int),Seg X X' a (a+n)∧SrtOn X' a (a+n)∧finish zi285 [0] st=some ⟨.tup [],[O2 X'],M,[]⟩
theorem pdq_few (n:Nat) (h12:n≤12) (X:List (Int×Int)) (a lim:Nat) (bal part:Bool) (M:List Boxes) (hX:∀ x ∈ X,DE x) (hnd:X.Nodup) (hl:X.length≤700000) (hab:a+n≤X.length) :
    wp tb (.loop z285l31) { T:=[(0,O2 X),(1,I a),(2,I ((a:Int)+n)),(3,I lim),(4,fcE),(10,Bo bal),(11,Bo part)],loc:=[],M:=M } (PdqPost X a n M):=by
  obtain ⟨X',hS,hs,hE⟩:=ins_part X hX hnd hl a n hab (M++[[]])
  have e1:=ev_lim hE
  have w00:(a:Int)+(n:Int) - a=n:=by omega
  have w0:IntKind.i64.wrap (n:Int)=(n:Int):=wrap64 (by omega) (by omega)
  have g1:(n:Int)≤12:=by omega
  refine wp_loop ?_
  repeat (first|refine wp_as ?_|refine wp_ss ?_|refine wr (by simp [w00,w0,g1,h12,e1];with_reducible rfl) ?_|refine wq (by simp [w00,w0,g1,h12,e1];with_reducible rfl) ?_|refine wt (by simpa [w00,w0,g1,h12,e1]) ?_|refine wf (by simpa [w00,w0,g1,h12,e1]) ?_|refine xt (by simpa [w00,w0,g1,h12,e1]) ?_|refine xf (by simpa [w00,w0,g1,h12,e1]) ?_|refine wp_bs ?_|refine wp_b ?_|refine wp_sr ?_|refine wp_sx ?_|refine wp_ret' ?_|refine wp_skip' ?_|refine wp_exit' ?_)
  refine ⟨rfl,X',hS,hs,?_⟩
  simp [zi285]
set_option maxHeartbeats 4000000 in
theorem pdq_main:∀ (N n:Nat),n≤N→n≤21→∀ (X:List (Int×Int)) (a lim:Nat) (bal part:Bool) (M:List Boxes),(∀ x ∈ X,DE x)→X.Nodup→X.length≤700000→a+n≤X.length→pot n≤lim→lim≤1000 →
    (a=0 ∨ ∀ k e f,a≤k→k < a+n→X[a - 1]? = some e→X[k]? = some f→below e f=true) →
    wp tb (.loop z285l31) { T:=[(0,O2 X),(1,I a),(2,I ((a:Int)+n)),(3,I lim),(4,fcE),(10,Bo bal),(11,Bo part)],loc:=[],M:=M } (PdqPost X a n M):=by
  intro N
  induction N with
  | zero =>
    intro n hn h21 X a lim bal part M hX hnd hl hab hpot hlim h0
    exact pdq_few n (by omega) X a lim bal part M hX hnd hl hab
  | succ N ih =>
    intro n hn h21 X a lim bal part M hX hnd hl hab hpot hlim h0
    by_cases h12:n≤12
    · exact pdq_few n h12 X a lim bal part M hX hnd hl hab
    have hp1:pot n=(n - 11) / 2:=by rw [pot,if_neg h12]
    have hlim1:1≤lim:=by omega
    have hpm:∀ n',n'+2≤n→pot n'≤lim - 1:=fun n' h=>by
      rw [pot];split <;> omega
    have hrec:∀ lim',lim - 1≤lim'→lim'≤1000→∀ M,PdqRec n lim' M:=fun lim' h1 h2 M n' a' X hn' hX hnd hl hab h0=>by
      obtain ⟨X',q1,q2,q3⟩:=pdq_call (ih n' (by omega) (by omega) X a' lim' true true M hX hnd hl hab (by have:=hpm n' hn';omega) h2 h0)
      exact ⟨X',q1,q2,ev_lim q3⟩
    have w00:(a:Int)+(n:Int) - a=n:=by omega
    have w0:IntKind.i64.wrap (n:Int)=(n:Int):=wrap64 (by omega) (by omega)
    have g1:¬ (n:Int)≤12:=by omega
    have g2:¬ (lim:Int)=0:=by omega
    have g2':¬ lim=0:=by omega
    have fin:∀ (X1:List (Int×Int)) (lim1:Nat),Seg X X1 a (a+n)→lim - 1≤lim1→lim1≤1000 →
        (∀ (X3:List (Int×Int)) (mid:Nat) (bal part:Bool),a < mid→mid+1 < a+n→Seg X1 X3 a (a+n)→SrtOn X3 a (mid+1)→CutOn X3 a (mid+1) (a+n) →
          wp tb (.loop z285l31) { T:=[(0,O2 X3),(1,I (mid+1:Nat)),(2,I ((a:Int)+n)),(3,I lim1),(4,fcE),(10,Bo bal),(11,Bo part)],loc:=[],M:=M } (PdqPost X a n M)) ∧
        (∀ (X3:List (Int×Int)) (mid:Nat) (bal part:Bool),a < mid→mid+1 < a+n→Seg X1 X3 a (a+n)→SrtOn X3 mid (a+n)→CutOn X3 a mid (a+n) →
          wp tb (.loop z285l31) { T:=[(0,O2 X3),(1,I a),(2,I mid),(3,I lim1),(4,fcE),(10,Bo bal),(11,Bo part)],loc:=[],M:=M } (PdqPost X a n M)):=by
      intro X1 lim1 hS1 hl1 hl2
      refine ⟨fun X3 mid bal part h1 h2 hS3 hs hc=>?_,fun X3 mid bal part h1 h2 hS3 hs hc=>?_⟩
      · have hS:=hS1.trans hS3
        have hle:=hS.len
        obtain ⟨n2,hn2⟩:∃ n2,a+n=mid+1+n2:=⟨a+n - (mid+1),by omega⟩
        have:=ih n2 (by omega) (by omega) X3 (mid+1) lim1 bal part M (fun x hx=>hX x (hS.perm.mem_iff.1 hx)) (hS.nodup hnd) (by omega) (by omega) (by have:=hpm n2 (by omega);omega) hl2 (.inr fun k e f k1 k2 he hf=>by
          rw [Nat.add_sub_cancel] at he
          exact hc mid k e f (by omega) (by omega) k1 (by omega) he hf)
        rw [show ((mid+1:Nat):Int)+(n2:Int)=(a:Int)+n by omega] at this
        refine wp_imp this ?_
        rintro ex st ⟨rfl,X',q1,q2,q3⟩
        rw [← hn2] at q1 q2
        exact ⟨rfl,X',hS.trans (q1.mono (by omega) (Nat.le_refl _)),srt_join (hS.nodup hnd) hs hc q1 q2,q3⟩
      · have hS:=hS1.trans hS3
        have hle:=hS.len
        obtain ⟨n1,hn1⟩:∃ n1,mid=a+n1:=⟨mid - a,by omega⟩
        have:=ih n1 (by omega) (by omega) X3 a lim1 bal part M (fun x hx=>hX x (hS.perm.mem_iff.1 hx)) (hS.nodup hnd) (by omega) (by omega) (by have:=hpm n1 (by omega);omega) hl2 (by
          rcases h0 with h0 | h0
          · exact .inl h0
          · by_cases ha:a=0
            · exact .inl ha
            · refine .inr fun k e f k1 k2 he hf=>?_
              rw [hS.out (a - 1) (by omega)] at he
              obtain ⟨k',hk',hf'⟩:=hS.back hnd ⟨k1,by omega⟩ hf
              exact h0 k' e f hk'.1 hk'.2 he hf')
        rw [show (a:Int)+(n1:Int)=(mid:Int) by omega] at this
        refine wp_imp this ?_
        rintro ex st ⟨rfl,X',q1,q2,q3⟩
        rw [← hn1] at q1 q2
        exact ⟨rfl,X',hS.trans (q1.mono (Nat.le_refl _) (by omega)),srt_join' (hS.nodup hnd) hs hc q1 q2,q3⟩
    cases bal with
    | true =>
      obtain ⟨fL,fR⟩:=fin X lim (Seg.refl X a (a+n)) (by omega) hlim
      refine wp_loop ?_
      iterate 10 (first|refine wp_as ?_|refine wp_ss ?_|refine wr (by simp [w00,w0,g1,h12,g2,g2'];with_reducible rfl) ?_|refine wq (by simp [w00,w0,g1,h12,g2,g2'];with_reducible rfl) ?_|refine wt (by simpa [w00,w0,g1,h12,g2,g2']) ?_|refine wf (by simpa [w00,w0,g1,h12,g2,g2']) ?_|refine xt (by simpa [w00,w0,g1,h12,g2,g2']) ?_|refine xf (by simpa [w00,w0,g1,h12,g2,g2']) ?_|refine wp_bs ?_|refine wp_b ?_|refine wp_sr ?_|refine wp_sx ?_|refine wp_ret' ?_|refine wp_skip' ?_|refine wp_exit' ?_)
      refine wp_skip' ?_
      refine pdq_B X hX hnd hl a n lim (by omega) h21 hab M (hrec lim (by omega) hlim _) h0 true part _ true ?_ ?_ ?_
      · intro m hs
        refine ⟨rfl,X,Seg.refl X a (a+n),hs,?_⟩
        simp [zi285]
      · intro X3 mid bal part h1 h2 h3 h4 h5
        exact fL X3 mid bal part h1 h2 h3 h4 h5
      · intro X3 mid bal part h1 h2 h3 h4 h5
        exact fR X3 mid bal part h1 h2 h3 h4 h5
    | false =>
      obtain ⟨X1,hS1,hE⟩:=ev_breakPatterns X (by omega) a n (by omega) h21 hab (M++[[]])
      have e1:=ev_lim hE
      obtain ⟨lim1,hlim2⟩:∃ lim1,lim=lim1+1:=⟨lim - 1,by omega⟩
      have hle:=hS1.len
      have w1:IntKind.i64.wrap ((lim:Int) - 1)=(lim1:Int):=by rw [wrap64 (by omega) (by omega)];omega
      obtain ⟨fL,fR⟩:=fin X1 lim1 hS1 (by omega) (by omega)
      refine wp_loop ?_
      iterate 12 (first|refine wp_as ?_|refine wp_ss ?_|refine wr (by simp [w00,w0,g1,h12,g2,g2',e1,w1];with_reducible rfl) ?_|refine wq (by simp [w00,w0,g1,h12,g2,g2',e1,w1];with_reducible rfl) ?_|refine wt (by simpa [w00,w0,g1,h12,g2,g2',e1,w1]) ?_|refine wf (by simpa [w00,w0,g1,h12,g2,g2',e1,w1]) ?_|refine xt (by simpa [w00,w0,g1,h12,g2,g2',e1,w1]) ?_|refine xf (by simpa [w00,w0,g1,h12,g2,g2',e1,w1]) ?_|refine wp_bs ?_|refine wp_b ?_|refine wp_sr ?_|refine wp_sx ?_|refine wp_ret' ?_|refine wp_skip' ?_|refine wp_exit' ?_)
      refine pdq_B X1 (fun x hx=>hX x (hS1.perm.mem_iff.1 hx)) (hS1.nodup hnd) (by omega) a n lim1 (by omega) h21 (by omega) M (hrec lim1 (by omega) (by omega) _) ?_ false part _ false ?_ ?_ ?_
      · rcases h0 with h0 | h0
        · exact .inl h0
        · by_cases ha:a=0
          · exact .inl ha
          · refine .inr fun k e f k1 k2 he hf=>?_
            rw [hS1.out (a - 1) (by omega)] at he
            obtain ⟨k',hk',hf'⟩:=hS1.back hnd ⟨k1,k2⟩ hf
            exact h0 k' e f hk'.1 hk'.2 he hf'
      · intro m hs
        refine ⟨rfl,X1,hS1,hs,?_⟩
        simp [zi285]
      · intro X3 mid bal part h1 h2 h3 h4 h5
        exact fL X3 mid bal part h1 h2 h3 h4 h5
      · intro X3 mid bal part h1 h2 h3 h4 h5
        exact fR X3 mid bal part h1 h2 h3 h4 h5
theorem ev_SortFunc_ex (X:List (Int×Int)) (hX:∀ x ∈ X,DE x) (hn:X.Nodup) (h21:X.length≤21) (M:List Boxes) :
    ∃ X':List (Int×Int),X'.Perm X∧SrtOn X' 0 X.length∧Ev tb zl272 [0] [O2 X,fcE] M ⟨.tup [],[O2 X'],M,[]⟩:=by
  have hb:lenB X.length≤1000:=by unfold lenB;(repeat' split) <;> omega
  have hp:pot X.length≤lenB X.length:=by
    unfold pot lenB
    (repeat' split) <;> omega
  obtain ⟨X',hS,hs,hE⟩:=pdq_call (pdq_main X.length X.length (Nat.le_refl _) h21 X 0 (lenB X.length) true true (M++[[]]) hX hn (by omega) (by omega) hp hb (.inl rfl))
  have e1:=ev_lim hE
  have e2:=ev_lim (ev_Lenk X.length h21)
  have w1:=@wrapU X.length (by omega)
  rw [show ((0:Nat):Int)=0 from rfl,Int.zero_add] at e1
  rw [Nat.zero_add] at hs
  refine ⟨X',hS.perm,hs,?_⟩
  refine call_of_wp zt272 rfl ?_
  repeat (first|refine wp_as ?_|refine wp_ss ?_|refine wr (by simp [e1,e2,w1];with_reducible rfl) ?_|refine wq (by simp [e1,e2,w1];with_reducible rfl) ?_|refine wt (by simpa [e1,e2,w1]) ?_|refine wf (by simpa [e1,e2,w1]) ?_|refine xt (by simpa [e1,e2,w1]) ?_|refine xf (by simpa [e1,e2,w1]) ?_|refine wp_bs ?_|refine wp_b ?_|refine wp_sr ?_|refine wp_sx ?_|refine wp_ret' ?_|refine wp_skip' ?_|refine wp_exit' ?_)
  simp [zi272]
def srtE (X:List (Int×Int)):List (Int×Int):=srtC below [] X
theorem srtE_pw {X:List (Int×Int)} (hn:X.Nodup):PW (srtE X):=by
  obtain ⟨h1,h2⟩:=srtC_ok (lt:=below) below_ht (fun a b h=>below_asymm h) X [] .nil
  have hnd:(srtE X).Nodup:=h2.nodup_iff.2 (by simpa using hn)
  refine (h1.and hnd).imp fun {a b} h=>?_
  rcases below_total h.2 with q | q
  · exact q
  · rw [h.1] at q;cases q
theorem srtE_perm (X:List (Int×Int)):(srtE X).Perm X:=by
  have:=srtC_perm below X []
  rwa [List.nil_append] at this
theorem ev_SortFunc (X:List (Int×Int)) (hX:∀ x ∈ X,DE x) (hn:X.Nodup) (h21:X.length≤21) (M:List Boxes) :
    Ev tb zl272 [0] [O2 X,fcE] M ⟨.tup [],[O2 (srtE X)],M,[]⟩:=by
  obtain ⟨X',hp,hs,hE⟩:=ev_SortFunc_ex X hX hn h21 M
  have hl:=hp.length_eq
  have hpw:PW X':=List.pairwise_iff_getElem.2 fun i j hi hj hij=>hs i j _ _ (by omega) hij (by omega) (List.getElem?_eq_getElem hi) (List.getElem?_eq_getElem hj)
  have:X'=srtE X:=pw_ext hpw (srtE_pw hn) fun e=>by rw [hp.mem_iff,(srtE_perm X).mem_iff]
  rw [← this];exact hE
end Go.Idl
namespace Go.Idl
open Go
def decAt (o:List Int) (i:Nat):List Int:=o.set i (o.getD i 0 - 1)
def subs:List (Int×Int)→List Int→List (Int×Int)→List (List (Int×Int))
  | [],left,chosen=>if left.all (fun x=>decide (x=0)) then [chosen] else []
  | e::r,left,chosen =>
    (if 0 < left.getD e.1.toNat 0∧0 < left.getD e.2.toNat 0 then subs r (decAt (decAt left e.1.toNat) e.2.toNat) (chosen++[e]) else [])++subs r left chosen
theorem ev_Clone2 (e0:Nat) (es:List (Int×Int)) (c:Bool) (he0:e0=2 ∨ es=[]) (hl:es.length≤1000000):Ev tb zl261 [] [.lst e0 (eds es) c] [] ⟨O2 es,[],[],[]⟩:=by
  rcases he0 with rfl | rfl
  · refine call_of_wp zt261 rfl ?_
    refine wp_rs (by simp;rfl) (by simp;rfl) ?_
    refine wp_nil2 (b:=es.isEmpty) (by simp [z261r1];rfl) (by simp) ?_ ?_ ?_ (ex:=.ret) (st':={ T:=[(2,.own 2 (eds es))],loc:=[],M:=[] })
    · refine wp_ct (t:=false) (by simp) (by simp) fun _=>wp_ss ?_
      refine wp_rs (by simp [show es.length≤274877906944 by omega];rfl) (by simp;rfl) ?_
      refine wp_ret' ?_
      simp
    · intro he
      have:es=[]:=by simpa using he
      subst this
      refine wp_ct (t:=true) (by simp) (fun _=>wp_as ?_) (by simp)
      refine wp_rs (by simp;rfl) (by simp;rfl) ?_
      refine wp_sr ?_
      simp
    · simp [zi261]
  · refine call_of_wp zt261 rfl ?_
    refine wp_rs (by simp;rfl) (by simp;rfl) ?_
    refine wp_nil2 (b:=([]:List (Int×Int)).isEmpty) (by simp [z261r1];rfl) (by simp) ?_ ?_ ?_ (ex:=.ret) (st':={ T:=[(2,.own 2 (eds ([]:List (Int×Int))))],loc:=[],M:=[] })
    · refine wp_ct (t:=false) (by simp) (by simp) fun _=>wp_ss ?_
      refine wp_rs (by simp;rfl) (by simp;rfl) ?_
      refine wp_ret' ?_
      simp
    · intro he
      refine wp_ct (t:=true) (by simp) (fun _=>wp_as ?_) (by simp)
      refine wp_rs (by simp;rfl) (by simp;rfl) ?_
      refine wp_sr ?_
      simp
    · simp [zi261]
theorem ev_clone2 (e0:Nat) (es:List (Int×Int)) (c:Bool) (he0:e0=2 ∨ es=[]) (hl:es.length≤1000000):Ev tb zl204 [] [.lst e0 (eds es) c] [] ⟨O2 es,[],[],[]⟩:=by
  have e1:=ev_lim (ev_Clone2 e0 es c he0 hl)
  have e2:=ev_lim (ev_Clip2 es)
  refine call_of_wp zt204 rfl ?_
  repeat (first|refine wp_as ?_|refine wp_ss ?_|refine wr (by simp [e1,e2];with_reducible rfl) ?_|refine wq (by simp [e1,e2];with_reducible rfl) ?_|refine wt (by simpa [e1,e2]) ?_|refine wf (by simpa [e1,e2]) ?_|refine xt (by simpa [e1,e2]) ?_|refine xf (by simpa [e1,e2]) ?_|refine wp_bs ?_|refine wp_b ?_|refine wp_sr ?_|refine wp_sx ?_|refine wp_ret' ?_|refine wp_skip' ?_|refine wp_exit' ?_)
  simp [zi204]
end Go.Idl
namespace Go.Idl
open Go
theorem ev_made (n:Int) (e0:Nat) (es:List (Int×Int)) (c:Bool) (he0:e0=2 ∨ es=[]) (hX:∀ x ∈ es,DE x) (hn:es.Nodup) (h21:es.length≤21) :
    Ev tb zl214 [] [I n,.lst e0 (eds es) c] [] ⟨OG n (srtE es),[],[],[]⟩:=by
  have e1:=ev_lim (ev_clone2 e0 es c he0 (by omega))
  have e2:=ev_lim (ev_SortFunc es hX hn h21 [[[I 0,Z]]])
  refine call_of_wp zt214 rfl ?_
  repeat (first|refine wp_as ?_|refine wp_ss ?_|refine wr (by simp [e1,e2];with_reducible rfl) ?_|refine wq (by simp [e1,e2];with_reducible rfl) ?_|refine wt (by simpa [e1,e2]) ?_|refine wf (by simpa [e1,e2]) ?_|refine xt (by simpa [e1,e2]) ?_|refine xf (by simpa [e1,e2]) ?_|refine wp_bs ?_|refine wp_b ?_|refine wp_sr ?_|refine wp_sx ?_|refine wp_ret' ?_|refine wp_skip' ?_|refine wp_exit' ?_)
  simp [zi214]
end Go.Idl
namespace Go.Idl
open Go
def idxE (p:Int×Int→Bool) (i:Int):List (Int×Int)→Int
  | []=>-1
  | x::xs=>if p x then i else idxE p (i+1) xs
theorem ev_IndexFuncEL (xs:List (Int×Int)) (F:Lab) (caps:List IV) (M:List Boxes) (p:Int×Int→Bool) (hl:xs.length≤1000000)
    (hp:∀ x ∈ xs,Ev tb F [] (.agg [I x.1,I x.2]::caps) (M++[[]]) ⟨Bo (p x),[],M++[[]],[]⟩) :
    Ev tb zl448 [0] [O2 xs,.fn F caps] M ⟨I (idxE p 0 xs),[O2 xs],M,[]⟩:=by
  have loop:∀ (m i:Nat),i+m=xs.length→wp tb (.loop z448l7) { T:=[(0,O2 xs),(1,.fn F caps),(7,I xs.length),(8,I i)],loc:=[],M:=M }
      (fun ex st=>(ex=.exit 0∧idxE p i (xs.drop i)=-1∧st={ T:=[(0,O2 xs),(1,.fn F caps),(7,I xs.length),(8,I xs.length),(9,Bo false)],loc:=[],M:=M }) ∨
        ex=.ret∧st={ T:=[(0,O2 xs),(4,I (idxE p i (xs.drop i)))],loc:=[],M:=M }):=by
    intro m
    induction m with
    | zero =>
      intro i hi
      have h2:xs.drop i=[]:=List.drop_of_length_le (by omega)
      have h3:i=xs.length:=hi
      subst h3
      refine wp_loop ?_
      repeat (first|refine wp_as ?_|refine wp_ss ?_|refine wr (by simp;with_reducible rfl) ?_|refine wq (by simp;with_reducible rfl) ?_|refine wt (by simpa) ?_|refine wf (by simpa) ?_|refine xt (by simpa) ?_|refine xf (by simpa) ?_|refine wp_bs ?_|refine wp_b ?_|refine wp_sr ?_|refine wp_sx ?_|refine wp_ret' ?_|refine wp_skip' ?_|refine wp_exit' ?_)
      refine .inl ⟨rfl,by rw [h2];rfl,rfl⟩
    | succ m ih =>
      intro i hi
      have hi2:i < xs.length:=by omega
      have h2:xs.drop i=xs[i]::xs.drop (i+1):=List.drop_eq_getElem_cons hi2
      have e1:=ev_lim (hp _ (List.getElem_mem hi2))
      have w1:IntKind.i64.wrap ((i:Int)+1)=((i+1:Nat):Int):=wrapS (by omega)
      have gx:(eds xs)[i]'(by simpa using hi2)=[I xs[i].1,I xs[i].2]:=by simp [eds]
      rw [h2]
      cases hpx:p xs[i] with
      | true =>
        refine wp_loop ?_
        repeat (first|refine wp_as ?_|refine wp_ss ?_|refine wr (by simp [e1,hi2,w1,hpx,gx];with_reducible rfl) ?_|refine wq (by simp [e1,hi2,w1,hpx,gx];with_reducible rfl) ?_|refine wt (by simpa [e1,hi2,w1,hpx,gx]) ?_|refine wf (by simpa [e1,hi2,w1,hpx,gx]) ?_|refine xt (by simpa [e1,hi2,w1,hpx,gx]) ?_|refine xf (by simpa [e1,hi2,w1,hpx,gx]) ?_|refine wp_bs ?_|refine wp_b ?_|refine wp_sr ?_|refine wp_sx ?_|refine wp_ret' ?_|refine wp_skip' ?_|refine wp_exit' ?_)
        refine .inr ⟨rfl,by simp [idxE,hpx]⟩
      | false =>
        refine wp_loop ?_
        repeat (first|refine wp_as ?_|refine wp_ss ?_|refine wr (by simp [e1,hi2,w1,hpx,gx];with_reducible rfl) ?_|refine wq (by simp [e1,hi2,w1,hpx,gx];with_reducible rfl) ?_|refine wt (by simpa [e1,hi2,w1,hpx,gx]) ?_|refine wf (by simpa [e1,hi2,w1,hpx,gx]) ?_|refine xt (by simpa [e1,hi2,w1,hpx,gx]) ?_|refine xf (by simpa [e1,hi2,w1,hpx,gx]) ?_|refine wp_bs ?_|refine wp_b ?_|refine wp_sr ?_|refine wp_sx ?_|refine wp_ret' ?_|refine wp_skip' ?_|refine wp_exit' ?_)
        have:=ih (i+1) (by omega)
        simp only [idxE,hpx] at this ⊢
        exact this
  refine call_of_wp zt448 rfl ?_
  repeat (first|refine wp_as ?_|refine wp_ss ?_|refine wr (by simp;with_reducible rfl) ?_|refine wq (by simp;with_reducible rfl) ?_|refine wt (by simpa) ?_|refine wf (by simpa) ?_|refine xt (by simpa) ?_|refine xf (by simpa) ?_|refine wp_bs ?_|refine wp_b ?_|refine wp_sr ?_|refine wp_sx ?_|refine wp_ret' ?_|refine wp_skip' ?_|refine wp_exit' ?_)
  refine wp_imp (loop xs.length 0 (by simp)) ?_
  rintro ex st (⟨rfl,h,rfl⟩ | ⟨rfl,rfl⟩)
  · simp only [if_true]
    repeat (first|refine wp_as ?_|refine wp_ss ?_|refine wr (by simp;with_reducible rfl) ?_|refine wq (by simp;with_reducible rfl) ?_|refine wt (by simpa) ?_|refine wf (by simpa) ?_|refine xt (by simpa) ?_|refine xf (by simpa) ?_|refine wp_bs ?_|refine wp_b ?_|refine wp_sr ?_|refine wp_sx ?_|refine wp_ret' ?_|refine wp_skip' ?_|refine wp_exit' ?_)
    simp at h
    simp [zi448,h]
  · simp [zi448]
theorem idxE_spec (p:Int×Int→Bool):∀ (xs:List (Int×Int)) (i:Nat),(idxE p i xs=-1∧∀ x ∈ xs,p x=false) ∨ ∃ k:Nat,∃ h:k < xs.length,idxE p i xs=((i+k:Nat):Int)∧p xs[k]=true∧∀ x ∈ xs.take k,p x=false
  | [],i=>.inl ⟨rfl,by simp⟩
  | x::r,i=>by
    cases hp:p x with
    | true=>exact .inr ⟨0,by simp,by simp [idxE,hp],hp,by simp⟩
    | false =>
      rcases idxE_spec p r (i+1) with ⟨h1,h2⟩ | ⟨k,hk,h1,h2,h3⟩
      · refine .inl ⟨?_,fun y hy=>?_⟩
        · simp only [idxE,hp,Bool.false_eq_true,if_false];exact h1
        · rcases List.mem_cons.1 hy with rfl | hy
          · exact hp
          · exact h2 y hy
      · refine .inr ⟨k+1,by simp;exact hk,?_,h2,fun y hy=>?_⟩
        · simp only [idxE,hp,Bool.false_eq_true,if_false]
          rw [show ((i:Int)+1)=((i+1:Nat):Int) by omega,h1];omega
        · rw [List.take_succ_cons] at hy
          rcases List.mem_cons.1 hy with rfl | hy
          · exact hp
          · exact h3 y hy
theorem delE_loop (xs:List (Int×Int)) (F:Lab) (caps:List IV) (M:List Boxes) (p:Int×Int→Bool) (hl:xs.length≤1000000)
    (hp:∀ bs,∀ x ∈ xs,Ev tb F [] (.agg [I x.1,I x.2]::caps) (M++[bs]) ⟨Bo (p x),[],M++[bs],[]⟩):∀ (m j i:Nat) (s:List (Int×Int)) (bs:Boxes),j+m=xs.length→i < j→s.length=xs.length→s.take i=(xs.take j).filter (fun x=>!p x)→s.drop j=xs.drop j →
    wp tb (.loop z265l11) { T:=[(0,O2 s),(1,.fn F caps),(5,I i),(6,I j)],loc:=bs,M:=M }
      (fun ex st=>ex=.exit 0∧∃ (i:Nat) (s:List (Int×Int)) (bs:Boxes),(i < xs.length∧s.length=xs.length∧s.take i=xs.filter (fun x=>!p x))∧st={ T:=[(0,O2 s),(1,.fn F caps),(5,I i),(6,I xs.length),(19,Bo false)],loc:=bs,M:=M }):=by
  intro m
  induction m with
  | zero =>
    intro j i s bs hj hij hs h1 h2
    have h3:j=xs.length:=hj
    subst h3
    rw [List.take_length] at h1
    refine wp_loop ?_
    repeat (first|refine wp_as ?_|refine wp_ss ?_|refine wr (by simp [hs];with_reducible rfl) ?_|refine wq (by simp [hs];with_reducible rfl) ?_|refine wt (by simpa [hs]) ?_|refine wf (by simpa [hs]) ?_|refine xt (by simpa [hs]) ?_|refine xf (by simpa [hs]) ?_|refine wp_bs ?_|refine wp_b ?_|refine wp_sr ?_|refine wp_sx ?_|refine wp_ret' ?_|refine wp_skip' ?_|refine wp_exit' ?_)
    exact ⟨rfl,i,s,bs,⟨hij,hs,h1⟩,rfl⟩
  | succ m ih =>
    intro j i s bs hj hij hs h1 h2
    have hjl:j < xs.length:=by omega
    have hjs:j < s.length:=by omega
    have hil:i < s.length:=by omega
    have hil':i < xs.length:=by omega
    have hsj:s[j]=xs[j]:=by
      have h3:s.drop j=s[j]::s.drop (j+1):=List.drop_eq_getElem_cons hjs
      have h4:xs.drop j=xs[j]::xs.drop (j+1):=List.drop_eq_getElem_cons hjl
      rw [h3,h4] at h2
      exact (List.cons.inj h2).1
    have hd2:s.drop (j+1)=xs.drop (j+1):=by
      have h3:s.drop j=s[j]::s.drop (j+1):=List.drop_eq_getElem_cons hjs
      have h4:xs.drop j=xs[j]::xs.drop (j+1):=List.drop_eq_getElem_cons hjl
      rw [h3,h4] at h2
      exact (List.cons.inj h2).2
    have gx:(eds s)[j]'(by simpa using hjs)=[I xs[j].1,I xs[j].2]:=by simp [eds,hsj]
    have e1:=fun bs=>ev_lim (hp bs _ (List.getElem_mem hjl))
    have w1:IntKind.i64.wrap ((j:Int)+1)=((j+1:Nat):Int):=wrapS (by omega)
    have w2:IntKind.i64.wrap ((i:Int)+1)=((i+1:Nat):Int):=wrapS (by omega)
    have ht:(xs.take (j+1)).filter (fun x=>!p x)=(xs.take j).filter (fun x=>!p x)++(if p xs[j] then [] else [xs[j]]):=by
      rw [List.take_succ_eq_append_getElem hjl,List.filter_append,List.filter_cons,List.filter_nil]
      cases p xs[j] <;> rfl
    cases hpx:p xs[j] with
    | true =>
      rw [hpx,if_pos rfl,List.append_nil] at ht
      have hn:=fun bs=>ih (j+1) i s bs (by omega) (by omega) hs (by rw [ht];exact h1) hd2
      refine wp_loop ?_
      repeat (first|refine wp_as ?_|refine wp_ss ?_|refine wr (by simp [hs,hjl,hjs,gx,e1,hpx,w1];with_reducible rfl) ?_|refine wq (by simp [hs,hjl,hjs,gx,e1,hpx,w1];with_reducible rfl) ?_|refine wt (by simpa [hs,hjl,hjs,gx,e1,hpx,w1]) ?_|refine wf (by simpa [hs,hjl,hjs,gx,e1,hpx,w1]) ?_|refine xt (by simpa [hs,hjl,hjs,gx,e1,hpx,w1]) ?_|refine xf (by simpa [hs,hjl,hjs,gx,e1,hpx,w1]) ?_|refine wp_bs ?_|refine wp_b ?_|refine wp_sr ?_|refine wp_sx ?_|refine wp_ret' ?_|refine wp_skip' ?_|refine wp_exit' ?_)
      exact hn _
    | false =>
      rw [hpx,if_neg (by simp)] at ht
      have hn:=fun bs=>ih (j+1) (i+1) (s.set i xs[j]) bs (by omega) (by omega) (by simpa using hs) (by
        rw [ht,← h1,List.take_succ_eq_append_getElem (by simpa using hil),List.take_set_of_le (Nat.le_refl _),List.getElem_set_self]) (by
        rw [List.drop_set_of_lt (by omega)];exact hd2)
      refine wp_loop ?_
      repeat (first|refine wp_as ?_|refine wp_ss ?_|refine wr (by simp [hs,hjl,hjs,gx,e1,hpx,w1,w2,hil,hil',eds_set];with_reducible rfl) ?_|refine wq (by simp [hs,hjl,hjs,gx,e1,hpx,w1,w2,hil,hil',eds_set];with_reducible rfl) ?_|refine wt (by simpa [hs,hjl,hjs,gx,e1,hpx,w1,w2,hil,hil',eds_set]) ?_|refine wf (by simpa [hs,hjl,hjs,gx,e1,hpx,w1,w2,hil,hil',eds_set]) ?_|refine xt (by simpa [hs,hjl,hjs,gx,e1,hpx,w1,w2,hil,hil',eds_set]) ?_|refine xf (by simpa [hs,hjl,hjs,gx,e1,hpx,w1,w2,hil,hil',eds_set]) ?_|refine wp_bs ?_|refine wp_b ?_|refine wp_sr ?_|refine wp_sx ?_|refine wp_ret' ?_|refine wp_skip' ?_|refine wp_exit' ?_)
      exact hn _
theorem eds_isSc (xs:List (Int×Int)):((eds xs).all fun x=>x.all IV.isSc)=true:=by
  induction xs with
  | nil=>rfl
  | cons x xs ih=>simp only [eds,List.map_cons,List.all_cons] at *;rw [ih];rfl
theorem ev_DeleteFuncE (xs:List (Int×Int)) (F:Lab) (caps:List IV) (M:List Boxes) (p:Int×Int→Bool) (hl:xs.length≤1000000)
    (hp:∀ bs M' x,x ∈ xs→Ev tb F [] (.agg [I x.1,I x.2]::caps) (M++[bs]++M') ⟨Bo (p x),[],M++[bs]++M',[]⟩) :
    Ev tb zl265 [] [O2 xs,.fn F caps] M ⟨O2 (xs.filter fun x=>!p x),[],M,[]⟩:=by
  have e1:=ev_lim (ev_IndexFuncEL xs F caps (M++[[]]) p hl (fun x hx=>hp [] [[]] x hx))
  rcases idxE_spec p xs 0 with ⟨h1,h2⟩ | ⟨k,hk,h1,h2,h3⟩
  · rw [show ((0:Nat):Int)=0 from rfl] at h1
    rw [h1] at e1
    have hf:(xs.filter fun x=>!p x)=xs:=List.filter_eq_self.2 fun x hx=>by rw [h2 x hx];rfl
    rw [hf]
    refine call_of_wp zt265 rfl ?_
    repeat (first|refine wp_as ?_|refine wp_ss ?_|refine wr (by simp [e1];with_reducible rfl) ?_|refine wq (by simp [e1];with_reducible rfl) ?_|refine wt (by simpa [e1]) ?_|refine wf (by simpa [e1]) ?_|refine xt (by simpa [e1]) ?_|refine xf (by simpa [e1]) ?_|refine wp_bs ?_|refine wp_b ?_|refine wp_sr ?_|refine wp_sx ?_|refine wp_ret' ?_|refine wp_skip' ?_|refine wp_exit' ?_)
    simp [zi265]
  · rw [show ((0:Nat):Int)=0 from rfl,Nat.zero_add] at h1
    rw [h1] at e1
    have hk0:¬ (k:Int)=-1:=by omega
    have w1:IntKind.i64.wrap ((k:Int)+1)=((k+1:Nat):Int):=wrapS (by omega)
    have hlo:=delE_loop xs F caps M p hl (fun bs x hx=>by simpa using hp bs [] x hx) (xs.length - (k+1)) (k+1) k xs [] (by omega) (by omega) rfl (by
      rw [List.take_succ_eq_append_getElem hk,List.filter_append,List.filter_cons,h2]
      simp only [Bool.not_true,Bool.false_eq_true,if_false,List.filter_nil,List.append_nil]
      exact (List.filter_eq_self.2 fun x hx=>by rw [h3 x hx];rfl).symm) rfl
    refine call_of_wp zt265 rfl ?_
    repeat (first|refine wp_as ?_|refine wp_ss ?_|refine wr (by simp [e1,hk0,w1];with_reducible rfl) ?_|refine wq (by simp [e1,hk0,w1];with_reducible rfl) ?_|refine wt (by simpa [e1,hk0,w1]) ?_|refine wf (by simpa [e1,hk0,w1]) ?_|refine xt (by simpa [e1,hk0,w1]) ?_|refine xf (by simpa [e1,hk0,w1]) ?_|refine wp_bs ?_|refine wp_b ?_|refine wp_sr ?_|refine wp_sx ?_|refine wp_ret' ?_|refine wp_skip' ?_|refine wp_exit' ?_)
    refine wp_imp hlo ?_
    rintro ex st ⟨rfl,i,s,bs,⟨k1,k2,k3⟩,rfl⟩
    simp only [if_true]
    have hil:i≤xs.length:=by omega
    have hz:s.drop xs.length=[]:=List.drop_of_length_le (by omega)
    have hti:(s.take i).length=i:=by simp;omega
    have hfl:(xs.filter fun x=>!p x).length=i:=by rw [← k3];exact hti
    generalize (xs.filter fun x=>!p x)=G at *
    have htk:∀ Z:List (List IV),(eds G++Z).take i=eds G:=fun Z=>by
      rw [List.take_append_of_le_length (by rw [eds_len];omega),List.take_of_length_le (by rw [eds_len];omega)]
    repeat (first|refine wp_as ?_|refine wp_ss ?_|refine wr (by simp [k2,hil,↓eds_isSc,hz,k3,hti,hfl,htk];with_reducible rfl) ?_|refine wq (by simp [k2,hil,↓eds_isSc,hz,k3,hti,hfl,htk];with_reducible rfl) ?_|refine wt (by simpa [k2,hil,↓eds_isSc,hz,k3,hti,hfl,htk]) ?_|refine wf (by simpa [k2,hil,↓eds_isSc,hz,k3,hti,hfl,htk]) ?_|refine xt (by simpa [k2,hil,↓eds_isSc,hz,k3,hti,hfl,htk]) ?_|refine xf (by simpa [k2,hil,↓eds_isSc,hz,k3,hti,hfl,htk]) ?_|refine wp_bs ?_|refine wp_b ?_|refine wp_sr ?_|refine wp_sx ?_|refine wp_ret' ?_|refine wp_skip' ?_|refine wp_exit' ?_)
    simp [zi265]
end Go.Idl
namespace Go.Idl
open Go
def apart (a b c d:Int):Bool:=decide (a ≠ b) && decide (a ≠ c) && decide (a ≠ d) && decide (b ≠ c) && decide (b ≠ d) && decide (c ≠ d)
abbrev Sw (a b c d:Int):IV:=.agg [I a,I b,I c,I d]
set_option maxHeartbeats 4000000 in
theorem ev_apart (a b c d:Int) (M:List Boxes):Ev tb zl411 [] [Sw a b c d] M ⟨Bo (apart a b c d),[],M,[]⟩:=by
  by_cases h1:a=b
  · subst h1
    refine call_of_wp zt411 rfl ?_
    repeat (first|apply wp_as|apply wp_ss|refine wr (by simp;with_reducible rfl) ?_|refine wq (by simp;with_reducible rfl) ?_|refine wt (by simpa) ?_|refine wf (by simpa) ?_|refine xt (by simpa) ?_|refine xf (by simpa) ?_|apply wp_bs|apply wp_b|refine wp_sr ?_|refine wp_sx ?_|refine wp_ret' ?_|refine wp_skip' ?_|refine wp_exit' ?_)
    simp [zi411,apart]
  by_cases h2:a=c
  · subst h2
    refine call_of_wp zt411 rfl ?_
    repeat (first|apply wp_as|apply wp_ss|refine wr (by simp [h1];with_reducible rfl) ?_|refine wq (by simp [h1];with_reducible rfl) ?_|refine wt (by simpa [h1]) ?_|refine wf (by simpa [h1]) ?_|refine xt (by simpa [h1]) ?_|refine xf (by simpa [h1]) ?_|apply wp_bs|apply wp_b|refine wp_sr ?_|refine wp_sx ?_|refine wp_ret' ?_|refine wp_skip' ?_|refine wp_exit' ?_)
    simp [zi411,apart,h1]
  by_cases h3:a=d
  · subst h3
    refine call_of_wp zt411 rfl ?_
    repeat (first|apply wp_as|apply wp_ss|refine wr (by simp [h1,h2];with_reducible rfl) ?_|refine wq (by simp [h1,h2];with_reducible rfl) ?_|refine wt (by simpa [h1,h2]) ?_|refine wf (by simpa [h1,h2]) ?_|refine xt (by simpa [h1,h2]) ?_|refine xf (by simpa [h1,h2]) ?_|apply wp_bs|apply wp_b|refine wp_sr ?_|refine wp_sx ?_|refine wp_ret' ?_|refine wp_skip' ?_|refine wp_exit' ?_)
    simp [zi411,apart,h1,h2]
  by_cases h4:b=c
  · subst h4
    refine call_of_wp zt411 rfl ?_
    repeat (first|apply wp_as|apply wp_ss|refine wr (by simp [h1,h2,h3];with_reducible rfl) ?_|refine wq (by simp [h1,h2,h3];with_reducible rfl) ?_|refine wt (by simpa [h1,h2,h3]) ?_|refine wf (by simpa [h1,h2,h3]) ?_|refine xt (by simpa [h1,h2,h3]) ?_|refine xf (by simpa [h1,h2,h3]) ?_|apply wp_bs|apply wp_b|refine wp_sr ?_|refine wp_sx ?_|refine wp_ret' ?_|refine wp_skip' ?_|refine wp_exit' ?_)
    simp [zi411,apart,h1,h2,h3]
  by_cases h5:b=d
  · subst h5
    refine call_of_wp zt411 rfl ?_
    repeat (first|apply wp_as|apply wp_ss|refine wr (by simp [h1,h2,h3,h4];with_reducible rfl) ?_|refine wq (by simp [h1,h2,h3,h4];with_reducible rfl) ?_|refine wt (by simpa [h1,h2,h3,h4]) ?_|refine wf (by simpa [h1,h2,h3,h4]) ?_|refine xt (by simpa [h1,h2,h3,h4]) ?_|refine xf (by simpa [h1,h2,h3,h4]) ?_|apply wp_bs|apply wp_b|refine wp_sr ?_|refine wp_sx ?_|refine wp_ret' ?_|refine wp_skip' ?_|refine wp_exit' ?_)
    simp [zi411,apart,h1,h2,h3,h4]
  by_cases h6:c=d
  · subst h6
    refine call_of_wp zt411 rfl ?_
    repeat (first|apply wp_as|apply wp_ss|refine wr (by simp [h1,h2,h3,h4,h5];with_reducible rfl) ?_|refine wq (by simp [h1,h2,h3,h4,h5];with_reducible rfl) ?_|refine wt (by simpa [h1,h2,h3,h4,h5]) ?_|refine wf (by simpa [h1,h2,h3,h4,h5]) ?_|refine xt (by simpa [h1,h2,h3,h4,h5]) ?_|refine xf (by simpa [h1,h2,h3,h4,h5]) ?_|apply wp_bs|apply wp_b|refine wp_sr ?_|refine wp_sx ?_|refine wp_ret' ?_|refine wp_skip' ?_|refine wp_exit' ?_)
    simp [zi411,apart,h1,h2,h3,h4,h5]
  refine call_of_wp zt411 rfl ?_
  repeat (first|apply wp_as|apply wp_ss|refine wr (by simp [h1,h2,h3,h4,h5,h6];with_reducible rfl) ?_|refine wq (by simp [h1,h2,h3,h4,h5,h6];with_reducible rfl) ?_|refine wt (by simpa [h1,h2,h3,h4,h5,h6]) ?_|refine wf (by simpa [h1,h2,h3,h4,h5,h6]) ?_|refine xt (by simpa [h1,h2,h3,h4,h5,h6]) ?_|refine xf (by simpa [h1,h2,h3,h4,h5,h6]) ?_|apply wp_bs|apply wp_b|refine wp_sr ?_|refine wp_sx ?_|refine wp_ret' ?_|refine wp_skip' ?_|refine wp_exit' ?_)
  simp [zi411,apart,h1,h2,h3,h4,h5,h6]
def gone (a b c d:Int) (x:Int×Int):Bool:=decide (x=(min a b,max a b)) || decide (x=(min c d,max c d))
set_option maxHeartbeats 4000000 in
theorem ev_change_F1 (x:Int×Int) (a b c d:Int) (B:Boxes) (k:Nat) (hB:B[k]? = some [I a,I b,I c,I d]) (Ms:List Boxes):Ev tb zl410 [] [.agg [I x.1,I x.2],.bptr 0 k 0] (B::Ms) ⟨Bo (gone a b c d x),[],B::Ms,[]⟩:=by
  have e1:=fun M=>ev_lim (ev_edge a b M)
  have e2:=fun M=>ev_lim (ev_edge c d M)
  obtain ⟨x1,x2⟩:=x
  have hg:gone a b c d (x1,x2)=(decide (x1=min a b) && decide (x2=max a b) || decide (x1=min c d) && decide (x2=max c d)):=by
    simp [gone]
  rw [hg]
  generalize min a b=p at *
  generalize max a b=q at *
  generalize min c d=r at *
  generalize max c d=s at *
  by_cases h1:x1=p
  · subst h1
    by_cases h2:x2=q
    · subst h2
      refine call_of_wp zt410 rfl ?_
      repeat (first|apply wp_as|apply wp_ss|refine wr (by simp [e1,e2,hB];with_reducible rfl) ?_|refine wq (by simp [e1,e2,hB];with_reducible rfl) ?_|refine wt (by simpa [e1,e2,hB]) ?_|refine wf (by simpa [e1,e2,hB]) ?_|refine xt (by simpa [e1,e2,hB]) ?_|refine xf (by simpa [e1,e2,hB]) ?_|apply wp_bs|apply wp_b|refine wp_sr ?_|refine wp_sx ?_|refine wp_ret' ?_|refine wp_skip' ?_|refine wp_exit' ?_)
      refine wp_ra (by simp [e1,e2,hB];with_reducible rfl) (by simp;with_reducible rfl) ?_ ?_
      · intro p hp
        simp only [List.mem_cons,List.not_mem_nil,or_false] at hp
        rcases hp with rfl | rfl | rfl
        · exact ⟨_,by simp [e1,e2,hB];with_reducible rfl,by simp⟩
        · exact ⟨_,by simp [e1,e2,hB];with_reducible rfl,by simp⟩
        · exact ⟨_,by simp [e1,e2,hB];with_reducible rfl,by simp⟩
      repeat (first|apply wp_as|apply wp_ss|refine wr (by simp;with_reducible rfl) ?_|refine wq (by simp;with_reducible rfl) ?_|refine wt (by simpa) ?_|refine wf (by simpa) ?_|refine xt (by simpa) ?_|refine xf (by simpa) ?_|apply wp_bs|apply wp_b|refine wp_sr ?_|refine wp_sx ?_|refine wp_ret' ?_|refine wp_skip' ?_|refine wp_exit' ?_)
      simp [zi410]
    · by_cases h3:x1=r
      · subst h3
        by_cases h4:x2=s
        · subst h4
          refine call_of_wp zt410 rfl ?_
          repeat (first|apply wp_as|apply wp_ss|refine wr (by simp [e1,e2,hB,h2];with_reducible rfl) ?_|refine wq (by simp [e1,e2,hB,h2];with_reducible rfl) ?_|refine wt (by simpa [e1,e2,hB,h2]) ?_|refine wf (by simpa [e1,e2,hB,h2]) ?_|refine xt (by simpa [e1,e2,hB,h2]) ?_|refine xf (by simpa [e1,e2,hB,h2]) ?_|apply wp_bs|apply wp_b|refine wp_sr ?_|refine wp_sx ?_|refine wp_ret' ?_|refine wp_skip' ?_|refine wp_exit' ?_)
          refine wp_ra (by simp [e1,e2,hB,h2];with_reducible rfl) (by simp;with_reducible rfl) ?_ ?_
          · intro p hp
            simp only [List.mem_cons,List.not_mem_nil,or_false] at hp
            rcases hp with rfl | rfl | rfl
            · exact ⟨_,by simp [e1,e2,hB,h2];with_reducible rfl,by simp⟩
            · exact ⟨_,by simp [e1,e2,hB,h2];with_reducible rfl,by simp⟩
            · exact ⟨_,by simp [e1,e2,hB,h2];with_reducible rfl,by simp⟩
          repeat (first|apply wp_as|apply wp_ss|refine wr (by simp;with_reducible rfl) ?_|refine wq (by simp;with_reducible rfl) ?_|refine wt (by simpa) ?_|refine wf (by simpa) ?_|refine xt (by simpa) ?_|refine xf (by simpa) ?_|apply wp_bs|apply wp_b|refine wp_sr ?_|refine wp_sx ?_|refine wp_ret' ?_|refine wp_skip' ?_|refine wp_exit' ?_)
          simp [zi410,h2]
        · refine call_of_wp zt410 rfl ?_
          repeat (first|apply wp_as|apply wp_ss|refine wr (by simp [e1,e2,hB,h2,h4];with_reducible rfl) ?_|refine wq (by simp [e1,e2,hB,h2,h4];with_reducible rfl) ?_|refine wt (by simpa [e1,e2,hB,h2,h4]) ?_|refine wf (by simpa [e1,e2,hB,h2,h4]) ?_|refine xt (by simpa [e1,e2,hB,h2,h4]) ?_|refine xf (by simpa [e1,e2,hB,h2,h4]) ?_|apply wp_bs|apply wp_b|refine wp_sr ?_|refine wp_sx ?_|refine wp_ret' ?_|refine wp_skip' ?_|refine wp_exit' ?_)
          refine wp_ra (by simp [e1,e2,hB,h2,h4];with_reducible rfl) (by simp;with_reducible rfl) ?_ ?_
          · intro p hp
            simp only [List.mem_cons,List.not_mem_nil,or_false] at hp
            rcases hp with rfl | rfl | rfl
            · exact ⟨_,by simp [e1,e2,hB,h2,h4];with_reducible rfl,by simp⟩
            · exact ⟨_,by simp [e1,e2,hB,h2,h4];with_reducible rfl,by simp⟩
            · exact ⟨_,by simp [e1,e2,hB,h2,h4];with_reducible rfl,by simp⟩
          repeat (first|apply wp_as|apply wp_ss|refine wr (by simp;with_reducible rfl) ?_|refine wq (by simp;with_reducible rfl) ?_|refine wt (by simpa) ?_|refine wf (by simpa) ?_|refine xt (by simpa) ?_|refine xf (by simpa) ?_|apply wp_bs|apply wp_b|refine wp_sr ?_|refine wp_sx ?_|refine wp_ret' ?_|refine wp_skip' ?_|refine wp_exit' ?_)
          simp [zi410,h2,h4]
      · refine call_of_wp zt410 rfl ?_
        repeat (first|apply wp_as|apply wp_ss|refine wr (by simp [e1,e2,hB,h2,h3];with_reducible rfl) ?_|refine wq (by simp [e1,e2,hB,h2,h3];with_reducible rfl) ?_|refine wt (by simpa [e1,e2,hB,h2,h3]) ?_|refine wf (by simpa [e1,e2,hB,h2,h3]) ?_|refine xt (by simpa [e1,e2,hB,h2,h3]) ?_|refine xf (by simpa [e1,e2,hB,h2,h3]) ?_|apply wp_bs|apply wp_b|refine wp_sr ?_|refine wp_sx ?_|refine wp_ret' ?_|refine wp_skip' ?_|refine wp_exit' ?_)
        refine wp_ra (by simp [e1,e2,hB,h2,h3];with_reducible rfl) (by simp;with_reducible rfl) ?_ ?_
        · intro p hp
          simp only [List.mem_cons,List.not_mem_nil,or_false] at hp
          rcases hp with rfl | rfl | rfl
          · exact ⟨_,by simp [e1,e2,hB,h2,h3];with_reducible rfl,by simp⟩
          · exact ⟨_,by simp [e1,e2,hB,h2,h3];with_reducible rfl,by simp⟩
          · exact ⟨_,by simp [e1,e2,hB,h2,h3];with_reducible rfl,by simp⟩
        repeat (first|apply wp_as|apply wp_ss|refine wr (by simp;with_reducible rfl) ?_|refine wq (by simp;with_reducible rfl) ?_|refine wt (by simpa) ?_|refine wf (by simpa) ?_|refine xt (by simpa) ?_|refine xf (by simpa) ?_|apply wp_bs|apply wp_b|refine wp_sr ?_|refine wp_sx ?_|refine wp_ret' ?_|refine wp_skip' ?_|refine wp_exit' ?_)
        simp [zi410,h2,h3]
  · by_cases h3:x1=r
    · subst h3
      by_cases h4:x2=s
      · subst h4
        refine call_of_wp zt410 rfl ?_
        repeat (first|apply wp_as|apply wp_ss|refine wr (by simp [e1,e2,hB,h1];with_reducible rfl) ?_|refine wq (by simp [e1,e2,hB,h1];with_reducible rfl) ?_|refine wt (by simpa [e1,e2,hB,h1]) ?_|refine wf (by simpa [e1,e2,hB,h1]) ?_|refine xt (by simpa [e1,e2,hB,h1]) ?_|refine xf (by simpa [e1,e2,hB,h1]) ?_|apply wp_bs|apply wp_b|refine wp_sr ?_|refine wp_sx ?_|refine wp_ret' ?_|refine wp_skip' ?_|refine wp_exit' ?_)
        refine wp_ra (by simp [e1,e2,hB,h1];with_reducible rfl) (by simp;with_reducible rfl) ?_ ?_
        · intro p hp
          simp only [List.mem_cons,List.not_mem_nil,or_false] at hp
          rcases hp with rfl | rfl | rfl
          · exact ⟨_,by simp [e1,e2,hB,h1];with_reducible rfl,by simp⟩
          · exact ⟨_,by simp [e1,e2,hB,h1];with_reducible rfl,by simp⟩
          · exact ⟨_,by simp [e1,e2,hB,h1];with_reducible rfl,by simp⟩
        repeat (first|apply wp_as|apply wp_ss|refine wr (by simp;with_reducible rfl) ?_|refine wq (by simp;with_reducible rfl) ?_|refine wt (by simpa) ?_|refine wf (by simpa) ?_|refine xt (by simpa) ?_|refine xf (by simpa) ?_|apply wp_bs|apply wp_b|refine wp_sr ?_|refine wp_sx ?_|refine wp_ret' ?_|refine wp_skip' ?_|refine wp_exit' ?_)
        simp [zi410,h1]
      · refine call_of_wp zt410 rfl ?_
        repeat (first|apply wp_as|apply wp_ss|refine wr (by simp [e1,e2,hB,h1,h4];with_reducible rfl) ?_|refine wq (by simp [e1,e2,hB,h1,h4];with_reducible rfl) ?_|refine wt (by simpa [e1,e2,hB,h1,h4]) ?_|refine wf (by simpa [e1,e2,hB,h1,h4]) ?_|refine xt (by simpa [e1,e2,hB,h1,h4]) ?_|refine xf (by simpa [e1,e2,hB,h1,h4]) ?_|apply wp_bs|apply wp_b|refine wp_sr ?_|refine wp_sx ?_|refine wp_ret' ?_|refine wp_skip' ?_|refine wp_exit' ?_)
        refine wp_ra (by simp [e1,e2,hB,h1,h4];with_reducible rfl) (by simp;with_reducible rfl) ?_ ?_
        · intro p hp
          simp only [List.mem_cons,List.not_mem_nil,or_false] at hp
          rcases hp with rfl | rfl | rfl
          · exact ⟨_,by simp [e1,e2,hB,h1,h4];with_reducible rfl,by simp⟩
          · exact ⟨_,by simp [e1,e2,hB,h1,h4];with_reducible rfl,by simp⟩
          · exact ⟨_,by simp [e1,e2,hB,h1,h4];with_reducible rfl,by simp⟩
        repeat (first|apply wp_as|apply wp_ss|refine wr (by simp;with_reducible rfl) ?_|refine wq (by simp;with_reducible rfl) ?_|refine wt (by simpa) ?_|refine wf (by simpa) ?_|refine xt (by simpa) ?_|refine xf (by simpa) ?_|apply wp_bs|apply wp_b|refine wp_sr ?_|refine wp_sx ?_|refine wp_ret' ?_|refine wp_skip' ?_|refine wp_exit' ?_)
        simp [zi410,h1,h4]
    · refine call_of_wp zt410 rfl ?_
      repeat (first|apply wp_as|apply wp_ss|refine wr (by simp [e1,e2,hB,h1,h3];with_reducible rfl) ?_|refine wq (by simp [e1,e2,hB,h1,h3];with_reducible rfl) ?_|refine wt (by simpa [e1,e2,hB,h1,h3]) ?_|refine wf (by simpa [e1,e2,hB,h1,h3]) ?_|refine xt (by simpa [e1,e2,hB,h1,h3]) ?_|refine xf (by simpa [e1,e2,hB,h1,h3]) ?_|apply wp_bs|apply wp_b|refine wp_sr ?_|refine wp_sx ?_|refine wp_ret' ?_|refine wp_skip' ?_|refine wp_exit' ?_)
      refine wp_ra (by simp [e1,e2,hB,h1,h3];with_reducible rfl) (by simp;with_reducible rfl) ?_ ?_
      · intro p hp
        simp only [List.mem_cons,List.not_mem_nil,or_false] at hp
        rcases hp with rfl | rfl | rfl
        · exact ⟨_,by simp [e1,e2,hB,h1,h3];with_reducible rfl,by simp⟩
        · exact ⟨_,by simp [e1,e2,hB,h1,h3];with_reducible rfl,by simp⟩
        · exact ⟨_,by simp [e1,e2,hB,h1,h3];with_reducible rfl,by simp⟩
      repeat (first|apply wp_as|apply wp_ss|refine wr (by simp;with_reducible rfl) ?_|refine wq (by simp;with_reducible rfl) ?_|refine wt (by simpa) ?_|refine wf (by simpa) ?_|refine xt (by simpa) ?_|refine xf (by simpa) ?_|apply wp_bs|apply wp_b|refine wp_sr ?_|refine wp_sx ?_|refine wp_ret' ?_|refine wp_skip' ?_|refine wp_exit' ?_)
      simp [zi410,h1,h3]
end Go.Idl
namespace Go.Idl
open Go
def swX (es:List (Int×Int)) (a b c d:Int):List (Int×Int):=es.filter (fun x=>!gone a b c d x)++[(min a c,max a c),(min b d,max b d)]
def sw (es:List (Int×Int)) (a b c d:Int):List (Int×Int):=srtE (swX es a b c d)
def mayI (es:List (Int×Int)) (a b c d:Int):Bool:=apart a b c d && hasM es a b && hasM es c d && !hasM es a c && !hasM es b d
theorem hasM_iff {es:List (Int×Int)} {a b:Int}:hasM es a b=true ↔ (min a b,max a b) ∈ es:=by
  simp [hasM]
theorem hasM_no {es:List (Int×Int)} {a b:Int}:hasM es a b=false ↔ (min a b,max a b) ∉ es:=by
  rw [← hasM_iff];simp
theorem mayI_iff {es:List (Int×Int)} {a b c d:Int}:mayI es a b c d=true ↔ (a ≠ b∧a ≠ c∧a ≠ d∧b ≠ c∧b ≠ d∧c ≠ d)∧(min a b,max a b) ∈ es∧(min c d,max c d) ∈ es∧(min a c,max a c) ∉ es∧(min b d,max b d) ∉ es:=by
  rw [mayI]
  simp only [Bool.and_eq_true,Bool.not_eq_true',apart,decide_eq_true_eq,hasM_iff,hasM_no,and_assoc]
theorem vG21 {n:Nat} (hn:n≤7) {es:List (Int×Int)} (h:vGraph n es=true):es.length≤21:=by
  have h1:=(vG_sub h).length_le
  have h2:∀ n,n≤7→(prs n).length≤21:=by decide +kernel
  have:=h2 _ hn
  omega
theorem swX_ok {n:Nat} {es:List (Int×Int)} {a b c d:Int} (h:vGraph n es=true) (hm:mayI es a b c d=true) :
    (swX es a b c d).Nodup∧(∀ e ∈ swX es a b c d,e ∈ prs n)∧vGraph n (sw es a b c d)=true∧(swX es a b c d).length≤21:=by
  obtain ⟨h1,h2,h3⟩:=vG_iff.1 h
  obtain ⟨⟨k1,k2,k3,k4,k5,k6⟩,m1,m2,m3,m4⟩:=mayI_iff.1 hm
  have p1:=mem_prs.1 (h2 _ m1)
  have p2:=mem_prs.1 (h2 _ m2)
  have hn:(swX es a b c d).Nodup:=by
    refine List.nodup_append.2 ⟨(pw_nodup h1).filter _,?_,?_⟩
    · simp only [List.nodup_cons,List.mem_singleton,List.not_mem_nil,not_false_eq_true,List.nodup_nil,and_true,Prod.mk.injEq]
      omega
    · intro x hx y hy hxy
      subst hxy
      have hx:=(List.mem_filter.1 hx).1
      simp only [List.mem_cons,List.not_mem_nil,or_false] at hy
      rcases hy with rfl | rfl
      · exact m3 hx
      · exact m4 hx
  have hp:∀ e ∈ swX es a b c d,e ∈ prs n:=fun e he=>by
    rcases List.mem_append.1 he with he | he
    · exact h2 _ (List.mem_filter.1 he).1
    · simp only [List.mem_cons,List.not_mem_nil,or_false] at he
      simp only at p1 p2
      rcases he with rfl | rfl
      · exact mem_prs.2 (by simp only;omega)
      · exact mem_prs.2 (by simp only;omega)
  have hv:vGraph n (sw es a b c d)=true:=vG_iff.2 ⟨srtE_pw hn,fun e he=>hp e ((srtE_perm _).mem_iff.1 he),h3⟩
  refine ⟨hn,hp,hv,?_⟩
  have:=vG21 h3 hv
  rw [sw,(srtE_perm _).length_eq] at this
  exact this
abbrev OS (n:Nat) (es:List (Int×Int)) (a b c d:Int):IV:=if mayI es a b c d then .tup [OG n (sw es a b c d),Bo true] else .tup [.agg [I 0,Z],Bo false]
set_option maxHeartbeats 4000000 in
theorem ev_change (n:Nat) (es:List (Int×Int)) (cc:Bool) (a b c d:Int) (hv:vGraph n es=true):Ev tb zl167 [] [Gr n es cc,Sw a b c d] [] ⟨OS n es a b c d,[],[],[]⟩:=by
  have hn7:=(vG_iff.1 hv).2.2
  have h21:=vG21 hn7 hv
  have ea:=fun M=>ev_lim (ev_apart a b c d M)
  have eh:=fun c' a b M=>ev_lim (ev_has n 2 es c' a b (.inl rfl) (by omega) M)
  cases h1:apart a b c d with
  | false =>
    have hm:mayI es a b c d=false:=by simp [mayI,h1]
    rw [OS,hm]
    refine call_of_wp zt167 rfl ?_
    repeat (first|apply wp_as|apply wp_ss|refine wr (by simp [ea,eh,h1];with_reducible rfl) ?_|refine wq (by simp [ea,eh,h1];with_reducible rfl) ?_|refine wt (by simpa [ea,eh,h1]) ?_|refine wf (by simpa [ea,eh,h1]) ?_|refine xt (by simpa [ea,eh,h1]) ?_|refine xf (by simpa [ea,eh,h1]) ?_|apply wp_bs|apply wp_b|refine wp_sr ?_|refine wp_sx ?_|refine wp_ret' ?_|refine wp_skip' ?_|refine wp_exit' ?_)
    simp [zi167]
  | true =>
  cases h2:hasM es a b with
  | false =>
    have hm:mayI es a b c d=false:=by simp [mayI,h2]
    rw [OS,hm]
    refine call_of_wp zt167 rfl ?_
    repeat (first|apply wp_as|apply wp_ss|refine wr (by simp [ea,eh,h1,h2];with_reducible rfl) ?_|refine wq (by simp [ea,eh,h1,h2];with_reducible rfl) ?_|refine wt (by simpa [ea,eh,h1,h2]) ?_|refine wf (by simpa [ea,eh,h1,h2]) ?_|refine xt (by simpa [ea,eh,h1,h2]) ?_|refine xf (by simpa [ea,eh,h1,h2]) ?_|apply wp_bs|apply wp_b|refine wp_sr ?_|refine wp_sx ?_|refine wp_ret' ?_|refine wp_skip' ?_|refine wp_exit' ?_)
    simp [zi167]
  | true =>
  cases h3:hasM es c d with
  | false =>
    have hm:mayI es a b c d=false:=by simp [mayI,h3]
    rw [OS,hm]
    refine call_of_wp zt167 rfl ?_
    repeat (first|apply wp_as|apply wp_ss|refine wr (by simp [ea,eh,h1,h2,h3];with_reducible rfl) ?_|refine wq (by simp [ea,eh,h1,h2,h3];with_reducible rfl) ?_|refine wt (by simpa [ea,eh,h1,h2,h3]) ?_|refine wf (by simpa [ea,eh,h1,h2,h3]) ?_|refine xt (by simpa [ea,eh,h1,h2,h3]) ?_|refine xf (by simpa [ea,eh,h1,h2,h3]) ?_|apply wp_bs|apply wp_b|refine wp_sr ?_|refine wp_sx ?_|refine wp_ret' ?_|refine wp_skip' ?_|refine wp_exit' ?_)
    simp [zi167]
  | true =>
  cases h4:hasM es a c with
  | true =>
    have hm:mayI es a b c d=false:=by simp [mayI,h4]
    rw [OS,hm]
    refine call_of_wp zt167 rfl ?_
    repeat (first|apply wp_as|apply wp_ss|refine wr (by simp [ea,eh,h1,h2,h3,h4];with_reducible rfl) ?_|refine wq (by simp [ea,eh,h1,h2,h3,h4];with_reducible rfl) ?_|refine wt (by simpa [ea,eh,h1,h2,h3,h4]) ?_|refine wf (by simpa [ea,eh,h1,h2,h3,h4]) ?_|refine xt (by simpa [ea,eh,h1,h2,h3,h4]) ?_|refine xf (by simpa [ea,eh,h1,h2,h3,h4]) ?_|apply wp_bs|apply wp_b|refine wp_sr ?_|refine wp_sx ?_|refine wp_ret' ?_|refine wp_skip' ?_|refine wp_exit' ?_)
    simp [zi167]
  | false =>
  cases h5:hasM es b d with
  | true =>
    have hm:mayI es a b c d=false:=by simp [mayI,h5]
    rw [OS,hm]
    refine call_of_wp zt167 rfl ?_
    repeat (first|apply wp_as|apply wp_ss|refine wr (by simp [ea,eh,h1,h2,h3,h4,h5];with_reducible rfl) ?_|refine wq (by simp [ea,eh,h1,h2,h3,h4,h5];with_reducible rfl) ?_|refine wt (by simpa [ea,eh,h1,h2,h3,h4,h5]) ?_|refine wf (by simpa [ea,eh,h1,h2,h3,h4,h5]) ?_|refine xt (by simpa [ea,eh,h1,h2,h3,h4,h5]) ?_|refine xf (by simpa [ea,eh,h1,h2,h3,h4,h5]) ?_|apply wp_bs|apply wp_b|refine wp_sr ?_|refine wp_sx ?_|refine wp_ret' ?_|refine wp_skip' ?_|refine wp_exit' ?_)
    simp [zi167]
  | false =>
  have hm:mayI es a b c d=true:=by simp [mayI,h1,h2,h3,h4,h5]
  obtain ⟨q1,q2,q3,q4⟩:=swX_ok hv hm
  rw [OS,hm]
  have ec:=fun c'=>ev_lim (ev_Clone2 2 es c' (.inl rfl) (by omega))
  have ed:=ev_lim (ev_DeleteFuncE es zl410 [.bptr 0 1 0] [[[I n,L2 es cc],[I a,I b,I c,I d],[I 0,Z]]] (gone a b c d) (by omega) (fun bs M' x _=>ev_change_F1 x a b c d _ 1 rfl _))
  have ee:=fun a b M=>ev_lim (ev_edge a b M)
  have em:=fun c'=>ev_lim (ev_made n 2 (swX es a b c d) c' (.inl rfl) (fun x hx=>by have:=mem_prs.1 (q2 x hx);simp only [DE];omega) q1 q4)
  have hf:Fit (sw es a b c d):=fun e he=>by have:=mem_prs.1 ((vG_iff.1 q3).2.1 e he);omega
  have hl:(sw es a b c d).length≤21:=vG21 hn7 q3
  have ev:=fun c'=>ev_lim (ev_ValidGraph n (sw es a b c d) c' hf (by omega))
  rw [q3] at ev
  rw [show srtE (swX es a b c d)=sw es a b c d from rfl] at em
  simp only [swX] at em
  have hG:(es.filter (fun x=>!gone a b c d x)).length≤274877906942:=by have:=List.length_filter_le (fun x=>!gone a b c d x) es;omega
  generalize sw es a b c d=R at *
  generalize es.filter (fun x=>!gone a b c d x)=G at *
  have hT:frzLL (List.take (G.length+2) (eds G++[[I (min a c),I (max a c)],[I (min b d),I (max b d)]]))=eds (G++[(min a c,max a c),(min b d,max b d)]):=by
    rw [List.take_of_length_le (by simp),← frz_eds (G++[(min a c,max a c),(min b d,max b d)]),← eds_app]
    rfl
  refine call_of_wp zt167 rfl ?_
  repeat (first|apply wp_as|apply wp_ss|refine wr (by simp [ea,eh,h1,h2,h3,h4,h5,ec,ed];with_reducible rfl) ?_|refine wq (by simp [ea,eh,h1,h2,h3,h4,h5,ec,ed];with_reducible rfl) ?_|refine wt (by simpa [ea,eh,h1,h2,h3,h4,h5,ec,ed]) ?_|refine wf (by simpa [ea,eh,h1,h2,h3,h4,h5,ec,ed]) ?_|refine xt (by simpa [ea,eh,h1,h2,h3,h4,h5,ec,ed]) ?_|refine xf (by simpa [ea,eh,h1,h2,h3,h4,h5,ec,ed]) ?_|apply wp_bs|apply wp_b|refine wp_sr ?_|refine wp_sx ?_|refine wp_ret' ?_|refine wp_skip' ?_|refine wp_exit' ?_)
  refine wp_rds rfl (by simp [ee,em,hG,hT];with_reducible rfl) (by simp;with_reducible rfl) ?_ ?_
  · intro p hp
    simp only [List.mem_cons,List.not_mem_nil,or_false] at hp
    rcases hp with rfl | rfl | rfl | rfl | rfl | rfl | rfl | rfl | rfl | rfl | rfl
    · exact ⟨_,by simp [ee,em,hG,hT];with_reducible rfl,by simp⟩
    · exact ⟨_,by simp [ee,em,hG,hT];with_reducible rfl,by simp⟩
    · exact ⟨_,by simp [ee,em,hG,hT];with_reducible rfl,by simp⟩
    · exact ⟨_,by simp [ee,em,hG,hT];with_reducible rfl,by simp⟩
    · exact ⟨_,by simp [ee,em,hG,hT];with_reducible rfl,by simp⟩
    · exact ⟨_,by simp [ee,em,hG,hT];with_reducible rfl,by simp⟩
    · exact ⟨_,by simp [ee,em,hG,hT];with_reducible rfl,by simp⟩
    · exact ⟨_,by simp [ee,em,hG,hT];with_reducible rfl,by simp⟩
    · exact ⟨_,by simp [ee,em,hG,hT];with_reducible rfl,by simp⟩
    · exact ⟨_,by simp [ee,em,hG,hT];with_reducible rfl,by simp⟩
    · exact ⟨_,by simp [ee,em,hG,hT];with_reducible rfl,by simp⟩
  repeat (first|apply wp_as|apply wp_ss|refine wr (by simp [ev];with_reducible rfl) ?_|refine wq (by simp [ev];with_reducible rfl) ?_|refine wt (by simpa [ev]) ?_|refine wf (by simpa [ev]) ?_|refine xt (by simpa [ev]) ?_|refine xf (by simpa [ev]) ?_|apply wp_bs|apply wp_b|refine wp_sr ?_|refine wp_sx ?_|refine wp_ret' ?_|refine wp_skip' ?_|refine wp_exit' ?_)
  refine wp_ra (by simp [ev];with_reducible rfl) (by simp;with_reducible rfl) ?_ ?_
  · intro p hp
    simp only [List.mem_cons,List.not_mem_nil,or_false] at hp
    subst hp
    exact ⟨_,by simp [ev];with_reducible rfl,by simp⟩
  repeat (first|apply wp_as|apply wp_ss|refine wr (by simp;with_reducible rfl) ?_|refine wq (by simp;with_reducible rfl) ?_|refine wt (by simpa) ?_|refine wf (by simpa) ?_|refine xt (by simpa) ?_|refine xf (by simpa) ?_|apply wp_bs|apply wp_b|refine wp_sr ?_|refine wp_sx ?_|refine wp_ret' ?_|refine wp_skip' ?_|refine wp_exit' ?_)
  simp [zi167]
end Go.Idl
namespace Go.Idl
open Go
def insE (e:Int×Int):List (Int×Int)→List (Int×Int)
  | []=>[e]
  | x::r=>if below x e then x::insE e r else e::x::r
theorem insE_at (e:Int×Int) (es:List (Int×Int)) (k:Nat) (hk:k≤es.length) (h:∀ x ∈ es.take k,below x e=true) (hs:∀ h:k < es.length,below es[k] e=false) :
    insE e es=es.take k++[e]++es.drop k:=by
  induction es generalizing k with
  | nil=>simp at hk;subst hk;rfl
  | cons x r ih =>
    cases k with
    | zero =>
      have:=hs (by simp)
      simp only [List.getElem_cons_zero] at this
      simp [insE,this]
    | succ k =>
      have h1:=h x (by simp)
      rw [insE,if_pos h1,ih k (by simpa using hk) (fun y hy=>h y (by simp [hy])) (fun hh=>hs (by simpa using hh))]
      simp
theorem insE_len (e:Int×Int) (es:List (Int×Int)):(insE e es).length=es.length+1:=by
  induction es with
  | nil=>rfl
  | cons x r ih=>rw [insE];split <;> simp [ih]
theorem insE_mem (e x:Int×Int) (es:List (Int×Int)):x ∈ insE e es ↔ x=e ∨ x ∈ es:=by
  induction es with
  | nil=>simp [insE]
  | cons y r ih =>
    rw [insE];split
    · rw [List.mem_cons,ih,List.mem_cons]
      constructor
      · rintro (h | h | h) <;> simp [h]
      · rintro (h | h | h) <;> simp [h]
    · simp
theorem ev_addEdge (n:Int) (es:List (Int×Int)) (c:Bool) (a b:Int) (hl:es.length≤1000000) :
    Ev tb zl335 [] [Gr n es c,I a,I b] [] ⟨OG n (insE (min a b,max a b) es),[],[],[]⟩:=by
  obtain ⟨e,he⟩:∃ e:Int×Int,e=(min a b,max a b):=⟨_,rfl⟩
  have he1:(if b < a then b else a)=e.1:=by rw [he];simp only;split <;> omega
  have he2:(if a < b then b else a)=e.2:=by rw [he];simp only;split <;> omega
  rw [← he]
  have loop:∀ (m k:Nat),k+m=es.length→(∀ x ∈ es.take k,below x e=true)→wp tb (.loop z335l5) { T:=[(3,.bptr 0 0 0),(6,.bptr 0 1 0),(7,.bptr 0 2 0),(8,I k)],loc:=[[I n,L2 es c],[I 0,Z],[I e.1,I e.2]],M:=[] }
      (fun ex st=>ex=.exit 0∧∃ k:Nat,(k≤es.length∧(∀ x ∈ es.take k,below x e=true)∧(∀ h:k < es.length,below es[k] e=false)) ∧
        st={ T:=[(3,.bptr 0 0 0),(6,.bptr 0 1 0),(7,.bptr 0 2 0),(8,I k),(30,Bo false)],loc:=[[I n,L2 es c],[I 0,Z],[I e.1,I e.2]],M:=[] }):=by
    intro m
    induction m with
    | zero =>
      intro k hk hb
      have h3:k=es.length:=hk
      subst h3
      refine wp_loop ?_
      repeat (first|refine wp_as ?_|refine wp_ss ?_|refine wr (by simp;with_reducible rfl) ?_|refine wq (by simp;with_reducible rfl) ?_|refine wt (by simpa) ?_|refine wf (by simpa) ?_|refine xt (by simpa) ?_|refine xf (by simpa) ?_|refine wp_bs ?_|refine wp_b ?_|refine wp_sr ?_|refine wp_sx ?_|refine wp_ret' ?_|refine wp_skip' ?_|refine wp_exit' ?_)
      exact ⟨rfl,es.length,⟨Nat.le_refl _,hb,fun h=>absurd h (by omega)⟩,rfl⟩
    | succ m ih =>
      intro k hk hb
      have hi2:k < es.length:=by omega
      have w2:IntKind.i64.wrap ((k:Int)+1)=((k+1:Nat):Int):=wrapS (by omega)
      have e1:=ev_lim (ev_edgeBelow es[k] e)
      cases hq:below es[k] e with
      | true =>
        refine wp_loop ?_
        repeat (first|refine wp_as ?_|refine wp_ss ?_|refine wr (by simp [hi2,e1,hq,w2];with_reducible rfl) ?_|refine wq (by simp [hi2,e1,hq,w2];with_reducible rfl) ?_|refine wt (by simpa [hi2,e1,hq,w2]) ?_|refine wf (by simpa [hi2,e1,hq,w2]) ?_|refine xt (by simpa [hi2,e1,hq,w2]) ?_|refine xf (by simpa [hi2,e1,hq,w2]) ?_|refine wp_bs ?_|refine wp_b ?_|refine wp_sr ?_|refine wp_sx ?_|refine wp_ret' ?_|refine wp_skip' ?_|refine wp_exit' ?_)
        refine ih (k+1) (by omega) fun x hx=>?_
        rw [List.take_succ_eq_append_getElem hi2] at hx
        rcases List.mem_append.1 hx with hx | hx
        · exact hb x hx
        · simp at hx;subst hx;exact hq
      | false =>
        refine wp_loop ?_
        repeat (first|refine wp_as ?_|refine wp_ss ?_|refine wr (by simp [hi2,e1,hq];with_reducible rfl) ?_|refine wq (by simp [hi2,e1,hq];with_reducible rfl) ?_|refine wt (by simpa [hi2,e1,hq]) ?_|refine wf (by simpa [hi2,e1,hq]) ?_|refine xt (by simpa [hi2,e1,hq]) ?_|refine xf (by simpa [hi2,e1,hq]) ?_|refine wp_bs ?_|refine wp_b ?_|refine wp_sr ?_|refine wp_sx ?_|refine wp_ret' ?_|refine wp_skip' ?_|refine wp_exit' ?_)
        exact ⟨rfl,k,⟨by omega,hb,fun _=>hq⟩,rfl⟩
  refine call_of_wp zt335 rfl ?_
  repeat (first|refine wp_as ?_|refine wp_ss ?_|refine wr (by simp [he1,he2];with_reducible rfl) ?_|refine wq (by simp [he1,he2];with_reducible rfl) ?_|refine wt (by simpa [he1,he2]) ?_|refine wf (by simpa [he1,he2]) ?_|refine xt (by simpa [he1,he2]) ?_|refine xf (by simpa [he1,he2]) ?_|refine wp_bs ?_|refine wp_b ?_|refine wp_sr ?_|refine wp_sx ?_|refine wp_ret' ?_|refine wp_skip' ?_|refine wp_exit' ?_)
  refine wp_imp (loop es.length 0 (by simp) (by simp)) ?_
  rintro ex st ⟨rfl,k,⟨hk,hb,hs⟩,rfl⟩
  rw [insE_at e es k hk hb hs]
  try simp only [if_true]
  have hT:es.take es.length=es:=List.take_of_length_le (Nat.le_refl _)
  have hT2:(es.drop k).take (es.length - k)=es.drop k:=List.take_of_length_le (by simp)
  have hT3:(es.take k).take k=es.take k:=by rw [List.take_take,Nat.min_self]
  have hl1:k≤274877906943:=by omega
  have hl2:k≤274877906944:=by omega
  have hl3:k+1≤274877906944:=by omega
  have hl4:k+1+(es.length - k)≤274877906944:=by omega
  have hT4:(es.take k++[(e.1,e.2)]).take (k+1)=es.take k++[(e.1,e.2)]:=List.take_of_length_le (by simp;omega)
  have hmin:min k es.length=k:=by omega
  repeat (first|refine wp_as ?_|refine wp_ss ?_|refine wr (by simp [hk,hT,hT2,hT3,hl1,hl2,hl3,hl4,hT4,hmin];with_reducible rfl) ?_|refine wq (by simp [hk,hT,hT2,hT3,hl1,hl2,hl3,hl4,hT4,hmin];with_reducible rfl) ?_|refine wt (by simpa [hk,hT,hT2,hT3,hl1,hl2,hl3,hl4,hT4,hmin]) ?_|refine wf (by simpa [hk,hT,hT2,hT3,hl1,hl2,hl3,hl4,hT4,hmin]) ?_|refine xt (by simpa [hk,hT,hT2,hT3,hl1,hl2,hl3,hl4,hT4,hmin]) ?_|refine xf (by simpa [hk,hT,hT2,hT3,hl1,hl2,hl3,hl4,hT4,hmin]) ?_|refine wp_bs ?_|refine wp_b ?_|refine wp_sr ?_|refine wp_sx ?_|refine wp_ret' ?_|refine wp_skip' ?_|refine wp_exit' ?_)
  refine wp_ra (by simp [hk,hT,hT2,hT3,hl1,hl2,hl3,hl4,hT4,hmin];with_reducible rfl) (by simp;with_reducible rfl) ?_ ?_
  · intro p hp
    simp only [List.mem_cons,List.not_mem_nil,or_false] at hp
    rcases hp with rfl | rfl | rfl | rfl | rfl | rfl | rfl | rfl | rfl | rfl | rfl
    · exact ⟨_,by simp [hk,hT,hT2,hT3,hl1,hl2,hl3,hl4,hT4,hmin];with_reducible rfl,by simp⟩
    · exact ⟨_,by simp [hk,hT,hT2,hT3,hl1,hl2,hl3,hl4,hT4,hmin];with_reducible rfl,by simp⟩
    · exact ⟨_,by simp [hk,hT,hT2,hT3,hl1,hl2,hl3,hl4,hT4,hmin];with_reducible rfl,by simp⟩
    · exact ⟨_,by simp [hk,hT,hT2,hT3,hl1,hl2,hl3,hl4,hT4,hmin];with_reducible rfl,by simp⟩
    · exact ⟨_,by simp [hk,hT,hT2,hT3,hl1,hl2,hl3,hl4,hT4,hmin];with_reducible rfl,by simp⟩
    · exact ⟨_,by simp [hk,hT,hT2,hT3,hl1,hl2,hl3,hl4,hT4,hmin];with_reducible rfl,by simp⟩
    · exact ⟨_,by simp [hk,hT,hT2,hT3,hl1,hl2,hl3,hl4,hT4,hmin];with_reducible rfl,by simp⟩
    · exact ⟨_,by simp [hk,hT,hT2,hT3,hl1,hl2,hl3,hl4,hT4,hmin];with_reducible rfl,by simp⟩
    · exact ⟨_,by simp [hk,hT,hT2,hT3,hl1,hl2,hl3,hl4,hT4,hmin];with_reducible rfl,by simp⟩
    · exact ⟨_,by simp [hk,hT,hT2,hT3,hl1,hl2,hl3,hl4,hT4,hmin];with_reducible rfl,by simp⟩
    · exact ⟨_,by simp [hk,hT,hT2,hT3,hl1,hl2,hl3,hl4,hT4,hmin];with_reducible rfl,by simp⟩
  repeat (first|refine wp_as ?_|refine wp_ss ?_|refine wr (by simp;with_reducible rfl) ?_|refine wq (by simp;with_reducible rfl) ?_|refine wt (by simpa) ?_|refine wf (by simpa) ?_|refine xt (by simpa) ?_|refine xf (by simpa) ?_|refine wp_bs ?_|refine wp_b ?_|refine wp_sr ?_|refine wp_sx ?_|refine wp_ret' ?_|refine wp_skip' ?_|refine wp_exit' ?_)
  simp [zi335]
end Go.Idl
namespace Go.Idl
open Go
def dropP (p q:Int) (x:Int×Int):Bool:=!(decide (x.1=p) && decide (x.2=q))
def dropE (a b:Int) (es:List (Int×Int)):List (Int×Int):=es.filter (dropP (min a b) (max a b))
theorem ev_dropEdge (n:Int) (es:List (Int×Int)) (c:Bool) (a b:Int) (hl:es.length≤100000) :
    Ev tb zl348 [] [Gr n es c,I a,I b] [] ⟨OG n (dropE a b es),[],[],[]⟩:=by
  obtain ⟨p,hp⟩:∃ p,p=min a b:=⟨_,rfl⟩
  obtain ⟨q,hq⟩:∃ q,q=max a b:=⟨_,rfl⟩
  have he1:(if b < a then b else a)=p:=by rw [hp];split <;> omega
  have he2:(if a < b then b else a)=q:=by rw [hq];split <;> omega
  rw [dropE,← hp,← hq]
  have loop:∀ (m i:Nat) (acc:List (Int×Int)) (B:Boxes),i+m=es.length→acc.length≤i→wp tb (.loop z348l8) { T:=[(1,I a),(2,I b),(3,.bptr 0 0 0),(6,.bptr 0 1 0),(7,.bptr 0 2 0),(8,I i)],loc:=[I n,L2 es c]::[I 0,Z]::[I n,O2 acc]::B,M:=[] }
      (fun ex st=>ex=.exit 0∧∃ B',st={ T:=[(1,I a),(2,I b),(3,.bptr 0 0 0),(6,.bptr 0 1 0),(7,.bptr 0 2 0),(8,I es.length),(18,Bo false)],loc:=[I n,L2 es c]::[I 0,Z]::[I n,O2 (acc++(es.drop i).filter (dropP p q))]::B',M:=[] }):=by
    intro m
    induction m with
    | zero =>
      intro i acc B hi ha
      have h3:i=es.length:=hi
      subst h3
      refine wp_loop ?_
      repeat (first|apply wp_as|apply wp_ss|refine wr (by simp;with_reducible rfl) ?_|refine wq (by simp;with_reducible rfl) ?_|refine wt (by simpa) ?_|refine wf (by simpa) ?_|refine xt (by simpa) ?_|refine xf (by simpa) ?_|apply wp_bs|apply wp_b|refine wp_sr ?_|refine wp_sx ?_|refine wp_ret' ?_|refine wp_skip' ?_|refine wp_exit' ?_)
      refine ⟨rfl,_,by simp;rfl⟩
    | succ m ih =>
      intro i acc B hi ha
      have hi2:i < es.length:=by omega
      have w1:IntKind.i64.wrap ((i:Int)+1)=((i+1:Nat):Int):=wrapS (by omega)
      have hd:es.drop i=es[i]::es.drop (i+1):=List.drop_eq_getElem_cons hi2
      have hl1:acc.length+1≤274877906944:=by omega
      have hl2:acc.length≤274877906943:=by omega
      have hT:∀ x,List.take (acc.length+1) (acc++[x])=acc++[x]:=fun x=>List.take_of_length_le (by simp)
      have hT2:List.take acc.length acc=acc:=List.take_of_length_le (Nat.le_refl _)
      rw [hd]
      obtain ⟨⟨x1,x2⟩,hx⟩:∃ x,x=es[i]:=⟨_,rfl⟩
      rw [← hx]
      have hx2:=hx.symm
      by_cases h1:x1=p
      · subst h1
        by_cases h2:x2=q
        · subst h2
          refine wp_loop ?_
          repeat (first|apply wp_as|apply wp_ss|refine wr (by simp [hi2,w1,hx2,he1,he2];with_reducible rfl) ?_|refine wq (by simp [hi2,w1,hx2,he1,he2];with_reducible rfl) ?_|refine wt (by simpa [hi2,w1,hx2,he1,he2]) ?_|refine wf (by simpa [hi2,w1,hx2,he1,he2]) ?_|refine xt (by simpa [hi2,w1,hx2,he1,he2]) ?_|refine xf (by simpa [hi2,w1,hx2,he1,he2]) ?_|apply wp_bs|apply wp_b|refine wp_sr ?_|refine wp_sx ?_|refine wp_ret' ?_|refine wp_skip' ?_|refine wp_exit' ?_)
          have hn:=ih (i+1) acc (B++[[I x1,I x2]]) (by omega) (by omega)
          rw [List.filter_cons_of_neg (by simp [dropP])]
          exact hn
        · refine wp_loop ?_
          repeat (first|apply wp_as|apply wp_ss|refine wr (by simp [hi2,w1,hx2,he1,he2,h2,hl1,hl2,hT,hT2];with_reducible rfl) ?_|refine wq (by simp [hi2,w1,hx2,he1,he2,h2,hl1,hl2,hT,hT2];with_reducible rfl) ?_|refine wt (by simpa [hi2,w1,hx2,he1,he2,h2,hl1,hl2,hT,hT2]) ?_|refine wf (by simpa [hi2,w1,hx2,he1,he2,h2,hl1,hl2,hT,hT2]) ?_|refine xt (by simpa [hi2,w1,hx2,he1,he2,h2,hl1,hl2,hT,hT2]) ?_|refine xf (by simpa [hi2,w1,hx2,he1,he2,h2,hl1,hl2,hT,hT2]) ?_|apply wp_bs|apply wp_b|refine wp_sr ?_|refine wp_sx ?_|refine wp_ret' ?_|refine wp_skip' ?_|refine wp_exit' ?_)
          have hn:=ih (i+1) (acc++[(x1,x2)]) (B++[[I x1,I x2]]) (by omega) (by simp;omega)
          rw [List.filter_cons_of_pos (by simp [dropP,h2])]
          simp only [List.append_assoc,List.cons_append,List.nil_append] at hn
          exact hn
      · refine wp_loop ?_
        repeat (first|apply wp_as|apply wp_ss|refine wr (by simp [hi2,w1,hx2,he1,he2,h1,hl1,hl2,hT,hT2];with_reducible rfl) ?_|refine wq (by simp [hi2,w1,hx2,he1,he2,h1,hl1,hl2,hT,hT2];with_reducible rfl) ?_|refine wt (by simpa [hi2,w1,hx2,he1,he2,h1,hl1,hl2,hT,hT2]) ?_|refine wf (by simpa [hi2,w1,hx2,he1,he2,h1,hl1,hl2,hT,hT2]) ?_|refine xt (by simpa [hi2,w1,hx2,he1,he2,h1,hl1,hl2,hT,hT2]) ?_|refine xf (by simpa [hi2,w1,hx2,he1,he2,h1,hl1,hl2,hT,hT2]) ?_|apply wp_bs|apply wp_b|refine wp_sr ?_|refine wp_sx ?_|refine wp_ret' ?_|refine wp_skip' ?_|refine wp_exit' ?_)
        have hn:=ih (i+1) (acc++[(x1,x2)]) (B++[[I x1,I x2]]) (by omega) (by simp;omega)
        rw [List.filter_cons_of_pos (by simp [dropP,h1])]
        simp only [List.append_assoc,List.cons_append,List.nil_append] at hn
        exact hn
  refine call_of_wp zt348 rfl ?_
  repeat (first|apply wp_as|apply wp_ss|refine wr (by simp;with_reducible rfl) ?_|refine wq (by simp;with_reducible rfl) ?_|refine wt (by simpa) ?_|refine wf (by simpa) ?_|refine xt (by simpa) ?_|refine xf (by simpa) ?_|apply wp_bs|apply wp_b|refine wp_sr ?_|refine wp_sx ?_|refine wp_ret' ?_|refine wp_skip' ?_|refine wp_exit' ?_)
  refine wp_imp (loop es.length 0 [] [] (by simp) (by simp)) ?_
  rintro ex st ⟨rfl,B',rfl⟩
  simp only [if_true]
  repeat (first|apply wp_as|apply wp_ss|refine wr (by simp;with_reducible rfl) ?_|refine wq (by simp;with_reducible rfl) ?_|refine wt (by simpa) ?_|refine wf (by simpa) ?_|refine xt (by simpa) ?_|refine xf (by simpa) ?_|apply wp_bs|apply wp_b|refine wp_sr ?_|refine wp_sx ?_|refine wp_ret' ?_|refine wp_skip' ?_|refine wp_exit' ?_)
  simp [zi348]
def mayS (es:List (Int×Int)) (a b c d:Int):Bool:=decide (a ≠ c) && decide (b ≠ d) && decide (a ≠ d) && decide (b ≠ c) && has es a b && has es c d && !has es a c && !has es b d
theorem ev_maySwitch (n:Int) (es:List (Int×Int)) (cc:Bool) (a b c d:Int) (hl:es.length≤100000) :
    Ev tb zl362 [] [Gr n es cc,Sw a b c d] [] ⟨Bo (mayS es a b c d),[],[],[]⟩:=by
  have eh:=fun cc a b=>ev_lim (ev_hasEdge n es cc a b hl)
  by_cases h1:a=c
  · subst h1
    refine call_of_wp zt362 rfl ?_
    repeat (first|apply wp_as|apply wp_ss|refine wr (by simp;with_reducible rfl) ?_|refine wq (by simp;with_reducible rfl) ?_|refine wt (by simpa) ?_|refine wf (by simpa) ?_|refine xt (by simpa) ?_|refine xf (by simpa) ?_|apply wp_bs|apply wp_b|refine wp_sr ?_|refine wp_sx ?_|refine wp_ret' ?_|refine wp_skip' ?_|refine wp_exit' ?_)
    simp [zi362,mayS]
  by_cases h2:b=d
  · subst h2
    refine call_of_wp zt362 rfl ?_
    repeat (first|apply wp_as|apply wp_ss|refine wr (by simp [h1];with_reducible rfl) ?_|refine wq (by simp [h1];with_reducible rfl) ?_|refine wt (by simpa [h1]) ?_|refine wf (by simpa [h1]) ?_|refine xt (by simpa [h1]) ?_|refine xf (by simpa [h1]) ?_|apply wp_bs|apply wp_b|refine wp_sr ?_|refine wp_sx ?_|refine wp_ret' ?_|refine wp_skip' ?_|refine wp_exit' ?_)
    simp [zi362,mayS]
  by_cases h3:a=d
  · subst h3
    refine call_of_wp zt362 rfl ?_
    repeat (first|apply wp_as|apply wp_ss|refine wr (by simp [h1,h2];with_reducible rfl) ?_|refine wq (by simp [h1,h2];with_reducible rfl) ?_|refine wt (by simpa [h1,h2]) ?_|refine wf (by simpa [h1,h2]) ?_|refine xt (by simpa [h1,h2]) ?_|refine xf (by simpa [h1,h2]) ?_|apply wp_bs|apply wp_b|refine wp_sr ?_|refine wp_sx ?_|refine wp_ret' ?_|refine wp_skip' ?_|refine wp_exit' ?_)
    simp [zi362,mayS]
  by_cases h4:b=c
  · subst h4
    refine call_of_wp zt362 rfl ?_
    repeat (first|apply wp_as|apply wp_ss|refine wr (by simp [h1,h2,h3];with_reducible rfl) ?_|refine wq (by simp [h1,h2,h3];with_reducible rfl) ?_|refine wt (by simpa [h1,h2,h3]) ?_|refine wf (by simpa [h1,h2,h3]) ?_|refine xt (by simpa [h1,h2,h3]) ?_|refine xf (by simpa [h1,h2,h3]) ?_|apply wp_bs|apply wp_b|refine wp_sr ?_|refine wp_sx ?_|refine wp_ret' ?_|refine wp_skip' ?_|refine wp_exit' ?_)
    simp [zi362,mayS]
  have hd:mayS es a b c d=(has es a b && has es c d && !has es a c && !has es b d):=by simp [mayS,h1,h2,h3,h4]
  rw [hd]
  cases k1:has es a b with
  | false =>
    refine call_of_wp zt362 rfl ?_
    repeat (first|apply wp_as|apply wp_ss|refine wr (by simp [h1,h2,h3,h4,eh,k1];with_reducible rfl) ?_|refine wq (by simp [h1,h2,h3,h4,eh,k1];with_reducible rfl) ?_|refine wt (by simpa [h1,h2,h3,h4,eh,k1]) ?_|refine wf (by simpa [h1,h2,h3,h4,eh,k1]) ?_|refine xt (by simpa [h1,h2,h3,h4,eh,k1]) ?_|refine xf (by simpa [h1,h2,h3,h4,eh,k1]) ?_|apply wp_bs|apply wp_b|refine wp_sr ?_|refine wp_sx ?_|refine wp_ret' ?_|refine wp_skip' ?_|refine wp_exit' ?_)
    simp [zi362]
  | true =>
  cases k2:has es c d with
  | false =>
    refine call_of_wp zt362 rfl ?_
    repeat (first|apply wp_as|apply wp_ss|refine wr (by simp [h1,h2,h3,h4,eh,k1,k2];with_reducible rfl) ?_|refine wq (by simp [h1,h2,h3,h4,eh,k1,k2];with_reducible rfl) ?_|refine wt (by simpa [h1,h2,h3,h4,eh,k1,k2]) ?_|refine wf (by simpa [h1,h2,h3,h4,eh,k1,k2]) ?_|refine xt (by simpa [h1,h2,h3,h4,eh,k1,k2]) ?_|refine xf (by simpa [h1,h2,h3,h4,eh,k1,k2]) ?_|apply wp_bs|apply wp_b|refine wp_sr ?_|refine wp_sx ?_|refine wp_ret' ?_|refine wp_skip' ?_|refine wp_exit' ?_)
    simp [zi362]
  | true =>
  cases k3:has es a c with
  | true =>
    refine call_of_wp zt362 rfl ?_
    repeat (first|apply wp_as|apply wp_ss|refine wr (by simp [h1,h2,h3,h4,eh,k1,k2,k3];with_reducible rfl) ?_|refine wq (by simp [h1,h2,h3,h4,eh,k1,k2,k3];with_reducible rfl) ?_|refine wt (by simpa [h1,h2,h3,h4,eh,k1,k2,k3]) ?_|refine wf (by simpa [h1,h2,h3,h4,eh,k1,k2,k3]) ?_|refine xt (by simpa [h1,h2,h3,h4,eh,k1,k2,k3]) ?_|refine xf (by simpa [h1,h2,h3,h4,eh,k1,k2,k3]) ?_|apply wp_bs|apply wp_b|refine wp_sr ?_|refine wp_sx ?_|refine wp_ret' ?_|refine wp_skip' ?_|refine wp_exit' ?_)
    simp [zi362]
  | false =>
  refine call_of_wp zt362 rfl ?_
  repeat (first|apply wp_as|apply wp_ss|refine wr (by simp [h1,h2,h3,h4,eh,k1,k2,k3];with_reducible rfl) ?_|refine wq (by simp [h1,h2,h3,h4,eh,k1,k2,k3];with_reducible rfl) ?_|refine wt (by simpa [h1,h2,h3,h4,eh,k1,k2,k3]) ?_|refine wf (by simpa [h1,h2,h3,h4,eh,k1,k2,k3]) ?_|refine xt (by simpa [h1,h2,h3,h4,eh,k1,k2,k3]) ?_|refine xf (by simpa [h1,h2,h3,h4,eh,k1,k2,k3]) ?_|apply wp_bs|apply wp_b|refine wp_sr ?_|refine wp_sx ?_|refine wp_ret' ?_|refine wp_skip' ?_|refine wp_exit' ?_)
  simp [zi362]
theorem dropE_len (a b:Int) (es:List (Int×Int)):(dropE a b es).length≤es.length:=List.length_filter_le _ _
def swS (es:List (Int×Int)) (a b c d:Int):List (Int×Int):=insE (min b d,max b d) (insE (min a c,max a c) (dropE c d (dropE a b es)))
theorem ev_switched (n:Int) (es:List (Int×Int)) (cc:Bool) (a b c d:Int) (hl:es.length≤100000) :
    Ev tb zl383 [] [Gr n es cc,Sw a b c d] [] ⟨OG n (swS es a b c d),[],[],[]⟩:=by
  have g1:=dropE_len a b es
  have g2:=dropE_len c d (dropE a b es)
  have g3:=insE_len (min a c,max a c) (dropE c d (dropE a b es))
  have e1:=fun cc=>ev_lim (ev_dropEdge n es cc a b hl)
  have e2:=fun cc=>ev_lim (ev_dropEdge n (dropE a b es) cc c d (by omega))
  have e3:=fun cc=>ev_lim (ev_addEdge n (dropE c d (dropE a b es)) cc a c (by omega))
  have e4:=fun cc=>ev_lim (ev_addEdge n (insE (min a c,max a c) (dropE c d (dropE a b es))) cc b d (by omega))
  rw [swS]
  generalize insE (min b d,max b d) (insE (min a c,max a c) (dropE c d (dropE a b es)))=x4 at *
  generalize insE (min a c,max a c) (dropE c d (dropE a b es))=x3 at *
  generalize dropE c d (dropE a b es)=x2 at *
  generalize dropE a b es=x1 at *
  refine call_of_wp zt383 rfl ?_
  repeat (first|apply wp_as|apply wp_ss|refine wr (by simp;with_reducible rfl) ?_|refine wq (by simp;with_reducible rfl) ?_|refine wt (by simpa) ?_|refine wf (by simpa) ?_|refine xt (by simpa) ?_|refine xf (by simpa) ?_|apply wp_bs|apply wp_b|refine wp_sr ?_|refine wp_sx ?_|refine wp_ret' ?_|refine wp_skip' ?_|refine wp_exit' ?_)
  refine wp_rds0 rfl (by simp [e1,e2,e3,e4];with_reducible rfl) (by simp;with_reducible rfl) ?_
  repeat (first|apply wp_as|apply wp_ss|refine wr (by simp;with_reducible rfl) ?_|refine wq (by simp;with_reducible rfl) ?_|refine wt (by simpa) ?_|refine wf (by simpa) ?_|refine xt (by simpa) ?_|refine xf (by simpa) ?_|apply wp_bs|apply wp_b|refine wp_sr ?_|refine wp_sx ?_|refine wp_ret' ?_|refine wp_skip' ?_|refine wp_exit' ?_)
  simp [zi383]
end Go.Idl
namespace Go.Idl
open Go
structure SmallG (n:Int) (es:List (Int×Int)):Prop where
  n1:-1≤n
  n2:n≤8
  len:es.length≤60
  el:∀ e ∈ es,-1≤e.1∧e.1≤8∧-1≤e.2∧e.2≤8
theorem SmallG.fit {n es} (h:SmallG n es):Fit es:=fun e he=>by have:=h.el e he;omega
theorem good_small {n:Nat} {es:List (Int×Int)} (hn:n≤7) (hs:es.Sublist (prs n)):SmallG n es :=
  ⟨by omega,by omega,by have:=prs_len hn hs;omega,fun e he=>by have:=prs_in hs e he;omega⟩
theorem small_set {n:Int} {es:List (Int×Int)} (h:SmallG n es) {k:Nat} {e:Int×Int} (he:-1≤e.1∧e.1≤8∧-1≤e.2∧e.2≤8):SmallG n (es.set k e) :=
  ⟨h.n1,h.n2,by rw [List.length_set];exact h.len,fun x hx=>by
    rcases List.mem_or_eq_of_mem_set hx with hx | rfl
    · exact h.el x hx
    · exact he⟩
theorem ev_someGraph (code:List Int) (c:Bool) (hc:CodeOk code) (cnt:Nat) (hn:cnt≤80000) (A bs:Boxes) (Ms:List Boxes) :
    ∃ (n:Int) (es:List (Int×Int)) (k:Nat),SmallG n es∧k≤cnt+110 ∧
      limF tb zl378 [] [.bptr 0 A.length 0] ((A++R code c cnt::bs)::Ms)=some ⟨OG n es,[],(A++R code c k::bs)::Ms,[]⟩:=by
  obtain ⟨n,es,k1,hn7,hs,hk1,e1⟩:=ev_goodGraphA code c hc cnt (by omega) A bs (Ms++[[]])
  have e1:=ev_lim e1
  have hS:=good_small hn7 hs
  have hel:=hS.len
  suffices hh:∃ r,(∃ (n:Int) (es:List (Int×Int)) (k:Nat),SmallG n es∧k≤cnt+110∧r=⟨OG n es,[],(A++R code c k::bs)::Ms,[]⟩)∧Ev tb zl378 [] [.bptr 0 A.length 0] ((A++R code c cnt::bs)::Ms) r by
    obtain ⟨r,⟨n,es,k,q1,q2,rfl⟩,q3⟩:=hh
    exact ⟨n,es,k,q1,q2,ev_lim q3⟩
  refine call_ex zt378 rfl ?_
  by_cases h0:es.length=0
  · have h00:es=[]:=List.length_eq_zero_iff.1 h0
    subst h00
    repeat (first|refine wp_as ?_|refine wp_ss ?_|refine wr (by simp [e1];with_reducible rfl) ?_|refine wq (by simp [e1];with_reducible rfl) ?_|refine wt (by simpa [e1]) ?_|refine wf (by simpa [e1]) ?_|refine xt (by simpa [e1]) ?_|refine xf (by simpa [e1]) ?_|refine wp_bs ?_|refine wp_b ?_|refine wp_sr ?_|refine wp_sx ?_|refine wp_ret' ?_|refine wp_skip' ?_|refine wp_exit' ?_)
    refine ⟨.inr rfl,_,⟨n,[],k1,hS,by omega,rfl⟩,?_⟩
    simp [zi378]
  have h1:(0:Int) < es.length:=by omega
  have h1':0 < es.length:=by omega
  obtain ⟨v,k2,hv,hk2,e2⟩:=pickA code c hc k1 (by omega) (es.length:Int) (by omega) A bs (Ms++[[]])
  have hv:=hv (by omega)
  have hvl:v < es.length:=by omega
  obtain ⟨u,k3,-,hk3,e3⟩:=pickA code c hc k2 (by omega) 30 (by omega) A bs (Ms++[[]])
  have hev:=hS.el es[v] (List.getElem_mem hvl)
  by_cases hu0:u=0
  · subst hu0
    obtain ⟨x,k4,hx,hk4,e4⟩:=oneA code c hc k3 (by omega) [-1,7,es[v].2] (by simp) A bs (Ms++[[]])
    have hx:-1≤x∧x≤8:=by simp at hx;omega
    repeat (first|refine wp_as ?_|refine wp_ss ?_|refine wr (by simp [e1,e2,e3,h1,h1'];with_reducible rfl) ?_|refine wq (by simp [e1,e2,e3,h1,h1'];with_reducible rfl) ?_|refine wt (by simpa [e1,e2,e3,h1,h1']) ?_|refine wf (by simpa [e1,e2,e3,h1,h1']) ?_|refine xt (by simpa [e1,e2,e3,h1,h1']) ?_|refine xf (by simpa [e1,e2,e3,h1,h1']) ?_|refine wp_bs ?_|refine wp_b ?_|refine wp_sr ?_|refine wp_sx ?_|refine wp_ret' ?_|refine wp_skip' ?_|refine wp_exit' ?_)
    refine wp_rega (by simp [hvl,e4];with_reducible rfl) (by simp;with_reducible rfl) ?_ ?_
    · intro p hp
      simp only [List.mem_cons,List.not_mem_nil,or_false] at hp
      rcases hp with rfl | rfl
      · exact ⟨_,by simp [hvl,e4];with_reducible rfl,by simp⟩
      · exact ⟨_,by simp [hvl,e4];with_reducible rfl,by simp⟩
    repeat (first|refine wp_as ?_|refine wp_ss ?_|refine wr (by simp;with_reducible rfl) ?_|refine wq (by simp;with_reducible rfl) ?_|refine wt (by simpa) ?_|refine wf (by simpa) ?_|refine xt (by simpa) ?_|refine xf (by simpa) ?_|refine wp_bs ?_|refine wp_b ?_|refine wp_sr ?_|refine wp_sx ?_|refine wp_ret' ?_|refine wp_skip' ?_|refine wp_exit' ?_)
    refine ⟨.inr rfl,_,⟨n,es.set v (x,es[v].2),k4,small_set hS ⟨by omega,by omega,by omega,by omega⟩,by omega,rfl⟩,?_⟩
    simp [zi378]
    rw [List.take_of_length_le (by simp)]
  by_cases hu1:u=1
  · subst hu1
    have hap:SmallG n (es++[es[v]]):=⟨hS.n1,hS.n2,by have:=prs_len hn7 hs;simp;omega,fun e he=>by
      rcases List.mem_append.1 he with he | he
      · exact hS.el e he
      · simp at he;subst he;exact hev⟩
    have hlm:es.length+1≤274877906944:=by omega
    repeat (first|refine wp_as ?_|refine wp_ss ?_|refine wr (by simp [e1,e2,e3,h1,h1'];with_reducible rfl) ?_|refine wq (by simp [e1,e2,e3,h1,h1'];with_reducible rfl) ?_|refine wt (by simpa [e1,e2,e3,h1,h1']) ?_|refine wf (by simpa [e1,e2,e3,h1,h1']) ?_|refine xt (by simpa [e1,e2,e3,h1,h1']) ?_|refine xf (by simpa [e1,e2,e3,h1,h1']) ?_|refine wp_bs ?_|refine wp_b ?_|refine wp_sr ?_|refine wp_sx ?_|refine wp_ret' ?_|refine wp_skip' ?_|refine wp_exit' ?_)
    refine wp_rega (by simp [hvl,hlm];with_reducible rfl) (by simp;with_reducible rfl) ?_ ?_
    · intro p hp
      simp only [List.mem_cons,List.not_mem_nil,or_false] at hp
      subst hp
      exact ⟨_,by simp [hvl,hlm];with_reducible rfl,by simp⟩
    repeat (first|refine wp_as ?_|refine wp_ss ?_|refine wr (by simp;with_reducible rfl) ?_|refine wq (by simp;with_reducible rfl) ?_|refine wt (by simpa) ?_|refine wf (by simpa) ?_|refine xt (by simpa) ?_|refine xf (by simpa) ?_|refine wp_bs ?_|refine wp_b ?_|refine wp_sr ?_|refine wp_sx ?_|refine wp_ret' ?_|refine wp_skip' ?_|refine wp_exit' ?_)
    refine ⟨.inr rfl,_,⟨n,es++[es[v]],k3,hap,by omega,rfl⟩,?_⟩
    simp [zi378]
    rw [List.take_of_length_le (by simp)]
  have hu0':¬ (u:Int)=0:=by omega
  have hu1':¬ (u:Int)=1:=by omega
  by_cases hu2:u=2
  · subst hu2
    obtain ⟨x,k4,hx,hk4,e4⟩:=oneA code c hc k3 (by omega) [-1,8,2] (by simp) A bs (Ms++[[]])
    have hx:-1≤x∧x≤8:=by simp at hx;omega
    repeat (first|refine wp_as ?_|refine wp_ss ?_|refine wr (by simp [e1,e2,e3,e4,h1,h1'];with_reducible rfl) ?_|refine wq (by simp [e1,e2,e3,e4,h1,h1'];with_reducible rfl) ?_|refine wt (by simpa [e1,e2,e3,e4,h1,h1']) ?_|refine wf (by simpa [e1,e2,e3,e4,h1,h1']) ?_|refine xt (by simpa [e1,e2,e3,e4,h1,h1']) ?_|refine xf (by simpa [e1,e2,e3,e4,h1,h1']) ?_|refine wp_bs ?_|refine wp_b ?_|refine wp_sr ?_|refine wp_sx ?_|refine wp_ret' ?_|refine wp_skip' ?_|refine wp_exit' ?_)
    refine ⟨.inr rfl,_,⟨x,es,k4,⟨hx.1,hx.2,hS.len,hS.el⟩,by omega,rfl⟩,?_⟩
    simp [zi378]
  · have hu2':¬ (u:Int)=2:=by omega
    repeat (first|refine wp_as ?_|refine wp_ss ?_|refine wr (by simp [e1,e2,e3,h1,h1',hu0,hu1,hu2,hu0',hu1',hu2'];with_reducible rfl) ?_|refine wq (by simp [e1,e2,e3,h1,h1',hu0,hu1,hu2,hu0',hu1',hu2'];with_reducible rfl) ?_|refine wt (by simpa [e1,e2,e3,h1,h1',hu0,hu1,hu2,hu0',hu1',hu2']) ?_|refine wf (by simpa [e1,e2,e3,h1,h1',hu0,hu1,hu2,hu0',hu1',hu2']) ?_|refine xt (by simpa [e1,e2,e3,h1,h1',hu0,hu1,hu2,hu0',hu1',hu2']) ?_|refine xf (by simpa [e1,e2,e3,h1,h1',hu0,hu1,hu2,hu0',hu1',hu2']) ?_|refine wp_bs ?_|refine wp_b ?_|refine wp_sr ?_|refine wp_sx ?_|refine wp_ret' ?_|refine wp_skip' ?_|refine wp_exit' ?_)
    refine ⟨.inr rfl,_,⟨n,es,k3,hS,by omega,rfl⟩,?_⟩
    simp [zi378]
end Go.Idl
namespace Go.Idl
open Go
theorem degs_len (n:Nat) (es:List (Int×Int)):(degs n es).length=n:=by rw [degs,dfold_len];simp
end Go.Idl
namespace Go.Idl
open Go
abbrev Q4:=Int×Int×Int×Int
def sws (xs:List Q4):List (List IV):=xs.map fun s=>[I s.1,I s.2.1,I s.2.2.1,I s.2.2.2]
abbrev O4 (xs:List Q4):IV:=.own 4 (sws xs)
@[simp] theorem sws_len (xs:List Q4):(sws xs).length=xs.length:=by simp [sws]
@[simp] theorem sws_nil:sws []=[]:=rfl
@[simp] theorem sws_take (xs:List Q4) (n:Nat):(sws xs).take n=sws (xs.take n):=by simp [sws,List.map_take]
@[simp] theorem sws_drop (xs:List Q4) (n:Nat):(sws xs).drop n=sws (xs.drop n):=by simp [sws,List.map_drop]
@[simp] theorem sws_one (xs:List Q4) (a b c d:Int):sws xs++[[IV.sc (.int .i64 a),IV.sc (.int .i64 b),IV.sc (.int .i64 c),IV.sc (.int .i64 d)]]=sws (xs++[(a,b,c,d)]):=by simp [sws]
@[simp] theorem sws_get (xs:List Q4) (i:Nat) (h:i < (sws xs).length):(sws xs)[i]=[IV.sc (.int .i64 (xs[i]'(by simpa [sws] using h)).1),IV.sc (.int .i64 (xs[i]'(by simpa [sws] using h)).2.1),IV.sc (.int .i64 (xs[i]'(by simpa [sws] using h)).2.2.1),IV.sc (.int .i64 (xs[i]'(by simpa [sws] using h)).2.2.2)]:=by simp [sws]
@[simp] theorem sws_get? (xs:List Q4) (i:Nat):(sws xs)[i]? = xs[i]?.map fun s=>[IV.sc (.int .i64 s.1),IV.sc (.int .i64 s.2.1),IV.sc (.int .i64 s.2.2.1),IV.sc (.int .i64 s.2.2.2)]:=by simp [sws]
@[simp] theorem sws_all1 (xs:List Q4):((sws xs).all fun x=>x.all IV.plain1)=true:=by
  induction xs with
  | nil=>rfl
  | cons x xs ih=>simp only [sws,List.map_cons,List.all_cons] at *;rw [ih];rfl
@[simp] theorem sws_all2 (xs:List Q4):((sws xs).all fun x=>x.all IV.isData)=true:=by
  induction xs with
  | nil=>rfl
  | cons x xs ih=>simp only [sws,List.map_cons,List.all_cons] at *;rw [ih];rfl
@[simp] theorem sws_noLst (xs:List Q4):noLstLL (sws xs)=true:=by
  induction xs with
  | nil=>rfl
  | cons x xs ih=>simp only [sws,List.map_cons,noLstLL,noLstL,noLstV] at *;rw [ih];rfl
@[simp] theorem frz_sws (xs:List Q4):frzLL (sws xs)=sws xs:=by
  induction xs with
  | nil=>rfl
  | cons x xs ih=>simp only [sws,List.map_cons,frzLL,frzL,frzV] at *;rw [ih]
def row2 (es:List (Int×Int)) (e f:Int×Int):List Q4 :=
  (if mayS es e.1 e.2 f.1 f.2=true then [(e.1,e.2,f.1,f.2)] else [])++(if mayS es e.1 e.2 f.2 f.1=true then [(e.1,e.2,f.2,f.1)] else [])
theorem row2_len (es:List (Int×Int)) (e f:Int×Int):(row2 es e f).length≤2:=by
  simp only [row2,List.length_append];split <;> split <;> simp
theorem row2s_len (es:List (Int×Int)) (e:Int×Int):∀ r:List (Int×Int),(r.flatMap (row2 es e)).length≤2 * r.length
  | []=>by simp
  | f::r=>by
    have h1:=row2_len es e f
    have h2:=row2s_len es e r
    simp only [List.flatMap_cons,List.length_append,List.length_cons];omega
def swl (es:List (Int×Int)):List (Int×Int)→List Q4
  | []=>[]
  | e::r=>r.flatMap (row2 es e)++swl es r
theorem swl_len (es:List (Int×Int)):∀ r:List (Int×Int),r.length≤100→(swl es r).length≤200 * r.length
  | [],_=>by simp [swl]
  | e::r,h=>by
    have h1:=row2s_len es e r
    simp only [List.length_cons] at h
    have h2:=swl_len es r (by omega)
    rw [swl,List.length_append,List.length_cons];omega
set_option maxHeartbeats 4000000 in
theorem sw_in (n:Int) (es:List (Int×Int)) (c:Bool) (hl:es.length≤1000) (i:Nat) (hi:i < es.length):∀ (m k:Nat) (acc:List Q4) (B:Boxes),k+m=es.length→acc.length+2 * m≤4000000 →
    wp tb (.loop z384l15) { T:=[(1,.bptr 0 0 0),(3,O4 acc),(4,I i),(5,I k)],loc:=[I n,L2 es c]::B,M:=[] }
      (fun ex st=>ex=.exit 2∧∃ B',st={ T:=[(1,.bptr 0 0 0),(3,O4 (acc++(es.drop k).flatMap (row2 es es[i]))),(4,I i),(5,I es.length),(24,Bo false)],loc:=[I n,L2 es c]::B',M:=[] }):=by
  intro m
  induction m with
  | zero =>
    intro k acc B hk ha
    have h3:k=es.length:=hk
    subst h3
    refine wp_loop ?_
    repeat (first|apply wp_as|apply wp_ss|refine wr (by simp;with_reducible rfl) ?_|refine wq (by simp;with_reducible rfl) ?_|refine wt (by simpa) ?_|refine wf (by simpa) ?_|refine xt (by simpa) ?_|refine xf (by simpa) ?_|apply wp_bs|apply wp_b|refine wp_sr ?_|refine wp_sx ?_|refine wp_ret' ?_|refine wp_skip' ?_|refine wp_exit' ?_)
    refine ⟨rfl,_,by simp;rfl⟩
  | succ m ih =>
    intro k acc B hk ha
    have hk2:k < es.length:=by omega
    have w1:IntKind.i64.wrap ((k:Int)+1)=((k+1:Nat):Int):=wrapS (by omega)
    have em:=fun cc a b c d=>ev_lim (ev_maySwitch n es cc a b c d (by omega))
    have hd:es.drop k=es[k]::es.drop (k+1):=List.drop_eq_getElem_cons hk2
    rw [hd,List.flatMap_cons]
    have hn:=fun acc B h=>ih (k+1) acc B (by omega) h
    obtain ⟨⟨x1,x2⟩,hx⟩:∃ x,x=es[i]:=⟨_,rfl⟩
    obtain ⟨⟨y1,y2⟩,hy⟩:∃ x,x=es[k]:=⟨_,rfl⟩
    rw [← hx] at hn ⊢
    rw [← hy]
    have hx2:=hx.symm
    have hy2:=hy.symm
    have hl1:acc.length+1≤274877906944:=by omega
    have hl2:acc.length≤274877906943:=by omega
    have hl3:acc.length+1+1≤274877906944:=by omega
    have hl4:acc.length+1≤274877906943:=by omega
    have hT:∀ x:Q4,List.take (acc.length+1) (acc++[x])=acc++[x]:=fun x=>List.take_of_length_le (by simp)
    have hT2:List.take acc.length acc=acc:=List.take_of_length_le (Nat.le_refl _)
    have hT3:∀ x y:Q4,List.take (acc.length+1+1) (acc++[x,y])=acc++[x,y]:=fun x y=>List.take_of_length_le (by simp)
    have hB:=B.length
    cases k1:mayS es x1 x2 y1 y2 with
    | false =>
      cases k2:mayS es x1 x2 y2 y1 with
      | false =>
        refine wp_loop ?_
        repeat (first|apply wp_as|apply wp_ss|refine wr (by simp [hi,hk2,w1,hx2,hy2,em,k1,k2,hl1,hl2,hT,hT2];with_reducible rfl) ?_|refine wq (by simp [hi,hk2,w1,hx2,hy2,em,k1,k2,hl1,hl2,hT,hT2];with_reducible rfl) ?_|refine wt (by simpa [hi,hk2,w1,hx2,hy2,em,k1,k2,hl1,hl2,hT,hT2]) ?_|refine wf (by simpa [hi,hk2,w1,hx2,hy2,em,k1,k2,hl1,hl2,hT,hT2]) ?_|refine xt (by simpa [hi,hk2,w1,hx2,hy2,em,k1,k2,hl1,hl2,hT,hT2]) ?_|refine xf (by simpa [hi,hk2,w1,hx2,hy2,em,k1,k2,hl1,hl2,hT,hT2]) ?_|apply wp_bs|apply wp_b|refine wp_sr ?_|refine wp_sx ?_|refine wp_ret' ?_|refine wp_skip' ?_|refine wp_exit' ?_)
        have hh:=hn acc (B++[[I x1,I x2],[I y1,I y2],[I x1,I x2,I y1,I y2],[I x1,I x2,I y2,I y1]]) (by omega)
        simp only [row2,k1,k2]
        simpa using hh
      | true =>
        refine wp_loop ?_
        repeat (first|apply wp_as|apply wp_ss|refine wr (by simp [hi,hk2,w1,hx2,hy2,em,k1,k2,hl1,hl2,hT,hT2];with_reducible rfl) ?_|refine wq (by simp [hi,hk2,w1,hx2,hy2,em,k1,k2,hl1,hl2,hT,hT2];with_reducible rfl) ?_|refine wt (by simpa [hi,hk2,w1,hx2,hy2,em,k1,k2,hl1,hl2,hT,hT2]) ?_|refine wf (by simpa [hi,hk2,w1,hx2,hy2,em,k1,k2,hl1,hl2,hT,hT2]) ?_|refine xt (by simpa [hi,hk2,w1,hx2,hy2,em,k1,k2,hl1,hl2,hT,hT2]) ?_|refine xf (by simpa [hi,hk2,w1,hx2,hy2,em,k1,k2,hl1,hl2,hT,hT2]) ?_|apply wp_bs|apply wp_b|refine wp_sr ?_|refine wp_sx ?_|refine wp_ret' ?_|refine wp_skip' ?_|refine wp_exit' ?_)
        have hh:=hn (acc++[(x1,x2,y2,y1)]) (B++[[I x1,I x2],[I y1,I y2],[I x1,I x2,I y1,I y2],[I x1,I x2,I y2,I y1]]) (by simp;omega)
        simp only [row2,k1,k2]
        simpa using hh
    | true =>
      cases k2:mayS es x1 x2 y2 y1 with
      | false =>
        refine wp_loop ?_
        repeat (first|apply wp_as|apply wp_ss|refine wr (by simp [hi,hk2,w1,hx2,hy2,em,k1,k2,hl1,hl2,hT,hT2];with_reducible rfl) ?_|refine wq (by simp [hi,hk2,w1,hx2,hy2,em,k1,k2,hl1,hl2,hT,hT2];with_reducible rfl) ?_|refine wt (by simpa [hi,hk2,w1,hx2,hy2,em,k1,k2,hl1,hl2,hT,hT2]) ?_|refine wf (by simpa [hi,hk2,w1,hx2,hy2,em,k1,k2,hl1,hl2,hT,hT2]) ?_|refine xt (by simpa [hi,hk2,w1,hx2,hy2,em,k1,k2,hl1,hl2,hT,hT2]) ?_|refine xf (by simpa [hi,hk2,w1,hx2,hy2,em,k1,k2,hl1,hl2,hT,hT2]) ?_|apply wp_bs|apply wp_b|refine wp_sr ?_|refine wp_sx ?_|refine wp_ret' ?_|refine wp_skip' ?_|refine wp_exit' ?_)
        have hh:=hn (acc++[(x1,x2,y1,y2)]) (B++[[I x1,I x2],[I y1,I y2],[I x1,I x2,I y1,I y2],[I x1,I x2,I y2,I y1]]) (by simp;omega)
        simp only [row2,k1,k2]
        simpa using hh
      | true =>
        refine wp_loop ?_
        repeat (first|apply wp_as|apply wp_ss|refine wr (by simp [hi,hk2,w1,hx2,hy2,em,k1,k2,hl1,hl2,hl3,hl4,hT,hT2,hT3];with_reducible rfl) ?_|refine wq (by simp [hi,hk2,w1,hx2,hy2,em,k1,k2,hl1,hl2,hl3,hl4,hT,hT2,hT3];with_reducible rfl) ?_|refine wt (by simpa [hi,hk2,w1,hx2,hy2,em,k1,k2,hl1,hl2,hl3,hl4,hT,hT2,hT3]) ?_|refine wf (by simpa [hi,hk2,w1,hx2,hy2,em,k1,k2,hl1,hl2,hl3,hl4,hT,hT2,hT3]) ?_|refine xt (by simpa [hi,hk2,w1,hx2,hy2,em,k1,k2,hl1,hl2,hl3,hl4,hT,hT2,hT3]) ?_|refine xf (by simpa [hi,hk2,w1,hx2,hy2,em,k1,k2,hl1,hl2,hl3,hl4,hT,hT2,hT3]) ?_|apply wp_bs|apply wp_b|refine wp_sr ?_|refine wp_sx ?_|refine wp_ret' ?_|refine wp_skip' ?_|refine wp_exit' ?_)
        have hh:=hn (acc++[(x1,x2,y1,y2),(x1,x2,y2,y1)]) (B++[[I x1,I x2],[I y1,I y2],[I x1,I x2,I y1,I y2],[I x1,I x2,I y2,I y1]]) (by simp;omega)
        simp only [row2,k1,k2]
        simpa using hh
theorem ev_spec_switches (n:Int) (es:List (Int×Int)) (c:Bool) (hl:es.length≤1000) :
    Ev tb zl384 [] [Gr n es c] [] ⟨O4 (swl es es),[],[],[]⟩:=by
  have loop:∀ (m i:Nat) (acc:List Q4) (B:Boxes),i+m=es.length→acc.length+2000 * m≤3000000 →
      wp tb (.loop z384l17) { T:=[(1,.bptr 0 0 0),(3,O4 acc),(4,I i)],loc:=[I n,L2 es c]::B,M:=[] }
      (fun ex st=>ex=.exit 0∧∃ B',st={ T:=[(1,.bptr 0 0 0),(3,O4 (acc++swl es (es.drop i))),(4,I es.length),(15,Bo false)],loc:=[I n,L2 es c]::B',M:=[] }):=by
    intro m
    induction m with
    | zero =>
      intro i acc B hi ha
      have h3:i=es.length:=hi
      subst h3
      refine wp_loop ?_
      repeat (first|apply wp_as|apply wp_ss|refine wr (by simp;with_reducible rfl) ?_|refine wq (by simp;with_reducible rfl) ?_|refine wt (by simpa) ?_|refine wf (by simpa) ?_|refine xt (by simpa) ?_|refine xf (by simpa) ?_|apply wp_bs|apply wp_b|refine wp_sr ?_|refine wp_sx ?_|refine wp_ret' ?_|refine wp_skip' ?_|refine wp_exit' ?_)
      refine ⟨rfl,_,by simp [swl];rfl⟩
    | succ m ih =>
      intro i acc B hi ha
      have hi2:i < es.length:=by omega
      have w1:IntKind.i64.wrap ((i:Int)+1)=((i+1:Nat):Int):=wrapS (by omega)
      have hd:es.drop i=es[i]::es.drop (i+1):=List.drop_eq_getElem_cons hi2
      refine wp_loop ?_
      repeat (first|apply wp_as|apply wp_ss|refine wr (by simp [hi2,w1];with_reducible rfl) ?_|refine wq (by simp [hi2,w1];with_reducible rfl) ?_|refine wt (by simpa [hi2,w1]) ?_|refine wf (by simpa [hi2,w1]) ?_|refine xt (by simpa [hi2,w1]) ?_|refine xf (by simpa [hi2,w1]) ?_|apply wp_bs|apply wp_b|refine wp_sr ?_|refine wp_sx ?_|refine wp_ret' ?_|refine wp_skip' ?_|refine wp_exit' ?_)
      refine wp_imp (sw_in n es c hl i hi2 m (i+1) acc B (by omega) (by omega)) ?_
      rintro ex st ⟨rfl,B',rfl⟩
      simp only [if_true]
      repeat (first|apply wp_as|apply wp_ss|refine wr (by simp [w1];with_reducible rfl) ?_|refine wq (by simp [w1];with_reducible rfl) ?_|refine wt (by simpa [w1]) ?_|refine wf (by simpa [w1]) ?_|refine xt (by simpa [w1]) ?_|refine xf (by simpa [w1]) ?_|apply wp_bs|apply wp_b|refine wp_sr ?_|refine wp_sx ?_|refine wp_ret' ?_|refine wp_skip' ?_|refine wp_exit' ?_)
      have hrl:=row2s_len es es[i] (es.drop (i+1))
      simp only [List.length_drop] at hrl
      have hn:=ih (i+1) (acc++(es.drop (i+1)).flatMap (row2 es es[i])) B' (by omega) (by simp only [List.length_append];omega)
      rw [hd,swl]
      simp only [List.append_assoc] at hn
      exact hn
  refine call_of_wp zt384 rfl ?_
  repeat (first|apply wp_as|apply wp_ss|refine wr (by simp;with_reducible rfl) ?_|refine wq (by simp;with_reducible rfl) ?_|refine wt (by simpa) ?_|refine wf (by simpa) ?_|refine xt (by simpa) ?_|refine xf (by simpa) ?_|apply wp_bs|apply wp_b|refine wp_sr ?_|refine wp_sx ?_|refine wp_ret' ?_|refine wp_skip' ?_|refine wp_exit' ?_)
  refine wp_imp (loop es.length 0 [] [] (by simp) (by simp;omega)) ?_
  rintro ex st ⟨rfl,B',rfl⟩
  simp only [if_true]
  repeat (first|apply wp_as|apply wp_ss|refine wr (by simp;with_reducible rfl) ?_|refine wq (by simp;with_reducible rfl) ?_|refine wt (by simpa) ?_|refine wf (by simpa) ?_|refine xt (by simpa) ?_|refine xf (by simpa) ?_|apply wp_bs|apply wp_b|refine wp_sr ?_|refine wp_sx ?_|refine wp_ret' ?_|refine wp_skip' ?_|refine wp_exit' ?_)
  simp [zi384]
theorem ev_aSwitch (code:List Int) (c:Bool) (hc:CodeOk code) (cnt:Nat) (hn:cnt≤80000) (n:Int) (es:List (Int×Int)) (cc:Bool) (hl:es.length≤100) (A bs:Boxes) (Ms:List Boxes) :
    ∃ (a b s d:Int) (k:Nat),k≤cnt+10 ∧
      limF tb zl333 [] [.bptr 0 A.length 0,Gr n es cc] ((A++R code c cnt::bs)::Ms)=some ⟨Sw a b s d,[],(A++R code c k::bs)::Ms,[]⟩:=by
  have ev:=fun cc=>ev_lim (ev_validGraph n es cc (by omega))
  suffices hh:∃ r,(∃ (a b s d:Int) (k:Nat),k≤cnt+10∧r=⟨Sw a b s d,[],(A++R code c k::bs)::Ms,[]⟩)∧Ev tb zl333 [] [.bptr 0 A.length 0,Gr n es cc] ((A++R code c cnt::bs)::Ms) r by
    obtain ⟨r,⟨a,b,s,d,k,q1,rfl⟩,q3⟩:=hh
    exact ⟨a,b,s,d,k,q1,ev_lim q3⟩
  cases hv:vGraph n es with
  | false =>
    obtain ⟨v1,k1,-,hk1,e1⟩:=pickA code c hc cnt (by omega) 7 (by omega) A bs (Ms++[[[I n,L2 es cc],[I 0,I 0,I 0,I 0]]])
    obtain ⟨v2,k2,-,hk2,e2⟩:=pickA code c hc k1 (by omega) 7 (by omega) A bs (Ms++[[[I n,L2 es cc],[I 0,I 0,I 0,I 0]]])
    obtain ⟨v3,k3,-,hk3,e3⟩:=pickA code c hc k2 (by omega) 7 (by omega) A bs (Ms++[[[I n,L2 es cc],[I 0,I 0,I 0,I 0]]])
    obtain ⟨v4,k4,-,hk4,e4⟩:=pickA code c hc k3 (by omega) 7 (by omega) A bs (Ms++[[[I n,L2 es cc],[I 0,I 0,I 0,I 0]]])
    obtain ⟨x,k5,-,hk5,e5⟩:=oneA code c hc k4 (by omega) [(v4:Int),-1] (by simp) A bs (Ms++[[[I n,L2 es cc],[I 0,I 0,I 0,I 0]]])
    refine call_ex zt333 rfl ?_
    repeat (first|apply wp_as|apply wp_ss|refine wr (by simp [ev,hv,e1,e2,e3,e4,e5];with_reducible rfl) ?_|refine wq (by simp [ev,hv,e1,e2,e3,e4,e5];with_reducible rfl) ?_|refine wt (by simpa [ev,hv,e1,e2,e3,e4,e5]) ?_|refine wf (by simpa [ev,hv,e1,e2,e3,e4,e5]) ?_|refine xt (by simpa [ev,hv,e1,e2,e3,e4,e5]) ?_|refine xf (by simpa [ev,hv,e1,e2,e3,e4,e5]) ?_|apply wp_bs|apply wp_b|refine wp_sr ?_|refine wp_sx ?_|refine wp_ret' ?_|refine wp_skip' ?_|refine wp_exit' ?_)
    refine ⟨.inr rfl,_,⟨v1,v2,v3,x,k5,by omega,rfl⟩,?_⟩
    simp [zi333]
  | true =>
  have es1:=fun cc=>ev_lim (ev_spec_switches n es cc (by omega))
  have hsl:=swl_len es es hl
  generalize swl es es=l at *
  by_cases h0:l.length=0
  · have h00:l=[]:=List.length_eq_zero_iff.1 h0
    subst h00
    obtain ⟨v1,k1,-,hk1,e1⟩:=pickA code c hc cnt (by omega) 7 (by omega) A bs (Ms++[[[I n,L2 es cc],[I 0,I 0,I 0,I 0]]])
    obtain ⟨v2,k2,-,hk2,e2⟩:=pickA code c hc k1 (by omega) 7 (by omega) A bs (Ms++[[[I n,L2 es cc],[I 0,I 0,I 0,I 0]]])
    obtain ⟨v3,k3,-,hk3,e3⟩:=pickA code c hc k2 (by omega) 7 (by omega) A bs (Ms++[[[I n,L2 es cc],[I 0,I 0,I 0,I 0]]])
    obtain ⟨v4,k4,-,hk4,e4⟩:=pickA code c hc k3 (by omega) 7 (by omega) A bs (Ms++[[[I n,L2 es cc],[I 0,I 0,I 0,I 0]]])
    obtain ⟨x,k5,-,hk5,e5⟩:=oneA code c hc k4 (by omega) [(v4:Int),-1] (by simp) A bs (Ms++[[[I n,L2 es cc],[I 0,I 0,I 0,I 0]]])
    refine call_ex zt333 rfl ?_
    repeat (first|apply wp_as|apply wp_ss|refine wr (by simp [ev,hv,es1,e1,e2,e3,e4,e5];with_reducible rfl) ?_|refine wq (by simp [ev,hv,es1,e1,e2,e3,e4,e5];with_reducible rfl) ?_|refine wt (by simpa [ev,hv,es1,e1,e2,e3,e4,e5]) ?_|refine wf (by simpa [ev,hv,es1,e1,e2,e3,e4,e5]) ?_|refine xt (by simpa [ev,hv,es1,e1,e2,e3,e4,e5]) ?_|refine xf (by simpa [ev,hv,es1,e1,e2,e3,e4,e5]) ?_|apply wp_bs|apply wp_b|refine wp_sr ?_|refine wp_sx ?_|refine wp_ret' ?_|refine wp_skip' ?_|refine wp_exit' ?_)
    refine ⟨.inr rfl,_,⟨v1,v2,v3,x,k5,by omega,rfl⟩,?_⟩
    simp [zi333]
  have h1:(0:Int) < l.length:=by omega
  have h1':0 < l.length:=by omega
  obtain ⟨v0,k0,-,hk0,e0⟩:=pickA code c hc cnt (by omega) 6 (by omega) A bs (Ms++[[[I n,L2 es cc],[I 0,I 0,I 0,I 0]]])
  by_cases hv0:v0=0
  · subst hv0
    obtain ⟨v1,k1,-,hk1,e1⟩:=pickA code c hc k0 (by omega) 7 (by omega) A bs (Ms++[[[I n,L2 es cc],[I 0,I 0,I 0,I 0]]])
    obtain ⟨v2,k2,-,hk2,e2⟩:=pickA code c hc k1 (by omega) 7 (by omega) A bs (Ms++[[[I n,L2 es cc],[I 0,I 0,I 0,I 0]]])
    obtain ⟨v3,k3,-,hk3,e3⟩:=pickA code c hc k2 (by omega) 7 (by omega) A bs (Ms++[[[I n,L2 es cc],[I 0,I 0,I 0,I 0]]])
    obtain ⟨v4,k4,-,hk4,e4⟩:=pickA code c hc k3 (by omega) 7 (by omega) A bs (Ms++[[[I n,L2 es cc],[I 0,I 0,I 0,I 0]]])
    obtain ⟨x,k5,-,hk5,e5⟩:=oneA code c hc k4 (by omega) [(v4:Int),-1] (by simp) A bs (Ms++[[[I n,L2 es cc],[I 0,I 0,I 0,I 0]]])
    refine call_ex zt333 rfl ?_
    repeat (first|apply wp_as|apply wp_ss|refine wr (by simp [ev,hv,es1,e0,e1,e2,e3,e4,e5,h1,h1'];with_reducible rfl) ?_|refine wq (by simp [ev,hv,es1,e0,e1,e2,e3,e4,e5,h1,h1'];with_reducible rfl) ?_|refine wt (by simpa [ev,hv,es1,e0,e1,e2,e3,e4,e5,h1,h1']) ?_|refine wf (by simpa [ev,hv,es1,e0,e1,e2,e3,e4,e5,h1,h1']) ?_|refine xt (by simpa [ev,hv,es1,e0,e1,e2,e3,e4,e5,h1,h1']) ?_|refine xf (by simpa [ev,hv,es1,e0,e1,e2,e3,e4,e5,h1,h1']) ?_|apply wp_bs|apply wp_b|refine wp_sr ?_|refine wp_sx ?_|refine wp_ret' ?_|refine wp_skip' ?_|refine wp_exit' ?_)
    refine ⟨.inr rfl,_,⟨v1,v2,v3,x,k5,by omega,rfl⟩,?_⟩
    simp [zi333]
  · have hw1:(0:Int) < v0:=by omega
    have hw1':0 < v0:=by omega
    obtain ⟨v1,k1,hv1,hk1,e1⟩:=pickA code c hc k0 (by omega) (l.length:Int) (by omega) A bs (Ms++[[[I n,L2 es cc],[I 0,I 0,I 0,I 0]]])
    have hv1:=hv1 (by omega)
    have hvl:v1 < l.length:=by omega
    refine call_ex zt333 rfl ?_
    repeat (first|apply wp_as|apply wp_ss|refine wr (by simp [ev,hv,es1,e0,e1,h1,h1',hw1,hw1',hvl];with_reducible rfl) ?_|refine wq (by simp [ev,hv,es1,e0,e1,h1,h1',hw1,hw1',hvl];with_reducible rfl) ?_|refine wt (by simpa [ev,hv,es1,e0,e1,h1,h1',hw1,hw1',hvl]) ?_|refine wf (by simpa [ev,hv,es1,e0,e1,h1,h1',hw1,hw1',hvl]) ?_|refine xt (by simpa [ev,hv,es1,e0,e1,h1,h1',hw1,hw1',hvl]) ?_|refine xf (by simpa [ev,hv,es1,e0,e1,h1,h1',hw1,hw1',hvl]) ?_|apply wp_bs|apply wp_b|refine wp_sr ?_|refine wp_sx ?_|refine wp_ret' ?_|refine wp_skip' ?_|refine wp_exit' ?_)
    refine ⟨.inr rfl,_,⟨l[v1].1,l[v1].2.1,l[v1].2.2.1,l[v1].2.2.2,k1,by omega,rfl⟩,?_⟩
    simp [zi333]
end Go.Idl
namespace Go.Idl
open Go
def tab (t:List (List Int)):List (List IV):=t.map fun r=>[.lst 1 (ints r) false]
def oab (t:List (List Int)):List (List IV):=t.map fun r=>[.own 1 (ints r)]
@[simp] theorem tab_len (t:List (List Int)):(tab t).length=t.length:=by simp [tab]
@[simp] theorem oab_len (t:List (List Int)):(oab t).length=t.length:=by simp [oab]
@[simp] theorem oab_nil:oab []=[]:=rfl
@[simp] theorem tab_get? (t:List (List Int)) (i:Nat):(tab t)[i]? = t[i]?.map fun r=>[IV.lst 1 (ints r) false]:=by simp [tab]
@[simp] theorem tab_get (t:List (List Int)) (i:Nat) (h:i < (tab t).length):(tab t)[i]=[IV.lst 1 (ints (t[i]'(by simpa [tab] using h))) false]:=by simp [tab]
@[simp] theorem oab_get? (t:List (List Int)) (i:Nat):(oab t)[i]? = t[i]?.map fun r=>[IV.own 1 (ints r)]:=by simp [oab]
@[simp] theorem oab_get (t:List (List Int)) (i:Nat) (h:i < (oab t).length):(oab t)[i]=[IV.own 1 (ints (t[i]'(by simpa [oab] using h)))]:=by simp [oab]
@[simp] theorem oab_one (t:List (List Int)) (r:List Int):oab t++[[IV.own 1 (ints r)]]=oab (t++[r]):=by simp [oab]
@[simp] theorem oab_set (t:List (List Int)) (i:Nat) (r:List Int):(oab t).set i [IV.own 1 (ints r)]=oab (t.set i r):=by simp [oab,List.map_set]
@[simp] theorem oab_take (t:List (List Int)) (n:Nat):(oab t).take n=oab (t.take n):=by simp [oab,List.map_take]
@[simp] theorem frz_oab (t:List (List Int)):frzLL (oab t)=tab t:=by
  induction t with
  | nil=>rfl
  | cons x xs ih =>
    simp only [oab,tab,List.map_cons,frzLL,frzL,frzV] at *
    rw [ih]
    have:frzLL (ints x)=ints x:=by
      clear ih
      induction x with
      | nil=>rfl
      | cons y ys ih=>simp only [ints,List.map_cons,frzLL,frzL,frzV] at *;rw [ih]
    rw [this]
@[simp] theorem tab_all1 (t:List (List Int)):((tab t).all fun x=>x.all IV.plain1)=true:=by
  induction t with
  | nil=>rfl
  | cons x xs ih=>simp only [tab,List.map_cons,List.all_cons] at *;rw [ih];rfl
@[simp] theorem oab_noLst (t:List (List Int)):noLstLL (oab t)=true:=by
  induction t with
  | nil=>rfl
  | cons x xs ih =>
    simp only [oab,List.map_cons,noLstLL,noLstL,noLstV] at *
    rw [ih,ints_noLst];rfl
def g2 (t:List (List Int)) (a b:Nat):Int:=(t.getD a []).getD b 0
end Go.Idl
namespace Go.Idl
open Go
def asc0 (s:List Int):List Int:=(fall s).reverse
def overT (s:List Int) (i:Nat):Int:=((asc0 s).take (i+1)).sum - ((i:Int)+1) * i / 2
def over (s:List Int):List Int:=mapR s.length (overT s)
end Go.Idl
namespace Go.Idl
open Go
def VE (es:List (Int×Int)) (x:IV):Prop:=(∃ c,x=L2 es c) ∨ (es=[]∧x=Z)
theorem ev_equalEdges_L (xs ys:List (Int×Int)) (c d:Bool) (hl:xs.length≤1000000) (hm:ys.length≤1000000):Ev tb zl237 [] [L2 xs c,L2 ys d] [] ⟨Bo (decide (xs=ys)),[],[],[]⟩:=by
  by_cases he:xs.length=ys.length
  · have loop:∀ (m i:Nat),i+m=xs.length→wp tb (.loop z237l8) { T:=[(0,L2 xs c),(1,L2 ys d),(5,I i)],loc:=[],M:=[] }
      (fun ex st=>(ex=.exit 0∧xs.drop i=ys.drop i∧st={ T:=[(0,L2 xs c),(1,L2 ys d),(5,I xs.length),(14,Bo false)],loc:=[],M:=[] }) ∨
        ex=.ret∧xs.drop i ≠ ys.drop i∧st={ T:=[(4,Bo false)],loc:=[],M:=[] }):=by
      intro m
      induction m with
      | zero =>
        intro i hi
        have h2:xs.drop i=[]:=List.drop_of_length_le (by omega)
        have h3:i=xs.length:=hi
        subst h3
        have hf:¬ xs.length < ys.length:=by omega
        refine wp_loop ?_
        repeat (first|refine wp_as ?_|refine wp_ss ?_|refine wr (by simp [he];with_reducible rfl) ?_|refine wq (by simp [he];with_reducible rfl) ?_|refine wt (by simpa [he]) ?_|refine wf (by simpa [he]) ?_|refine xt (by simpa [he]) ?_|refine xf (by simpa [he]) ?_|refine wp_bs ?_|refine wp_b ?_|refine wp_sr ?_|refine wp_sx ?_|refine wp_ret' ?_|refine wp_skip' ?_|refine wp_exit' ?_)
        refine .inl ⟨rfl,?_,by simp [he]⟩
        rw [h2,he,List.drop_length]
      | succ m ih =>
        intro i hi
        have hix:i < xs.length:=by omega
        have hiy:i < ys.length:=by omega
        have w2:IntKind.i64.wrap ((i:Int)+1)=((i+1:Nat):Int):=wrapS (by omega)
        rw [List.drop_eq_getElem_cons hix,List.drop_eq_getElem_cons hiy]
        generalize hx:xs[i]=a
        generalize hy:ys[i]=b
        obtain ⟨a1,a2⟩:=a
        obtain ⟨b1,b2⟩:=b
        have gx:(eds xs)[i]'(by simpa using hix)=[I a1,I a2]:=by simp [eds,hx]
        have gy:(eds ys)[i]'(by simpa using hiy)=[I b1,I b2]:=by simp [eds,hy]
        by_cases h1:a1=b1
        · by_cases h2:a2=b2
          · refine wp_loop ?_
            repeat (first|refine wp_as ?_|refine wp_ss ?_|refine wr (by simp [hix,hiy,gx,gy,h1,h2,w2];with_reducible rfl) ?_|refine wq (by simp [hix,hiy,gx,gy,h1,h2,w2];with_reducible rfl) ?_|refine wt (by simpa [hix,hiy,gx,gy,h1,h2,w2]) ?_|refine wf (by simpa [hix,hiy,gx,gy,h1,h2,w2]) ?_|refine xt (by simpa [hix,hiy,gx,gy,h1,h2,w2]) ?_|refine xf (by simpa [hix,hiy,gx,gy,h1,h2,w2]) ?_|refine wp_bs ?_|refine wp_b ?_|refine wp_sr ?_|refine wp_sx ?_|refine wp_ret' ?_|refine wp_skip' ?_|refine wp_exit' ?_)
            refine wp_imp (ih (i+1) (by omega)) ?_
            rintro ex st (⟨rfl,h5,rfl⟩ | ⟨rfl,h5,rfl⟩)
            · exact .inl ⟨rfl,by rw [h1,h2,h5],rfl⟩
            · exact .inr ⟨rfl,by simp [h1,h2,h5],rfl⟩
          · refine wp_loop ?_
            repeat (first|refine wp_as ?_|refine wp_ss ?_|refine wr (by simp [hix,hiy,gx,gy,h1,h2,w2];with_reducible rfl) ?_|refine wq (by simp [hix,hiy,gx,gy,h1,h2,w2];with_reducible rfl) ?_|refine wt (by simpa [hix,hiy,gx,gy,h1,h2,w2]) ?_|refine wf (by simpa [hix,hiy,gx,gy,h1,h2,w2]) ?_|refine xt (by simpa [hix,hiy,gx,gy,h1,h2,w2]) ?_|refine xf (by simpa [hix,hiy,gx,gy,h1,h2,w2]) ?_|refine wp_bs ?_|refine wp_b ?_|refine wp_sr ?_|refine wp_sx ?_|refine wp_ret' ?_|refine wp_skip' ?_|refine wp_exit' ?_)
            exact .inr ⟨rfl,by simp [h1,h2],rfl⟩
        · refine wp_loop ?_
          repeat (first|refine wp_as ?_|refine wp_ss ?_|refine wr (by simp [hix,hiy,gx,gy,h1,w2];with_reducible rfl) ?_|refine wq (by simp [hix,hiy,gx,gy,h1,w2];with_reducible rfl) ?_|refine wt (by simpa [hix,hiy,gx,gy,h1,w2]) ?_|refine wf (by simpa [hix,hiy,gx,gy,h1,w2]) ?_|refine xt (by simpa [hix,hiy,gx,gy,h1,w2]) ?_|refine xf (by simpa [hix,hiy,gx,gy,h1,w2]) ?_|refine wp_bs ?_|refine wp_b ?_|refine wp_sr ?_|refine wp_sx ?_|refine wp_ret' ?_|refine wp_skip' ?_|refine wp_exit' ?_)
          exact .inr ⟨rfl,by simp [h1],rfl⟩
    refine call_of_wp zt237 rfl ?_
    repeat (first|refine wp_as ?_|refine wp_ss ?_|refine wr (by simp [he];with_reducible rfl) ?_|refine wq (by simp [he];with_reducible rfl) ?_|refine wt (by simpa [he]) ?_|refine wf (by simpa [he]) ?_|refine xt (by simpa [he]) ?_|refine xf (by simpa [he]) ?_|refine wp_bs ?_|refine wp_b ?_|refine wp_sr ?_|refine wp_sx ?_|refine wp_ret' ?_|refine wp_skip' ?_|refine wp_exit' ?_)
    refine wp_imp (loop xs.length 0 (by simp)) ?_
    rintro ex st (⟨rfl,h5,rfl⟩ | ⟨rfl,h5,rfl⟩)
    · simp only [if_true]
      repeat (first|refine wp_as ?_|refine wp_ss ?_|refine wr (by simp;with_reducible rfl) ?_|refine wq (by simp;with_reducible rfl) ?_|refine wt (by simpa) ?_|refine wf (by simpa) ?_|refine xt (by simpa) ?_|refine xf (by simpa) ?_|refine wp_bs ?_|refine wp_b ?_|refine wp_sr ?_|refine wp_sx ?_|refine wp_ret' ?_|refine wp_skip' ?_|refine wp_exit' ?_)
      simp only [List.drop_zero] at h5
      simp [zi237,h5]
    · simp only [List.drop_zero] at h5
      simp [zi237,h5]
  · have h5:xs ≠ ys:=fun h=>he (by rw [h])
    have he':((xs.length:Int) != ys.length)=true:=by simp;omega
    refine call_of_wp zt237 rfl ?_
    repeat (first|refine wp_as ?_|refine wp_ss ?_|refine wr (by simp [he,he'];with_reducible rfl) ?_|refine wq (by simp [he,he'];with_reducible rfl) ?_|refine wt (by simpa [he,he']) ?_|refine wf (by simpa [he,he']) ?_|refine xt (by simpa [he,he']) ?_|refine xf (by simpa [he,he']) ?_|refine wp_bs ?_|refine wp_b ?_|refine wp_sr ?_|refine wp_sx ?_|refine wp_ret' ?_|refine wp_skip' ?_|refine wp_exit' ?_)
    simp [zi237,h5]
theorem ev_equalEdges (xs ys:List (Int×Int)) (x y:IV) (hx:VE xs x) (hy:VE ys y) (hl:xs.length≤1000000) (hm:ys.length≤1000000):Ev tb zl237 [] [x,y] [] ⟨Bo (decide (xs=ys)),[],[],[]⟩:=by
  rcases hx with ⟨c,rfl⟩ | ⟨rfl,rfl⟩
  · rcases hy with ⟨d,rfl⟩ | ⟨rfl,rfl⟩
    · exact ev_equalEdges_L xs ys c d hl hm
    · cases xs with
      | nil =>
        refine call_of_wp zt237 rfl ?_
        repeat (first|refine wp_as ?_|refine wp_ss ?_|refine wr (by simp;with_reducible rfl) ?_|refine wq (by simp;with_reducible rfl) ?_|refine wt (by simpa) ?_|refine wf (by simpa) ?_|refine xt (by simpa) ?_|refine xf (by simpa) ?_|refine wp_bs ?_|refine wp_b ?_|refine wp_sr ?_|refine wp_sx ?_|refine wp_ret' ?_|refine wp_skip' ?_|refine wp_exit' ?_)
        refine wp_loop ?_
        repeat (first|refine wp_as ?_|refine wp_ss ?_|refine wr (by simp;with_reducible rfl) ?_|refine wq (by simp;with_reducible rfl) ?_|refine wt (by simpa) ?_|refine wf (by simpa) ?_|refine xt (by simpa) ?_|refine xf (by simpa) ?_|refine wp_bs ?_|refine wp_b ?_|refine wp_sr ?_|refine wp_sx ?_|refine wp_ret' ?_|refine wp_skip' ?_|refine wp_exit' ?_)
        simp [zi237]
      | cons a xs =>
        have h0:¬ (xs.length:Int)+1=0:=by omega
        refine call_of_wp zt237 rfl ?_
        repeat (first|refine wp_as ?_|refine wp_ss ?_|refine wr (by simp [h0];with_reducible rfl) ?_|refine wq (by simp [h0];with_reducible rfl) ?_|refine wt (by simpa [h0]) ?_|refine wf (by simpa [h0]) ?_|refine xt (by simpa [h0]) ?_|refine xf (by simpa [h0]) ?_|refine wp_bs ?_|refine wp_b ?_|refine wp_sr ?_|refine wp_sx ?_|refine wp_ret' ?_|refine wp_skip' ?_|refine wp_exit' ?_)
        simp [zi237]
  · rcases hy with ⟨d,rfl⟩ | ⟨rfl,rfl⟩
    · cases ys with
      | nil =>
        refine call_of_wp zt237 rfl ?_
        repeat (first|refine wp_as ?_|refine wp_ss ?_|refine wr (by simp;with_reducible rfl) ?_|refine wq (by simp;with_reducible rfl) ?_|refine wt (by simpa) ?_|refine wf (by simpa) ?_|refine xt (by simpa) ?_|refine xf (by simpa) ?_|refine wp_bs ?_|refine wp_b ?_|refine wp_sr ?_|refine wp_sx ?_|refine wp_ret' ?_|refine wp_skip' ?_|refine wp_exit' ?_)
        refine wp_loop ?_
        repeat (first|refine wp_as ?_|refine wp_ss ?_|refine wr (by simp;with_reducible rfl) ?_|refine wq (by simp;with_reducible rfl) ?_|refine wt (by simpa) ?_|refine wf (by simpa) ?_|refine xt (by simpa) ?_|refine xf (by simpa) ?_|refine wp_bs ?_|refine wp_b ?_|refine wp_sr ?_|refine wp_sx ?_|refine wp_ret' ?_|refine wp_skip' ?_|refine wp_exit' ?_)
        simp [zi237]
      | cons a ys =>
        have h0:¬ (0:Int)=(ys.length:Int)+1:=by omega
        refine call_of_wp zt237 rfl ?_
        repeat (first|refine wp_as ?_|refine wp_ss ?_|refine wr (by simp [h0];with_reducible rfl) ?_|refine wq (by simp [h0];with_reducible rfl) ?_|refine wt (by simpa [h0]) ?_|refine wf (by simpa [h0]) ?_|refine xt (by simpa [h0]) ?_|refine xf (by simpa [h0]) ?_|refine wp_bs ?_|refine wp_b ?_|refine wp_sr ?_|refine wp_sx ?_|refine wp_ret' ?_|refine wp_skip' ?_|refine wp_exit' ?_)
        simp [zi237]
    · refine call_of_wp zt237 rfl ?_
      repeat (first|refine wp_as ?_|refine wp_ss ?_|refine wr (by simp;with_reducible rfl) ?_|refine wq (by simp;with_reducible rfl) ?_|refine wt (by simpa) ?_|refine wf (by simpa) ?_|refine xt (by simpa) ?_|refine xf (by simpa) ?_|refine wp_bs ?_|refine wp_b ?_|refine wp_sr ?_|refine wp_sx ?_|refine wp_ret' ?_|refine wp_skip' ?_|refine wp_exit' ?_)
      refine wp_loop ?_
      repeat (first|refine wp_as ?_|refine wp_ss ?_|refine wr (by simp;with_reducible rfl) ?_|refine wq (by simp;with_reducible rfl) ?_|refine wt (by simpa) ?_|refine wf (by simpa) ?_|refine xt (by simpa) ?_|refine xf (by simpa) ?_|refine wp_bs ?_|refine wp_b ?_|refine wp_sr ?_|refine wp_sx ?_|refine wp_ret' ?_|refine wp_skip' ?_|refine wp_exit' ?_)
      simp [zi237]
theorem ev_equalGraph (n m:Int) (xs ys:List (Int×Int)) (x y:IV) (hx:VE xs x) (hy:VE ys y) (hl:xs.length≤1000000) (hm:ys.length≤1000000):Ev tb zl238 [] [.agg [I n,x],.agg [I m,y]] [] ⟨Bo (decide (n=m) && decide (xs=ys)),[],[],[]⟩:=by
  have e1:=ev_lim (ev_equalEdges xs ys x y hx hy hl hm)
  by_cases hnm:n=m
  · subst hnm
    rcases hx with ⟨c,rfl⟩ | ⟨rfl,rfl⟩
    · rcases hy with ⟨d,rfl⟩ | ⟨rfl,rfl⟩
      · refine call_of_wp zt238 rfl ?_
        repeat (first|refine wp_as ?_|refine wp_ss ?_|refine wr (by simp [e1];with_reducible rfl) ?_|refine wq (by simp [e1];with_reducible rfl) ?_|refine wt (by simpa [e1]) ?_|refine wf (by simpa [e1]) ?_|refine xt (by simpa [e1]) ?_|refine xf (by simpa [e1]) ?_|refine wp_bs ?_|refine wp_b ?_|refine wp_sr ?_|refine wp_sx ?_|refine wp_ret' ?_|refine wp_skip' ?_|refine wp_exit' ?_)
        simp [zi238]
      · refine call_of_wp zt238 rfl ?_
        repeat (first|refine wp_as ?_|refine wp_ss ?_|refine wr (by simp [e1];with_reducible rfl) ?_|refine wq (by simp [e1];with_reducible rfl) ?_|refine wt (by simpa [e1]) ?_|refine wf (by simpa [e1]) ?_|refine xt (by simpa [e1]) ?_|refine xf (by simpa [e1]) ?_|refine wp_bs ?_|refine wp_b ?_|refine wp_sr ?_|refine wp_sx ?_|refine wp_ret' ?_|refine wp_skip' ?_|refine wp_exit' ?_)
        simp [zi238]
    · rcases hy with ⟨d,rfl⟩ | ⟨rfl,rfl⟩
      · refine call_of_wp zt238 rfl ?_
        repeat (first|refine wp_as ?_|refine wp_ss ?_|refine wr (by simp [e1];with_reducible rfl) ?_|refine wq (by simp [e1];with_reducible rfl) ?_|refine wt (by simpa [e1]) ?_|refine wf (by simpa [e1]) ?_|refine xt (by simpa [e1]) ?_|refine xf (by simpa [e1]) ?_|refine wp_bs ?_|refine wp_b ?_|refine wp_sr ?_|refine wp_sx ?_|refine wp_ret' ?_|refine wp_skip' ?_|refine wp_exit' ?_)
        simp [zi238]
      · refine call_of_wp zt238 rfl ?_
        repeat (first|refine wp_as ?_|refine wp_ss ?_|refine wr (by simp [e1];with_reducible rfl) ?_|refine wq (by simp [e1];with_reducible rfl) ?_|refine wt (by simpa [e1]) ?_|refine wf (by simpa [e1]) ?_|refine xt (by simpa [e1]) ?_|refine xf (by simpa [e1]) ?_|refine wp_bs ?_|refine wp_b ?_|refine wp_sr ?_|refine wp_sx ?_|refine wp_ret' ?_|refine wp_skip' ?_|refine wp_exit' ?_)
        simp [zi238]
  · rcases hx with ⟨c,rfl⟩ | ⟨rfl,rfl⟩
    · rcases hy with ⟨d,rfl⟩ | ⟨rfl,rfl⟩
      · refine call_of_wp zt238 rfl ?_
        repeat (first|refine wp_as ?_|refine wp_ss ?_|refine wr (by simp [hnm];with_reducible rfl) ?_|refine wq (by simp [hnm];with_reducible rfl) ?_|refine wt (by simpa [hnm]) ?_|refine wf (by simpa [hnm]) ?_|refine xt (by simpa [hnm]) ?_|refine xf (by simpa [hnm]) ?_|refine wp_bs ?_|refine wp_b ?_|refine wp_sr ?_|refine wp_sx ?_|refine wp_ret' ?_|refine wp_skip' ?_|refine wp_exit' ?_)
        simp [zi238,hnm]
      · refine call_of_wp zt238 rfl ?_
        repeat (first|refine wp_as ?_|refine wp_ss ?_|refine wr (by simp [hnm];with_reducible rfl) ?_|refine wq (by simp [hnm];with_reducible rfl) ?_|refine wt (by simpa [hnm]) ?_|refine wf (by simpa [hnm]) ?_|refine xt (by simpa [hnm]) ?_|refine xf (by simpa [hnm]) ?_|refine wp_bs ?_|refine wp_b ?_|refine wp_sr ?_|refine wp_sx ?_|refine wp_ret' ?_|refine wp_skip' ?_|refine wp_exit' ?_)
        simp [zi238,hnm]
    · rcases hy with ⟨d,rfl⟩ | ⟨rfl,rfl⟩
      · refine call_of_wp zt238 rfl ?_
        repeat (first|refine wp_as ?_|refine wp_ss ?_|refine wr (by simp [hnm];with_reducible rfl) ?_|refine wq (by simp [hnm];with_reducible rfl) ?_|refine wt (by simpa [hnm]) ?_|refine wf (by simpa [hnm]) ?_|refine xt (by simpa [hnm]) ?_|refine xf (by simpa [hnm]) ?_|refine wp_bs ?_|refine wp_b ?_|refine wp_sr ?_|refine wp_sx ?_|refine wp_ret' ?_|refine wp_skip' ?_|refine wp_exit' ?_)
        simp [zi238,hnm]
      · refine call_of_wp zt238 rfl ?_
        repeat (first|refine wp_as ?_|refine wp_ss ?_|refine wr (by simp [hnm];with_reducible rfl) ?_|refine wq (by simp [hnm];with_reducible rfl) ?_|refine wt (by simpa [hnm]) ?_|refine wf (by simpa [hnm]) ?_|refine xt (by simpa [hnm]) ?_|refine xf (by simpa [hnm]) ?_|refine wp_bs ?_|refine wp_b ?_|refine wp_sr ?_|refine wp_sx ?_|refine wp_ret' ?_|refine wp_skip' ?_|refine wp_exit' ?_)
        simp [zi238,hnm]
end Go.Idl
namespace Go.Idl
open Go
abbrev L4 (xs:List Q4) (c:Bool):IV:=.lst 4 (sws xs) c
def runI:List (Int×Int)→List Q4→Option (List (Int×Int))
  | es,[]=>some es
  | es,s::r=>if mayI es s.1 s.2.1 s.2.2.1 s.2.2.2 then runI (sw es s.1 s.2.1 s.2.2.1 s.2.2.2) r else none
def runS:List (Int×Int)→List Q4→Option (List (Int×Int))
  | es,[]=>some es
  | es,s::r=>if mayS es s.1 s.2.1 s.2.2.1 s.2.2.2 then runS (swS es s.1 s.2.1 s.2.2.1 s.2.2.2) r else none
abbrev OR (n:Int) (o:Option (List (Int×Int))):IV:=match o with
  | some x=>.tup [OG n x,Bo true]
  | none=>.tup [.agg [I 0,Z],Bo false]
theorem swS_len (es:List (Int×Int)) (a b c d:Int):(swS es a b c d).length≤es.length+2:=by
  have g1:=dropE_len a b es
  have g2:=dropE_len c d (dropE a b es)
  rw [swS,insE_len,insE_len]
  omega
set_option maxHeartbeats 4000000 in
theorem runI_loop (n:Nat) (es:List (Int×Int)) (cc c:Bool) (l:List Q4) (hl:l.length≤100000) :
    ∀ (m j:Nat) (es':List (Int×Int)) (B:Boxes),j+m=l.length→vGraph n es'=true →
    wp tb (.loop z196l12) { T:=[(1,L4 l c),(4,.bptr 0 1 0),(6,.bptr 0 2 0),(21,L4 l c),(22,I l.length),(23,I j)],loc:=[I n,L2 es cc]::[I 0,Z]::[I n,O2 es']::B,M:=[] }
      (fun ex st=>match runI es' (l.drop j) with
        | some x=>ex=.exit 0∧∃ B',st={ T:=[(1,L4 l c),(4,.bptr 0 1 0),(6,.bptr 0 2 0),(21,L4 l c),(22,I l.length),(23,I l.length),(24,Bo false)],loc:=[I n,L2 es cc]::[I 0,Z]::[I n,O2 x]::B',M:=[] }
        | none=>ex=.ret∧∃ B',st={ T:=[(4,.bptr 0 1 0),(5,Bo false)],loc:=[I n,L2 es cc]::[I 0,Z]::B',M:=[] }):=by
  intro m
  induction m with
  | zero =>
    intro j es' B hj hv
    have h3:j=l.length:=hj
    subst h3
    have h2:l.drop l.length=[]:=List.drop_length
    rw [h2]
    refine wp_loop ?_
    repeat (first|apply wp_as|apply wp_ss|refine wr (by simp;with_reducible rfl) ?_|refine wq (by simp;with_reducible rfl) ?_|refine wt (by simpa) ?_|refine wf (by simpa) ?_|refine xt (by simpa) ?_|refine xf (by simpa) ?_|apply wp_bs|apply wp_b|refine wp_sr ?_|refine wp_sx ?_|refine wp_ret' ?_|refine wp_skip' ?_|refine wp_exit' ?_)
    exact ⟨rfl,_,rfl⟩
  | succ m ih =>
    intro j es' B hj hv
    have hjl:j < l.length:=by omega
    have h2:l.drop j=l[j]::l.drop (j+1):=List.drop_eq_getElem_cons hjl
    obtain ⟨⟨a,b,x,d⟩,hx⟩:∃ x,x=l[j]:=⟨_,rfl⟩
    have hx2:=hx.symm
    have w2:IntKind.i64.wrap ((j:Int)+1)=((j+1:Nat):Int):=wrapS (by omega)
    have e1:=fun cc=>ev_lim (ev_change n es' cc a b x d hv)
    rw [h2,hx2,runI]
    cases hm:mayI es' a b x d with
    | false =>
      simp only [OS,hm,Bool.false_eq_true,if_false] at e1
      refine wp_loop ?_
      repeat (first|apply wp_as|apply wp_ss|refine wr (by simp [hjl,hx2,e1,w2];with_reducible rfl) ?_|refine wq (by simp [hjl,hx2,e1,w2];with_reducible rfl) ?_|refine wt (by simpa [hjl,hx2,e1,w2]) ?_|refine wf (by simpa [hjl,hx2,e1,w2]) ?_|refine xt (by simpa [hjl,hx2,e1,w2]) ?_|refine xf (by simpa [hjl,hx2,e1,w2]) ?_|apply wp_bs|apply wp_b|refine wp_sr ?_|refine wp_sx ?_|refine wp_ret' ?_|refine wp_skip' ?_|refine wp_exit' ?_)
      exact ⟨rfl,_,rfl⟩
    | true =>
      simp only [OS,hm,if_true] at e1
      obtain ⟨-,-,q3,-⟩:=swX_ok hv hm
      have hn:=fun B=>ih (j+1) (sw es' a b x d) B (by omega) q3
      refine wp_loop ?_
      repeat (first|apply wp_as|apply wp_ss|refine wr (by simp [hjl,hx2,e1,w2];with_reducible rfl) ?_|refine wq (by simp [hjl,hx2,e1,w2];with_reducible rfl) ?_|refine wt (by simpa [hjl,hx2,e1,w2]) ?_|refine wf (by simpa [hjl,hx2,e1,w2]) ?_|refine xt (by simpa [hjl,hx2,e1,w2]) ?_|refine xf (by simpa [hjl,hx2,e1,w2]) ?_|apply wp_bs|apply wp_b|refine wp_sr ?_|refine wp_sx ?_|refine wp_ret' ?_|refine wp_skip' ?_|refine wp_exit' ?_)
      exact hn _
set_option maxHeartbeats 4000000 in
theorem ev_RunSwitches (n:Nat) (es:List (Int×Int)) (cc:Bool) (l:List Q4) (c:Bool) (hv:vGraph n es=true) (f1:Fit es) (l1:es.length≤1000) (hl:l.length≤100000) :
    Ev tb zl196 [] [Gr n es cc,L4 l c] [] ⟨OR n (runI es l),[],[],[]⟩:=by
  have e1:=fun c=>ev_lim (ev_ValidGraph n es c f1 (by omega))
  rw [hv] at e1
  have e2:=fun c=>ev_lim (ev_clone2 2 es c (.inl rfl) (by omega))
  have loop:=runI_loop n es cc c l hl l.length 0 es [] (by omega) hv
  rw [List.drop_zero] at loop
  refine call_of_wp zt196 rfl ?_
  repeat (first|apply wp_as|apply wp_ss|refine wr (by simp [e1];with_reducible rfl) ?_|refine wq (by simp [e1];with_reducible rfl) ?_|refine wt (by simpa [e1]) ?_|refine wf (by simpa [e1]) ?_|refine xt (by simpa [e1]) ?_|refine xf (by simpa [e1]) ?_|apply wp_bs|apply wp_b|refine wp_sr ?_|refine wp_sx ?_|refine wp_ret' ?_|refine wp_skip' ?_|refine wp_exit' ?_)
  refine wp_rds0 rfl (by simp [e2];with_reducible rfl) (by simp;with_reducible rfl) ?_
  repeat (first|apply wp_as|apply wp_ss|refine wr (by simp;with_reducible rfl) ?_|refine wq (by simp;with_reducible rfl) ?_|refine wt (by simpa) ?_|refine wf (by simpa) ?_|refine xt (by simpa) ?_|refine xf (by simpa) ?_|apply wp_bs|apply wp_b|refine wp_sr ?_|refine wp_sx ?_|refine wp_ret' ?_|refine wp_skip' ?_|refine wp_exit' ?_)
  refine wp_imp loop ?_
  intro ex st hst
  cases hr:runI es l with
  | none =>
    rw [hr] at hst
    obtain ⟨rfl,B',rfl⟩:=hst
    simp [zi196]
  | some x =>
    rw [hr] at hst
    obtain ⟨rfl,B',rfl⟩:=hst
    repeat (first|apply wp_as|apply wp_ss|refine wr (by simp;with_reducible rfl) ?_|refine wq (by simp;with_reducible rfl) ?_|refine wt (by simpa) ?_|refine wf (by simpa) ?_|refine xt (by simpa) ?_|refine xf (by simpa) ?_|apply wp_bs|apply wp_b|refine wp_sr ?_|refine wp_sx ?_|refine wp_ret' ?_|refine wp_skip' ?_|refine wp_exit' ?_)
    simp [zi196]
theorem ev_RunSwitches_no (n:Int) (es:List (Int×Int)) (cc:Bool) (x:IV) (hx:x=Z ∨ ∃ l c,x=L4 l c) (hv:vGraph n es=false) (f1:Fit es) (l1:es.length≤1000) :
    Ev tb zl196 [] [Gr n es cc,x] [] ⟨.tup [.agg [I 0,Z],Bo false],[],[],[]⟩:=by
  have e1:=fun c=>ev_lim (ev_ValidGraph n es c f1 (by omega))
  rw [hv] at e1
  rcases hx with rfl | ⟨l,c,rfl⟩ <;>
  · refine call_of_wp zt196 rfl ?_
    repeat (first|apply wp_as|apply wp_ss|refine wr (by simp [e1];with_reducible rfl) ?_|refine wq (by simp [e1];with_reducible rfl) ?_|refine wt (by simpa [e1]) ?_|refine wf (by simpa [e1]) ?_|refine xt (by simpa [e1]) ?_|refine xf (by simpa [e1]) ?_|apply wp_bs|apply wp_b|refine wp_sr ?_|refine wp_sx ?_|refine wp_ret' ?_|refine wp_skip' ?_|refine wp_exit' ?_)
    simp [zi196]
set_option maxHeartbeats 4000000 in
theorem runS_loop (n:Int) (es:List (Int×Int)) (cc c:Bool) (l:List Q4) (hl:l.length≤1000) :
    ∀ (m j:Nat) (es':List (Int×Int)) (B:Boxes),j+m=l.length→es'.length+2 * m≤90000 →
    wp tb (.loop z326l10) { T:=[(1,L4 l c),(4,.bptr 0 1 0),(6,.bptr 0 2 0),(7,I j)],loc:=[I n,L2 es cc]::[I 0,Z]::[I n,O2 es']::B,M:=[] }
      (fun ex st=>match runS es' (l.drop j) with
        | some x=>ex=.exit 0∧∃ B',st={ T:=[(1,L4 l c),(4,.bptr 0 1 0),(6,.bptr 0 2 0),(7,I l.length),(22,Bo false)],loc:=[I n,L2 es cc]::[I 0,Z]::[I n,O2 x]::B',M:=[] }
        | none=>ex=.ret∧∃ B',st={ T:=[(4,.bptr 0 1 0),(5,Bo false)],loc:=[I n,L2 es cc]::[I 0,Z]::B',M:=[] }):=by
  intro m
  induction m with
  | zero =>
    intro j es' B hj hb
    have h3:j=l.length:=hj
    subst h3
    have h2:l.drop l.length=[]:=List.drop_length
    rw [h2]
    refine wp_loop ?_
    repeat (first|apply wp_as|apply wp_ss|refine wr (by simp;with_reducible rfl) ?_|refine wq (by simp;with_reducible rfl) ?_|refine wt (by simpa) ?_|refine wf (by simpa) ?_|refine xt (by simpa) ?_|refine xf (by simpa) ?_|apply wp_bs|apply wp_b|refine wp_sr ?_|refine wp_sx ?_|refine wp_ret' ?_|refine wp_skip' ?_|refine wp_exit' ?_)
    exact ⟨rfl,_,rfl⟩
  | succ m ih =>
    intro j es' B hj hb
    have hjl:j < l.length:=by omega
    have h2:l.drop j=l[j]::l.drop (j+1):=List.drop_eq_getElem_cons hjl
    obtain ⟨⟨a,b,x,d⟩,hx⟩:∃ x,x=l[j]:=⟨_,rfl⟩
    have hx2:=hx.symm
    have w2:IntKind.i64.wrap ((j:Int)+1)=((j+1:Nat):Int):=wrapS (by omega)
    have e1:=fun cc=>ev_lim (ev_maySwitch n es' cc a b x d (by omega))
    have e2:=fun cc=>ev_lim (ev_switched n es' cc a b x d (by omega))
    rw [h2,hx2,runS]
    cases hm:mayS es' a b x d with
    | false =>
      rw [hm] at e1
      refine wp_loop ?_
      repeat (first|apply wp_as|apply wp_ss|refine wr (by simp [hjl,hx2,e1,w2];with_reducible rfl) ?_|refine wq (by simp [hjl,hx2,e1,w2];with_reducible rfl) ?_|refine wt (by simpa [hjl,hx2,e1,w2]) ?_|refine wf (by simpa [hjl,hx2,e1,w2]) ?_|refine xt (by simpa [hjl,hx2,e1,w2]) ?_|refine xf (by simpa [hjl,hx2,e1,w2]) ?_|apply wp_bs|apply wp_b|refine wp_sr ?_|refine wp_sx ?_|refine wp_ret' ?_|refine wp_skip' ?_|refine wp_exit' ?_)
      exact ⟨rfl,_,rfl⟩
    | true =>
      rw [hm] at e1
      have hn:=fun B=>ih (j+1) (swS es' a b x d) B (by omega) (by
        have:=swS_len es' a b x d
        omega)
      refine wp_loop ?_
      repeat (first|apply wp_as|apply wp_ss|refine wr (by simp [hjl,hx2,e1,e2,w2];with_reducible rfl) ?_|refine wq (by simp [hjl,hx2,e1,e2,w2];with_reducible rfl) ?_|refine wt (by simpa [hjl,hx2,e1,e2,w2]) ?_|refine wf (by simpa [hjl,hx2,e1,e2,w2]) ?_|refine xt (by simpa [hjl,hx2,e1,e2,w2]) ?_|refine xf (by simpa [hjl,hx2,e1,e2,w2]) ?_|apply wp_bs|apply wp_b|refine wp_sr ?_|refine wp_sx ?_|refine wp_ret' ?_|refine wp_skip' ?_|refine wp_exit' ?_)
      exact hn _
set_option maxHeartbeats 4000000 in
theorem ev_spec_RunSwitches (n:Int) (es:List (Int×Int)) (cc:Bool) (l:List Q4) (c:Bool) (l1:es.length≤1000) (hl:l.length≤1000) :
    Ev tb zl326 [] [Gr n es cc,L4 l c] [] ⟨OR n (if vGraph n es then runS es l else none),[],[],[]⟩:=by
  have e1:=fun c=>ev_lim (ev_validGraph n es c (by omega))
  cases hv:vGraph n es with
  | false =>
    rw [hv] at e1
    refine call_of_wp zt326 rfl ?_
    repeat (first|apply wp_as|apply wp_ss|refine wr (by simp [e1];with_reducible rfl) ?_|refine wq (by simp [e1];with_reducible rfl) ?_|refine wt (by simpa [e1]) ?_|refine wf (by simpa [e1]) ?_|refine xt (by simpa [e1]) ?_|refine xf (by simpa [e1]) ?_|apply wp_bs|apply wp_b|refine wp_sr ?_|refine wp_sx ?_|refine wp_ret' ?_|refine wp_skip' ?_|refine wp_exit' ?_)
    simp [zi326]
  | true =>
  rw [hv] at e1
  have loop:=runS_loop n es cc c l hl l.length 0 es [] (by omega) (by omega)
  rw [List.drop_zero] at loop
  refine call_of_wp zt326 rfl ?_
  repeat (first|apply wp_as|apply wp_ss|refine wr (by simp [e1];with_reducible rfl) ?_|refine wq (by simp [e1];with_reducible rfl) ?_|refine wt (by simpa [e1]) ?_|refine wf (by simpa [e1]) ?_|refine xt (by simpa [e1]) ?_|refine xf (by simpa [e1]) ?_|apply wp_bs|apply wp_b|refine wp_sr ?_|refine wp_sx ?_|refine wp_ret' ?_|refine wp_skip' ?_|refine wp_exit' ?_)
  have hL:es.length≤274877906944:=by omega
  refine wp_rds rfl (by simp [hL];with_reducible rfl) (by simp;with_reducible rfl) ?_ ?_
  · intro p hp
    simp only [List.mem_cons,List.not_mem_nil,or_false] at hp
    rcases hp with rfl | rfl | rfl | rfl | rfl | rfl | rfl | rfl | rfl | rfl | rfl | rfl | rfl | rfl | rfl | rfl | rfl
    · exact ⟨_,by simp [hL];with_reducible rfl,by simp⟩
    · exact ⟨_,by simp [hL];with_reducible rfl,by simp⟩
    · exact ⟨_,by simp [hL];with_reducible rfl,by simp⟩
    · exact ⟨_,by simp [hL];with_reducible rfl,by simp⟩
    · exact ⟨_,by simp [hL];with_reducible rfl,by simp⟩
    · exact ⟨_,by simp [hL];with_reducible rfl,by simp⟩
    · exact ⟨_,by simp [hL];with_reducible rfl,by simp⟩
    · exact ⟨_,by simp [hL];with_reducible rfl,by simp⟩
    · exact ⟨_,by simp [hL];with_reducible rfl,by simp⟩
    · exact ⟨_,by simp [hL];with_reducible rfl,by simp⟩
    · exact ⟨_,by simp [hL];with_reducible rfl,by simp⟩
    · exact ⟨_,by simp [hL];with_reducible rfl,by simp⟩
    · exact ⟨_,by simp [hL];with_reducible rfl,by simp⟩
    · exact ⟨_,by simp [hL];with_reducible rfl,by simp⟩
    · exact ⟨_,by simp [hL];with_reducible rfl,by simp⟩
    · exact ⟨_,by simp [hL];with_reducible rfl,by simp⟩
    · exact ⟨_,by simp [hL];with_reducible rfl,by simp⟩
  repeat (first|apply wp_as|apply wp_ss|refine wr (by simp;with_reducible rfl) ?_|refine wq (by simp;with_reducible rfl) ?_|refine wt (by simpa) ?_|refine wf (by simpa) ?_|refine xt (by simpa) ?_|refine xf (by simpa) ?_|apply wp_bs|apply wp_b|refine wp_sr ?_|refine wp_sx ?_|refine wp_ret' ?_|refine wp_skip' ?_|refine wp_exit' ?_)
  refine wp_imp loop ?_
  intro ex st hst
  simp only [if_true]
  cases hr:runS es l with
  | none =>
    rw [hr] at hst
    obtain ⟨rfl,B',rfl⟩:=hst
    simp [zi326]
  | some x =>
    rw [hr] at hst
    obtain ⟨rfl,B',rfl⟩:=hst
    repeat (first|apply wp_as|apply wp_ss|refine wr (by simp;with_reducible rfl) ?_|refine wq (by simp;with_reducible rfl) ?_|refine wt (by simpa) ?_|refine wf (by simpa) ?_|refine xt (by simpa) ?_|refine xf (by simpa) ?_|apply wp_bs|apply wp_b|refine wp_sr ?_|refine wp_sx ?_|refine wp_ret' ?_|refine wp_skip' ?_|refine wp_exit' ?_)
    simp [zi326]
end Go.Idl
namespace Go.Idl
open Go
set_option maxHeartbeats 4000000 in
theorem drR_loop (code:List Int) (c:Bool) (hc:CodeOk code) (n:Int) (es:List (Int×Int)) :
    ∀ (m cnt:Nat) (acc:List Q4) (now:List (Int×Int)) (B:Boxes),cnt+11 * m≤80000→now.length+2 * m≤100→acc.length+m≤100 →
    wp tb (.loop z444l12) { T:=[(2,.bptr 0 0 0),(4,.bptr 0 1 0),(5,.bptr 0 2 0),(6,O4 acc),(7,.bptr 0 3 0),(8,I m)],loc:=[I 0,Z]::R code c cnt::[I n,L2 es false]::[I n,L2 now false]::B,M:=[] }
      (fun ex st=>ex=.exit 0∧∃ (l:List Q4) (k:Nat) (now':List (Int×Int)) (B':Boxes),l.length≤acc.length+m∧st={ T:=[(2,.bptr 0 0 0),(4,.bptr 0 1 0),(5,.bptr 0 2 0),(6,O4 l),(7,.bptr 0 3 0),(8,I 0),(19,Bo false)],loc:=[I 0,Z]::R code c k::[I n,L2 es false]::[I n,L2 now' false]::B',M:=[] }):=by
  intro m
  induction m with
  | zero =>
    intro cnt acc now B h1 h2 h3
    refine wp_loop ?_
    repeat (first|apply wp_as|apply wp_ss|refine wr (by simp;with_reducible rfl) ?_|refine wq (by simp;with_reducible rfl) ?_|refine wt (by simpa) ?_|refine wf (by simpa) ?_|refine xt (by simpa) ?_|refine xf (by simpa) ?_|apply wp_bs|apply wp_b|refine wp_sr ?_|refine wp_sx ?_|refine wp_ret' ?_|refine wp_skip' ?_|refine wp_exit' ?_)
    exact ⟨rfl,acc,cnt,now,B,by omega,rfl⟩
  | succ m ih =>
    intro cnt acc now B h1 h2 h3
    obtain ⟨a,b,s,d,k,hk,e1⟩:=ev_aSwitch code c hc cnt (by omega) n now false (by omega) [[I 0,Z]] ([I n,L2 es false]::[I n,L2 now false]::B) []
    have ev:=fun cc=>ev_lim (ev_validGraph n now cc (by omega))
    have em:=fun cc=>ev_lim (ev_maySwitch n now cc a b s d (by omega))
    have es':=fun cc=>ev_lim (ev_switched n now cc a b s d (by omega))
    have hsl:=swS_len now a b s d
    simp only [List.length_cons,List.length_nil,List.cons_append,List.nil_append,Nat.zero_add] at e1
    have w1:IntKind.i64.wrap (((m+1:Nat):Int) - 1)=(m:Int):=by rw [wrap64 (by omega) (by omega)];omega
    have w1':IntKind.i64.wrap ((m:Int)+1 - 1)=(m:Int):=by rw [wrap64 (by omega) (by omega)];omega
    have w0:IntKind.i64.wrap (m:Int)=(m:Int):=wrap64 (by omega) (by omega)
    have hp:(0:Int) < (m:Int)+1:=by omega
    have ha:acc.length+1≤274877906944:=by omega
    have fin:∀ now2 B2,now2.length+2 * m≤100→wp tb (.loop z444l12) { T:=[(2,.bptr 0 0 0),(4,.bptr 0 1 0),(5,.bptr 0 2 0),(6,O4 (acc++[(a,b,s,d)])),(7,.bptr 0 3 0),(8,I m)],loc:=[I 0,Z]::R code c k::[I n,L2 es false]::[I n,L2 now2 false]::B2,M:=[] }
      (fun ex st=>ex=.exit 0∧∃ (l:List Q4) (k:Nat) (now':List (Int×Int)) (B':Boxes),l.length≤acc.length+(m+1)∧st={ T:=[(2,.bptr 0 0 0),(4,.bptr 0 1 0),(5,.bptr 0 2 0),(6,O4 l),(7,.bptr 0 3 0),(8,I 0),(19,Bo false)],loc:=[I 0,Z]::R code c k::[I n,L2 es false]::[I n,L2 now' false]::B',M:=[] }):=by
      intro now2 B2 hn2
      refine wp_imp (ih k (acc++[(a,b,s,d)]) now2 B2 (by omega) hn2 (by simp;omega)) ?_
      rintro ex st ⟨rfl,l,k',now',B',q1,rfl⟩
      exact ⟨rfl,l,k',now',B',by simp at q1;omega,rfl⟩
    cases hv:vGraph n now with
    | false =>
      rw [hv] at ev
      refine wp_loop ?_
      repeat (first|apply wp_as|apply wp_ss|refine wr (by simp [e1,ev,w0,w1,w1',hp,ha];with_reducible rfl) ?_|refine wq (by simp [e1,ev,w0,w1,w1',hp,ha];with_reducible rfl) ?_|refine wt (by simpa [e1,ev,w0,w1,w1',hp,ha]) ?_|refine wf (by simpa [e1,ev,w0,w1,w1',hp,ha]) ?_|refine xt (by simpa [e1,ev,w0,w1,w1',hp,ha]) ?_|refine xf (by simpa [e1,ev,w0,w1,w1',hp,ha]) ?_|apply wp_bs|apply wp_b|refine wp_sr ?_|refine wp_sx ?_|refine wp_ret' ?_|refine wp_skip' ?_|refine wp_exit' ?_)
      exact fin now _ (by omega)
    | true =>
      rw [hv] at ev
      cases hm:mayS now a b s d with
      | false =>
        rw [hm] at em
        refine wp_loop ?_
        repeat (first|apply wp_as|apply wp_ss|refine wr (by simp [e1,ev,em,w0,w1,w1',hp,ha];with_reducible rfl) ?_|refine wq (by simp [e1,ev,em,w0,w1,w1',hp,ha];with_reducible rfl) ?_|refine wt (by simpa [e1,ev,em,w0,w1,w1',hp,ha]) ?_|refine wf (by simpa [e1,ev,em,w0,w1,w1',hp,ha]) ?_|refine xt (by simpa [e1,ev,em,w0,w1,w1',hp,ha]) ?_|refine xf (by simpa [e1,ev,em,w0,w1,w1',hp,ha]) ?_|apply wp_bs|apply wp_b|refine wp_sr ?_|refine wp_sx ?_|refine wp_ret' ?_|refine wp_skip' ?_|refine wp_exit' ?_)
        exact fin now _ (by omega)
      | true =>
        rw [hm] at em
        refine wp_loop ?_
        repeat (first|apply wp_as|apply wp_ss|refine wr (by simp [e1,ev,em,es',w0,w1,w1',hp,ha];with_reducible rfl) ?_|refine wq (by simp [e1,ev,em,es',w0,w1,w1',hp,ha];with_reducible rfl) ?_|refine wt (by simpa [e1,ev,em,es',w0,w1,w1',hp,ha]) ?_|refine wf (by simpa [e1,ev,em,es',w0,w1,w1',hp,ha]) ?_|refine xt (by simpa [e1,ev,em,es',w0,w1,w1',hp,ha]) ?_|refine xf (by simpa [e1,ev,em,es',w0,w1,w1',hp,ha]) ?_|apply wp_bs|apply wp_b|refine wp_sr ?_|refine wp_sx ?_|refine wp_ret' ?_|refine wp_skip' ?_|refine wp_exit' ?_)
        exact fin (swS now a b s d) _ (by omega)
theorem ev_DrawRunSwitches (code:List Int) (c:Bool) (h:∀ x ∈ code,0≤x∧x≤255) (hl:code.length≤10000000) :
    ∃ (n:Int) (es:List (Int×Int)) (l:List Q4),SmallG n es∧l.length≤3∧limF tb zl444 [] [.lst 1 (bytes code) c] []=some ⟨.tup [Gr n es false,O4 l],[],[],[]⟩:=by
  obtain ⟨c',e⟩:=ev_newReader code c [[[I 0,Z]]] (by omega)
  have e1:=ev_lim e
  obtain ⟨n,es,k,h1,h2,e2⟩:=ev_someGraph (code.take 2000) c' (code_ok h) 0 (by omega) [[I 0,Z]] [] []
  have hlen:=h1.len
  obtain ⟨v,k2,hv,hk2,e3⟩:=pickA (code.take 2000) c' (code_ok h) k (by omega) 4 (by omega) [[I 0,Z]] [[I n,L2 es false],[I n,L2 es false]] []
  have hv:=hv (by omega)
  suffices hh:∃ r,(∃ (l:List Q4),l.length≤3∧r=⟨.tup [Gr n es false,O4 l],[],[],[]⟩)∧Ev tb zl444 [] [.lst 1 (bytes code) c] [] r by
    obtain ⟨r,⟨l,q1,rfl⟩,q4⟩:=hh
    exact ⟨n,es,l,h1,q1,ev_lim q4⟩
  rw [show ((0:Nat):Int)=0 from rfl] at e2
  simp only [List.length_cons,List.length_nil,List.cons_append,List.nil_append,Nat.zero_add] at e2 e3
  have loop:=drR_loop (code.take 2000) c' (code_ok h) n es v k2 [] es [] (by omega) (by omega) (by simp;omega)
  refine call_ex zt444 rfl ?_
  repeat (first|apply wp_as|apply wp_ss|refine wr (by simp [e1,e2,e3];with_reducible rfl) ?_|refine wq (by simp [e1,e2,e3];with_reducible rfl) ?_|refine wt (by simpa [e1,e2,e3]) ?_|refine wf (by simpa [e1,e2,e3]) ?_|refine xt (by simpa [e1,e2,e3]) ?_|refine xf (by simpa [e1,e2,e3]) ?_|apply wp_bs|apply wp_b|refine wp_sr ?_|refine wp_sx ?_|refine wp_ret' ?_|refine wp_skip' ?_|refine wp_exit' ?_)
  refine wp_imp loop ?_
  rintro ex st ⟨rfl,l,k',now',B',q1,rfl⟩
  try simp only [if_true]
  repeat (first|apply wp_as|apply wp_ss|refine wr (by simp;with_reducible rfl) ?_|refine wq (by simp;with_reducible rfl) ?_|refine wt (by simpa) ?_|refine wf (by simpa) ?_|refine xt (by simpa) ?_|refine xf (by simpa) ?_|apply wp_bs|apply wp_b|refine wp_sr ?_|refine wp_sx ?_|refine wp_ret' ?_|refine wp_skip' ?_|refine wp_exit' ?_)
  refine ⟨.inr rfl,_,⟨l,by simp at q1;omega,rfl⟩,?_⟩
  simp [zi444]
end Go.Idl
namespace Go.Idl
def insP (x:Nat×Nat):List (Nat×Nat)→List (Nat×Nat)
  | []=>[x]
  | y::r=>if Nat.ble y.1 x.1 then x::y::r else y::insP x r
def hh:Nat→List (Nat×Nat)→List (Nat×Nat)
  | 0,_=>[]
  | _+1,[]=>[]
  | m+1,x::r=>(r.take x.1).map (fun y:Nat×Nat=>(x.2,y.2))++hh m ((((r.take x.1).map (fun y:Nat×Nat=>(y.1 - 1,y.2))++r.drop x.1:List (Nat×Nat))).foldr insP [])
def mk (u v:Nat):Int×Int:=(min (u:Int) v,max (u:Int) v)
end Go.Idl
namespace Go.Idl
theorem insE_pw {e:Int×Int}:∀ {es:List (Int×Int)},PW es→e ∉ es→PW (insE e es)
  | [],_,_=>by simp [insE,PW]
  | x::r,h,hn=>by
    have h':=List.pairwise_cons.1 h
    rw [insE]
    split
    · rename_i hx
      refine List.pairwise_cons.2 ⟨fun y hy=>?_,insE_pw h'.2 fun hm=>hn (by simp [hm])⟩
      rcases (insE_mem _ _ _).1 hy with rfl | hy
      · exact hx
      · exact h'.1 y hy
    · rename_i hx
      have hxe:below e x=true:=by
        rcases below_total (a:=e) (b:=x) (fun h=>hn (by simp [h])) with q | q
        · exact q
        · exact absurd q hx
      refine List.pairwise_cons.2 ⟨fun y hy=>?_,h⟩
      rcases List.mem_cons.1 hy with rfl | hy
      · exact hxe
      · exact below_trans hxe (h'.1 y hy)
end Go.Idl
namespace Go.Idl
theorem mem_sw {es:List (Int×Int)} {a b c d:Int} {e:Int×Int}:e ∈ sw es a b c d ↔ (e ∈ es∧e ≠ (min a b,max a b)∧e ≠ (min c d,max c d)) ∨ e=(min a c,max a c) ∨ e=(min b d,max b d):=by
  rw [sw,(srtE_perm _).mem_iff,swX,List.mem_append,List.mem_filter]
  simp only [gone,Bool.not_eq_true',Bool.or_eq_false_iff,decide_eq_false_iff_not,List.mem_cons,List.not_mem_nil,or_false,ne_eq]
theorem has_hasM {n:Nat} {es:List (Int×Int)} (h:∀ e ∈ es,e ∈ prs n) (a b:Int):has es a b=hasM es a b:=by
  rw [Bool.eq_iff_iff,hasM_iff,has,List.any_eq_true]
  constructor
  · rintro ⟨e,he,hi⟩
    have hp:=mem_prs.1 (h e he)
    simp only [isE,Bool.or_eq_true,Bool.and_eq_true,decide_eq_true_eq] at hi
    have h2:e=(min a b,max a b):=Prod.ext (by simp only;omega) (by simp only;omega)
    rw [← h2];exact he
  · intro hm
    refine ⟨_,hm,?_⟩
    simp only [isE,Bool.or_eq_true,Bool.and_eq_true,decide_eq_true_eq]
    omega
theorem may_eq {n:Nat} {es:List (Int×Int)} (h:vGraph n es=true) (a b c d:Int):mayS es a b c d=mayI es a b c d:=by
  have hin:=(vG_iff.1 h).2.1
  rw [Bool.eq_iff_iff,mayI_iff]
  simp only [mayS,has_hasM hin,Bool.and_eq_true,decide_eq_true_eq,Bool.not_eq_true',hasM_iff,hasM_no,and_assoc]
  constructor
  · rintro ⟨h1,h2,h3,h4,m1,m2,m3,m4⟩
    have p1:=mem_prs.1 (hin _ m1)
    have p2:=mem_prs.1 (hin _ m2)
    simp only at p1 p2
    exact ⟨by omega,h1,h3,fun h=>h4 h,h2,by omega,m1,m2,m3,m4⟩
  · rintro ⟨h1,h2,h3,h4,h5,h6,m1,m2,m3,m4⟩
    exact ⟨h2,h5,h3,h4,m1,m2,m3,m4⟩
theorem four_ne {a b c d:Int} (h:a ≠ b∧a ≠ c∧a ≠ d∧b ≠ c∧b ≠ d∧c ≠ d) :
    ((min a b,max a b):Int×Int) ≠ (min c d,max c d)∧((min a b,max a b):Int×Int) ≠ (min a c,max a c)∧((min a b,max a b):Int×Int) ≠ (min b d,max b d) ∧
    ((min c d,max c d):Int×Int) ≠ (min a c,max a c)∧((min c d,max c d):Int×Int) ≠ (min b d,max b d)∧((min a c,max a c):Int×Int) ≠ (min b d,max b d):=by
  simp only [ne_eq,Prod.mk.injEq]
  omega
theorem sw_eq {n:Nat} {es:List (Int×Int)} {a b c d:Int} (h:vGraph n es=true) (hm:mayI es a b c d=true):swS es a b c d=sw es a b c d:=by
  obtain ⟨h1,h2,h3⟩:=vG_iff.1 h
  obtain ⟨hd,m1,m2,m3,m4⟩:=mayI_iff.1 hm
  have f4:=four_ne hd
  have hs1:PW (dropE c d (dropE a b es)):=(h1.filter _).filter _
  have hs2:∀ e,e ∈ dropE c d (dropE a b es) ↔ e ∈ es∧e ≠ (min a b,max a b)∧e ≠ (min c d,max c d):=fun e=>by
    simp only [dropE,List.mem_filter,dropP,Bool.not_eq_true',Bool.and_eq_false_imp,decide_eq_true_eq,decide_eq_false_iff_not,and_assoc,ne_eq,Prod.ext_iff,not_and]
  have n1:((min a c,max a c):Int×Int) ∉ dropE c d (dropE a b es):=fun hh=>m3 ((hs2 _).1 hh).1
  have n2:((min b d,max b d):Int×Int) ∉ insE (min a c,max a c) (dropE c d (dropE a b es)):=fun hh=>by
    rcases (insE_mem _ _ _).1 hh with hh | hh
    · exact f4.2.2.2.2.2 hh.symm
    · exact m4 ((hs2 _).1 hh).1
  refine pw_ext (insE_pw (insE_pw hs1 n1) n2) (srtE_pw (swX_ok h hm).1) fun e=>?_
  show e ∈ insE _ _ ↔ e ∈ sw es a b c d
  rw [insE_mem,insE_mem,hs2,mem_sw]
  constructor
  · rintro (h | h | h)
    · exact .inr (.inr h)
    · exact .inr (.inl h)
    · exact .inl h
  · rintro (h | h | h)
    · exact .inr (.inr h)
    · exact .inr (.inl h)
    · exact .inl h
theorem inc_mm (v:Nat) (a c:Int):inc v (min a c,max a c)=(if a=v then 1 else 0)+(if c=v then 1 else 0):=by
  rcases Int.le_total a c with h | h
  · rw [inc,Int.min_eq_left h,Int.max_eq_right h]
  · rw [inc,Int.min_eq_right h,Int.max_eq_left h,Int.add_comm]
theorem sw_deg {n:Nat} {es:List (Int×Int)} {a b c d:Int} (h:vGraph n es=true) (hm:mayI es a b c d=true) (v:Nat):deg (sw es a b c d) v=deg es v:=by
  obtain ⟨h1,h2,h3⟩:=vG_iff.1 h
  obtain ⟨hd,m1,m2,m3,m4⟩:=mayI_iff.1 hm
  have f4:=four_ne hd
  have hp:(es.filter (gone a b c d)).Perm [(min a b,max a b),(min c d,max c d)]:=by
    refine (List.perm_ext_iff_of_nodup ((pw_nodup h1).filter _) (by simpa using f4.1)).2 fun e=>?_
    simp only [List.mem_filter,gone,Bool.or_eq_true,decide_eq_true_eq,List.mem_cons,List.not_mem_nil,or_false]
    constructor
    · exact fun h=>h.2
    · rintro (rfl | rfl)
      · exact ⟨m1,.inl rfl⟩
      · exact ⟨m2,.inr rfl⟩
  have e1:=S_filter es (gone a b c d) (inc v)
  have e2:=S_perm hp (inc v)
  have e3:=S_perm (srtE_perm (swX es a b c d)) (inc v)
  rw [deg,deg,sw,e3,swX,S_app,← e1,e2]
  simp only [S,List.map_cons,List.map_nil,List.sum_cons,List.sum_nil,inc_mm]
  omega
theorem sw_degs {n:Nat} {es:List (Int×Int)} {a b c d:Int} (h:vGraph n es=true) (hm:mayI es a b c d=true):degs n (sw es a b c d)=degs n es:=by
  have i1:EdgesIn n es:=fun e he=>by have:=mem_prs.1 ((vG_iff.1 h).2.1 e he);omega
  have i2:EdgesIn n (sw es a b c d):=fun e he=>by have:=mem_prs.1 ((vG_iff.1 (swX_ok h hm).2.2.1).2.1 e he);omega
  rw [degs_eq i1,degs_eq i2]
  exact List.map_congr_left fun v _=>sw_deg h hm v
end Go.Idl
namespace Go.Idl
open Go
theorem runI_ok {n:Nat}:∀ (l:List Q4) {es x:List (Int×Int)},vGraph n es=true→runI es l=some x→vGraph n x=true∧degs n x=degs n es:=by
  intro l
  induction l with
  | nil =>
    intro es x hv h
    rw [runI] at h
    cases h
    exact ⟨hv,rfl⟩
  | cons s l ih =>
    intro es x hv h
    rw [runI] at h
    split at h
    · rename_i hm
      obtain ⟨-,-,q3,-⟩:=swX_ok hv hm
      obtain ⟨h1,h2⟩:=ih q3 h
      exact ⟨h1,by rw [h2,sw_degs hv hm]⟩
    · cases h
theorem runS_eq {n:Nat}:∀ (l:List Q4) {es:List (Int×Int)},vGraph n es=true→runS es l=runI es l:=by
  intro l
  induction l with
  | nil=>intro es hv;rfl
  | cons s l ih =>
    intro es hv
    rw [runS,runI,may_eq hv]
    split
    · rename_i hm
      obtain ⟨-,-,q3,-⟩:=swX_ok hv hm
      rw [sw_eq hv hm]
      exact ih q3
    · rfl
theorem runI_app:∀ (l r:List Q4) {es x:List (Int×Int)},runI es (l++r)=some x→∃ a,runI es l=some a∧runI a r=some x:=by
  intro l
  induction l with
  | nil=>intro r es x h;exact ⟨es,rfl,h⟩
  | cons s l ih =>
    intro r es x h
    rw [List.cons_append,runI] at h
    split at h
    · rename_i hm
      obtain ⟨a,h1,h2⟩:=ih r h
      exact ⟨a,by rw [runI,if_pos hm,h1],h2⟩
    · cases h
structure RunLaw (n:Nat) (es:List (Int×Int)) (l:List Q4):Prop where
  same:runS es l=runI es l
  ok:∀ x,runI es l=some x→vGraph n x=true∧degs n x=degs n es∧∀ k,∃ a,runI es (l.take k)=some a∧vGraph n a=true∧runI a (l.drop k)=some x
theorem runLaw:∀ (n:Nat) es l,vGraph n es=true→RunLaw n es l:=fun n es l hv=>by
  refine ⟨runS_eq l hv,fun x h=>?_⟩
  obtain ⟨h1,h2⟩:=runI_ok l hv h
  refine ⟨h1,h2,fun k=>?_⟩
  obtain ⟨a,h3,h4⟩:=runI_app (l.take k) (l.drop k) (by rw [List.take_append_drop];exact h)
  exact ⟨a,h3,(runI_ok _ hv h3).1,h4⟩
end Go.Idl
namespace Go.Idl
open Go
set_option maxHeartbeats 4000000 in
theorem ev_FnRunSwitches (code:List Int) (cl:Bool) (h:∀ x ∈ code,0≤x∧x≤255) :
    Ev tb zl605 [] [.lst 1 (bytes code) cl] [] ⟨Bo true,[],[],[]⟩:=by
  by_cases hc:(1048576:Int) < code.length
  · refine call_of_wp zt605 rfl ?_
    repeat (first|apply wp_as|apply wp_ss|refine wr (by simp [hc];with_reducible rfl) ?_|refine wq (by simp [hc];with_reducible rfl) ?_|refine wt (by simpa [hc]) ?_|refine wf (by simpa [hc]) ?_|refine xt (by simpa [hc]) ?_|refine xf (by simpa [hc]) ?_|apply wp_bs|apply wp_b|refine wp_sr ?_|refine wp_sx ?_|refine wp_ret' ?_|refine wp_skip' ?_|refine wp_exit' ?_)
    simp [zi605]
  obtain ⟨n,es,l,hS,hl3,e1⟩:=ev_DrawRunSwitches code cl h (by omega)
  have hlen:=hS.len
  have ez:=ev_lim (ev_equalGraph 0 0 [] [] Z Z (.inr ⟨rfl,rfl⟩) (.inr ⟨rfl,rfl⟩) (by simp) (by simp))
  have e3:=fun cc c=>ev_lim (ev_spec_RunSwitches n es cc l c (by omega) (by omega))
  cases hv:vGraph n es with
  | false =>
    have e2:=fun cc c=>ev_lim (ev_RunSwitches_no n es cc (L4 l c) (.inr ⟨_,_,rfl⟩) hv hS.fit (by omega))
    simp only [hv,Bool.false_eq_true,if_false] at e3
    refine call_of_wp zt605 rfl ?_
    repeat (first|apply wp_as|apply wp_ss|refine wr (by simp [hc,e1,e2,e3,ez];with_reducible rfl) ?_|refine wq (by simp [hc,e1,e2,e3,ez];with_reducible rfl) ?_|refine wt (by simpa [hc,e1,e2,e3,ez]) ?_|refine wf (by simpa [hc,e1,e2,e3,ez]) ?_|refine xt (by simpa [hc,e1,e2,e3,ez]) ?_|refine xf (by simpa [hc,e1,e2,e3,ez]) ?_|apply wp_bs|apply wp_b|refine wp_sr ?_|refine wp_sx ?_|refine wp_ret' ?_|refine wp_skip' ?_|refine wp_exit' ?_)
    simp [zi605]
  | true =>
  have hn:=vG_n hv
  obtain ⟨n,rfl⟩:=Int.eq_ofNat_of_zero_le hn.1
  have law:=runLaw n es l hv
  have e2:=fun cc c=>ev_lim (ev_RunSwitches n es cc l c hv hS.fit (by omega) (by omega))
  simp only [hv,if_true,law.same] at e3
  have hn7:=(vG_iff.1 hv).2.2
  cases hr:runI es l with
  | none =>
    simp only [hr] at e2 e3
    refine call_of_wp zt605 rfl ?_
    repeat (first|apply wp_as|apply wp_ss|refine wr (by simp [hc,e1,e2,e3,ez];with_reducible rfl) ?_|refine wq (by simp [hc,e1,e2,e3,ez];with_reducible rfl) ?_|refine wt (by simpa [hc,e1,e2,e3,ez]) ?_|refine wf (by simpa [hc,e1,e2,e3,ez]) ?_|refine xt (by simpa [hc,e1,e2,e3,ez]) ?_|refine xf (by simpa [hc,e1,e2,e3,ez]) ?_|apply wp_bs|apply wp_b|refine wp_sr ?_|refine wp_sx ?_|refine wp_ret' ?_|refine wp_skip' ?_|refine wp_exit' ?_)
    simp [zi605]
  | some x =>
  simp only [hr] at e2 e3
  obtain ⟨q1,q2,q3⟩:=law.ok x hr
  obtain ⟨a,p1,p2,p3⟩:=q3 (l.length / 2)
  have hfx:Fit x:=fun e he=>by have:=mem_prs.1 ((vG_iff.1 q1).2.1 e he);omega
  have hx21:x.length≤21:=vG21 hn7 q1
  have hfa:Fit a:=fun e he=>by have:=mem_prs.1 ((vG_iff.1 p2).2.1 e he);omega
  have ha21:a.length≤21:=vG21 hn7 p2
  have e4:=fun cc c=>ev_lim (ev_RunSwitches n es cc (l.take (l.length / 2)) c hv hS.fit (by omega) (by simp;omega))
  have e5:=fun cc c=>ev_lim (ev_RunSwitches n a cc (l.drop (l.length / 2)) c p2 hfa (by omega) (by simp;omega))
  simp only [p1] at e4
  simp only [p3] at e5
  have e6:=fun cc=>ev_lim (ev_impl_DegreesOf n x cc hfx (by omega) q1)
  have e7:=fun cc=>ev_lim (ev_impl_DegreesOf n es cc hS.fit (by omega) hv)
  rw [q2] at e6
  have hdl:(degs n es).length=n:=degs_len n es
  have e8:=ev_lim (ev_equalInts (degs n es) (degs n es) false false (by omega) (by omega))
  have e9:=fun c1 c2=>ev_lim (ev_equalGraph n n x x (L2 x c1) (L2 x c2) (.inl ⟨_,rfl⟩) (.inl ⟨_,rfl⟩) (by omega) (by omega))
  have w1:IntKind.i64.wrap ((l.length:Int).tdiv 2)=((l.length / 2:Nat):Int):=by
    rw [wrap64] <;> (rw [Int.tdiv_eq_ediv_of_nonneg (by omega)] <;> omega)
  have w1':IntKind.i64.wrap ((l.length:Int) / 2)=((l.length / 2:Nat):Int):=by
    rw [wrap64] <;> omega
  have hk:l.length / 2≤l.length:=Nat.div_le_self _ _
  have hk2:l.length - l.length / 2≤l.length - l.length / 2:=Nat.le_refl _
  generalize l.length / 2=k at *
  have htd:(l.drop k).take (l.length - k)=l.drop k:=List.take_of_length_le (by simp)
  generalize degs n es=D at *
  refine call_of_wp zt605 rfl ?_
  repeat (first|apply wp_as|apply wp_ss|refine wr (by simp [hc,e1,e2,e3,e9,w1,w1'];with_reducible rfl) ?_|refine wq (by simp [hc,e1,e2,e3,e9,w1,w1'];with_reducible rfl) ?_|refine wt (by simpa [hc,e1,e2,e3,e9,w1,w1']) ?_|refine wf (by simpa [hc,e1,e2,e3,e9,w1,w1']) ?_|refine xt (by simpa [hc,e1,e2,e3,e9,w1,w1']) ?_|refine xf (by simpa [hc,e1,e2,e3,e9,w1,w1']) ?_|apply wp_bs|apply wp_b|refine wp_sr ?_|refine wp_sx ?_|refine wp_ret' ?_|refine wp_skip' ?_|refine wp_exit' ?_)
  refine wp_rds rfl (by simp [e4,hk];with_reducible rfl) (by simp;with_reducible rfl) ?_ ?_
  · intro p hp
    simp only [List.mem_cons,List.not_mem_nil,or_false] at hp
    rcases hp with rfl | rfl
    · exact ⟨_,by simp [e4,hk];with_reducible rfl,by simp⟩
    · exact ⟨_,by simp [e4,hk];with_reducible rfl,by simp⟩
  repeat (first|apply wp_as|apply wp_ss|refine wr (by simp;with_reducible rfl) ?_|refine wq (by simp;with_reducible rfl) ?_|refine wt (by simpa) ?_|refine wf (by simpa) ?_|refine xt (by simpa) ?_|refine xf (by simpa) ?_|apply wp_bs|apply wp_b|refine wp_sr ?_|refine wp_sx ?_|refine wp_ret' ?_|refine wp_skip' ?_|refine wp_exit' ?_)
  refine wp_rds rfl (by simp [e5,hk,htd];with_reducible rfl) (by simp;with_reducible rfl) ?_ ?_
  · intro p hp
    simp only [List.mem_cons,List.not_mem_nil,or_false] at hp
    rcases hp with rfl | rfl
    · exact ⟨_,by simp [e5,hk,htd];with_reducible rfl,by simp⟩
    · exact ⟨_,by simp [e5,hk,htd];with_reducible rfl,by simp⟩
  repeat (first|apply wp_as|apply wp_ss|refine wr (by simp;with_reducible rfl) ?_|refine wq (by simp;with_reducible rfl) ?_|refine wt (by simpa) ?_|refine wf (by simpa) ?_|refine xt (by simpa) ?_|refine xf (by simpa) ?_|apply wp_bs|apply wp_b|refine wp_sr ?_|refine wp_sx ?_|refine wp_ret' ?_|refine wp_skip' ?_|refine wp_exit' ?_)
  refine wp_ra (by simp [e6,e7,e8,e9];with_reducible rfl) (by simp;with_reducible rfl) ?_ ?_
  · intro p hp
    simp only [List.mem_cons,List.not_mem_nil,or_false] at hp
    subst hp
    exact ⟨_,by simp [e6,e7,e8,e9];with_reducible rfl,by simp⟩
  repeat (first|apply wp_as|apply wp_ss|refine wr (by simp;with_reducible rfl) ?_|refine wq (by simp;with_reducible rfl) ?_|refine wt (by simpa) ?_|refine wf (by simpa) ?_|refine xt (by simpa) ?_|refine xf (by simpa) ?_|apply wp_bs|apply wp_b|refine wp_sr ?_|refine wp_sx ?_|refine wp_ret' ?_|refine wp_skip' ?_|refine wp_exit' ?_)
  simp [zi605]
end Go.Idl
