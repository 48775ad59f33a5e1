/- Part 7 of a proof by an ideal interpreter of the code: its definitions and lemmas. Conditions: none. -/
import Derived.KernelRfl
import Derived.Test.YtedjkjnjbljadaaA6
set_option linter.all false
set_option linter.unusedVariables false
set_option linter.unusedSimpArgs false
namespace Go.Idl
open Go
def mgP (h:Nat) (t:List (List Int)) (e:Int×Int):Bool:=decide (e.2 < h) || (decide (e.1 < h) && decide (g2 t e.1.toNat (e.2.toNat - h)=1))
def mgE (h w:Nat) (t:List (List Int)):List (Int×Int):=(prs (h+w)).filter (mgP h t)
theorem mgP_eq (h:Nat) (t:List (List Int)) (p q:Nat):mgP h t ((p:Int),(q:Int))=(decide (q < h) || (decide (p < h) && decide (g2 t p (q - h)=1))):=by
  simp [mgP]
theorem flt_take_one {α:Type} (P:α→Bool) {l:List α} {i:Nat} (h:i < l.length):(l.take (i+1)).filter P=(l.take i).filter P++(if P l[i]=true then [l[i]] else []):=by
  rw [List.take_succ_eq_append_getElem h,List.filter_append]
  by_cases q:P l[i]=true <;> simp [q]
set_option maxHeartbeats 1000000 in
theorem sx_in (h w:Nat) (hhw:h+w≤7) (h1:1≤h) (t:List (List Int)) (c:Bool) (htl:t.length=h) (hr:∀ r ∈ t,r.length=w) :
    ∀ (m i:Nat) (Bx:Boxes),i+m=(prs (h+w)).length →
    wp tb (.loop z380l9) { T:=[(0,TL t c),(2,.bptr 0 0 0),(3,.bptr 0 1 0),(4,O2 (prs (h+w))),(5,I i)],loc:=[I 0,Z]::[I ((h:Int)+w),O2 (((prs (h+w)).take i).filter (mgP h t))]::Bx,M:=[] }
      (fun ex st=>ex=.exit 0∧∃ (Bx:Boxes),st={ T:=[(0,TL t c),(2,.bptr 0 0 0),(3,.bptr 0 1 0),(4,O2 (prs (h+w))),(5,I (prs (h+w)).length),(22,Bo false)],loc:=[I 0,Z]::[I ((h:Int)+w),O2 (mgE h w t)]::Bx,M:=[] }):=by
  have hpl:=prs_le21 (h+w) hhw
  intro m
  induction m with
  | zero =>
    intro i Bx hi
    have h3:i=(prs (h+w)).length:=hi
    subst h3
    rw [List.take_length]
    refine wp_loop ?_
    repeat (first|apply wp_as|apply wp_ss|refine wr (by simp;with_reducible rfl) ?_|refine wq (by simp;with_reducible rfl) ?_|refine wt (by simpa) ?_|refine wf (by simpa) ?_|refine xt (by simpa) ?_|refine xf (by simpa) ?_|apply wp_bs|apply wp_b|refine wp_sr ?_|refine wp_sx ?_|refine wp_ret' ?_|refine wp_skip' ?_|refine wp_exit' ?_)
    exact ⟨rfl,Bx,rfl⟩
  | succ m ih =>
    intro i Bx hi
    have hi2:i < (prs (h+w)).length:=by omega
    have he:=mem_prs.1 (List.getElem_mem hi2)
    obtain ⟨p,hp⟩:=Int.eq_ofNat_of_zero_le he.1
    obtain ⟨q,hq⟩:=Int.eq_ofNat_of_zero_le (show 0≤((prs (h+w))[i]).2 by omega)
    have hpq:p < q:=by omega
    have hqn:q < h+w:=by omega
    have w2:IntKind.i64.wrap ((i:Int)+1)=((i+1:Nat):Int):=wrapS (by omega)
    have heq:(prs (h+w))[i]=((p:Int),(q:Int)):=Prod.ext hp hq
    have hg:=ih (i+1) (Bx++[[I p,I q]]) (by omega)
    rw [flt_take_one _ hi2,heq,mgP_eq] at hg
    generalize hacc:((prs (h+w)).take i).filter (mgP h t)=acc at *
    have hall:acc.length≤21:=by
      rw [← hacc]
      refine Nat.le_trans (List.length_filter_le _ _) ?_
      simp;omega
    have hal1:acc.length+1≤274877906944:=by omega
    have hat:acc.take acc.length=acc:=List.take_of_length_le (Nat.le_refl _)
    by_cases hqh:q < h
    · have hqh':(q:Int) < (t.length:Int):=by omega
      rw [decide_eq_true hqh,Bool.true_or,if_pos rfl] at hg
      refine wp_loop ?_
      repeat (first|apply wp_as|apply wp_ss|refine wr (by simp [hi2,hp,hq,htl,hqh,hqh',w2,hal1,hat];with_reducible rfl) ?_|refine wq (by simp [hi2,hp,hq,htl,hqh,hqh',w2,hal1,hat];with_reducible rfl) ?_|refine wt (by simpa [hi2,hp,hq,htl,hqh,hqh',w2,hal1,hat]) ?_|refine wf (by simpa [hi2,hp,hq,htl,hqh,hqh',w2,hal1,hat]) ?_|refine xt (by simpa [hi2,hp,hq,htl,hqh,hqh',w2,hal1,hat]) ?_|refine xf (by simpa [hi2,hp,hq,htl,hqh,hqh',w2,hal1,hat]) ?_|apply wp_bs|apply wp_b|refine wp_sr ?_|refine wp_sx ?_|refine wp_ret' ?_|refine wp_skip' ?_|refine wp_exit' ?_)
      exact hg
    have hqh':¬ (q:Int) < (t.length:Int):=by omega
    rw [decide_eq_false hqh,Bool.false_or] at hg
    by_cases hph:p < h
    · have hpt:p < t.length:=by omega
      have hrl:=hr _ (List.getElem_mem hpt)
      obtain ⟨j,hj⟩:∃ j,q=h+j:=⟨q - h,by omega⟩
      have hjl:j < t[p].length:=by omega
      have w3:IntKind.i64.wrap ((q:Int) - h)=(j:Int):=by rw [wrap64 (by omega) (by omega)];omega
      have hjw:j < w:=by omega
      have hjq:q - h=j:=by omega
      rw [decide_eq_true hph,Bool.true_and,hjq,g2_eq hpt hjl] at hg
      by_cases hone:t[p][j]=1
      · rw [if_pos (by simp [hone])] at hg
        refine wp_loop ?_
        repeat (first|apply wp_as|apply wp_ss|refine wr (by simp [hi2,hp,hq,htl,hqh,hqh',hph,hpt,w3,hjl,hrl,hjw,hone,w2,hal1,hat];with_reducible rfl) ?_|refine wq (by simp [hi2,hp,hq,htl,hqh,hqh',hph,hpt,w3,hjl,hrl,hjw,hone,w2,hal1,hat];with_reducible rfl) ?_|refine wt (by simpa [hi2,hp,hq,htl,hqh,hqh',hph,hpt,w3,hjl,hrl,hjw,hone,w2,hal1,hat]) ?_|refine wf (by simpa [hi2,hp,hq,htl,hqh,hqh',hph,hpt,w3,hjl,hrl,hjw,hone,w2,hal1,hat]) ?_|refine xt (by simpa [hi2,hp,hq,htl,hqh,hqh',hph,hpt,w3,hjl,hrl,hjw,hone,w2,hal1,hat]) ?_|refine xf (by simpa [hi2,hp,hq,htl,hqh,hqh',hph,hpt,w3,hjl,hrl,hjw,hone,w2,hal1,hat]) ?_|apply wp_bs|apply wp_b|refine wp_sr ?_|refine wp_sx ?_|refine wp_ret' ?_|refine wp_skip' ?_|refine wp_exit' ?_)
        exact hg
      · rw [if_neg (by simp [hone]),List.append_nil] at hg
        refine wp_loop ?_
        repeat (first|apply wp_as|apply wp_ss|refine wr (by simp [hi2,hp,hq,htl,hqh,hqh',hph,hpt,w3,hjl,hrl,hjw,hone,w2,hal1,hat];with_reducible rfl) ?_|refine wq (by simp [hi2,hp,hq,htl,hqh,hqh',hph,hpt,w3,hjl,hrl,hjw,hone,w2,hal1,hat];with_reducible rfl) ?_|refine wt (by simpa [hi2,hp,hq,htl,hqh,hqh',hph,hpt,w3,hjl,hrl,hjw,hone,w2,hal1,hat]) ?_|refine wf (by simpa [hi2,hp,hq,htl,hqh,hqh',hph,hpt,w3,hjl,hrl,hjw,hone,w2,hal1,hat]) ?_|refine xt (by simpa [hi2,hp,hq,htl,hqh,hqh',hph,hpt,w3,hjl,hrl,hjw,hone,w2,hal1,hat]) ?_|refine xf (by simpa [hi2,hp,hq,htl,hqh,hqh',hph,hpt,w3,hjl,hrl,hjw,hone,w2,hal1,hat]) ?_|apply wp_bs|apply wp_b|refine wp_sr ?_|refine wp_sx ?_|refine wp_ret' ?_|refine wp_skip' ?_|refine wp_exit' ?_)
        exact hg
    · rw [decide_eq_false hph,Bool.false_and,if_neg (by simp),List.append_nil] at hg
      refine wp_loop ?_
      repeat (first|apply wp_as|apply wp_ss|refine wr (by simp [hi2,hp,hq,htl,hqh,hqh',hph,w2,hal1,hat];with_reducible rfl) ?_|refine wq (by simp [hi2,hp,hq,htl,hqh,hqh',hph,w2,hal1,hat];with_reducible rfl) ?_|refine wt (by simpa [hi2,hp,hq,htl,hqh,hqh',hph,w2,hal1,hat]) ?_|refine wf (by simpa [hi2,hp,hq,htl,hqh,hqh',hph,w2,hal1,hat]) ?_|refine xt (by simpa [hi2,hp,hq,htl,hqh,hqh',hph,w2,hal1,hat]) ?_|refine xf (by simpa [hi2,hp,hq,htl,hqh,hqh',hph,w2,hal1,hat]) ?_|apply wp_bs|apply wp_b|refine wp_sr ?_|refine wp_sx ?_|refine wp_ret' ?_|refine wp_skip' ?_|refine wp_exit' ?_)
      exact hg
theorem ev_splitGraphX (h w:Nat) (hhw:h+w≤7) (h1:1≤h) (t:List (List Int)) (c:Bool) (htl:t.length=h) (hr:∀ r ∈ t,r.length=w) :
    Ev tb zl380 [] [TL t c] [] ⟨OG ((h:Int)+w) (mgE h w t),[],[],[]⟩:=by
  have h0:0 < t.length:=by omega
  have hr0:=hr _ (List.getElem_mem h0)
  have h0':0 < h:=h1
  have w1:IntKind.i64.wrap ((h:Int)+w)=(h:Int)+w:=wrap64 (by omega) (by omega)
  have e1:=ev_lim (ev_pairs (h+w) (by omega))
  rw [show ((h+w:Nat):Int)=(h:Int)+w by omega] at e1
  have hlo:=sx_in h w hhw h1 t c htl hr (prs (h+w)).length 0 [] (by simp)
  rw [List.take_zero,List.filter_nil] at hlo
  refine call_of_wp zt380 rfl ?_
  repeat (first|apply wp_as|apply wp_ss|refine wr (by simp [htl,h0',h0,hr0,w1,e1];with_reducible rfl) ?_|refine wq (by simp [htl,h0',h0,hr0,w1,e1];with_reducible rfl) ?_|refine wt (by simpa [htl,h0',h0,hr0,w1,e1]) ?_|refine wf (by simpa [htl,h0',h0,hr0,w1,e1]) ?_|refine xt (by simpa [htl,h0',h0,hr0,w1,e1]) ?_|refine xf (by simpa [htl,h0',h0,hr0,w1,e1]) ?_|apply wp_bs|apply wp_b|refine wp_sr ?_|refine wp_sx ?_|refine wp_ret' ?_|refine wp_skip' ?_|refine wp_exit' ?_)
  refine wp_imp hlo ?_
  rintro ex st ⟨rfl,Bx,rfl⟩
  simp only [if_true]
  generalize mgE h w t=acc at *
  have hat:acc.take acc.length=acc:=List.take_of_length_le (Nat.le_refl _)
  repeat (first|apply wp_as|apply wp_ss|refine wr (by simp [hat];with_reducible rfl) ?_|refine wq (by simp [hat];with_reducible rfl) ?_|refine wt (by simpa [hat]) ?_|refine wf (by simpa [hat]) ?_|refine xt (by simpa [hat]) ?_|refine xf (by simpa [hat]) ?_|apply wp_bs|apply wp_b|refine wp_sr ?_|refine wp_sx ?_|refine wp_ret' ?_|refine wp_skip' ?_|refine wp_exit' ?_)
  simp [zi380]
theorem ev_MatrixGraph_F1 (h w:Nat) (hhw:h+w≤7) (t:List (List Int)) (c:Bool) (htl:t.length=h) (hr:∀ r ∈ t,r.length=w) (e:Int×Int) (he:e ∈ prs (h+w)) (x:List IV) (Ms:List Boxes) :
    Ev tb zl514 [] [I e.1,I e.2,.bptr 0 2 0,.bptr 0 0 0] ([[TL t c],x,[I h]]::Ms) ⟨Bo (mgP h t e),[],[[TL t c],x,[I h]]::Ms,[]⟩:=by
  have he:=mem_prs.1 he
  obtain ⟨u,v⟩:=e
  obtain ⟨p,rfl⟩:=Int.eq_ofNat_of_zero_le he.1
  obtain ⟨q,rfl⟩:=Int.eq_ofNat_of_zero_le (show 0≤v by simp only at he;omega)
  simp only at he ⊢
  rw [mgP_eq]
  have hpq:p < q:=by omega
  have hqn:q < h+w:=by omega
  by_cases hqh:q < h
  · rw [decide_eq_true hqh,Bool.true_or]
    refine call_of_wp zt514 rfl ?_
    repeat (first|apply wp_as|apply wp_ss|refine wr (by simp [hqh];with_reducible rfl) ?_|refine wq (by simp [hqh];with_reducible rfl) ?_|refine wt (by simpa [hqh]) ?_|refine wf (by simpa [hqh]) ?_|refine xt (by simpa [hqh]) ?_|refine xf (by simpa [hqh]) ?_|apply wp_bs|apply wp_b|refine wp_sr ?_|refine wp_sx ?_|refine wp_ret' ?_|refine wp_skip' ?_|refine wp_exit' ?_)
    simp [zi514]
  rw [decide_eq_false hqh,Bool.false_or]
  by_cases hph:p < h
  · have hpt:p < t.length:=by omega
    have hrl:=hr _ (List.getElem_mem hpt)
    obtain ⟨j,hj⟩:∃ j,q=h+j:=⟨q - h,by omega⟩
    have hjl:j < t[p].length:=by omega
    have w3:IntKind.i64.wrap ((q:Int) - h)=(j:Int):=by rw [wrap64 (by omega) (by omega)];omega
    have hjw:j < w:=by omega
    have hjq:q - h=j:=by omega
    rw [decide_eq_true hph,Bool.true_and,hjq,g2_eq hpt hjl]
    by_cases hone:t[p][j]=1
    · refine call_of_wp zt514 rfl ?_
      repeat (first|apply wp_as|apply wp_ss|refine wr (by simp [hqh,hph,hpt,htl,w3,hjl,hrl,hjw,hone];with_reducible rfl) ?_|refine wq (by simp [hqh,hph,hpt,htl,w3,hjl,hrl,hjw,hone];with_reducible rfl) ?_|refine wt (by simpa [hqh,hph,hpt,htl,w3,hjl,hrl,hjw,hone]) ?_|refine wf (by simpa [hqh,hph,hpt,htl,w3,hjl,hrl,hjw,hone]) ?_|refine xt (by simpa [hqh,hph,hpt,htl,w3,hjl,hrl,hjw,hone]) ?_|refine xf (by simpa [hqh,hph,hpt,htl,w3,hjl,hrl,hjw,hone]) ?_|apply wp_bs|apply wp_b|refine wp_sr ?_|refine wp_sx ?_|refine wp_ret' ?_|refine wp_skip' ?_|refine wp_exit' ?_)
      simp [zi514,hone]
    · refine call_of_wp zt514 rfl ?_
      repeat (first|apply wp_as|apply wp_ss|refine wr (by simp [hqh,hph,hpt,htl,w3,hjl,hrl,hjw,hone];with_reducible rfl) ?_|refine wq (by simp [hqh,hph,hpt,htl,w3,hjl,hrl,hjw,hone];with_reducible rfl) ?_|refine wt (by simpa [hqh,hph,hpt,htl,w3,hjl,hrl,hjw,hone]) ?_|refine wf (by simpa [hqh,hph,hpt,htl,w3,hjl,hrl,hjw,hone]) ?_|refine xt (by simpa [hqh,hph,hpt,htl,w3,hjl,hrl,hjw,hone]) ?_|refine xf (by simpa [hqh,hph,hpt,htl,w3,hjl,hrl,hjw,hone]) ?_|apply wp_bs|apply wp_b|refine wp_sr ?_|refine wp_sx ?_|refine wp_ret' ?_|refine wp_skip' ?_|refine wp_exit' ?_)
      simp [zi514,hone]
  · rw [decide_eq_false hph,Bool.false_and]
    refine call_of_wp zt514 rfl ?_
    repeat (first|apply wp_as|apply wp_ss|refine wr (by simp [hqh,hph];with_reducible rfl) ?_|refine wq (by simp [hqh,hph];with_reducible rfl) ?_|refine wt (by simpa [hqh,hph]) ?_|refine wf (by simpa [hqh,hph]) ?_|refine xt (by simpa [hqh,hph]) ?_|refine xf (by simpa [hqh,hph]) ?_|apply wp_bs|apply wp_b|refine wp_sr ?_|refine wp_sx ?_|refine wp_ret' ?_|refine wp_skip' ?_|refine wp_exit' ?_)
    simp [zi514]
theorem mOk_mat {t:List (List Int)} (h:mOk t=true):(1≤t.length∧t.length≤5)∧∃ w,(1≤w∧w≤5)∧∀ r ∈ t,r.length=w∧∀ x ∈ r,0≤x∧x≤1:=by
  simp only [mOk,Bool.and_eq_true,List.all_eq_true,rowOk,decide_eq_true_eq] at h
  obtain ⟨h1,h2⟩:=h
  have h0:0 < t.length:=by omega
  refine ⟨by omega,(t.getD 0 []).length,?_,fun r hr=>⟨(h1 r hr).1.1,fun x hx=>(h1 r hr).2 x hx⟩⟩
  have e:t.getD 0 []=t[0]:=by simp [List.getD_eq_getElem?_getD,List.getElem?_eq_getElem h0]
  have:=(h1 _ (List.getElem_mem h0)).1
  rw [e] at this ⊢
  omega
theorem ev_mg_no (t:List (List Int)) (c:Bool) (hl:t.length≤2000000) (hr:∀ r ∈ t,r.length≤2000000) (hm:mOk t=false) :
    Ev tb zl513 [] [TL t c] [] ⟨.tup [.agg [I 0,Z],Bo false],[],[],[]⟩:=by
  have e1:=ev_lim (ev_ValidMatrix t c hl hr)
  rw [hm] at e1
  refine call_of_wp zt513 rfl ?_
  repeat (first|apply wp_as|apply wp_ss|refine wr (by simp [e1];with_reducible rfl) ?_|refine wq (by simp [e1];with_reducible rfl) ?_|refine wt (by simpa [e1]) ?_|refine wf (by simpa [e1]) ?_|refine xt (by simpa [e1]) ?_|refine xf (by simpa [e1]) ?_|apply wp_bs|apply wp_b|refine wp_sr ?_|refine wp_sx ?_|refine wp_ret' ?_|refine wp_skip' ?_|refine wp_exit' ?_)
  simp [zi513]
theorem ev_mgs_no (t:List (List Int)) (c:Bool) (hl:t.length≤2000000) (hr:∀ r ∈ t,r.length≤2000000) (hm:mOk t=false) :
    Ev tb zl576 [] [TL t c] [] ⟨.tup [.agg [I 0,Z],Bo false],[],[],[]⟩:=by
  have e1:=ev_lim (ev_spec_validMatrix t c hl hr)
  rw [hm] at e1
  refine call_of_wp zt576 rfl ?_
  repeat (first|apply wp_as|apply wp_ss|refine wr (by simp [e1];with_reducible rfl) ?_|refine wq (by simp [e1];with_reducible rfl) ?_|refine wt (by simpa [e1]) ?_|refine wf (by simpa [e1]) ?_|refine xt (by simpa [e1]) ?_|refine xf (by simpa [e1]) ?_|apply wp_bs|apply wp_b|refine wp_sr ?_|refine wp_sx ?_|refine wp_ret' ?_|refine wp_skip' ?_|refine wp_exit' ?_)
  simp [zi576]
section
variable (h w:Nat) (t:List (List Int)) (c:Bool) (hh:1≤h∧h≤5) (hw:1≤w∧w≤5) (hl:t.length=h) (hr:∀ r ∈ t,r.length=w) (hm:mOk t=true)
include hh hw hl hr hm
theorem ev_mg_big (hb:7 < h+w):Ev tb zl513 [] [TL t c] [] ⟨.tup [.agg [I 0,Z],Bo false],[],[],[]⟩:=by
  have e1:=ev_lim (ev_ValidMatrix t c (by omega) (fun r hr'=>by have:=hr r hr';omega))
  rw [hm] at e1
  have h0:0 < t.length:=by omega
  have h0':0 < h:=by omega
  have hr0:=hr _ (List.getElem_mem h0)
  have w1:IntKind.i64.wrap ((h:Int)+w)=(h:Int)+w:=wrap64 (by omega) (by omega)
  have hb':(7:Int) < (h:Int)+w:=by omega
  refine call_of_wp zt513 rfl ?_
  repeat (first|apply wp_as|apply wp_ss|refine wr (by simp [e1,hl,h0,h0',hr0,w1,hb'];with_reducible rfl) ?_|refine wq (by simp [e1,hl,h0,h0',hr0,w1,hb'];with_reducible rfl) ?_|refine wt (by simpa [e1,hl,h0,h0',hr0,w1,hb']) ?_|refine wf (by simpa [e1,hl,h0,h0',hr0,w1,hb']) ?_|refine xt (by simpa [e1,hl,h0,h0',hr0,w1,hb']) ?_|refine xf (by simpa [e1,hl,h0,h0',hr0,w1,hb']) ?_|apply wp_bs|apply wp_b|refine wp_sr ?_|refine wp_sx ?_|refine wp_ret' ?_|refine wp_skip' ?_|refine wp_exit' ?_)
  simp [zi513]
theorem ev_mgs_big (hb:7 < h+w):Ev tb zl576 [] [TL t c] [] ⟨.tup [.agg [I 0,Z],Bo false],[],[],[]⟩:=by
  have e1:=ev_lim (ev_spec_validMatrix t c (by omega) (fun r hr'=>by have:=hr r hr';omega))
  rw [hm] at e1
  have h0:0 < t.length:=by omega
  have h0':0 < h:=by omega
  have hr0:=hr _ (List.getElem_mem h0)
  have w1:IntKind.i64.wrap ((h:Int)+w)=(h:Int)+w:=wrap64 (by omega) (by omega)
  have hb':(7:Int) < (h:Int)+w:=by omega
  refine call_of_wp zt576 rfl ?_
  repeat (first|apply wp_as|apply wp_ss|refine wr (by simp [e1,hl,h0,h0',hr0,w1,hb'];with_reducible rfl) ?_|refine wq (by simp [e1,hl,h0,h0',hr0,w1,hb'];with_reducible rfl) ?_|refine wt (by simpa [e1,hl,h0,h0',hr0,w1,hb']) ?_|refine wf (by simpa [e1,hl,h0,h0',hr0,w1,hb']) ?_|refine xt (by simpa [e1,hl,h0,h0',hr0,w1,hb']) ?_|refine xf (by simpa [e1,hl,h0,h0',hr0,w1,hb']) ?_|apply wp_bs|apply wp_b|refine wp_sr ?_|refine wp_sx ?_|refine wp_ret' ?_|refine wp_skip' ?_|refine wp_exit' ?_)
  simp [zi576]
theorem ev_mgs_yes (hb:h+w≤7):Ev tb zl576 [] [TL t c] [] ⟨.tup [OG ((h:Int)+w) (mgE h w t),Bo true],[],[],[]⟩:=by
  have e1:=ev_lim (ev_spec_validMatrix t c (by omega) (fun r hr'=>by have:=hr r hr';omega))
  rw [hm] at e1
  have e2:=ev_lim (ev_splitGraphX h w hb hh.1 t c hl hr)
  have h0:0 < t.length:=by omega
  have h0':0 < h:=by omega
  have hr0:=hr _ (List.getElem_mem h0)
  have w1:IntKind.i64.wrap ((h:Int)+w)=(h:Int)+w:=wrap64 (by omega) (by omega)
  have hb':¬ (7:Int) < (h:Int)+w:=by omega
  generalize mgE h w t=acc at *
  refine call_of_wp zt576 rfl ?_
  repeat (first|apply wp_as|apply wp_ss|refine wr (by simp [e1,e2,hl,h0,h0',hr0,w1,hb'];with_reducible rfl) ?_|refine wq (by simp [e1,e2,hl,h0,h0',hr0,w1,hb'];with_reducible rfl) ?_|refine wt (by simpa [e1,e2,hl,h0,h0',hr0,w1,hb']) ?_|refine wf (by simpa [e1,e2,hl,h0,h0',hr0,w1,hb']) ?_|refine xt (by simpa [e1,e2,hl,h0,h0',hr0,w1,hb']) ?_|refine xf (by simpa [e1,e2,hl,h0,h0',hr0,w1,hb']) ?_|apply wp_bs|apply wp_b|refine wp_sr ?_|refine wp_sx ?_|refine wp_ret' ?_|refine wp_skip' ?_|refine wp_exit' ?_)
  simp [zi576]
theorem ev_mg_yes (hb:h+w≤7):Ev tb zl513 [] [TL t c] [] ⟨.tup [.agg [I ((h:Int)+w),nl2 (mgE h w t)],Bo true],[],[],[]⟩:=by
  have e1:=ev_lim (ev_ValidMatrix t c (by omega) (fun r hr'=>by have:=hr r hr';omega))
  rw [hm] at e1
  have e2:=ev_lim (ev_which (h+w) (by omega) zl514 [.bptr 0 2 0,.bptr 0 0 0] [[[TL t c],[I 0,Z],[I h]]] (fun a b=>mgP h t (a,b)) (fun e he bs=>ev_MatrixGraph_F1 h w hb t c hl hr e he [I 0,Z] [bs]))
  have hc:((prs (h+w)).filter fun e=>mgP h t (e.1,e.2))=mgE h w t:=rfl
  rw [hc,show ((h+w:Nat):Int)=(h:Int)+w by omega] at e2
  have h0:0 < t.length:=by omega
  have h0':0 < h:=by omega
  have hr0:=hr _ (List.getElem_mem h0)
  have w1:IntKind.i64.wrap ((h:Int)+w)=(h:Int)+w:=wrap64 (by omega) (by omega)
  have hb':¬ (7:Int) < (h:Int)+w:=by omega
  generalize mgE h w t=Q at *
  cases Q with
  | nil =>
    rw [nl2_nil] at *
    refine call_of_wp zt513 rfl ?_
    repeat (first|apply wp_as|apply wp_ss|refine wr (by simp [e1,e2,hl,h0,h0',hr0,w1,hb'];with_reducible rfl) ?_|refine wq (by simp [e1,e2,hl,h0,h0',hr0,w1,hb'];with_reducible rfl) ?_|refine wt (by simpa [e1,e2,hl,h0,h0',hr0,w1,hb']) ?_|refine wf (by simpa [e1,e2,hl,h0,h0',hr0,w1,hb']) ?_|refine xt (by simpa [e1,e2,hl,h0,h0',hr0,w1,hb']) ?_|refine xf (by simpa [e1,e2,hl,h0,h0',hr0,w1,hb']) ?_|apply wp_bs|apply wp_b|refine wp_sr ?_|refine wp_sx ?_|refine wp_ret' ?_|refine wp_skip' ?_|refine wp_exit' ?_)
    simp [zi513]
  | cons q Q =>
    rw [nl2_cons] at *
    refine call_of_wp zt513 rfl ?_
    repeat (first|apply wp_as|apply wp_ss|refine wr (by simp [e1,e2,hl,h0,h0',hr0,w1,hb'];with_reducible rfl) ?_|refine wq (by simp [e1,e2,hl,h0,h0',hr0,w1,hb'];with_reducible rfl) ?_|refine wt (by simpa [e1,e2,hl,h0,h0',hr0,w1,hb']) ?_|refine wf (by simpa [e1,e2,hl,h0,h0',hr0,w1,hb']) ?_|refine xt (by simpa [e1,e2,hl,h0,h0',hr0,w1,hb']) ?_|refine xf (by simpa [e1,e2,hl,h0,h0',hr0,w1,hb']) ?_|apply wp_bs|apply wp_b|refine wp_sr ?_|refine wp_sx ?_|refine wp_ret' ?_|refine wp_skip' ?_|refine wp_exit' ?_)
    simp [zi513]
end
end Go.Idl
namespace Go.Idl
open Go
def Tmx (t:List (List Int)):Prop:=t.length≤6∧∀ r ∈ t,r.length≤5
theorem MM.tm {h w:Nat} {t:List (List Int)} (m:MM h w t) (hh:h≤5) (hw:w≤5):Tmx t:=⟨by have:=m.1;omega,fun r hr=>by have:=(m.2 r hr).1;omega⟩
theorem ev_someMatrix (code:List Int) (c:Bool) (hc:CodeOk code) (cnt:Nat) (hn:cnt≤50000) (bs:Boxes) (Ms:List Boxes) :
    ∃ (t:List (List Int)) (k:Nat),Tmx t∧k≤cnt+40 ∧
      limF tb zl595 [] [.bptr 0 0 0] ((R code c cnt::bs)::Ms)=some ⟨OT t,[],(R code c k::bs)::Ms,[]⟩:=by
  suffices h:∃ r,(∃ (t:List (List Int)) (k:Nat),Tmx t∧k≤cnt+40∧r=⟨OT t,[],(R code c k::bs)::Ms,[]⟩)∧Ev tb zl595 [] [.bptr 0 0 0] ((R code c cnt::bs)::Ms) r by
    obtain ⟨r,⟨t,k,h1,h2,rfl⟩,h⟩:=h
    exact ⟨t,k,h1,h2,ev_lim h⟩
  refine call_ex zt595 rfl ?_
  obtain ⟨v1,k1,hv1,hk1,e1⟩:=pick' code c hc cnt (by omega) 5 (by omega) bs (Ms++[[]])
  have hv1:=hv1 (by omega)
  obtain ⟨v2,k2,hv2,hk2,e2⟩:=pick' code c hc k1 (by omega) 5 (by omega) bs (Ms++[[]])
  have hv2:=hv2 (by omega)
  obtain ⟨t,k3,ht,hk3,e3⟩:=ev_aMatrix code c hc k2 (by omega) (1+v1) (1+v2) (by omega) (by omega) bs (Ms++[[]])
  rw [show ((1+v1:Nat):Int)=1+(v1:Int) by omega,show ((1+v2:Nat):Int)=1+(v2:Int) by omega] at e3
  have w1:IntKind.i64.wrap (1+(v1:Int))=1+(v1:Int):=wrap64 (by omega) (by omega)
  have w2:IntKind.i64.wrap (1+(v2:Int))=1+(v2:Int):=wrap64 (by omega) (by omega)
  obtain ⟨v,k4,hv,hk4,e4⟩:=pick' code c hc k3 (by omega) 30 (by omega) bs (Ms++[[]])
  have htm:=ht.tm (by omega) (by omega)
  have h0:0 < t.length:=by have:=ht.1;omega
  have hr0:=(ht.2 _ (List.getElem_mem h0)).1
  have h00:0 < t[0].length:=by omega
  have htl:t.length≤274877906943:=by have:=htm.1;omega
  have hto:t.take t.length=t:=List.take_of_length_le (by omega)
  by_cases v0:v=0
  · subst v0
    rw [show ((0:Nat):Int)=0 from rfl] at e4
    obtain ⟨x,k5,hx,hk5,e5⟩:=one2 code c hc k4 (by omega) [2,-1] (by simp) bs (Ms++[[]])
    have hT:Tmx (t.set 0 (t[0].set 0 x)):=⟨by rw [List.length_set];exact htm.1,fun r hr=>by
      rcases List.mem_or_eq_of_mem_set hr with hr | rfl
      · exact htm.2 r hr
      · rw [List.length_set];omega⟩
    repeat (first|apply wp_as|apply wp_ss|refine wr (by simp [e1,e2,e3,e4,w1,w2];with_reducible rfl) ?_|refine wq (by simp [e1,e2,e3,e4,w1,w2];with_reducible rfl) ?_|refine wt (by simpa [e1,e2,e3,e4,w1,w2]) ?_|refine wf (by simpa [e1,e2,e3,e4,w1,w2]) ?_|refine xt (by simpa [e1,e2,e3,e4,w1,w2]) ?_|refine xf (by simpa [e1,e2,e3,e4,w1,w2]) ?_|apply wp_bs|apply wp_b|refine wp_sr ?_|refine wp_sx ?_|refine wp_ret' ?_|refine wp_skip' ?_|refine wp_exit' ?_)
    refine wp_ra (by simp [h0,h00,e5];with_reducible rfl) (by simp;with_reducible rfl) ?_ ?_
    · intro p hp
      simp only [List.mem_cons,List.not_mem_nil,or_false] at hp
      rcases hp with rfl | rfl
      · exact ⟨_,by simp [h0,h00,e5];with_reducible rfl,by simp⟩
      · exact ⟨_,by simp [h0,h00,e5];with_reducible rfl,by simp⟩
    repeat (first|apply wp_as|apply wp_ss|refine wr (by simp;with_reducible rfl) ?_|refine wq (by simp;with_reducible rfl) ?_|refine wt (by simpa) ?_|refine wf (by simpa) ?_|refine xt (by simpa) ?_|refine xf (by simpa) ?_|apply wp_bs|apply wp_b|refine wp_sr ?_|refine wp_sx ?_|refine wp_ret' ?_|refine wp_skip' ?_|refine wp_exit' ?_)
    exact ⟨.inr rfl,_,⟨_,k5,hT,by omega,rfl⟩,by simp [zi595];rw [List.take_of_length_le (by simp)]⟩
  by_cases v1':v=1
  · subst v1'
    rw [show ((1:Nat):Int)=1 from rfl] at e4
    have hT:Tmx (t++[[1]]):=⟨by have:=ht.1;simp;omega,fun r hr=>by
      rcases List.mem_append.1 hr with hr | hr
      · exact htm.2 r hr
      · simp at hr;subst hr;simp⟩
    repeat (first|apply wp_as|apply wp_ss|refine wr (by simp [e1,e2,e3,e4,w1,w2,htl,hto];with_reducible rfl) ?_|refine wq (by simp [e1,e2,e3,e4,w1,w2,htl,hto];with_reducible rfl) ?_|refine wt (by simpa [e1,e2,e3,e4,w1,w2,htl,hto]) ?_|refine wf (by simpa [e1,e2,e3,e4,w1,w2,htl,hto]) ?_|refine xt (by simpa [e1,e2,e3,e4,w1,w2,htl,hto]) ?_|refine xf (by simpa [e1,e2,e3,e4,w1,w2,htl,hto]) ?_|apply wp_bs|apply wp_b|refine wp_sr ?_|refine wp_sx ?_|refine wp_ret' ?_|refine wp_skip' ?_|refine wp_exit' ?_)
    exact ⟨.inr rfl,_,⟨_,k4,hT,by omega,rfl⟩,by simp [zi595];rw [List.take_of_length_le (by simp)];simp [oab,ints]⟩
  by_cases v2':v=2
  · subst v2'
    rw [show ((2:Nat):Int)=2 from rfl] at e4
    repeat (first|apply wp_as|apply wp_ss|refine wr (by simp [e1,e2,e3,e4,w1,w2];with_reducible rfl) ?_|refine wq (by simp [e1,e2,e3,e4,w1,w2];with_reducible rfl) ?_|refine wt (by simpa [e1,e2,e3,e4,w1,w2]) ?_|refine wf (by simpa [e1,e2,e3,e4,w1,w2]) ?_|refine xt (by simpa [e1,e2,e3,e4,w1,w2]) ?_|refine xf (by simpa [e1,e2,e3,e4,w1,w2]) ?_|apply wp_bs|apply wp_b|refine wp_sr ?_|refine wp_sx ?_|refine wp_ret' ?_|refine wp_skip' ?_|refine wp_exit' ?_)
    exact ⟨.inr rfl,_,⟨[],k4,⟨by simp,by simp⟩,by omega,rfl⟩,by simp [zi595]⟩
  have q1:¬ (v:Int)=1:=by omega
  have q2:¬ (v:Int)=2:=by omega
  repeat (first|apply wp_as|apply wp_ss|refine wr (by simp [e1,e2,e3,e4,w1,w2,v0,q1,q2];with_reducible rfl) ?_|refine wq (by simp [e1,e2,e3,e4,w1,w2,v0,q1,q2];with_reducible rfl) ?_|refine wt (by simpa [e1,e2,e3,e4,w1,w2,v0,q1,q2]) ?_|refine wf (by simpa [e1,e2,e3,e4,w1,w2,v0,q1,q2]) ?_|refine xt (by simpa [e1,e2,e3,e4,w1,w2,v0,q1,q2]) ?_|refine xf (by simpa [e1,e2,e3,e4,w1,w2,v0,q1,q2]) ?_|apply wp_bs|apply wp_b|refine wp_sr ?_|refine wp_sx ?_|refine wp_ret' ?_|refine wp_skip' ?_|refine wp_exit' ?_)
  exact ⟨.inr rfl,_,⟨t,k4,htm,by omega,rfl⟩,by simp [zi595,hto]⟩
theorem ev_DrawMatrixGraph (code:List Int) (c:Bool) (h:∀ x ∈ code,0≤x∧x≤255) (hl:code.length≤10000000) :
    ∃ t,Tmx t∧limF tb zl566 [] [.lst 1 (bytes code) c] []=some ⟨OT t,[],[],[]⟩:=by
  obtain ⟨c',e⟩:=ev_newReader code c [[]] (by omega)
  have e1:=ev_lim e
  obtain ⟨v,k1,hv,hk1,e2⟩:=pick' (code.take 2000) c' (code_ok h) 0 (by omega) 6 (by omega) [] []
  have hv:=hv (by omega)
  rw [show ((0:Nat):Int)=0 from rfl] at e2
  by_cases v0:v=0
  · subst v0
    rw [show ((0:Nat):Int)=0 from rfl] at e2
    obtain ⟨t,k,h1,h2,e3⟩:=ev_someMatrix (code.take 2000) c' (code_ok h) k1 (by omega) [] []
    refine ⟨t,h1,ev_lim ?_⟩
    have hto:t.take t.length=t:=List.take_of_length_le (by omega)
    refine call_of_wp zt566 rfl ?_
    repeat (first|apply wp_as|apply wp_ss|refine wr (by simp [e1,e2,e3];with_reducible rfl) ?_|refine wq (by simp [e1,e2,e3];with_reducible rfl) ?_|refine wt (by simpa [e1,e2,e3]) ?_|refine wf (by simpa [e1,e2,e3]) ?_|refine xt (by simpa [e1,e2,e3]) ?_|refine xf (by simpa [e1,e2,e3]) ?_|apply wp_bs|apply wp_b|refine wp_sr ?_|refine wp_sx ?_|refine wp_ret' ?_|refine wp_skip' ?_|refine wp_exit' ?_)
    simp [zi566]
  · obtain ⟨v1,k2,hv1,hk2,e3⟩:=pick' (code.take 2000) c' (code_ok h) k1 (by omega) 3 (by omega) [] []
    have hv1:=hv1 (by omega)
    obtain ⟨v2,k3,hv2,hk3,e4⟩:=pick' (code.take 2000) c' (code_ok h) k2 (by omega) 4 (by omega) [] []
    have hv2:=hv2 (by omega)
    obtain ⟨t,k4,ht,hk4,e5⟩:=ev_aMatrix (code.take 2000) c' (code_ok h) k3 (by omega) (1+v1) (1+v2) (by omega) (by omega) [] []
    rw [show ((1+v1:Nat):Int)=1+(v1:Int) by omega,show ((1+v2:Nat):Int)=1+(v2:Int) by omega] at e5
    have w1:IntKind.i64.wrap (1+(v1:Int))=1+(v1:Int):=wrap64 (by omega) (by omega)
    have w2:IntKind.i64.wrap (1+(v2:Int))=1+(v2:Int):=wrap64 (by omega) (by omega)
    refine ⟨t,ht.tm (by omega) (by omega),ev_lim ?_⟩
    refine call_of_wp zt566 rfl ?_
    repeat (first|apply wp_as|apply wp_ss|refine wr (by simp [e1,e2,e3,e4,e5,w1,w2,v0];with_reducible rfl) ?_|refine wq (by simp [e1,e2,e3,e4,e5,w1,w2,v0];with_reducible rfl) ?_|refine wt (by simpa [e1,e2,e3,e4,e5,w1,w2,v0]) ?_|refine wf (by simpa [e1,e2,e3,e4,e5,w1,w2,v0]) ?_|refine xt (by simpa [e1,e2,e3,e4,e5,w1,w2,v0]) ?_|refine xf (by simpa [e1,e2,e3,e4,e5,w1,w2,v0]) ?_|apply wp_bs|apply wp_b|refine wp_sr ?_|refine wp_sx ?_|refine wp_ret' ?_|refine wp_skip' ?_|refine wp_exit' ?_)
    simp [zi566]
theorem ev_SwitchesOf_Z (n:Nat) (hn:n≤7):Ev tb zl199 [] [.agg [I n,Z]] [] ⟨Z,[],[],[]⟩:=by
  have v1:=ev_lim (ev_ValidGraph_Z n)
  have hv:vGraph n []=true:=by simp [vGraph,vEs];omega
  rw [hv] at v1
  have e1:=ev_lim (ev_Clip4 [])
  simp only [nl4] at e1
  have e2:limF tb zl173 [] [.agg [I n,Z]] []=some ⟨Z,[],[],[]⟩:=by
    refine ev_lim ?_
    refine call_of_wp zt173 rfl ?_
    repeat (first|apply wp_as|apply wp_ss|refine wr (by simp;with_reducible rfl) ?_|refine wq (by simp;with_reducible rfl) ?_|refine wt (by simpa) ?_|refine wf (by simpa) ?_|refine xt (by simpa) ?_|refine xf (by simpa) ?_|apply wp_bs|apply wp_b|refine wp_sr ?_|refine wp_sx ?_|refine wp_ret' ?_|refine wp_skip' ?_|refine wp_exit' ?_)
    refine wp_loop ?_
    repeat (first|apply wp_as|apply wp_ss|refine wr (by simp [e1];with_reducible rfl) ?_|refine wq (by simp [e1];with_reducible rfl) ?_|refine wt (by simpa [e1]) ?_|refine wf (by simpa [e1]) ?_|refine xt (by simpa [e1]) ?_|refine xf (by simpa [e1]) ?_|apply wp_bs|apply wp_b|refine wp_sr ?_|refine wp_sx ?_|refine wp_ret' ?_|refine wp_skip' ?_|refine wp_exit' ?_)
    simp [zi173]
  refine call_of_wp zt199 rfl ?_
  repeat (first|apply wp_as|apply wp_ss|refine wr (by simp [v1,e2];with_reducible rfl) ?_|refine wq (by simp [v1,e2];with_reducible rfl) ?_|refine wt (by simpa [v1,e2]) ?_|refine wf (by simpa [v1,e2]) ?_|refine xt (by simpa [v1,e2]) ?_|refine xf (by simpa [v1,e2]) ?_|apply wp_bs|apply wp_b|refine wp_sr ?_|refine wp_sx ?_|refine wp_ret' ?_|refine wp_skip' ?_|refine wp_exit' ?_)
  simp [zi199]
end Go.Idl
namespace Go.Idl
open Go
def TS (t:List (List Int)):Prop:=(1≤t.length∧t.length≤5)∧∀ r ∈ t,r.length≤5∧∀ x ∈ r,0≤x∧x≤1
theorem TS.small {t:List (List Int)} (h:TS t):Small2 t:=⟨by have:=h.1;omega,fun r hr=>⟨by have:=(h.2 r hr).1;omega,fun x hx=>by have:=(h.2 r hr).2 x hx;omega⟩⟩
theorem TT.ts {n:Nat} {t:List (List Int)} (h:TT n t) (h1:1≤n) (h5:n≤5):TS t:=⟨by have:=h.1;omega,fun r hr=>⟨by have:=(h.2 r hr).1;omega,(h.2 r hr).2⟩⟩
end Go.Idl
namespace Go.Idl
open Go
def sN (l:List Nat) (f:Nat→Int):Int:=(l.map f).sum
theorem sN_cons (x:Nat) (r:List Nat) (f:Nat→Int):sN (x::r) f=f x+sN r f:=by simp [sN]
theorem sN_add (l:List Nat) (f g:Nat→Int):sN l (fun a=>f a+g a)=sN l f+sN l g:=by
  induction l with
  | nil=>simp [sN]
  | cons x r ih=>simp only [sN_cons,ih];omega
theorem sN_congr {l:List Nat} {f g:Nat→Int} (h:∀ a ∈ l,f a=g a):sN l f=sN l g:=by
  unfold sN;rw [List.map_congr_left h]
theorem sN_one (l:List Nat):sN l (fun _=>1)=l.length:=by
  induction l with
  | nil=>simp [sN]
  | cons y r ih=>rw [sN_cons,ih];simp;omega
theorem within {g:Nat→Nat→Int}:∀ (X:List Nat),X.Nodup→(∀ a ∈ X,g a a=0)→(∀ a ∈ X,∀ b ∈ X,a ≠ b→g a b+g b a=1) →
    2 * sN X (fun a=>sN X (g a))=(X.length:Int) * ((X.length:Int) - 1)
  | [],_,_,_=>by simp [sN]
  | x::r,hd,h0,h1=>by
    have hd':=List.nodup_cons.1 hd
    have ih:=within r hd'.2 (fun a ha=>h0 a (by simp [ha])) (fun a ha b hb=>h1 a (by simp [ha]) b (by simp [hb]))
    have e1:sN r (fun a=>sN (x::r) (g a))=sN r (fun a=>g a x)+sN r (fun a=>sN r (g a)):=by
      rw [← sN_add];exact sN_congr fun a _=>sN_cons x r (g a)
    have e2:sN r (g x)+sN r (fun a=>g a x)=r.length:=by
      rw [← sN_add,sN_congr (g:=fun _=>1) (fun a ha=>h1 x (by simp) a (by simp [ha]) (fun e=>hd'.1 (by rw [e];exact ha))),sN_one]
    have e3:=h0 x (by simp)
    rw [sN_cons,sN_cons,e1,e3]
    simp only [List.length_cons]
    have:((r.length+1:Nat):Int) * (((r.length+1:Nat):Int) - 1)=(r.length:Int) * ((r.length:Int) - 1)+2 * r.length:=by
      rw [Int.natCast_add,Int.natCast_one,Int.add_sub_cancel,Int.add_mul,Int.mul_sub];omega
    rw [this,← ih];omega
end Go.Idl
namespace Go.Idl
open Go
theorem Tour.small {t:List (List Int)} (ht:Tour t):Small2 t :=
  ⟨by have:=ht.1;omega,fun r hr=>⟨by have:=(ht.2.1 r hr).1;have:=ht.1;omega,fun x hx=>by have:=(ht.2.1 r hr).2 x hx;omega⟩⟩
end Go.Idl
namespace Go.Idl
open Go
def Lil (xs:List Int):Prop:=∀ x ∈ xs,0≤x∧x≤1000
theorem Lil.sum {xs:List Int} (h:Lil xs):0≤xs.sum∧xs.sum≤1000 * xs.length:=by
  induction xs with
  | nil=>simp
  | cons x r ih =>
    have h1:=h x (by simp)
    have h2:=ih fun y hy=>h y (by simp [hy])
    simp only [List.sum_cons,List.length_cons];omega
theorem Lil.small {xs:List Int} (h:Lil xs) (hl:xs.length≤1000):SmallSum xs:=⟨by omega,fun k=>by
  have h1:Lil (xs.take k):=fun x hx=>h x (List.mem_of_mem_take hx)
  have h2:=h1.sum
  have h3:(xs.take k).length≤xs.length:=by simp;omega
  omega⟩
end Go.Idl
namespace Go.Idl
open Go
structure Cel (w h k i j:Nat):Prop where
  w5:w≤5
  h5:h≤5
  lt:k < w * h
  iw:i < w
  jh:j < h
  q1:(k:Int).tdiv (h:Int)=(i:Int)
  q2:(k:Int).tmod (h:Int)=(j:Int)
theorem Cel.n {w h k i j:Nat} (c:Cel w h k i j):IntKind.i64.wrap ((w:Int) * (h:Int))=((w * h:Nat):Int):=by
  have h1:w * h≤5 * 5:=Nat.mul_le_mul c.w5 c.h5
  rw [show ((w:Int) * (h:Int))=((w * h:Nat):Int) by omega]
  exact wrap64 (by omega) (by omega)
section
variable (w h:Nat) (rows cols:List Int) (cr cc:Bool) (A F:Lab) (caps:List IV) (hrl:rows.length=w) (hcl:cols.length=h) (may:Nat→Nat→Bool)
  (k i j:Nat) (hC:Cel w h k i j) (l r:List Int) (hll:l.length=w) (hrr:r.length=h) (t:List (List Int)) (il:i < l.length) (jr:j < r.length)
include hrl hcl hC hll hrr in
end
end Go.Idl
namespace Go.Idl
open Go
theorem getD_get {xs:List Int} {i:Nat} (h:i < xs.length):xs.getD i 0=xs[i]:=by simp [List.getD_eq_getElem?_getD,List.getElem?_eq_getElem h]
def Zf (w h k:Nat) (t:List (List Int)):Prop:=∀ i j,i < w→j < h→k≤i * h+j→g2 t i j=0
theorem Zf.succ {w h k:Nat} {t:List (List Int)} (hz:Zf w h k t):Zf w h (k+1) t:=fun i j hi hj hk=>hz i j hi hj (by omega)
end Go.Idl
namespace Go.Idl
open Go
def Dg (n:Nat) (a b:List Int):Prop:=∃ p:Nat→Nat→Bool,(∀ v,p v v=false) ∧
  (∀ v,v < n→S (List.range n) (fun u=>if p v u then 1 else 0)=a.getD v 0)∧(∀ v,v < n→S (List.range n) (fun u=>if p u v then 1 else 0)=b.getD v 0)
theorem Dg.symm {n:Nat} {a b:List Int}:Dg n a b→Dg n b a:=fun ⟨p,h1,h2,h3⟩=>⟨fun u v=>p v u,h1,h3,h2⟩
end Go.Idl
namespace Go.Idl
open Go
theorem MM.set {h w:Nat} {t:List (List Int)} (ht:MM h w t) {i j:Nat} {v:Int} (hi:i < t.length) (hv:0≤v∧v≤1):MM h w (t.set i (t[i].set j v)):=by
  refine ⟨by simpa using ht.1,fun r hr=>?_⟩
  have h1:=ht.2 _ (List.getElem_mem hi)
  rcases List.mem_or_eq_of_mem_set hr with hr | rfl
  · exact ht.2 r hr
  · refine ⟨by simpa using h1.1,fun x hx=>?_⟩
    rcases List.mem_or_eq_of_mem_set hx with hx | rfl
    · exact h1.2 x hx
    · exact hv
end Go.Idl
namespace Go.Idl
open Go
theorem getD_map (a:List Int):a=(List.range a.length).map fun v=>a.getD v 0:=by
  refine List.ext_getElem (by simp) fun i k1 k2=>?_
  simp [List.getD_eq_getElem?_getD,List.getElem?_eq_getElem k1]
theorem map_sum_S (b:List Int) (g:Int→Int):(b.map g).sum=S (List.range b.length) (fun v=>g (b.getD v 0)):=by
  conv=>lhs;rw [getD_map b,List.map_map]
  rfl
theorem sum_S (a:List Int):a.sum=S (List.range a.length) (fun v=>a.getD v 0):=by
  conv=>lhs;rw [getD_map a]
  rfl
end Go.Idl
namespace Go.Idl
open Go
def joined (r c:List Int):List Int:=(r.map fun x:Int=>x+(r.length:Int) - 1)++c
def BigLaw (r c:List Int):Bool:=(graphic (joined r c) == noneNeg (gale r c)) && (!noneNeg (gale r c) || decide (splitt (joined r c)=0))
end Go.Idl
namespace Go.Idl
def chkB (p:Nat) (r c:List Int):Bool :=
  !decide (r.sum=c.sum) ||
    (let s:=fall ((r.map fun x=>x+(p:Int) - 1)++c)
     let t:=slS s
     let b:=(List.range p).all fun i=>decide (0≤-((r.take (i+1)).sum)+(c.map fun x:Int=>min x ((i:Int)+1)).sum)
     (noneNeg t == b) && (!b || decide ((t.getD (durf s - 1) 0).tdiv 2=0)))
set_option maxRecDepth 100000 in
theorem chkB_all:(List.range 6).all (fun p=>(List.range (8 - p)).all fun q=>allD (fun r=>allD (chkB p r) q p []) p q [])=true:=by kernel_rfl
theorem joined_perm (r c:List Int):((fall r).map (fun x=>x+(r.length:Int) - 1)++fall c).Perm (joined r c) :=
  ((fall_perm r).map _).append (fall_perm c)
theorem joined_sum (m:Int):∀ r:List Int,(r.map fun x=>x+m - 1).sum=r.sum+r.length * (m - 1)
  | []=>by simp
  | x::q=>by
    rw [List.map_cons,List.sum_cons,joined_sum m q,List.sum_cons,List.length_cons]
    have:((q.length+1:Nat):Int) * (m - 1)=(q.length:Int) * (m - 1)+(m - 1):=by
      rw [Int.natCast_add,Int.add_mul];simp
    omega
theorem prod_even (n:Nat):((n:Int) * ((n:Int) - 1)) % 2=0:=by
  have h:(n:Int) % 2=0 ∨ (n:Int) % 2=1:=by omega
  rcases h with h | h
  · rw [Int.mul_emod,h];simp
  · have h2:((n:Int) - 1) % 2=0:=by omega
    rw [Int.mul_emod,h2];simp
theorem joined_valid {r c:List Int} (hv:vMar r c=true) (h7:r.length+c.length≤7):valid (joined r c)=true:=by
  simp only [vMar,sideOk,inAll,Bool.and_eq_true,decide_eq_true_eq,List.all_eq_true] at hv
  obtain ⟨h1,h2,h3,h4⟩:=hv
  simp only [valid,joined,Bool.and_eq_true,decide_eq_true_eq,List.all_eq_true,List.length_append,List.length_map]
  refine ⟨h7,fun x hx=>?_⟩
  rcases List.mem_append.1 hx with hx | hx
  · obtain ⟨y,hy,rfl⟩:=List.mem_map.1 hx
    have:=h3 y hy
    omega
  · have:=h4 x hx
    omega
theorem bigLaw (r c:List Int) (hv:vMar r c=true) (h7:r.length+c.length≤7) (hs:r.sum=c.sum):BigLaw r c=true:=by
  have hjv:=joined_valid hv h7
  obtain ⟨fr,fc,hr5,hc5⟩:=vMar_few hv
  have hv':=hv
  simp only [vMar,sideOk,inAll,Bool.and_eq_true,decide_eq_true_eq,List.all_eq_true] at hv'
  obtain ⟨-,-,h3,h4⟩:=hv'
  have k1:=List.all_eq_true.1 chkB_all r.length (List.mem_range.2 (by omega))
  have k2:=List.all_eq_true.1 k1 c.length (List.mem_range.2 (by omega))
  have k3:=allD_ok _ r.length c.length [] (fall r) k2 (fall_len r) (fall_desc r) (fun x hx=>by have:=h3 x (fall_mem.1 hx);omega)
  have k4:=allD_ok _ c.length r.length [] (fall c) k3 (fall_len c) (fall_desc c) (fun x hx=>by have:=h4 x (fall_mem.1 hx);omega)
  simp only [List.reverse_nil,List.nil_append] at k4
  have hb:((List.range r.length).all fun i=>decide (0≤-(((fall r).take (i+1)).sum)+((fall c).map fun x:Int=>min x ((i:Int)+1)).sum))=noneNeg (gale r c):=by
    rw [noneNeg,gale,mapR,List.all_map]
    congr 1
    funext i
    rw [perm_sum ((fall_perm c).map _)]
    rfl
  have hg:graphic (joined r c)=noneNeg (slS (fall (joined r c))):=by
    rw [graphic,hjv,← slacks_S]
    have:(joined r c).sum % 2=0:=by
      rw [joined,List.sum_append,joined_sum,hs]
      have:=prod_even r.length
      omega
    simp [this,noneNeg]
  have hl:(joined r c).length ≠ 0:=by rw [joined,List.length_append,List.length_map];omega
  simp only [chkB,fall_sum,hs,decide_true,Bool.not_true,Bool.false_or,fall_congr (joined_perm r c),hb] at k4
  simp only [Bool.and_eq_true,beq_iff_eq,Bool.or_eq_true,Bool.not_eq_true',decide_eq_true_eq] at k4
  obtain ⟨k5,k6⟩:=k4
  simp only [BigLaw,Bool.and_eq_true,beq_iff_eq,Bool.or_eq_true,Bool.not_eq_true',decide_eq_true_eq]
  refine ⟨by rw [hg,k5],?_⟩
  rcases k6 with k6 | k6
  · exact .inl k6
  · by_cases hn:noneNeg (gale r c)=true
    · refine .inr ?_
      rw [splitt,hg,k5,hn]
      simp only [if_true,hl,if_false]
      rw [slacks_S]
      exact k6
    · exact .inl (by simpa using hn)
end Go.Idl
namespace Go.Idl
def hv:Nat→List Int→Bool
  | 0,_=>true
  | _+1,[]=>true
  | m+1,x::r=>decide (x≤r.length) && (r.take x.toNat).all (fun y=>!decide (y=0)) && hv m (fall ((r.take x.toNat).map (fun y=>y - 1)++r.drop x.toNat))
end Go.Idl
namespace Go.Idl
theorem mem_row2 {es:List (Int×Int)} {e f:Int×Int} {s:Q4}:s ∈ row2 es e f ↔ mayS es s.1 s.2.1 s.2.2.1 s.2.2.2=true∧(s=(e.1,e.2,f.1,f.2) ∨ s=(e.1,e.2,f.2,f.1)):=by
  rw [row2,List.mem_append]
  constructor
  · rintro (h | h)
    · split at h
      · rename_i hq
        rw [List.mem_singleton] at h
        subst h
        exact ⟨hq,.inl rfl⟩
      · cases h
    · split at h
      · rename_i hq
        rw [List.mem_singleton] at h
        subst h
        exact ⟨hq,.inr rfl⟩
      · cases h
  · rintro ⟨h,rfl | rfl⟩
    · left;rw [if_pos h];simp
    · right;rw [if_pos h];simp
theorem mem_swl {es:List (Int×Int)} {s:Q4}:∀ {r:List (Int×Int)},s ∈ swl es r ↔ ∃ e f,[e,f].Sublist r∧s ∈ row2 es e f
  | []=>by
    rw [swl]
    constructor
    · intro h;cases h
    · rintro ⟨e,f,h,-⟩;cases h
  | x::r=>by
    rw [swl,List.mem_append,List.mem_flatMap,mem_swl]
    constructor
    · rintro (⟨f,hf,h⟩ | ⟨e,f,h1,h2⟩)
      · exact ⟨x,f,(List.singleton_sublist.2 hf).cons₂ x,h⟩
      · exact ⟨e,f,h1.cons x,h2⟩
    · rintro ⟨e,f,h1,h2⟩
      rcases List.sublist_cons_iff.1 h1 with h | ⟨t,ht,h⟩
      · exact .inr ⟨e,f,h,h2⟩
      · cases ht
        exact .inl ⟨f,List.singleton_sublist.1 h,h2⟩
theorem row2_nodup {es:List (Int×Int)} {e f:Int×Int} (h:f.1 ≠ f.2):(row2 es e f).Nodup:=by
  have hne:((e.1,e.2,f.1,f.2):Q4) ≠ (e.1,e.2,f.2,f.1):=fun hh=>by
    simp only [Prod.mk.injEq] at hh
    exact h hh.2.2.1
  rw [row2]
  split <;> split <;> simp [h]
theorem swl_nodup {es:List (Int×Int)}:∀ {r:List (Int×Int)},PW r→(∀ e ∈ r,e.1 < e.2)→(swl es r).Nodup
  | [],_,_=>by rw [swl];exact .nil
  | x::r,hp,hb=>by
    have hp':=List.pairwise_cons.1 hp
    have hbr:∀ e ∈ r,e.1 < e.2:=fun e he=>hb e (by simp [he])
    rw [swl,List.nodup_append]
    refine ⟨?_,swl_nodup hp'.2 hbr,?_⟩
    · rw [List.Nodup,List.pairwise_flatMap]
      refine ⟨fun f hf=>row2_nodup (by have:=hbr f hf;omega),hp'.2.imp_of_mem fun {f g} hf hg hfg s hs t ht hst=>?_⟩
      subst hst
      have h1:=(mem_row2.1 hs).2
      have h2:=(mem_row2.1 ht).2
      have b1:=hbr f hf
      have b2:=hbr g hg
      refine below_ne hfg (Prod.ext ?_ ?_) <;> rcases h1 with rfl | rfl <;> rcases h2 with h2 | h2 <;> simp only [Prod.mk.injEq] at h2 <;> omega
    · intro s hs t ht hst
      subst hst
      obtain ⟨f,hf,hs⟩:=List.mem_flatMap.1 hs
      obtain ⟨e,g,h1,h2⟩:=mem_swl.1 ht
      have k1:=(mem_row2.1 hs).2
      have k2:=(mem_row2.1 h2).2
      have he:e ∈ r:=h1.subset (by simp)
      refine below_ne (hp'.1 e he) (Prod.ext ?_ ?_) <;> rcases k1 with rfl | rfl <;> rcases k2 with k2 | k2 <;> simp only [Prod.mk.injEq] at k2 <;> omega
theorem pair_sub {e f:Int×Int}:∀ {r:List (Int×Int)},PW r→e ∈ r→f ∈ r→below e f=true→[e,f].Sublist r
  | x::r,hp,he,hf,h=>by
    have hp':=List.pairwise_cons.1 hp
    rcases List.mem_cons.1 he with he1 | he1
    · rcases List.mem_cons.1 hf with hf1 | hf1
      · exact absurd (he1.trans hf1.symm) (below_ne h)
      · rw [he1];exact (List.singleton_sublist.2 hf1).cons₂ _
    · rcases List.mem_cons.1 hf with hf1 | hf1
      · have:=below_asymm (hp'.1 e he1);rw [← hf1,h] at this;cases this
      · exact (pair_sub hp'.2 he1 hf1 h).cons x
end Go.Idl
namespace Go.Idl
open Go
structure Mat (h w:Nat) (t:List (List Int)):Prop where
  len:t.length=h
  row:∀ r ∈ t,r.length=w∧∀ x ∈ r,0≤x∧x≤1
section
variable {h w:Nat} {t:List (List Int)}
theorem Mat.ent (m:Mat h w t) {i:Nat} (hi:i < h) (k:Nat):0≤g2 t i k∧g2 t i k≤1:=by
  have hit:i < t.length:=by rw [m.len];exact hi
  have h1:=(m.row _ (List.getElem_mem hit)).2
  rw [g2,List.getD_eq_getElem?_getD (l:=t),List.getElem?_eq_getElem hit,Option.getD_some,List.getD_eq_getElem?_getD]
  cases ho:t[i][k]? with
  | none=>simp
  | some y=>exact h1 y (List.mem_of_getElem? ho)
theorem Mat.one (m:Mat h w t) {i:Nat} (hi:i < h) (k:Nat):(if g2 t i k=1 then (1:Int) else 0)=g2 t i k:=by
  have:=m.ent hi k
  split <;> omega
theorem Mat.scr (m:Mat h w t) {i:Nat} (hi:i < h):scr t i=S (List.range w) (fun k=>g2 t i k):=by
  have hit:i < t.length:=by rw [m.len];exact hi
  have h1:=(m.row _ (List.getElem_mem hit)).1
  have e:t.getD i []=t[i]:=by simp [List.getD_eq_getElem?_getD,List.getElem?_eq_getElem hit]
  rw [Idl.scr,e,sum_S,h1]
  exact S_congr fun k _=>by rw [g2,e]
theorem colT_get (w:Nat):∀ (t:List (List Int)) (k:Nat),k < w→(∀ r ∈ t,r.length=w)→(colT w t).getD k 0=S (List.range t.length) (fun i=>g2 t i k):=by
  have key:∀ (t:List (List Int)) (B:List Int) (k:Nat),k < B.length→(t.foldl (fun B r=>addR 0 B r) B).getD k 0=B.getD k 0+S t (fun r=>r.getD k 0):=by
    intro t
    induction t with
    | nil=>intro B k _;simp
    | cons r t ih =>
      intro B k hk
      rw [List.foldl_cons,ih _ _ (by rw [addR_len];exact hk),S_cons]
      have:(addR 0 B r).getD k 0=B.getD k 0+r.getD k 0:=by
        rw [List.getD_eq_getElem?_getD,addR,List.getElem?_map,List.getElem?_range hk]
        simp
      rw [this];omega
  intro t k hk hr
  rw [colT,key t _ k (by simpa using hk)]
  have e1:(List.replicate w (0:Int)).getD k 0=0:=by simp [List.getD_eq_getElem?_getD,hk]
  have e2:t=(List.range t.length).map fun i=>t.getD i []:=by
    refine List.ext_getElem (by simp) fun i h1 h2=>?_
    simp [List.getElem?_eq_getElem h1]
  rw [e1,Int.zero_add]
  conv=>lhs;rw [e2]
  rw [S_map]
  rfl
theorem range_two_parts (h w:Nat) (f:Nat→Int):S (List.range (h+w)) f=S (List.range h) f+S (List.range w) (fun k=>f (h+k)):=by
  rw [List.range_add,S_app,S_map]
theorem S_but (h v:Nat) (hv:v < h):S (List.range h) (fun u=>if u=v then (0:Int) else 1)=(h:Int) - 1:=by
  have e:=S_one (List.nodup_range (n:=h)) v
  rw [if_pos (List.mem_range.2 hv)] at e
  have e2:=S_const (List.range h) 1
  rw [List.length_range] at e2
  have e3:=S_sub (List.range h) (fun _=>1) (fun a=>if v=a then 1 else 0)
  rw [e2,e] at e3
  rw [← S_congr (f:=fun u=>(1:Int) - if v=u then 1 else 0) fun u _=>?_,e3]
  · omega
  · by_cases q:u=v
    · subst q;simp
    · rw [if_neg q,if_neg (fun z=>q z.symm)];rfl
theorem mg_degs (m:Mat h w t) (h7:h+w≤7):degs (h+w) (mgE h w t)=joined (scores t) (colT w t):=by
  have hsl:(scores t).length=h:=by simp [scores,mapR,m.len]
  have hcl:=colT_len w t
  rw [mgE,degs_filter]
  refine List.ext_getElem (by simp [joined,hsl,hcl]) fun v h1 h2=>?_
  have hv:v < h+w:=by simpa using h1
  rw [List.getElem_map,List.getElem_range,deg_filter h7 _ hv,range_two_parts]
  by_cases hvh:v < h
  · have e1:S (List.range h) (fun u=>if u=v then 0 else if mgP h t (mk u v)=true then 1 else 0)=(h:Int) - 1:=by
      rw [← S_but h v hvh]
      refine S_congr fun u hu=>?_
      have hu:=List.mem_range.1 hu
      by_cases q:u=v
      · rw [if_pos q,if_pos q]
      · rw [if_neg q,if_neg q,if_pos]
        rw [mgP,Bool.or_eq_true,decide_eq_true_eq]
        left;simp only [mk];omega
    have e2:S (List.range w) (fun k=>if h+k=v then 0 else if mgP h t (mk (h+k) v)=true then 1 else 0)=scr t v:=by
      rw [m.scr hvh]
      refine S_congr fun k hk=>?_
      rw [if_neg (by omega),← m.one hvh k]
      have e:mgP h t (mk (h+k) v)=decide (g2 t v k=1):=by
        have a1:(mk (h+k) v).1=(v:Int):=by simp only [mk];omega
        have a2:(mk (h+k) v).2=((h+k:Nat):Int):=by simp only [mk];omega
        rw [mgP,a1,a2,decide_eq_false (by omega),decide_eq_true (by omega),Bool.false_or,Bool.true_and,Int.toNat_natCast,Int.toNat_natCast,Nat.add_sub_cancel_left]
      rw [e]
      by_cases q:g2 t v k=1 <;> simp [q]
    rw [e1,e2]
    have hj:(joined (scores t) (colT w t))[v]=((scores t).map fun x:Int=>x+((scores t).length:Int) - 1)[v]'(by simpa [hsl] using hvh):=List.getElem_append_left _
    have h3:(scores t)[v]'(by omega)=scr t v:=by simp [scores,mapR]
    rw [hj,List.getElem_map,h3,hsl];omega
  · obtain ⟨k,rfl⟩:∃ k,v=h+k:=⟨v - h,by omega⟩
    have hk:k < w:=by omega
    have e1:S (List.range h) (fun u=>if u=h+k then 0 else if mgP h t (mk u (h+k))=true then 1 else 0)=(colT w t).getD k 0:=by
      rw [colT_get w t k hk (fun r hr=>(m.row r hr).1),m.len]
      refine S_congr fun u hu=>?_
      have hu:=List.mem_range.1 hu
      rw [if_neg (by omega),← m.one hu k]
      have e:mgP h t (mk u (h+k))=decide (g2 t u k=1):=by
        have a1:(mk u (h+k)).1=(u:Int):=by simp only [mk];omega
        have a2:(mk u (h+k)).2=((h+k:Nat):Int):=by simp only [mk];omega
        rw [mgP,a1,a2,decide_eq_false (by omega),decide_eq_true (by omega),Bool.false_or,Bool.true_and,Int.toNat_natCast,Int.toNat_natCast,Nat.add_sub_cancel_left]
      rw [e]
      by_cases q:g2 t u k=1 <;> simp [q]
    have e2:S (List.range w) (fun j=>if h+j=h+k then 0 else if mgP h t (mk (h+j) (h+k))=true then 1 else 0)=0:=by
      refine Eq.trans (S_congr (g:=fun _=>(0:Int)) fun j hj=>?_) (S_zero _)
      by_cases q:h+j=h+k
      · rw [if_pos q]
      · rw [if_neg q,if_neg]
        rw [mgP,Bool.or_eq_true,Bool.and_eq_true,decide_eq_true_eq,decide_eq_true_eq]
        simp only [mk];omega
    rw [e1,e2]
    have hj:(joined (scores t) (colT w t))[h+k]=(colT w t)[k]'(by omega):=by
      simp only [joined]
      rw [List.getElem_append_right (by simp [hsl])]
      simp [hsl]
    rw [hj,List.getD_eq_getElem?_getD,List.getElem?_eq_getElem (by omega)]
    simp
theorem mg_gale (m:Mat h w t) (i:Nat):0≤gs (scores t) (colT w t) i:=by
  have hsl:(scores t).length=h:=by simp [scores,mapR,m.len]
  have hcl:=colT_len w t
  have hget:∀ v,v < h→(scores t).getD v 0=S (List.range w) (fun k=>g2 t v k):=fun v hv=>by
    rw [← m.scr hv,getD_get (by omega)];simp [scores,mapR]
  obtain ⟨π,hπ,hf⟩:=perm_map_inv (f:=fun v=>(scores t).getD v 0) (fall_perm (scores t)) (getD_map (scores t))
  rw [hsl] at hπ
  have e1:((fall (scores t)).take (i+1)).sum=S (π.take (i+1)) (fun v=>(scores t).getD v 0):=by rw [hf,← List.map_take];rfl
  have hsub:(π.take (i+1)).Sublist π:=List.take_sublist _ _
  have hin:∀ v ∈ π,v < h:=fun v hv=>List.mem_range.1 (hπ.mem_iff.1 hv)
  have e2:S (π.take (i+1)) (fun v=>(scores t).getD v 0)=S (List.range w) (fun k=>S (π.take (i+1)) (fun v=>g2 t v k)):=by
    rw [← S_swap]
    exact S_congr fun v hv=>hget v (hin v (hsub.subset hv))
  have e3:S (List.range w) (fun k=>S (π.take (i+1)) (fun v=>g2 t v k))≤S (List.range w) (fun k=>min ((colT w t).getD k 0) ((i:Int)+1)):=by
    refine S_le fun k hk=>?_
    have a1:S (π.take (i+1)) (fun v=>g2 t v k)≤(colT w t).getD k 0:=by
      rw [colT_get w t k (List.mem_range.1 hk) (fun r hr=>(m.row r hr).1),m.len,← S_perm hπ]
      exact S_sublist hsub fun v hv=>(m.ent (hin v hv) k).1
    have a2:S (π.take (i+1)) (fun v=>g2 t v k)≤(i:Int)+1:=by
      have s1:S (π.take (i+1)) (fun v=>g2 t v k)≤S (π.take (i+1)) (fun _=>1):=S_le fun v hv=>(m.ent (hin v (hsub.subset hv)) k).2
      rw [S_const] at s1
      have:(π.take (i+1)).length≤i+1:=by simp;omega
      omega
    omega
  have e4:=map_sum_S (colT w t) fun x=>min x ((i:Int)+1)
  rw [hcl] at e4
  rw [gs,e1,e2,e4];omega
theorem mg_sum (m:Mat h w t):(scores t).sum=(colT w t).sum:=by
  have hsl:(scores t).length=h:=by simp [scores,mapR,m.len]
  rw [sum_S (scores t),sum_S (colT w t),hsl,colT_len,S_congr (g:=fun v=>S (List.range w) (fun k=>g2 t v k)) fun v hv=>?_,S_swap]
  · refine S_congr fun k hk=>?_
    rw [colT_get w t k (List.mem_range.1 hk) (fun r hr=>(m.row r hr).1),m.len]
  · rw [← m.scr (List.mem_range.1 hv),getD_get (by have:=List.mem_range.1 hv;omega)];simp [scores,mapR]
theorem mg_split (m:Mat h w t) (hh:1≤h∧h≤5) (hw:1≤w∧w≤5) (h7:h+w≤7):splitt (joined (scores t) (colT w t))=0:=by
  have hsl:(scores t).length=h:=by simp [scores,mapR,m.len]
  have hcl:=colT_len w t
  have hv:vMar (scores t) (colT w t)=true:=by
    simp only [vMar,sideOk,inAll,Bool.and_eq_true,decide_eq_true_eq,List.all_eq_true,hsl,hcl]
    refine ⟨by omega,by omega,fun x hx=>?_,fun x hx=>?_⟩
    · simp only [scores,mapR,List.mem_map,List.mem_range] at hx
      obtain ⟨i,hi,rfl⟩:=hx
      rw [m.len] at hi
      have hit:i < t.length:=by rw [m.len];exact hi
      have e:scr t i=t[i].sum:=by simp [scr,List.getD_eq_getElem?_getD,List.getElem?_eq_getElem hit]
      have:=sum01 t[i] (m.row _ (List.getElem_mem hit)).2
      rw [(m.row _ (List.getElem_mem hit)).1] at this
      omega
    · have:=colT_bound (fun r hr=>(m.row r hr).2) x hx
      rw [m.len] at this
      exact this
  have hb:=bigLaw _ _ hv (by rw [hsl,hcl];exact h7) (mg_sum m)
  simp only [BigLaw,Bool.and_eq_true,beq_iff_eq,Bool.or_eq_true,Bool.not_eq_true'] at hb
  rcases hb.2 with hb | hb
  · exfalso
    have:noneNeg (gale (scores t) (colT w t))=true:=by
      simp only [noneNeg,gale,mapR,List.all_eq_true,List.mem_map,List.mem_range,decide_eq_true_eq]
      rintro x ⟨i,-,rfl⟩
      exact mg_gale m i
    rw [this] at hb;cases hb
  · exact of_decide_eq_true hb
theorem mem_icD {a c b:Nat} {s:Q4}:∀ m d,s ∈ icD t a c b m d ↔ ∃ k,d≤k∧k < d+m∧chB t a b c k=true∧s=((a:Int),(b:Int),(c:Int),(k:Int))
  | 0,d=>by simp [icD];omega
  | m+1,d=>by
    rw [icD,List.mem_append,mem_icD m (d+1)]
    constructor
    · rintro (h | ⟨k,h1,h2,h3⟩)
      · split at h
        · rename_i hq
          simp at h
          exact ⟨d,by omega,by omega,hq,h⟩
        · simp at h
      · exact ⟨k,by omega,by omega,h3⟩
    · rintro ⟨k,h1,h2,h3,h4⟩
      by_cases hk:k=d
      · subst hk;left;rw [if_pos h3];simp [h4]
      · right;exact ⟨k,by omega,by omega,h3,h4⟩
theorem mem_icB {a c w:Nat} {s:Q4}:∀ m b,s ∈ icB t a c w m b ↔ ∃ j,b≤j∧j < b+m∧s ∈ icD t a c j w 0
  | 0,b=>by simp [icB];omega
  | m+1,b=>by
    rw [icB,List.mem_append,mem_icB m (b+1)]
    constructor
    · rintro (h | ⟨k,h1,h2,h3⟩)
      · exact ⟨b,by omega,by omega,h⟩
      · exact ⟨k,by omega,by omega,h3⟩
    · rintro ⟨k,h1,h2,h3⟩
      by_cases hk:k=b
      · subst hk;exact .inl h3
      · exact .inr ⟨k,by omega,by omega,h3⟩
theorem mem_icC {a w:Nat} {s:Q4}:∀ m c,s ∈ icC t a w m c ↔ ∃ j,c≤j∧j < c+m∧s ∈ icB t a j w w 0
  | 0,b=>by simp [icC];omega
  | m+1,b=>by
    rw [icC,List.mem_append,mem_icC m (b+1)]
    constructor
    · rintro (h | ⟨k,h1,h2,h3⟩)
      · exact ⟨b,by omega,by omega,h⟩
      · exact ⟨k,by omega,by omega,h3⟩
    · rintro ⟨k,h1,h2,h3⟩
      by_cases hk:k=b
      · subst hk;exact .inl h3
      · exact .inr ⟨k,by omega,by omega,h3⟩
theorem mem_icA {h w:Nat} {s:Q4}:∀ m a,s ∈ icA t h w m a ↔ ∃ j,a≤j∧j < a+m∧s ∈ icC t j w (h - (j+1)) (j+1)
  | 0,b=>by simp [icA];omega
  | m+1,b=>by
    rw [icA,List.mem_append,mem_icA m (b+1)]
    constructor
    · rintro (h | ⟨k,h1,h2,h3⟩)
      · exact ⟨b,by omega,by omega,h⟩
      · exact ⟨k,by omega,by omega,h3⟩
    · rintro ⟨k,h1,h2,h3⟩
      by_cases hk:k=b
      · subst hk;exact .inl h3
      · exact .inr ⟨k,by omega,by omega,h3⟩
theorem mem_ic {h w:Nat} {s:Q4}:s ∈ icA t h w h 0 ↔ ∃ a b c d:Nat,a < c∧c < h∧b < w∧d < w∧chB t a b c d=true∧s=((a:Int),(b:Int),(c:Int),(d:Int)):=by
  rw [mem_icA]
  constructor
  · rintro ⟨a,-,h1,h2⟩
    obtain ⟨c,h3,h4,h5⟩:=(mem_icC _ _).1 h2
    obtain ⟨b,-,h6,h7⟩:=(mem_icB _ _).1 h5
    obtain ⟨d,-,h8,h9,h10⟩:=(mem_icD _ _).1 h7
    exact ⟨a,b,c,d,by omega,by omega,by omega,by omega,h9,h10⟩
  · rintro ⟨a,b,c,d,h1,h2,h3,h4,h5,h6⟩
    exact ⟨a,by omega,by omega,(mem_icC _ _).2 ⟨c,by omega,by omega,(mem_icB _ _).2 ⟨b,by omega,by omega,(mem_icD _ _).2 ⟨d,by omega,by omega,h5,h6⟩⟩⟩⟩
theorem icD_nodup {a c b:Nat}:∀ m d,(icD t a c b m d).Nodup
  | 0,d=>.nil
  | m+1,d=>by
    rw [icD,List.nodup_append]
    refine ⟨by split <;> simp,icD_nodup m (d+1),fun s hs s' hs' he=>?_⟩
    subst he
    obtain ⟨k,h1,-,-,h2⟩:=(mem_icD _ _).1 hs'
    split at hs
    · simp at hs
      rw [hs] at h2
      simp only [Prod.mk.injEq] at h2
      omega
    · simp at hs
theorem icB_nodup {a c w:Nat}:∀ m b,(icB t a c w m b).Nodup
  | 0,d=>.nil
  | m+1,d=>by
    rw [icB,List.nodup_append]
    refine ⟨icD_nodup _ _,icB_nodup m (d+1),fun s hs s' hs' he=>?_⟩
    subst he
    obtain ⟨_,-,-,-,h1⟩:=(mem_icD _ _).1 hs
    obtain ⟨k,h2,-,h3⟩:=(mem_icB _ _).1 hs'
    obtain ⟨_,-,-,-,h4⟩:=(mem_icD _ _).1 h3
    rw [h1] at h4
    simp only [Prod.mk.injEq] at h4
    omega
theorem icC_nodup {a w:Nat}:∀ m c,(icC t a w m c).Nodup
  | 0,d=>.nil
  | m+1,d=>by
    rw [icC,List.nodup_append]
    refine ⟨icB_nodup _ _,icC_nodup m (d+1),fun s hs s' hs' he=>?_⟩
    subst he
    obtain ⟨_,-,-,hs⟩:=(mem_icB _ _).1 hs
    obtain ⟨_,-,-,-,h1⟩:=(mem_icD _ _).1 hs
    obtain ⟨k,h2,-,h3⟩:=(mem_icC _ _).1 hs'
    obtain ⟨_,-,-,h3⟩:=(mem_icB _ _).1 h3
    obtain ⟨_,-,-,-,h4⟩:=(mem_icD _ _).1 h3
    rw [h1] at h4
    simp only [Prod.mk.injEq] at h4
    omega
theorem icA_nodup {h w:Nat}:∀ m a,(icA t h w m a).Nodup
  | 0,d=>.nil
  | m+1,d=>by
    rw [icA,List.nodup_append]
    refine ⟨icC_nodup _ _,icA_nodup m (d+1),fun s hs s' hs' he=>?_⟩
    subst he
    obtain ⟨_,-,-,hs⟩:=(mem_icC _ _).1 hs
    obtain ⟨_,-,-,hs⟩:=(mem_icB _ _).1 hs
    obtain ⟨_,-,-,-,h1⟩:=(mem_icD _ _).1 hs
    obtain ⟨k,h2,-,h3⟩:=(mem_icA _ _).1 hs'
    obtain ⟨_,-,-,h3⟩:=(mem_icC _ _).1 h3
    obtain ⟨_,-,-,h3⟩:=(mem_icB _ _).1 h3
    obtain ⟨_,-,-,-,h4⟩:=(mem_icD _ _).1 h3
    rw [h1] at h4
    simp only [Prod.mk.injEq] at h4
    omega
def asSw (h:Nat) (s:Q4):Q4:=(s.1,(h:Int)+s.2.1,(h:Int)+s.2.2.2,s.2.2.1)
theorem mem_mgE {e:Int×Int}:e ∈ mgE h w t ↔ (0≤e.1∧e.1 < e.2∧e.2 < ((h+w:Nat):Int))∧mgP h t e=true:=by
  rw [mgE,List.mem_filter,mem_prs]
theorem mgP_row {e:Int×Int} (h0:e.2 < h):mgP h t e=true:=by rw [mgP,decide_eq_true h0];rfl
theorem mgP_mix {a b:Nat} (ha:a < h):mgP h t ((a:Int),(h:Int)+b)=decide (g2 t a b=1):=by
  rw [mgP,decide_eq_false (by simp;omega),decide_eq_true (by simp;omega),Bool.false_or,Bool.true_and]
  have:((h:Int)+(b:Int)).toNat - h=b:=by omega
  simp only [Int.toNat_natCast,this]
theorem mg_cnt (m:Mat h w t) (h7:h+w≤7):(swl (mgE h w t) (mgE h w t)).length=(icA t h w h 0).length:=by
  have hv:vGraph ((h+w:Nat):Int) (mgE h w t)=true:=filter_vG h7 _
  have hpw:=(vG_iff.1 hv).1
  have hlt:∀ e ∈ mgE h w t,e.1 < e.2:=fun e he=>(mem_mgE.1 he).1.2.1
  have hn1:=swl_nodup (es:=mgE h w t) hpw hlt
  have hn2:((icA t h w h 0).map (asSw h)).Nodup:=by
    refine List.pairwise_map.2 ((icA_nodup _ _).imp ?_)
    rintro ⟨a,b,c,d⟩ ⟨a',b',c',d'⟩ hne he
    apply hne
    simp only [asSw,Prod.mk.injEq] at he ⊢
    omega
  have hp:(swl (mgE h w t) (mgE h w t)).Perm ((icA t h w h 0).map (asSw h)):=by
    refine (List.perm_ext_iff_of_nodup hn1 hn2).2 fun s=>?_
    constructor
    · intro hs
      obtain ⟨⟨e1,e2⟩,⟨f1,f2⟩,k1,k2⟩:=mem_swl.1 hs
      obtain ⟨k3,k4⟩:=mem_row2.1 k2
      have hpe:PW [(e1,e2),(f1,f2)]:=hpw.sublist k1
      have hbel:below (e1,e2) (f1,f2)=true:=by
        have:=List.pairwise_cons.1 hpe
        exact this.1 _ (by simp)
      rw [below_iff] at hbel
      have he:=mem_mgE.1 (k1.subset (show (e1,e2) ∈ _ by simp))
      have hf:=mem_mgE.1 (k1.subset (show (f1,f2) ∈ _ by simp))
      simp only at hbel he hf
      have row1:∀ {x y:Int},(0≤x∧x < y∧y < ((h+w:Nat):Int))∧mgP h t (x,y)=true→x < h:=by
        rintro x y ⟨q1,q2⟩
        rw [mgP,Bool.or_eq_true,Bool.and_eq_true,decide_eq_true_eq,decide_eq_true_eq] at q2
        rcases q2 with q2 | q2
        · simp at q2;omega
        · exact q2.1
      have he1:=row1 he
      have hf1:=row1 hf
      have hmI:mayI (mgE h w t) s.1 s.2.1 s.2.2.1 s.2.2.2=true:=by rw [← may_eq hv];exact k3
      rcases k4 with rfl | rfl
      · exfalso
        obtain ⟨⟨n1,n2,n3,n4,n5,n6⟩,i1,i2,i3,i4⟩:=mayI_iff.1 hmI
        simp only at n1 n2 n3 n4 n5 n6 i1 i2 i3 i4
        exact i3 (mem_mgE.2 ⟨by simp only;omega,mgP_row (by simp only;omega)⟩)
      · obtain ⟨⟨n1,n2,n3,n4,n5,n6⟩,i1,i2,i3,i4⟩:=mayI_iff.1 hmI
        simp only at n1 n2 n3 n4 n5 n6 i1 i2 i3 i4
        have hf2:(h:Int)≤f2:=by
          rcases Int.lt_or_le f2 h with q | q
          · exact absurd (mem_mgE.2 ⟨by simp only;omega,mgP_row (by simp only;omega)⟩) i3
          · exact q
        have he2:(h:Int)≤e2:=by
          rcases Int.lt_or_le e2 h with q | q
          · exact absurd (mem_mgE.2 ⟨by simp only;omega,mgP_row (by simp only;omega)⟩) i4
          · exact q
        obtain ⟨a,rfl⟩:=Int.eq_ofNat_of_zero_le he.1.1
        obtain ⟨c,rfl⟩:=Int.eq_ofNat_of_zero_le hf.1.1
        obtain ⟨b,rfl⟩:∃ b:Nat,e2=(h:Int)+b:=⟨(e2 - h).toNat,by omega⟩
        obtain ⟨d,rfl⟩:∃ d:Nat,f2=(h:Int)+d:=⟨(f2 - h).toNat,by omega⟩
        have ha:a < h:=by omega
        have hc:c < h:=by omega
        have g1:=he.2
        have g2':=hf.2
        rw [mgP_mix ha,decide_eq_true_eq] at g1
        rw [mgP_mix hc,decide_eq_true_eq] at g2'
        have g3:¬ g2 t a d=1:=fun q=>i3 (by
          rw [show min ((a:Int)) ((h:Int)+d)=a by omega,show max ((a:Int)) ((h:Int)+d)=(h:Int)+d by omega]
          exact mem_mgE.2 ⟨by simp only;omega,by rw [mgP_mix ha,decide_eq_true q]⟩)
        have g4:¬ g2 t c b=1:=fun q=>i4 (by
          rw [show min ((h:Int)+b) ((c:Int))=c by omega,show max ((h:Int)+b) ((c:Int))=(h:Int)+b by omega]
          exact mem_mgE.2 ⟨by simp only;omega,by rw [mgP_mix hc,decide_eq_true q]⟩)
        have m1:=m.ent ha d
        have m2:=m.ent hc b
        refine List.mem_map.2 ⟨((a:Int),(b:Int),(c:Int),(d:Int)),mem_ic.2 ⟨a,b,c,d,?_,hc,by omega,by omega,?_,rfl⟩,rfl⟩
        · have:a ≠ c:=fun q=>n3 (by (try simp only);omega)
          omega
        · rw [chB,decide_eq_true g1,decide_eq_true g2',decide_eq_true (show g2 t a d=0 by omega),decide_eq_true (show g2 t c b=0 by omega)];rfl
    · intro hs
      obtain ⟨s',hs',rfl⟩:=List.mem_map.1 hs
      obtain ⟨a,b,c,d,h1,h2,h3,h4,h5,rfl⟩:=mem_ic.1 hs'
      simp only [chB,Bool.and_eq_true,decide_eq_true_eq] at h5
      obtain ⟨c1,c2,c3,c4⟩:=h5
      have hbd:b ≠ d:=fun q=>by subst q;omega
      have ie:((a:Int),(h:Int)+b) ∈ mgE h w t:=mem_mgE.2 ⟨by simp only;omega,by rw [mgP_mix (by omega),decide_eq_true c1]⟩
      have jf:((c:Int),(h:Int)+d) ∈ mgE h w t:=mem_mgE.2 ⟨by simp only;omega,by rw [mgP_mix (by omega),decide_eq_true c2]⟩
      have hb:below ((a:Int),(h:Int)+b) ((c:Int),(h:Int)+d)=true:=by rw [below_iff];left;simp only;omega
      refine mem_swl.2 ⟨_,_,pair_sub hpw ie jf hb,mem_row2.2 ⟨?_,.inr rfl⟩⟩
      rw [may_eq hv]
      refine mayI_iff.2 ⟨by simp only [asSw];omega,?_,?_,?_,?_⟩
      · simp only [asSw]
        rw [show min ((a:Int)) ((h:Int)+b)=a by omega,show max ((a:Int)) ((h:Int)+b)=(h:Int)+b by omega];exact ie
      · simp only [asSw]
        rw [show min ((h:Int)+d) ((c:Int))=c by omega,show max ((h:Int)+d) ((c:Int))=(h:Int)+d by omega];exact jf
      · simp only [asSw]
        rw [show min ((a:Int)) ((h:Int)+d)=a by omega,show max ((a:Int)) ((h:Int)+d)=(h:Int)+d by omega]
        intro q
        have:=(mem_mgE.1 q).2
        rw [mgP_mix (by omega),decide_eq_true_eq] at this
        omega
      · simp only [asSw]
        rw [show min ((h:Int)+b) ((c:Int))=c by omega,show max ((h:Int)+b) ((c:Int))=(h:Int)+b by omega]
        intro q
        have:=(mem_mgE.1 q).2
        rw [mgP_mix (by omega),decide_eq_true_eq] at this
        omega
  rw [hp.length_eq,List.length_map]
end
end Go.Idl
namespace Go.Idl
open Go
theorem mm_of {t:List (List Int)} {w:Nat} (hr:∀ r ∈ t,r.length=w∧∀ x ∈ r,0≤x∧x≤1):Mat t.length w t:=⟨rfl,hr⟩
theorem sc_bound {t:List (List Int)} {w:Nat} (hw:w≤5) (hr:∀ r ∈ t,r.length=w∧∀ x ∈ r,0≤x∧x≤1):∀ x ∈ scores t,0≤x∧x≤5:=by
  intro x hx
  simp only [scores,mapR,List.mem_map,List.mem_range] at hx
  obtain ⟨i,hi,rfl⟩:=hx
  have e:scr t i=t[i].sum:=by simp [scr,List.getD_eq_getElem?_getD,List.getElem?_eq_getElem hi]
  have:=sum01 t[i] (hr _ (List.getElem_mem hi)).2
  have h1:=(hr _ (List.getElem_mem hi)).1
  rw [e];omega
theorem mgl (h:Nat) (sc col:List Int) (hsl:sc.length=h) (hh:h≤5) (hsb:∀ x ∈ sc,0≤x∧x≤5) (t:List (List Int)) (B:Boxes) :
    ∀ (m i:Nat),i+m=h →
    wp tb (.loop z537l15) { T:=[(3,OT t),(4,.bptr 0 0 0),(8,O sc),(9,O col),(10,O (joined sc col)),(11,I i)],loc:=B,M:=[] }
      (fun ex st=>ex=.exit 0∧st={ T:=[(3,OT t),(4,.bptr 0 0 0),(8,O sc),(9,O col),(10,O (joined sc col)),(11,I h),(58,Bo false)],loc:=B,M:=[] }):=by
  intro m
  have hjl:(joined sc col).length=sc.length+col.length:=by simp [joined]
  induction m with
  | zero =>
    intro i hi
    have h3:i=h:=hi
    subst h3
    refine wp_loop ?_
    repeat (first|apply wp_as|apply wp_ss|refine wr (by simp [hsl];with_reducible rfl) ?_|refine wq (by simp [hsl];with_reducible rfl) ?_|refine wt (by simpa [hsl]) ?_|refine wf (by simpa [hsl]) ?_|refine xt (by simpa [hsl]) ?_|refine xf (by simpa [hsl]) ?_|apply wp_bs|apply wp_b|refine wp_sr ?_|refine wp_sx ?_|refine wp_ret' ?_|refine wp_skip' ?_|refine wp_exit' ?_)
    first | done | exact ⟨rfl,rfl⟩
  | succ m ih =>
    intro i hi
    have hih:i < h:=by omega
    have hil:i < sc.length:=by omega
    have hij:i < (joined sc col).length:=by omega
    have w2:IntKind.i64.wrap ((i:Int)+1)=((i+1:Nat):Int):=wrapS (by omega)
    have hx:=hsb _ (List.getElem_mem hil)
    have hj:(joined sc col)[i]=sc[i]+(sc.length:Int) - 1:=by
      simp only [joined]
      rw [List.getElem_append_left (by simpa using hil)]
      simp
    have w3:IntKind.i64.wrap (sc[i]+(h:Int))=sc[i]+h:=wrap64 (by omega) (by omega)
    have w4:IntKind.i64.wrap (sc[i]+(h:Int) - 1)=sc[i]+h - 1:=wrap64 (by omega) (by omega)
    rw [hsl] at hj
    have hg:=ih (i+1) (by omega)
    generalize joined sc col=D at *
    refine wp_loop ?_
    repeat (first|apply wp_as|apply wp_ss|refine wr (by simp [hih,hil,hij,hsl,hj,w2,w3,w4];with_reducible rfl) ?_|refine wq (by simp [hih,hil,hij,hsl,hj,w2,w3,w4];with_reducible rfl) ?_|refine wt (by simpa [hih,hil,hij,hsl,hj,w2,w3,w4]) ?_|refine wf (by simpa [hih,hil,hij,hsl,hj,w2,w3,w4]) ?_|refine xt (by simpa [hih,hil,hij,hsl,hj,w2,w3,w4]) ?_|refine xf (by simpa [hih,hil,hij,hsl,hj,w2,w3,w4]) ?_|apply wp_bs|apply wp_b|refine wp_sr ?_|refine wp_sx ?_|refine wp_ret' ?_|refine wp_skip' ?_|refine wp_exit' ?_)
    exact hg
set_option maxHeartbeats 4000000 in
theorem ev_FnMatrixGraph (code:List Int) (cl:Bool) (h:∀ x ∈ code,0≤x∧x≤255) :
    Ev tb zl537 [] [.lst 1 (bytes code) cl] [] ⟨Bo true,[],[],[]⟩:=by
  by_cases hc:(1048576:Int) < code.length
  · refine call_of_wp zt537 rfl ?_
    repeat (first|apply wp_as|apply wp_ss|refine wr (by simp [hc];with_reducible rfl) ?_|refine wq (by simp [hc];with_reducible rfl) ?_|refine wt (by simpa [hc]) ?_|refine wf (by simpa [hc]) ?_|refine xt (by simpa [hc]) ?_|refine xf (by simpa [hc]) ?_|apply wp_bs|apply wp_b|refine wp_sr ?_|refine wp_sx ?_|refine wp_ret' ?_|refine wp_skip' ?_|refine wp_exit' ?_)
    simp [zi537]
  obtain ⟨t,hT,e1⟩:=ev_DrawMatrixGraph code cl h (by omega)
  have ez:=ev_lim (ev_equalGraph 0 0 [] [] Z Z (.inr ⟨rfl,rfl⟩) (.inr ⟨rfl,rfl⟩) (by simp) (by simp))
  have hto:t.take t.length=t:=List.take_of_length_le (by omega)
  have hl2:t.length≤2000000:=by have:=hT.1;omega
  have hr2:∀ r ∈ t,r.length≤2000000:=fun r hr=>by have:=hT.2 r hr;omega
  cases hm:mOk t with
  | false =>
    have e2:=ev_lim (ev_mg_no t false hl2 hr2 hm)
    have e3:=ev_lim (ev_mgs_no t false hl2 hr2 hm)
    refine call_of_wp zt537 rfl ?_
    repeat (first|apply wp_as|apply wp_ss|refine wr (by simp [hc,e1,e2,e3,ez,hto];with_reducible rfl) ?_|refine wq (by simp [hc,e1,e2,e3,ez,hto];with_reducible rfl) ?_|refine wt (by simpa [hc,e1,e2,e3,ez,hto]) ?_|refine wf (by simpa [hc,e1,e2,e3,ez,hto]) ?_|refine xt (by simpa [hc,e1,e2,e3,ez,hto]) ?_|refine xf (by simpa [hc,e1,e2,e3,ez,hto]) ?_|apply wp_bs|apply wp_b|refine wp_sr ?_|refine wp_sx ?_|refine wp_ret' ?_|refine wp_skip' ?_|refine wp_exit' ?_)
    simp [zi537]
  | true =>
  obtain ⟨hh,w,hw,hr⟩:=mOk_mat hm
  have hr1:∀ r ∈ t,r.length=w:=fun r q=>(hr r q).1
  obtain ⟨hn,hhn⟩:∃ n,t.length=n:=⟨_,rfl⟩
  have hM:Mat t.length w t:=mm_of hr
  have hsb:=sc_bound hw.2 hr
  have hsl:(scores t).length=t.length:=by simp [scores,mapR]
  rw [hhn] at hh hM hsl
  by_cases hb:7 < hn+w
  · have e2:=ev_lim (ev_mg_big hn w t false hh hw hhn hr1 hm hb)
    have e3:=ev_lim (ev_mgs_big hn w t false hh hw hhn hr1 hm hb)
    refine call_of_wp zt537 rfl ?_
    repeat (first|apply wp_as|apply wp_ss|refine wr (by simp [hc,e1,e2,e3,ez,hto];with_reducible rfl) ?_|refine wq (by simp [hc,e1,e2,e3,ez,hto];with_reducible rfl) ?_|refine wt (by simpa [hc,e1,e2,e3,ez,hto]) ?_|refine wf (by simpa [hc,e1,e2,e3,ez,hto]) ?_|refine xt (by simpa [hc,e1,e2,e3,ez,hto]) ?_|refine xf (by simpa [hc,e1,e2,e3,ez,hto]) ?_|apply wp_bs|apply wp_b|refine wp_sr ?_|refine wp_sx ?_|refine wp_ret' ?_|refine wp_skip' ?_|refine wp_exit' ?_)
    simp [zi537]
  have hb7:hn+w≤7:=by omega
  have e2:=ev_lim (ev_mg_yes hn w t false hh hw hhn hr1 hm hb7)
  have e3:=ev_lim (ev_mgs_yes hn w t false hh hw hhn hr1 hm hb7)
  have e4:=ev_lim (ev_MarginsX hn w t false hh hw hhn hr hm)
  have e5:=ev_lim (ev_InterchangesOf hn w t false hh hw hhn hr1 hm)
  have hv:vGraph ((hn+w:Nat):Int) (mgE hn w t)=true:=filter_vG hb7 _
  have p1:=mg_degs hM hb7
  have p2:=mg_split hM hh hw hb7
  have p3:=mg_cnt hM hb7
  have hcl:(colT w t).length=w:=colT_len w t
  have h21:=vG21 hb7 hv
  have hf:Fit (mgE hn w t):=fun e he=>by have:=mem_prs.1 ((vG_iff.1 hv).2.1 e he);omega
  have e6:=fun cc=>ev_lim (ev_impl_DegreesOf (hn+w) (mgE hn w t) cc hf (by omega) hv)
  have e6z:=ev_lim (ev_DegreesOf_Z (hn+w) hb7)
  have e7:=fun cc=>ev_lim (ev_SwitchesOf (hn+w) (mgE hn w t) cc hv)
  have e7z:=ev_lim (ev_SwitchesOf_Z (hn+w) hb7)
  have hjl:(joined (scores t) (colT w t)).length=hn+w:=by simp [joined,hsl,hcl]
  have e8:=fun cc=>ev_lim (ev_IsSplit (joined (scores t) (colT w t)) cc (by omega))
  have e9:=fun c1 c2=>ev_lim (ev_equalGraph ((hn+w:Nat):Int) ((hn+w:Nat):Int) (mgE hn w t) (mgE hn w t) (L2 (mgE hn w t) c1) (L2 (mgE hn w t) c2) (.inl ⟨_,rfl⟩) (.inl ⟨_,rfl⟩) (by omega) (by omega))
  have hdr:(joined (scores t) (colT w t)).drop hn=colT w t:=by
    rw [joined,List.drop_append_of_le_length (by simp [hsl]),List.drop_eq_nil_of_le (by simp [hsl]),List.nil_append]
  have hDt:(joined (scores t) (colT w t)).take (hn+w)=joined (scores t) (colT w t):=List.take_of_length_le (by omega)
  have hct:(colT w t).take w=colT w t:=List.take_of_length_le (by omega)
  have ea:=fun c1 c2=>ev_lim (ev_equalInts (colT w t) (colT w t) c1 c2 (by omega) (by omega))
  have hlo:=fun B=>mgl hn (scores t) (colT w t) hsl hh.2 hsb t B hn 0 (by omega)
  rw [show ((0:Nat):Int)=0 from rfl] at hlo
  have hnw:((hn+w:Nat):Int)=(hn:Int)+w:=by omega
  rw [p1] at e6
  rw [hnw] at e6 e7 e9 e6z e7z
  rw [p2] at e8
  simp only [decide_true,Bool.and_true,Bool.true_and] at e8 e9 ea
  generalize hQ:icA t hn w hn 0=Q at *
  generalize hG:swl (mgE hn w t) (mgE hn w t)=G at *
  have hq1:∀ xs:List Q4,xs.length≤1000000→True:=fun _ _=>trivial
  cases hE:mgE hn w t with
  | nil =>
    rw [hE] at e2 e3 e9 p1 hG
    rw [p1] at e6z
    have hG0:G=[]:=by rw [← hG];rfl
    subst hG0
    have hQ0:Q=[]:=List.length_eq_zero_iff.1 p3.symm
    subst hQ0
    have eb:=fun c2=>ev_lim (ev_equalGraph ((hn:Int)+w) ((hn:Int)+w) [] [] Z (L2 [] c2) (.inr ⟨rfl,rfl⟩) (.inl ⟨_,rfl⟩) (by simp) (by simp))
    simp only [nl4] at e5
    simp only [nl2_nil,L2,O2,eds_nil,decide_true,Bool.and_true] at e2 e3 eb
    generalize hD:joined (scores t) (colT w t)=D at *
    refine call_of_wp zt537 rfl ?_
    repeat (first|apply wp_as|apply wp_ss|refine wr (by simp [hc,e1,e2,e3,e4,eb,e6z,hto];with_reducible rfl) ?_|refine wq (by simp [hc,e1,e2,e3,e4,eb,e6z,hto];with_reducible rfl) ?_|refine wt (by simpa [hc,e1,e2,e3,e4,eb,e6z,hto]) ?_|refine wf (by simpa [hc,e1,e2,e3,e4,eb,e6z,hto]) ?_|refine xt (by simpa [hc,e1,e2,e3,e4,eb,e6z,hto]) ?_|refine xf (by simpa [hc,e1,e2,e3,e4,eb,e6z,hto]) ?_|apply wp_bs|apply wp_b|refine wp_sr ?_|refine wp_sx ?_|refine wp_ret' ?_|refine wp_skip' ?_|refine wp_exit' ?_)
    refine wp_imp (hlo _) ?_
    rintro ex st ⟨rfl,rfl⟩
    simp only [if_true]
    repeat (first|apply wp_as|apply wp_ss|refine wr (by simp [e5,e7z,e8,ea,hsl,hdr,hct,hDt,hjl,hcl,hto];with_reducible rfl) ?_|refine wq (by simp [e5,e7z,e8,ea,hsl,hdr,hct,hDt,hjl,hcl,hto];with_reducible rfl) ?_|refine wt (by simpa [e5,e7z,e8,ea,hsl,hdr,hct,hDt,hjl,hcl,hto]) ?_|refine wf (by simpa [e5,e7z,e8,ea,hsl,hdr,hct,hDt,hjl,hcl,hto]) ?_|refine xt (by simpa [e5,e7z,e8,ea,hsl,hdr,hct,hDt,hjl,hcl,hto]) ?_|refine xf (by simpa [e5,e7z,e8,ea,hsl,hdr,hct,hDt,hjl,hcl,hto]) ?_|apply wp_bs|apply wp_b|refine wp_sr ?_|refine wp_sx ?_|refine wp_ret' ?_|refine wp_skip' ?_|refine wp_exit' ?_)
    simp [zi537]
  | cons q E =>
    rw [hE] at e2 e3 e6 e7 e9
    rw [nl2_cons] at e2
    generalize q::E=A at *
    generalize hD:joined (scores t) (colT w t)=D at *
    cases G with
    | nil =>
      have hQ0:Q=[]:=List.length_eq_zero_iff.1 p3.symm
      subst hQ0
      simp only [nl4] at e5 e7
      refine call_of_wp zt537 rfl ?_
      repeat (first|apply wp_as|apply wp_ss|refine wr (by simp [hc,e1,e2,e3,e4,e9,e6,hto];with_reducible rfl) ?_|refine wq (by simp [hc,e1,e2,e3,e4,e9,e6,hto];with_reducible rfl) ?_|refine wt (by simpa [hc,e1,e2,e3,e4,e9,e6,hto]) ?_|refine wf (by simpa [hc,e1,e2,e3,e4,e9,e6,hto]) ?_|refine xt (by simpa [hc,e1,e2,e3,e4,e9,e6,hto]) ?_|refine xf (by simpa [hc,e1,e2,e3,e4,e9,e6,hto]) ?_|apply wp_bs|apply wp_b|refine wp_sr ?_|refine wp_sx ?_|refine wp_ret' ?_|refine wp_skip' ?_|refine wp_exit' ?_)
      refine wp_imp (hlo _) ?_
      rintro ex st ⟨rfl,rfl⟩
      simp only [if_true]
      repeat (first|apply wp_as|apply wp_ss|refine wr (by simp [e5,e7,e8,ea,hsl,hdr,hct,hDt,hjl,hcl,hto];with_reducible rfl) ?_|refine wq (by simp [e5,e7,e8,ea,hsl,hdr,hct,hDt,hjl,hcl,hto];with_reducible rfl) ?_|refine wt (by simpa [e5,e7,e8,ea,hsl,hdr,hct,hDt,hjl,hcl,hto]) ?_|refine wf (by simpa [e5,e7,e8,ea,hsl,hdr,hct,hDt,hjl,hcl,hto]) ?_|refine xt (by simpa [e5,e7,e8,ea,hsl,hdr,hct,hDt,hjl,hcl,hto]) ?_|refine xf (by simpa [e5,e7,e8,ea,hsl,hdr,hct,hDt,hjl,hcl,hto]) ?_|apply wp_bs|apply wp_b|refine wp_sr ?_|refine wp_sx ?_|refine wp_ret' ?_|refine wp_skip' ?_|refine wp_exit' ?_)
      simp [zi537]
    | cons s G =>
      cases Q with
      | nil=>simp at p3
      | cons s2 Q =>
        simp only [nl4] at e5 e7
        refine call_of_wp zt537 rfl ?_
        repeat (first|apply wp_as|apply wp_ss|refine wr (by simp [hc,e1,e2,e3,e4,e9,e6,hto];with_reducible rfl) ?_|refine wq (by simp [hc,e1,e2,e3,e4,e9,e6,hto];with_reducible rfl) ?_|refine wt (by simpa [hc,e1,e2,e3,e4,e9,e6,hto]) ?_|refine wf (by simpa [hc,e1,e2,e3,e4,e9,e6,hto]) ?_|refine xt (by simpa [hc,e1,e2,e3,e4,e9,e6,hto]) ?_|refine xf (by simpa [hc,e1,e2,e3,e4,e9,e6,hto]) ?_|apply wp_bs|apply wp_b|refine wp_sr ?_|refine wp_sx ?_|refine wp_ret' ?_|refine wp_skip' ?_|refine wp_exit' ?_)
        refine wp_imp (hlo _) ?_
        rintro ex st ⟨rfl,rfl⟩
        simp only [if_true]
        have p4:G.length=Q.length:=by simpa using p3
        repeat (first|apply wp_as|apply wp_ss|refine wr (by simp [e5,e7,e8,ea,hsl,hdr,hct,hDt,hjl,hcl,hto,p4];with_reducible rfl) ?_|refine wq (by simp [e5,e7,e8,ea,hsl,hdr,hct,hDt,hjl,hcl,hto,p4];with_reducible rfl) ?_|refine wt (by simpa [e5,e7,e8,ea,hsl,hdr,hct,hDt,hjl,hcl,hto,p4]) ?_|refine wf (by simpa [e5,e7,e8,ea,hsl,hdr,hct,hDt,hjl,hcl,hto,p4]) ?_|refine xt (by simpa [e5,e7,e8,ea,hsl,hdr,hct,hDt,hjl,hcl,hto,p4]) ?_|refine xf (by simpa [e5,e7,e8,ea,hsl,hdr,hct,hDt,hjl,hcl,hto,p4]) ?_|apply wp_bs|apply wp_b|refine wp_sr ?_|refine wp_sx ?_|refine wp_ret' ?_|refine wp_skip' ?_|refine wp_exit' ?_)
        simp [zi537,p4]
end Go.Idl
