/- Part 6 of a proof by an ideal interpreter of the code: its definitions and lemmas. Conditions: none. -/
import Derived.KernelRfl
import Derived.Test.YtfhfcijkdbdolaaA5
set_option linter.all false
set_option linter.unusedVariables false
set_option linter.unusedSimpArgs false
namespace Go.Idl
open Go
theorem mrk_scz (k:Int) (n:Nat):(ints (mrk k n)).all (·.all IV.isSc)=true:=by
  rw [List.all_eq_true];intro x hx
  obtain ⟨e,_,rfl⟩:=List.mem_map.1 hx
  rfl
theorem eqT_loop (t:List (List Int)) (c d:Bool) (hl:t.length≤1000) (hr:∀ r ∈ t,r.length≤1000):∀ (m i:Nat),i+m=t.length →
    wp tb (.loop z542l8) { T:=[(0,TL t c),(1,TL t d),(5,I i)],loc:=[],M:=[] }
      (fun ex st=>ex=.exit 0∧st={ T:=[(0,TL t c),(1,TL t d),(5,I t.length),(14,Bo false)],loc:=[],M:=[] }):=by
  intro m
  induction m with
  | zero =>
    intro i hi
    have h3:i=t.length:=hi
    subst h3
    refine wp_loop ?_
    repeat (first|apply wp_as|apply wp_ss|refine wr (by simp;with_reducible rfl) ?_|refine wq (by simp;with_reducible rfl) ?_|refine wt (by simpa) ?_|refine wf (by simpa) ?_|refine xt (by simpa) ?_|refine xf (by simpa) ?_|apply wp_bs|apply wp_b|refine wp_sr ?_|refine wp_sx ?_|refine wp_ret' ?_|refine wp_skip' ?_|refine wp_exit' ?_)
    exact ⟨rfl,rfl⟩
  | succ m ih =>
    intro i hi
    have hi2:i < t.length:=by omega
    have w2:IntKind.i64.wrap ((i:Int)+1)=((i+1:Nat):Int):=wrapS (by omega)
    have e1:=fun c d=>ev_lim (ev_eqIntS t[i] c d (by have:=hr _ (List.getElem_mem hi2);omega))
    have hg:=ih (i+1) (by omega)
    refine wp_loop ?_
    repeat (first|apply wp_as|apply wp_ss|refine wr (by simp [hi2,e1,w2];with_reducible rfl) ?_|refine wq (by simp [hi2,e1,w2];with_reducible rfl) ?_|refine wt (by simpa [hi2,e1,w2]) ?_|refine wf (by simpa [hi2,e1,w2]) ?_|refine xt (by simpa [hi2,e1,w2]) ?_|refine xf (by simpa [hi2,e1,w2]) ?_|apply wp_bs|apply wp_b|refine wp_sr ?_|refine wp_sx ?_|refine wp_ret' ?_|refine wp_skip' ?_|refine wp_exit' ?_)
    exact hg
theorem ev_eqIntSS (t:List (List Int)) (c d:Bool) (hl:t.length≤1000) (hr:∀ r ∈ t,r.length≤1000):Ev tb zl542 [] [TL t c,TL t d] [] ⟨Bo true,[],[],[]⟩:=by
  have hlo:=eqT_loop t c d hl hr t.length 0 (by omega)
  rw [show ((0:Nat):Int)=0 from rfl] at hlo
  refine call_of_wp zt542 rfl ?_
  repeat (first|apply wp_as|apply wp_ss|refine wr (by simp;with_reducible rfl) ?_|refine wq (by simp;with_reducible rfl) ?_|refine wt (by simpa) ?_|refine wf (by simpa) ?_|refine xt (by simpa) ?_|refine xf (by simpa) ?_|apply wp_bs|apply wp_b|refine wp_sr ?_|refine wp_sx ?_|refine wp_ret' ?_|refine wp_skip' ?_|refine wp_exit' ?_)
  refine wp_imp hlo ?_
  rintro ex st ⟨rfl,rfl⟩
  try simp only [if_true]
  repeat (first|apply wp_as|apply wp_ss|refine wr (by simp;with_reducible rfl) ?_|refine wq (by simp;with_reducible rfl) ?_|refine wt (by simpa) ?_|refine wf (by simpa) ?_|refine xt (by simpa) ?_|refine xf (by simpa) ?_|apply wp_bs|apply wp_b|refine wp_sr ?_|refine wp_sx ?_|refine wp_ret' ?_|refine wp_skip' ?_|refine wp_exit' ?_)
  simp [zi542]
theorem ev_eqIntSS_Z:Ev tb zl542 [] [Z,Z] [] ⟨Bo true,[],[],[]⟩:=by
  refine call_of_wp zt542 rfl ?_
  repeat (first|apply wp_as|apply wp_ss|refine wr (by simp;with_reducible rfl) ?_|refine wq (by simp;with_reducible rfl) ?_|refine wt (by simpa) ?_|refine wf (by simpa) ?_|refine xt (by simpa) ?_|refine xf (by simpa) ?_|apply wp_bs|apply wp_b|refine wp_sr ?_|refine wp_sx ?_|refine wp_ret' ?_|refine wp_skip' ?_|refine wp_exit' ?_)
  refine wp_loop ?_
  repeat (first|apply wp_as|apply wp_ss|refine wr (by simp;with_reducible rfl) ?_|refine wq (by simp;with_reducible rfl) ?_|refine wt (by simpa) ?_|refine wf (by simpa) ?_|refine xt (by simpa) ?_|refine xf (by simpa) ?_|apply wp_bs|apply wp_b|refine wp_sr ?_|refine wp_sx ?_|refine wp_ret' ?_|refine wp_skip' ?_|refine wp_exit' ?_)
  simp [zi542]
theorem ev_markIntSS_Z (k:Int):Ev tb zl546 [] [Z,I k] [] ⟨I k,[],[],[]⟩:=by
  refine call_of_wp zt546 rfl ?_
  repeat (first|apply wp_as|apply wp_ss|refine wr (by simp;with_reducible rfl) ?_|refine wq (by simp;with_reducible rfl) ?_|refine wt (by simpa) ?_|refine wf (by simpa) ?_|refine xt (by simpa) ?_|refine xf (by simpa) ?_|apply wp_bs|apply wp_b|refine wp_sr ?_|refine wp_sx ?_|refine wp_ret' ?_|refine wp_skip' ?_|refine wp_exit' ?_)
  refine wp_loop ?_
  repeat (first|apply wp_as|apply wp_ss|refine wr (by simp;with_reducible rfl) ?_|refine wq (by simp;with_reducible rfl) ?_|refine wt (by simpa) ?_|refine wf (by simpa) ?_|refine xt (by simpa) ?_|refine xf (by simpa) ?_|apply wp_bs|apply wp_b|refine wp_sr ?_|refine wp_sx ?_|refine wp_ret' ?_|refine wp_skip' ?_|refine wp_exit' ?_)
  simp [zi546]
theorem ev_heldIntSS_Z (k:Int):Ev tb zl545 [] [Z,I k] [] ⟨I k,[],[],[]⟩:=by
  refine call_of_wp zt545 rfl ?_
  repeat (first|apply wp_as|apply wp_ss|refine wr (by simp;with_reducible rfl) ?_|refine wq (by simp;with_reducible rfl) ?_|refine wt (by simpa) ?_|refine wf (by simpa) ?_|refine xt (by simpa) ?_|refine xf (by simpa) ?_|apply wp_bs|apply wp_b|refine wp_sr ?_|refine wp_sx ?_|refine wp_ret' ?_|refine wp_skip' ?_|refine wp_exit' ?_)
  refine wp_loop ?_
  repeat (first|apply wp_as|apply wp_ss|refine wr (by simp;with_reducible rfl) ?_|refine wq (by simp;with_reducible rfl) ?_|refine wt (by simpa) ?_|refine wf (by simpa) ?_|refine xt (by simpa) ?_|refine xf (by simpa) ?_|apply wp_bs|apply wp_b|refine wp_sr ?_|refine wp_sx ?_|refine wp_ret' ?_|refine wp_skip' ?_|refine wp_exit' ?_)
  simp [zi545]
def cntT:List (List Int)→Nat→Nat
  | [],_=>0
  | _::_,0=>0
  | r::t,i+1=>r.length+cntT t i
theorem cntT_succ:∀ (t:List (List Int)) (i:Nat) (h:i < t.length),cntT t (i+1)=cntT t i+t[i].length
  | r::t,0,_=>by cases t <;> simp [cntT]
  | r::t,i+1,h=>by
    have:=cntT_succ t i (by simpa using h)
    rw [cntT,this,cntT,List.getElem_cons_succ];omega
theorem cntT_le (t:List (List Int)) (B:Nat) (hr:∀ r ∈ t,r.length≤B):∀ i,cntT t i≤B * i:=by
  induction t with
  | nil=>intro i;simp [cntT]
  | cons r t ih =>
    intro i
    cases i with
    | zero=>simp [cntT]
    | succ i =>
      have h1:=ih (fun r hr'=>hr r (by simp [hr'])) i
      have h2:=hr r (by simp)
      rw [cntT,Nat.mul_succ];omega
def mrkM (k:Int) (t:List (List Int)) (i:Nat):List (List Int):=(List.range t.length).map fun j=>if j < i then mrk (k+(cntT t j:Int)) (t.getD j []).length else t.getD j []
theorem mrkM_len (k:Int) (t:List (List Int)) (i:Nat):(mrkM k t i).length=t.length:=by simp [mrkM]
theorem mrkM_zero (k:Int) (t:List (List Int)):mrkM k t 0=t:=by
  refine List.ext_getElem (by simp [mrkM]) fun j h1 h2=>?_
  simp [mrkM,List.getElem?_eq_getElem h2]
theorem mrkM_get (k:Int) (t:List (List Int)) (i j:Nat) (h:j < (mrkM k t i).length):(mrkM k t i)[j]=if j < i then mrk (k+(cntT t j:Int)) (t[j]'(by simpa [mrkM] using h)).length else t[j]'(by simpa [mrkM] using h):=by
  have hj:j < t.length:=by simpa [mrkM] using h
  simp [mrkM,List.getElem?_eq_getElem hj]
theorem mrkM_succ (k:Int) (t:List (List Int)) (i:Nat) (h:i < t.length):(mrkM k t i).set i (mrk (k+(cntT t i:Int)) t[i].length)=mrkM k t (i+1):=by
  refine List.ext_getElem (by simp [mrkM]) fun j h1 h2=>?_
  rw [List.getElem_set,mrkM_get]
  by_cases hij:i=j
  · subst hij;rw [if_pos rfl,mrkM_get,if_pos (by omega)]
  · rw [if_neg hij,mrkM_get]
    by_cases hj:j < i
    · rw [if_pos hj,if_pos (by omega)]
    · rw [if_neg hj,if_neg (by omega)]
set_option maxHeartbeats 1000000 in
theorem mkT_loop (k:Int) (t:List (List Int)) (hl:t.length≤100) (hr:∀ r ∈ t,r.length≤100) (hk:0≤k∧k≤10000000) (M:List Boxes):∀ (m i:Nat),i+m=t.length →
    wp tb (.loop z546l5) { T:=[(0,OT (mrkM k t i)),(1,I (k+(cntT t i:Int))),(5,I i)],loc:=[],M:=M }
      (fun ex st=>ex=.exit 0∧st={ T:=[(0,OT (mrkM k t t.length)),(1,I (k+(cntT t t.length:Int))),(5,I t.length),(9,Bo false)],loc:=[],M:=M }):=by
  intro m
  induction m with
  | zero =>
    intro i hi
    have h3:i=t.length:=hi
    subst h3
    refine wp_loop ?_
    repeat (first|apply wp_as|apply wp_ss|refine wr (by simp [mrkM_len];with_reducible rfl) ?_|refine wq (by simp [mrkM_len];with_reducible rfl) ?_|refine wt (by simpa [mrkM_len]) ?_|refine wf (by simpa [mrkM_len]) ?_|refine xt (by simpa [mrkM_len]) ?_|refine xf (by simpa [mrkM_len]) ?_|apply wp_bs|apply wp_b|refine wp_sr ?_|refine wp_sx ?_|refine wp_ret' ?_|refine wp_skip' ?_|refine wp_exit' ?_)
    exact ⟨rfl,rfl⟩
  | succ m ih =>
    intro i hi
    have hi2:i < t.length:=by omega
    have hc:=cntT_le t 100 hr i
    have hri:=hr _ (List.getElem_mem hi2)
    have hml:=mrkM_len k t i
    have him:i < (mrkM k t i).length:=by omega
    have hgt:(mrkM k t i)[i]=t[i]:=by rw [mrkM_get,if_neg (by omega)]
    have w2:IntKind.i64.wrap ((i:Int)+1)=((i+1:Nat):Int):=wrapS (by omega)
    have e1:=ev_lim (ev_markIntS t[i] (k+(cntT t i:Int)) (by omega) (by omega))
    have hsc:=mrk_scz (k+(cntT t i:Int)) t[i].length
    have hsu:=mrkM_succ k t i hi2
    have hcs:k+(cntT t i:Int)+(t[i].length:Int)=k+(cntT t (i+1):Int):=by rw [cntT_succ t i hi2];omega
    have hg:=ih (i+1) (by omega)
    rw [← hsu,← hcs] at hg
    rw [hml] at him
    generalize mrkM k t i=A at *
    have hiA:i < A.length:=by omega
    refine wp_loop ?_
    repeat (first|apply wp_as|apply wp_ss|refine wr (by simp [hml,hi2,hiA,hgt,e1,hsc,w2];with_reducible rfl) ?_|refine wq (by simp [hml,hi2,hiA,hgt,e1,hsc,w2];with_reducible rfl) ?_|refine wt (by simpa [hml,hi2,hiA,hgt,e1,hsc,w2]) ?_|refine wf (by simpa [hml,hi2,hiA,hgt,e1,hsc,w2]) ?_|refine xt (by simpa [hml,hi2,hiA,hgt,e1,hsc,w2]) ?_|refine xf (by simpa [hml,hi2,hiA,hgt,e1,hsc,w2]) ?_|apply wp_bs|apply wp_b|refine wp_sr ?_|refine wp_sx ?_|refine wp_ret' ?_|refine wp_skip' ?_|refine wp_exit' ?_)
    exact hg
theorem ev_markIntSS (t:List (List Int)) (k:Int) (hl:t.length≤100) (hr:∀ r ∈ t,r.length≤100) (hk:0≤k∧k≤10000000) (M:List Boxes) :
    Ev tb zl546 [0] [OT t,I k] M ⟨I (k+(cntT t t.length:Int)),[OT (mrkM k t t.length)],M,[]⟩:=by
  have hlo:=mkT_loop k t hl hr hk M t.length 0 (by omega)
  rw [mrkM_zero,show cntT t 0=0 by cases t <;> rfl,show k+((0:Nat):Int)=k by omega,show ((0:Nat):Int)=0 from rfl] at hlo
  refine call_of_wp zt546 rfl ?_
  repeat (first|apply wp_as|apply wp_ss|refine wr (by simp;with_reducible rfl) ?_|refine wq (by simp;with_reducible rfl) ?_|refine wt (by simpa) ?_|refine wf (by simpa) ?_|refine xt (by simpa) ?_|refine xf (by simpa) ?_|apply wp_bs|apply wp_b|refine wp_sr ?_|refine wp_sx ?_|refine wp_ret' ?_|refine wp_skip' ?_|refine wp_exit' ?_)
  refine wp_imp hlo ?_
  rintro ex st ⟨rfl,rfl⟩
  try simp only [if_true]
  repeat (first|apply wp_as|apply wp_ss|refine wr (by simp;with_reducible rfl) ?_|refine wq (by simp;with_reducible rfl) ?_|refine wt (by simpa) ?_|refine wf (by simpa) ?_|refine xt (by simpa) ?_|refine xf (by simpa) ?_|apply wp_bs|apply wp_b|refine wp_sr ?_|refine wp_sx ?_|refine wp_ret' ?_|refine wp_skip' ?_|refine wp_exit' ?_)
  simp [zi546]
theorem hdT_loop (k:Int) (t:List (List Int)) (c:Bool) (hl:t.length≤100) (hr:∀ r ∈ t,r.length≤100) (hk:0≤k∧k≤10000000):∀ (m i:Nat),i+m=t.length →
    wp tb (.loop z545l7) { T:=[(0,TL (mrkM k t t.length) c),(1,I (k+(cntT t i:Int))),(5,I i)],loc:=[],M:=[] }
      (fun ex st=>ex=.exit 0∧st={ T:=[(0,TL (mrkM k t t.length) c),(1,I (k+(cntT t t.length:Int))),(5,I t.length),(9,Bo false)],loc:=[],M:=[] }):=by
  intro m
  induction m with
  | zero =>
    intro i hi
    have h3:i=t.length:=hi
    subst h3
    refine wp_loop ?_
    repeat (first|apply wp_as|apply wp_ss|refine wr (by simp [mrkM_len];with_reducible rfl) ?_|refine wq (by simp [mrkM_len];with_reducible rfl) ?_|refine wt (by simpa [mrkM_len]) ?_|refine wf (by simpa [mrkM_len]) ?_|refine xt (by simpa [mrkM_len]) ?_|refine xf (by simpa [mrkM_len]) ?_|apply wp_bs|apply wp_b|refine wp_sr ?_|refine wp_sx ?_|refine wp_ret' ?_|refine wp_skip' ?_|refine wp_exit' ?_)
    exact ⟨rfl,rfl⟩
  | succ m ih =>
    intro i hi
    have hi2:i < t.length:=by omega
    have hc:=cntT_le t 100 hr i
    have hri:=hr _ (List.getElem_mem hi2)
    have hml:=mrkM_len k t t.length
    have him:i < (mrkM k t t.length).length:=by omega
    have hgt:(mrkM k t t.length)[i]=mrk (k+(cntT t i:Int)) t[i].length:=by rw [mrkM_get,if_pos hi2]
    have w2:IntKind.i64.wrap ((i:Int)+1)=((i+1:Nat):Int):=wrapS (by omega)
    have e1:=fun c=>ev_lim (ev_heldIntS (k+(cntT t i:Int)) t[i].length c (by omega) (by omega))
    have hcs:k+(cntT t i:Int)+(t[i].length:Int)=k+(cntT t (i+1):Int):=by rw [cntT_succ t i hi2];omega
    have hg:=ih (i+1) (by omega)
    rw [← hcs] at hg
    have h0:¬ (k+(cntT t i:Int)+(t[i].length:Int) < 0):=by omega
    generalize mrkM k t t.length=A at *
    refine wp_loop ?_
    repeat (first|apply wp_as|apply wp_ss|refine wr (by simp [hml,hi2,him,hgt,e1,h0,w2];with_reducible rfl) ?_|refine wq (by simp [hml,hi2,him,hgt,e1,h0,w2];with_reducible rfl) ?_|refine wt (by simpa [hml,hi2,him,hgt,e1,h0,w2]) ?_|refine wf (by simpa [hml,hi2,him,hgt,e1,h0,w2]) ?_|refine xt (by simpa [hml,hi2,him,hgt,e1,h0,w2]) ?_|refine xf (by simpa [hml,hi2,him,hgt,e1,h0,w2]) ?_|apply wp_bs|apply wp_b|refine wp_sr ?_|refine wp_sx ?_|refine wp_ret' ?_|refine wp_skip' ?_|refine wp_exit' ?_)
    exact hg
theorem ev_heldIntSS (t:List (List Int)) (k:Int) (c:Bool) (hl:t.length≤100) (hr:∀ r ∈ t,r.length≤100) (hk:0≤k∧k≤10000000) :
    Ev tb zl545 [] [TL (mrkM k t t.length) c,I k] [] ⟨I (k+(cntT t t.length:Int)),[],[],[]⟩:=by
  have hlo:=hdT_loop k t c hl hr hk t.length 0 (by omega)
  rw [show cntT t 0=0 by cases t <;> rfl,show k+((0:Nat):Int)=k by omega,show ((0:Nat):Int)=0 from rfl] at hlo
  refine call_of_wp zt545 rfl ?_
  repeat (first|apply wp_as|apply wp_ss|refine wr (by simp;with_reducible rfl) ?_|refine wq (by simp;with_reducible rfl) ?_|refine wt (by simpa) ?_|refine wf (by simpa) ?_|refine xt (by simpa) ?_|refine xf (by simpa) ?_|apply wp_bs|apply wp_b|refine wp_sr ?_|refine wp_sx ?_|refine wp_ret' ?_|refine wp_skip' ?_|refine wp_exit' ?_)
  refine wp_imp hlo ?_
  rintro ex st ⟨rfl,rfl⟩
  try simp only [if_true]
  repeat (first|apply wp_as|apply wp_ss|refine wr (by simp;with_reducible rfl) ?_|refine wq (by simp;with_reducible rfl) ?_|refine wt (by simpa) ?_|refine wf (by simpa) ?_|refine xt (by simpa) ?_|refine xf (by simpa) ?_|apply wp_bs|apply wp_b|refine wp_sr ?_|refine wp_sx ?_|refine wp_ret' ?_|refine wp_skip' ?_|refine wp_exit' ?_)
  simp [zi545]
set_option maxHeartbeats 4000000 in
theorem ev_FnExactRealizeScores (law:∀ s,valS s=true→isScr s=true→ScrLaw s) (s:List Int) (c:Bool) :
    Ev tb zl528 [] [L s c] [] ⟨Bo true,[],[],[]⟩:=by
  by_cases hc:(1048576:Int) < s.length
  · refine call_of_wp zt528 rfl ?_
    repeat (first|apply wp_as|apply wp_ss|refine wr (by simp [hc];with_reducible rfl) ?_|refine wq (by simp [hc];with_reducible rfl) ?_|refine wt (by simpa [hc]) ?_|refine wf (by simpa [hc]) ?_|refine xt (by simpa [hc]) ?_|refine xf (by simpa [hc]) ?_|apply wp_bs|apply wp_b|refine wp_sr ?_|refine wp_sx ?_|refine wp_ret' ?_|refine wp_skip' ?_|refine wp_exit' ?_)
    simp [zi528]
  have t1:=fun c=>ev_lim (ev_toIntS s c (by omega))
  have q1:=fun c e=>ev_lim (ev_eqIntS s c e (by omega))
  have m1:=ev_lim (ev_markIntS s 1 (by omega) (by omega))
  have h0:¬ (1+(s.length:Int) < 0):=by omega
  have hs1:=mrk_scz 1 s.length
  have i1:=fun c=>ev_lim (ev_IsScores_all s c (by omega))
  have e3:=fun c=>ev_lim (ev_spec_RealizeScores s c (by omega))
  cases hq:(valS s && isScr s) with
  | false =>
    rw [hq] at i1
    simp only [hq,Bool.false_eq_true,if_false] at e3
    have e2:=fun c=>ev_lim (ev_RealizeScores_no s c (i1 c))
    have ez:=ev_lim ev_eqIntSS_Z
    have m2:=ev_lim (ev_markIntSS_Z 1)
    have m3:=ev_lim (ev_heldIntSS_Z 1)
    refine call_of_wp zt528 rfl ?_
    repeat (first|apply wp_as|apply wp_ss|refine wr (by simp [hc,t1,q1,m1,h0,hs1,e2,e3,ez,m2,m3];with_reducible rfl) ?_|refine wq (by simp [hc,t1,q1,m1,h0,hs1,e2,e3,ez,m2,m3];with_reducible rfl) ?_|refine wt (by simpa [hc,t1,q1,m1,h0,hs1,e2,e3,ez,m2,m3]) ?_|refine wf (by simpa [hc,t1,q1,m1,h0,hs1,e2,e3,ez,m2,m3]) ?_|refine xt (by simpa [hc,t1,q1,m1,h0,hs1,e2,e3,ez,m2,m3]) ?_|refine xf (by simpa [hc,t1,q1,m1,h0,hs1,e2,e3,ez,m2,m3]) ?_|apply wp_bs|apply wp_b|refine wp_sr ?_|refine wp_sx ?_|refine wp_ret' ?_|refine wp_skip' ?_|refine wp_exit' ?_)
    simp [zi528]
  | true =>
    obtain ⟨hv,hi⟩:=Bool.and_eq_true_iff.1 hq
    obtain ⟨f1,f2,f3⟩:=valS_few hv
    obtain ⟨l1,l2,l3,-⟩:=law s hv hi
    have e2:=fun c=>ev_lim (ev_RealizeScores s c f2 f3)
    simp only [hi,if_true] at e2
    simp only [hq,if_true,← l1] at e3
    generalize realI2 s=t at *
    have htl:=l2.1
    have htr:∀ r ∈ t,r.length≤100:=fun r hr=>by have:=(l2.2.1 r hr).1;omega
    have ez:=fun c d=>ev_lim (ev_eqIntSS t c d (by omega) (fun r hr=>by have:=htr r hr;omega))
    have m2:=fun M=>ev_lim (ev_markIntSS t 1 (by omega) htr (by omega) M)
    have m3:=fun c=>ev_lim (ev_heldIntSS t 1 c (by omega) htr (by omega))
    have h9:¬ (1+(cntT t t.length:Int) < 0):=by omega
    have hmt:List.take t.length (mrkM 1 t t.length)=mrkM 1 t t.length:=List.take_of_length_le (by rw [mrkM_len];omega)
    have hml:=mrkM_len 1 t t.length
    refine call_of_wp zt528 rfl ?_
    repeat (first|apply wp_as|apply wp_ss|refine wr (by simp [hc,t1,q1,m1,h0,hs1,e2,e3,ez,m2,m3,h9,hmt,hml];with_reducible rfl) ?_|refine wq (by simp [hc,t1,q1,m1,h0,hs1,e2,e3,ez,m2,m3,h9,hmt,hml];with_reducible rfl) ?_|refine wt (by simpa [hc,t1,q1,m1,h0,hs1,e2,e3,ez,m2,m3,h9,hmt,hml]) ?_|refine wf (by simpa [hc,t1,q1,m1,h0,hs1,e2,e3,ez,m2,m3,h9,hmt,hml]) ?_|refine xt (by simpa [hc,t1,q1,m1,h0,hs1,e2,e3,ez,m2,m3,h9,hmt,hml]) ?_|refine xf (by simpa [hc,t1,q1,m1,h0,hs1,e2,e3,ez,m2,m3,h9,hmt,hml]) ?_|apply wp_bs|apply wp_b|refine wp_sr ?_|refine wp_sx ?_|refine wp_ret' ?_|refine wp_skip' ?_|refine wp_exit' ?_)
    simp [zi528]
end Go.Idl
