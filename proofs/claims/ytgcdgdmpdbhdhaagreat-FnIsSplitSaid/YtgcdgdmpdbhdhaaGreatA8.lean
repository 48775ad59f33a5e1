/- Part 8 of a proof by an ideal interpreter of the code: its definitions and lemmas. Conditions: none. -/
import Derived.KernelRfl
import Derived.Test.YtgcdgdmpdbhdhaaGreatA7
set_option linter.all false
set_option linter.unusedVariables false
set_option linter.unusedSimpArgs false
namespace Go.Idl
open Go
theorem ev_spec_IsSplit (d:List Int) (c:Bool) (hl:d.length≤1000000):Ev tb zl604 [] [L d c] [] ⟨Bo (graphic d && decide ((if d.length=0 then 0 else (slacks d).getD (durf (fall d) - 1) 0)=0)),[],[],[]⟩:=by
  have e1:=fun c=>ev_lim (ev_validDegrees d c hl)
  cases hv:valid d with
  | false =>
    rw [hv] at e1
    have hg:graphic d=false:=by simp [graphic,hv]
    rw [hg,Bool.false_and]
    refine call_of_wp zt604 rfl ?_
    repeat (first|apply wp_as|apply wp_ss|refine wr (by simp [e1];with_reducible rfl) ?_|refine wq (by simp [e1];with_reducible rfl) ?_|refine wt (by simpa [e1]) ?_|refine wf (by simpa [e1]) ?_|refine xt (by simpa [e1]) ?_|refine xf (by simpa [e1]) ?_|apply wp_bs|apply wp_b|refine wp_sr ?_|refine wp_sx ?_|refine wp_ret' ?_|refine wp_skip' ?_|refine wp_exit' ?_)
    simp [zi604]
  | true =>
    rw [hv] at e1
    have e2:=fun c=>ev_lim (ev_isGraphic d c hv)
    have e3:=fun c=>ev_lim (ev_splittance d c hv)
    generalize (if d.length=0 then 0 else (slacks d).getD (durf (fall d) - 1) 0)=q at *
    cases hg:graphic d with
    | false =>
      rw [hg] at e2
      refine call_of_wp zt604 rfl ?_
      repeat (first|apply wp_as|apply wp_ss|refine wr (by simp [e1,e2];with_reducible rfl) ?_|refine wq (by simp [e1,e2];with_reducible rfl) ?_|refine wt (by simpa [e1,e2]) ?_|refine wf (by simpa [e1,e2]) ?_|refine xt (by simpa [e1,e2]) ?_|refine xf (by simpa [e1,e2]) ?_|apply wp_bs|apply wp_b|refine wp_sr ?_|refine wp_sx ?_|refine wp_ret' ?_|refine wp_skip' ?_|refine wp_exit' ?_)
      simp [zi604]
    | true =>
      rw [hg] at e2
      refine call_of_wp zt604 rfl ?_
      repeat (first|apply wp_as|apply wp_ss|refine wr (by simp [e1,e2,e3];with_reducible rfl) ?_|refine wq (by simp [e1,e2,e3];with_reducible rfl) ?_|refine wt (by simpa [e1,e2,e3]) ?_|refine wf (by simpa [e1,e2,e3]) ?_|refine xt (by simpa [e1,e2,e3]) ?_|refine xf (by simpa [e1,e2,e3]) ?_|apply wp_bs|apply wp_b|refine wp_sr ?_|refine wp_sx ?_|refine wp_ret' ?_|refine wp_skip' ?_|refine wp_exit' ?_)
      simp [zi604]
      rfl
theorem ev_DrawIsSplit (code:List Int) (c:Bool) (h:∀ x ∈ code,0≤x∧x≤255) (hl:code.length≤10000000) :
    ∃ d:List Int,d.length≤8∧Low 1000 d∧limF tb zl603 [] [.lst 1 (bytes code) c] []=some ⟨O d,[],[],[]⟩:=by
  obtain ⟨c',e⟩:=ev_newReader code c [[]] (by omega)
  have e1:=ev_lim e
  obtain ⟨v,k1,hv,hk1,e2⟩:=pick' (code.take 2000) c' (code_ok h) 0 (by omega) 2 (by omega) [] []
  rw [show ((0:Nat):Int)=0 from rfl] at e2
  by_cases hv0:v=0
  · subst hv0
    obtain ⟨n,es,k2,hn7,hel,hes,hk2,e3⟩:=ev_aSplit (code.take 2000) c' (code_ok h) k1 (by omega) [] []
    have e4:=fun cc=>ev_lim (ev_degrees n es cc (by omega) (by omega) hes)
    have hdl:(degs n es).length=n:=by rw [degs,dfold_len];simp
    have hlo:Low 1000 (degs n es):=by
      intro x hx
      have:=dfold_bound es (List.replicate n 0) 0 (by intro x hx;have:=List.eq_of_mem_replicate hx;omega) (by omega) x hx
      omega
    refine ⟨degs n es,by omega,hlo,ev_lim ?_⟩
    generalize degs n es=d at *
    refine call_of_wp zt603 rfl ?_
    repeat (first|apply wp_as|apply wp_ss|refine wr (by simp [e1,e2,e3,e4];with_reducible rfl) ?_|refine wq (by simp [e1,e2,e3,e4];with_reducible rfl) ?_|refine wt (by simpa [e1,e2,e3,e4]) ?_|refine wf (by simpa [e1,e2,e3,e4]) ?_|refine xt (by simpa [e1,e2,e3,e4]) ?_|refine xf (by simpa [e1,e2,e3,e4]) ?_|apply wp_bs|apply wp_b|refine wp_sr ?_|refine wp_sx ?_|refine wp_ret' ?_|refine wp_skip' ?_|refine wp_exit' ?_)
    simp [zi603]
  · have hv1:¬ (v:Int)=0:=by omega
    obtain ⟨d,k2,hd,hlo,hk2,e3⟩:=ev_someDegrees (code.take 2000) c' (code_ok h) k1 (by omega) [] []
    refine ⟨d,by omega,hlo,ev_lim ?_⟩
    refine call_of_wp zt603 rfl ?_
    repeat (first|apply wp_as|apply wp_ss|refine wr (by simp [e1,e2,e3,hv0,hv1];with_reducible rfl) ?_|refine wq (by simp [e1,e2,e3,hv0,hv1];with_reducible rfl) ?_|refine wt (by simpa [e1,e2,e3,hv0,hv1]) ?_|refine wf (by simpa [e1,e2,e3,hv0,hv1]) ?_|refine xt (by simpa [e1,e2,e3,hv0,hv1]) ?_|refine xf (by simpa [e1,e2,e3,hv0,hv1]) ?_|apply wp_bs|apply wp_b|refine wp_sr ?_|refine wp_sx ?_|refine wp_ret' ?_|refine wp_skip' ?_|refine wp_exit' ?_)
    simp [zi603]
set_option maxHeartbeats 4000000 in
theorem ev_FnIsSplit (code:List Int) (c:Bool) (h:∀ x ∈ code,0≤x∧x≤255) :
    Ev tb zl601 [] [.lst 1 (bytes code) c] [] ⟨Bo true,[],[],[]⟩:=by
  by_cases hc:(1048576:Int) < code.length
  · refine call_of_wp zt601 rfl ?_
    repeat (first|apply wp_as|apply wp_ss|refine wr (by simp [hc];with_reducible rfl) ?_|refine wq (by simp [hc];with_reducible rfl) ?_|refine wt (by simpa [hc]) ?_|refine wf (by simpa [hc]) ?_|refine xt (by simpa [hc]) ?_|refine xf (by simpa [hc]) ?_|apply wp_bs|apply wp_b|refine wp_sr ?_|refine wp_sx ?_|refine wp_ret' ?_|refine wp_skip' ?_|refine wp_exit' ?_)
    simp [zi601]
  obtain ⟨d,hd,hlo,e1⟩:=ev_DrawIsSplit code c h (by omega)
  have v1:=ev_lim (ev_ValidDegrees d false (by omega))
  have e2:=ev_lim (ev_IsSplit d false (by omega))
  have e3:=ev_lim (ev_spec_IsSplit d false (by omega))
  cases hv:valid d with
  | false =>
    rw [hv] at v1
    have hg:graphic d=false:=by simp [graphic,hv]
    have hs:splitt d=-1:=by rw [splitt,hg];rfl
    rw [hg,Bool.false_and] at e3
    rw [hs,decide_eq_false (by omega)] at e2
    refine call_of_wp zt601 rfl ?_
    repeat (first|apply wp_as|apply wp_ss|refine wr (by simp [hc,e1,e2,e3,v1];with_reducible rfl) ?_|refine wq (by simp [hc,e1,e2,e3,v1];with_reducible rfl) ?_|refine wt (by simpa [hc,e1,e2,e3,v1]) ?_|refine wf (by simpa [hc,e1,e2,e3,v1]) ?_|refine xt (by simpa [hc,e1,e2,e3,v1]) ?_|refine xf (by simpa [hc,e1,e2,e3,v1]) ?_|apply wp_bs|apply wp_b|refine wp_sr ?_|refine wp_sx ?_|refine wp_ret' ?_|refine wp_skip' ?_|refine wp_exit' ?_)
    simp [zi601]
  | true =>
  rw [hv] at v1
  have hl:=(valid_few hv).1
  obtain ⟨g1,-,g3⟩:=graphicLaw d hv
  have e4:=ev_lim (ev_RealizeDegrees d false hv)
  have e5:=ev_lim (ev_SortDegrees d false hv)
  have e6:=ev_lim (ev_IsSplit (fall d) false (by rw [fall_len];omega))
  rw [splitt_fall d hv] at e6
  cases hr:realD d with
  | none =>
    rw [hr] at g1
    have hg:graphic d=false:=by rw [← g1];rfl
    have hs:splitt d=-1:=by rw [splitt,hg];rfl
    rw [hg,Bool.false_and] at e3
    rw [hs,decide_eq_false (by omega)] at e2 e6
    simp only [hr,RR] at e4
    have z1:=ev_lim (ev_ValidGraph_Z 0)
    rw [show vGraph 0 []=true from rfl] at z1
    have z2:=ev_lim (ev_Graph_degrees_Z 0 (by omega))
    rw [show ((0:Nat):Int)=0 from rfl] at z2
    have e7:=ev_lim (ev_SplitParts_0 0 true z1 z2)
    generalize fall d=fd at *
    refine call_of_wp zt601 rfl ?_
    repeat (first|apply wp_as|apply wp_ss|refine wr (by simp [hc,e1,e2,e3,v1,e4,e5,e6,e7];with_reducible rfl) ?_|refine wq (by simp [hc,e1,e2,e3,v1,e4,e5,e6,e7];with_reducible rfl) ?_|refine wt (by simpa [hc,e1,e2,e3,v1,e4,e5,e6,e7]) ?_|refine wf (by simpa [hc,e1,e2,e3,v1,e4,e5,e6,e7]) ?_|refine xt (by simpa [hc,e1,e2,e3,v1,e4,e5,e6,e7]) ?_|refine xf (by simpa [hc,e1,e2,e3,v1,e4,e5,e6,e7]) ?_|apply wp_bs|apply wp_b|refine wp_sr ?_|refine wp_sx ?_|refine wp_ret' ?_|refine wp_skip' ?_|refine wp_exit' ?_)
    simp [zi601]
  | some es =>
    rw [hr] at g1
    have hg:graphic d=true:=by rw [← g1];rfl
    obtain ⟨q1,q2⟩:=g3 es hr
    simp only [hr,RR] at e4
    generalize srtE es=xs at *
    obtain ⟨V,s1,s2,s3⟩:=sp_two d.length xs q1
    have s4:=sp_split d.length xs q1
    rw [q2] at s2 s4
    rw [s2,hg,Bool.true_and] at e3
    rw [s4] at e2 e6
    have hdv:decide (2 * V=0)=spOK d.length xs:=by
      rw [Bool.eq_iff_iff,decide_eq_true_eq,← s3];omega
    rw [hdv] at e3
    have e7:=ev_lim (ev_SplitParts d.length xs false q1)
    simp only [SPR] at e7
    generalize fall d=fd at *
    generalize spA (spK (degs d.length xs))=K at *
    cases hok:spOK d.length xs with
    | true =>
      rw [hok] at e2 e3 e6
      simp only [hok,if_true] at e7
      refine call_of_wp zt601 rfl ?_
      repeat (first|apply wp_as|apply wp_ss|refine wr (by simp [hc,e1,e2,e3,v1,e4,e5,e6,e7];with_reducible rfl) ?_|refine wq (by simp [hc,e1,e2,e3,v1,e4,e5,e6,e7];with_reducible rfl) ?_|refine wt (by simpa [hc,e1,e2,e3,v1,e4,e5,e6,e7]) ?_|refine wf (by simpa [hc,e1,e2,e3,v1,e4,e5,e6,e7]) ?_|refine xt (by simpa [hc,e1,e2,e3,v1,e4,e5,e6,e7]) ?_|refine xf (by simpa [hc,e1,e2,e3,v1,e4,e5,e6,e7]) ?_|apply wp_bs|apply wp_b|refine wp_sr ?_|refine wp_sx ?_|refine wp_ret' ?_|refine wp_skip' ?_|refine wp_exit' ?_)
      simp [zi601]
    | false =>
      rw [hok] at e2 e3 e6
      simp only [hok,Bool.false_eq_true,if_false] at e7
      refine call_of_wp zt601 rfl ?_
      repeat (first|apply wp_as|apply wp_ss|refine wr (by simp [hc,e1,e2,e3,v1,e4,e5,e6,e7];with_reducible rfl) ?_|refine wq (by simp [hc,e1,e2,e3,v1,e4,e5,e6,e7];with_reducible rfl) ?_|refine wt (by simpa [hc,e1,e2,e3,v1,e4,e5,e6,e7]) ?_|refine wf (by simpa [hc,e1,e2,e3,v1,e4,e5,e6,e7]) ?_|refine xt (by simpa [hc,e1,e2,e3,v1,e4,e5,e6,e7]) ?_|refine xf (by simpa [hc,e1,e2,e3,v1,e4,e5,e6,e7]) ?_|apply wp_bs|apply wp_b|refine wp_sr ?_|refine wp_sx ?_|refine wp_ret' ?_|refine wp_skip' ?_|refine wp_exit' ?_)
      simp [zi601]
end Go.Idl
