/- Part 7 of a proof by an ideal interpreter of the code: its definitions and lemmas. Conditions: none. -/
import Derived.KernelRfl
import Derived.Test.YtpbpoajmibfliaaA6
set_option linter.all false
set_option linter.unusedVariables false
set_option linter.unusedSimpArgs false
namespace Go.Idl
open Go
theorem ev_impl_JointDegrees_no (n:Int) (es:List (Int×Int)) (c:Bool) (hf:Fit es) (hl:es.length≤100000000) (h:vGraph n es=false):Ev tb zl189 [] [Gr n es c] [] ⟨O [],[],[],[]⟩ :=
  ev_impl_JointDegrees_of n es c [] (ev_impl_JointOf_no n es c hf hl h) (by simp) (by simp) (fun _=>by simp [endsR])
theorem ev_eqIntS_LZ (c:Bool):Ev tb zl233 [] [.lst 1 [] c,Z] [] ⟨Bo true,[],[],[]⟩:=by
  refine call_of_wp zt233 rfl ?_
  repeat (first|apply wp_as|apply wp_ss|refine wr (by simp;with_reducible rfl) ?_|refine wq (by simp;with_reducible rfl) ?_|refine wt (by simpa) ?_|refine wf (by simpa) ?_|refine xt (by simpa) ?_|refine xf (by simpa) ?_|apply wp_bs|apply wp_b|refine wp_sr ?_|refine wp_sx ?_|refine wp_ret' ?_|refine wp_skip' ?_|refine wp_exit' ?_)
  refine wp_loop ?_
  repeat (first|apply wp_as|apply wp_ss|refine wr (by simp;with_reducible rfl) ?_|refine wq (by simp;with_reducible rfl) ?_|refine wt (by simpa) ?_|refine wf (by simpa) ?_|refine xt (by simpa) ?_|refine xf (by simpa) ?_|apply wp_bs|apply wp_b|refine wp_sr ?_|refine wp_sx ?_|refine wp_ret' ?_|refine wp_skip' ?_|refine wp_exit' ?_)
  simp [zi233]
theorem jdL_len {n:Nat} {es:List (Int×Int)} (h:vGraph n es=true):∀ m:Nat,(jdL (jS n es) m).length≤n * m
  | 0=>by simp [jdL]
  | m+1=>by
    rw [jdL_count h,List.length_append,List.length_replicate,Nat.mul_succ]
    have h1:=(ends_q h m).2
    have h2:=jdL_len h m
    omega
set_option maxHeartbeats 8000000 in
theorem ev_FnExactJointDegrees (n:Int) (es:List (Int×Int)) (c:Bool) (hf:Fit es) (hb:es.length < 9223372036854775808) :
    Ev tb zl424 [] [Gr n es c] [] ⟨Bo true,[],[],[]⟩:=by
  by_cases hc:(1048576:Int) < es.length
  · have s1:=fun c=>ev_lim (ev_szGraph_no n es c 1048576 hc (by omega) hb)
    refine call_of_wp zt424 rfl ?_
    repeat (first|apply wp_as|apply wp_ss|refine wr (by simp [s1];with_reducible rfl) ?_|refine wq (by simp [s1];with_reducible rfl) ?_|refine wt (by simpa [s1]) ?_|refine wf (by simpa [s1]) ?_|refine xt (by simpa [s1]) ?_|refine xf (by simpa [s1]) ?_|apply wp_bs|apply wp_b|refine wp_sr ?_|refine wp_sx ?_|refine wp_ret' ?_|refine wp_skip' ?_|refine wp_exit' ?_)
    simp [zi424]
  have s1:=fun c=>ev_lim (ev_szGraph_ok n es c 1048576 (by omega) (by omega))
  have h8:¬ (1048576 - (es.length:Int) < 0):=by omega
  have t1:=fun c=>ev_lim (ev_toGraph n es c (by omega))
  have q1:=fun c d=>ev_lim (ev_eqGraph n es c d (by omega))
  have m1:=ev_lim (ev_markGraph n es 1 (by omega) (by omega))
  have h0:¬ (1+2 * (es.length:Int) < 0):=by omega
  have hs1:=mrk2_sc 1 es.length
  cases hv:vGraph n es with
  | false =>
    have e2:∀ c,limF tb zl189 [] [Gr n es c] []=some ⟨.own 1 [],[],[],[]⟩:=fun c=>ev_lim (ev_impl_JointDegrees_no n es c hf (by omega) hv)
    have e3:=fun c=>ev_lim (ev_spec_JointDegrees_no n es c (by omega) hv)
    have ez:=fun c=>ev_lim (ev_eqIntS_LZ c)
    have m2:limF tb zl243 [0] [.own 1 [],I 1] []=some ⟨I 1,[.own 1 []],[],[]⟩:=ev_lim (ev_markIntS [] 1 (by simp) (by omega))
    have m3:∀ c,limF tb zl241 [] [.lst 1 [] c,I 1] []=some ⟨I 1,[],[],[]⟩:=fun c=>ev_lim (ev_heldIntS 1 0 c (by omega) (by omega))
    refine call_of_wp zt424 rfl ?_
    repeat (first|apply wp_as|apply wp_ss|refine wr (by simp [s1,h8,t1,q1,m1,h0,hs1,e2,e3,ez,m2,m3];with_reducible rfl) ?_|refine wq (by simp [s1,h8,t1,q1,m1,h0,hs1,e2,e3,ez,m2,m3];with_reducible rfl) ?_|refine wt (by simpa [s1,h8,t1,q1,m1,h0,hs1,e2,e3,ez,m2,m3]) ?_|refine wf (by simpa [s1,h8,t1,q1,m1,h0,hs1,e2,e3,ez,m2,m3]) ?_|refine xt (by simpa [s1,h8,t1,q1,m1,h0,hs1,e2,e3,ez,m2,m3]) ?_|refine xf (by simpa [s1,h8,t1,q1,m1,h0,hs1,e2,e3,ez,m2,m3]) ?_|apply wp_bs|apply wp_b|refine wp_sr ?_|refine wp_sx ?_|refine wp_ret' ?_|refine wp_skip' ?_|refine wp_exit' ?_)
    refine wp_ra (by simp [t1,q1];with_reducible rfl) (by simp;with_reducible rfl) ?_ ?_
    · intro p hp
      simp only [List.mem_cons,List.not_mem_nil,or_false] at hp
      subst hp
      exact ⟨_,by simp [t1,q1];with_reducible rfl,by simp⟩
    repeat (first|apply wp_as|apply wp_ss|refine wr (by simp [s1,h8,t1,q1,m1,h0,hs1,e2,e3,ez,m2,m3];with_reducible rfl) ?_|refine wq (by simp [s1,h8,t1,q1,m1,h0,hs1,e2,e3,ez,m2,m3];with_reducible rfl) ?_|refine wt (by simpa [s1,h8,t1,q1,m1,h0,hs1,e2,e3,ez,m2,m3]) ?_|refine wf (by simpa [s1,h8,t1,q1,m1,h0,hs1,e2,e3,ez,m2,m3]) ?_|refine xt (by simpa [s1,h8,t1,q1,m1,h0,hs1,e2,e3,ez,m2,m3]) ?_|refine xf (by simpa [s1,h8,t1,q1,m1,h0,hs1,e2,e3,ez,m2,m3]) ?_|apply wp_bs|apply wp_b|refine wp_sr ?_|refine wp_sx ?_|refine wp_ret' ?_|refine wp_skip' ?_|refine wp_exit' ?_)
    simp [zi424]
  | true =>
  have hn:=vG_n hv
  obtain ⟨n,rfl⟩:=Int.eq_ofNat_of_zero_le hn.1
  have hn7:=(vG_iff.1 hv).2.2
  have h21:=vJ_len hv
  have e2:=fun c=>ev_lim (ev_impl_JointDegrees n es c hv)
  have e3:=fun c=>ev_lim (ev_spec_JointDegrees n es c hv)
  have hGl:=jdL_len hv (n - 1)
  have hGm:n * (n - 1)≤7 * 7:=Nat.mul_le_mul hn7 (by omega)
  generalize jdL (jS n es) (n - 1)=G at *
  have ez:=fun c d=>ev_lim (ev_eqIntS G c d (by omega))
  have m4:=ev_lim (ev_markIntS G 1 (by omega) (by omega))
  have m5:=fun c=>ev_lim (ev_heldIntS 1 G.length c (by omega) (by omega))
  have h9:¬ (1+(G.length:Int) < 0):=by omega
  have hs4:=mrk_sc 1 G.length
  have hml:(mrk 1 G.length).length=G.length:=by simp [mrk]
  have hmt:(mrk 1 G.length).take G.length=mrk 1 G.length:=List.take_of_length_le (by omega)
  refine call_of_wp zt424 rfl ?_
  repeat (first|apply wp_as|apply wp_ss|refine wr (by simp [s1,h8,t1,q1,m1,h0,hs1,e2,e3,ez,m4,m5,h9,hs4];with_reducible rfl) ?_|refine wq (by simp [s1,h8,t1,q1,m1,h0,hs1,e2,e3,ez,m4,m5,h9,hs4];with_reducible rfl) ?_|refine wt (by simpa [s1,h8,t1,q1,m1,h0,hs1,e2,e3,ez,m4,m5,h9,hs4]) ?_|refine wf (by simpa [s1,h8,t1,q1,m1,h0,hs1,e2,e3,ez,m4,m5,h9,hs4]) ?_|refine xt (by simpa [s1,h8,t1,q1,m1,h0,hs1,e2,e3,ez,m4,m5,h9,hs4]) ?_|refine xf (by simpa [s1,h8,t1,q1,m1,h0,hs1,e2,e3,ez,m4,m5,h9,hs4]) ?_|apply wp_bs|apply wp_b|refine wp_sr ?_|refine wp_sx ?_|refine wp_ret' ?_|refine wp_skip' ?_|refine wp_exit' ?_)
  refine wp_ra (by simp [t1,q1];with_reducible rfl) (by simp;with_reducible rfl) ?_ ?_
  · intro p hp
    simp only [List.mem_cons,List.not_mem_nil,or_false] at hp
    subst hp
    exact ⟨_,by simp [t1,q1];with_reducible rfl,by simp⟩
  repeat (first|apply wp_as|apply wp_ss|refine wr (by simp [s1,h8,t1,q1,m1,h0,hs1,e2,e3,ez,m4,m5,h9,hs4,hml,hmt];with_reducible rfl) ?_|refine wq (by simp [s1,h8,t1,q1,m1,h0,hs1,e2,e3,ez,m4,m5,h9,hs4,hml,hmt];with_reducible rfl) ?_|refine wt (by simpa [s1,h8,t1,q1,m1,h0,hs1,e2,e3,ez,m4,m5,h9,hs4,hml,hmt]) ?_|refine wf (by simpa [s1,h8,t1,q1,m1,h0,hs1,e2,e3,ez,m4,m5,h9,hs4,hml,hmt]) ?_|refine xt (by simpa [s1,h8,t1,q1,m1,h0,hs1,e2,e3,ez,m4,m5,h9,hs4,hml,hmt]) ?_|refine xf (by simpa [s1,h8,t1,q1,m1,h0,hs1,e2,e3,ez,m4,m5,h9,hs4,hml,hmt]) ?_|apply wp_bs|apply wp_b|refine wp_sr ?_|refine wp_sx ?_|refine wp_ret' ?_|refine wp_skip' ?_|refine wp_exit' ?_)
  simp [zi424]
end Go.Idl
namespace Go.Idl
open Go Go.ChangeShapes Go.WideShapes Go.Deep
theorem tabS_eds (len:Nat) (f:Nat→Int):tabS 2 len f=eds ((List.range len).map fun i=>(f (i * 2),f (i * 2+1))):=by
  rw [tabS,eds,List.map_map]
  exact List.map_congr_left fun i _=>by simp [List.range_succ]
section
variable {H:Type} {enc:TypeId×Value→H} {P:Program} {w:World} {base:Nat} {spare:Nat→Bool} {held:Bool}
theorem graph_in {t0 t e:TypeId} {fs:Array Field} {n1 n2:Nat} {u0 u1:Value} {y0 y1:DataW H×List MemPlace} (hi:P.underlying t0=some (.int .i64)) (g0:DataW.trod enc P w base spare held n1 t0 [u0]=some y0)
    (ht:P.underlying t=some (.slice e)) (he:P.underlying e=some (.struct fs)) (hone:(oneCellFields P fs && (P.cellsOf e == 2))=true) (hsz:fs.size=2) (hk:intF P fs=true)
    (g1:DataW.trod enc P w base spare held n2 t [u1]=some y1):∃ (n:Int) (es:List (Int×Int)),Fit es∧es.length < 9223372036854775808∧ArgR w (Gr n es false) (.agg #[u0,u1]):=by
  simp only [Bool.and_eq_true,beq_iff_eq] at hone
  obtain ⟨z,hz,-,-⟩:=DataW.trod_int hi g0
  obtain ⟨a,len,cap,f,hcs,hl,hr,hd⟩:=open_rows ht he hone.1 (by rw [hone.2,hsz]) (by omega) hk g1
  simp only [List.cons.injEq,and_true] at hz hcs
  subst hz hcs
  rw [hsz,tabS_eds] at hd
  refine ⟨z,_,fun x hx=>?_,by simpa using hl,arg_pair rfl hd⟩
  obtain ⟨i,-,rfl⟩:=List.mem_map.1 hx
  exact ⟨(hr _).1,(hr _).2,(hr _).1,(hr _).2⟩
end
end Go.Idl
