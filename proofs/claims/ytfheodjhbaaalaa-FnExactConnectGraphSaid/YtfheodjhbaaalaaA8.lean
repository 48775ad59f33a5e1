/- Part 8 of a proof by an ideal interpreter of the code: its definitions and lemmas. Conditions: none. -/
import Derived.KernelRfl
import Derived.Test.YtfheodjhbaaalaaA7
set_option linter.all false
set_option linter.unusedVariables false
set_option linter.unusedSimpArgs false
namespace Go.Idl
open Go
set_option maxHeartbeats 8000000 in
theorem ev_FnExactConnectGraph (n:Int) (es:List (Int×Int)) (c:Bool) (hf:Fit es) (hb:es.length < 9223372036854775808) :
    Ev tb zl423 [] [Gr n es c] [] ⟨Bo true,[],[],[]⟩:=by
  by_cases hc:(1048576:Int) < es.length
  · have s1:=fun c=>ev_lim (ev_szGraph_no n es c 1048576 hc (by omega) hb)
    refine call_of_wp zt423 rfl ?_
    repeat (first|apply wp_as|apply wp_ss|refine wr (by simp [s1];with_reducible rfl) ?_|refine wq (by simp [s1];with_reducible rfl) ?_|refine wt (by simpa [s1]) ?_|refine wf (by simpa [s1]) ?_|refine xt (by simpa [s1]) ?_|refine xf (by simpa [s1]) ?_|apply wp_bs|apply wp_b|refine wp_sr ?_|refine wp_sx ?_|refine wp_ret' ?_|refine wp_skip' ?_|refine wp_exit' ?_)
    simp [zi423]
  have s1:=fun c=>ev_lim (ev_szGraph_ok n es c 1048576 (by omega) (by omega))
  have h8:¬ (1048576 - (es.length:Int) < 0):=by omega
  have t1:=fun c=>ev_lim (ev_toGraph n es c (by omega))
  have q1:=fun c d=>ev_lim (ev_eqGraph n es c d (by omega))
  have m1:=ev_lim (ev_markGraph n es 1 (by omega) (by omega))
  have h0:¬ (1+2 * (es.length:Int) < 0):=by omega
  have hs1:=mrk2_sc 1 es.length
  have no:∀ (y:IV) (r:IV),(r=Z∧y=Z ∨ r=O2 []∧y=L2 [])→(∀ c,limF tb zl153 [] [Gr n es c] []=some ⟨.tup [.agg [I 0,Z],Bo false],[],[],[]⟩)→(∀ c,limF tb zl293 [] [Gr n es c] []=some ⟨.tup [.agg [I 0,r],Bo false],[],[],[]⟩) →
      Ev tb zl423 [] [Gr n es c] [] ⟨Bo true,[],[],[]⟩:=by
    intro y r hr e2 e3
    have m2:=ev_lim (ev_markGraph_Z 0 1)
    have m3:=ev_lim (ev_heldGraph_Z 0 1 (by omega))
    rcases hr with ⟨rfl,rfl⟩ | ⟨rfl,rfl⟩
    · have ez:=ev_lim (ev_eqGraph_Z 0 Z Z (.inl rfl) (.inl rfl))
      refine call_of_wp zt423 rfl ?_
      repeat (first|apply wp_as|apply wp_ss|refine wr (by simp [s1,h8,t1,q1,m1,h0,hs1,e2,e3,ez,m2,m3];with_reducible rfl) ?_|refine wq (by simp [s1,h8,t1,q1,m1,h0,hs1,e2,e3,ez,m2,m3];with_reducible rfl) ?_|refine wt (by simpa [s1,h8,t1,q1,m1,h0,hs1,e2,e3,ez,m2,m3]) ?_|refine wf (by simpa [s1,h8,t1,q1,m1,h0,hs1,e2,e3,ez,m2,m3]) ?_|refine xt (by simpa [s1,h8,t1,q1,m1,h0,hs1,e2,e3,ez,m2,m3]) ?_|refine xf (by simpa [s1,h8,t1,q1,m1,h0,hs1,e2,e3,ez,m2,m3]) ?_|apply wp_bs|apply wp_b|refine wp_sr ?_|refine wp_sx ?_|refine wp_ret' ?_|refine wp_skip' ?_|refine wp_exit' ?_)
      refine wp_ra (by simp [t1,q1];with_reducible rfl) (by simp;with_reducible rfl) ?_ ?_
      · intro p hp
        simp only [List.mem_cons,List.not_mem_nil,or_false] at hp
        subst hp
        exact ⟨_,by simp [t1,q1];with_reducible rfl,by simp⟩
      repeat (first|apply wp_as|apply wp_ss|refine wr (by simp [s1,h8,t1,q1,m1,h0,hs1,e2,e3,ez,m2,m3];with_reducible rfl) ?_|refine wq (by simp [s1,h8,t1,q1,m1,h0,hs1,e2,e3,ez,m2,m3];with_reducible rfl) ?_|refine wt (by simpa [s1,h8,t1,q1,m1,h0,hs1,e2,e3,ez,m2,m3]) ?_|refine wf (by simpa [s1,h8,t1,q1,m1,h0,hs1,e2,e3,ez,m2,m3]) ?_|refine xt (by simpa [s1,h8,t1,q1,m1,h0,hs1,e2,e3,ez,m2,m3]) ?_|refine xf (by simpa [s1,h8,t1,q1,m1,h0,hs1,e2,e3,ez,m2,m3]) ?_|apply wp_bs|apply wp_b|refine wp_sr ?_|refine wp_sx ?_|refine wp_ret' ?_|refine wp_skip' ?_|refine wp_exit' ?_)
      simp [zi423]
    · have ez:=fun c=>ev_lim (ev_eqGraph_Z 0 Z (L2 [] c) (.inl rfl) (.inr ⟨c,rfl⟩))
      simp only [L2,O2,eds_nil] at ez e3
      refine call_of_wp zt423 rfl ?_
      repeat (first|apply wp_as|apply wp_ss|refine wr (by simp [s1,h8,t1,q1,m1,h0,hs1,e2,e3,ez,m2,m3];with_reducible rfl) ?_|refine wq (by simp [s1,h8,t1,q1,m1,h0,hs1,e2,e3,ez,m2,m3];with_reducible rfl) ?_|refine wt (by simpa [s1,h8,t1,q1,m1,h0,hs1,e2,e3,ez,m2,m3]) ?_|refine wf (by simpa [s1,h8,t1,q1,m1,h0,hs1,e2,e3,ez,m2,m3]) ?_|refine xt (by simpa [s1,h8,t1,q1,m1,h0,hs1,e2,e3,ez,m2,m3]) ?_|refine xf (by simpa [s1,h8,t1,q1,m1,h0,hs1,e2,e3,ez,m2,m3]) ?_|apply wp_bs|apply wp_b|refine wp_sr ?_|refine wp_sx ?_|refine wp_ret' ?_|refine wp_skip' ?_|refine wp_exit' ?_)
      refine wp_ra (by simp [t1,q1];with_reducible rfl) (by simp;with_reducible rfl) ?_ ?_
      · intro p hp
        simp only [List.mem_cons,List.not_mem_nil,or_false] at hp
        subst hp
        exact ⟨_,by simp [t1,q1];with_reducible rfl,by simp⟩
      repeat (first|apply wp_as|apply wp_ss|refine wr (by simp [s1,h8,t1,q1,m1,h0,hs1,e2,e3,ez,m2,m3];with_reducible rfl) ?_|refine wq (by simp [s1,h8,t1,q1,m1,h0,hs1,e2,e3,ez,m2,m3];with_reducible rfl) ?_|refine wt (by simpa [s1,h8,t1,q1,m1,h0,hs1,e2,e3,ez,m2,m3]) ?_|refine wf (by simpa [s1,h8,t1,q1,m1,h0,hs1,e2,e3,ez,m2,m3]) ?_|refine xt (by simpa [s1,h8,t1,q1,m1,h0,hs1,e2,e3,ez,m2,m3]) ?_|refine xf (by simpa [s1,h8,t1,q1,m1,h0,hs1,e2,e3,ez,m2,m3]) ?_|apply wp_bs|apply wp_b|refine wp_sr ?_|refine wp_sx ?_|refine wp_ret' ?_|refine wp_skip' ?_|refine wp_exit' ?_)
      simp [zi423]
  cases hv:vGraph n es with
  | false=>exact no Z Z (.inl ⟨rfl,rfl⟩) (fun c=>ev_lim (ev_ConnectGraph_no n es c hf (by omega) hv)) (fun c=>ev_lim (ev_spec_ConnectGraph_no n es c (by omega) hv))
  | true =>
  have hn:=vG_n hv
  obtain ⟨n,rfl⟩:=Int.eq_ofNat_of_zero_le hn.1
  have hn7:=(vG_iff.1 hv).2.2
  by_cases h0':n=0
  · have hes:es=[]:=by
      cases es with
      | nil=>rfl
      | cons e r=>have:=mem_prs.1 ((vG_iff.1 hv).2.1 e (by simp));omega
    subst h0' hes
    have v1:=fun c=>ev_lim (ev_ValidGraph 0 [] c (fun e he=>by simp at he) (by simp))
    rw [show vGraph 0 []=true from rfl] at v1
    refine no (L2 []) (O2 []) (.inr ⟨rfl,rfl⟩) (fun c=>?_) (fun c=>ev_lim (ev_spec_ConnectGraph_0 c))
    have v2:=v1 c
    simp only [Gr,L2,eds_nil] at v2
    exact ev_lim (ev_ConnectGraph_0 2 c v2)
  have hn1:1≤n:=by omega
  have e2:=fun c=>ev_lim (ev_ConnectGraphX n hn1 es c hv)
  have e3:=fun c=>ev_lim (ev_spec_ConnectGraph n hn1 es c hv)
  have hok:=jnF_ok hn1 (compI n es).length es (Nat.le_refl _) hv
  cases hF:jnF n (compI n es).length es with
  | none =>
    simp only [hF] at e2 e3
    exact no Z Z (.inl ⟨rfl,rfl⟩) e2 e3
  | some es' =>
    simp only [hF] at e2 e3
    obtain ⟨q1',q2,q3⟩:=hok.1 es' hF
    have h21':=vG21 hn7 q1'
    have ez:=fun c d=>ev_lim (ev_eqGraph n es' c d (by omega))
    have m2:=ev_lim (ev_markGraph n es' 1 (by omega) (by omega))
    have m3:=fun c=>ev_lim (ev_heldGraph n 1 es'.length c (by omega) (by omega))
    have h9:¬ (1+2 * (es'.length:Int) < 0):=by omega
    have hs2:=mrk2_sc 1 es'.length
    refine call_of_wp zt423 rfl ?_
    repeat (first|apply wp_as|apply wp_ss|refine wr (by simp [s1,h8,t1,q1,m1,h0,hs1,e2,e3,ez,m2,m3,h9,hs2];with_reducible rfl) ?_|refine wq (by simp [s1,h8,t1,q1,m1,h0,hs1,e2,e3,ez,m2,m3,h9,hs2];with_reducible rfl) ?_|refine wt (by simpa [s1,h8,t1,q1,m1,h0,hs1,e2,e3,ez,m2,m3,h9,hs2]) ?_|refine wf (by simpa [s1,h8,t1,q1,m1,h0,hs1,e2,e3,ez,m2,m3,h9,hs2]) ?_|refine xt (by simpa [s1,h8,t1,q1,m1,h0,hs1,e2,e3,ez,m2,m3,h9,hs2]) ?_|refine xf (by simpa [s1,h8,t1,q1,m1,h0,hs1,e2,e3,ez,m2,m3,h9,hs2]) ?_|apply wp_bs|apply wp_b|refine wp_sr ?_|refine wp_sx ?_|refine wp_ret' ?_|refine wp_skip' ?_|refine wp_exit' ?_)
    refine wp_ra (by simp [t1,q1];with_reducible rfl) (by simp;with_reducible rfl) ?_ ?_
    · intro p hp
      simp only [List.mem_cons,List.not_mem_nil,or_false] at hp
      subst hp
      exact ⟨_,by simp [t1,q1];with_reducible rfl,by simp⟩
    repeat (first|apply wp_as|apply wp_ss|refine wr (by simp [s1,h8,t1,q1,m1,h0,hs1,e2,e3,ez,m2,m3,h9,hs2,mrk2_len,mrk2_take];with_reducible rfl) ?_|refine wq (by simp [s1,h8,t1,q1,m1,h0,hs1,e2,e3,ez,m2,m3,h9,hs2,mrk2_len,mrk2_take];with_reducible rfl) ?_|refine wt (by simpa [s1,h8,t1,q1,m1,h0,hs1,e2,e3,ez,m2,m3,h9,hs2,mrk2_len,mrk2_take]) ?_|refine wf (by simpa [s1,h8,t1,q1,m1,h0,hs1,e2,e3,ez,m2,m3,h9,hs2,mrk2_len,mrk2_take]) ?_|refine xt (by simpa [s1,h8,t1,q1,m1,h0,hs1,e2,e3,ez,m2,m3,h9,hs2,mrk2_len,mrk2_take]) ?_|refine xf (by simpa [s1,h8,t1,q1,m1,h0,hs1,e2,e3,ez,m2,m3,h9,hs2,mrk2_len,mrk2_take]) ?_|apply wp_bs|apply wp_b|refine wp_sr ?_|refine wp_sx ?_|refine wp_ret' ?_|refine wp_skip' ?_|refine wp_exit' ?_)
    simp [zi423]
end Go.Idl
