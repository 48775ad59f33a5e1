/- Part 2 of a proof by an ideal interpreter of the code: its definitions and lemmas. Conditions: none. -/
import Derived.Orders
import Derived.Test.YtpbpoajmibfliaaA1
set_option linter.all false
set_option linter.unusedVariables false
set_option linter.unusedSimpArgs false
namespace Go.Idl
open Go
section
variable {cx:Cx} {w w':World} {F F' F0 F1:Nat→Prop} {ρ ρ':Rho} {fp fp' fp1:Fp} {X X' f f' f1 f2 fa:List Nat} {st st' st1:St} {a:Act} {o:Oper} {tm:Nat→Value} {v:IV}
theorem out_call_box {cf:CF} (hcf:CallOK cx cf) (h:Rel cx w F ρ fp X st (regs a)) {c:Call} {y:Operand} {g:Lab} {args:List (Mode×Opd)} {os:List Operand} {caps:List IV} {cvs:List Value} (hk:okArgs cx args os) (ho:o.op=.call c)
    (hc:c.callee=.value y) (hargs:c.args.toList=os) (hy:a.eval y=.func (.func (cx.fid g)) #[] cvs.toArray) (hcaps:Cat (fun x v f=>capOK ρ st x v∧f=[]) caps cvs [])
    (hev:st.callWith cf g caps args false=some (v,st')):CallOut cx w F ρ fp X st a o v st':=by
  unfold St.callWith at hev
  cases hA:st.args args with
  | none=>simp [hA] at hev
  | some p =>
  obtain ⟨vs,st1,fz,ss⟩:=p
  simp only [hA,Bool.false_eq_true,if_false] at hev
  cases fz with
  | true=>simp at hev
  | false =>
  simp only [Bool.false_eq_true,if_false] at hev
  unfold St.args at hA
  cases hA1:st.args1 args with
  | none=>simp [hA1] at hA
  | some p1 =>
  obtain ⟨mv,st2,ss2⟩:=p1
  simp only [hA1] at hA
  cases hA2:st2.args2 args mv with
  | none=>simp [hA2] at hA
  | some p2 =>
  obtain ⟨ys,b⟩:=p2
  simp only [hA2,Option.some.injEq,Prod.mk.injEq] at hA
  obtain ⟨rfl,rfl,rfl,rfl⟩:=hA
  obtain ⟨F1,fp1,fa,k1,k2,k3,k4,k5,k6,k7,k8⟩:=args1_rel h hk hA1
  have hcat0:=args2_rel k1 hk k2 hA2
  have hst:∀ k,Still F1 fp1 false k→F1 k:=fun k hk=>hk.elim id (fun h=>by cases h.1)
  have hcat1:Cat (RA cx w F1 ρ st2) ys (os.map a.eval) fa:=hcat0.mono fun z v f _ hz _=>hz.more hst
  have hcapR:Cat (RA cx w F1 ρ st2) caps cvs []:=hcaps.mono fun x u q _ hx _=>by
    obtain ⟨hx,rfl⟩:=hx
    cases x with
    | bptr l k c=>exact ⟨.inl ⟨⟨hx.1,k7.box hx.2⟩,rfl⟩,rfl⟩
    | _=>exact hx.elim
  have hcat:=hcat1.app hcapR
  rw [List.append_nil] at hcat
  cases hcall:cf g (lents args 0) (ys++caps) (st2.M++[st2.loc]) with
  | none=>simp [hcall] at hev
  | some r =>
  obtain ⟨rv,rb,rM,re⟩:=r
  simp only [hcall] at hev
  cases hgl:rM.getLast? with
  | none=>simp [hgl] at hev
  | some loc =>
  simp only [hgl] at hev
  split at hev
  rotate_left
  · cases hev
  rename_i hlen
  split at hev
  rotate_left
  · cases hev
  rename_i st3 hlb
  have hv:renV st2.M.length loc.length re rv=some v∧st'=st3:=by
    cases re with
    | nil =>
      simp only [Option.some.injEq,Prod.mk.injEq] at hev
      exact ⟨by simp [renV,hev.1],hev.2.symm⟩
    | cons c0 re =>
      cases re with
      | cons _ _=>simp at hev
      | nil =>
        cases rv with
        | bptr l k c =>
          cases k with
          | succ k=>simp at hev
          | zero =>
            simp only at hev
            split at hev
            · rename_i hl
              simp only [Option.some.injEq,Prod.mk.injEq] at hev
              exact ⟨by simp [renV,hl,hev.1],hev.2.symm⟩
            · cases hev
        | _=>simp at hev
  obtain ⟨hv,rfl⟩:=hv
  have hent:=(hcf g _ (ys++caps) _ _ hcall).1
  refine ⟨cx.fid g,_,run_call hent ho hc hy w,?_⟩
  rw [hargs]
  refine (call_box hcf k1 hcat hcall hgl hlen hv).mono ?_
  rintro e w' ⟨v',F',ρ2,fp2,Xb,fv,rfl,q1,q2,q3,q4,q5,q6,q7⟩
  have hos:∀ i o2,os[i]? = some o2→(os.map a.eval++cvs).getD (0+i) undef=a.eval o2:=fun i o2 hi=>by
    have hlt:i < os.length:=(List.getElem?_eq_some_iff.1 hi).1
    rw [Nat.zero_add,List.getD_eq_getElem?_getD,List.getElem?_append_left (by simpa using hlt)]
    simp [hi]
  have q1':Rel cx w' F' ρ2 fp2 (Xb++(fv++X)) (callSt st2 ⟨rv,rb,rM,re⟩ loc) (regs a):=q1.perm (by
    rw [← List.append_assoc,← List.append_assoc]
    exact List.Perm.append_right X List.perm_append_comm)
  obtain ⟨fp3,p1,p2,p3,p4⟩:=lent_back hos hk k8 q5 q1' hlb
  have hbx:∀ l k,st'.box l k=(callSt st2 ⟨rv,rb,rM,re⟩ loc).box l k:=fun l k=>by unfold St.box;rw [p3,p4]
  refine ⟨v',F',ρ2,fp3,fv,rfl,p1,q3.ret q4 (fun l k hb=>⟨rfl,by rw [hbx];exact hb⟩),?_,?_⟩
  · refine ⟨q6.size,fun k hk hr hx=>q6.keep k hk (fun r h1=>hr r (k6 r k h1)) (fun h1=>?_),fun r k h1=>?_,fun k h1=>?_,fun k hk=>q6.Fm k (k3 k hk),fun k hk=>?_,fun l k hb=>q6.rho l k (k7.box hb),q6.env⟩
    · rcases List.mem_append.1 h1 with h1 | h1
      · obtain ⟨r,h2⟩:=k5 k h1;exact hr r h2
      · exact hx h1
    · have conv:((∃ r',k ∈ fp1 r') ∨ k ∈ fa++X ∨ w.heap.size≤k)→(∃ r',k ∈ fp r') ∨ k ∈ X ∨ w.heap.size≤k:=fun hh=>by
        rcases hh with ⟨r,h2⟩ | h2 | h2
        · exact .inl ⟨r,k6 r k h2⟩
        · rcases List.mem_append.1 h2 with h2 | h2
          · exact .inl (k5 k h2)
          · exact .inr (.inl h2)
        · exact .inr (.inr h2)
      rcases p2 r k h1 with h2 | h2
      · exact conv (q6.fpn r k h2)
      · exact conv (q6.xn k (by simp [h2]))
    · have conv:((∃ r',k ∈ fp1 r') ∨ k ∈ fa++X ∨ w.heap.size≤k)→(∃ r',k ∈ fp r') ∨ k ∈ X ∨ w.heap.size≤k:=fun hh=>by
        rcases hh with ⟨r,h2⟩ | h2 | h2
        · exact .inl ⟨r,k6 r k h2⟩
        · rcases List.mem_append.1 h2 with h2 | h2
          · exact .inl (k5 k h2)
          · exact .inr (.inl h2)
        · exact .inr (.inr h2)
      exact conv (q6.xn k (by
        rcases List.mem_append.1 h1 with h1 | h1
        · simp [h1]
        · simp [h1]))
    · rcases q6.Fn k hk with h2 | ⟨r,h2⟩ | h2 | h2
      · rcases k4 k h2 with h3 | h3
        · exact .inl h3
        · exact .inr (.inl h3)
      · exact .inr (.inl ⟨r,k6 r k h2⟩)
      · rcases List.mem_append.1 h2 with h2 | h2
        · exact .inr (.inl (k5 k h2))
        · exact .inr (.inr (.inl h2))
      · exact .inr (.inr (.inr h2))
  · refine k7.trans (q7.trans ⟨by rw [p4],by rw [p3];exact Nat.le_refl _⟩)
end
end Go.Idl
namespace Go.Idl
open Go
theorem KillOK.rootL (L:Nat):KillOK (IV.rootL L):=fun y h=>by cases y <;> simp_all [IV.rootL,IV.isR]
theorem box_enterH (st:St) (ys:List IV) (l k:Nat):(argSt ys (st.M++[[]])).box l k=if l < st.M.length then st.box l k else none:=by
  unfold St.box argSt
  simp only [List.length_append,List.length_cons,List.length_nil,Nat.zero_add]
  by_cases h1:l < st.M.length
  · rw [if_pos h1,if_neg (by omega),if_neg (by omega),List.getElem?_append_left h1]
  · rw [if_neg h1]
    by_cases h2:l=st.M.length+1
    · rw [if_pos h2];rfl
    · rw [if_neg h2]
      by_cases h3:l=st.M.length
      · subst h3;simp
      · rw [List.getElem?_eq_none (by simp;omega)]
section
variable {cx:Cx} {w w':World} {F F' F0 F1:Nat→Prop} {ρ ρ':Rho} {fp fp' fp1:Fp} {X X' f f' f1 f2 fa:List Nat} {st st' st1:St} {a:Act} {o:Oper} {tm:Nat→Value} {v:IV}
theorem isData_rds {lk} {x:IV} {u:Value} (h:RC cx w F ρ st lk x u f) (hd:x.isData=true):RDs w F [x] [u] f:=by
  rcases h with ⟨h,_⟩ | h
  · cases x <;> first | (simp [IV.isData] at hd;done) | exact h.elim
  · exact h
theorem RA.lv {L:Nat} {lk} {x:IV} {u:Value} (h:RA cx w F ρ st x u f) (hx:x.okLvl L=true) (hb:∀ l k,l < L→(st.box l k).isSome=true→ρ' l k=ρ l k∧(st'.box l k).isSome=true):RComp cx w F ρ' st' lk x u f:=by
  obtain ⟨h,hA⟩:=h
  cases x with
  | agg cs =>
    obtain ⟨C,rfl,hc⟩:=h
    refine ⟨C,rfl,hc.mono fun x v f _ hz hm=>.inr (isData_rds hz ?_)⟩
    exact List.all_eq_true.1 hx x hm
  | sc u=>exact .inr (isData_rds h rfl)
  | lst e es c=>exact .inr (isData_rds h rfl)
  | own e es=>exact .inr (isData_rds h rfl)
  | bptr l k c =>
    rcases h with ⟨⟨h1,h2⟩,h3⟩ | h
    · have hl:l < L:=by simpa [IV.okLvl,IV.lvl] using hx
      obtain ⟨k1,k2⟩:=hb l k hl h2
      exact .inl ⟨⟨by rw [k1];exact h1,k2⟩,h3⟩
    · cases h
  | fn g caps =>
    rcases h with ⟨⟨cvs,h1,h2⟩,h3⟩ | h
    · refine .inl ⟨⟨cvs,h1,h2.mono fun z v f _ hz hm=>⟨?_,hz.2⟩⟩,h3⟩
      have hz2:=List.all_eq_true.1 hx z hm
      cases z with
      | bptr l' k c =>
        obtain ⟨⟨h5,h6⟩,_⟩:=hz
        have hl:l' < L:=by simpa using hz2
        obtain ⟨k1,k2⟩:=hb l' k hl h6
        exact ⟨by rw [k1];exact h5,k2⟩
      | _=>exact hz.1.elim
    · cases h
  | _=>simp [IV.isA,IV.isD] at hA
theorem Rel.enterH (h:Rel cx w F ρ fp (fa++X) st tm) {ys:List IV} {us:List Value} (hc:Cat (RA cx w F ρ st) ys us fa) (hl:ys.all (IV.okLvl st.M.length)=true) :
    ∃ fp0:Fp,Rel cx w F ρ fp0 [] (argSt ys (st.M++[[]])) (argTm us)∧(∀ s,∀ k ∈ fp0 (.S s),k ∈ fa)∧(∀ l k,fp0 (.B l k)=if l < st.M.length then fp (.B l k) else []):=by
  have hX:=List.nodup_append.1 h.xnodup
  have hbx:=box_enterH st ys
  have hlow:∀ l k,l < st.M.length→(st.box l k).isSome=true→ρ l k=ρ l k∧((argSt ys (st.M++[[]])).box l k).isSome=true:=fun l k hl hb=>⟨rfl,by rw [hbx,if_pos hl];exact hb⟩
  have hc':Cat (fun x v f=>RA cx w F ρ st x v f∧x.okLvl st.M.length=true) ys us fa:=hc.mono fun x v f _ hx hm=>⟨hx,List.all_eq_true.1 hl x hm⟩
  obtain ⟨φ,k1,k2,k3⟩:=args_slots (cx:=cx) (w:=w) (F0:=F) (ρ':=ρ) (M:=st.M++[[]]) hc' (fun x v f hx=>rcomp_slot (hx.1.lv hx.2 hlow))
  obtain ⟨k4,k5⟩:=k3 hX.1
  have hfa:∀ k ∈ fa,k ∈ fa++X:=fun k hk=>by simp [hk]
  refine ⟨(fun r=>match r with | .S s=>φ s | .B l k=>if l < st.M.length then fp (.B l k) else []),⟨k1,fun l k cs hb=>?_,fun l k hb=>?_,fun r=>?_,fun r r' hr k hk hk'=>?_,fun r k hk=>?_,fun r k hk=>?_,h.Flt,.nil,fun _ _ _=>(by simp),fun _ h=>(by simp at h),fun _ h=>(by simp at h)⟩,fun s k hk=>k2 s k hk,fun _ _=>rfl⟩
  · rw [hbx] at hb
    split at hb
    · rename_i hl0
      obtain ⟨C,ty,f0,q1,q2,q3⟩:=h.boxes l k cs hb
      refine ⟨C,ty,f0,by simp only [if_pos hl0];exact q1,q2,q3.mono fun x v f _ hx _=>hx.lv (fun l' k' hl' hb'=>hlow l' k' (by omega) hb')⟩
    · cases hb
  · rw [hbx] at hb
    simp only
    split at hb
    · rename_i hl0;rw [if_pos hl0];exact h.nobox l k hb
    · rename_i hl0;rw [if_neg hl0]
  · cases r with
    | S s=>exact k4 s
    | B l k=>simp only;split
             · exact h.nodup _
             · exact .nil
  · cases r with
    | B l q =>
      simp only at hk
      split at hk
      rotate_left
      · cases hk
      cases r' with
      | B l' q' =>
        simp only at hk'
        split at hk'
        · exact h.disj _ _ hr k hk hk'
        · cases hk'
      | S s'=>exact h.xdisj _ k hk (hfa k (k2 s' k hk'))
    | S s =>
      cases r' with
      | B l q =>
        simp only at hk'
        split at hk'
        · exact h.xdisj _ k hk' (hfa k (k2 s k hk))
        · cases hk'
      | S s'=>exact k5 s s' (fun hc=>hr (by rw [hc])) k hk hk'
  · cases r with
    | B l q =>
      simp only at hk
      split at hk
      · exact h.notF _ k hk
      · cases hk
    | S s=>exact h.xF k (hfa k (k2 s k hk))
  · cases r with
    | B l q =>
      simp only at hk
      split at hk
      · exact h.lt _ k hk
      · cases hk
    | S s=>exact h.xlt k (hfa k (k2 s k hk))
theorem box_leaveH {r:Ret} {L:Nat} {loc:Boxes} (hM:r.M.getLast? = some []) (hl:r.M.length=L+1) (l k:Nat) (T:Tm) :
    ({ T:=T,loc:=loc++r.exp,M:=r.M.dropLast }:St).box l k=if l=L∧k < loc.length then loc[k]? else if l≤L then (retSt r).box (renB L loc.length l k).1 (renB L loc.length l k).2 else none:=by
  have hdl:r.M.dropLast.length=L:=by simp [hl]
  have hMe:r.M=r.M.dropLast++[[]]:=by
    have hne:r.M ≠ []:=by intro h;rw [h] at hl;simp at hl
    have:=List.dropLast_concat_getLast hne
    rw [List.getLast?_eq_some_getLast hne] at hM
    simp only [Option.some.injEq] at hM
    rw [hM] at this;exact this.symm
  unfold St.box retSt renB
  simp only [hdl,hl]
  by_cases h1:l=L
  · subst h1
    simp only [if_true,Nat.le_refl,true_and]
    by_cases h2:loc.length≤k
    · rw [if_pos h2,if_neg (by omega)]
      simp only [if_true]
      rw [List.getElem?_append_right h2]
    · rw [if_neg h2,if_pos (by omega),List.getElem?_append_left (by omega)]
  · have h1':¬ (l=L∧loc.length≤k):=fun h=>h1 h.1
    have h1'':¬ (l=L∧k < loc.length):=fun h=>h1 h.1
    simp only [if_neg h1,if_neg h1',if_neg h1'']
    by_cases h3:l≤L
    · rw [if_pos h3,if_neg (by omega)]
      have:r.M[l]? = r.M.dropLast[l]?:=by
        conv=>lhs;rw [hMe]
        rw [List.getElem?_append_left (by omega)]
      rw [this]
    · rw [if_neg h3,List.getElem?_eq_none (by omega)]
def callStH (st:St) (r:Ret):St:={ T:=killBy (IV.rootL st.M.length) st.T,loc:=st.loc++r.exp,M:=r.M.dropLast }
theorem call_hide {cf:CF} (hcf:CallOK cx cf) (h:Rel cx w F ρ fp (fa++X) st tm) {ys:List IV} {us:List Value} (hc:Cat (RA cx w F ρ st) ys us fa) (hlv:ys.all (IV.okLvl st.M.length)=true) {g:Lab} {lent:List Nat} {r:Ret} {v2:IV}
    (hr:cf g lent ys (st.M++[[]])=some r) (hgl:r.M.getLast? = some []) (hlen:r.M.length=st.M.length+1) (hv:renV st.M.length st.loc.length r.exp r.v=some v2) :
    Calls cx.P (cx.fid g) us.toArray w (fun e w'=>∃ v' F' ρ2 fp2 Xb fv,e=.returned v'∧Rel cx w' F' ρ2 fp2 (fv++(Xb++X)) (callStH st r) tm∧(∀ s,fp2 (.S s)=fp (.S s)) ∧
      RSlot cx w' F' ρ2 (callStH st r) (look (callStH st r) tm ρ2 w') v2 v' fv∧v2.isRet=true∧BackR w' F' us lent r.back Xb∧Ext w F ρ fp (fa++X) (exB st) w' F' ρ2 fp2 (fv++(Xb++X))∧ShpLe st (callStH st r)):=by
  obtain ⟨fp0,h0,hfp0,hfp0B⟩:=h.enterH hc hlv
  refine ((hcf g lent ys _ _ hr).2 w _ ρ fp0 us hc.len.symm h0).mono ?_
  rintro e w' ⟨v',F',ρ',fp',Xb,rfl,q1,q2,q3,q4,q5,q6⟩
  have hX:=List.nodup_append.1 h.xnodup
  have hfaX:∀ k ∈ fa,k ∈ fa++X:=fun k hk=>by simp [hk]
  have hXX:∀ k ∈ X,k ∈ fa++X:=fun k hk=>by simp [hk]
  have hM2:r.M=r.M.dropLast++[[]]:=by
    have hne:r.M ≠ []:=by intro h;rw [h] at hlen;simp at hlen
    have:=List.dropLast_concat_getLast hne
    rw [List.getLast?_eq_some_getLast hne] at hgl
    simp only [Option.some.injEq] at hgl
    rw [hgl] at this;exact this.symm
  have hdl:r.M.dropLast.length=st.M.length:=by simp [hlen]
  have hshape:r.M.dropLast.map List.length=st.M.map List.length:=by
    rw [hM2,List.map_append,List.map_append] at q3
    exact (List.append_inj q3 (by rw [List.length_map,List.length_map,hdl])).1
  have shp:ShpLe st (callStH st r):=⟨hshape,by simp [callStH]⟩
  have shp':ShpLe (argSt ys (st.M++[[]])) (retSt r):=⟨q3,by simp [argSt,retSt]⟩
  have hbl:∀ l k,(callStH st r).box l k=if l=st.M.length∧k < st.loc.length then st.loc[k]? else if l≤st.M.length then (retSt r).box (renB st.M.length st.loc.length l k).1 (renB st.M.length st.loc.length l k).2 else none:=fun l k=>box_leaveH hgl hlen l k (killBy (IV.rootL st.M.length) st.T)
  have hown:∀ k,st.box st.M.length k=st.loc[k]?:=fun k=>by simp [St.box]
  let ρ2:Rho:=fun l k=>if l=st.M.length∧k < st.loc.length then ρ l k else ρ' (renB st.M.length st.loc.length l k).1 (renB st.M.length st.loc.length l k).2
  let fp2:Fp:=fun q=>match q with
    | .S s=>fp (.S s)
    | .B l k=>if l=st.M.length∧k < st.loc.length then fp (.B l k) else if l≤st.M.length then fp' (.B (renB st.M.length st.loc.length l k).1 (renB st.M.length st.loc.length l k).2) else []
  have hlow:∀ l k,l < st.M.length→ρ2 l k=ρ' l k∧(callStH st r).box l k=(retSt r).box l k:=fun l k hl=>by
    have hren:renB st.M.length st.loc.length l k=(l,k):=by unfold renB;rw [if_neg (by omega)]
    exact ⟨by simp only [ρ2,hren];rw [if_neg (by omega)],by rw [hbl,if_neg (by omega),if_pos (by omega),hren]⟩
  have hkeep:∀ k,k < w.heap.size→k ∉ fa→(∀ l q,l < st.M.length→k ∉ fp (.B l q))→w'.heap[k]? = w.heap[k]?:=fun k hk h1 h2=>q2.keep k hk (fun q hq=>by
    cases q with
    | S s=>exact h1 (hfp0 s k hq)
    | B l q =>
      rw [hfp0B] at hq
      split at hq
      · exact h2 l q ‹_› hq
      · cases hq) (by simp)
  have hkS:∀ s,∀ k ∈ fp (.S s),w'.heap[k]? = w.heap[k]?:=fun s k hk=>hkeep k (h.lt _ k hk) (fun h1=>h.xdisj _ k hk (hfaX k h1)) (fun l q _ h1=>h.disj (.S s) (.B l q) (by intro hc;cases hc) k hk h1)
  have hkO:∀ m,∀ k ∈ fp (.B st.M.length m),w'.heap[k]? = w.heap[k]?:=fun m k hk=>hkeep k (h.lt _ k hk) (fun h1=>h.xdisj _ k hk (hfaX k h1)) (fun l q hl h1=>h.disj (.B st.M.length m) (.B l q) (by intro hc;cases hc;omega) k hk h1)
  have hkF:∀ k,F k→w'.heap[k]? = w.heap[k]?:=fun k hk=>hkeep k (h.Flt k hk) (fun h1=>h.xF k (hfaX k h1) hk) (fun l q _ h1=>h.notF _ k h1 hk)
  have hfp0r:∀ q,∀ k ∈ fp0 q,k ∈ fa ∨ (∃ l m,l < st.M.length∧k ∈ fp (.B l m)):=fun q k hk=>by
    cases q with
    | S s=>exact .inl (hfp0 s k hk)
    | B l m =>
      rw [hfp0B] at hk
      split at hk
      · exact .inr ⟨l,m,‹_›,hk⟩
      · cases hk
  have hnew:∀ q,∀ k ∈ fp' q,k ∈ fa ∨ (∃ l m,l < st.M.length∧k ∈ fp (.B l m)) ∨ w.heap.size≤k:=fun q k hk=>by
    rcases q2.fpn q k hk with ⟨r',h1⟩ | h1 | h1
    · rcases hfp0r r' k h1 with h1 | h1
      · exact .inl h1
      · exact .inr (.inl h1)
    · cases h1
    · exact .inr (.inr h1)
  have hnewX:∀ k ∈ Xb,k ∈ fa ∨ (∃ l m,l < st.M.length∧k ∈ fp (.B l m)) ∨ w.heap.size≤k:=fun k hk=>by
    rcases q2.xn k hk with ⟨r',h1⟩ | h1 | h1
    · rcases hfp0r r' k h1 with h1 | h1
      · exact .inl h1
      · exact .inr (.inl h1)
    · cases h1
    · exact .inr (.inr h1)
  have hFn:∀ k,F' k→F k ∨ k ∈ fa ∨ (∃ l m,l < st.M.length∧k ∈ fp (.B l m)) ∨ w.heap.size≤k:=fun k hk=>by
    rcases q2.Fn k hk with h1 | ⟨r',h1⟩ | h1 | h1
    · exact .inl h1
    · rcases hfp0r r' k h1 with h1 | h1
      · exact .inr (.inl h1)
      · exact .inr (.inr (.inl h1))
    · cases h1
    · exact .inr (.inr (.inr h1))
  have apS:∀ s,∀ k ∈ fp (.S s),¬ (k ∈ fa ∨ (∃ l m,l < st.M.length∧k ∈ fp (.B l m)) ∨ w.heap.size≤k):=fun s k hk hh=>by
    rcases hh with h1 | ⟨l,m,_,h1⟩ | h1
    · exact h.xdisj _ k hk (hfaX k h1)
    · exact h.disj (.S s) (.B l m) (by intro hc;cases hc) k hk h1
    · have:=h.lt _ k hk;omega
  have apO:∀ q,∀ k ∈ fp (.B st.M.length q),¬ (k ∈ fa ∨ (∃ l m,l < st.M.length∧k ∈ fp (.B l m)) ∨ w.heap.size≤k):=fun q k hk hh=>by
    rcases hh with h1 | ⟨l,m,hl,h1⟩ | h1
    · exact h.xdisj _ k hk (hfaX k h1)
    · exact h.disj (.B st.M.length q) (.B l m) (by intro hc;cases hc;omega) k hk h1
    · have:=h.lt _ k hk;omega
  have apX:∀ k ∈ X,¬ (k ∈ fa ∨ (∃ l m,l < st.M.length∧k ∈ fp (.B l m)) ∨ w.heap.size≤k):=fun k hk hh=>by
    rcases hh with h1 | ⟨l,m,_,h1⟩ | h1
    · exact hX.2.2 k h1 k hk rfl
    · exact h.xdisj _ k h1 (hXX k hk)
    · have:=h.xlt k (hXX k hk);omega
  have hboxO:∀ k,k < st.loc.length→(callStH st r).box st.M.length k=st.box st.M.length k∧ρ2 st.M.length k=ρ st.M.length k:=fun k hk=>⟨by rw [hbl,if_pos ⟨rfl,hk⟩,hown],by simp only [ρ2];rw [if_pos ⟨trivial,hk⟩]⟩
  have tr:Tr w F ρ st (look st tm ρ w) w' F' ρ2 (callStH st r) (look (callStH st r) tm ρ2 w') (fun r c q=>∃ x:IV,refAt x r c q∧IV.rootL st.M.length x=false):=by
    refine ⟨fun q c p hlive x0 v0 e es A n cap hl hf=>?_,hkF,q2.Fm,fun l k hb=>?_⟩
    · cases q with
      | B l k =>
        have hL:l=st.M.length:=by
          obtain ⟨x,hx1,hx2⟩:=hlive
          cases x <;> simp only [refAt] at hx1
          all_goals
            obtain ⟨rfl,_⟩:=hx1
            simpa [IV.rootL] using hx2
        subst hL
        have hkl:k < st.loc.length:=by
          simp only [look,hown] at hl
          cases hq:st.loc[k]? with
          | none=>simp [hq] at hl
          | some _=>exact (List.getElem?_eq_some_iff.1 hq).1
        obtain ⟨b1,b2⟩:=hboxO k hkl
        have h1:=look_B_frame (st':=st) (w':=w') h hl (hkO k)
        refine ⟨x0,es,?_,h.tr_other hl hf (hkO k),Nat.le_refl _⟩
        simp only [look] at h1 ⊢
        rw [b1,b2];exact h1
      | S s =>
        obtain ⟨e0,es0,rfl⟩:=folR_own hf
        obtain ⟨h1,h2⟩:=look_S hl
        refine ⟨_,es,look_S_mk ?_ h2,h.tr_other hl hf (hkS s),Nat.le_refl _⟩
        simp only [callStH]
        rw [tget_killBy]
        exact cells_kl (KillOK.rootL _) h1
    · by_cases hL:l=st.M.length
      · subst hL
        have hkl:k < st.loc.length:=by
          rw [hown] at hb
          cases hq:st.loc[k]? with
          | none=>simp [hq] at hb
          | some _=>exact (List.getElem?_eq_some_iff.1 hq).1
        obtain ⟨b1,b2⟩:=hboxO k hkl
        exact ⟨b2,by rw [b1];exact hb⟩
      · have hl:l < st.M.length:=by
          rw [box_some] at hb
          rcases hb with ⟨h1,_⟩ | ⟨_,m,h2,_⟩
          · exact absurd h1 hL
          · have:=(List.getElem?_eq_some_iff.1 h2).1
            simpa using this
        obtain ⟨b1,b2⟩:=hlow l k hl
        have hb0:((argSt ys (st.M++[[]])).box l k).isSome=true:=by rw [box_enterH,if_pos hl];exact hb
        have hb2:((retSt r).box l k).isSome=true:=shp'.box hb0
        exact ⟨b1.trans (q2.rho l k (by show (({ T:=[],loc:=[],M:=st.M++[[]] }:St).box l k).isSome=true;exact (box_enterH st [] l k) ▸ (by rw [if_pos hl];exact hb))),by rw [b2];exact hb2⟩
  have hval:∀ k,k ∈ fp' (.S 0)→∀ q,k ∉ fp2 q:=fun k hk q hq=>by
    cases q with
    | S s=>exact apS s k hq (hnew _ k hk)
    | B l m =>
      simp only [fp2] at hq
      split at hq
      · rename_i hc;obtain ⟨rfl,_⟩:=hc;exact apO m k hq (hnew _ k hk)
      · split at hq
        · exact q1.disj (.S 0) (.B _ _) (by intro hc;cases hc) k hk hq
        · cases hq
  have hrel:Rel cx w' F' ρ2 fp2 (fp' (.S 0)++(Xb++X)) (callStH st r) tm:=by
    refine ⟨fun s=>?_,fun l k cs hb=>?_,fun l k hb=>?_,fun q=>?_,fun q q' hq k hk hk'=>?_,fun q k hk=>?_,fun q k hk=>?_,q1.Flt,?_,fun q k hk hx=>?_,fun k hk=>?_,fun k hk=>?_⟩
    · simp only [callStH]
      rw [tget_killBy]
      exact (h.slots s).trk tr (KillOK.rootL _) (liveK _) (hkS s)
    · rw [hbl] at hb
      split at hb
      · rename_i hc
        obtain ⟨rfl,hkl⟩:=hc
        rw [← hown] at hb
        obtain ⟨C,ty,f0,k1,k2,k3⟩:=h.boxes _ _ cs hb
        have hmem:∀ b ∈ ρ st.M.length k::f0,w'.heap[b]? = w.heap[b]?:=fun b hb'=>hkO k b (by rw [k1];exact hb')
        refine ⟨C,ty,f0,by simp only [fp2];rw [if_pos ⟨trivial,hkl⟩,(hboxO k hkl).2];exact k1,by rw [(hboxO k hkl).2,hmem _ (by simp)];exact k2,k3.mono fun x v f hf hx hm=>hx.tr tr (fun b hb'=>hmem b (by simp [hf b hb']))⟩
      rename_i hnot
      split at hb
      rotate_left
      · cases hb
      rename_i hl
      obtain ⟨C,ty,f0,k1,k2,k3⟩:=q1.boxes _ _ cs hb
      refine ⟨C,ty,f0,by simp only [fp2,if_pos hl,ρ2];rw [if_neg hnot,if_neg hnot];exact k1,by simp only [ρ2];rw [if_neg hnot];exact k2,k3.mono fun x v f _ hx hm=>?_⟩
      by_cases hc:l=st.M.length
      ·
        have:(renB st.M.length st.loc.length l k)=(st.M.length+1,k - st.loc.length):=by unfold renB;rw [if_pos (by omega)]
        rw [this] at hb
        have hcs:cs ∈ r.exp:=by
          unfold St.box retSt at hb
          simp only [hlen,if_true] at hb
          exact List.mem_of_getElem? hb
        exact hx.data (List.all_eq_true.1 (List.all_eq_true.1 q6 cs hcs) x hm)
      · have:(renB st.M.length st.loc.length l k)=(l,k):=by unfold renB;rw [if_neg (by omega)]
        rw [this] at hx
        exact hx.lv (fun l' k' hl' hb'=>by
          obtain ⟨b1,b2⟩:=hlow l' k' (by omega)
          exact ⟨b1,by rw [b2];exact hb'⟩)
    · rw [hbl] at hb
      simp only [fp2]
      split at hb
      · rename_i hc
        rw [if_pos hc]
        obtain ⟨rfl,_⟩:=hc
        exact h.nobox _ _ (by rw [hown];exact hb)
      · rename_i hc
        rw [if_neg hc]
        split at hb
        · rename_i hl;rw [if_pos hl];exact q1.nobox _ _ hb
        · rename_i hl;rw [if_neg hl]
    · cases q with
      | S s=>exact h.nodup _
      | B l k=>simp only [fp2];split
               · exact h.nodup _
               · split
                 · exact q1.nodup _
                 · exact .nil
    · cases q with
      | S s =>
        cases q' with
        | S s'=>exact h.disj _ _ hq k hk hk'
        | B l m =>
          simp only [fp2] at hk'
          split at hk'
          · exact h.disj (.S s) (.B l m) hq k hk hk'
          split at hk'
          · exact apS s k hk (hnew _ k hk')
          · cases hk'
      | B l m =>
        simp only [fp2] at hk
        split at hk
        · rename_i hc
          cases q' with
          | S s'=>exact h.disj (.B l m) (.S s') hq k hk hk'
          | B l' m' =>
            simp only [fp2] at hk'
            split at hk'
            · exact h.disj (.B l m) (.B l' m') hq k hk hk'
            split at hk'
            · obtain ⟨rfl,_⟩:=hc
              exact apO m k hk (hnew _ k hk')
            · cases hk'
        rename_i hnot
        split at hk
        rotate_left
        · cases hk
        rename_i hl
        cases q' with
        | S s'=>exact apS s' k hk' (hnew _ k hk)
        | B l' m' =>
          simp only [fp2] at hk'
          split at hk'
          · rename_i hc
            obtain ⟨rfl,_⟩:=hc
            exact apO m' k hk' (hnew _ k hk)
          rename_i hnot'
          split at hk'
          rotate_left
          · cases hk'
          rename_i hl'
          refine q1.disj _ _ (fun hc=>hq ?_) k hk hk'
          have e:renB st.M.length st.loc.length l m=renB st.M.length st.loc.length l' m':=by
            simp only [Rt.B.injEq] at hc;exact Prod.ext hc.1 hc.2
          unfold renB at e
          split at e <;> split at e <;> simp only [Prod.mk.injEq] at e
          · rename_i a1 a2;rw [a1.1,a2.1,show m=m' by omega]
          · omega
          · omega
          · rw [e.1,e.2]
    · cases q with
      | S s =>
        intro hF
        rcases hFn k hF with h1 | h1
        · exact h.notF _ k hk h1
        · exact apS s k hk h1
      | B l m =>
        simp only [fp2] at hk
        split at hk
        · rename_i hc
          obtain ⟨rfl,_⟩:=hc
          intro hF
          rcases hFn k hF with h1 | h1
          · exact h.notF _ k hk h1
          · exact apO m k hk h1
        split at hk
        · exact q1.notF _ k hk
        · cases hk
    · cases q with
      | S s=>exact Nat.lt_of_lt_of_le (h.lt _ k hk) q2.size
      | B l m =>
        simp only [fp2] at hk
        split at hk
        · exact Nat.lt_of_lt_of_le (h.lt _ k hk) q2.size
        split at hk
        · exact q1.lt _ k hk
        · cases hk
    · rw [List.nodup_append]
      refine ⟨q1.nodup _,?_,fun x hx y hy hxy=>?_⟩
      · rw [List.nodup_append]
        refine ⟨q1.xnodup,hX.2.1,fun x hx y hy hxy=>?_⟩
        subst hxy
        exact apX x hy (hnewX x hx)
      · subst hxy
        rcases List.mem_append.1 hy with hy | hy
        · exact q1.xdisj _ x hx hy
        · exact apX x hy (hnew _ x hx)
    · rcases List.mem_append.1 hx with hx | hx
      · exact hval k hx q hk
      · rcases List.mem_append.1 hx with hx | hx
        · cases q with
          | S s=>exact apS s k hk (hnewX k hx)
          | B l m =>
            simp only [fp2] at hk
            split at hk
            · rename_i hc
              obtain ⟨rfl,_⟩:=hc
              exact apO m k hk (hnewX k hx)
            split at hk
            · exact q1.xdisj _ k hk hx
            · cases hk
        · cases q with
          | S s=>exact h.xdisj _ k hk (hXX k hx)
          | B l m =>
            simp only [fp2] at hk
            split at hk
            · exact h.xdisj _ k hk (hXX k hx)
            split at hk
            · exact apX k hx (hnew _ k hk)
            · cases hk
    · rcases List.mem_append.1 hk with hk | hk
      · exact q1.notF _ k hk
      · rcases List.mem_append.1 hk with hk | hk
        · exact q1.xF k hk
        · intro hF
          rcases hFn k hF with h1 | h1
          · exact h.xF k (hXX k hk) h1
          · exact apX k hk h1
    · rcases List.mem_append.1 hk with hk | hk
      · exact q1.lt _ k hk
      · rcases List.mem_append.1 hk with hk | hk
        · exact q1.xlt k hk
        · exact Nat.lt_of_lt_of_le (h.xlt k (hXX k hk)) q2.size
  have hsl:RSlot cx w' F' ρ' (retSt r) (look (retSt r) (retTm v') ρ' w') r.v v' (fp' (.S 0)):=q1.slots 0
  have hvr:RSlot cx w' F' ρ2 (callStH st r) (look (callStH st r) tm ρ2 w') v2 v' (fp' (.S 0))∧v2.isRet=true:=by
    cases hex:r.exp with
    | nil =>
      rw [hex] at hv
      simp only [renV,Option.some.injEq] at hv
      subst hv
      refine ⟨hsl.ret q5 (fun l k hb=>?_),q5⟩
      have hl:l < st.M.length:=by
        have hb':=hb
        rw [box_some] at hb
        simp only [retSt,hex,List.length_nil,hlen] at hb
        rcases hb with ⟨_,h2⟩ | ⟨h1,m,h2,h3⟩
        · omega
        · have:=(List.getElem?_eq_some_iff.1 h2).1
          simp [hlen] at this
          rcases Nat.lt_or_ge l st.M.length with h4 | h4
          · exact h4
          · have:l=st.M.length:=by omega
            subst this
            rw [hM2,List.map_append,List.getElem?_append_right (by rw [List.length_map,hdl];exact Nat.le_refl _),List.length_map,hdl,Nat.sub_self] at h2
            simp at h2
            omega
      obtain ⟨b1,b2⟩:=hlow l k hl
      exact ⟨b1,by rw [b2];exact hb⟩
    | cons c0 ex =>
      rw [hex] at hv
      cases ex with
      | cons _ _=>simp [renV] at hv
      | nil =>
        cases hrv:r.v with
        | bptr l k c =>
          rw [hrv] at hv
          cases k with
          | succ k=>simp [renV] at hv
          | zero =>
            simp only [renV] at hv
            split at hv
            rotate_left
            · cases hv
            rename_i hl
            simp only [Option.some.injEq] at hv
            subst hv
            rw [hrv] at hsl
            rcases hsl with ⟨⟨h1,h2⟩,h3⟩ | hsl
            rotate_left
            · cases hsl
            have hren:renB st.M.length st.loc.length st.M.length st.loc.length=(st.M.length+1,0):=by unfold renB;simp
            refine ⟨.inl ⟨⟨?_,?_⟩,h3⟩,rfl⟩
            · simp only [ρ2,hren];rw [if_neg (by omega),h1,hl]
            · rw [hbl,if_neg (by omega),if_pos (Nat.le_refl _),hren,← hl];exact h2
        | _=>rw [hrv] at hv;simp [renV] at hv
  refine ⟨v',F',ρ2,fp2,Xb,fp' (.S 0),rfl,hrel,fun _=>rfl,hvr.1,hvr.2,q4,⟨q2.size,fun k hk hr hx=>hkeep k hk (fun h1=>hx (hfaX k h1)) (fun l q _ h1=>hr _ h1),fun q k hk=>?_,fun k hk=>?_,q2.Fm,fun k hk=>?_,fun l k hb=>(tr.bx l k hb).1,q2.env⟩,shp⟩
  · have conv:(k ∈ fa ∨ (∃ l m,l < st.M.length∧k ∈ fp (.B l m)) ∨ w.heap.size≤k)→(∃ r',k ∈ fp r') ∨ k ∈ fa++X ∨ w.heap.size≤k:=fun hh=>by
      rcases hh with h1 | ⟨l,m,_,h1⟩ | h1
      · exact .inr (.inl (hfaX k h1))
      · exact .inl ⟨_,h1⟩
      · exact .inr (.inr h1)
    cases q with
    | S s=>exact .inl ⟨_,hk⟩
    | B l m =>
      simp only [fp2] at hk
      split at hk
      · exact .inl ⟨_,hk⟩
      split at hk
      · exact conv (hnew _ k hk)
      · cases hk
  · have conv:(k ∈ fa ∨ (∃ l m,l < st.M.length∧k ∈ fp (.B l m)) ∨ w.heap.size≤k)→(∃ r',k ∈ fp r') ∨ k ∈ fa++X ∨ w.heap.size≤k:=fun hh=>by
      rcases hh with h1 | ⟨l,m,_,h1⟩ | h1
      · exact .inr (.inl (hfaX k h1))
      · exact .inl ⟨_,h1⟩
      · exact .inr (.inr h1)
    rcases List.mem_append.1 hk with hk | hk
    · exact conv (hnew _ k hk)
    · rcases List.mem_append.1 hk with hk | hk
      · exact conv (hnewX k hk)
      · exact .inr (.inl (hXX k hk))
  · rcases hFn k hk with h1 | h1 | ⟨l,m,_,h1⟩ | h1
    · exact .inl h1
    · exact .inr (.inr (.inl (hfaX k h1)))
    · exact .inr (.inl ⟨_,h1⟩)
    · exact .inr (.inr (.inr h1))
end
end Go.Idl
namespace Go.Idl
open Go
section
variable {cx:Cx} {w w':World} {F F' F0 F1:Nat→Prop} {ρ ρ':Rho} {fp fp' fp1:Fp} {X X' f f' f1 f2 fa:List Nat} {st st' st1:St} {a:Act} {o:Oper} {tm:Nat→Value} {v:IV}
theorem out_call_hide {cf:CF} (hcf:CallOK cx cf) (h:Rel cx w F ρ fp X st (regs a)) {c:Call} {y:Operand} {g:Lab} {args:List (Mode×Opd)} {os:List Operand} (hk:okArgs cx args os) (ho:o.op=.call c)
    (hc:c.callee=.value y) (hargs:c.args.toList=os) (hy:a.eval y=.func (.func (cx.fid g)) #[] #[])
    (hev:st.callWithH cf g args=some (v,st')):CallOut cx w F ρ fp X st a o v st':=by
  unfold St.callWithH at hev
  cases hA:st.args args with
  | none=>simp [hA] at hev
  | some p =>
  obtain ⟨vs,st1,fz,ss⟩:=p
  simp only [hA] at hev
  cases fz with
  | true=>simp at hev
  | false =>
  simp only [Bool.false_eq_true,if_false] at hev
  split at hev
  rotate_left
  · cases hev
  rename_i hlv
  unfold St.args at hA
  cases hA1:st.args1 args with
  | none=>simp [hA1] at hA
  | some p1 =>
  obtain ⟨mv,st2,ss2⟩:=p1
  simp only [hA1] at hA
  cases hA2:st2.args2 args mv with
  | none=>simp [hA2] at hA
  | some p2 =>
  obtain ⟨ys,b⟩:=p2
  simp only [hA2,Option.some.injEq,Prod.mk.injEq] at hA
  obtain ⟨rfl,rfl,rfl,rfl⟩:=hA
  obtain ⟨F1,fp1,fa,k1,k2,k3,k4,k5,k6,k7,k8⟩:=args1_rel h hk hA1
  have hcat0:=args2_rel k1 hk k2 hA2
  have hst:∀ k,Still F1 fp1 false k→F1 k:=fun k hk=>hk.elim id (fun h=>by cases h.1)
  have hcat:Cat (RA cx w F1 ρ st2) ys (os.map a.eval) fa:=hcat0.mono fun z v f _ hz _=>hz.more hst
  cases hcall:cf g (lents args 0) ys (st2.M++[[]]) with
  | none=>simp [hcall] at hev
  | some r =>
  obtain ⟨rv,rb,rM,re⟩:=r
  simp only [hcall] at hev
  cases hgl:rM.getLast? with
  | none=>simp [hgl] at hev
  | some loc =>
  cases loc with
  | cons _ _=>simp [hgl] at hev
  | nil =>
  simp only [hgl] at hev
  split at hev
  rotate_left
  · cases hev
  rename_i hlen
  split at hev
  rotate_left
  · cases hev
  rename_i st3 hlb
  have hv:renV st2.M.length st2.loc.length re rv=some v∧st'=st3:=by
    cases re with
    | nil =>
      simp only [Option.some.injEq,Prod.mk.injEq] at hev
      exact ⟨by simp [renV,hev.1],hev.2.symm⟩
    | cons c0 re =>
      cases re with
      | cons _ _=>simp at hev
      | nil =>
        cases rv with
        | bptr l k c =>
          cases k with
          | succ k=>simp at hev
          | zero =>
            simp only at hev
            split at hev
            · rename_i hl
              simp only [Option.some.injEq,Prod.mk.injEq] at hev
              exact ⟨by simp [renV,hl,hev.1],hev.2.symm⟩
            · cases hev
        | _=>simp at hev
  obtain ⟨hv,rfl⟩:=hv
  have hent:=(hcf g _ ys _ _ hcall).1
  refine ⟨cx.fid g,_,run_call (cvs:=[]) hent ho hc hy w,?_⟩
  rw [hargs,List.append_nil]
  refine (call_hide hcf k1 hcat hlv hcall hgl hlen hv).mono ?_
  rintro e w' ⟨v',F',ρ2,fp2,Xb,fv,rfl,q1,q2,q3,q4,q5,q6,q7⟩
  have hos:∀ i o2,os[i]? = some o2→(os.map a.eval).getD (0+i) undef=a.eval o2:=fun i o2 hi=>by
    have hlt:i < os.length:=(List.getElem?_eq_some_iff.1 hi).1
    rw [Nat.zero_add,List.getD_eq_getElem?_getD]
    simp [hi]
  have q1':Rel cx w' F' ρ2 fp2 (Xb++(fv++X)) (callStH st2 ⟨rv,rb,rM,re⟩) (regs a):=q1.perm (by
    rw [← List.append_assoc,← List.append_assoc]
    exact List.Perm.append_right X List.perm_append_comm)
  obtain ⟨fp3,p1,p2,p3,p4⟩:=lent_back hos hk k8 q5 q1' hlb
  have hbx:∀ l k,st'.box l k=(callStH st2 ⟨rv,rb,rM,re⟩).box l k:=fun l k=>by unfold St.box;rw [p3,p4]
  refine ⟨v',F',ρ2,fp3,fv,rfl,p1,q3.ret q4 (fun l k hb=>⟨rfl,by rw [hbx];exact hb⟩),?_,?_⟩
  · refine ⟨q6.size,fun k hk hr hx=>q6.keep k hk (fun r h1=>hr r (k6 r k h1)) (fun h1=>?_),fun r k h1=>?_,fun k h1=>?_,fun k hk=>q6.Fm k (k3 k hk),fun k hk=>?_,fun l k hb=>q6.rho l k (k7.box hb),q6.env⟩
    · rcases List.mem_append.1 h1 with h1 | h1
      · obtain ⟨r,h2⟩:=k5 k h1;exact hr r h2
      · exact hx h1
    · have conv:((∃ r',k ∈ fp1 r') ∨ k ∈ fa++X ∨ w.heap.size≤k)→(∃ r',k ∈ fp r') ∨ k ∈ X ∨ w.heap.size≤k:=fun hh=>by
        rcases hh with ⟨r,h2⟩ | h2 | h2
        · exact .inl ⟨r,k6 r k h2⟩
        · rcases List.mem_append.1 h2 with h2 | h2
          · exact .inl (k5 k h2)
          · exact .inr (.inl h2)
        · exact .inr (.inr h2)
      rcases p2 r k h1 with h2 | h2
      · exact conv (q6.fpn r k h2)
      · exact conv (q6.xn k (by simp [h2]))
    · have conv:((∃ r',k ∈ fp1 r') ∨ k ∈ fa++X ∨ w.heap.size≤k)→(∃ r',k ∈ fp r') ∨ k ∈ X ∨ w.heap.size≤k:=fun hh=>by
        rcases hh with ⟨r,h2⟩ | h2 | h2
        · exact .inl ⟨r,k6 r k h2⟩
        · rcases List.mem_append.1 h2 with h2 | h2
          · exact .inl (k5 k h2)
          · exact .inr (.inl h2)
        · exact .inr (.inr h2)
      exact conv (q6.xn k (by
        rcases List.mem_append.1 h1 with h1 | h1
        · simp [h1]
        · simp [h1]))
    · rcases q6.Fn k hk with h2 | ⟨r,h2⟩ | h2 | h2
      · rcases k4 k h2 with h3 | h3
        · exact .inl h3
        · exact .inr (.inl h3)
      · exact .inr (.inl ⟨r,k6 r k h2⟩)
      · rcases List.mem_append.1 h2 with h2 | h2
        · exact .inr (.inl (k5 k h2))
        · exact .inr (.inr (.inl h2))
      · exact .inr (.inr (.inr h2))
  · refine k7.trans (q7.trans ⟨by rw [p4],by rw [p3];exact Nat.le_refl _⟩)
end
end Go.Idl
namespace Go.Idl
open Go
def vEq1:Value→Value→Bool
  | .int k n,.int k' n'=>decide (k=k') && decide (n=n')
  | .bool b,.bool b'=>b == b'
  | .string s,.string s'=>decide (s.data.toList=s'.data.toList)
  | .nilFunc,.nilFunc=>true
  | .slice none a b,.slice none a' b'=>decide (a=a') && decide (b=b')
  | .pointer none,.pointer none=>true
  | _,_=>false
theorem vEq1_eq {u v:Value} (h:vEq1 u v=true):u=v:=by
  unfold vEq1 at h
  split at h
  · simp only [Bool.and_eq_true,decide_eq_true_eq] at h;rw [h.1,h.2]
  · simp only [beq_iff_eq] at h;rw [h]
  · simp only [decide_eq_true_eq] at h
    rename_i s s'
    congr 1
    obtain ⟨⟨a⟩⟩:=s
    obtain ⟨⟨b⟩⟩:=s'
    simp only at h
    rw [h]
  · rfl
  · simp only [Bool.and_eq_true,decide_eq_true_eq] at h;rw [h.1,h.2]
  · rfl
  · cases h
def vEqs:List Value→List Value→Bool
  | [],[]=>true
  | u::us,v::vs=>vEq1 u v && vEqs us vs
  | _,_=>false
theorem vEqs_eq:∀ {us vs:List Value},vEqs us vs=true→us=vs
  | [],[],_=>rfl
  | u::us,v::vs,h=>by
    simp only [vEqs,Bool.and_eq_true] at h
    rw [vEq1_eq h.1,vEqs_eq h.2]
  | [],_::_,h=>by cases h
  | _::_,[],h=>by cases h
def vEq:Value→Value→Bool
  | .agg C,.agg D=>vEqs C.toList D.toList
  | .tuple C,.tuple D=>vEqs C.toList D.toList
  | u,v=>vEq1 u v
theorem vEq_eq {u v:Value} (h:vEq u v=true):u=v:=by
  unfold vEq at h
  split at h
  · rw [Array.toList_inj.1 (vEqs_eq h)]
  · rw [Array.toList_inj.1 (vEqs_eq h)]
  · exact vEq1_eq h
def bOpd (cx:Cx):Operand→Opd→Bool
  | .tmp t,.t s=>t == s
  | .const v,.c u=>vEq v u
  | .func f,.f l=>cx.fid l == f
  | _,_=>false
theorem bOpd_ok {cx:Cx} {o:Operand} {x:Opd} (h:bOpd cx o x=true):okOpd cx o x:=by
  unfold bOpd at h
  split at h
  · simpa [okOpd] using h
  · exact vEq_eq h
  · simpa [okOpd] using h
  · cases h
end Go.Idl
namespace Go.Idl
open Go
def bSize (P:Program) (t:TypeId) (e:Nat):Bool:=match P.info? t with | some i=>i.size == e | none=>false
theorem bSize_ok {P t e} (h:bSize P t e=true):sizeIs P t e:=by
  unfold bSize at h;split at h
  · exact ⟨_,‹_›,by simpa using h⟩
  · cases h
def bZero (P:Program) (t:TypeId) (z:List Value):Bool:=match P.info? t with
  | some i=>match i.zero with
    | some v=>vEqs v.cells.toList z
    | none=>false
  | none=>false
theorem bZero_ok {P t z} (h:bZero P t z=true):zeroIs P t z:=by
  unfold bZero at h;split at h
  · split at h
    · exact ⟨_,_,‹_›,‹_›,vEqs_eq h⟩
    · cases h
  · cases h
def isAggD:TypeDesc→Bool
  | .struct _ | .array _ _=>true
  | _=>false
def bAgg (P:Program) (t:TypeId) (b:Bool):Bool:=match P.underlying t with | some d=>isAggD d == b | none=>false
theorem bAgg_ok {P t b} (h:bAgg P t b=true):aggIs P t b:=by
  unfold bAgg at h;split at h
  · rename_i d hd
    refine ⟨d,hd,?_⟩
    simp only [beq_iff_eq] at h
    rw [← h];cases d <;> rfl
  · cases h
def bOpdO (cx:Cx):Option Operand→Option Opd→Bool
  | none,none=>true
  | some o,some x=>bOpd cx o x
  | _,_=>false
theorem bOpdO_ok {cx:Cx} {o:Option Operand} {x:Option Opd} (h:bOpdO cx o x=true):okOpdO cx o x:=by
  cases o <;> cases x <;> simp only [bOpdO] at h
  · trivial
  · cases h
  · cases h
  · exact bOpd_ok h
def bArgs (cx:Cx):List (Mode×Opd)→List Operand→Bool
  | [],[]=>true
  | (_,x)::r,o::os=>bOpd cx o x && bArgs cx r os
  | _,_=>false
theorem bArgs_ok {cx:Cx}:∀ {l:List (Mode×Opd)} {os:List Operand},bArgs cx l os=true→okArgs cx l os
  | [],[],_=>trivial
  | (_,x)::r,o::os,h=>by
    simp only [bArgs,Bool.and_eq_true] at h
    exact ⟨bOpd_ok h.1,bArgs_ok h.2⟩
  | [],_::_,h=>by cases h
  | _::_,[],h=>by cases h
def bParts1 (cx:Cx):List (Nat×Operand)→List (Nat×Opd)→Bool
  | [],[]=>true
  | (i,o)::r,(j,x)::s=>i == j && bOpd cx o x && bParts1 cx r s
  | _,_=>false
theorem bParts1_ok {cx:Cx}:∀ {l:List (Nat×Operand)} {s:List (Nat×Opd)},bParts1 cx l s=true→okParts1 cx l s
  | [],[],_=>trivial
  | (i,o)::r,(j,x)::s,h=>by
    simp only [bParts1,Bool.and_eq_true,beq_iff_eq] at h
    exact ⟨h.1.1,bOpd_ok h.1.2,bParts1_ok h.2⟩
  | [],_::_,h=>by cases h
  | _::_,[],h=>by cases h
def bParts (cx:Cx) (places:List (Nat×Nat)):List (Nat×Operand)→List (Nat×Nat×Opd)→Bool
  | [],[]=>true
  | (i,o)::r,(off,sz,x)::s=>decide (places[i]? = some (off,sz)) && bOpd cx o x && bParts cx places r s
  | _,_=>false
theorem bParts_ok {cx:Cx} {places:List (Nat×Nat)}:∀ {l:List (Nat×Operand)} {s:List (Nat×Nat×Opd)},bParts cx places l s=true→okParts cx (places.toArray[·]?) l s
  | [],[],_=>trivial
  | (i,o)::r,(off,sz,x)::s,h=>by
    simp only [bParts,Bool.and_eq_true,decide_eq_true_eq] at h
    exact ⟨by simpa using h.1.1,bOpd_ok h.1.2,bParts_ok h.2⟩
  | [],_::_,h=>by cases h
  | _::_,[],h=>by cases h
def bOpds (cx:Cx):List Operand→List Opd→Bool
  | [],[]=>true
  | o::os,x::xs=>bOpd cx o x && bOpds cx os xs
  | _,_=>false
theorem bOpds_ok {cx:Cx}:∀ {os:List Operand} {xs:List Opd},bOpds cx os xs=true→xs.length=os.length∧∀ (i:Nat) (x:Opd) (y:Operand),xs[i]? = some x→os[i]? = some y→okOpd cx y x
  | [],[],_=>⟨rfl,by simp⟩
  | o::os,x::xs,h=>by
    simp only [bOpds,Bool.and_eq_true] at h
    obtain ⟨h1,h2⟩:=bOpds_ok h.2
    refine ⟨by simp [h1],fun i x' y hx hy=>?_⟩
    cases i with
    | zero=>simp at hx hy;subst hx hy;exact bOpd_ok h.1
    | succ i=>exact h2 i x' y (by simpa using hx) (by simpa using hy)
  | [],_::_,h=>by cases h
  | _::_,[],h=>by cases h
end Go.Idl
namespace Go.Idl
open Go
def bPartsA (cx:Cx) (size:Nat):List (Nat×Operand)→List (Nat×Nat×Opd)→Bool
  | [],[]=>true
  | (i,o)::r,(off,sz,x)::s=>off == i * size && sz == size && bOpd cx o x && bPartsA cx size r s
  | _,_=>false
theorem bPartsA_ok {cx:Cx} {size:Nat}:∀ {l:List (Nat×Operand)} {s:List (Nat×Nat×Opd)},bPartsA cx size l s=true→okParts cx (fun i=>some (i * size,size)) l s
  | [],[],_=>trivial
  | (i,o)::r,(off,sz,x)::s,h=>by
    simp only [bPartsA,Bool.and_eq_true,beq_iff_eq] at h
    obtain ⟨⟨⟨h1,h2⟩,h3⟩,h4⟩:=h
    subst h1 h2
    exact ⟨rfl,bOpd_ok h3,bPartsA_ok h4⟩
  | [],_::_,h=>by cases h
  | _::_,[],h=>by cases h
def bBuild (cx:Cx) (t:TypeId) (z:List Value) (rp:Array (Nat×Operand)) (parts:List (Nat×Nat×Opd)):Bool:=bZero cx.P t z && match cx.P.underlying t with
  | some (.struct fields)=>match fields.toList.mapM (fun f=>(cx.P.info? f.type).map fun i=>(f.offset,i.size)) with
    | some places=>bParts cx places rp.toList parts
    | none=>false
  | some (.array _ el)=>match cx.P.info? el with
    | some inf=>bPartsA cx inf.size rp.toList parts
    | none=>false
  | _=>false
def bField (P:Program) (t:TypeId) (i off sz:Nat) (ag:Bool):Bool:=match P.underlying t with
  | some (.struct fields)=>match fields[i]? with
    | some fd=>fd.offset == off && bSize P fd.type sz && bAgg P fd.type ag
    | none=>false
  | _=>false
theorem bField_ok {P t i off sz ag} (h:bField P t i off sz ag=true):fieldIs P t i off sz ag:=by
  unfold bField at h
  split at h
  · split at h
    · simp only [Bool.and_eq_true,beq_iff_eq] at h
      exact ⟨_,_,‹_›,‹_›,h.1.1,bSize_ok h.1.2,bAgg_ok h.2⟩
    · cases h
  · cases h
def bFieldA (P:Program) (t:TypeId) (i off:Nat):Bool:=match P.underlying t with
  | some (.struct fields)=>match fields[i]? with
    | some fd=>match P.info? fd.type with
      | some inf=>fd.offset == off && decide (0 < inf.size) && (P.underlying fd.type).isSome
      | none=>false
    | none=>false
  | _=>false
theorem bFieldA_ok {P t i off} (h:bFieldA P t i off=true):∃ sz ag,fieldIs P t i off sz ag∧0 < sz:=by
  unfold bFieldA at h
  split at h
  · split at h
    · split at h
      · rename_i inf hinf
        simp only [Bool.and_eq_true,beq_iff_eq,decide_eq_true_eq] at h
        obtain ⟨d,hd⟩:=Option.isSome_iff_exists.1 h.2
        exact ⟨inf.size,_,⟨_,_,‹_›,‹_›,h.1.1,⟨inf,hinf,rfl⟩,⟨d,hd,rfl⟩⟩,h.1.2⟩
      · cases h
    · cases h
  · cases h
def bArrA (P:Program) (t:TypeId) (i:Int) (off:Nat):Bool:=match P.underlying t with
  | some (.array n el)=>match P.info? el with
    | some inf=>decide (0≤i) && decide (i < n) && off == i.toNat * inf.size
    | none=>false
  | _=>false
theorem bArrA_ok {P t i off} (h:bArrA P t i off=true):∃ n el sz,P.underlying t=some (.array n el)∧sizeIs P el sz∧0≤i∧i < (n:Int)∧off=i.toNat * sz:=by
  unfold bArrA at h
  split at h
  · split at h
    · rename_i inf hinf
      simp only [Bool.and_eq_true,beq_iff_eq,decide_eq_true_eq] at h
      exact ⟨_,_,inf.size,‹_›,⟨inf,hinf,rfl⟩,h.1.1,h.1.2,h.2⟩
    · cases h
  · cases h
end Go.Idl
namespace Go.Idl
open Go
def bFieldsInt (P:Program):List Field→Nat→Bool
  | [],_=>true
  | f::fs,i=>f.name != "_" && f.offset == i && (match P.underlying f.type with | some (.int _)=>true | _=>false) && bFieldsInt P fs (i+1)
theorem bFieldsInt_ok {P:Program}:∀ {fs:List Field} {i:Nat},bFieldsInt P fs i=true→fieldsInt P fs i
  | [],_,_=>trivial
  | f::fs,i,h=>by
    simp only [bFieldsInt,Bool.and_eq_true,bne_iff_ne,ne_eq,beq_iff_eq] at h
    obtain ⟨⟨⟨h1,h2⟩,h3⟩,h4⟩:=h
    refine ⟨h1,h2,?_,bFieldsInt_ok h4⟩
    split at h3
    · exact ⟨_,‹_›⟩
    · cases h3
def bEqa (P:Program) (t:TypeId) (n:Nat):Bool:=(match P.underlying t with
  | some (.struct fs)=>bFieldsInt P fs.toList 0 && fs.size == n
  | _=>false) && !P.stoodInHeld t && !P.eqGuardType P.depth t
theorem bEqa_ok {P t n} (h:bEqa P t n=true):eqaIs P t n:=by
  unfold bEqa at h
  simp only [Bool.and_eq_true,Bool.not_eq_true'] at h
  obtain ⟨⟨h1,h2⟩,h3⟩:=h
  split at h1
  · simp only [Bool.and_eq_true,beq_iff_eq] at h1
    exact ⟨_,‹_›,bFieldsInt_ok h1.1,h1.2,h2,h3⟩
  · cases h1
end Go.Idl
namespace Go.Idl
open Go
def isSliceOf (P:Program) (t:TypeId) (k:TypeId→Bool):Bool:=match P.underlying t with
  | some (.slice e)=>k e
  | _=>false
def isStr (P:Program) (t:TypeId):Bool:=match P.underlying t with
  | some .string=>true
  | _=>false
def isIntT (P:Program) (t:TypeId):Bool:=match P.underlying t with
  | some (.int _)=>true
  | _=>false
def bOp (cx:Cx) (o:Oper):K→Bool
  | .mv x | .mvo _ x | .asg x | .asgm x | .asgf x=>match o.op with
    | .move y | .assign y=>bOpd cx y x
    | _=>false
  | .nilo _=>match o.op with
    | .move (.const v) | .assign (.const v)=>vEq v (.slice none 0 0)
    | _=>false
  | .clr x z | .clrs x z=>match o.op with
    | .call ⟨.builtin .clear,⟨[x']⟩,⟨[t]⟩⟩=>(isSliceOf cx.P t fun el=>bZero cx.P el z) && bOpd cx x' x
    | _=>false
  | .pick c a b=>match o.op with
    | .pick c' a' b'=>bOpd cx c' c && bOpd cx a' a && bOpd cx b' b
    | _=>false
  | .alloc z=>match o.op with
    | .alloc t=>bZero cx.P t z
    | _=>false
  | .box x=>match o.op with
    | .box _ y=>bOpd cx y x
    | _=>false
  | .build z parts=>match o.op with
    | .build t rp=>bBuild cx t z rp parts
    | _=>false
  | .bsl e z len parts | .bsls e z len parts=>match o.op with
    | .buildSlice t len' rp=>len == len' && isSliceOf cx.P t fun el=>bZero cx.P el z && bSize cx.P el e && z.length == e && decide (len * e≤16777216) && bParts1 cx rp.toList parts
    | _=>false
  | .load ag sz a | .loadf ag sz a=>match o.op with
    | .load t y=>bSize cx.P t sz && bAgg cx.P t ag && bOpd cx y a
    | _=>false
  | .storef sz a x=>match o.op with
    | .store t a' x'=>bSize cx.P t sz && bOpd cx a' a && bOpd cx x' x
    | _=>false
  | .store sz a x=>match o.op with
    | .store t a' x'=>bSize cx.P t sz && bOpd cx a' a && bOpd cx x' x
    | _=>false
  | .nilck x=>match o.op with
    | .nilCheck y=>bOpd cx y x
    | _=>false
  | .bin op x y=>match o.op with
    | .binOp op' _ x' y' _=>decide (op=op') && bOpd cx x' x && bOpd cx y' y
    | _=>false
  | .eqa neg n x y=>match o.op with
    | .binOp op' t x' y' _=>decide (op'=if neg then .neq else .eql) && bEqa cx.P t n && bOpd cx x' x && bOpd cx y' y
    | _=>false
  | .eqb neg x y=>match o.op with
    | .binOp op' t x' y' _=>decide (op'=if neg then .neq else .eql) && (match cx.P.underlying t with | some .bool=>true | _=>false) && bOpd cx x' x && bOpd cx y' y
    | _=>false
  | .unop op x=>match o.op with
    | .unOp op' _ x'=>decide (op=op') && bOpd cx x' x
    | _=>false
  | .strb x=>match o.op with
    | .convert s d x'=>(isSliceOf cx.P s fun el=>match cx.P.underlying el with | some (.int .u8)=>true | _=>false) && isStr cx.P d && bOpd cx x' x
    | _=>false
  | .conv k x=>match o.op with
    | .convert s d x'=>(cx.P.underlying s).isSome && (match cx.P.underlying d with | some (.int k')=>decide (k=k') | _=>false) && bOpd cx x' x
    | _=>false
  | .mkfn f caps=>match o.op with
    | .makeFunc (.func g) first caps'=>cx.fid f == g && first.isEmpty && bOpds cx caps'.toList caps
    | _=>false
  | .mksl e z l c=>match o.op with
    | .makeSlice t l' c'=>(isSliceOf cx.P t fun el=>bZero cx.P el z && bSize cx.P el e && z.length == e && (match cx.P.info? el with | some i=>decide (i.bytes≤1024) | none=>false)) && bOpd cx l' l && bOpd cx c' c
    | _=>false
  | .slc e x lo hi mx=>match o.op with
    | .slice t x' lo' hi' mx'=>(isSliceOf cx.P t fun el=>bSize cx.P el e) && bOpd cx x' x && bOpdO cx lo' lo && bOpdO cx hi' hi && bOpdO cx mx' mx && (!mx.isSome || hi.isSome)
    | _=>false
  | .slcb e x lo hi=>match o.op with
    | .slice t x' lo' hi' none=>(isSliceOf cx.P t fun el=>bSize cx.P el e) && bOpd cx x' x && bOpdO cx lo' lo && bOpdO cx hi' hi
    | _=>false
  | .slcs x lo hi=>match o.op with
    | .slice t x' lo' hi' none=>isStr cx.P t && bOpd cx x' x && bOpdO cx lo' lo && bOpdO cx hi' hi
    | _=>false
  | .fadr off x=>match o.op with
    | .fieldAddr t x' i=>bFieldA cx.P t i off && bOpd cx x' x
    | .indexAddr t x' (.const (.int _ i))=>bArrA cx.P t i off && bOpd cx x' x
    | _=>false
  | .fld ag off sz x=>match o.op with
    | .field t x' i=>bField cx.P t i off sz ag && bOpd cx x' x
    | _=>false
  | .iadr e x i=>match o.op with
    | .indexAddr t x' i'=>(isSliceOf cx.P t fun el=>bSize cx.P el e) && bOpd cx x' x && bOpd cx i' i
    | _=>false
  | .idxs x i=>match o.op with
    | .index t x' i'=>isStr cx.P t && bOpd cx x' x && bOpd cx i' i
    | _=>false
  | .extr x i=>match o.op with
    | .extract x' j=>i == j && bOpd cx x' x
    | _=>false
  | .call f args _=>match o.op with
    | .call c=>match c.callee with
      | .value (.func g)=>cx.fid f == g && bArgs cx args c.args.toList
      | _=>false
    | _=>false
  | .callq f args | .callh f args=>match o.op with
    | .call c=>match c.callee with
      | .value (.func g)=>cx.fid f == g && bArgs cx args c.args.toList
      | _=>false
    | _=>false
  | .callp f x=>match o.op with
    | .call c=>match c.callee with
      | .value (.func g)=>cx.fid f == g && (match c.args.toList with | [x']=>bOpd cx x' x | _=>false)
      | _=>false
    | _=>false
  | .callm f x k | .callz f x k=>match o.op with
    | .call c=>match c.callee with
      | .value (.func g)=>cx.fid f == g && (match c.args.toList with | [x',k']=>bOpd cx x' x && bOpd cx k' k | _=>false)
      | _=>false
    | _=>false
  | .callv f args=>match o.op with
    | .call c=>match c.callee with
      | .value y=>bOpd cx y f && bArgs cx args c.args.toList
      | _=>false
    | _=>false
  | .len x=>match o.op with
    | .call ⟨.builtin .len,⟨[x']⟩,⟨[t]⟩⟩=>(isSliceOf cx.P t fun _=>true) && bOpd cx x' x
    | _=>false
  | .capn x=>match o.op with
    | .call ⟨.builtin .cap,⟨[x']⟩,⟨[t]⟩⟩=>(isSliceOf cx.P t fun _=>true) && bOpd cx x' x
    | _=>false
  | .lens x=>match o.op with
    | .call ⟨.builtin .len,⟨[x']⟩,⟨[t]⟩⟩=>isStr cx.P t && bOpd cx x' x
    | _=>false
  | .app e x y | .appi e x y=>match o.op with
    | .call ⟨.builtin .append,⟨[x',y']⟩,⟨[t,t']⟩⟩=>(isSliceOf cx.P t fun el=>match cx.P.info? el with
        | some i=>i.size == e && decide (i.bytes≤256) && (match i.zero with | some z=>z.cells.size == i.size | none=>false)
        | none=>false) && (isSliceOf cx.P t' fun _=>true) && bOpd cx x' x && bOpd cx y' y
    | _=>false
  | .appz zs x y=>match o.op with
    | .call ⟨.builtin .append,⟨[x',y']⟩,⟨[t,t']⟩⟩=>(isSliceOf cx.P t fun el=>match cx.P.info? el with
        | some i=>i.size == 1 && decide (i.bytes≤256) && bZero cx.P el zs
        | none=>false) && isIntT cx.P t' && bOpd cx x' x && bOpd cx y' y
    | _=>false
  | .minmax mn x y=>match o.op with
    | .call ⟨.builtin b,⟨[x',y']⟩,_⟩=>(match mn,b with | true,.min=>true | false,.max=>true | _,_=>false) && bOpd cx x' x && bOpd cx y' y
    | _=>false
  | .halt=>true
end Go.Idl
namespace Go.Idl
open Go
inductive Cls where
  | reg | ld | oth
  deriving DecidableEq
def K.cls:K→Cls
  | .mv _ | .nilo _ | .pick .. | .nilck _ | .bin .. | .eqa .. | .eqb .. | .unop .. | .conv .. | .mkfn .. | .slc .. | .slcs .. | .fadr .. | .fld .. | .iadr .. | .idxs .. | .len _ | .lens _ | .capn _ | .minmax ..=>.reg
  | .load .. | .strb _=>.ld
  | _=>.oth
def OpRes (cx:Cx) (w:World) (F:Nat→Prop) (ρ:Rho) (fp:Fp) (X:List Nat) (st:St) (a:Act) (o:Oper) (v:IV) (st':St):Cls→Prop
  | .reg=>OpQ cx w F ρ fp X st a o v st'
  | .ld=>OpL cx w F ρ fp X st a o v st'
  | .oth=>OpOut cx w F ρ fp X st a o v st' ∨ CallOut cx w F ρ fp X st a o v st'
section
variable {cx:Cx} {w:World} {F:Nat→Prop} {ρ:Rho} {fp:Fp} {X:List Nat} {st st':St} {a:Act} {o:Oper} {v:IV} {cf:CF}
theorem isSliceOf_ok {P:Program} {t:TypeId} {k:TypeId→Bool} (h:isSliceOf P t k=true):∃ e,P.underlying t=some (.slice e)∧k e=true:=by
  unfold isSliceOf at h;split at h
  · exact ⟨_,‹_›,h⟩
  · cases h
theorem isStr_ok {P:Program} {t:TypeId} (h:isStr P t=true):P.underlying t=some .string:=by
  unfold isStr at h;split at h
  · assumption
  · cases h
theorem res_mv (h:Rel cx w F ρ fp X st (regs a)) {x:Opd} (hb:bOp cx o (.mv x)=true) (hev:ev cf st (.mv x)=some (v,st')):OpQ cx w F ρ fp X st a o v st':=by
  simp only [ev,Option.some.injEq,Prod.mk.injEq] at hev
  obtain ⟨rfl,rfl⟩:=hev
  simp only [bOp] at hb
  split at hb
  · exact out_mv h (bOpd_ok hb) (.inl ‹_›)
  · exact out_mv h (bOpd_ok hb) (.inr ‹_›)
  · cases hb
theorem res_nilo (h:Rel cx w F ρ fp X st (regs a)) {e:Nat} (hb:bOp cx o (.nilo e)=true) (hev:ev cf st (.nilo e)=some (v,st')):OpQ cx w F ρ fp X st a o v st':=by
  simp only [ev,Option.some.injEq,Prod.mk.injEq] at hev
  obtain ⟨rfl,rfl⟩:=hev
  have key:∀ u,vEq u (.slice none 0 0)=true→(o.op=.move (.const u) ∨ o.op=.assign (.const u))→OpQ cx w F ρ fp X st a o (.own e []) st:=by
    intro u hu ho
    have:=vEq_eq hu
    subst this
    refine OpQ.pure h (v':=.slice none 0 0) ?_ (.inr (.own0 .nil))
    intro w' _
    rcases ho with ho | ho <;> simp [execOp,ho,Act.eval]
  simp only [bOp] at hb
  split at hb
  · exact key _ hb (.inl ‹_›)
  · exact key _ hb (.inr ‹_›)
  · cases hb
theorem res_mvo (h:Rel cx w F ρ fp X st (regs a)) {e:Nat} {x:Opd} (hb:bOp cx o (.mvo e x)=true) (hev:ev cf st (.mvo e x)=some (v,st')):OpOut cx w F ρ fp X st a o v st':=by
  simp only [ev,Option.some.injEq,Prod.mk.injEq] at hev
  obtain ⟨rfl,rfl⟩:=hev
  have key:∀ y,okOpd cx y x→(o.op=.move y ∨ o.op=.assign y)→OpOut cx w F ρ fp X st a o (ownZ e (rd st.T x)) st:=by
    intro y hx ho
    have hr:=rd_rel h hx
    refine OpQ.out h (OpQ.pure h (v':=a.eval y) (fun w' _=>by rcases ho with ho | ho <;> simp [execOp,ho]) ?_)
    unfold ownZ
    split
    · rename_i e0 hq
      rw [hq] at hr
      rcases hr with ⟨hr,_⟩ | hr
      · exact hr.elim
      · obtain ⟨-,h1 | ⟨b,o',cap,C,ty,fr,h8,hF,hb,hd,he,hc,hn⟩⟩:=hr.lst_inv
        · obtain ⟨-,A,cap,h2,h3⟩:=h1
          rw [h2,h3 rfl]
          exact .inr (.own0 .nil)
        · have:=hc rfl
          simp only [List.length_nil] at this h8
          rw [h8,this]
          exact .inr (.own0 .nil)
    · exact hr
  simp only [bOp] at hb
  split at hb
  · exact key _ (bOpd_ok hb) (.inl ‹_›)
  · exact key _ (bOpd_ok hb) (.inr ‹_›)
  · cases hb
theorem res_asg (h:Rel cx w F ρ fp X st (regs a)) {x:Opd} (hb:bOp cx o (.asg x)=true) (hev:ev cf st (.asg x)=some (v,st')):OpOut cx w F ρ fp X st a o v st':=by
  simp only [ev,Option.some.injEq,Prod.mk.injEq] at hev
  obtain ⟨rfl,rfl⟩:=hev
  simp only [bOp] at hb
  split at hb
  · exact out_asg h (bOpd_ok hb) (.inl ‹_›)
  · exact out_asg h (bOpd_ok hb) (.inr ‹_›)
  · cases hb
theorem res_asgm (h:Rel cx w F ρ fp X st (regs a)) {x:Opd} (hb:bOp cx o (.asgm x)=true) (hev:ev cf st (.asgm x)=some (v,st')):OpOut cx w F ρ fp X st a o v st':=by
  simp only [bOp] at hb
  split at hb
  · exact out_asgm h (bOpd_ok hb) (.inl ‹_›) hev
  · exact out_asgm h (bOpd_ok hb) (.inr ‹_›) hev
  · cases hb
theorem res_pick (h:Rel cx w F ρ fp X st (regs a)) {c x y:Opd} (hb:bOp cx o (.pick c x y)=true) (hev:ev cf st (.pick c x y)=some (v,st')):OpQ cx w F ρ fp X st a o v st':=by
  simp only [ev] at hev
  split at hev
  · rename_i t ht
    simp only [Option.some.injEq,Prod.mk.injEq] at hev
    obtain ⟨rfl,rfl⟩:=hev
    simp only [bOp] at hb
    split at hb
    · simp only [Bool.and_eq_true] at hb
      exact out_pick h (bOpd_ok hb.1.1) (bOpd_ok hb.1.2) (bOpd_ok hb.2) ‹_› ht
    · cases hb
  · cases hev
theorem res_nilck (h:Rel cx w F ρ fp X st (regs a)) {x:Opd} (hb:bOp cx o (.nilck x)=true) (hev:ev cf st (.nilck x)=some (v,st')):OpQ cx w F ρ fp X st a o v st':=by
  simp only [bOp] at hb
  split at hb
  · rename_i y ho
    simp only [ev] at hev
    split at hev
    · rename_i hX
      simp only [Option.some.injEq,Prod.mk.injEq] at hev
      obtain ⟨rfl,rfl⟩:=hev
      rw [← hX];exact out_nilck h (bOpd_ok hb) ho (.inl ⟨_,_,_,hX⟩)
    · rename_i hX
      simp only [Option.some.injEq,Prod.mk.injEq] at hev
      obtain ⟨rfl,rfl⟩:=hev
      rw [← hX];exact out_nilck h (bOpd_ok hb) ho (.inr (.inl ⟨_,_,_,_,_,hX⟩))
    · rename_i hX
      simp only [Option.some.injEq,Prod.mk.injEq] at hev
      obtain ⟨rfl,rfl⟩:=hev
      rw [← hX];exact out_nilck h (bOpd_ok hb) ho (.inr (.inr ⟨_,_,hX⟩))
    · cases hev
  · cases hb
theorem res_bin (h:Rel cx w F ρ fp X st (regs a)) {op:BinOp} {x y:Opd} (hb:bOp cx o (.bin op x y)=true) (hev:ev cf st (.bin op x y)=some (v,st')):OpQ cx w F ρ fp X st a o v st':=by
  simp only [bOp] at hb
  split at hb
  · simp only [Bool.and_eq_true,decide_eq_true_eq] at hb
    obtain ⟨⟨rfl,h1⟩,h2⟩:=hb
    simp only [ev] at hev
    split at hev
    · simp only [Option.some.injEq,Prod.mk.injEq] at hev
      obtain ⟨rfl,rfl⟩:=hev
      exact out_bin h (bOpd_ok h1) (bOpd_ok h2) ‹_› ‹_›
    · cases hev
  · cases hb
theorem res_eqa (h:Rel cx w F ρ fp X st (regs a)) {neg:Bool} {n:Nat} {x y:Opd} (hb:bOp cx o (.eqa neg n x y)=true) (hev:ev cf st (.eqa neg n x y)=some (v,st')):OpQ cx w F ρ fp X st a o v st':=by
  simp only [bOp] at hb
  split at hb
  · simp only [Bool.and_eq_true,decide_eq_true_eq] at hb
    obtain ⟨⟨⟨rfl,ht⟩,h1⟩,h2⟩:=hb
    exact out_eqa h (bOpd_ok h1) (bOpd_ok h2) ‹_› (bEqa_ok ht) hev
  · cases hb
theorem res_eqb (h:Rel cx w F ρ fp X st (regs a)) {neg:Bool} {x y:Opd} (hb:bOp cx o (.eqb neg x y)=true) (hev:ev cf st (.eqb neg x y)=some (v,st')):OpQ cx w F ρ fp X st a o v st':=by
  simp only [bOp] at hb
  split at hb
  · simp only [Bool.and_eq_true,decide_eq_true_eq] at hb
    obtain ⟨⟨⟨rfl,ht⟩,h1⟩,h2⟩:=hb
    simp only [ev] at hev
    split at hev
    · rename_i hx hy
      simp only [Option.some.injEq,Prod.mk.injEq] at hev
      obtain ⟨rfl,rfl⟩:=hev
      split at ht
      · exact out_eqb h (bOpd_ok h1) (bOpd_ok h2) ‹_› ‹_› hx hy
      · cases ht
    · cases hev
  · cases hb
theorem res_unop (h:Rel cx w F ρ fp X st (regs a)) {op:UnOp} {x:Opd} (hb:bOp cx o (.unop op x)=true) (hev:ev cf st (.unop op x)=some (v,st')):OpQ cx w F ρ fp X st a o v st':=by
  simp only [bOp] at hb
  split at hb
  · simp only [Bool.and_eq_true,decide_eq_true_eq] at hb
    obtain ⟨rfl,h1⟩:=hb
    simp only [ev] at hev
    split at hev
    · rename_i u hu
      split at hev
      · rename_i z hz
        split at hev
        · rename_i hs
          simp only [Option.some.injEq,Prod.mk.injEq] at hev
          obtain ⟨rfl,rfl⟩:=hev
          exact out_unop h (bOpd_ok h1) ‹_› hu hz hs
        · cases hev
      · cases hev
    · cases hev
  · cases hb
theorem res_conv (h:Rel cx w F ρ fp X st (regs a)) {k:IntKind} {x:Opd} (hb:bOp cx o (.conv k x)=true) (hev:ev cf st (.conv k x)=some (v,st')):OpQ cx w F ρ fp X st a o v st':=by
  simp only [bOp] at hb
  split at hb
  · simp only [Bool.and_eq_true] at hb
    obtain ⟨⟨h0,h1⟩,h2⟩:=hb
    simp only [ev] at hev
    split at hev
    · rename_i hn
      simp only [Option.some.injEq,Prod.mk.injEq] at hev
      obtain ⟨rfl,rfl⟩:=hev
      split at h1
      · rename_i k' hk
        simp only [decide_eq_true_eq] at h1
        subst h1
        exact out_conv h (bOpd_ok h2) ‹_› h0 hk hn
      · cases h1
    · cases hev
  · cases hb
theorem res_mkfn (h:Rel cx w F ρ fp X st (regs a)) {f:Lab} {caps:List Opd} (hb:bOp cx o (.mkfn f caps)=true) (hev:ev cf st (.mkfn f caps)=some (v,st')):OpQ cx w F ρ fp X st a o v st':=by
  simp only [bOp] at hb
  split at hb
  · rename_i g first caps' ho
    simp only [Bool.and_eq_true,beq_iff_eq] at hb
    obtain ⟨⟨hg,hf⟩,hc⟩:=hb
    subst hg
    have hf':first=#[]:=by simpa using hf
    subst hf'
    obtain ⟨h1,h2⟩:=bOpds_ok hc
    exact out_mkfn h ⟨by simpa using h1,fun i x y hx hy=>h2 i x y hx (by simpa using hy)⟩ ho hev
  · cases hb
theorem res_slc (h:Rel cx w F ρ fp X st (regs a)) {e:Nat} {x:Opd} {lo hi mx:Option Opd} (hb:bOp cx o (.slc e x lo hi mx)=true) (hev:ev cf st (.slc e x lo hi mx)=some (v,st')):OpQ cx w F ρ fp X st a o v st':=by
  simp only [bOp] at hb
  split at hb
  · simp only [Bool.and_eq_true,Bool.or_eq_true,Bool.not_eq_true'] at hb
    obtain ⟨⟨⟨⟨⟨ht,h1⟩,h2⟩,h3⟩,h4⟩,h5⟩:=hb
    obtain ⟨el,hel,hsz⟩:=isSliceOf_ok ht
    exact out_slc h (bOpd_ok h1) (bOpdO_ok h2) (bOpdO_ok h3) (bOpdO_ok h4) hel (bSize_ok hsz) (fun hm=>h5.elim (fun h=>by rw [hm] at h;cases h) id) ‹_› hev
  · cases hb
theorem res_slcs (h:Rel cx w F ρ fp X st (regs a)) {x:Opd} {lo hi:Option Opd} (hb:bOp cx o (.slcs x lo hi)=true) (hev:ev cf st (.slcs x lo hi)=some (v,st')):OpQ cx w F ρ fp X st a o v st':=by
  simp only [bOp] at hb
  split at hb
  · simp only [Bool.and_eq_true] at hb
    obtain ⟨⟨⟨ht,h1⟩,h2⟩,h3⟩:=hb
    exact out_slcs h (bOpd_ok h1) (bOpdO_ok h2) (bOpdO_ok h3) (isStr_ok ht) ‹_› hev
  · cases hb
theorem res_fadr (h:Rel cx w F ρ fp X st (regs a)) {off:Nat} {x:Opd} (hb:bOp cx o (.fadr off x)=true) (hev:ev cf st (.fadr off x)=some (v,st')):OpQ cx w F ρ fp X st a o v st':=by
  simp only [bOp] at hb
  split at hb
  · simp only [Bool.and_eq_true] at hb
    obtain ⟨sz,ag,hf,hsz⟩:=bFieldA_ok hb.1
    exact out_fadr h (bOpd_ok hb.2) hf hsz ‹_› hev
  · simp only [Bool.and_eq_true] at hb
    obtain ⟨n,el,sz,h1,h2,h3,h4,h5⟩:=bArrA_ok hb.1
    exact out_fadrA h (bOpd_ok hb.2) h1 h2 h3 h4 h5 ‹_› hev
  · cases hb
theorem res_fld (h:Rel cx w F ρ fp X st (regs a)) {ag:Bool} {off sz:Nat} {x:Opd} (hb:bOp cx o (.fld ag off sz x)=true) (hev:ev cf st (.fld ag off sz x)=some (v,st')):OpQ cx w F ρ fp X st a o v st':=by
  simp only [bOp] at hb
  split at hb
  · simp only [Bool.and_eq_true] at hb
    exact out_fld h (bOpd_ok hb.2) (bField_ok hb.1) ‹_› hev
  · cases hb
theorem res_iadr (h:Rel cx w F ρ fp X st (regs a)) {e:Nat} {x i:Opd} (hb:bOp cx o (.iadr e x i)=true) (hev:ev cf st (.iadr e x i)=some (v,st')):OpQ cx w F ρ fp X st a o v st':=by
  simp only [bOp] at hb
  split at hb
  · simp only [Bool.and_eq_true] at hb
    obtain ⟨⟨ht,h1⟩,h2⟩:=hb
    obtain ⟨el,hel,hsz⟩:=isSliceOf_ok ht
    exact out_iadr h (bOpd_ok h1) (bOpd_ok h2) hel (bSize_ok hsz) ‹_› hev
  · cases hb
theorem res_idxs (h:Rel cx w F ρ fp X st (regs a)) {x i:Opd} (hb:bOp cx o (.idxs x i)=true) (hev:ev cf st (.idxs x i)=some (v,st')):OpQ cx w F ρ fp X st a o v st':=by
  simp only [bOp] at hb
  split at hb
  · simp only [Bool.and_eq_true] at hb
    obtain ⟨⟨ht,h1⟩,h2⟩:=hb
    exact out_idxs h (bOpd_ok h1) (bOpd_ok h2) (isStr_ok ht) ‹_› hev
  · cases hb
theorem res_load (h:Rel cx w F ρ fp X st (regs a)) {ag:Bool} {sz:Nat} {x:Opd} (hb:bOp cx o (.load ag sz x)=true) (hev:ev cf st (.load ag sz x)=some (v,st')):OpL cx w F ρ fp X st a o v st':=by
  simp only [bOp] at hb
  split at hb
  · simp only [Bool.and_eq_true] at hb
    exact out_load h (bOpd_ok hb.2) (bSize_ok hb.1.1) (bAgg_ok hb.1.2) ‹_› hev
  · cases hb
theorem res_len (h:Rel cx w F ρ fp X st (regs a)) {x:Opd} (hb:bOp cx o (.len x)=true) (hev:ev cf st (.len x)=some (v,st')):OpQ cx w F ρ fp X st a o v st':=by
  simp only [bOp] at hb
  split at hb
  · simp only [Bool.and_eq_true] at hb
    obtain ⟨el,hel,-⟩:=isSliceOf_ok hb.1
    exact out_len h (bOpd_ok hb.2) hel ‹_› hev
  · cases hb
theorem res_capn (h:Rel cx w F ρ fp X st (regs a)) {x:Opd} (hb:bOp cx o (.capn x)=true) (hev:ev cf st (.capn x)=some (v,st')):OpQ cx w F ρ fp X st a o v st':=by
  simp only [bOp] at hb
  split at hb
  · simp only [Bool.and_eq_true] at hb
    obtain ⟨el,hel,-⟩:=isSliceOf_ok hb.1
    exact out_capn h (bOpd_ok hb.2) hel ‹_› hev
  · cases hb
theorem res_lens (h:Rel cx w F ρ fp X st (regs a)) {x:Opd} (hb:bOp cx o (.lens x)=true) (hev:ev cf st (.lens x)=some (v,st')):OpQ cx w F ρ fp X st a o v st':=by
  simp only [bOp] at hb
  split at hb
  · simp only [Bool.and_eq_true] at hb
    exact out_lens h (bOpd_ok hb.2) (isStr_ok hb.1) ‹_› hev
  · cases hb
theorem res_minmax (h:Rel cx w F ρ fp X st (regs a)) {mn:Bool} {x y:Opd} (hb:bOp cx o (.minmax mn x y)=true) (hev:ev cf st (.minmax mn x y)=some (v,st')):OpQ cx w F ρ fp X st a o v st':=by
  simp only [bOp] at hb
  split at hb
  · rename_i b x' y' ts ho
    simp only [Bool.and_eq_true] at hb
    obtain ⟨⟨hm,h1⟩,h2⟩:=hb
    refine out_minmax (ts:=ts) h (bOpd_ok h1) (bOpd_ok h2) ?_ hev
    rw [ho]
    split at hm
    · rfl
    · rfl
    · cases hm
  · cases hb
end
end Go.Idl
namespace Go.Idl
open Go
theorem flat_take {e:Nat}:∀ {es:List (List IV)} (_:∀ x ∈ es,x.length=e) (k:Nat),(es.take k).flatten=es.flatten.take (k * e)
  | [],_,k=>by simp
  | x::r,h,0=>by simp
  | x::r,h,k+1=>by
    have hx:=h x (by simp)
    have h1:=List.take_length_add_append (l₁:=x) (l₂:=r.flatten) (k * e)
    rw [hx] at h1
    rw [List.take_succ_cons,List.flatten_cons,List.flatten_cons,flat_take (fun y hy=>h y (by simp [hy])) k,show (k+1) * e=e+k * e by rw [Nat.succ_mul];omega,h1]
theorem flat_drop {e:Nat}:∀ {es:List (List IV)} (_:∀ x ∈ es,x.length=e) (k:Nat),(es.drop k).flatten=es.flatten.drop (k * e)
  | [],_,k=>by simp
  | x::r,h,0=>by simp
  | x::r,h,k+1=>by
    have hx:=h x (by simp)
    have h1:=List.drop_length_add_append (l₁:=x) (l₂:=r.flatten) (k * e)
    rw [hx] at h1
    rw [List.drop_succ_cons,List.flatten_cons,flat_drop (fun y hy=>h y (by simp [hy])) k,show (k+1) * e=e+k * e by rw [Nat.succ_mul];omega,h1]
theorem rds_sc {w:World} {F:Nat→Prop}:∀ {xs:List IV} {vs:List Value} {f:List Nat},RDs w F xs vs f→(xs.all IV.isSc)=true→f=[]∧xs=vs.map .sc∧vs.all Idl.isSc=true
  | [],vs,f,h,_=>by cases h;exact ⟨rfl,rfl,rfl⟩
  | x::xs,vs,f,h,hs=>by
    simp only [List.all_cons,Bool.and_eq_true] at hs
    obtain ⟨ha,hb⟩:=hs
    cases x <;> simp [IV.isSc] at ha
    cases h with
    | sc h1 t =>
      obtain ⟨r1,r2,r3⟩:=rds_sc t hb
      exact ⟨r1,by rw [r2];rfl,by simp [h1,r3]⟩
theorem sc_rds {w:World} {F:Nat→Prop}:∀ {vs:List Value},vs.all Idl.isSc=true→RDs w F (vs.map .sc) vs []
  | [],_=>.nil
  | v::vs,h=>by
    simp only [List.all_cons,Bool.and_eq_true] at h
    exact .sc h.1 (sc_rds h.2)
theorem zeroCells_list (z:Array Value) (n:Nat):(Builtin.zeroCells z n).toList=(List.replicate n z.toList).flatten:=by
  unfold Builtin.zeroCells
  rw [Array.toList_map,Array.toList_range]
  induction n with
  | zero=>simp
  | succ n ih =>
    rw [List.replicate_succ',List.flatten_append,← ih,Nat.succ_mul,List.range_add,List.map_append]
    congr 1
    rw [List.map_map]
    refine List.ext_getElem (by simp) fun i h1 h2=>?_
    simp only [List.length_map,List.length_range] at h1
    simp [Nat.mul_comm n,Nat.mul_add_mod,Nat.mod_eq_of_lt h1,h1]
theorem all_flat {p:IV→Bool} {es:List (List IV)}:es.flatten.all p=es.all (·.all p):=by
  induction es with
  | nil=>rfl
  | cons x r ih=>rw [List.flatten_cons,List.all_append,List.all_cons,ih]
section
variable {cx:Cx} {w w':World} {F F':Nat→Prop} {ρ ρ':Rho} {fp fp':Fp} {X f f' fy:List Nat} {st st':St} {a:Act} {o:Oper} {tm:Nat→Value} {v:IV}
theorem out_clr (h:Rel cx w F ρ fp X st (regs a)) {t elem:TypeId} {z:List Value} {x:Opd} {x':Operand} (hz:zeroIs cx.P elem z) (ht:cx.P.underlying t=some (.slice elem)) (hx:okOpd cx x' x)
    (ho:o.op=.call { callee:=.builtin .clear,args:=#[x'],argTypes:=#[t] }) {cf} (hev:ev cf st (.clr x z)=some (v,st')):OpOut cx w F ρ fp X st a o v st':=by
  simp only [ev] at hev
  split at hev
  rotate_left
  · cases hev
  rename_i r c p e0 off n cl hrd
  split at hev
  rotate_left
  · cases hev
  rename_i esz es hplc
  split at hev
  rotate_left
  · cases hev
  rename_i hcond
  obtain ⟨hoff,hzl,hall,hzs⟩:=hcond
  split at hev
  rotate_left
  · cases hev
  rename_i st2 hset
  simp only [Option.some.injEq,Prod.mk.injEq] at hev
  obtain ⟨rfl,rfl⟩:=hev
  have hr:=rd_rel h hx
  rw [hrd] at hr
  rcases hr with ⟨hr,_⟩ | hr
  rotate_left
  · cases hr
  obtain ⟨x0,v0,es',A,N,cap,A',cap',hlk,hfo,hon,hval,hn',hcc,hcl,haddr,_⟩:=hr
  have:=look_plc h hlk hfo
  rw [hplc] at this
  cases this
  obtain ⟨pre,g,post,hfp,hRn,hup⟩:=h.upd hlk hfo
  obtain ⟨zv,hz1,hz2⟩:=run_zeroValue hz w
  have fin:∀ (w2:World) (fp2:Fp),(Builtin.clear_ #[t] o.type #[a.eval x']).run cx.P w=.ok (.tuple #[]) w2→Rel cx w2 F ρ fp2 X { st2 with T:=killRt r st2.T } (regs a)→ShpLe st st2 →
      (∀ r,∀ b ∈ fp2 r,b ∈ fp r)→w.heap.size≤w2.heap.size→(∀ b,(∀ r,b ∉ fp r)→w2.heap[b]? = w.heap[b]?)→Env w w2→OpOut cx w F ρ fp X st a o (.tup []) { st2 with T:=killRt r st2.T }:=by
    intro w2 fp2 hrun hR hS hsub hsz hkeep henv
    refine ⟨.tuple #[],w2,F,ρ,fp2,[],.inl ?_,hR,⟨#[],rfl,.nil⟩,⟨hsz,fun b _ hb _=>hkeep b hb,fun r b hb=>.inl ⟨r,hsub r b hb⟩,fun b hb=>.inr (.inl (by simpa using hb)),fun _ h=>h,fun _ h=>.inl h,fun _ _ _=>rfl,henv⟩,⟨hS.M,hS.loc⟩⟩
    simp only [execOp,ho,resolve]
    simp [invoke,builtin,hrun]
  have hpk:KillOK (IV.rooted r):=.rooted r
  have hgX:∀ b ∈ g,b ∉ X:=fun b hb=>h.xdisj r b (by rw [hfp];simp [hb])
  have hgF:∀ b ∈ g,¬ F b:=fun b hb=>h.notF r b (by rw [hfp];simp [hb])
  have hgn:g.Nodup:=by
    have:=h.nodup r;rw [hfp] at this
    exact (List.nodup_append.1 (List.nodup_append.1 this).2.1).1
  have hfp2:∀ q,∀ b ∈ updFp fp r (pre++(g++post)) q,b ∈ fp q:=fun q b hb=>by
    unfold updFp at hb
    split at hb
    · rename_i hq;rw [hq,hfp];exact hb
    · exact hb
  rcases Nat.eq_zero_or_pos n with h0 | h0
  ·
    subst h0
    have hsame:es.take off++elemsOf z 0++es.drop (off+0)=es:=by simp [elemsOf,List.take_append_drop]
    rw [hsame] at hset
    obtain ⟨st3,k1,k2,k3,-⟩:=hup (w':=w) (F':=F) (y:=.own e0 es) (g':=g) (X':=X) (pk:=IV.rooted r) ⟨Nat.le_refl _,fun _ _ _=>rfl,fun _ h=>h,fun _ h=>.inl h,hRn,fun b hb=>.inl hb,hgn,hgF,h.xnodup,fun b hb=>⟨.inl hb,fun hm=>hgX b hm hb⟩,h.xF⟩ hpk (.inl ⟨_,_,rfl⟩) (.inl fun _ h=>h)
    rw [hset] at k1
    cases k1
    refine fin w _ ?_ k3 k2 hfp2 (Nat.le_refl _) (fun _ _=>rfl) (.refl w)
    rw [hval]
    cases A' <;> simp [Builtin.clear_,run_underlying ht]
  · have hcp:0 < cap':=by omega
    obtain ⟨b,o1,rfl,rfl⟩:=haddr hcp
    rcases hRn.own_inv with ⟨h8,_⟩ | ⟨b1,o2,cap1,C,ty,fp1,h8,hg,hb,hd,he,hnn,hoC⟩
    · subst h8;simp at hoff;omega
    simp only [Value.slice.injEq,Option.some.injEq,Addr.mk.injEq,and_true] at h8
    obtain ⟨⟨rfl,rfl⟩,rfl,rfl⟩:=h8
    obtain ⟨hf1,hfl,hvs⟩:=rds_sc hd (by rw [all_flat];exact hall)
    subst hf1
    have hCl:C.toList.length=C.size:=Array.length_toList
    have hcap:es.length * e0≤cap * e0:=Nat.mul_le_mul_right _ hnn.1
    have hoe:off * e0+n * e0≤es.length * e0:=by rw [← Nat.add_mul];exact Nat.mul_le_mul_right _ hoff
    obtain ⟨Z,hZ⟩:∃ Z,Z=(List.replicate n z).flatten:=⟨_,rfl⟩
    have hZl:Z.length=n * e0:=by rw [hZ];simp [hzl]
    have hZs:Z.all Idl.isSc=true:=by
      rw [List.all_eq_true]
      intro u hu
      rw [hZ,List.mem_flatten] at hu
      obtain ⟨l,hl,hu⟩:=hu
      rw [List.eq_of_mem_replicate hl] at hu
      exact List.all_eq_true.1 hzs u hu
    have hz2':zv.cells.toList=z:=hz2
    have hZc:(Builtin.zeroCells zv.cells n).toList=Z:=by rw [zeroCells_list,hz2',hZ]
    have h1c:∀ u ∈ Z,u.oneCell'=true:=fun u hu=>by
      have:=List.all_eq_true.1 hZs u hu
      rcases isSc_cases this with ⟨_,_,rfl⟩ | ⟨_,rfl⟩ | ⟨_,rfl⟩ | rfl <;> rfl
    have hrun:=run_storeCells_at cx.P b (o1+off * e0) ty Z 0 C w hb (by omega) h1c
    obtain ⟨w2,hw2⟩:∃ w2,w2=w.setRow b (splice C.toList (o1+off * e0) Z).toArray:=⟨_,rfl⟩
    have q1:w2.heap[b]? = some (.cells (splice C.toList (o1+off * e0) Z).toArray ty (0,0)):=by rw [hw2];exact setRow_heap w _ C _ ty _ hb
    have q2:∀ k,k ≠ b→w2.heap[k]? = w.heap[k]?:=fun k hk=>by rw [hw2];exact setRow_other w _ k _ hk
    have q3:w2.heap.size=w.heap.size:=by rw [hw2];simp
    have hesl:(es.take off++elemsOf z n++es.drop (off+n)).length=es.length:=by simp [elemsOf];omega
    have he2:∀ y ∈ es.take off++elemsOf z n++es.drop (off+n),y.length=e0:=by
      intro y hy
      simp only [List.mem_append] at hy
      rcases hy with (hy | hy) | hy
      · exact he y (List.mem_of_mem_take hy)
      · rw [List.eq_of_mem_replicate hy];simp [hzl]
      · exact he y (List.mem_of_mem_drop hy)
    have hzsc:z.map cv1=z.map .sc:=List.map_congr_left fun u hu=>by
      have:=List.all_eq_true.1 hzs u hu
      rcases isSc_cases this with ⟨_,_,rfl⟩ | ⟨_,rfl⟩ | ⟨_,rfl⟩ | rfl <;> rfl
    have hfz:(elemsOf z n).flatten=Z.map .sc:=by
      rw [elemsOf,hzsc,hZ,List.map_flatten,List.map_replicate]
    have hVl:((C.toList.drop o1).take (es.length * e0)).length=es.length * e0:=by simp;omega
    have hflat:(es.take off++elemsOf z n++es.drop (off+n)).flatten=(splice ((C.toList.drop o1).take (es.length * e0)) (off * e0) Z).map .sc:=by
      rw [List.flatten_append,List.flatten_append,flat_take he,flat_drop he,hfz,hfl]
      unfold splice
      simp only [List.map_append,List.map_take,List.map_drop,hZl,Nat.add_mul]
    have hsp:((splice C.toList (o1+off * e0) Z).drop o1).take (es.length * e0)=splice ((C.toList.drop o1).take (es.length * e0)) (off * e0) Z:=splice_sub (by omega) (by omega)
    have hnew:RDs w2 F [.own e0 (es.take off++elemsOf z n++es.drop (off+n))] [.slice (some ⟨b,o1,none⟩) es.length cap] [b]:=by
      have h1:RDs w2 F (es.take off++elemsOf z n++es.drop (off+n)).flatten (((splice C.toList (o1+off * e0) Z).toArray.toList.drop o1).take ((es.take off++elemsOf z n++es.drop (off+n)).length * e0)) []:=by
        rw [hesl]
        simp only []
        rw [hsp,hflat]
        refine sc_rds ?_
        rw [List.all_eq_true]
        intro u hu
        unfold splice at hu
        simp only [List.mem_append] at hu
        rcases hu with (hu | hu) | hu
        · exact List.all_eq_true.1 hvs u (List.mem_of_mem_take hu)
        · exact List.all_eq_true.1 hZs u hu
        · exact List.all_eq_true.1 hvs u (List.mem_of_mem_drop hu)
      have:=RDs.own (w:=w2) (F:=F) (xs:=[]) (vs:=[]) (fp:=[]) (cap:=cap) (o:=o1) q1 h1 he2 (by rw [hesl];exact hnn) (by
        have:(splice C.toList (o1+off * e0) Z).length=C.toList.length:=splice_len (by omega)
        simp only [List.size_toArray];omega) .nil
      rw [hesl] at this
      simpa using this
    obtain ⟨st3,k1,k2,k3,-⟩:=hup (w':=w2) (F':=F) (g':=[b]) (X':=X) (pk:=IV.rooted r) ⟨by omega,fun k _ hk=>q2 k (fun hc=>hk (by rw [hg];simp [hc])),fun _ h=>h,fun _ h=>.inl h,hnew,fun k hk=>.inl (by rw [hg];exact hk),by simp,fun k hk=>hgF k (by rw [hg];exact hk),h.xnodup,fun k hk=>⟨.inl hk,fun hm=>hgX k (by rw [hg];exact hm) hk⟩,h.xF⟩ hpk (.inl ⟨_,_,rfl⟩) (.inl fun _ h=>h)
    rw [hset] at k1
    cases k1
    have hg':g=[b]:=hg
    rw [← hg'] at k3
    refine fin w2 _ ?_ k3 k2 hfp2 (by omega) (fun k hk=>q2 k (fun hc=>hk r (by rw [hfp,hg,hc];simp))) (by rw [hw2];exact ⟨rfl,rfl,rfl⟩)
    rw [hval]
    have hn0:n ≠ 0:=by omega
    obtain ⟨m,rfl⟩:∃ m,n=m+1:=⟨n - 1,by omega⟩
    simp only [Builtin.clear_]
    simp [run_underlying ht,hz1]
    rw [hZc,hrun]
    simp [hw2,splice]
end
end Go.Idl
namespace Go.Idl
open Go
section
variable {cx:Cx} {w w':World} {F F':Nat→Prop} {ρ ρ':Rho} {fp fp':Fp} {X f f' fy:List Nat} {st st':St} {a:Act} {o:Oper} {tm:Nat→Value} {v:IV}
theorem Rel.writeSc (h:Rel cx w F ρ fp X st tm) {r c p x0 v0 e es A N cap} (hl:look st tm ρ w r c=some (x0,v0)) (hf:folR w x0 v0 p=some (.own e es,.slice A N cap))
    (hs:es.all (·.all IV.isSc)=true) {Z:List Value} {zs:List (List IV)} {k n:Nat} (hz:Z.all Idl.isSc=true) (hzs:zs.flatten=Z.map .sc) (hzl:∀ z ∈ zs,z.length=e) (hn:zs.length=n) (h0:0 < n) (hk:k+n≤es.length) :
    ∃ b o C ty st' fp',A=some ⟨b,o,none⟩∧N=es.length∧w.heap[b]? = some (.cells C ty (0,0))∧o+cap * e≤C.size∧es.length≤cap∧(∃ r,b ∈ fp r) ∧
      st.setPlc r c p (.own e (es.take k++zs++es.drop (k+n)))=some st'∧ShpLe st st'∧(∀ r,∀ b ∈ fp' r,b ∈ fp r) ∧
      Rel cx (w.setRow b (splice C.toList (o+k * e) Z).toArray) F ρ fp' X st' tm ∧
      ∃ x0' es',look st' tm ρ (w.setRow b (splice C.toList (o+k * e) Z).toArray) r c=some (x0',v0)∧folR (w.setRow b (splice C.toList (o+k * e) Z).toArray) x0' v0 p=some (.own e es',.slice A N cap)∧es.length≤es'.length:=by
  obtain ⟨pre,g,post,hfp,hRn,hup⟩:=h.upd hl hf
  rcases hRn.own_inv with ⟨h8,_⟩ | ⟨b,o1,cap1,C,ty,fp1,h8,hg,hb,hd,he,hnn,hoC⟩
  · subst h8;simp at hk;omega
  simp only [Value.slice.injEq] at h8
  obtain ⟨rfl,rfl,rfl⟩:=h8
  have hgX:∀ b ∈ g,b ∉ X:=fun b hb=>h.xdisj r b (by rw [hfp];simp [hb])
  have hgF:∀ b ∈ g,¬ F b:=fun b hb=>h.notF r b (by rw [hfp];simp [hb])
  have hfp2:∀ q,∀ b ∈ updFp fp r (pre++(g++post)) q,b ∈ fp q:=fun q b hb=>by
    unfold updFp at hb
    split at hb
    · rename_i hq;rw [hq,hfp];exact hb
    · exact hb
  obtain ⟨hf1,hfl,hvs⟩:=rds_sc hd (by rw [all_flat];exact hs)
  subst hf1
  have hCl:C.toList.length=C.size:=Array.length_toList
  have hcap:es.length * e≤cap * e:=Nat.mul_le_mul_right _ hnn.1
  have hoe:k * e+n * e≤es.length * e:=by rw [← Nat.add_mul];exact Nat.mul_le_mul_right _ hk
  have hZl:Z.length=n * e:=by
    have:=congrArg List.length hzs
    rw [flatten_len hzl,hn,List.length_map] at this
    exact this.symm
  obtain ⟨w2,hw2⟩:∃ w2,w2=w.setRow b (splice C.toList (o1+k * e) Z).toArray:=⟨_,rfl⟩
  have q1:w2.heap[b]? = some (.cells (splice C.toList (o1+k * e) Z).toArray ty (0,0)):=by rw [hw2];exact setRow_heap w _ C _ ty _ hb
  have q2:∀ k,k ≠ b→w2.heap[k]? = w.heap[k]?:=fun k hk=>by rw [hw2];exact setRow_other w _ k _ hk
  have q3:w2.heap.size=w.heap.size:=by rw [hw2];simp
  have hesl:(es.take k++zs++es.drop (k+n)).length=es.length:=by simp [hn];omega
  have he2:∀ y ∈ es.take k++zs++es.drop (k+n),y.length=e:=by
    intro y hy
    simp only [List.mem_append] at hy
    rcases hy with (hy | hy) | hy
    · exact he y (List.mem_of_mem_take hy)
    · exact hzl y hy
    · exact he y (List.mem_of_mem_drop hy)
  have hVl:((C.toList.drop o1).take (es.length * e)).length=es.length * e:=by simp;omega
  have hflat:(es.take k++zs++es.drop (k+n)).flatten=(splice ((C.toList.drop o1).take (es.length * e)) (k * e) Z).map .sc:=by
    rw [List.flatten_append,List.flatten_append,flat_take he,flat_drop he,hzs,hfl]
    unfold splice
    simp only [List.map_append,List.map_take,List.map_drop,hZl,Nat.add_mul]
  have hsp:((splice C.toList (o1+k * e) Z).drop o1).take (es.length * e)=splice ((C.toList.drop o1).take (es.length * e)) (k * e) Z:=splice_sub (by omega) (by omega)
  have hnew:RDs w2 F [.own e (es.take k++zs++es.drop (k+n))] [.slice (some ⟨b,o1,none⟩) es.length cap] [b]:=by
    have h1:RDs w2 F (es.take k++zs++es.drop (k+n)).flatten (((splice C.toList (o1+k * e) Z).toArray.toList.drop o1).take ((es.take k++zs++es.drop (k+n)).length * e)) []:=by
      rw [hesl]
      simp only []
      rw [hsp,hflat]
      refine sc_rds ?_
      rw [List.all_eq_true]
      intro u hu
      unfold splice at hu
      simp only [List.mem_append] at hu
      rcases hu with (hu | hu) | hu
      · exact List.all_eq_true.1 hvs u (List.mem_of_mem_take hu)
      · exact List.all_eq_true.1 hz u hu
      · exact List.all_eq_true.1 hvs u (List.mem_of_mem_drop hu)
    have:=RDs.own (w:=w2) (F:=F) (xs:=[]) (vs:=[]) (fp:=[]) (cap:=cap) (o:=o1) q1 h1 he2 (by rw [hesl];exact hnn) (by
      have:(splice C.toList (o1+k * e) Z).length=C.toList.length:=splice_len (by omega)
      simp only [List.size_toArray];omega) .nil
    rw [hesl] at this
    simpa using this
  have hkeep:KeepRefs w w2 g r (fun _=>false) (.own e es) (.own e (es.take k++zs++es.drop (k+n))) (.slice (some ⟨b,o1,none⟩) es.length cap):=by
    refine .inr ⟨b,by rw [hg];simp,q2,fun q e2 es2 hh hq=>?_⟩
    cases q with
    | nil =>
      simp only [folR,Option.some.injEq,Prod.mk.injEq,IV.own.injEq] at hq
      obtain ⟨⟨rfl,rfl⟩,rfl⟩:=hq
      exact ⟨_,rfl,by rw [hesl];exact Nat.le_refl _⟩
    | cons ij q =>
      obtain ⟨i2,j2⟩:=ij
      simp only [folR] at hq
      cases hi2:es[i2]? with
      | none=>simp [hi2] at hq
      | some el2 =>
      cases hj2:el2[j2]? with
      | none=>simp [hi2,hj2] at hq
      | some y =>
      have hy:y.isSc=true:=List.all_eq_true.1 (List.all_eq_true.1 hs el2 (List.mem_of_getElem? hi2)) y (List.mem_of_getElem? hj2)
      simp only [hi2,hj2] at hq
      split at hq
      · cases y <;> simp [IV.isSc] at hy
        cases q with
        | nil=>simp [folR] at hq
        | cons _ _=>simp [folR] at hq
      · cases hq
  obtain ⟨st3,k1,k2,k3,k4⟩:=hup (w':=w2) (F':=F) (g':=[b]) (X':=X) (pk:=fun _=>false) ⟨by omega,fun k _ hk=>q2 k (fun hc=>hk (by rw [hg];simp [hc])),fun _ h=>h,fun _ h=>.inl h,hnew,fun k hk=>.inl (by rw [hg];exact hk),by simp,fun k hk=>hgF k (by rw [hg];exact hk),h.xnodup,fun k hk=>⟨.inl hk,fun hm=>hgX k (by rw [hg];exact hm) hk⟩,h.xF⟩ .none (.inl ⟨_,_,rfl⟩) hkeep
  have hg':g=[b]:=hg
  rw [← hg',killBy_none] at k3
  rw [killBy_none] at k4
  obtain ⟨x0',es',t1,t2,t3⟩:=k4.ref r c p ⟨.arr r c p 0 0 0 false,⟨rfl,rfl,rfl⟩,rfl⟩ x0 v0 e es _ _ _ hl hf
  subst hw2
  exact ⟨b,o1,C,ty,st3,_,rfl,rfl,hb,hoC,hnn.1,⟨r,by rw [hfp,hg];simp⟩,k1,k2,hfp2,k3,x0',es',t1,t2,t3⟩
theorem ext_setRow {b:Nat} {R:Array Value} (hsub:∀ r,∀ k ∈ fp' r,k ∈ fp r) (hb:∃ r,b ∈ fp r) (ex):Ext w F ρ fp X ex (w.setRow b R) F ρ fp' ([]++X) :=
  ⟨by simp,fun k _ hk _=>setRow_other w b k R (fun hc=>by obtain ⟨r,hr⟩:=hb;exact hk r (hc ▸ hr)),fun r k hk=>.inl ⟨r,hsub r k hk⟩,fun k hk=>.inr (.inl (by simpa using hk)),fun _ h=>h,fun _ h=>.inl h,fun _ _ _=>rfl,⟨rfl,rfl,rfl⟩⟩
theorem out_clrs (h:Rel cx w F ρ fp X st (regs a)) {t elem:TypeId} {z:List Value} {x:Opd} {x':Operand} (hz:zeroIs cx.P elem z) (ht:cx.P.underlying t=some (.slice elem)) (hx:okOpd cx x' x)
    (ho:o.op=.call { callee:=.builtin .clear,args:=#[x'],argTypes:=#[t] }) {cf} (hev:ev cf st (.clrs x z)=some (v,st')):OpOut cx w F ρ fp X st a o v st':=by
  simp only [ev] at hev
  split at hev
  rotate_left
  · cases hev
  rename_i r c p e0 off n cl hrd
  split at hev
  rotate_left
  · cases hev
  rename_i esz es hplc
  split at hev
  rotate_left
  · cases hev
  rename_i hcond
  obtain ⟨hoff,hzl,hall,hzs⟩:=hcond
  have hr:=rd_rel h hx
  rw [hrd] at hr
  rcases hr with ⟨hr,_⟩ | hr
  rotate_left
  · cases hr
  obtain ⟨x0,v0,es',A,N,cap,A',cap',hlk,hfo,hon,hval,hn',hcc,hcl,haddr,_⟩:=hr
  have:=look_plc h hlk hfo
  rw [hplc] at this
  cases this
  obtain ⟨zv,hz1,hz2⟩:=run_zeroValue hz w
  split at hev
  · rename_i hn0
    subst hn0
    simp only [Option.some.injEq,Prod.mk.injEq] at hev
    obtain ⟨rfl,rfl⟩:=hev
    refine ⟨.tuple #[],w,F,ρ,fp,[],.inl ?_,h,⟨#[],rfl,.nil⟩,Ext.refl _ _ _ _ _ _,.refl _⟩
    simp only [execOp,ho,resolve]
    simp only [invoke,builtin]
    have hrun:(Builtin.clear_ #[t] o.type #[a.eval x']).run cx.P w=.ok (.tuple #[]) w:=by
      rw [hval]
      cases A' <;> simp [Builtin.clear_,run_underlying ht]
    simp [hrun]
  rename_i hn0
  split at hev
  rotate_left
  · cases hev
  rename_i st2 hset
  simp only [Option.some.injEq,Prod.mk.injEq] at hev
  obtain ⟨rfl,rfl⟩:=hev
  have hcp:0 < cap':=by omega
  obtain ⟨b0,o0,hA,hA'⟩:=haddr hcp
  obtain ⟨Z,hZ⟩:∃ Z,Z=(List.replicate n z).flatten:=⟨_,rfl⟩
  have hZs:Z.all Idl.isSc=true:=by
    rw [List.all_eq_true]
    intro u hu
    rw [hZ,List.mem_flatten] at hu
    obtain ⟨l,hl,hu⟩:=hu
    rw [List.eq_of_mem_replicate hl] at hu
    exact List.all_eq_true.1 hzs u hu
  have hz2':zv.cells.toList=z:=hz2
  have hZc:(Builtin.zeroCells zv.cells n).toList=Z:=by rw [zeroCells_list,hz2',hZ]
  have hZl:Z.length=n * e0:=by rw [hZ];simp [hzl]
  have h1c:∀ u ∈ Z,u.oneCell'=true:=fun u hu=>by
    have:=List.all_eq_true.1 hZs u hu
    rcases isSc_cases this with ⟨_,_,rfl⟩ | ⟨_,rfl⟩ | ⟨_,rfl⟩ | rfl <;> rfl
  have hzsc:z.map cv1=z.map .sc:=List.map_congr_left fun u hu=>by
    have:=List.all_eq_true.1 hzs u hu
    rcases isSc_cases this with ⟨_,_,rfl⟩ | ⟨_,rfl⟩ | ⟨_,rfl⟩ | rfl <;> rfl
  have hfz:(elemsOf z n).flatten=Z.map .sc:=by
    rw [elemsOf,hzsc,hZ,List.map_flatten,List.map_replicate]
  obtain ⟨b,o1,C,ty,st3,fp2,k1,k2,k3,k4,k5,k6,k7,k8,k9,k10,-⟩:=h.writeSc hlk hfo hall (Z:=Z) (zs:=elemsOf z n) (k:=off) (n:=n) hZs hfz (fun y hy=>by rw [List.eq_of_mem_replicate hy];simp [hzl]) (by simp [elemsOf]) (by omega) hoff
  rw [hset] at k7
  cases k7
  rw [hA] at k1
  cases k1
  have hcap:off * e0+n * e0≤cap * e0:=by rw [← Nat.add_mul];exact Nat.mul_le_mul_right _ (by omega)
  have hCl:C.toList.length=C.size:=Array.length_toList
  have hrun:=run_storeCells_at cx.P b0 (o0+off * e0) ty Z 0 C w k3 (by omega) h1c
  refine ⟨.tuple #[],_,F,ρ,fp2,[],.inl ?_,k10,⟨#[],rfl,.nil⟩,ext_setRow k9 k6 _,k8⟩
  obtain ⟨m,rfl⟩:∃ m,n=m+1:=⟨n - 1,by omega⟩
  simp only [execOp,ho,resolve]
  simp only [invoke,builtin]
  have hrun2:(Builtin.clear_ #[t] o.type #[a.eval x']).run cx.P w=.ok (.tuple #[]) (w.setRow b0 (splice C.toList (o0+off * e0) Z).toArray):=by
    rw [hval,hA']
    simp only [Builtin.clear_]
    simp [run_underlying ht,hz1]
    rw [hZc,hrun]
    simp [splice]
  simp [hrun2]
theorem out_slcb (h:Rel cx w F ρ fp X st (regs a)) {t elem:TypeId} {e:Nat} {x:Opd} {x':Operand} {lo hi:Option Opd} {lo' hi':Option Operand} (hx:okOpd cx x' x)
    (h1:okOpdO cx lo' lo) (h2:okOpdO cx hi' hi) (ht:cx.P.underlying t=some (.slice elem)) (he:sizeIs cx.P elem e)
    (ho:o.op=.slice t x' lo' hi' none) {cf} (hev:ev cf st (.slcb e x lo hi)=some (v,st')):OpOut cx w F ρ fp X st a o v st':=by
  simp only [ev] at hev
  split at hev
  rotate_left
  · cases hev
  rename_i r c p e0 off n hrd
  split at hev
  rotate_left
  · cases hev
  rename_i e2 es hplc
  split at hev
  rotate_left
  · cases hev
  rename_i l hh hbl hbh
  split at hev
  rotate_left
  · cases hev
  rename_i hcond
  obtain ⟨rfl,hlh,hoff⟩:=hcond
  simp only [Option.some.injEq,Prod.mk.injEq] at hev
  obtain ⟨rfl,rfl⟩:=hev
  have hr:=rd_rel h hx
  rw [hrd] at hr
  rcases hr with ⟨hr,_⟩ | hr
  rotate_left
  · cases hr
  obtain ⟨x0,v0,es',A,N,cap,A',cap',hlk,hfo,hon,hval,hn',hcc,hcl,haddr,hce⟩:=hr
  have:=look_plc h hlk hfo
  rw [hplc] at this
  cases this
  have hcap:es.length≤cap:=by
    obtain ⟨f0,g1,g2,g3⟩:=h.data (e:=((folR_own hfo).choose)) (es:=(folR_own hfo).choose_spec.choose) (by rw [hlk];exact congrArg (fun z=>some (z,v0)) (folR_own hfo).choose_spec.choose_spec) (folR_slice hfo)
    have g3':RDs w F [x0] [v0] f0:=by rw [(folR_own hfo).choose_spec.choose_spec];exact g3
    obtain ⟨u,a1,g,a2,hfu,_,hRn,_⟩:=g3'.fol (folR_fol hfo)
    rw [hfo] at hfu
    simp only [Option.some.injEq,Prod.mk.injEq,true_and] at hfu
    subst hfu
    rcases hRn.own_inv with ⟨rfl,_,A0,h8⟩ | ⟨b,o,cap1,C,ty2,fp1,h8,_,hb,hd,he,hnn,hoc⟩
    · simp
    · simp only [Value.slice.injEq] at h8
      obtain ⟨_,_,rfl⟩:=h8
      exact hnn.1
  have hcc':=hce rfl
  have hrun:=run_slice (n:=n) (cap:=cap') (A:=A') (mx:=none) (mx':=none) h ht he h1 h2 trivial hbl hbh (m:=cap') rfl (fun hm=>by cases hm) hlh (by omega) (Nat.le_refl _)
  refine ⟨.slice (if cap'=l then A' else A'.map (·.add (l * e0))) (hh - l) (cap' - l),w,F,ρ,fp,[],.inl ?_,h,.inl ⟨⟨x0,v0,es,A,N,cap,(if cap'=l then A' else A'.map (·.add (l * e0))),cap' - l,hlk,hfo,by omega,rfl,by omega,by omega,by simp,fun hp=>?_,fun _=>by omega⟩,rfl⟩,Ext.refl _ _ _ _ _ _,.refl _⟩
  · have hrun:=hrun w
    rw [← hval] at hrun
    simp only [execOp,ho]
    simp only [Option.map_none] at hrun
    rw [Sem.run_bind]
    simp only [Option.map_none]
    rw [hrun]
    rfl
  · obtain ⟨b,o1,q1,q2⟩:=haddr (by omega)
    have hne:¬ cap'=l:=by omega
    refine ⟨b,o1,q1,?_⟩
    rw [if_neg hne,q2]
    simp only [Option.map_some,addr_add,Nat.add_mul,Nat.add_assoc]
theorem out_appi (h:Rel cx w F ρ fp X st (regs a)) {x y:Opd} {x' y':Operand} {t t' e:TypeId} {i:TypeInfo} {z:Value} {esz:Nat} (hT:AppT cx.P t t' e i z) (hsz:i.size=esz) (hx:okOpd cx x' x) (hy:okOpd cx y' y)
    (ho:o.op=.call { callee:=.builtin .append,args:=#[x',y'],argTypes:=#[t,t'] }) {cf} (hev:ev cf st (.appi esz x y)=some (v,st')):OpOut cx w F ρ fp X st a o v st':=by
  simp only [ev] at hev
  split at hev
  rotate_left
  · cases hev
  rename_i r c p e0 off n hrd
  split at hev
  rotate_left
  · cases hev
  rename_i e' ys hsv
  split at hev
  rotate_left
  · cases hev
  rename_i e2 es hplc
  split at hev
  rotate_left
  · cases hev
  rename_i hcond
  obtain ⟨rfl,rfl,rfl,hfit,hall,hys⟩:=hcond
  have hr:=rd_rel h hx
  rw [hrd] at hr
  rcases hr with ⟨hr,_⟩ | hr
  rotate_left
  · cases hr
  obtain ⟨x0,v0,es',A,N,cap,A',cap',hlk,hfo,hon,hval,hn',hcc,hcl,haddr,hce⟩:=hr
  have:=look_plc h hlk hfo
  rw [hplc] at this
  cases this
  obtain ⟨Ay,cy,news,g,e1,e2,e3,e4⟩:=sview_rel h (rd_rel h hy) hsv
  obtain ⟨hg0,hnf,hns⟩:=rds_sc e2 (by rw [all_flat];exact hys)
  have hcc':=hce rfl
  split at hev
  · rename_i hn0
    simp only [Option.some.injEq,Prod.mk.injEq] at hev
    obtain ⟨rfl,rfl⟩:=hev
    rw [hn0] at e1
    refine ⟨a.eval x',w,F,ρ,fp,[],.inl ?_,h,?_,Ext.refl _ _ _ _ _ _,.refl _⟩
    · have hrun:=run_app_none (w:=w) (ty:=o.type) (A:=Ay) (c:=cy) (base:=A') (sLen:=n) (sCap:=cap') hT hn'
      rw [← hval,← e1] at hrun
      simp only [execOp,ho,resolve]
      simp [invoke,builtin,hrun]
    · exact .inl ⟨⟨x0,v0,es,A,N,cap,A',cap',hlk,hfo,hon,hval,hn',hcc,hcl,haddr,hce⟩,rfl⟩
  rename_i hn0
  split at hev
  rotate_left
  · cases hev
  rename_i st2 hset
  simp only [Option.some.injEq,Prod.mk.injEq] at hev
  obtain ⟨rfl,rfl⟩:=hev
  obtain ⟨b,o1,C,ty,st3,fp2,k1,k2,k3,k4,k5,k6,k7,k8,k9,k10,x0',es',k11,k12,k13⟩:=h.writeSc hlk hfo hall (Z:=news) (zs:=ys) (k:=off+n) (n:=ys.length) hns hnf e3 rfl (by omega) hfit
  rw [hset] at k7
  cases k7
  subst k1
  have hcp:0 < cap':=by omega
  obtain ⟨b0,o0,hA,hA'⟩:=haddr hcp
  cases hA
  subst hsz
  have hCl:C.toList.length=C.size:=Array.length_toList
  have hln:news.length=ys.length * i.size:=by rw [← e2.len,flatten_len e3]
  have hcap:(off+n+ys.length) * i.size≤cap * i.size:=Nat.mul_le_mul_right _ (by omega)
  simp only [Nat.add_mul] at hcap
  have h1c:∀ u ∈ news,u.oneCell'=true:=fun u hu=>by
    have:=List.all_eq_true.1 hns u hu
    rcases isSc_cases this with ⟨_,_,rfl⟩ | ⟨_,rfl⟩ | ⟨_,rfl⟩ | rfl <;> rfl
  have hrun:=run_app_room (P:=cx.P) (w:=w) (ty:=o.type) (c:=cy) (A:=Ay) (sLen:=n) (sCap:=cap') (o:=o1+off * i.size) hT k3 hln e4 h1c (by omega) (by omega)
  have hoo:o1+off * i.size+n * i.size=o1+(off+n) * i.size:=by rw [Nat.add_mul,Nat.add_assoc]
  rw [hoo] at hrun
  refine ⟨_,_,F,ρ,fp2,[],.inl ?_,k10,.inl ⟨⟨x0',v0,es',_,N,cap,_,cap',k11,k12,by omega,rfl,by omega,hcc,by simp,fun _=>⟨b,o1,rfl,rfl⟩,fun _=>hcc'⟩,rfl⟩,ext_setRow k9 k6 _,k8⟩
  rw [← hA',← hval,← e1] at hrun
  simp only [execOp,ho,resolve]
  simp [invoke,builtin,hrun,hA']
end
end Go.Idl
namespace Go.Idl
open Go
section
variable {cx:Cx} {w w':World} {F F' F0 F1:Nat→Prop} {ρ ρ':Rho} {fp fp' fp1:Fp} {X X' f f' f1 f2 fa:List Nat} {st st' st1:St} {a:Act} {o:Oper} {tm:Nat→Value} {v:IV}
theorem out_callp {cf:CF} (hcf:CallOK cx cf) (h:Rel cx w F ρ fp X st (regs a)) {c:Call} {y:Operand} {g:Lab} {x:Opd} {x':Operand} (hx:okOpd cx x' x) (ho:o.op=.call c)
    (hc:c.callee=.value y) (hargs:c.args.toList=[x']) (hy:a.eval y=.func (.func (cx.fid g)) #[] #[])
    (hev:st.callP cf g x=some (v,st')):CallOut cx w F ρ fp X st a o v st':=by
  unfold St.callP at hev
  split at hev
  rotate_left
  · cases hev
  rename_i r c0 p e0 n hrd
  split at hev
  rotate_left
  · cases hev
  rename_i e es hplc
  split at hev
  rotate_left
  · cases hev
  rename_i hn
  split at hev
  rotate_left
  · cases hev
  rename_i e3 es3 hcall
  split at hev
  rotate_left
  · cases hev
  rename_i hsc
  split at hev
  rotate_left
  · cases hev
  rename_i st2 hset
  simp only [Option.some.injEq,Prod.mk.injEq] at hev
  obtain ⟨rfl,rfl⟩:=hev
  have hr:=rd_rel h hx
  rw [hrd] at hr
  rcases hr with ⟨hr,_⟩ | hr
  rotate_left
  · cases hr
  obtain ⟨x0,v0,es',A,N,cap,A',cap',hlk,hfo,hon,hval,hn',hcc,hcl,haddr,hcapf⟩:=hr
  have hpl:=look_plc h hlk hfo
  rw [hplc] at hpl
  simp only [Option.some.injEq,IV.own.injEq] at hpl
  obtain ⟨rfl,rfl⟩:=hpl
  obtain ⟨pre,gg,post,hfp,hRn,hup⟩:=h.upd hlk hfo
  have hcap2:cap'=cap:=by have:=hcapf rfl;omega
  subst hcap2
  have hN:N=es.length:=by
    rcases hRn.own_inv with ⟨h0,_,A0,h8⟩ | ⟨b,o',cap1,C,ty,fp1,h8,_⟩
    · simp only [Value.slice.injEq] at h8;rw [h0];exact h8.2.1
    · simp only [Value.slice.injEq] at h8;exact h8.2.1
  have hsame:SameV (.slice A N cap') (a.eval x'):=⟨A,A',N,cap',rfl,by rw [hval,hn,hN],fun hp=>by
    obtain ⟨b,o',g1,g2⟩:=haddr hp
    rw [g1,g2];simp⟩
  have hR':=own_same hRn hsame
  have hgX:∀ b ∈ gg,b ∉ X:=fun b hb=>h.xdisj r b (by rw [hfp];simp [hb])
  have hgF:∀ b ∈ gg,¬ F b:=fun b hb=>h.notF r b (by rw [hfp];simp [hb])
  have hgl:∀ b ∈ gg,b < w.heap.size:=fun b hb=>h.lt r b (by rw [hfp];simp [hb])
  have hgn:gg.Nodup:=by
    have:=h.nodup r
    rw [hfp] at this
    exact (List.nodup_append.1 (List.nodup_append.1 this).2.1).1
  obtain ⟨st0,-,-,h0,-⟩:=hup (w':=w) (F':=F) (y:=.un) (g':=[]) (X':=gg++X) (pk:=IV.rooted r)
    ⟨Nat.le_refl _,fun _ _ _=>rfl,fun _ h=>h,fun _ h=>.inl h,.un .nil,by simp,.nil,by simp,by
      rw [List.nodup_append]
      exact ⟨hgn,h.xnodup,fun x hx y hy hxy=>hgX x hx (hxy ▸ hy)⟩,fun b hb=>by
      rcases List.mem_append.1 hb with hb | hb
      · exact ⟨.inr hb,by simp⟩
      · exact ⟨.inl hb,by simp⟩,fun b hb=>by
      rcases List.mem_append.1 hb with hb | hb
      · exact hgF b hb
      · exact h.xF b hb⟩ (.rooted _) (.inr (.inl rfl)) (.inl fun _ h=>h)
  have hcat:Cat (RA cx w (Still F (updFp fp r (pre++([]++post))) false) ρ { st0 with T:=killBy (IV.rooted r) st0.T }) [.own e es] [a.eval x'] gg:=by
    have h1:RA cx w F ρ { st0 with T:=killBy (IV.rooted r) st0.T } (.own e es) (a.eval x') gg:=⟨.inr hR',rfl⟩
    have h2:RA cx w (Still F (updFp fp r (pre++([]++post))) false) ρ { st0 with T:=killBy (IV.rooted r) st0.T } (.own e es) (a.eval x') gg:=h1.more fun _ hk=>.inl hk
    have:=Cat.cons h2 (Cat.nil (R:=RA cx w (Still F (updFp fp r (pre++([]++post))) false) ρ { st0 with T:=killBy (IV.rooted r) st0.T }))
    rw [List.append_nil] at this
    exact this
  obtain ⟨fpc,hc0,hfpc⟩:=h0.enterP hcat rfl
  have hent:=(hcf g [0] [.own e es] [] _ hcall).1
  refine ⟨cx.fid g,_,run_call (cvs:=[]) hent ho hc hy w,?_⟩
  rw [hargs,List.append_nil]
  refine ((hcf g [0] [.own e es] [] _ hcall).2 w _ ρ fpc [a.eval x'] rfl hc0).mono ?_
  rintro en w' ⟨v',F',ρ',fp',Xb,rfl,q1,q2,q3,q4,q5,-⟩
  obtain ⟨b1,b2,rfl,hback,hb2⟩:=q4
  have hb2:b2=[]:=hb2
  subst hb2
  rw [List.append_nil] at *
  have hback:RDs w' F' [.own e3 es3] [a.eval x'] b1:=hback
  have hback2:RDs w' F' [.own e3 es3] [.slice A N cap'] b1:=own_same hback hsame.symm
  have hkeep:∀ k,k < w.heap.size→k ∉ gg→w'.heap[k]? = w.heap[k]?:=fun k hk hng=>q2.keep k hk (fun r hr=>hng (hfpc r k hr)) (by simp)
  have hsub:RDs w' F [.own e3 es3] [.slice A N cap'] b1∧∀ b ∈ b1,b ∈ gg:=by
    rcases hback2.own_inv with ⟨h8,h9,A0,h10⟩ | ⟨b,o1,cap1,C,ty,fp1,h8,hg,hb,hd,he,hnn,hoC⟩
    · subst h9
      refine ⟨hback2.noLst ?_,by simp⟩
      rw [h8];rfl
    · obtain ⟨hf1,-,-⟩:=rds_sc hd (by rw [all_flat];exact hsc)
      subst hf1
      refine ⟨hback2.noLst ?_,fun k hk=>?_⟩
      · simp only [noLstL,noLstV,Bool.and_true]
        rw [noLstLL_flatten]
        have:∀ l:List IV,l.all IV.isSc=true→noLstL l=true:=by
          intro l
          induction l with
          | nil=>intro _;rfl
          | cons z l ih =>
            intro hl
            simp only [List.all_cons,Bool.and_eq_true] at hl
            simp only [noLstL,Bool.and_eq_true]
            refine ⟨?_,ih hl.2⟩
            cases z <;> simp_all [IV.isSc,noLstV]
        exact this _ (by rw [all_flat];exact hsc)
      · rw [hg] at hk
        simp only [List.mem_singleton] at hk
        subst hk
        rcases hRn.own_inv with ⟨_,_,A1,h11⟩ | ⟨b',o2,cap2,C2,ty2,fp2,h11,hg2,_⟩
        · simp only [Value.slice.injEq] at h8 h11
          have:=hnn.2
          have:=h8.2.2
          have:=h11.2.2
          omega
        · simp only [Value.slice.injEq] at h8 h11
          rw [hg2]
          have:some (⟨k,o1,none⟩:Addr)=some ⟨b',o2,none⟩:=h8.1.symm.trans h11.1
          simp only [Option.some.injEq,Addr.mk.injEq] at this
          rw [this.1];simp
  obtain ⟨hRD,hsubs⟩:=hsub
  obtain ⟨st3,k1,k2,k3,-⟩:=hup (w':=w') (F':=F) (y:=.own e3 es3) (g':=b1) (X':=X) (pk:=IV.rooted r)
    ⟨q2.size,hkeep,fun _ h=>h,fun _ h=>.inl h,hRD,fun b hb=>.inl (hsubs b hb),q1.xnodup,fun b hb=>hgF b (hsubs b hb),h.xnodup,fun b hb=>⟨.inl hb,fun hm=>hgX b (hsubs b hm) hb⟩,h.xF⟩
    (.rooted _) (.inl ⟨_,_,rfl⟩) (.inl fun _ h=>h)
  rw [hset] at k1
  cases k1
  have hs:=q1.slots 0
  obtain ⟨C,hC,hcatC⟩:=(hs:∃ C:Array Value,v'=.tuple C∧Cat _ [] C.toList (fp' (.S 0)))
  obtain ⟨hC0,-⟩:=hcatC.nil_inv
  refine ⟨v',F,ρ,_,[],rfl,k3,⟨C,hC,by rw [hC0];exact .nil⟩,?_,⟨k2.1,k2.2⟩⟩
  have hnewfp:∀ r' k,k ∈ updFp fp r (pre++(b1++post)) r'→k ∈ fp r':=fun r' k hk=>by
    unfold updFp at hk
    split at hk
    · rename_i hq
      rw [hq,hfp]
      simp only [List.mem_append] at hk ⊢
      rcases hk with hk | hk | hk
      · exact .inl hk
      · exact .inr (.inl (hsubs k hk))
      · exact .inr (.inr hk)
    · exact hk
  refine ⟨q2.size,fun k hk hr _=>hkeep k hk (fun hg=>hr r (by rw [hfp];simp [hg])),fun r' k hk=>.inl ⟨r',hnewfp r' k hk⟩,fun k hk=>.inr (.inl (by simpa using hk)),fun _ h=>h,fun _ h=>.inl h,fun _ _ _=>rfl,q2.env⟩
end
end Go.Idl
namespace Go.Idl
open Go
section
variable {cx:Cx} {w w':World} {F F' F0 F1:Nat→Prop} {ρ ρ':Rho} {fp fp' fp1:Fp} {X X' f f' f1 f2 fa:List Nat} {st st' st1:St} {a:Act} {o:Oper} {tm:Nat→Value} {v:IV}
theorem lendOf_arr {y x:IV} (h:lendOf y=some (none,x)):y=x:=by
  unfold lendOf at h
  split at h
  · simp only [Option.some.injEq,Prod.mk.injEq] at h;exact h.2
  · split at h
    · split at h
      · simp at h
      · cases h
    · cases h
  · cases h
theorem lendOf_agg {y x:IV} {xs:List IV} {j:Nat} (h:lendOf y=some (some (xs,j),x)):y=.agg xs∧xs[j]? = some x∧∀ i z,i ≠ j→xs[i]? = some z→z.isSc=true:=by
  unfold lendOf at h
  split at h
  · simp at h
  · rename_i cs
    split at h
    · rename_i k hk
      split at h
      · rename_i hall
        simp only [Option.some.injEq,Prod.mk.injEq] at h
        obtain ⟨⟨rfl,rfl⟩,rfl⟩:=h
        obtain ⟨hlt,-⟩:=List.findIdx?_eq_some_iff_getElem.1 hk
        refine ⟨rfl,by rw [List.getD_eq_getElem?_getD,List.getElem?_eq_getElem hlt];rfl,fun i z hi hz=>?_⟩
        have:=List.all_eq_true.1 hall z (by
          have h1:(cs.set k (.sc (.bool true)))[i]? = some z:=by rw [List.getElem?_set_ne (fun q=>hi q.symm)];exact hz
          exact List.mem_of_getElem? h1)
        exact this
      · cases h
    · cases h
  · cases h
theorem lend_ra {wr:Option (List IV×Nat)} {x y:IV} {u:Value} (hr:RSlot cx w F ρ st (look st tm ρ w) y u []) (hl:lendOf y=some (wr,x)):∃ s,RSlot cx w F ρ st (look st tm ρ w) x s [] ∧
    (∀ {e es g} {F1:Nat→Prop} {st1:St},(∀ b,F b→F1 b)→RDs w F [.own e es] [s] g→RA cx w F1 ρ st1 (wrapL wr (.own e es)) u g∧(wrapL wr (.own e es)).free=true) ∧
    (∀ {w':World} {F':Nat→Prop} {bk z:IV} {f:List Nat},unwrapL wr bk=some z→(∃ e es,z=.own e es)→BackV w' F' u bk f→∃ f2,RDs w' F' [z] [s] f2∧f2.Sublist f):=by
  cases wr with
  | none =>
    have:=lendOf_arr hl
    subst this
    refine ⟨u,hr,fun hF hd=>⟨⟨.inr (hd.frame (fun _ _=>rfl) (fun _ _=>rfl) hF),rfl⟩,rfl⟩,fun hu hz hb=>?_⟩
    obtain ⟨e,es,rfl⟩:=hz
    simp only [unwrapL,Option.some.injEq] at hu
    subst hu
    exact ⟨_,hb,List.Sublist.refl _⟩
  | some p =>
    obtain ⟨xs,j⟩:=p
    obtain ⟨rfl,hj,hothers⟩:=lendOf_agg hl
    obtain ⟨C,rfl,hcat⟩:=hr
    obtain ⟨s,f1,f,f2,hs,hnil,hx,hput⟩:=hcat.at_ hj
    have hn:=List.append_eq_nil_iff.1 hnil.symm
    have hn2:=List.append_eq_nil_iff.1 hn.2
    obtain ⟨rfl,rfl,rfl⟩:f1=[]∧f=[]∧f2=[]:=⟨hn.1,hn2.1,hn2.2⟩
    have hsame:C.toList.set j s=C.toList:=by
      apply List.ext_getElem?
      intro i
      by_cases hi:j=i
      · subst hi
        rw [List.getElem?_set_self (List.getElem?_eq_some_iff.1 hs).1,hs]
      · rw [List.getElem?_set_ne hi]
    refine ⟨s,rc_rslot hx,fun {e es g F1 st1} hF hd=>?_,fun {w' F' bk z f} hu hz hb=>?_⟩
    · have hmem:∀ z ∈ xs.set j (.own e es),z.isSc=true ∨ z=.own e es:=by
        intro z hz
        obtain ⟨i,hi,rfl⟩:=List.mem_iff_getElem.1 hz
        by_cases hij:i=j
        · subst hij;right;simp
        · left
          rw [List.getElem_set_ne (fun q=>hij q.symm)]
          rw [List.length_set] at hi
          exact hothers i _ hij (List.getElem?_eq_getElem hi)
      have h1:=hput (fun x v f=>x.isSc=true ∨ x=.own e es→RC cx w F1 ρ st1 noLk x v f) (.own e es) s g (fun x v f _ hx hsx=>by
        rcases hsx with hsx | rfl
        · cases x with
          | sc q =>
            rcases hx with ⟨hx,_⟩ | hx
            · exact hx.elim
            · exact .inr (hx.frame (fun _ _=>rfl) (fun _ _=>rfl) hF)
          | _=>simp [IV.isSc] at hsx
        · rcases hx with ⟨hx,_⟩ | hx
          · exact hx.elim
          · exact .inr (hx.frame (fun _ _=>rfl) (fun _ _=>rfl) hF)) (fun _=>.inr (hd.frame (fun _ _=>rfl) (fun _ _=>rfl) hF))
      rw [hsame,List.nil_append,List.append_nil] at h1
      refine ⟨⟨⟨C,rfl,h1.mono fun x v f _ hx hm=>hx (hmem x hm)⟩,?_⟩,?_⟩
      · refine List.all_eq_true.2 fun z hz=>?_
        rcases hmem z hz with h | rfl
        · cases z with
          | sc q=>rfl
          | _=>simp [IV.isSc] at h
        · rfl
      · refine List.all_eq_true.2 fun z hz=>?_
        rcases hmem z hz with h | rfl
        · cases z with
          | sc q=>rfl
          | _=>simp [IV.isSc] at h
        · rfl
    · cases bk with
      | agg cs =>
        simp only [unwrapL] at hu
        obtain ⟨C',hC',hd⟩:=hb
        cases hC'
        obtain ⟨v1,g1,g,g2,h1,h2,h3,-⟩:=hd.at_ hu
        rw [hs] at h1
        cases h1
        exact ⟨g,h3,by rw [h2];exact (List.sublist_append_left g g2).trans (List.sublist_append_right g1 _)⟩
      | _=>simp [unwrapL] at hu
theorem out_callm {cf:CF} (hcf:CallOK cx cf) (h:Rel cx w F ρ fp X st (regs a)) {c:Call} {y:Operand} {g:Lab} {x kx:Opd} {x' kx':Operand} (hx:okOpd cx x' x) (hkx:okOpd cx kx' kx) (ho:o.op=.call c)
    (hc:c.callee=.value y) (hargs:c.args.toList=[x',kx']) (hy:a.eval y=.func (.func (cx.fid g)) #[] #[])
    (hev:st.callM cf g x kx=some (v,st')):CallOut cx w F ρ fp X st a o v st':=by
  unfold St.callM at hev
  split at hev
  rotate_left
  · cases hev
  rename_i kv hkv
  split at hev
  rotate_left
  · cases hev
  rename_i wr r c0 p e0 n hld
  split at hev
  rotate_left
  · cases hev
  rename_i e es hplc
  split at hev
  rotate_left
  · cases hev
  rename_i hn
  split at hev
  rotate_left
  · cases hev
  rename_i rv bk hcall
  split at hev
  rotate_left
  · cases hev
  rename_i e3 es3 hun
  split at hev
  rotate_left
  · cases hev
  rename_i hsc
  split at hev
  rotate_left
  · cases hev
  rename_i st2 hset
  simp only [Option.some.injEq,Prod.mk.injEq] at hev
  obtain ⟨rfl,rfl⟩:=hev
  have hkr:=rd_rel h hkx
  rw [hkv] at hkr
  obtain ⟨hkval,hksc,-⟩:=rslot_sc hkr
  obtain ⟨s,hr,hwrap,hunw⟩:=lend_ra (rd_rel h hx) hld
  rcases hr with ⟨hr,_⟩ | hr
  rotate_left
  · cases hr
  obtain ⟨x0,v0,es',A,N,cap,A',cap',hlk,hfo,hon,hval,hn',hcc,hcl,haddr,hcapf⟩:=hr
  have hpl:=look_plc h hlk hfo
  rw [hplc] at hpl
  simp only [Option.some.injEq,IV.own.injEq] at hpl
  obtain ⟨rfl,rfl⟩:=hpl
  obtain ⟨pre,gg,post,hfp,hRn,hup⟩:=h.upd hlk hfo
  have hcap2:cap'=cap:=by have:=hcapf rfl;omega
  subst hcap2
  have hN:N=es.length:=by
    rcases hRn.own_inv with ⟨h0,_,A0,h8⟩ | ⟨b,o',cap1,C,ty,fp1,h8,_⟩
    · simp only [Value.slice.injEq] at h8;rw [h0];exact h8.2.1
    · simp only [Value.slice.injEq] at h8;exact h8.2.1
  have hsame:SameV (.slice A N cap') s:=⟨A,A',N,cap',rfl,by rw [hval,hn,hN],fun hp=>by
    obtain ⟨b,o',g1,g2⟩:=haddr hp
    rw [g1,g2];simp⟩
  have hR':=own_same hRn hsame
  have hgX:∀ b ∈ gg,b ∉ X:=fun b hb=>h.xdisj r b (by rw [hfp];simp [hb])
  have hgF:∀ b ∈ gg,¬ F b:=fun b hb=>h.notF r b (by rw [hfp];simp [hb])
  have hgl:∀ b ∈ gg,b < w.heap.size:=fun b hb=>h.lt r b (by rw [hfp];simp [hb])
  have hgn:gg.Nodup:=by
    have:=h.nodup r
    rw [hfp] at this
    exact (List.nodup_append.1 (List.nodup_append.1 this).2.1).1
  obtain ⟨st0,-,-,h0,-⟩:=hup (w':=w) (F':=F) (y:=.un) (g':=[]) (X':=gg++X) (pk:=IV.rooted r)
    ⟨Nat.le_refl _,fun _ _ _=>rfl,fun _ h=>h,fun _ h=>.inl h,.un .nil,by simp,.nil,by simp,by
      rw [List.nodup_append]
      exact ⟨hgn,h.xnodup,fun x hx y hy hxy=>hgX x hx (hxy ▸ hy)⟩,fun b hb=>by
      rcases List.mem_append.1 hb with hb | hb
      · exact ⟨.inr hb,by simp⟩
      · exact ⟨.inl hb,by simp⟩,fun b hb=>by
      rcases List.mem_append.1 hb with hb | hb
      · exact hgF b hb
      · exact h.xF b hb⟩ (.rooted _) (.inr (.inl rfl)) (.inl fun _ h=>h)
  have hcat:Cat (RA cx w (Still F (updFp fp r (pre++([]++post))) false) ρ { st0 with T:=killBy (IV.rooted r) st0.T }) [wrapL wr (.own e es),.sc kv] [a.eval x',a.eval kx'] gg:=by
    have h2:=(hwrap (F1:=Still F (updFp fp r (pre++([]++post))) false) (st1:={ st0 with T:=killBy (IV.rooted r) st0.T }) (fun _ hk=>.inl hk) hR').1
    have h3:RA cx w (Still F (updFp fp r (pre++([]++post))) false) ρ { st0 with T:=killBy (IV.rooted r) st0.T } (.sc kv) (a.eval kx') []:=⟨by rw [hkval];exact .inr (.sc hksc .nil),rfl⟩
    have:=Cat.cons h2 (Cat.cons h3 (Cat.nil (R:=RA cx w (Still F (updFp fp r (pre++([]++post))) false) ρ { st0 with T:=killBy (IV.rooted r) st0.T })))
    simpa using this
  have hfree:(wrapL wr (.own e es)).free=true:=(hwrap (F1:=F) (st1:=st) (fun _ h=>h) hR').2
  obtain ⟨fpc,hc0,hfpc⟩:=h0.enterP hcat (by rw [List.all_cons,hfree];rfl)
  have hent:=(hcf g [0] [wrapL wr (.own e es),.sc kv] [] _ hcall).1
  refine ⟨cx.fid g,_,run_call (cvs:=[]) hent ho hc hy w,?_⟩
  rw [hargs,List.append_nil]
  refine ((hcf g [0] [wrapL wr (.own e es),.sc kv] [] _ hcall).2 w _ ρ fpc [a.eval x',a.eval kx'] rfl hc0).mono ?_
  rintro en w' ⟨v',F',ρ',fp',Xb,rfl,q1,q2,q3,q4,q5,-⟩
  obtain ⟨b0,b2,rfl,hback0,hb2⟩:=q4
  have hb2:b2=[]:=hb2
  subst hb2
  rw [List.append_nil] at *
  have hback0:BackV w' F' (a.eval x') bk b0:=hback0
  obtain ⟨b1,hback,hb10⟩:=hunw hun ⟨_,_,rfl⟩ hback0
  have hback2:RDs w' F' [.own e3 es3] [.slice A N cap'] b1:=own_same hback hsame.symm
  have hkeep:∀ k,k < w.heap.size→k ∉ gg→w'.heap[k]? = w.heap[k]?:=fun k hk hng=>q2.keep k hk (fun r hr=>hng (hfpc r k hr)) (by simp)
  have hsub:RDs w' F [.own e3 es3] [.slice A N cap'] b1∧∀ b ∈ b1,b ∈ gg:=by
    rcases hback2.own_inv with ⟨h8,h9,A0,h10⟩ | ⟨b,o1,cap1,C,ty,fp1,h8,hg,hb,hd,he,hnn,hoC⟩
    · subst h9
      refine ⟨hback2.noLst ?_,by simp⟩
      rw [h8];rfl
    · obtain ⟨hf1,-,-⟩:=rds_sc hd (by rw [all_flat];exact hsc)
      subst hf1
      refine ⟨hback2.noLst ?_,fun k hk=>?_⟩
      · simp only [noLstL,noLstV,Bool.and_true]
        rw [noLstLL_flatten]
        have:∀ l:List IV,l.all IV.isSc=true→noLstL l=true:=by
          intro l
          induction l with
          | nil=>intro _;rfl
          | cons z l ih =>
            intro hl
            simp only [List.all_cons,Bool.and_eq_true] at hl
            simp only [noLstL,Bool.and_eq_true]
            refine ⟨?_,ih hl.2⟩
            cases z <;> simp_all [IV.isSc,noLstV]
        exact this _ (by rw [all_flat];exact hsc)
      · rw [hg] at hk
        simp only [List.mem_singleton] at hk
        subst hk
        rcases hRn.own_inv with ⟨_,_,A1,h11⟩ | ⟨b',o2,cap2,C2,ty2,fp2,h11,hg2,_⟩
        · simp only [Value.slice.injEq] at h8 h11
          have:=hnn.2
          have:=h8.2.2
          have:=h11.2.2
          omega
        · simp only [Value.slice.injEq] at h8 h11
          rw [hg2]
          have:some (⟨k,o1,none⟩:Addr)=some ⟨b',o2,none⟩:=h8.1.symm.trans h11.1
          simp only [Option.some.injEq,Addr.mk.injEq] at this
          rw [this.1];simp
  obtain ⟨hRD,hsubs⟩:=hsub
  obtain ⟨st3,k1,k2,k3,-⟩:=hup (w':=w') (F':=F) (y:=.own e3 es3) (g':=b1) (X':=X) (pk:=IV.rooted r)
    ⟨q2.size,hkeep,fun _ h=>h,fun _ h=>.inl h,hRD,fun b hb=>.inl (hsubs b hb),q1.xnodup.sublist hb10,fun b hb=>hgF b (hsubs b hb),h.xnodup,fun b hb=>⟨.inl hb,fun hm=>hgX b (hsubs b hm) hb⟩,h.xF⟩
    (.rooted _) (.inl ⟨_,_,rfl⟩) (.inl fun _ h=>h)
  rw [hset] at k1
  cases k1
  obtain ⟨hv',hvsc,-⟩:=rslot_sc (show RSlot cx w' F' ρ' _ _ (.sc rv) v' (fp' (.S 0)) from q1.slots 0)
  subst hv'
  refine ⟨_,F,ρ,_,[],rfl,k3,sc_rslot hvsc,?_,⟨k2.1,k2.2⟩⟩
  have hnewfp:∀ r' k,k ∈ updFp fp r (pre++(b1++post)) r'→k ∈ fp r':=fun r' k hk=>by
    unfold updFp at hk
    split at hk
    · rename_i hq
      rw [hq,hfp]
      simp only [List.mem_append] at hk ⊢
      rcases hk with hk | hk | hk
      · exact .inl hk
      · exact .inr (.inl (hsubs k hk))
      · exact .inr (.inr hk)
    · exact hk
  refine ⟨q2.size,fun k hk hr _=>hkeep k hk (fun hg=>hr r (by rw [hfp];simp [hg])),fun r' k hk=>.inl ⟨r',hnewfp r' k hk⟩,fun k hk=>.inr (.inl (by simpa using hk)),fun _ h=>h,fun _ h=>.inl h,fun _ _ _=>rfl,q2.env⟩
end
end Go.Idl
namespace Go.Idl
open Go
section
variable {cx:Cx} {w w':World} {F F':Nat→Prop} {ρ ρ':Rho} {fp fp':Fp} {X f f' fy:List Nat} {st st':St} {a:Act} {o:Oper} {tm:Nat→Value} {v:IV}
theorem out_storef (h:Rel cx w F ρ fp X st (regs a)) {t:TypeId} {sz:Nat} {ad x:Opd} {ad' x':Operand} (hsz:sizeIs cx.P t sz) (ha:okOpd cx ad' ad) (hx:okOpd cx x' x) (ho:o.op=.store t ad' x') {cf}
    (hev:ev cf st (.storef sz ad x)=some (v,st')):OpOut cx w F ρ fp X st a o v st':=by
  simp only [ev] at hev
  split at hev
  rotate_left
  · cases hev
  rename_i cs st1 hab
  split at hev
  rotate_left
  · cases hev
  rename_i hlen
  obtain ⟨hlen,hpl⟩:=hlen
  split at hev
  rotate_left
  · cases hev
  rename_i l k c hrd
  split at hev
  rotate_left
  · cases hev
  rename_i st2 hst
  simp only [Option.some.injEq,Prod.mk.injEq] at hev
  obtain ⟨rfl,rfl⟩:=hev
  obtain ⟨fp1,fy,k1,k2,k3,k4,k5,k6⟩:=take_absorb h hx hab
  have hus:=k2.len
  have h1c:=k2.oneCell k3
  obtain ⟨c1,c2⟩:=frz_cells k2 hpl
  have k1':=k1.frzX
  have c1':Cat (RC cx w (fun b=>F b ∨ b ∈ fy) ρ st1 (look st1 (regs a) ρ w)) (frzL cs) (a.eval x').cells.toList [] :=
    c1.mono fun x v f _ hx hm=>hx.isD (c2 x hm) (fun _ _ h=>h)
  have hr:=rd_rel k1' ha
  have hfl:(frzL cs).length=cs.length:=frzL_length cs
  have fin:∀ (b o':Nat) (C:Array Value) (ty:TypeId) (fp2:Fp),a.eval ad'=.pointer (some ⟨b,o',none⟩)→w.heap[b]? = some (.cells C ty (0,0))→o'+(a.eval x').cells.toList.length≤C.size →
      (∃ r,b ∈ fp1 r)→Rel cx (w.setRow b (splice C.toList o' (a.eval x').cells.toList).toArray) (fun b=>F b ∨ b ∈ fy) ρ fp2 X st2 (regs a)→(∀ r,∀ b ∈ fp2 r,b ∈ fp1 r)→ShpLe st1 st2 →
      OpOut cx w F ρ fp X st a o .un st2:=by
    intro b o' C ty fp2 e1 e2 e3 e4 e5 e6 e7
    have hrun:=run_storeCells_at cx.P b o' ty (a.eval x').cells.toList 0 C w e2 (by omega) h1c
    have hvs:(a.eval x').cells.size=sz:=by rw [← hlen,hus];simp
    refine ⟨undef,_,_,ρ,fp2,[],.inr ⟨?_,rfl⟩,e5,rfl,?_,k6.trans e7⟩
    · simp only [execOp,ho,Instr.storeAt,Instr.sureAddr,e1,Sem.run_bind,Sem.run_pure,Result.andThen_ok,storeVar,run_sizeOf hsz,hvs,ne_eq,not_true_eq_false,if_false]
      rw [hrun]
      simp only [Result.andThen_ok,Nat.add_zero,splice]
    · refine ext_pre (ex:=exB st) k5 k4 ⟨by simp,fun q hq hr hx=>?_,fun r q hq=>.inl ⟨r,e6 r q hq⟩,fun q hq=>.inr (.inl (by simp at hq ⊢;exact .inr hq)),fun _ h=>.inl h,fun q hq=>?_,fun _ _ _=>rfl,⟨rfl,rfl,rfl⟩⟩
      · obtain ⟨r,hbr⟩:=e4
        exact setRow_other w b q _ (fun hc=>hr r (hc ▸ hbr))
      · rcases hq with hq | hq
        · exact .inl hq
        · exact .inr (.inr (.inl (by simp [hq])))
  unfold St.storeCells at hst
  simp only at hst
  rw [hrd] at hr
  have hptr:a.eval ad'=.pointer (some ⟨ρ l k,c,none⟩):=by
    rcases hr with ⟨hr,_⟩ | hr
    · exact hr.1
    · cases hr
  split at hst
  rotate_left
  · cases hst
  rename_i bs hb
  split at hst
  rotate_left
  · cases hst
  rename_i old hs
  split at hst
  rotate_left
  · cases hst
  rename_i hlv
  simp only [Option.some.injEq] at hst
  obtain ⟨C,ty,f0,hfp,hheap,hcat⟩:=k1'.boxes l k bs hb
  have hle:=(sub_some hs).1
  have hC:c+(a.eval x').cells.toList.length≤C.size:=by have:=hcat.len;rw [hfl] at hle;rw [← hus];simp at this;omega
  have go:∀ pk,KillOK pk→((∀ y:IV,y.rooted (.B l k)=true→pk y=true) ∨ old.all IV.isSc=true)→st2={ st1.setBox l k (splice bs c (frzL cs)) with T:=killBy pk st1.T }→OpOut cx w F ρ fp X st a o .un st2:=by
    intro pk hpk hkeep hst2
    subst hst2
    obtain ⟨fp2,g1,g2,g3,g4⟩:=Rel.storeBox (fy:=[]) (w':=w.setRow (ρ l k) (splice C.toList c (a.eval x').cells.toList).toArray) k1' hb hs c1' c2 (fun y hy=>List.all_eq_true.1 hlv y hy) hpk hkeep hheap
      (setRow_heap w _ C _ ty _ hheap) (fun b hb=>setRow_other w _ b _ hb) (by simp)
    exact fin _ _ C ty fp2 hptr hheap hC g4 g1 (fun r b hb=>by rcases g3 r b hb with h | h;exact h;cases h) g2
  by_cases hsc:(old.all IV.isSc && (frzL cs).all IV.isSc)=true
  · rw [if_pos hsc] at hst
    refine go (fun _=>false) .none (.inr (by simp only [Bool.and_eq_true] at hsc;exact hsc.1)) ?_
    rw [← setBox_T st1 l k (splice bs c (frzL cs)),killBy_eta,hst]
  · rw [if_neg hsc,setBox_T] at hst
    exact go (IV.rooted (.B l k)) (.rooted _) (.inl fun _ h=>h) hst.symm
theorem Cat.one {R:IV→Value→List Nat→Prop} {x:IV} {v:Value} {f:List Nat} (h:Cat R [x] [v] f):R x v f:=by
  cases h with
  | cons h t=>cases t;simpa using h
theorem out_asgf (h:Rel cx w F ρ fp X st (regs a)) {x:Opd} {y:Operand} (hx:okOpd cx y x) (ho:o.op=.move y ∨ o.op=.assign y) {cf} (hev:ev cf st (.asgf x)=some (v,st')):OpOut cx w F ρ fp X st a o v st':=by
  obtain ⟨fp1,f1,h1,h2,h3,h4⟩:=tk_rel h hx
  have hrun:(execOp a.eval o).run cx.P w=.ok (.value (a.eval y)) w:=by rcases ho with ho | ho <;> simp [execOp,ho]
  simp only [ev] at hev
  split at hev
  · cases hev
  rename_i v0 T hne ht
  rw [ht] at h1 h2
  split at hev
  rotate_left
  · cases hev
  rename_i u st1 ha
  split at hev
  rotate_left
  · cases hev
  rename_i hpl
  simp only [Option.some.injEq,Prod.mk.injEq] at hev
  obtain ⟨rfl,rfl⟩:=hev
  have hrc:=rslot_rc h2 (fun cs hc=>hne cs hc) (fun vs hc=>by simp only at hc;rw [hc] at ha;simp [St.absorb] at ha) (fun hc=>by simp only at hc;rw [hc] at ha;simp [St.absorb] at ha)
  obtain ⟨fp2,fy,k1,k2,k3,k4,k5,k6,k7⟩:=h1.absorb hrc ha
  have k1':=k1.frzX
  have hcat:Cat (RC cx w F ρ st1 (look st1 (regs a) ρ w)) [u] [a.eval y] fy:=by simpa using Cat.cons k2 .nil
  obtain ⟨c1,c2⟩:=frz_cells hcat hpl
  have hr:RC cx w (fun b=>F b ∨ b ∈ fy) ρ st1 (look st1 (regs a) ρ w) (frzV u) (a.eval y) []:=by
    have hz:frzL [u]=[frzV u]:=by rw [frzL_eq_map];rfl
    rw [hz] at c1 c2
    exact (Cat.one c1).isD (c2 _ (by simp)) (fun _ _ h=>h)
  refine ⟨a.eval y,w,_,ρ,fp2,[],.inl hrun,k1',rc_rslot hr,?_,⟨k6.M,k6.loc⟩⟩
  refine ext_pre (ex:=exB st) (f:=fy) (fun r b hb=>h4 r b (k5 r b hb)) (fun b hb=>?_) ⟨Nat.le_refl _,fun _ _ _ _=>rfl,fun r q hq=>.inl ⟨r,hq⟩,fun q hq=>.inr (.inl (by simpa using .inr hq)),fun _ h=>.inl h,fun q hq=>?_,fun _ _ _=>rfl,.refl w⟩
  · rcases k4 b hb with h9 | ⟨r,h9⟩
    · exact h3 b h9
    · exact ⟨r,h4 r b h9⟩
  · rcases hq with hq | hq
    · exact .inl hq
    · exact .inr (.inr (.inl (by simp [hq])))
end
end Go.Idl
namespace Go.Idl
open Go
section
variable {cx:Cx} {w w':World} {F F':Nat→Prop} {ρ ρ':Rho} {fp fp':Fp} {X f f' fy:List Nat} {st st':St} {a:Act} {o:Oper} {tm:Nat→Value} {v:IV}
theorem Cat.uns {R:IV→Value→List Nat→Prop} (hR:∀ v,R .un v []):∀ (us:List Value),Cat R (List.replicate us.length .un) us []
  | []=>.nil
  | u::us=>by
    rw [List.length_cons,List.replicate_succ]
    exact Cat.cons (f:=[]) (fp:=[]) (hR u) (Cat.uns hR us)
theorem Rel.takeBox (h:Rel cx w F ρ fp X st tm) {l k c sz:Nat} {cs xs:List IV} (hb:st.box l k=some cs) (hs:sub cs c sz=some xs) :
    ∃ fp' fx us C ty,Rel cx w F ρ fp' (fx++X) { st.setBox l k (splice cs c (List.replicate sz .un)) with T:=killRt (.B l k) st.T } tm∧Cat (RBox cx w F ρ st l) xs us fx ∧
      w.heap[ρ l k]? = some (.cells C ty (0,0))∧us=(C.toList.drop c).take sz∧c+sz≤C.size∧(∀ b ∈ fx,∃ r,b ∈ fp r)∧(∀ r,∀ b ∈ fp' r,b ∈ fp r) ∧
      ShpLe st { st.setBox l k (splice cs c (List.replicate sz .un)) with T:=killRt (.B l k) st.T }:=by
  obtain ⟨C,ty,f0,hfp,hC,hcat⟩:=h.boxes l k cs hb
  obtain ⟨hle,rfl⟩:=sub_some hs
  have hcl:cs.length=C.toList.length:=hcat.len
  have hdec:cs=cs.take c++((cs.drop c).take sz++cs.drop (c+sz)):=by
    rw [← List.drop_drop,List.take_append_drop,List.take_append_drop]
  rw [hdec] at hcat
  obtain ⟨u1,u2,f1,g0,hu,hfe,h1,h2⟩:=hcat.split
  obtain ⟨us,u3,g,f2,hu2,hg0,hx,h3⟩:=h2.split
  subst hu2
  subst hg0
  have hl1:u1.length=c:=by rw [← h1.len];simp;omega
  have hl2:us.length=sz:=by rw [← hx.len];simp;omega
  have hus:us=(C.toList.drop c).take sz:=by rw [hu,List.drop_append,hl1];simp [← hl1,← hl2]
  have hCs:C.toList.length=C.size:=Array.length_toList
  have hnew:Cat (RBox cx w F ρ st l) (splice cs c (List.replicate sz .un)) C.toList (f1++f2):=by
    have e1:splice cs c (List.replicate sz .un)=cs.take c++(List.replicate us.length .un++cs.drop (c+sz)):=by
      simp [splice,hl2]
    rw [e1,hu]
    have:=h1.app ((Cat.uns (R:=RBox cx w F ρ st l) (fun v=>.inr (RDs.un (v:=v) .nil)) us).app h3)
    simpa using this
  have hsome:(st.box l k).isSome=true:=by rw [hb];rfl
  have hbs:=fun l' k'=>box_setBox (cs':=splice cs c (List.replicate sz .un)) hsome l' k'
  have shp:=shp_setBox st l k (splice cs c (List.replicate sz .un))
  have hin:ρ l k ∈ fp (.B l k):=by rw [hfp];simp
  have hpk:KillOK (IV.rooted (.B l k)):=.rooted _
  have hmem:∀ b,b ∈ f1++f2→b ∈ f0:=fun b hb=>by rw [hfe];simp at hb ⊢;rcases hb with h | h <;> simp [h]
  have hgmem:∀ b,b ∈ g→b ∈ f0:=fun b hb=>by rw [hfe];simp [hb]
  have hnd:=h.nodup (.B l k)
  rw [hfp] at hnd
  obtain ⟨hnin,hnd0⟩:=List.nodup_cons.1 hnd
  rw [hfe] at hnd0
  have hn1:=List.nodup_append.1 hnd0
  have hn2:=List.nodup_append.1 hn1.2.1
  have hdisj:∀ b,b ∈ g→b ∉ f1++f2:=fun b hb hb'=>by
    rcases List.mem_append.1 hb' with h' | h'
    · exact hn1.2.2 b h' b (by simp [hb]) rfl
    · exact hn2.2.2 b hb b h' rfl
  have tr:Tr w F ρ st (look st tm ρ w) w F ρ { st.setBox l k (splice cs c (List.replicate sz .un)) with T:=killRt (.B l k) st.T }
      (look { st.setBox l k (splice cs c (List.replicate sz .un)) with T:=killRt (.B l k) st.T } tm ρ w) (fun r c q=>∃ x:IV,refAt x r c q∧IV.rooted (.B l k) x=false):=by
    refine ⟨fun r c2 q hlive x1 v1 e2 es2 A hn hcap hlk hfo=>?_,fun _ _=>rfl,fun _ h=>h,fun l' k' hb=>⟨rfl,shp.box hb⟩⟩
    obtain ⟨e1,es1,rfl⟩:=folR_own hfo
    by_cases hr:r=.B l k
    · subst hr
      obtain ⟨x,hx1,hx2⟩:=hlive
      have:x.rooted (.B l k)=true:=refAt_rooted hx1
      rw [this] at hx2;cases hx2
    · refine ⟨.own e1 es1,es2,?_,hfo,Nat.le_refl _⟩
      cases r with
      | S s' =>
        obtain ⟨h1,h2⟩:=look_S hlk
        refine look_S_mk ?_ h2
        unfold killRt
        rw [tget_killBy]
        exact cells_kl hpk h1
      | B l' k' =>
        have hne:¬ (l'=l∧k'=k):=fun hc=>hr (by rw [hc.1,hc.2])
        have hb1:({ st.setBox l k (splice cs c (List.replicate sz .un)) with T:=killRt (.B l k) st.T }:St).box l' k'=st.box l' k':=by
          rw [box_T,hbs,if_neg hne]
        simp only [look,hb1]
        simp only [look] at hlk
        exact hlk
  have hsub:∀ q,∀ b ∈ updFp fp (.B l k) (ρ l k::(f1++f2)) q,b ∈ fp q:=fun q b hb=>by
    unfold updFp at hb;split at hb
    · rename_i hq;subst hq
      rw [hfp]
      rcases List.mem_cons.1 hb with rfl | hb
      · simp
      · exact List.mem_cons_of_mem _ (hmem b hb)
    · exact hb
  have hgB:∀ b ∈ g,b ∈ fp (.B l k):=fun b hb=>by rw [hfp];exact List.mem_cons_of_mem _ (hgmem b hb)
  have hgnot:∀ q,∀ b ∈ updFp fp (.B l k) (ρ l k::(f1++f2)) q,b ∉ g:=fun q b hb hbg=>by
    by_cases hq:q=.B l k
    · subst hq
      rw [show updFp fp (.B l k) (ρ l k::(f1++f2)) (.B l k)=ρ l k::(f1++f2) from if_pos rfl] at hb
      rcases List.mem_cons.1 hb with rfl | hb
      · exact hnin (hgmem _ hbg)
      · exact hdisj b hbg hb
    · exact h.disj q (.B l k) hq b (hsub q b hb) (hgB b hbg)
  refine ⟨updFp fp (.B l k) (ρ l k::(f1++f2)),g,us,C,ty,⟨fun s'=>?_,fun l' k' cs' hb'=>?_,fun l' k' hb'=>?_,fun r=>?_,fun r r' hr b hb hb'=>?_,fun r b hb=>h.notF r b (hsub r b hb),fun r b hb=>h.lt r b (hsub r b hb),h.Flt,?_,fun r b hb hx=>?_,fun b hb=>?_,
    fun b hb=>?_⟩,hx,hC,hus,by rw [← hCs,← hcl];exact hle,fun b hb=>⟨_,hgB b hb⟩,hsub,⟨shp.M,shp.loc⟩⟩
  · unfold killRt
    rw [tget_killBy]
    have hne:(Rt.S s':Rt) ≠ .B l k:=fun hc=>by cases hc
    rw [show updFp fp (.B l k) (ρ l k::(f1++f2)) (.S s')=fp (.S s') from if_neg hne]
    exact (h.slots s').trk tr hpk (liveK _) (fun _ _=>rfl)
  · rw [box_T,hbs] at hb'
    by_cases hlk:l'=l∧k'=k
    · obtain ⟨rfl,rfl⟩:=hlk
      simp only [and_self,if_true,Option.some.injEq] at hb'
      subst hb'
      exact ⟨C,ty,f1++f2,if_pos rfl,hC,hnew.mono fun x v f' hf' hx _=>hx.tr tr (fun _ _=>rfl)⟩
    · rw [if_neg hlk] at hb'
      obtain ⟨C',ty',f',k1,k2,k3⟩:=h.boxes l' k' cs' hb'
      have hne:(Rt.B l' k':Rt) ≠ .B l k:=fun hc=>hlk (by cases hc;exact ⟨rfl,rfl⟩)
      refine ⟨C',ty',f',by rw [show updFp fp (.B l k) (ρ l k::(f1++f2)) (.B l' k')=fp (.B l' k') from if_neg hne];exact k1,k2,?_⟩
      exact k3.mono fun x v f hf hx _=>hx.tr tr (fun _ _=>rfl)
  · rw [box_T,hbs] at hb'
    by_cases hlk:l'=l∧k'=k
    · rw [if_pos hlk] at hb';cases hb'
    · rw [if_neg hlk] at hb'
      have hne:(Rt.B l' k':Rt) ≠ .B l k:=fun hc=>hlk (by cases hc;exact ⟨rfl,rfl⟩)
      rw [show updFp fp (.B l k) (ρ l k::(f1++f2)) (.B l' k')=fp (.B l' k') from if_neg hne]
      exact h.nobox l' k' hb'
  · unfold updFp;split
    · refine List.nodup_cons.2 ⟨fun hm=>hnin (hmem _ hm),?_⟩
      rw [List.nodup_append]
      exact ⟨hn1.1,hn2.2.1,fun x hx y hy=>hn1.2.2 x hx y (by simp [hy])⟩
    · exact h.nodup r
  · exact h.disj r r' hr b (hsub r b hb) (hsub r' b hb')
  · rw [List.nodup_append]
    exact ⟨hn2.1,h.xnodup,fun x hx y hy hxy=>h.xdisj (.B l k) x (hgB x hx) (hxy ▸ hy)⟩
  · rcases List.mem_append.1 hx with hx | hx
    · exact hgnot r b hb hx
    · exact h.xdisj r b (hsub r b hb) hx
  · rcases List.mem_append.1 hb with hb | hb
    · exact h.notF _ b (hgB b hb)
    · exact h.xF b hb
  · rcases List.mem_append.1 hb with hb | hb
    · exact h.lt _ b (hgB b hb)
    · exact h.xlt b hb
theorem isData_isD {x:IV} (h:x.isData=true):x.isD=true:=by
  cases x <;> simp_all [IV.isData,IV.isD]
theorem RBox.isData_rc {l:Nat} {x:IV} {u:Value} {lk} (h:RBox cx w F ρ st l x u f) (hd:x.isData=true):RC cx w F ρ st lk x u f:=by
  rcases h with ⟨h,_⟩ | h
  · cases x <;> first | (simp [IV.isData] at hd;done) | exact h.elim
  · exact .inr h
theorem splice_same {α:Type} (C:List α) (c sz:Nat) (h:c+sz≤C.length):splice C c ((C.drop c).take sz)=C:=by
  have e:((C.drop c).take sz).length=sz:=by simp;omega
  rw [splice,e,← List.drop_drop,List.append_assoc,List.take_append_drop,List.take_append_drop]
theorem sub_splice {α:Type} (cs:List IV) (c sz:Nat) (ys:List IV) (h:c+sz≤cs.length) (hy:ys.length=sz):sub (splice cs c ys) c sz=some ys:=by
  have e1:(cs.take c).length=c:=by simp;omega
  rw [sub,if_pos (by simp [splice];omega),splice,List.append_assoc,List.drop_append_of_le_length (by omega),List.drop_eq_nil_of_le (by omega),List.nil_append,List.take_append_of_le_length (by omega),List.take_of_length_le (by omega)]
theorem Rel.freezeBox (h:Rel cx w F ρ fp X st tm) {l k c sz:Nat} {st1:St} (hs:st.freezeBox l k c sz=some st1) :
    ∃ (fx:List Nat) (fp':Fp),Rel cx w (fun b=>F b ∨ b ∈ fx) ρ fp' X st1 tm∧(∀ b ∈ fx,∃ r,b ∈ fp r)∧(∀ r,∀ b ∈ fp' r,b ∈ fp r)∧ShpLe st st1:=by
  unfold St.freezeBox at hs
  split at hs
  rotate_left
  · cases hs
  rename_i cs hb
  split at hs
  rotate_left
  · cases hs
  rename_i xs hx
  split at hs
  rotate_left
  · cases hs
  rename_i hc
  obtain ⟨hdat,hpl,hlv⟩:=hc
  simp only [Option.some.injEq] at hs
  subst hs
  obtain ⟨fp1,fx,us,C,ty,k1,k2,k3,k4,k5,k6,k7,k8⟩:=h.takeBox hb hx
  have k2':Cat (RC cx w F ρ st noLk) xs us fx:=k2.mono fun x v f _ hx hm=>hx.isData_rc (List.all_eq_true.1 hdat x hm)
  obtain ⟨c1,c2⟩:=frz_cells k2' hpl
  have r1:=k1.frzX
  obtain ⟨hle,hxs⟩:=sub_some hx
  have hfl:(frzL xs).length=sz:=by rw [frzL_length,hxs];simp;omega
  have hxl:xs.length=sz:=by rw [hxs];simp;omega
  have hbox:({ st.setBox l k (splice cs c (List.replicate sz .un)) with T:=killRt (.B l k) st.T }:St).box l k=some (splice cs c (List.replicate sz .un)):=by
    rw [box_T,box_setBox (by rw [hb];rfl),if_pos ⟨rfl,rfl⟩]
  have hsub:=sub_splice (α:=IV) cs c sz (List.replicate sz IV.un) hle (by simp)
  have hCs:C.toList.length=C.size:=Array.length_toList
  obtain ⟨fp2,g1,g2,g3,g4⟩:=Rel.storeBox (fy:=[]) (X:=X) (w':=w) (us:=us) (ys:=frzL xs) (by simpa using r1) hbox (by rw [hfl];exact hsub)
    (c1.mono fun x v f _ hx hm=>hx.isD (c2 x hm) (fun _ _ h=>k8.box h)) c2 (fun y hy=>List.all_eq_true.1 hlv y hy) (pk:=IV.rooted (.B l k)) (.rooted _) (.inl fun _ h=>h) k3
    (by rw [k4,splice_same C.toList c sz (by omega),Array.toArray_toList];exact k3) (fun _ _=>rfl) rfl
  refine ⟨fx,fp2,g1,k6,fun r b hb=>?_,k8.trans g2⟩
  rcases g3 r b hb with hb | hb
  · exact k7 r b hb
  · cases hb
theorem out_loadf (h:Rel cx w F ρ fp X st (regs a)) {x:Opd} {x':Operand} {t sz ag} (hx:okOpd cx x' x) (hsz:sizeIs cx.P t sz) (hag:aggIs cx.P t ag) (ho:o.op=.load t x') {v:IV} {st':St} {cf}
    (hev:ev cf st (.loadf ag sz x)=some (v,st')):OpOut cx w F ρ fp X st a o v st':=by
  simp only [ev] at hev
  split at hev
  rotate_left
  · cases hev
  rename_i l k c hrd
  split at hev
  rotate_left
  · cases hev
  rename_i st1 hf
  obtain ⟨fx,fp',k1,k2,k3,k4⟩:=h.freezeBox hf
  have hev':ev cf st1 (.load ag sz x)=some (v,st'):=by
    simp only [ev];exact hev
  obtain ⟨rfl,v',hr,hv⟩:=out_load k1 hx hsz hag ho hev'
  refine ⟨v',w,_,ρ,fp',[],.inl (hr w (Grown.refl w)),k1,hv,?_,k4⟩
  refine ext_pre (ex:=exB st) (f:=fx) k3 k2 ⟨Nat.le_refl _,fun _ _ _ _=>rfl,fun r q hq=>.inl ⟨r,hq⟩,fun q hq=>.inr (.inl (by simpa using .inr hq)),fun _ h=>.inl h,fun q hq=>?_,fun _ _ _=>rfl,.refl w⟩
  rcases hq with hq | hq
  · exact .inl hq
  · exact .inr (.inr (.inl (by simp [hq])))
end
end Go.Idl
namespace Go.Idl
open Go
section
variable {P:Program} {w:World} {t t' e ty:TypeId} {i:TypeInfo} {z:Value}
theorem wrapZ {n:Int} (h:-9223372036854775808≤n) (h':n < 9223372036854775808):IntKind.i64.wrap n=n:=by
  have e1:(2:Int) ^ IntKind.i64.bits=18446744073709551616:=by decide
  have e2:(2:Int) ^ (IntKind.i64.bits - 1)=9223372036854775808:=by decide
  have e3:IntKind.i64.signed=true:=rfl
  unfold IntKind.wrap
  rw [e1,e2,e3]
  simp only [Bool.true_and,decide_eq_true_eq]
  split <;> omega
theorem run_app_zero {k:IntKind} (ht:P.underlying t=some (.slice e)) (ht':P.underlying t'=some (.int k)) (hi:P.info? e=some i) (hz:i.zero=some z) (hb:i.bytes≤256) (hs:i.size=1)
    {base:Option Addr} {n:Nat} (h0:0 < n) (hlim:n≤lim) :
    ∃ w' cap,(Builtin.append_ #[t,t'] ty #[.slice base 0 0,.int .i64 n]).run P w=.ok (.slice (some ⟨w.heap.size,0,none⟩) n cap) w' ∧
      w'.heap=w.heap.push (.cells (Builtin.zeroCells z.cells n++Builtin.zeroCells z.cells (cap - n)) e (0,0))∧n≤cap∧Env w w':=by
  unfold lim at hlim
  have hn:¬ (n≤0):=by omega
  have hn0:¬ n=0:=by omega
  have hw:IntKind.i64.wrap (n:Int)=n:=wrapZ (by omega) (by omega)
  have hneg:¬ ((n:Int) < 0):=by omega
  have hbig:¬ (281474976710656 < (n:Int) * (i.bytes:Int)):=by
    have h1:n * i.bytes≤274877906944 * 256:=Nat.mul_le_mul hlim hb
    have h2:((n * i.bytes:Nat):Int)≤274877906944 * 256:=by omega
    rw [Int.natCast_mul] at h2
    omega
  have h63':¬ (9223372036854775807 < (n:Int)):=by omega
  have hcapb:Builtin.nextslicecap n 0 * i.bytes≤281474976710656:=by
    have h1:Builtin.nextslicecap n 0 * i.bytes≤2 * n * 256:=Nat.mul_le_mul (nextslicecap_le (by omega)) hb
    omega
  have h48':¬ (281474976710656 < Builtin.nextslicecap n 0 * i.bytes):=by omega
  have hfo:=run_first (P:=P) (w:=w.drew) (c:=0) (size:=i.size) (n:=0) (A:=base) (news:=[]) (by simp) (fun h=>absurd h (Nat.lt_irrefl 0))
  refine ⟨w.drew.alloc (.cells (Builtin.zeroCells z.cells n++Builtin.zeroCells z.cells (grownCap w n 0 e - n)) e),grownCap w n 0 e,?_,rfl,grownCap_ge _ _ _ _,⟨rfl,rfl,rfl⟩⟩
  simp [Builtin.append_,run_underlying ht,run_underlying ht',sizeOf,typeInfo,zeroValue,hi,hz,hs,asInt,asIntOf,hw,hneg,hbig,hn,hn0,h63',h48',Question.forced,newRow,grownCap] at hfo ⊢
  rw [hfo]
  simp
end
section
variable {cx:Cx} {w w':World} {F F':Nat→Prop} {ρ ρ':Rho} {fp fp':Fp} {X:List Nat} {st st':St} {a:Act} {o:Oper} {v:IV}
theorem out_appz0 (h:Rel cx w F ρ fp X st (regs a)) {x y:Opd} {x' y':Operand} {t t' e:TypeId} {k:IntKind} {i:TypeInfo} {z:Value} {e0 n:Nat} (hx:okOpd cx x' x) (hy:okOpd cx y' y)
    (ht:cx.P.underlying t=some (.slice e)) (ht':cx.P.underlying t'=some (.int k)) (hi:cx.P.info? e=some i) (hz:i.zero=some z) (hb:i.bytes≤256) (hs:i.size=1) (hzs:z.cells.toList.length=1)
    (ho:o.op=.call { callee:=.builtin .append,args:=#[x',y'],argTypes:=#[t,t'] }) (hX:rd st.T x=.lst e0 [] true) (hY:rd st.T y=.sc (.int .i64 (n:Int))) (h0:0 < n) (hlim:n≤lim) :
    OpOut cx w F ρ fp X st a o (.own 1 (elemsOf z.cells.toList n)) st:=by
  have hr:=rd_rel h hx
  rw [hX] at hr
  have hA:∃ A,a.eval x'=.slice A 0 0:=by
    rcases hr with ⟨hr,_⟩ | hr
    · exact hr.elim
    · rcases hr.lst_inv.2 with ⟨-,a9,c9,h8,h7⟩ | ⟨b,o1,cap1,C,ty,fr,h8,_,_,_,_,h7,_⟩
      · exact ⟨_,by rw [h8,h7 rfl]⟩
      · refine ⟨_,by rw [h8,h7 rfl];rfl⟩
  obtain ⟨A,hA⟩:=hA
  have hr2:=rd_rel h hy
  rw [hY] at hr2
  obtain ⟨hyv,-,-⟩:=rslot_sc hr2
  obtain ⟨w1,cap,g1,g2,g3,g4⟩:=run_app_zero (P:=cx.P) (w:=w) (ty:=o.type) (base:=A) ht ht' hi hz hb hs h0 hlim
  have hcs:z.cells.size=1:=by simpa using hzs
  obtain ⟨f2,q1,q2,q3,q4,q5⟩:=Rel.newOwn (f:=[]) (X:=X) (C:=Builtin.zeroCells z.cells n++Builtin.zeroCells z.cells (cap - n)) (ty:=e) (cap:=cap) (w':=w1) (e:=1) (es:=elemsOf z.cells.toList n) h (by
      have h1:(Builtin.zeroCells z.cells n++Builtin.zeroCells z.cells (cap - n)).toList.take ((elemsOf z.cells.toList n).length * 1)=(List.replicate n z.cells.toList).flatten:=by
        rw [Array.toList_append,zeroCells_list,zeroCells_list,List.take_append_of_le_length (by simp [elemsOf,hcs]),List.take_of_length_le (by simp [elemsOf,hcs])]
      rw [h1]
      exact elems_rel _ n) (fun x hx=>by rw [elems_len _ n x hx,hzs]) (by simpa [elemsOf] using g3) (by simp [size_zeroCells,hcs];omega) g2 g4
  have hl:(elemsOf z.cells.toList n).length=n:=by simp [elemsOf]
  rw [hl] at q2
  refine ⟨_,w1,F,ρ,fp,f2,.inl ?_,q1,.inr q2,ext_pre (fun _ _ hb=>hb) (fun b hb=>by cases hb) (q4 (exB st)),.refl _⟩
  simp only [execOp,ho,resolve]
  simp [invoke,builtin,hA,hyv,g1]
end
end Go.Idl
namespace Go.Idl
open Go
section
variable {cx:Cx} {w:World} {F:Nat→Prop} {ρ:Rho} {fp:Fp} {X:List Nat} {st st':St} {a:Act} {o:Oper} {v:IV} {cf:CF}
theorem res_extr (h:Rel cx w F ρ fp X st (regs a)) {x:Opd} {i:Nat} (hb:bOp cx o (.extr x i)=true) (hev:ev cf st (.extr x i)=some (v,st')):OpOut cx w F ρ fp X st a o v st':=by
  simp only [bOp] at hb
  split at hb
  · simp only [Bool.and_eq_true,beq_iff_eq] at hb
    obtain ⟨rfl,h1⟩:=hb
    exact out_extr h (bOpd_ok h1) ‹_› hev
  · cases hb
theorem res_alloc (h:Rel cx w F ρ fp X st (regs a)) {z:List Value} (hb:bOp cx o (.alloc z)=true) (hev:ev cf st (.alloc z)=some (v,st')):OpOut cx w F ρ fp X st a o v st':=by
  simp only [bOp] at hb
  split at hb
  · exact out_alloc h (bZero_ok hb) ‹_› hev
  · cases hb
theorem res_box (h:Rel cx w F ρ fp X st (regs a)) {x:Opd} (hb:bOp cx o (.box x)=true) (hev:ev cf st (.box x)=some (v,st')):OpOut cx w F ρ fp X st a o v st':=by
  simp only [bOp] at hb
  split at hb
  · exact out_box h (bOpd_ok hb) ‹_› hev
  · cases hb
theorem res_build (h:Rel cx w F ρ fp X st (regs a)) {z:List Value} {parts:List (Nat×Nat×Opd)} (hb:bOp cx o (.build z parts)=true) (hev:ev cf st (.build z parts)=some (v,st')):OpOut cx w F ρ fp X st a o v st':=by
  simp only [bOp] at hb
  split at hb
  · unfold bBuild at hb
    simp only [Bool.and_eq_true] at hb
    obtain ⟨h0,hb⟩:=hb
    split at hb
    · split at hb
      · exact out_build h (bZero_ok h0) ‹_› ‹_› (bParts_ok hb) ‹_› hev
      · cases hb
    · split at hb
      · rename_i inf hinf
        exact out_buildA h (bZero_ok h0) ‹_› ⟨inf,hinf,rfl⟩ (bPartsA_ok hb) ‹_› hev
      · cases hb
    · cases hb
  · cases hb
theorem res_bsl (h:Rel cx w F ρ fp X st (regs a)) {e:Nat} {z:List Value} {len:Nat} {parts:List (Nat×Opd)} (hb:bOp cx o (.bsl e z len parts)=true) (hev:ev cf st (.bsl e z len parts)=some (v,st')) :
    OpOut cx w F ρ fp X st a o v st':=by
  simp only [bOp] at hb
  split at hb
  · simp only [Bool.and_eq_true,beq_iff_eq] at hb
    obtain ⟨rfl,ht⟩:=hb
    obtain ⟨el,hel,hk⟩:=isSliceOf_ok ht
    simp only [Bool.and_eq_true,beq_iff_eq,decide_eq_true_eq] at hk
    obtain ⟨⟨⟨⟨h1,h2⟩,h3⟩,h4⟩,h5⟩:=hk
    exact out_bsl h (bZero_ok h1) (bSize_ok h2) h3 hel h4 (bParts1_ok h5) ‹_› hev
  · cases hb
theorem res_mksl (h:Rel cx w F ρ fp X st (regs a)) {e:Nat} {z:List Value} {l c:Opd} (hb:bOp cx o (.mksl e z l c)=true) (hev:ev cf st (.mksl e z l c)=some (v,st')):OpOut cx w F ρ fp X st a o v st':=by
  simp only [bOp] at hb
  split at hb
  · simp only [Bool.and_eq_true] at hb
    obtain ⟨⟨ht,hl⟩,hc⟩:=hb
    obtain ⟨el,hel,hk⟩:=isSliceOf_ok ht
    simp only [Bool.and_eq_true,beq_iff_eq] at hk
    obtain ⟨⟨⟨h1,h2⟩,h3⟩,h4⟩:=hk
    split at h4
    · simp only [decide_eq_true_eq] at h4
      exact out_mksl h (bZero_ok h1) (bSize_ok h2) h3 hel ‹_› h4 (bOpd_ok hl) (bOpd_ok hc) ‹_› hev
    · cases h4
  · cases hb
theorem res_store (h:Rel cx w F ρ fp X st (regs a)) {sz:Nat} {ad x:Opd} (hb:bOp cx o (.store sz ad x)=true) (hev:ev cf st (.store sz ad x)=some (v,st')):OpOut cx w F ρ fp X st a o v st':=by
  simp only [bOp] at hb
  split at hb
  · simp only [Bool.and_eq_true] at hb
    exact out_store h (bSize_ok hb.1.1) (bOpd_ok hb.1.2) (bOpd_ok hb.2) ‹_› hev
  · cases hb
theorem res_asgf (h:Rel cx w F ρ fp X st (regs a)) {x:Opd} (hb:bOp cx o (.asgf x)=true) (hev:ev cf st (.asgf x)=some (v,st')):OpOut cx w F ρ fp X st a o v st':=by
  simp only [bOp] at hb
  split at hb
  · exact out_asgf h (bOpd_ok hb) (.inl ‹_›) hev
  · exact out_asgf h (bOpd_ok hb) (.inr ‹_›) hev
  · cases hb
theorem absorbsK_sc {st:St}:∀ {xs:List IV} {pk:IV→Bool},(∀ v,pk (.sc v)=false)→xs.all IV.isSc=true→st.absorbsK pk xs=some (xs,st)
  | [],_,_,_=>rfl
  | x::xs,pk,hp,hx=>by
    simp only [List.all_cons,Bool.and_eq_true] at hx
    cases x <;> simp only [IV.isSc,Bool.false_eq_true,false_and] at hx
    rename_i v
    have h1:klc pk (.sc v)=.sc v:=by simp [klc,hp v]
    simp only [St.absorbsK,h1,St.absorb]
    rw [absorbsK_sc (fun u=>by simp [hp u,killOf]) hx.2]
theorem vcells_sc {r:Rt} {mk:Nat→Nat×Path}:∀ {cs:List IV} {i:Nat},(vcells r mk i cs).all IV.isSc=true→vcells r mk i cs=cs∧cs.any IV.isOwn=false
  | [],_,_=>⟨rfl,rfl⟩
  | x::cs,i,h=>by
    cases x with
    | own e es=>simp [vcells,IV.isSc] at h
    | sc v =>
      simp only [vcells,List.all_cons,IV.isSc,Bool.true_and] at h
      obtain ⟨h1,h2⟩:=vcells_sc h
      exact ⟨by simp only [vcells,h1],by simp [IV.isOwn,h2]⟩
    | _=>simp [vcells,IV.isSc] at h
theorem rd_sc {T:Tm} {o:Opd} (h:(rd T o).wcells.all IV.isSc=true):tk T o=(rd T o,T):=by
  cases o with
  | c v=>rfl
  | f l=>rfl
  | t s =>
    simp only [rd,tk] at h ⊢
    cases hx:tget T s with
    | own e es=>rw [hx] at h;simp [viewOf,IV.wcells,IV.isSc] at h
    | agg cs =>
      rw [hx] at h
      simp only [viewOf,IV.wcells] at h
      obtain ⟨h1,h2⟩:=vcells_sc h
      simp [viewOf,h1,IV.holds,h2]
    | tup vs=>rw [hx] at h;cases vs <;> simp [viewOf,IV.wcells,IV.isSc] at h
    | _=>simp [viewOf,IV.holds]
theorem fillRd_elems {st:St} {e:Nat}:∀ {ps:List (Nat×Opd)} {es es':List (List IV)},fillRd st.T es e ps=some es'→st.fillElems es e ps=some (es',st)
  | [],es,es',h=>by simp only [fillRd,Option.some.injEq] at h;simp [St.fillElems,h]
  | (i,o)::r,es,es',h=>by
    simp only [fillRd] at h
    split at h
    rotate_left
    · cases h
    rename_i hc
    obtain ⟨h1,h2,h3⟩:=hc
    have ha:({ st with T:=st.T }:St).absorbs (rd st.T o).wcells=some ((rd st.T o).wcells,st):=absorbsK_sc (fun _=>rfl) h3
    have hd:(rd st.T o).wcells.all IV.isData=true:=by
      rw [List.all_eq_true] at h3 ⊢
      intro x hx
      have:=h3 x hx
      cases x <;> simp_all [IV.isSc,IV.isData]
    simp only [St.fillElems,rd_sc h3]
    rw [ha]
    simp only
    rw [if_pos ⟨h1,h2,hd⟩]
    exact fillRd_elems h
theorem res_bsls (h:Rel cx w F ρ fp X st (regs a)) {e:Nat} {z:List Value} {n:Nat} {ps:List (Nat×Opd)} (hb:bOp cx o (.bsls e z n ps)=true) (hev:ev cf st (.bsls e z n ps)=some (v,st')):OpOut cx w F ρ fp X st a o v st':=by
  refine res_bsl h (e:=e) (z:=z) (len:=n) (parts:=ps) (by simpa only [bOp] using hb) (cf:=cf) ?_
  simp only [ev] at hev ⊢
  split at hev
  rotate_left
  · cases hev
  rename_i es hes
  rw [fillRd_elems hes]
  exact hev
theorem res_loadf (h:Rel cx w F ρ fp X st (regs a)) {ag:Bool} {sz:Nat} {x:Opd} (hb:bOp cx o (.loadf ag sz x)=true) (hev:ev cf st (.loadf ag sz x)=some (v,st')):OpOut cx w F ρ fp X st a o v st':=by
  simp only [bOp] at hb
  split at hb
  · simp only [Bool.and_eq_true] at hb
    exact out_loadf h (bOpd_ok hb.2) (bSize_ok hb.1.1) (bAgg_ok hb.1.2) ‹_› hev
  · cases hb
theorem res_storef (h:Rel cx w F ρ fp X st (regs a)) {sz:Nat} {ad x:Opd} (hb:bOp cx o (.storef sz ad x)=true) (hev:ev cf st (.storef sz ad x)=some (v,st')):OpOut cx w F ρ fp X st a o v st':=by
  simp only [bOp] at hb
  split at hb
  · simp only [Bool.and_eq_true] at hb
    exact out_storef h (bSize_ok hb.1.1) (bOpd_ok hb.1.2) (bOpd_ok hb.2) ‹_› hev
  · cases hb
theorem res_clr (h:Rel cx w F ρ fp X st (regs a)) {x:Opd} {z:List Value} (hb:bOp cx o (.clr x z)=true) (hev:ev cf st (.clr x z)=some (v,st')):OpOut cx w F ρ fp X st a o v st':=by
  simp only [bOp] at hb
  split at hb
  · simp only [Bool.and_eq_true] at hb
    obtain ⟨ht,h1⟩:=hb
    obtain ⟨el,hel,hk⟩:=isSliceOf_ok ht
    exact out_clr h (bZero_ok hk) hel (bOpd_ok h1) ‹_› hev
  · cases hb
theorem res_clrs (h:Rel cx w F ρ fp X st (regs a)) {x:Opd} {z:List Value} (hb:bOp cx o (.clrs x z)=true) (hev:ev cf st (.clrs x z)=some (v,st')):OpOut cx w F ρ fp X st a o v st':=by
  simp only [bOp] at hb
  split at hb
  · simp only [Bool.and_eq_true] at hb
    obtain ⟨ht,h1⟩:=hb
    obtain ⟨el,hel,hk⟩:=isSliceOf_ok ht
    exact out_clrs h (bZero_ok hk) hel (bOpd_ok h1) ‹_› hev
  · cases hb
theorem res_slcb (h:Rel cx w F ρ fp X st (regs a)) {e:Nat} {x:Opd} {lo hi:Option Opd} (hb:bOp cx o (.slcb e x lo hi)=true) (hev:ev cf st (.slcb e x lo hi)=some (v,st')):OpOut cx w F ρ fp X st a o v st':=by
  simp only [bOp] at hb
  split at hb
  · simp only [Bool.and_eq_true] at hb
    obtain ⟨⟨⟨ht,h1⟩,h2⟩,h3⟩:=hb
    obtain ⟨el,hel,hsz⟩:=isSliceOf_ok ht
    exact out_slcb h (bOpd_ok h1) (bOpdO_ok h2) (bOpdO_ok h3) hel (bSize_ok hsz) ‹_› hev
  · cases hb
theorem res_appi (h:Rel cx w F ρ fp X st (regs a)) {e:Nat} {x y:Opd} (hb:bOp cx o (.appi e x y)=true) (hev:ev cf st (.appi e x y)=some (v,st')):OpOut cx w F ρ fp X st a o v st':=by
  simp only [bOp] at hb
  split at hb
  · simp only [Bool.and_eq_true] at hb
    obtain ⟨⟨⟨ht,ht'⟩,h1⟩,h2⟩:=hb
    obtain ⟨el,hel,hk⟩:=isSliceOf_ok ht
    obtain ⟨el',hel',-⟩:=isSliceOf_ok ht'
    split at hk
    · rename_i i hi
      simp only [Bool.and_eq_true,beq_iff_eq,decide_eq_true_eq] at hk
      obtain ⟨⟨h3,h4⟩,h5⟩:=hk
      split at h5
      · rename_i z hz
        simp only [beq_iff_eq] at h5
        exact out_appi h ⟨hel,⟨_,hel'⟩,hi,hz,h4,h5⟩ h3 (bOpd_ok h1) (bOpd_ok h2) ‹_› hev
      · cases h5
    · cases hk
  · cases hb
theorem isIntT_ok {P:Program} {t:TypeId} (h:isIntT P t=true):∃ k,P.underlying t=some (.int k):=by
  unfold isIntT at h
  split at h
  · exact ⟨_,‹_›⟩
  · cases h
theorem res_appz (h:Rel cx w F ρ fp X st (regs a)) {zs:List Value} {x y:Opd} (hb:bOp cx o (.appz zs x y)=true) (hev:ev cf st (.appz zs x y)=some (v,st')):OpOut cx w F ρ fp X st a o v st':=by
  simp only [bOp] at hb
  split at hb
  · simp only [Bool.and_eq_true] at hb
    obtain ⟨⟨⟨ht,ht'⟩,h1⟩,h2⟩:=hb
    obtain ⟨el,hel,hk⟩:=isSliceOf_ok ht
    split at hk
    · rename_i i hi
      simp only [Bool.and_eq_true,beq_iff_eq,decide_eq_true_eq] at hk
      obtain ⟨⟨h3,h4⟩,h5⟩:=hk
      obtain ⟨i',z,hi',hz,h6⟩:=bZero_ok h5
      rw [hi] at hi'
      cases hi'
      obtain ⟨k,hk⟩:∃ k,cx.P.underlying _=some (.int k):=isIntT_ok ht'
      simp only [ev] at hev
      split at hev
      rotate_left
      · cases hev
      rename_i e0 n hX hY
      split at hev
      rotate_left
      · cases hev
      rename_i hc
      obtain ⟨hzl,hn0,hnl⟩:=hc
      simp only [Option.some.injEq,Prod.mk.injEq] at hev
      obtain ⟨rfl,rfl⟩:=hev
      obtain ⟨n,rfl⟩:=Int.eq_ofNat_of_zero_le (by omega:0≤n)
      subst h6
      exact out_appz0 h (bOpd_ok h1) (bOpd_ok h2) hel hk hi hz h4 h3 hzl ‹_› hX hY (by omega) (by unfold lim;omega)
    · cases hk
  · cases hb
theorem res_app (h:Rel cx w F ρ fp X st (regs a)) {e:Nat} {x y:Opd} (hb:bOp cx o (.app e x y)=true) (hev:ev cf st (.app e x y)=some (v,st')):OpOut cx w F ρ fp X st a o v st':=by
  simp only [bOp] at hb
  split at hb
  · simp only [Bool.and_eq_true] at hb
    obtain ⟨⟨⟨ht,ht'⟩,h1⟩,h2⟩:=hb
    obtain ⟨el,hel,hk⟩:=isSliceOf_ok ht
    obtain ⟨el',hel',-⟩:=isSliceOf_ok ht'
    split at hk
    · rename_i i hi
      simp only [Bool.and_eq_true,beq_iff_eq,decide_eq_true_eq] at hk
      obtain ⟨⟨h3,h4⟩,h5⟩:=hk
      split at h5
      · rename_i z hz
        simp only [beq_iff_eq] at h5
        exact out_app (ty:=0) h ⟨hel,⟨_,hel'⟩,hi,hz,h4,h5⟩ h3 (bOpd_ok h1) (bOpd_ok h2) ‹_› hev
      · cases h5
    · cases hk
  · cases hb
theorem res_call (hcf:CallOK cx cf) (h:Rel cx w F ρ fp X st (regs a)) {f:Lab} {args:List (Mode×Opd)} {p:Bool} (hb:bOp cx o (.call f args p)=true) (hev:ev cf st (.call f args p)=some (v,st')) :
    CallOut cx w F ρ fp X st a o v st':=by
  simp only [bOp] at hb
  split at hb
  · rename_i c ho
    split at hb
    · rename_i g hc
      simp only [Bool.and_eq_true,beq_iff_eq] at hb
      obtain ⟨hg,ha⟩:=hb
      subst hg
      simp only [ev] at hev
      have hy:a.eval (.func (cx.fid f))=.func (.func (cx.fid f)) #[] #[]:=rfl
      cases p with
      | true=>exact out_call_pure hcf h (bArgs_ok ha) ho hc rfl hy hev
      | false=>exact out_call_box hcf h (cvs:=[]) (bArgs_ok ha) ho hc rfl hy .nil hev
    · cases hb
  · cases hb
theorem res_callh (hcf:CallOK cx cf) (h:Rel cx w F ρ fp X st (regs a)) {f:Lab} {args:List (Mode×Opd)} (hb:bOp cx o (.callh f args)=true) (hev:ev cf st (.callh f args)=some (v,st')) :
    CallOut cx w F ρ fp X st a o v st':=by
  simp only [bOp] at hb
  split at hb
  · rename_i c ho
    split at hb
    · rename_i g hc
      simp only [Bool.and_eq_true,beq_iff_eq] at hb
      obtain ⟨hg,ha⟩:=hb
      subst hg
      simp only [ev] at hev
      have hy:a.eval (.func (cx.fid f))=.func (.func (cx.fid f)) #[] #[]:=rfl
      exact out_call_hide hcf h (bArgs_ok ha) ho hc rfl hy hev
    · cases hb
  · cases hb
theorem res_callp (hcf:CallOK cx cf) (h:Rel cx w F ρ fp X st (regs a)) {f:Lab} {x:Opd} (hb:bOp cx o (.callp f x)=true) (hev:ev cf st (.callp f x)=some (v,st')) :
    CallOut cx w F ρ fp X st a o v st':=by
  simp only [bOp] at hb
  split at hb
  · rename_i c ho
    split at hb
    · rename_i g hc
      simp only [Bool.and_eq_true,beq_iff_eq] at hb
      obtain ⟨hg,ha⟩:=hb
      subst hg
      split at ha
      · rename_i x' hx'
        simp only [ev] at hev
        have hy:a.eval (.func (cx.fid f))=.func (.func (cx.fid f)) #[] #[]:=rfl
        exact out_callp hcf h (bOpd_ok ha) ho hc hx' hy hev
      · cases ha
    · cases hb
  · cases hb
theorem res_callm (hcf:CallOK cx cf) (h:Rel cx w F ρ fp X st (regs a)) {f:Lab} {x k:Opd} (hb:bOp cx o (.callm f x k)=true) (hev:ev cf st (.callm f x k)=some (v,st')) :
    CallOut cx w F ρ fp X st a o v st':=by
  simp only [bOp] at hb
  split at hb
  · rename_i c ho
    split at hb
    · rename_i g hc
      simp only [Bool.and_eq_true,beq_iff_eq] at hb
      obtain ⟨hg,ha⟩:=hb
      subst hg
      split at ha
      · rename_i x' k' hx'
        simp only [Bool.and_eq_true] at ha
        simp only [ev] at hev
        split at hev
        · have hy:a.eval (.func (cx.fid f))=.func (.func (cx.fid f)) #[] #[]:=rfl
          exact out_callm hcf h (bOpd_ok ha.1) (bOpd_ok ha.2) ho hc hx' hy hev
        · refine res_call (p:=true) (args:=[(.rd,x),(.val,k)]) hcf h ?_ hev
          simp only [bOp,ho,hc,hx',bArgs,beq_self_eq_true,ha.1,ha.2,Bool.and_true,Bool.true_and]
      · cases ha
    · cases hb
  · cases hb
theorem res_callz (hcf:CallOK cx cf) (h:Rel cx w F ρ fp X st (regs a)) {f:Lab} {x k:Opd} (hb:bOp cx o (.callz f x k)=true) (hev:ev cf st (.callz f x k)=some (v,st')) :
    CallOut cx w F ρ fp X st a o v st':=by
  simp only [bOp] at hb
  split at hb
  · rename_i c ho
    split at hb
    · rename_i g hc
      simp only [Bool.and_eq_true,beq_iff_eq] at hb
      obtain ⟨hg,ha⟩:=hb
      subst hg
      split at ha
      · rename_i x' k' hx'
        simp only [Bool.and_eq_true] at ha
        simp only [ev] at hev
        split at hev
        · refine res_call (p:=false) (args:=[(.ld,x),(.val,k)]) hcf h ?_ hev
          simp only [bOp,ho,hc,hx',bArgs,beq_self_eq_true,ha.1,ha.2,Bool.and_true,Bool.true_and]
        · refine res_call (p:=true) (args:=[(.rd,x),(.val,k)]) hcf h ?_ hev
          simp only [bOp,ho,hc,hx',bArgs,beq_self_eq_true,ha.1,ha.2,Bool.and_true,Bool.true_and]
      · cases ha
    · cases hb
  · cases hb
theorem res_callv (hcf:CallOK cx cf) (h:Rel cx w F ρ fp X st (regs a)) {f:Opd} {args:List (Mode×Opd)} (hb:bOp cx o (.callv f args)=true) (hev:ev cf st (.callv f args)=some (v,st')) :
    CallOut cx w F ρ fp X st a o v st':=by
  simp only [bOp] at hb
  split at hb
  · rename_i c ho
    split at hb
    · rename_i y hc
      simp only [Bool.and_eq_true] at hb
      obtain ⟨hy,ha⟩:=hb
      simp only [ev] at hev
      split at hev
      · rename_i g caps hX
        have hr:=rd_rel h (bOpd_ok hy)
        rw [hX] at hr
        rcases hr with ⟨⟨cvs,hv,hcaps⟩,_⟩ | hr
        · exact out_call_box hcf h (bArgs_ok ha) ho hc rfl hv hcaps hev
        · cases hr
      · cases hev
    · cases hb
  · cases hb
theorem res_strb (h:Rel cx w F ρ fp X st (regs a)) {x:Opd} (hb:bOp cx o (.strb x)=true) (hev:ev cf st (.strb x)=some (v,st')):OpL cx w F ρ fp X st a o v st':=by
  simp only [bOp] at hb
  split at hb
  · simp only [Bool.and_eq_true] at hb
    obtain ⟨⟨h1,h2⟩,h3⟩:=hb
    obtain ⟨e,he,hk⟩:=isSliceOf_ok h1
    split at hk
    · exact out_strb h (bOpd_ok h3) he ‹_› (isStr_ok h2) ‹_› hev
    · cases hk
  · cases hb
theorem op_res (hcf:CallOK cx cf) (h:Rel cx w F ρ fp X st (regs a)) {k:K} (hb:bOp cx o k=true) (hev:ev cf st k=some (v,st')):OpRes cx w F ρ fp X st a o v st' k.cls:=by
  cases k with
  | mv x=>exact res_mv h hb hev
  | nilo e=>exact res_nilo h hb hev
  | mvo e x=>exact .inl (res_mvo h hb hev)
  | asg x=>exact .inl (res_asg h hb hev)
  | asgm x=>exact .inl (res_asgm h hb hev)
  | asgf x=>exact .inl (res_asgf h hb hev)
  | clr x z=>exact .inl (res_clr h hb hev)
  | pick c x y=>exact res_pick h hb hev
  | alloc z=>exact .inl (res_alloc h hb hev)
  | box x=>exact .inl (res_box h hb hev)
  | build z ps=>exact .inl (res_build h hb hev)
  | bsl e z n ps=>exact .inl (res_bsl h hb hev)
  | load ag sz x=>exact res_load h hb hev
  | bsls e z n ps=>exact .inl (res_bsls h hb hev)
  | loadf ag sz x=>exact .inl (res_loadf h hb hev)
  | store sz ad x=>exact .inl (res_store h hb hev)
  | storef sz ad x=>exact .inl (res_storef h hb hev)
  | nilck x=>exact res_nilck h hb hev
  | bin op x y=>exact res_bin h hb hev
  | eqa neg n x y=>exact res_eqa h hb hev
  | eqb neg x y=>exact res_eqb h hb hev
  | unop op x=>exact res_unop h hb hev
  | conv k x=>exact res_conv h hb hev
  | mkfn f caps=>exact res_mkfn h hb hev
  | mksl e z l c=>exact .inl (res_mksl h hb hev)
  | slc e x lo hi mx=>exact res_slc h hb hev
  | slcs x lo hi=>exact res_slcs h hb hev
  | fadr off x=>exact res_fadr h hb hev
  | fld ag off sz x=>exact res_fld h hb hev
  | iadr e x i=>exact res_iadr h hb hev
  | idxs x i=>exact res_idxs h hb hev
  | extr x i=>exact .inl (res_extr h hb hev)
  | call f args p=>exact .inr (res_call hcf h hb hev)
  | callq f args=>exact .inr (res_call (p:=true) hcf h hb hev)
  | callh f args=>exact .inr (res_callh hcf h hb hev)
  | callp f x=>exact .inr (res_callp hcf h hb hev)
  | callm f x k=>exact .inr (res_callm hcf h hb hev)
  | callz f x k=>exact .inr (res_callz hcf h hb hev)
  | callv f args=>exact .inr (res_callv hcf h hb hev)
  | len x=>exact res_len h hb hev
  | capn x=>exact res_capn h hb hev
  | lens x=>exact res_lens h hb hev
  | app e x y=>exact .inl (res_app h hb hev)
  | appz z x y=>exact .inl (res_appz h hb hev)
  | minmax mn x y=>exact res_minmax h hb hev
  | halt=>simp [ev] at hev
  | appi e x y=>exact .inl (res_appi h hb hev)
  | slcb e x lo hi=>exact .inl (res_slcb h hb hev)
  | clrs x z=>exact .inl (res_clrs h hb hev)
  | strb x=>exact res_strb h hb hev
end
end Go.Idl
namespace Go.Idl
open Go
def QF:Exit→Act→World→Prop:=fun _ _ _=>False
def YieldsAt (P:Program) (ops:Array Oper) (o:Oper) (v:Value) (a:Act) (w:World):Prop :=
  (Region.wanted o (yielded ops a.tmps)=true∧(execOp a.eval o).run P w=.ok (.value v) w) ∨ (Region.wanted o (yielded ops a.tmps)=false∧v=undef)
def wpY (P:Program) (ops:Array Oper) (cls:Nat→Cls) (K:Act→World→Prop):List Nat→Act→World→Prop
  | [],a,w=>K a w
  | i::rest,a,w=>∃ o,ops[i]? = some o∧match cls i with
    | .reg=>∃ v,Yields P ops o v a∧wpY P ops cls K rest (a.put o.dst v) w
    | .ld=>∃ v,YieldsAt P ops o v a w∧wpY P ops cls K rest (a.put o.dst v) w
    | .oth=>wpOp P ops QF i (wpY P ops cls K rest) a w
section
variable {P:Program} {ops:Array Oper} {cls:Nat→Cls} {K K':Act→World→Prop} {a:Act} {w:World}
theorem YieldsAt.wpOp {Q:Exit→Act→World→Prop} {i:Nat} {o:Oper} {v:Value} (hi:ops[i]? = some o) (hy:YieldsAt P ops o v a w) (h:K (a.put o.dst v) w):wpOp P ops Q i K a w:=by
  unfold Go.wpOp
  simp only [hi]
  rcases hy with ⟨hw,hv⟩ | ⟨hw,rfl⟩
  · simp only [hw,if_true,Oper.wp,hv,Oper.upon];exact .inl h
  · simp only [hw,Bool.false_eq_true,if_false];exact h
theorem YieldsAt.of_same {o:Oper} {v:Value} {a':Act} (hy:YieldsAt P ops o v a w) (he:execOp a'.eval o=execOp a.eval o)
    (hw:Region.wanted o (yielded ops a'.tmps)=Region.wanted o (yielded ops a.tmps)):YieldsAt P ops o v a' w:=by
  unfold YieldsAt at *
  rw [he,hw];exact hy
theorem _root_.Go.Yields.atW {o:Oper} {v:Value} (hy:Yields P ops o v a) (w:World):YieldsAt P ops o v a w:=by
  rcases hy with ⟨h,hv⟩ | h
  · exact .inl ⟨h,hv w⟩
  · exact .inr h
theorem YieldsAt.det {o:Oper} {v v':Value} (hy:YieldsAt P ops o v a w) (hy':YieldsAt P ops o v' a w):v=v':=by
  rcases hy with ⟨h,hv⟩ | ⟨h,rfl⟩ <;> rcases hy' with ⟨h',hv'⟩ | ⟨h',rfl⟩
  · rw [hv] at hv';simpa using hv'
  · rw [h] at h';cases h'
  · rw [h] at h';cases h'
  · rfl
theorem wpOp_QF {Q:Exit→Act→World→Prop} {i:Nat} (h:wpOp P ops QF i K a w):wpOp P ops Q i K a w:=by
  unfold wpOp at *
  split at h
  · exact h
  · split at h
    · rename_i o ho hw
      simp only [hw,if_true]
      rcases h with h | ⟨_,a0,w0,h⟩
      · left
        unfold Oper.wp at *
        generalize (execOp a.eval o).run P w=r at *
        cases r with
        | ok n w' =>
          cases n <;> simp only [Oper.upon] at h ⊢ <;> first
            | exact h
            | (refine Calls.mono h fun e w'' he=>?_
               cases e with
               | returned v=>exact he
               | panicked c=>exact he.elim
               | outgrown=>obtain ⟨_,_,he⟩:=he;exact he.elim)
        | halt x w'=>cases x <;> simp only [Oper.upon] at h ⊢ <;> exact h.elim
      · exact h.elim
    · rename_i o ho hw
      simp only [hw,Bool.false_eq_true,if_false]
      exact h
theorem wpY_mono {l:List Nat} (hK:∀ a w,K a w→K' a w):∀ {a:Act} {w:World},wpY P ops cls K l a w→wpY P ops cls K' l a w:=by
  induction l with
  | nil=>intro a w h;exact hK a w h
  | cons i l ih =>
    intro a w h
    obtain ⟨o,ho,h⟩:=h
    refine ⟨o,ho,?_⟩
    split at h
    · obtain ⟨v,hy,h⟩:=h;exact ⟨v,hy,ih h⟩
    · obtain ⟨v,hy,h⟩:=h;exact ⟨v,hy,ih h⟩
    · exact wpOp_mono (fun _ _=>ih) h
theorem wpY_tail {i:Nat} {l l':List Nat} (hK:∀ a w,wpY P ops cls K l a w→wpY P ops cls K l' a w) (h:wpY P ops cls K (i::l) a w):wpY P ops cls K (i::l') a w:=by
  obtain ⟨o,ho,h⟩:=h
  refine ⟨o,ho,?_⟩
  split at h
  · obtain ⟨v,hy,h⟩:=h;exact ⟨v,hy,hK _ _ h⟩
  · obtain ⟨v,hy,h⟩:=h;exact ⟨v,hy,hK _ _ h⟩
  · exact wpOp_mono hK h
theorem wpY_ops {Q:Exit→Act→World→Prop} {l:List Nat} (hK:∀ a w,K a w→Q .normal a w):∀ {a:Act} {w:World},wpY P ops cls K l a w→wpOps P ops Q l a w:=by
  induction l with
  | nil=>intro a w h;exact hK a w h
  | cons i l ih =>
    intro a w h
    obtain ⟨o,ho,h⟩:=h
    rw [wpOps_cons]
    split at h
    · obtain ⟨v,hy,h⟩:=h;exact hy.wpOp ho (ih h)
    · obtain ⟨v,hy,h⟩:=h;exact hy.wpOp ho (ih h)
    · exact wpOp_QF (wpOp_mono (fun _ _=>ih) h)
def isSel:Op→Bool
  | .select ..=>true
  | _=>false
theorem isSel_ne {o:Oper} (h:isSel o.op=false):∀ cs b,o.op ≠ .select cs b:=fun cs b hh=>by rw [hh] at h;cases h
theorem Apart.put {x y:Oper} (h:x.apart ops y=true) (hs:isSel y.op=false) (a:Act) (v:Value) :
    execOp (a.put x.dst v).eval y=execOp a.eval y∧Region.wanted y (yielded ops (a.put x.dst v).tmps)=Region.wanted y (yielded ops a.tmps):=by
  obtain ⟨h1,h2,h3⟩:=Oper.apart_spec h
  exact ⟨execOp_put y (isSel_ne hs) a x.dst v h1,wanted_put y a x.dst v h1⟩
theorem apart_symm {x y:Oper} (h:x.apart ops y=true):y.apart ops x=true:=by
  obtain ⟨h1,h2,h3⟩:=Oper.apart_spec h
  unfold Oper.apart
  simp only [Bool.and_eq_true]
  constructor
  · cases hd:y.dst with
    | none=>rfl
    | some d =>
      have a1:=h3 d hd
      have a2:x.dst ≠ some d:=fun hx=>h2 d hx hd
      simp only [Bool.and_eq_true,Bool.not_eq_true',bne_iff_ne,ne_eq]
      exact ⟨by simpa using a1,a2⟩
  · cases hd:x.dst with
    | none=>rfl
    | some d=>simpa using h1 d hd
theorem wpOp_back {i:Nat} {x y:Oper} (hi:ops[i]? = some x) (hap:x.apart ops y=true) (hsx:isSel x.op=false) (hsy:isSel y.op=false)
    (h:wpOp P ops QF i (fun a' w'=>∃ v,Yields P ops y v a'∧K (a'.put y.dst v) w') a w):∃ v,Yields P ops y v a∧wpOp P ops QF i K (a.put y.dst v) w:=by
  obtain ⟨h1,h2,h3⟩:=Oper.apart_spec hap
  have hap':=apart_symm hap
  have back:∀ (a:Act) u v,Yields P ops y v (a.put x.dst u)→Yields P ops y v a:=fun a u v hy =>
    let ⟨e1,e2⟩:=Apart.put hap hsy a u
    hy.of_same e1.symm e2.symm
  have det:∀ {a:Act} {v v':Value},Yields P ops y v a→Yields P ops y v' a→v=v':=fun hy hy'=>(hy.atW w).det (hy'.atW w)
  have keepD:∀ {a:Act} {d v},Yields P ops y v { a with defers:=d::a.defers }→Yields P ops y v a:=fun hy=>hy.of_same rfl rfl
  have step:∀ {u w'},(∃ v,Yields P ops y v (a.put x.dst u)∧K ((a.put x.dst u).put y.dst v) w')→∃ v,Yields P ops y v a∧K ((a.put y.dst v).put x.dst u) w':=by
    rintro u w' ⟨v,hy,hk⟩
    refine ⟨v,back a u v hy,?_⟩
    rw [← Act.put_comm a u v h2];exact hk
  unfold wpOp at h
  simp only [hi] at h
  obtain ⟨e1,e2⟩:(∀ v,execOp (a.put y.dst v).eval x=execOp a.eval x)∧(∀ v,Region.wanted x (yielded ops (a.put y.dst v).tmps)=Region.wanted x (yielded ops a.tmps)) :=
    ⟨fun v=>(Apart.put hap' hsx a v).1,fun v=>(Apart.put hap' hsx a v).2⟩
  split at h
  · rename_i hw
    rcases h with h | ⟨_,a0,w0,h⟩
    rotate_left
    · exact h.elim
    unfold Oper.wp at h
    have fin:∀ v,(x.upon P (a.put y.dst v) K QF ((execOp a.eval x).run P w))→wpOp P ops QF i K (a.put y.dst v) w:=fun v hh=>by
      unfold wpOp
      simp only [hi,e2,hw,if_true]
      exact .inl (by unfold Oper.wp;rw [e1];exact hh)
    generalize hr:(execOp a.eval x).run P w=r at *
    cases r with
    | ok n w' =>
      cases n <;> simp only [Oper.upon] at h
      case value u =>
        obtain ⟨v,hy,hk⟩:=step h
        exact ⟨v,hy,fin v (by simp only [Oper.upon];exact hk)⟩
      case skip =>
        obtain ⟨v,hy,hk⟩:=step h
        exact ⟨v,hy,fin v (by simp only [Oper.upon];exact hk)⟩
      case defer d =>
        obtain ⟨v,hy,hk⟩:=h
        have hy':Yields P ops y v a:=back a undef v (by rw [← Act.put_defers] at hy;exact keepD hy)
        refine ⟨v,hy',fin v ?_⟩
        simp only [Oper.upon]
        rw [Act.put_defers,← Act.put_comm _ undef v h2]
        exact hk
      case enter f args =>
        obtain ⟨e,w1,fr,he,-⟩:=h []
        cases e with
        | panicked c=>exact he.elim
        | outgrown=>obtain ⟨_,_,he⟩:=he;exact he.elim
        | returned u =>
          obtain ⟨v,hy,hk⟩:=step he
          refine ⟨v,hy,fin v ?_⟩
          simp only [Oper.upon]
          refine Calls.mono h fun e w2 he2=>?_
          cases e with
          | panicked c=>exact he2.elim
          | outgrown=>obtain ⟨_,_,he2⟩:=he2;exact he2.elim
          | returned u2 =>
            obtain ⟨v2,hy2,hk2⟩:=step he2
            have:=det hy hy2
            subst this;exact hk2
      case row row args =>
        obtain ⟨u,w1,he,-⟩:=h default []
        obtain ⟨v,hy,hk⟩:=step he
        refine ⟨v,hy,fin v ?_⟩
        simp only [Oper.upon]
        refine Rows.mono h fun u2 w2 he2=>?_
        obtain ⟨v2,hy2,hk2⟩:=step he2
        have:=det hy hy2
        subst this;exact hk2
    | halt z w'=>cases z <;> simp only [Oper.upon] at h <;> exact h.elim
  · rename_i hw
    obtain ⟨v,hy,hk⟩:=step h
    refine ⟨v,hy,?_⟩
    unfold wpOp
    simp only [hi,e2,hw,Bool.false_eq_true,if_false]
    exact hk
def indepB (ops:Array Oper) (cls:Nat→Cls) (i j:Nat):Bool:=match ops[i]?,ops[j]? with
  | some x,some y=>x.apart ops y && !isSel x.op && !isSel y.op && (decide (cls i=.reg) || decide (cls j=.reg) || (decide (cls i=.ld) && decide (cls j=.ld)))
  | _,_=>false
theorem indepB_symm {i j:Nat} (h:indepB ops cls i j=true):indepB ops cls j i=true:=by
  unfold indepB at *
  split at h
  · rename_i x y hx hy
    simp only [Bool.and_eq_true,Bool.or_eq_true,decide_eq_true_eq] at h ⊢
    obtain ⟨⟨⟨h1,h2⟩,h3⟩,h4⟩:=h
    simp only [hx,hy,Bool.and_eq_true,Bool.or_eq_true,decide_eq_true_eq]
    refine ⟨⟨⟨apart_symm h1,h3⟩,h2⟩,?_⟩
    rcases h4 with (h4 | h4) | h4
    · exact .inl (.inr h4)
    · exact .inl (.inl h4)
    · exact .inr ⟨h4.2,h4.1⟩
  · cases h
theorem wpY_swap {i j:Nat} {l:List Nat} (hd:indepB ops cls i j=true) (h:wpY P ops cls K (i::j::l) a w):wpY P ops cls K (j::i::l) a w:=by
  unfold indepB at hd
  split at hd
  rotate_left
  · cases hd
  rename_i x y hx hy
  simp only [Bool.and_eq_true,Bool.or_eq_true,decide_eq_true_eq,Bool.not_eq_true'] at hd
  obtain ⟨⟨⟨hap,hsx⟩,hsy⟩,hc⟩:=hd
  have hap':=apart_symm hap
  obtain ⟨h1,h2,h3⟩:=Oper.apart_spec hap
  simp only [wpY,hx,hy,Option.some.injEq,exists_eq_left'] at h ⊢
  have both:∀ {vi vj},YieldsAt P ops x vi a w→YieldsAt P ops y vj (a.put x.dst vi) w→YieldsAt P ops y vj a w∧YieldsAt P ops x vi (a.put y.dst vj) w:=by
    intro vi vj hi hj
    obtain ⟨e1,e2⟩:=Apart.put hap hsy a vi
    obtain ⟨e3,e4⟩:=Apart.put hap' hsx a vj
    exact ⟨hj.of_same e1.symm e2.symm,hi.of_same e3 e4⟩
  have bothY:∀ {vi vj},Yields P ops y vj (a.put x.dst vi)→Yields P ops y vj a:=by
    intro vi vj hj
    obtain ⟨e1,e2⟩:=Apart.put hap hsy a vi
    exact hj.of_same e1.symm e2.symm
  have bothX:∀ {vi vj},Yields P ops x vi a→Yields P ops x vi (a.put y.dst vj):=by
    intro vi vj hi
    obtain ⟨e3,e4⟩:=Apart.put hap' hsx a vj
    exact hi.of_same e3 e4
  cases hci:cls i <;> cases hcj:cls j <;> simp only [hci,hcj] at h ⊢
  · obtain ⟨vi,hi,vj,hj,hk⟩:=h
    exact ⟨vj,bothY hj,vi,bothX hi,by rw [← Act.put_comm a vi vj h2];exact hk⟩
  · obtain ⟨vi,hi,vj,hj,hk⟩:=h
    exact ⟨vj,(both (hi.atW w) hj).1,vi,bothX hi,by rw [← Act.put_comm a vi vj h2];exact hk⟩
  · obtain ⟨vi,hi,hk⟩:=h
    have:=wpOp_put hy hap (isSel_ne hsx) (isSel_ne hsy) (fun _ _ _ hh=>hh) hi hk
    exact wpOp_mono (fun a' w' hh=>⟨vi,hh⟩) this
  · obtain ⟨vi,hi,vj,hj,hk⟩:=h
    exact ⟨vj,bothY hj,vi,(both hi (hj.atW w)).2,by rw [← Act.put_comm a vi vj h2];exact hk⟩
  · obtain ⟨vi,hi,vj,hj,hk⟩:=h
    exact ⟨vj,(both hi hj).1,vi,(both hi hj).2,by rw [← Act.put_comm a vi vj h2];exact hk⟩
  · simp [hci,hcj] at hc
  · obtain ⟨v,hy',hh⟩:=wpOp_back hx hap hsx hsy h
    exact ⟨v,hy',hh⟩
  · simp [hci,hcj] at hc
  · simp [hci,hcj] at hc
theorem wpY_front {x:Nat} {l1 l2:List Nat}:∀ {a:Act} {w:World},(∀ y ∈ l1,indepB ops cls y x=true)→wpY P ops cls K (l1++x::l2) a w→wpY P ops cls K (x::(l1++l2)) a w:=by
  induction l1 with
  | nil=>intro a w _ h;exact h
  | cons y l1 ih =>
    intro a w hall h
    exact wpY_swap (hall y (by simp)) (wpY_tail (fun a w hh=>ih (fun z hz=>hall z (by simp [hz])) hh) h)
theorem wpY_perm:∀ {σ τ:List Nat} {a:Act} {w:World},σ.Perm τ→τ.Nodup→(∀ i j,indepB ops cls i j=false→[i,j].Sublist τ→[i,j].Sublist σ)→wpY P ops cls K τ a w→wpY P ops cls K σ a w
  | [],τ,a,w,hp,_,_,h=>by
    have:τ=[]:=hp.symm.eq_nil
    subst this;exact h
  | x::σ,τ,a,w,hp,hn,hd,h=>by
    have hx:x ∈ τ:=hp.subset (by simp)
    obtain ⟨l1,l2,rfl⟩:=List.append_of_mem hx
    have hσn:(x::σ).Nodup:=hp.nodup_iff.2 hn
    have hxσ:x ∉ σ:=(List.nodup_cons.1 hσn).1
    have hp':σ.Perm (l1++l2):=(hp.trans List.perm_middle).cons_inv
    have hsub:(l1++l2).Sublist (l1++x::l2):=List.Sublist.append (List.Sublist.refl _) (List.sublist_cons_self _ _)
    have hn':(l1++l2).Nodup:=List.Sublist.nodup hsub hn
    refine wpY_tail (l:=l1++l2) (fun a w hh=>wpY_perm hp' hn' (fun i j hi hs=>?_) hh) (wpY_front (fun y hy=>?_) h)
    · have:=hd i j hi (hs.trans hsub)
      cases this with
      | cons _ hh=>exact hh
      | cons_cons _ hh =>
        exfalso
        have:x ∈ l1++l2:=hs.subset (by simp)
        exact hxσ (hp'.symm.subset this)
    · cases hind:indepB ops cls y x with
      | true=>rfl
      | false =>
        exfalso
        have hs:[y,x].Sublist (l1++x::l2):=by
          have h1:[y].Sublist l1:=List.singleton_sublist.2 hy
          have h2:[x].Sublist (x::l2):=List.singleton_sublist.2 (by simp)
          exact h1.append h2
        have:=hd y x hind hs
        cases this with
        | cons _ hh=>exact hxσ (hh.subset (by simp))
        | cons_cons _ hh=>exact hxσ (hh.subset (by simp))
end
end Go.Idl
namespace Go.Idl
open Go
def unl (n:Nat) (listed:Array Bool):List Nat:=(List.range n).filter fun i=>!listed.getD i true
theorem mem_unl {n:Nat} {listed:Array Bool} {i:Nat}:i ∈ unl n listed ↔ i < n∧listed.getD i true=false:=by
  simp [unl]
theorem getD_false_true {listed:Array Bool} {i:Nat} (h:i < listed.size):listed.getD i true=listed.getD i false:=by
  simp [Array.getD_eq_getD_getElem?,h]
section
variable {md:Region.Mode} {ops:Array Oper}
def backB (md:Region.Mode) (ops:Array Oper):Bool:=ops.toList.zipIdx.all fun (o,i)=>o.after.toList.all fun e=>!Region.binds md e || decide (e.on < i)
theorem backB_spec (h:backB md ops=true) {i:Nat} {o:Oper} (ho:ops[i]? = some o) {e:Edge} (he:e ∈ o.after) (hb:Region.binds md e=true):e.on < i:=by
  unfold backB at h
  rw [List.all_eq_true] at h
  have:=h (o,i) (by
    rw [List.mem_zipIdx_iff_getElem?]
    simpa using ho)
  simp only [List.all_eq_true] at this
  have:=this e (by simpa using he)
  simpa [hb] using this
theorem ready_some (h:backB md ops=true) {listed:Array Bool} (hs:listed.size=ops.size) (hne:unl ops.size listed ≠ []):Region.ready md ops listed ≠ []:=by
  obtain ⟨i,hi⟩:=List.exists_mem_of_ne_nil _ hne
  have:∃ m,m ∈ unl ops.size listed∧∀ j,j < m→j ∉ unl ops.size listed:=by
    induction i using Nat.strongRecOn with
    | _ i ih =>
      by_cases hex:∃ j,j < i∧j ∈ unl ops.size listed
      · obtain ⟨j,hj,hju⟩:=hex
        exact ih j hj hju
      · exact ⟨i,hi,fun j hj hju=>hex ⟨j,hj,hju⟩⟩
  obtain ⟨m,hm,hmin⟩:=this
  obtain ⟨hmlt,hmf⟩:=mem_unl.1 hm
  have hmem:m ∈ Region.ready md ops listed:=by
    rw [mem_ready]
    refine ⟨hmf,ops[m],by simp [hmlt],fun e he hb=>?_⟩
    have hlt:=backB_spec h (i:=m) (o:=ops[m]) (by simp [hmlt]) he hb
    have hn:=hmin _ hlt
    rw [mem_unl] at hn
    have hlt':e.on < ops.size:=by omega
    rw [← getD_false_true (by omega)]
    cases hv:listed.getD e.on true with
    | true=>rfl
    | false=>exact absurd ⟨hlt',hv⟩ hn
  intro h0
  rw [h0] at hmem
  cases hmem
theorem unl_set {n i:Nat} {listed:Array Bool} (hi:i < listed.size):unl n (listed.setIfInBounds i true)=(unl n listed).filter (· != i):=by
  unfold unl
  rw [List.filter_filter]
  apply List.filter_congr
  intro j _
  by_cases hj:j=i
  · subst hj;simp [Array.getD_eq_getD_getElem?,hi]
  · have:i ≠ j:=fun h=>hj h.symm
    simp [Array.getD_eq_getD_getElem?,Array.getElem?_setIfInBounds_ne this,hj]
theorem go_eq (fuel t:Nat) (listed:Array Bool):Region.linearise.go md ops (fuel+1) t listed []=match (Region.ready md ops listed)[t % (Region.ready md ops listed).length]? with
    | some i=>i::Region.linearise.go md ops fuel (t / (Region.ready md ops listed).length) (listed.setIfInBounds i true) []
    | none=>[]:=by
  change (match (Region.ready md ops listed)[t % (Region.ready md ops listed).length]? with
      | some i=>Region.linearise.go md ops fuel (t / (Region.ready md ops listed).length) (listed.setIfInBounds i true) [i]
      | none=>[].reverse)=_
  split
  · rw [linearise_go_acc];rfl
  · rfl
theorem go_spec (hb:backB md ops=true):∀ (fuel t:Nat) (listed:Array Bool),listed.size=ops.size→(unl ops.size listed).length≤fuel →
    (Region.linearise.go md ops fuel t listed []).Nodup∧(∀ i,i ∈ Region.linearise.go md ops fuel t listed [] ↔ i ∈ unl ops.size listed) ∧
    ∀ i o e,i ∈ Region.linearise.go md ops fuel t listed []→ops[i]? = some o→e ∈ o.after→Region.binds md e=true→listed.getD e.on false=true ∨ [e.on,i].Sublist (Region.linearise.go md ops fuel t listed []):=by
  intro fuel
  induction fuel with
  | zero =>
    intro t listed hs hl
    have h0:unl ops.size listed=[]:=List.eq_nil_of_length_eq_zero (by omega)
    have:Region.linearise.go md ops 0 t listed []=[]:=rfl
    rw [this,h0]
    exact ⟨List.nodup_nil,by simp,fun i o e hi=>by cases hi⟩
  | succ fuel ih =>
    intro t listed hs hl
    rw [go_eq]
    split
    · rename_i i hi
      have hir:i ∈ Region.ready md ops listed:=List.mem_of_getElem? hi
      obtain ⟨hif,o,ho,hed⟩:=mem_ready.1 hir
      have hilt:i < ops.size:=(Array.getElem?_eq_some_iff.1 ho).1
      have hiu:i ∈ unl ops.size listed:=mem_unl.2 ⟨hilt,hif⟩
      have hu:=unl_set (n:=ops.size) (i:=i) (listed:=listed) (by omega)
      have hlen:(unl ops.size (listed.setIfInBounds i true)).length≤fuel:=by
        rw [hu]
        have:((unl ops.size listed).filter (· != i)).length < (unl ops.size listed).length:=by
          rw [List.length_filter_lt_length_iff_exists]
          exact ⟨i,hiu,by simp⟩
        omega
      obtain ⟨h1,h2,h3⟩:=ih (t / (Region.ready md ops listed).length) (listed.setIfInBounds i true) (by simpa using hs) hlen
      refine ⟨List.nodup_cons.2 ⟨?_,h1⟩,?_,?_⟩
      · rw [h2,hu];simp
      · intro j
        rw [List.mem_cons,h2,hu,List.mem_filter]
        constructor
        · rintro (rfl | hj)
          · exact hiu
          · exact hj.1
        · intro hj
          by_cases hji:j=i
          · exact .inl hji
          · exact .inr ⟨hj,by simpa using hji⟩
      · intro j oj e hj hoj he hbe
        rcases List.mem_cons.1 hj with rfl | hj
        · rw [ho] at hoj;cases hoj
          exact .inl (hed e he hbe)
        · rcases h3 j oj e hj hoj he hbe with h | h
          · by_cases hei:e.on=i
            · right
              rw [hei]
              exact List.Sublist.cons_cons i (List.singleton_sublist.2 hj)
            · left
              rw [← h]
              have:i ≠ e.on:=fun h=>hei h.symm
              simp [Array.getD_eq_getD_getElem?,Array.getElem?_setIfInBounds_ne this]
          · exact .inr (h.cons _)
    · rename_i hi
      have h0:unl ops.size listed=[]:=by
        cases hq:unl ops.size listed with
        | nil=>rfl
        | cons x xs =>
          exfalso
          have hne:=ready_some hb hs (by rw [hq];simp)
          have hpos:0 < (Region.ready md ops listed).length:=List.length_pos_iff.2 hne
          have:=Nat.mod_lt t hpos
          rw [List.getElem?_eq_none_iff] at hi
          omega
      rw [h0]
      exact ⟨List.nodup_nil,by simp,fun i o e hi=>by cases hi⟩
def maskOf (md:Region.Mode) (o:Oper) (acc:List Nat):Nat:=o.after.toList.foldl (fun s e=>if Region.binds md e then s ||| (2 ^ e.on ||| acc.getD e.on 0) else s) 0
def clo (md:Region.Mode):List Oper→List Nat→List Nat
  | [],acc=>acc
  | o::r,acc=>clo md r (acc++[maskOf md o acc])
structure Lin (md:Region.Mode) (ops:Array Oper) (σ:List Nat):Prop where
  nodup:σ.Nodup
  mem:∀ i,i ∈ σ ↔ i < ops.size
  edge:∀ i o e,ops[i]? = some o→e ∈ o.after→Region.binds md e=true→[e.on,i].Sublist σ
theorem sub2_trans {σ:List Nat} (hn:σ.Nodup) {i j k:Nat} (h:[i,j].Sublist σ) (h':[j,k].Sublist σ):[i,k].Sublist σ:=by
  induction σ with
  | nil=>cases h
  | cons x σ ih =>
    have hx:=List.nodup_cons.1 hn
    cases h with
    | cons _ h1 =>
      cases h' with
      | cons _ h2=>exact (ih hx.2 h1 h2).cons _
      | cons_cons _ h2=>exact absurd (h1.subset (by simp)) hx.1
    | cons_cons _ h1 =>
      cases h' with
      | cons _ h2=>exact List.Sublist.cons_cons _ (List.singleton_sublist.2 (h2.subset (by simp)))
      | cons_cons _ h2=>exact absurd (List.singleton_sublist.1 h1) hx.1
theorem sub2_ne {σ:List Nat} (hn:σ.Nodup) {i j:Nat} (h:[i,j].Sublist σ):i ≠ j:=by
  have:=h.nodup hn
  simpa using this
theorem sub2_asymm {σ:List Nat} (hn:σ.Nodup) {i j:Nat} (h:[i,j].Sublist σ) (h':[j,i].Sublist σ):False :=
  sub2_ne hn (sub2_trans hn h h') rfl
theorem sub2_total {σ:List Nat} {i j:Nat} (hi:i ∈ σ) (hj:j ∈ σ) (hne:i ≠ j):[i,j].Sublist σ ∨ [j,i].Sublist σ:=by
  induction σ with
  | nil=>cases hi
  | cons x σ ih =>
    rcases List.mem_cons.1 hi with h1 | h1 <;> rcases List.mem_cons.1 hj with h2 | h2
    · exact absurd (h1.trans h2.symm) hne
    · rw [h1];exact .inl (List.Sublist.cons_cons _ (List.singleton_sublist.2 h2))
    · rw [h2];exact .inr (List.Sublist.cons_cons _ (List.singleton_sublist.2 h1))
    · exact (ih h1 h2).imp (·.cons _) (·.cons _)
theorem mask_spec {σ:List Nat} {o:Oper} {acc:List Nat} {j:Nat} (hn:σ.Nodup) (hacc:∀ k i,(acc.getD k 0).testBit i=true→[i,k].Sublist σ) (hed:∀ e ∈ o.after.toList,Region.binds md e=true→[e.on,j].Sublist σ) :
    ∀ i,(maskOf md o acc).testBit i=true→[i,j].Sublist σ:=by
  have key:∀ (l:List Edge) (s:Nat),(∀ e ∈ l,Region.binds md e=true→[e.on,j].Sublist σ)→(∀ i,s.testBit i=true→[i,j].Sublist σ) →
      ∀ i,(l.foldl (fun s e=>if Region.binds md e then s ||| (2 ^ e.on ||| acc.getD e.on 0) else s) s).testBit i=true→[i,j].Sublist σ:=by
    intro l
    induction l with
    | nil=>intro s _ hs i hi;exact hs i hi
    | cons e l ih =>
      intro s hl hs i hi
      rw [List.foldl_cons] at hi
      refine ih _ (fun e' he'=>hl e' (by simp [he'])) ?_ i hi
      intro i hi
      split at hi
      · rename_i hbe
        have hej:=hl e (by simp) hbe
        simp only [Nat.testBit_or,Bool.or_eq_true] at hi
        rcases hi with hi | hi | hi
        · exact hs i hi
        · rw [Nat.testBit_two_pow] at hi
          have:e.on=i:=by simpa using hi
          rw [← this];exact hej
        · exact sub2_trans hn (hacc _ _ hi) hej
      · exact hs i hi
  exact key _ 0 hed (by simp)
theorem clo_spec {σ:List Nat} (hL:Lin md ops σ):∀ (l:List Oper) (acc:List Nat),(∀ k o,l[k]? = some o→ops[acc.length+k]? = some o)→(∀ k i,(acc.getD k 0).testBit i=true→[i,k].Sublist σ) →
    ∀ k i,((clo md l acc).getD k 0).testBit i=true→[i,k].Sublist σ
  | [],acc,_,hacc=>hacc
  | o::l,acc,hl,hacc=>by
    have ho:ops[acc.length]? = some o:=by simpa using hl 0 o rfl
    refine clo_spec hL l (acc++[maskOf md o acc]) (fun k o' hk=>?_) (fun k i hi=>?_)
    · have:=hl (k+1) o' (by simpa using hk)
      simpa [Nat.add_assoc,Nat.add_comm 1 k] using this
    · by_cases hk:k < acc.length
      · rw [List.getD_eq_getElem?_getD,List.getElem?_append_left hk,← List.getD_eq_getElem?_getD] at hi
        exact hacc k i hi
      · by_cases hk':k=acc.length
        · subst hk'
          rw [List.getD_eq_getElem?_getD,List.getElem?_append_right (by omega)] at hi
          simp only [Nat.sub_self,List.getElem?_cons_zero,Option.getD_some] at hi
          exact mask_spec hL.nodup hacc (fun e he hb=>hL.edge _ o e ho (by simpa using he) hb) i hi
        · rw [List.getD_eq_getElem?_getD,List.getElem?_eq_none (by simp;omega)] at hi
          simp at hi
theorem lin_go (hb:backB md ops=true) (t:Nat):Lin md ops (Region.linearise md ops t):=by
  have hu:∀ i,i ∈ unl ops.size (Array.replicate ops.size false) ↔ i < ops.size:=fun i=>by
    rw [mem_unl]
    constructor
    · exact fun h=>h.1
    · intro h;refine ⟨h,?_⟩;simp [Array.getD_eq_getD_getElem?,h]
  have hlen:(unl ops.size (Array.replicate ops.size false)).length≤ops.size:=by
    unfold unl
    exact Nat.le_trans (List.length_filter_le _ _) (by simp)
  obtain ⟨h1,h2,h3⟩:=go_spec hb ops.size t (Array.replicate ops.size false) (by simp) hlen
  refine ⟨h1,fun i=>(h2 i).trans (hu i),fun i o e ho he hbe=>?_⟩
  have hi:i < ops.size:=(Array.getElem?_eq_some_iff.1 ho).1
  rcases h3 i o e ((h2 i).2 ((hu i).2 hi)) ho he hbe with h | h
  · exfalso
    by_cases hlt:e.on < ops.size <;> simp [Array.getD_eq_getD_getElem?,hlt] at h
  · exact h
def bef:List Nat→Nat→Nat→Bool
  | [],_,_=>false
  | x::r,i,j=>if x=i then r.contains j else if x=j then false else bef r i j
theorem bef_spec {i j:Nat}:∀ {l:List Nat},bef l i j=true→[i,j].Sublist l
  | [],h=>by cases h
  | x::r,h=>by
    simp only [bef] at h
    split at h
    · rename_i hx;subst hx
      exact List.Sublist.cons_cons _ (List.singleton_sublist.2 (by simpa using h))
    · split at h
      · cases h
      · exact (bef_spec h).cons _
def forced (c:List Nat) (E:List (Nat×Nat)) (y x:Nat):Bool:=E.any fun p=>(y == p.1 || (c.getD p.1 0).testBit y) && (p.2 == x || (c.getD x 0).testBit p.2)
def cov (c:List Nat):List (Nat×Nat)→List (Nat×Nat)→List (List Nat)→Bool
  | [],_,cs=>!cs.isEmpty
  | (i,j)::r,E,cs=>(forced c E j i || cov c r ((i,j)::E) (cs.filter fun τ=>bef τ i j)) && (forced c E i j || cov c r ((j,i)::E) (cs.filter fun τ=>bef τ j i))
theorem forced_spec {σ:List Nat} (hn:σ.Nodup) {c:List Nat} (hc:∀ k i,(c.getD k 0).testBit i=true→[i,k].Sublist σ) {E:List (Nat×Nat)} (hE:∀ i j,(i,j) ∈ E→[i,j].Sublist σ) {y x:Nat} (h:forced c E y x=true) :
    [y,x].Sublist σ:=by
  unfold forced at h
  rw [List.any_eq_true] at h
  obtain ⟨⟨u,v⟩,hm,h⟩:=h
  simp only [Bool.and_eq_true,Bool.or_eq_true,beq_iff_eq] at h
  have huv:=hE u v hm
  have h1:[y,v].Sublist σ:=by
    rcases h.1 with rfl | h1
    · exact huv
    · exact sub2_trans hn (hc _ _ h1) huv
  rcases h.2 with rfl | h2
  · exact h1
  · exact sub2_trans hn h1 (hc _ _ h2)
theorem cov_spec {σ:List Nat} (hn:σ.Nodup) {c:List Nat} (hc:∀ k i,(c.getD k 0).testBit i=true→[i,k].Sublist σ):∀ {A E:List (Nat×Nat)} {cs:List (List Nat)},(∀ i j,(i,j) ∈ A→i ∈ σ∧j ∈ σ∧i ≠ j) →
    (∀ i j,(i,j) ∈ E→[i,j].Sublist σ)→cov c A E cs=true →
    ∃ τ ∈ cs,∀ i j,(i,j) ∈ A→(([i,j].Sublist σ∧[i,j].Sublist τ) ∨ ([j,i].Sublist σ∧[j,i].Sublist τ))
  | [],E,cs,_,_,h=>by
    cases cs with
    | nil=>simp [cov] at h
    | cons τ cs=>exact ⟨τ,by simp,by simp⟩
  | (i,j)::A,E,cs,hA,hE,h=>by
    simp only [cov,Bool.and_eq_true,Bool.or_eq_true] at h
    obtain ⟨h1,h2,h3⟩:=hA i j (by simp)
    have hA':∀ i j,(i,j) ∈ A→i ∈ σ∧j ∈ σ∧i ≠ j:=fun i j hm=>hA i j (by simp [hm])
    rcases sub2_total h1 h2 h3 with hs | hs
    · have hcv:=h.1.resolve_left (fun hf=>sub2_asymm hn hs (forced_spec hn hc hE hf))
      obtain ⟨τ,hτ,ht⟩:=cov_spec hn hc hA' (fun a b hm=>by
        rcases List.mem_cons.1 hm with he | hm
        · cases he;exact hs
        · exact hE a b hm) hcv
      rw [List.mem_filter] at hτ
      refine ⟨τ,hτ.1,fun a b hm=>?_⟩
      rcases List.mem_cons.1 hm with he | hm
      · cases he;exact .inl ⟨hs,bef_spec hτ.2⟩
      · exact ht a b hm
    · have hcv:=h.2.resolve_left (fun hf=>sub2_asymm hn hs (forced_spec hn hc hE hf))
      obtain ⟨τ,hτ,ht⟩:=cov_spec hn hc hA' (fun a b hm=>by
        rcases List.mem_cons.1 hm with he | hm
        · cases he;exact hs
        · exact hE a b hm) hcv
      rw [List.mem_filter] at hτ
      refine ⟨τ,hτ.1,fun a b hm=>?_⟩
      rcases List.mem_cons.1 hm with he | hm
      · cases he;exact .inr ⟨hs,bef_spec hτ.2⟩
      · exact ht a b hm
def deps (ops:Array Oper) (cls:Nat→Cls) (n:Nat):List (Nat×Nat) :=
  (List.range n).flatMap fun j=>(List.range j).filterMap fun i=>if indepB ops cls i j then none else some (i,j)
theorem mem_deps {cls:Nat→Cls} {n i j:Nat}:(i,j) ∈ deps ops cls n ↔ i < j∧j < n∧indepB ops cls i j=false:=by
  unfold deps
  rw [List.mem_flatMap]
  constructor
  · rintro ⟨j',hj',hm⟩
    rw [List.mem_filterMap] at hm
    obtain ⟨i',hi',he⟩:=hm
    split at he
    · cases he
    · rename_i hf
      simp only [Option.some.injEq,Prod.mk.injEq] at he
      obtain ⟨rfl,rfl⟩:=he
      exact ⟨List.mem_range.1 hi',List.mem_range.1 hj',by simpa using hf⟩
  · rintro ⟨h1,h2,h3⟩
    exact ⟨j,List.mem_range.2 h2,List.mem_filterMap.2 ⟨i,List.mem_range.2 h1,by simp [h3]⟩⟩
def permB (τ:List Nat) (n:Nat):Bool:=τ.length == n && (List.range n).all fun i=>τ.contains i
theorem perm_of_sub {τ l:List Nat} (hn:l.Nodup) (h:∀ x ∈ l,x ∈ τ) (hl:τ.length=l.length):τ.Perm l:=by
  induction l generalizing τ with
  | nil=>simp at hl;subst hl;exact List.Perm.refl _
  | cons x l ih =>
    obtain ⟨a,b,rfl⟩:=List.append_of_mem (h x (by simp))
    have hx:=List.nodup_cons.1 hn
    have:=ih (τ:=a++b) hx.2 (fun y hy=>by
      have h1:=h y (by simp [hy])
      simp only [List.mem_append,List.mem_cons] at h1 ⊢
      rcases h1 with h1 | h1 | h1
      · exact .inl h1
      · exact absurd (h1 ▸ hy) hx.1
      · exact .inr h1) (by simp at hl ⊢;omega)
    exact List.perm_middle.trans (this.cons x)
theorem permB_spec {τ:List Nat} {n:Nat} (h:permB τ n=true):τ.Perm (List.range n):=by
  unfold permB at h
  simp only [Bool.and_eq_true,beq_iff_eq] at h
  refine perm_of_sub List.nodup_range (fun x hx=>?_) (by simp [h.1])
  simpa using List.all_eq_true.1 h.2 x hx
def drawB (ops:Array Oper) (cls:Nat→Cls) (alts:List (List Nat)):Bool :=
  let c:=clo .any ops.toList []
  let D:=deps ops cls ops.size
  let A:=D.filter fun p=>!(c.getD p.2 0).testBit p.1
  let cs:=List.range ops.size::alts
  backB .any ops && (alts.all fun τ=>permB τ ops.size) && (cs.all fun τ=>D.all fun p=>!(c.getD p.2 0).testBit p.1 || bef τ p.1 p.2) && cov c A [] cs
theorem drawB_spec {cls:Nat→Cls} {alts:List (List Nat)} (h:drawB ops cls alts=true) {σ:List Nat} (hL:Lin .any ops σ) :
    ∃ τ ∈ List.range ops.size::alts,σ.Perm τ∧τ.Nodup∧∀ i j,indepB ops cls i j=false→[i,j].Sublist τ→[i,j].Sublist σ:=by
  unfold drawB at h
  simp only [Bool.and_eq_true] at h
  obtain ⟨⟨⟨hb,hperm⟩,hclo⟩,hcov⟩:=h
  have hc:=clo_spec hL ops.toList [] (fun k o hk=>by simpa using hk) (fun k i hi=>by simp at hi)
  obtain ⟨τ,hτ,ht⟩:=cov_spec hL.nodup hc (fun i j hm=>by
    rw [List.mem_filter] at hm
    obtain ⟨h1,h2,h3⟩:=mem_deps.1 hm.1
    exact ⟨(hL.mem i).2 (by omega),(hL.mem j).2 h2,by omega⟩) (by simp) hcov
  have hpτ:τ.Perm (List.range ops.size):=by
    rcases List.mem_cons.1 hτ with rfl | hm
    · exact List.Perm.refl _
    · rw [List.all_eq_true] at hperm
      exact permB_spec (hperm τ hm)
  have hpσ:σ.Perm (List.range ops.size):=by
    rw [List.perm_ext_iff_of_nodup hL.nodup List.nodup_range]
    intro i;rw [hL.mem,List.mem_range]
  have hnτ:τ.Nodup:=hpτ.nodup_iff.2 List.nodup_range
  refine ⟨τ,hτ,hpσ.trans hpτ.symm,hnτ,?_⟩
  have main:∀ i j,i < j→indepB ops cls i j=false→j < ops.size→(([i,j].Sublist σ∧[i,j].Sublist τ) ∨ ([j,i].Sublist σ∧[j,i].Sublist τ)):=by
    intro i j hij hi hj
    have hD:=mem_deps.2 ⟨hij,hj,hi⟩
    cases hbit:((clo .any ops.toList []).getD j 0).testBit i with
    | true =>
      have h1:=hc j i hbit
      rw [List.all_eq_true] at hclo
      have h2:=hclo τ hτ
      rw [List.all_eq_true] at h2
      have h3:=h2 (i,j) hD
      simp only [hbit,Bool.not_true,Bool.false_or] at h3
      exact .inl ⟨h1,bef_spec h3⟩
    | false=>exact ht i j (List.mem_filter.2 ⟨hD,by simp only [hbit,Bool.not_false]⟩)
  intro i j hi hs
  have hne:=sub2_ne hnτ hs
  have hil:i < ops.size:=List.mem_range.1 (hpτ.subset (hs.subset (by simp)))
  have hjl:j < ops.size:=List.mem_range.1 (hpτ.subset (hs.subset (by simp)))
  rcases Nat.lt_or_gt_of_ne hne with hlt | hlt
  · rcases main i j hlt hi hjl with ⟨h1,h2⟩ | ⟨h1,h2⟩
    · exact h1
    · exact (sub2_asymm hnτ hs h2).elim
  · have hi':indepB ops cls j i=false:=by
      cases hq:indepB ops cls j i with
      | false=>rfl
      | true=>rw [indepB_symm hq] at hi;cases hi
    rcases main j i hlt hi' hil with ⟨h1,h2⟩ | ⟨h1,h2⟩
    · exact (sub2_asymm hnτ hs h2).elim
    · exact h1
theorem wp_drawn {P:Program} {id:Nat} {cls:Nat→Cls} {alts:List (List Nat)} {K:Act→World→Prop} {Q:Exit→Act→World→Prop} {a:Act} {w:World} (hm:P.follows .mixedOrders=true)
    (hd:drawB ops cls alts=true) (hK:∀ a w,K a w→Q .normal a w)
    (h:∀ τ ∈ List.range ops.size::alts,wpY P ops cls K τ a { w with drawn:=w.drawn+1 }):(Code.region id ops true).wp P Q a w:=by
  refine wp_region_draw fun t=>?_
  simp only [Region.schedule,hm,Bool.true_or,if_true]
  have hb:backB .any ops=true:=by
    unfold drawB at hd
    simp only [Bool.and_eq_true] at hd
    exact hd.1.1.1
  obtain ⟨τ,hτ,h1,h2,h3⟩:=drawB_spec hd (lin_go hb t)
  exact wpY_ops hK (wpY_perm h1 h2 h3 (h τ hτ))
end
end Go.Idl
namespace Go.Idl
open Go
section
variable {cx:Cx} {w w':World} {F F':Nat→Prop} {ρ ρ':Rho} {fp fp':Fp} {X f f' fy:List Nat} {st st':St} {a:Act} {tm:Nat→Value} {v:IV}
end
end Go.Idl
namespace Go.Idl
open Go
def okRes (P:Program):ResultVar→RVar→Prop
  | .tmp t,.t s=>t=s
  | .cell a t,.c b sz ag=>a=b∧sizeIs P t sz∧aggIs P t ag
  | _,_=>False
def okRess (P:Program):List ResultVar→List RVar→Prop
  | [],[]=>True
  | x::xs,y::ys=>okRes P x y∧okRess P xs ys
  | _,_=>False
def resRun (a:Act):ResultVar→Sem Value
  | .tmp t=>pure (a.tmps.getD t undef)
  | .cell b t=>do loadVar t (← asAddr (a.tmps.getD b undef))
section
variable {cx:Cx} {w w':World} {F F':Nat→Prop} {ρ ρ':Rho} {fp fp':Fp} {X f f' fy:List Nat} {st st':St} {a:Act} {tm:Nat→Value} {v:IV}
theorem RA.keep {x:IV} {u:Value} (h:RA cx w F ρ st x u f) (hs:ShpLe st st'):RA cx w F ρ st' x u f :=
  ⟨h.frame (fun _ _=>rfl) (fun _ _=>rfl) (fun _ h=>h) (fun l k hb=>⟨rfl,hs.box hb⟩),h.2⟩
theorem ra_agg {cs:List IV} {us:Array Value} {lk} (hc:Cat (RC cx w F ρ st lk) cs us.toList f) (hd:∀ y ∈ cs,y.isD=true):RA cx w F ρ st (.agg cs) (.agg us) f :=
  ⟨⟨us,rfl,hc.mono fun x v f _ hx hm=>hx.toNo (hd x hm)⟩,by simpa [IV.isA] using hd⟩
theorem ra_one {x:IV} {u:Value} {lk} (hx:RC cx w F ρ st lk x u f) (hd:x.isD=true):RA cx w F ρ st x u f:=by
  have:=hx.toNo (cx:=cx) (ρ:=ρ) (st:=st) hd
  refine ⟨?_,?_⟩
  · cases x with
    | agg cs=>simp [IV.isD] at hd
    | un=>simp [IV.isD] at hd
    | _=>exact this
  · cases x with
    | agg cs=>simp [IV.isD] at hd
    | _=>exact hd
theorem shp_T (st:St) (T:Tm):ShpLe st { st with T:=T }:=⟨rfl,Nat.le_refl _⟩
theorem retv_rel (h:Rel cx w F ρ fp X st (regs a)) {r:ResultVar} {x:RVar} (hx:okRes cx.P r x) (ha:st.retv x=some (v,st')) :
    ∃ fp' fv u,Rel cx w F ρ fp' (fv++X) st' (regs a)∧RA cx w F ρ st' v u fv∧(resRun a r).run cx.P w=.ok u w∧(∀ b ∈ fv,∃ r,b ∈ fp r)∧(∀ r,∀ b ∈ fp' r,b ∈ fp r)∧ShpLe st st':=by
  cases x with
  | t s =>
    cases r with
    | cell b t=>exact hx.elim
    | tmp t =>
    have hts:t=s:=hx
    subst hts
    have hrun:(resRun a (.tmp t)).run cx.P w=.ok (a.tmps.getD t undef) w:=rfl
    obtain ⟨h1,h2⟩:=h.drop t
    have hsub:∀ r,∀ b ∈ updFp fp (.S t) [] r,b ∈ fp r:=fun r b hb=>by
      unfold updFp at hb;split at hb
      · cases hb
      · exact hb
    simp only [St.retv] at ha
    generalize hz:kl (IV.rooted (.S t)) (tget st.T t)=z at *
    have one:∀ {y:IV},RC cx w F ρ { st with T:=dropSlot t st.T } (look { st with T:=dropSlot t st.T } (regs a) ρ w) z (regs a t) (fp (.S t))→({ st with T:=dropSlot t st.T }:St).absorb z=some (y,st') →
        ∃ fp' fv u,Rel cx w F ρ fp' (fv++X) st' (regs a)∧RA cx w F ρ st' y u fv∧(resRun a (.tmp t)).run cx.P w=.ok u w∧(∀ b ∈ fv,∃ r,b ∈ fp r)∧(∀ r,∀ b ∈ fp' r,b ∈ fp r)∧ShpLe st st':=by
      intro y hz hab
      obtain ⟨fp',f',k1,k2,k3,k4,k5,k6,-⟩:=h1.absorb hz hab
      refine ⟨fp',f',regs a t,k1,ra_one k2 k3,hrun,fun b hb=>?_,fun r b hb=>hsub r b (k5 r b hb),(shp_T st _).trans k6⟩
      rcases k4 b hb with hb | ⟨r,hb⟩
      · exact ⟨_,hb⟩
      · exact ⟨r,hsub r b hb⟩
    cases z with
    | agg cs =>
      simp only at ha
      obtain ⟨C,hC,hc⟩:=h2
      cases hab:({ st with T:=dropSlot t st.T }:St).absorbs cs with
      | none=>simp [hab] at ha
      | some p =>
      obtain ⟨ys,st2⟩:=p
      simp only [hab,Option.some.injEq,Prod.mk.injEq] at ha
      obtain ⟨rfl,rfl⟩:=ha
      obtain ⟨fp',fy,k1,k2,k3,k4,k5,k6⟩:=h1.absorbs hc hab
      refine ⟨fp',fy,.agg C,k1,ra_agg k2 k3,?_,fun b hb=>?_,fun r b hb=>hsub r b (k5 r b hb),(shp_T st _).trans k6⟩
      · rw [hrun,← hC];rfl
      · rcases k4 b hb with hb | ⟨r,hb⟩
        · exact ⟨_,hb⟩
        · exact ⟨r,hsub r b hb⟩
    | tup vs=>simp [St.absorb] at ha
    | un=>simp [St.absorb] at ha
    | sc u=>exact one h2 ha
    | lst e es c=>exact one h2 ha
    | own e es=>exact one h2 ha
    | arr r c p e off n cl=>exact one h2 ha
    | eptr r c p i j=>simp [St.absorb] at ha
    | lptr e j=>simp [St.absorb] at ha
    | bptr l k c=>exact one h2 ha
    | fn g cs=>exact one h2 ha
  | c b sz ag =>
    cases r with
    | tmp t=>exact hx.elim
    | cell b' t =>
    obtain ⟨hb',hsz,hag⟩:=hx
    subst hb'
    simp only [St.retv] at ha
    split at ha
    rotate_left
    · cases ha
    rename_i l k c hT
    split at ha
    rotate_left
    · cases ha
    rename_i cs hbox
    split at ha
    rotate_left
    · cases ha
    rename_i xs hsub
    split at ha
    rotate_left
    · cases ha
    rename_i hdat
    split at ha
    rotate_left
    · cases ha
    rename_i pv hp
    simp only [Option.some.injEq,Prod.mk.injEq] at ha
    obtain ⟨rfl,rfl⟩:=ha
    have hs:=h.slots b'
    rw [hT] at hs
    have hptr:a.tmps.getD b' undef=.pointer (some ⟨ρ l k,c,none⟩):=by
      rcases hs with ⟨⟨hs,_⟩,_⟩ | hs
      · exact hs
      · cases hs
    obtain ⟨fp',fx,us,C,ty,k1,k2,k3,k4,k5,k6,k7,k8⟩:=h.takeBox hbox hsub
    have hlen:=k2.len
    have hxl:xs.length=sz:=by
      have hCs:C.toList.length=C.size:=Array.length_toList
      rw [hlen,k4,List.length_take,List.length_drop];omega
    have hdat':∀ y ∈ xs,y.isData=true:=by simpa using hdat
    have hcells:∀ j u,us[j]? = some u→w.cell? ((⟨ρ l k,c,none⟩:Addr).add j)=some u:=by
      intro j u hj
      have hjl:j < sz:=by
        rcases Nat.lt_or_ge j sz with hh | hh
        · exact hh
        · rw [List.getElem?_eq_none (by omega)] at hj;cases hj
      rw [k4,drop_take_get hjl] at hj
      rw [addr_add,cell_of k3,hj]
    have hrc:Cat (RC cx w F ρ { st.setBox l k (splice cs c (List.replicate sz .un)) with T:=killRt (.B l k) st.T } noLk) xs us fx :=
      k2.mono fun x u f _ hx hm=>(hx.lv (ρ':=ρ) (st':={ st.setBox l k (splice cs c (List.replicate sz .un)) with T:=killRt (.B l k) st.T }) (fun l' k' _ hb=>⟨rfl,k8.box hb⟩)).isData_rc (hdat' x hm)
    rcases pack_some hp with ⟨rfl,rfl⟩ | ⟨rfl,y,rfl,rfl⟩
    · refine ⟨fp',fx,.agg us.toArray,k1,ra_agg (by simpa using hrc) (fun y hy=>isData_isD (hdat' y hy)),?_,k6,k7,k8⟩
      have:=run_loadCells_list (P:=cx.P) w ⟨ρ l k,c,none⟩ us hcells
      rw [← hlen,hxl] at this
      simp [resRun,hptr,asAddr,loadVar,run_isAgg hag,run_sizeOf hsz,this]
    · cases us with
      | nil=>simp at hlen
      | cons u us =>
      cases us with
      | cons _ _=>simp at hlen
      | nil =>
      have hu:=hcells 0 u rfl
      rw [show (⟨ρ l k,c,none⟩:Addr).add 0=⟨ρ l k,c,none⟩ from rfl] at hu
      have hy:RC cx w F ρ { st.setBox l k (splice cs c (List.replicate sz .un)) with T:=killRt (.B l k) st.T } noLk pv u fx:=by
        generalize hx1:[pv]=l1 at hrc
        generalize hu1:[u]=l2 at hrc
        cases hrc with
        | nil=>cases hx1
        | cons hh tt =>
          cases hx1;cases hu1
          rw [tt.nil_inv.2];simpa using hh
      refine ⟨fp',fx,u,k1,ra_one hy (isData_isD (hdat' pv (by simp))),?_,k6,k7,k8⟩
      simp [resRun,hptr,asAddr,loadVar,run_isAgg hag,run_load,hu]
theorem retvs_rel:∀ {rs:List ResultVar} {xs:List RVar} {X:List Nat} {fp:Fp} {st st':St} {vs:List IV},Rel cx w F ρ fp X st (regs a)→okRess cx.P rs xs→st.retvs xs=some (vs,st') →
    ∃ fp' fv us,Rel cx w F ρ fp' (fv++X) st' (regs a)∧Cat (RA cx w F ρ st') vs us fv∧(rs.mapM (resRun a)).run cx.P w=.ok us w∧(∀ b ∈ fv,∃ r,b ∈ fp r)∧(∀ r,∀ b ∈ fp' r,b ∈ fp r)∧ShpLe st st'
  | [],[],X,fp,st,st',vs,h,_,ha=>by
    simp only [St.retvs,Option.some.injEq,Prod.mk.injEq] at ha
    obtain ⟨rfl,rfl⟩:=ha
    exact ⟨fp,[],[],h,.nil,by simp,by simp,fun _ _ h=>h,.refl _⟩
  | [],_::_,_,_,_,_,_,_,hk,_=>hk.elim
  | _::_,[],_,_,_,_,_,_,hk,_=>hk.elim
  | r::rs,x::xs,X,fp,st,st',vs,h,hk,ha=>by
    simp only [St.retvs] at ha
    cases h1:st.retv x with
    | none=>simp [h1] at ha
    | some p =>
    obtain ⟨v1,st1⟩:=p
    simp only [h1] at ha
    cases h2:st1.retvs xs with
    | none=>simp [h2] at ha
    | some p =>
    obtain ⟨vs2,st2⟩:=p
    simp only [h2,Option.some.injEq,Prod.mk.injEq] at ha
    obtain ⟨rfl,rfl⟩:=ha
    obtain ⟨fp1,fv1,u1,k1,k2,k3,k4,k5,k6⟩:=retv_rel h hk.1 h1
    obtain ⟨fp2,fv2,us2,q1,q2,q3,q4,q5,q6⟩:=retvs_rel k1 hk.2 h2
    refine ⟨fp2,fv1++fv2,u1::us2,q1.perm ?_,Cat.cons (k2.keep q6) q2,?_,fun b hb=>?_,fun r b hb=>k5 r b (q5 r b hb),k6.trans q6⟩
    · rw [← List.append_assoc]
      exact List.Perm.append_right X List.perm_append_comm
    · rw [List.mapM_cons]
      simp [Sem.run_bind,k3,q3]
    · rcases List.mem_append.1 hb with hb | hb
      · exact k4 b hb
      · obtain ⟨r,hb⟩:=q4 b hb
        exact ⟨r,k5 r b hb⟩
def packU:List Value→Value
  | [u]=>u
  | us=>.tuple us.toArray
theorem results_run {fn:Func} {us:List Value} (h:(fn.results.toList.mapM (resRun a)).run cx.P w=.ok us w) :
    (results fn a.tmps).run cx.P w=.ok (packU us) w:=by
  have h1:(fn.results.mapM (resRun a)).run cx.P w=.ok us.toArray w:=by
    rw [Array.mapM_eq_mapM_toList]
    simp [h]
  have h2:(results fn a.tmps)=(do let vs ← fn.results.mapM (resRun a);pure (if h:vs.size=1 then vs[0] else .tuple vs)):=by
    unfold results
    have:(fun r:ResultVar=>match r with
      | .tmp t=>pure (a.tmps.getD t undef)
      | .cell b t=>do loadVar t (← asAddr (a.tmps.getD b undef)))=resRun a:=by
      funext r
      cases r <;> rfl
    rw [← this]
    rfl
  rw [h2,Sem.run_bind,h1,Result.andThen_ok]
  cases us with
  | nil=>rfl
  | cons u us =>
    cases us with
    | nil=>rfl
    | cons v r=>rfl
end
end Go.Idl
namespace Go.Idl
open Go
section
variable {cx:Cx} {w w':World} {F F':Nat→Prop} {ρ ρ':Rho} {fp fp':Fp} {X f f' fy Xb fv:List Nat} {st st':St} {a:Act} {tm:Nat→Value} {v:IV}
theorem backs_rel:∀ {lent:List Nat} {X:List Nat} {fp:Fp} {st st':St} {back:List IV} {vs:List Value},Rel cx w F ρ fp X st (regs a)→st.backs lent=some (back,st')→(∀ s ∈ lent,regs a s=vs.getD s undef) →
    ∃ fp' Xb,Rel cx w F ρ fp' (Xb++X) st' (regs a)∧BackR w F vs lent back Xb∧(∀ b ∈ Xb,∃ r,b ∈ fp r)∧(∀ r,∀ b ∈ fp' r,b ∈ fp r)∧ShpLe st st'∧st'.M=st.M∧st'.loc=st.loc
  | [],X,fp,st,st',back,vs,h,ha,_=>by
    simp only [St.backs,Option.some.injEq,Prod.mk.injEq] at ha
    obtain ⟨rfl,rfl⟩:=ha
    exact ⟨fp,[],h,rfl,by simp,fun _ _ h=>h,.refl _,rfl,rfl⟩
  | s::lent,X,fp,st,st',back,vs,h,ha,hv=>by
    simp only [St.backs] at ha
    obtain ⟨h1,h2⟩:=h.drop s
    have hsub:∀ r,∀ b ∈ updFp fp (.S s) [] r,b ∈ fp r:=fun r b hb=>by
      unfold updFp at hb;split at hb
      · cases hb
      · exact hb
    have fin:∀ {y:IV} {ys:List IV},({ st with T:=dropSlot s st.T }:St).backs lent=some (ys,st')→BackV w F (regs a s) y (fp (.S s)) →
        ∃ fp' Xb,Rel cx w F ρ fp' (Xb++X) st' (regs a)∧BackR w F vs (s::lent) (y::ys) Xb∧(∀ b ∈ Xb,∃ r,b ∈ fp r)∧(∀ r,∀ b ∈ fp' r,b ∈ fp r)∧ShpLe st st'∧st'.M=st.M∧st'.loc=st.loc:=by
      intro y ys hb hd
      obtain ⟨fp',Xb,k1,k2,k3,k4,k5,k6,k7⟩:=backs_rel h1 hb (fun s' hs'=>hv s' (by simp [hs']))
      refine ⟨fp',fp (.S s)++Xb,k1.perm ?_,⟨fp (.S s),Xb,rfl,by rw [← hv s (by simp)];exact hd,k2⟩,fun b hb=>?_,fun r b hb=>hsub r b (k4 r b hb),(shp_T st _).trans k5,k6,k7⟩
      · rw [← List.append_assoc]
        exact List.Perm.append_right X List.perm_append_comm
      · rcases List.mem_append.1 hb with hb | hb
        · exact ⟨_,hb⟩
        · obtain ⟨r,hb⟩:=k3 b hb
          exact ⟨r,hsub r b hb⟩
    split at ha
    · rename_i e es hT
      split at ha
      rotate_left
      · cases ha
      rename_i ys st2 hb
      simp only [Option.some.injEq,Prod.mk.injEq] at ha
      obtain ⟨rfl,rfl⟩:=ha
      rw [hT] at h2
      have hkl:kl (IV.rooted (.S s)) (.own e es)=.own e es:=rfl
      rw [hkl] at h2
      refine fin hb ?_
      rcases h2 with ⟨h2,_⟩ | h2
      · exact h2.elim
      · exact h2
    · rename_i cs hT
      split at ha
      rotate_left
      · cases ha
      rename_i hdat
      split at ha
      rotate_left
      · cases ha
      rename_i ys st2 hb
      simp only [Option.some.injEq,Prod.mk.injEq] at ha
      obtain ⟨rfl,rfl⟩:=ha
      rw [hT] at h2
      obtain ⟨C,hC,hcat⟩:=h2
      have hkl:cs.map (klc (IV.rooted (.S s)))=cs:=by
        rw [List.all_eq_true] at hdat
        refine (List.map_congr_left fun x hx=>?_).trans (List.map_id cs)
        have:=hdat x hx
        cases x <;> first | rfl | simp [IV.isData] at this
      rw [hkl] at hcat
      exact fin hb ⟨C,hC,RDs.of_data hcat hdat⟩
    · cases ha
theorem Rel.leaveR (h:Rel cx w F ρ fp (Xb++fv) st (regs a)) {v:IV} {u:Value} {back:List IV} {e:Option Nat} {exp:Boxes}
    (he:(e=none∧exp=[]) ∨ (∃ k0 cs,e=some k0∧st.loc[k0]? = some cs∧cs.all IV.isData=true∧exp=[cs]))
    (hv:∀ (ρ':Rho) lk,(∀ l k,l < st.M.length→ρ' l k=ρ l k)→(∀ k0,e=some k0→ρ' st.M.length 0=ρ st.M.length k0)→RSlot cx w F ρ' (retSt ⟨v,back,st.M,exp⟩) lk v u fv) :
    ∃ ρ' fp',Rel cx w F ρ' fp' Xb (retSt ⟨v,back,st.M,exp⟩) (retTm u)∧(∀ q,∀ b ∈ fp' q,(∃ r,b ∈ fp r) ∨ b ∈ fv)∧∀ l k,l < st.M.length→ρ' l k=ρ l k:=by
  let L:=st.M.length
  let ρN:Rho:=fun l k=>if l=L then ρ L (e.getD 0) else ρ l k
  let rt:Rt→Option Rt:=fun
    | .S _=>none
    | .B l k=>if l < L then some (.B l k) else if l=L∧k=0 then e.map (.B L ·) else none
  let fpN:Fp:=fun
    | .S s=>if s=0 then fv else []
    | .B l k=>match rt (.B l k) with
      | some q=>fp q
      | none=>[]
  have hρ:∀ l k,l < L→ρN l k=ρ l k:=fun l k hl=>by
    have:l ≠ L:=by omega
    simp [ρN,this]
  have hρe:∀ k0,e=some k0→ρN L 0=ρ L k0:=fun k0 hk=>by simp [ρN,hk]
  have hbox1:∀ l k,l < L→(retSt ⟨v,back,st.M,exp⟩).box l k=st.box l k:=fun l k hl=>by
    have:l ≠ st.M.length:=by show l ≠ L;omega
    simp [retSt,St.box,this]
  have hbox2:∀ k,(retSt ⟨v,back,st.M,exp⟩).box L k=exp[k]?:=fun k=>by simp [retSt,St.box,L]
  have hbox3:∀ l k,L < l→(retSt ⟨v,back,st.M,exp⟩).box l k=none:=fun l k hl=>by
    have h1:l ≠ st.M.length:=by show l ≠ L;omega
    have h2:st.M[l]? = none:=List.getElem?_eq_none (by show L≤l;omega)
    simp [retSt,St.box,h1,h2]
  have hstL:∀ k,st.box L k=st.loc[k]?:=fun k=>by simp [St.box,L]
  have hfp:∀ q b,b ∈ fpN q→(∃ r,rt q=some r∧b ∈ fp r) ∨ (q=.S 0∧b ∈ fv):=by
    intro q b hb
    cases q with
    | S s =>
      by_cases hs:s=0
      · subst hs;exact .inr ⟨rfl,by simpa [fpN] using hb⟩
      · simp [fpN,hs] at hb
    | B l k =>
      simp only [fpN] at hb
      split at hb
      · rename_i q hq;exact .inl ⟨q,hq,hb⟩
      · cases hb
  have hrt:∀ q q' r,rt q=some r→rt q'=some r→q=q':=by
    intro q q' r h1 h2
    cases q with
    | S s=>simp [rt] at h1
    | B l k =>
      cases q' with
      | S s=>simp [rt] at h2
      | B l' k' =>
        simp only [rt] at h1 h2
        split at h1
        · split at h2
          · rw [← h1] at h2;simp only [Option.some.injEq,Rt.B.injEq] at h2;obtain ⟨rfl,rfl⟩:=h2;rfl
          · split at h2
            · cases e with
              | none=>simp at h2
              | some k0 =>
                simp only [Option.map_some,Option.some.injEq] at h1 h2
                rw [← h1] at h2
                simp only [Rt.B.injEq] at h2
                omega
            · cases h2
        · split at h1
          · rename_i hlk
            split at h2
            · cases e with
              | none=>simp at h1
              | some k0 =>
                simp only [Option.map_some,Option.some.injEq] at h1 h2
                rw [← h1] at h2
                simp only [Rt.B.injEq] at h2
                omega
            · split at h2
              · rename_i hlk'
                rw [hlk.1,hlk.2,hlk'.1,hlk'.2]
              · cases h2
          · cases h1
  have hX:=List.nodup_append.1 h.xnodup
  have hXb:∀ b ∈ Xb,b ∈ Xb++fv:=fun b hb=>by simp [hb]
  have hXv:∀ b ∈ fv,b ∈ Xb++fv:=fun b hb=>by simp [hb]
  have hrd:∀ (l:Nat) {x:IV} {u:Value} {g:List Nat},l < L→RBox cx w F ρ st l x u g→RBox cx w F ρN (retSt ⟨v,back,st.M,exp⟩) l x u g:=fun l x u g hl hx =>
    hx.lv fun l' k' hl' hb=>⟨hρ l' k' (by omega),by rw [hbox1 l' k' (by omega)];exact hb⟩
  refine ⟨ρN,fpN,⟨fun s=>?_,fun l k cs hb=>?_,fun l k hb=>?_,fun q=>?_,fun q q' hq b hb hb'=>?_,fun q b hb=>?_,fun q b hb=>?_,h.Flt,hX.1,fun q b hb hx=>?_,fun b hb=>h.xF b (hXb b hb),fun b hb=>h.xlt b (hXb b hb)⟩,fun q b hb=>?_,hρ⟩
  · by_cases hs:s=0
    · subst hs
      have:=hv ρN (look (retSt ⟨v,back,st.M,exp⟩) (retTm u) ρN w) hρ hρe
      simpa [retSt,tget,retTm,fpN] using this
    · have h1:tget (retSt ⟨v,back,st.M,exp⟩).T s=.un:=by
        have:¬ (0=s):=fun h=>hs h.symm
        simp [retSt,tget,this]
      rw [h1,show fpN (.S s)=[] from by simp [fpN,hs]]
      exact rcomp_un
  · rcases Nat.lt_trichotomy l L with hl | hl | hl
    · rw [hbox1 l k hl] at hb
      obtain ⟨C,ty,f0,k1,k2,k3⟩:=h.boxes l k cs hb
      refine ⟨C,ty,f0,?_,by rw [hρ l k hl];exact k2,k3.mono fun x v f _ hx _=>hrd l hl hx⟩
      rw [hρ l k hl,← k1]
      simp [fpN,rt,hl]
    · subst hl
      rw [hbox2 k] at hb
      rcases he with ⟨_,rfl⟩ | ⟨k0,cs0,rfl,hk0,hdat,rfl⟩
      · simp at hb
      · cases k with
        | succ k=>simp at hb
        | zero =>
          simp only [List.getElem?_cons_zero,Option.some.injEq] at hb
          subst hb
          obtain ⟨C,ty,f0,k1,k2,k3⟩:=h.boxes L k0 cs0 (by rw [hstL];exact hk0)
          refine ⟨C,ty,f0,?_,by rw [hρe k0 rfl];exact k2,k3.mono fun x v f _ hx hm=>hx.data (List.all_eq_true.1 hdat x hm)⟩
          rw [hρe k0 rfl,← k1]
          simp [fpN,rt]
    · rw [hbox3 l k hl] at hb;cases hb
  · rcases Nat.lt_trichotomy l L with hl | hl | hl
    · rw [hbox1 l k hl] at hb
      have:=h.nobox l k hb
      simpa [fpN,rt,hl] using this
    · subst hl
      rw [hbox2 k] at hb
      rcases he with ⟨rfl,rfl⟩ | ⟨k0,cs0,rfl,hk0,hdat,rfl⟩
      · simp [fpN,rt]
      · cases k with
        | succ k=>simp [fpN,rt]
        | zero=>simp at hb
    · have h1:¬ l < L:=by omega
      have h2:¬ l=L:=by omega
      simp [fpN,rt,h1,h2]
  · cases q with
    | S s=>by_cases hs:s=0
           · subst hs;simpa [fpN] using hX.2.1
           · simp [fpN,hs]
    | B l k =>
      simp only [fpN]
      split
      · exact h.nodup _
      · exact List.nodup_nil
  · rcases hfp q b hb with ⟨r,h1,h2⟩ | ⟨rfl,h2⟩
    · rcases hfp q' b hb' with ⟨r',h3,h4⟩ | ⟨rfl,h4⟩
      · by_cases hrr:r=r'
        · subst hrr;exact hq (hrt q q' r h1 h3)
        · exact h.disj r r' hrr b h2 h4
      · exact h.xdisj r b h2 (hXv b h4)
    · rcases hfp q' b hb' with ⟨r',h3,h4⟩ | ⟨rfl,h4⟩
      · exact h.xdisj r' b h4 (hXv b h2)
      · exact hq rfl
  · rcases hfp q b hb with ⟨r,h1,h2⟩ | ⟨rfl,h2⟩
    · exact h.notF r b h2
    · exact h.xF b (hXv b h2)
  · rcases hfp q b hb with ⟨r,h1,h2⟩ | ⟨rfl,h2⟩
    · exact h.lt r b h2
    · exact h.xlt b (hXv b h2)
  · rcases hfp q b hb with ⟨r,h1,h2⟩ | ⟨rfl,h2⟩
    · exact h.xdisj r b h2 (hXb b hx)
    · exact hX.2.2 b hx b h2 rfl
  · rcases hfp q b hb with ⟨r,h1,h2⟩ | ⟨rfl,h2⟩
    · exact .inl ⟨r,h2⟩
    · exact .inr h2
end
end Go.Idl
namespace Go.Idl
open Go
def okRet (L:Nat):IV→Bool
  | .tup vs=>vs.all (IV.okLvl L)
  | x=>x.okLvl L
theorem leave_some {st:St} {v:IV} {back:List IV} {r:Ret} (h:st.leave v back=some r):r.back=back∧r.M=st.M ∧
    ((r.v=v∧r.exp=[]∧okRet st.M.length v=true) ∨ ∃ k c cs,v=.bptr st.M.length k c∧st.loc[k]? = some cs∧cs.all IV.isData=true∧r.v=.bptr st.M.length 0 c∧r.exp=[cs]):=by
  have lv:∀ x:IV,x.lvl st.M.length=true→(∀ cs,x ≠ .agg cs)→(∀ vs,x ≠ .tup vs)→okRet st.M.length x=true:=by
    intro x hx h1 h2
    cases x <;> first | exact (h1 _ rfl).elim | exact (h2 _ rfl).elim | exact hx
  cases v with
  | bptr l k c =>
    simp only [St.leave] at h
    split at h
    · rename_i hl
      split at h
      · rename_i cs hcs
        split at h
        · rename_i hd
          simp only [Option.some.injEq] at h
          subst h
          subst hl
          exact ⟨rfl,rfl,.inr ⟨k,c,cs,rfl,hcs,hd,rfl,rfl⟩⟩
        · cases h
      · cases h
    · split at h
      · rename_i hl
        simp only [Option.some.injEq] at h
        subst h
        exact ⟨rfl,rfl,.inl ⟨rfl,rfl,by simpa [okRet,IV.okLvl,IV.lvl] using hl⟩⟩
      · cases h
  | agg cs =>
    simp only [St.leave] at h
    split at h
    · rename_i hd
      simp only [Option.some.injEq] at h
      subst h
      exact ⟨rfl,rfl,.inl ⟨rfl,rfl,hd⟩⟩
    · cases h
  | tup vs =>
    simp only [St.leave] at h
    split at h
    · rename_i hd
      simp only [Option.some.injEq] at h
      subst h
      refine ⟨rfl,rfl,.inl ⟨rfl,rfl,?_⟩⟩
      rw [List.all_eq_true] at hd
      simp only [okRet,List.all_eq_true]
      intro x hx
      have:=hd x hx
      cases x <;> exact this
    · cases h
  | sc u =>
    simp only [St.leave] at h
    split at h
    · rename_i hd
      simp only [Option.some.injEq] at h
      subst h
      exact ⟨rfl,rfl,.inl ⟨rfl,rfl,hd⟩⟩
    · cases h
  | lst e es c =>
    simp only [St.leave] at h
    split at h
    · rename_i hd
      simp only [Option.some.injEq] at h
      subst h
      exact ⟨rfl,rfl,.inl ⟨rfl,rfl,hd⟩⟩
    · cases h
  | own e es =>
    simp only [St.leave] at h
    split at h
    · rename_i hd
      simp only [Option.some.injEq] at h
      subst h
      exact ⟨rfl,rfl,.inl ⟨rfl,rfl,hd⟩⟩
    · cases h
  | fn g cs =>
    simp only [St.leave] at h
    split at h
    · rename_i hd
      simp only [Option.some.injEq] at h
      subst h
      exact ⟨rfl,rfl,.inl ⟨rfl,rfl,hd⟩⟩
    · cases h
  | arr=>simp [St.leave,IV.lvl] at h
  | eptr=>simp [St.leave,IV.lvl] at h
  | lptr=>simp [St.leave,IV.lvl] at h
  | un=>simp [St.leave,IV.lvl] at h
section
variable {cx:Cx} {w w0:World} {F F0:Nat→Prop} {ρ ρ0:Rho} {fp fp0:Fp} {Xb fv:List Nat} {st st1 st2:St} {a:Act}
theorem cat_one {R:IV→Value→List Nat→Prop} {x:IV} {us:List Value} {f:List Nat} (h:Cat R [x] us f):∃ u,us=[u]∧R x u f:=by
  cases h with
  | cons h t=>obtain ⟨rfl,rfl⟩:=t.nil_inv;exact ⟨_,rfl,by simpa using h⟩
theorem pack_slot {vals:List IV} {us:List Value} {st':St} {ρ':Rho} {lk} (hc:Cat (RA cx w F ρ st) vals us fv) (hk:okRet st.M.length (packRes vals)=true)
    (hb:∀ l k,l < st.M.length→(st.box l k).isSome=true→ρ' l k=ρ l k∧(st'.box l k).isSome=true):RSlot cx w F ρ' st' lk (packRes vals) (packU us) fv∧(packRes vals).isRet=true:=by
  have many:∀ {vals:List IV} {us:List Value},Cat (RA cx w F ρ st) vals us fv→vals.all (IV.okLvl st.M.length)=true→RSlot cx w F ρ' st' lk (.tup vals) (.tuple us.toArray) fv∧(IV.tup vals).isRet=true:=by
    intro vals us hc hk
    refine ⟨⟨us.toArray,rfl,?_⟩,?_⟩
    · simpa using hc.mono fun x u f _ hx hm=>hx.lv (List.all_eq_true.1 hk x hm) hb
    · simp only [IV.isRet,List.all_eq_true]
      intro x hx
      have:∀ {xs us f},Cat (RA cx w F ρ st) xs us f→∀ x ∈ xs,x.isA=true:=by
        intro xs us f hc
        induction hc with
        | nil=>simp
        | cons h t ih=>intro x hx;rcases List.mem_cons.1 hx with rfl | hx
                       · exact h.2
                       · exact ih x hx
      exact this hc x hx
  match vals,hc,hk with
  | [],hc,hk =>
    obtain ⟨rfl,rfl⟩:=hc.nil_inv
    exact many .nil rfl
  | [v],hc,hk =>
    obtain ⟨u,rfl,hx⟩:=cat_one hc
    have hA:=hx.2
    have ht:∀ vs,v ≠ .tup vs:=fun vs he=>by rw [he] at hA;simp [IV.isA,IV.isD] at hA
    have hk':v.okLvl st.M.length=true:=by
      simp only [packRes] at hk
      cases v <;> first | exact (ht _ rfl).elim | exact hk
    refine ⟨rcomp_slot (hx.lv hk' hb),?_⟩
    simp only [packRes]
    cases v <;> first | exact (ht _ rfl).elim | exact hA
  | v1::v2::r,hc,hk =>
    have hl:=hc.len
    match us,hl with
    | u1::u2::s,_=>exact many hc hk
theorem leave_ok {P:Program} {fn:Func} {f:IFun} {args:List IV} {M:List Boxes} {lent:List Nat} {vs:List Value} {r:Ret} (hP:cx.P=P) (hR:Rel cx w F ρ fp [] st (regs a))
    (hE:Ext w0 F0 ρ0 fp0 [] (exB (argSt args M)) w F ρ fp []) (hS:ShpLe (argSt args M) st) (hres:okRess P fn.results.toList f.res) (hkeep:∀ s ∈ lent,regs a s=vs.getD s undef)
    {vals:List IV} (h1:st.retvs f.res=some (vals,st1)) {back:List IV} (h2:st1.backs lent=some (back,st2)) (h3:st2.leave (packRes vals) back=some r) :
    ∃ u,(results fn a.tmps).run P w=.ok u w∧RetPost cx w0 F0 ρ0 fp0 M lent vs r (.returned u) w:=by
  subst hP
  obtain ⟨fp1,fv,us,a1,a2,a3,a4,a5,a6⟩:=retvs_rel hR hres h1
  obtain ⟨fp2,Xb,b1,b2,b3,b4,b5,b6,b7⟩:=backs_rel a1 h2 hkeep
  rw [List.append_nil] at b1
  have hvals:Cat (RA cx w F ρ st2) vals us fv:=a2.mono fun x u f _ hx _=>hx.keep b5
  have hM2:st2.M.map List.length=M.map List.length:=by
    rw [b5.M,a6.M,hS.M];rfl
  have hML:st2.M.length=M.length:=by
    have:=congrArg List.length hM2
    simpa using this
  have hsub2:∀ r,∀ b ∈ fp2 r,b ∈ fp r:=fun r b hb=>a5 r b (b4 r b hb)
  have hXbs:∀ b ∈ Xb,∃ r,b ∈ fp r:=fun b hb=>by obtain ⟨r,hb⟩:=b3 b hb;exact ⟨r,a5 r b hb⟩
  have hbx:∀ l k,(({ T:=[],loc:=[],M:=M }:St).box l k).isSome=true→l < M.length∧exB (argSt args M) l k:=by
    intro l k hb
    have hl:l < M.length:=by
      rcases Nat.lt_trichotomy l M.length with hl | hl | hl
      · exact hl
      · subst hl;simp [St.box] at hb
      · have h0:l ≠ M.length:=by omega
        have:M[l]? = none:=List.getElem?_eq_none (by omega)
        simp [St.box,h0,this] at hb
    exact ⟨hl,hb⟩
  have fin:∀ {v:IV} {exp:Boxes} {ρ':Rho} {fp':Fp},r=⟨v,back,st2.M,exp⟩→Rel cx w F ρ' fp' Xb (retSt ⟨v,back,st2.M,exp⟩) (retTm (packU us))→(∀ q,∀ b ∈ fp' q,(∃ r,b ∈ fp2 r) ∨ b ∈ fv)→(∀ l k,l < st2.M.length→ρ' l k=ρ l k) →
      v.isRet=true→exp.all (·.all IV.isData)=true→RetPost cx w0 F0 ρ0 fp0 M lent vs r (.returned (packU us)) w:=by
    intro v exp ρ' fp' hr q1 q2 q3 q4 q5
    subst hr
    have hsrc:∀ q,∀ b ∈ fp' q,∃ r,b ∈ fp r:=fun q b hb=>by
      rcases q2 q b hb with ⟨r,hb⟩ | hb
      · exact ⟨r,hsub2 r b hb⟩
      · exact a4 b hb
    refine ⟨packU us,F,ρ',fp',Xb,rfl,q1,⟨hE.size,hE.keep,fun q b hb=>?_,fun b hb=>?_,hE.Fm,hE.Fn,fun l k hb=>?_,hE.env⟩,hM2,b2,q4,q5⟩
    · obtain ⟨r,hb⟩:=hsrc q b hb;exact hE.fpn r b hb
    · obtain ⟨r,hb⟩:=hXbs b hb;exact hE.fpn r b hb
    · obtain ⟨k1,k2⟩:=hbx l k hb
      rw [q3 l k (by omega)]
      exact hE.rho l k k2
  refine ⟨packU us,results_run a3,?_⟩
  obtain ⟨c1,c2,c3⟩:=leave_some h3
  obtain ⟨rv,rb,rM,rexp⟩:=r
  simp only at c1 c2 c3
  subst c1 c2
  rcases c3 with ⟨rfl,rfl,hok⟩ | ⟨k,c,cs,hv,hloc,hdat,rfl,rfl⟩
  · have hslot:∀ (ρ':Rho) lk,(∀ l k,l < st2.M.length→ρ' l k=ρ l k)→RSlot cx w F ρ' (retSt ⟨packRes vals,rb,st2.M,[]⟩) lk (packRes vals) (packU us) fv∧(packRes vals).isRet=true:=by
      intro ρ' lk hρ
      refine pack_slot hvals hok fun l k hl hb=>⟨hρ l k hl,?_⟩
      have:l ≠ st2.M.length:=by omega
      simpa [retSt,St.box,this] using hb
    obtain ⟨ρ',fp',q1,q2,q3⟩:=b1.leaveR (v:=packRes vals) (u:=packU us) (back:=rb) (e:=none) (exp:=[]) (.inl ⟨rfl,rfl⟩) (fun ρ' lk hρ _=>(hslot ρ' lk hρ).1)
    exact fin rfl q1 q2 q3 (hslot ρ (fun _ _=>none) (fun _ _ _=>rfl)).2 rfl
  · have hone:vals=[.bptr st2.M.length k c]:=by
      match vals,hv with
      | [v],hv=>simp only [packRes] at hv;rw [hv]
      | [],hv=>simp [packRes] at hv
      | _::_::_,hv=>simp [packRes] at hv
    subst hone
    obtain ⟨u,rfl,hx⟩:=cat_one hvals
    obtain ⟨hp,hfv⟩:u=.pointer (some ⟨ρ st2.M.length k,c,none⟩)∧fv=[]:=by
      rcases hx.1 with ⟨⟨hx,_⟩,h0⟩ | hx
      · exact ⟨hx,h0⟩
      · cases hx
    have hslot:∀ (ρ':Rho) lk,(∀ k0,some k=some k0→ρ' st2.M.length 0=ρ st2.M.length k0)→RSlot cx w F ρ' (retSt ⟨.bptr st2.M.length 0 c,rb,st2.M,[cs]⟩) lk (.bptr st2.M.length 0 c) u fv:=by
      intro ρ' lk he
      refine .inl ⟨⟨?_,by simp [retSt,St.box]⟩,hfv⟩
      rw [he k rfl];exact hp
    obtain ⟨ρ',fp',q1,q2,q3⟩:=b1.leaveR (v:=.bptr st2.M.length 0 c) (u:=u) (back:=rb) (e:=some k) (exp:=[cs]) (.inr ⟨k,cs,rfl,hloc,hdat,rfl⟩) (fun ρ' lk _ he=>hslot ρ' lk he)
    exact fin rfl q1 q2 q3 rfl (by simp [hdat])
end
end Go.Idl
