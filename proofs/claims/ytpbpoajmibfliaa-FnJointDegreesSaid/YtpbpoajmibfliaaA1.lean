/- Part 1 of a proof by an ideal interpreter of the code: its definitions and lemmas. Conditions: none. -/
import Derived.Laws.AppendOwn
import Derived.Laws.BytesArg
import Derived.Laws.CopyRow
import Derived.Laws.MakeOwn
import Derived.Laws.StructEq
import Derived.Laws.Tables
import Derived.Test.YtpbpoajmibfliaaA0
set_option linter.all false
set_option linter.unusedVariables false
set_option linter.unusedSimpArgs false
namespace Go.Idl
open Go
section
variable {cx:Cx} {w:World} {F:Nat→Prop} {ρ:Rho} {fp:Fp} {X f:List Nat} {st:St} {a:Act} {o:Oper} {tm:Nat→Value}
theorem RBox.rc {l x v f} {lk} (h:RBox cx w F ρ st l x v f):RC cx w F ρ st lk x v f:=by
  rcases h with ⟨h,_,h3,h4⟩ | h
  · refine .inl ⟨?_,h4⟩
    cases x <;> simp at h3 <;> exact h
  · exact .inr h
theorem RDs.cat {xs vs fp lk} (h:RDs w F xs vs fp):Cat (RC cx w F ρ st lk) xs vs fp:=by
  induction xs generalizing vs fp with
  | nil=>cases h;exact .nil
  | cons x xs ih =>
    obtain ⟨v,us,f1,f2,rfl,rfl,h1,h2⟩:=h.cons_inv
    exact .cons (.inr h1) (ih h2)
theorem Cat.dropf {R:IV→Value→List Nat→Prop}:∀ {n:Nat} {xs vs f},Cat R xs vs f→∃ f',Cat R (xs.drop n) (vs.drop n) f'
  | 0,_,_,f,h=>⟨f,h⟩
  | n+1,xs,vs,f,h=>by
    cases h with
    | nil=>exact ⟨[],by simp;exact .nil⟩
    | cons h t=>exact Cat.dropf (n:=n) t
theorem Cat.takef {R:IV→Value→List Nat→Prop}:∀ {n:Nat} {xs vs f},Cat R xs vs f→∃ f',Cat R (xs.take n) (vs.take n) f'
  | 0,_,_,_,h=>⟨[],.nil⟩
  | n+1,xs,vs,f,h=>by
    cases h with
    | nil=>exact ⟨[],by simp;exact .nil⟩
    | cons h t=>obtain ⟨f',h'⟩:=Cat.takef (n:=n) t;exact ⟨_,.cons h h'⟩
theorem folR_snoc:∀ {p:Path} {x:IV} {v:Value} {e es b o N cap i j} {el:List IV} {y:IV} {u:Value},folR w x v p=some (.own e es,.slice (some ⟨b,o,none⟩) N cap)→es[i]? = some el→el[j]? = some y →
    w.cell? ⟨b,o+i * e+j,none⟩=some u→folR w x v (p++[(i,j)])=some (y,u)
  | [],x,v,e,es,b,o,N,cap,i,j,el,y,u,h,hi,hj,hc=>by
    simp only [folR,Option.some.injEq,Prod.mk.injEq] at h
    obtain ⟨rfl,rfl⟩:=h
    simp only [List.nil_append,folR,hi,hj,hc]
  | (i',j')::p,x,v,e,es,b,o,N,cap,i,j,el,y,u,h,hi,hj,hc=>by
    cases x with
    | own e0 es0 =>
      cases v with
      | slice A n0 c0 =>
        cases A with
        | none=>simp [folR] at h
        | some A =>
          simp only [List.cons_append,folR] at h ⊢
          cases h1:es0[i']? with
          | none=>simp [h1] at h
          | some el0 =>
            simp only [h1] at h ⊢
            cases h2:el0[j']? with
            | none=>simp [h2] at h
            | some y0 =>
              simp only [h2] at h ⊢
              cases h3:w.cell? ⟨A.block,A.off+i' * e0+j',none⟩ with
              | none=>simp [h3] at h
              | some u0 =>
                simp only [h3] at h ⊢
                exact folR_snoc h hi hj hc
      | _=>simp [folR] at h
    | _=>simp [folR] at h
theorem load_cells (h:Rel cx w F ρ fp X st tm) {x:IV} {v:Value} (hx:RC cx w F ρ st (look st tm ρ w) x v []) {sz:Nat} {cs:List IV} (hl:st.loadCells sz x=some cs) :
    ∃ (ad:Addr) (vs:List Value),v=.pointer (some ad)∧Cat (RC cx w F ρ st (look st tm ρ w)) cs vs []∧vs.length=sz∧∀ j u,vs[j]? = some u→w.cell? (ad.add j)=some u:=by
  cases x with
  | bptr l k c =>
    simp only [St.loadCells] at hl
    cases hb:st.box l k with
    | none=>simp [hb] at hl
    | some bs =>
      simp only [hb] at hl
      cases hs:sub bs c sz with
      | none=>simp [hs] at hl
      | some xs =>
        simp only [hs,Option.some.injEq] at hl
        subst hl
        obtain ⟨hle,rfl⟩:=sub_some hs
        rcases hx with ⟨⟨hv,_⟩,_⟩ | hx
        rotate_left
        · cases hx
        obtain ⟨C,ty,f0,h1,h2,h3⟩:=h.boxes l k bs hb
        have h3':Cat (RC cx w F ρ st (look st tm ρ w)) bs C.toList f0:=h3.mono fun x v f _ hx _=>hx.rc
        obtain ⟨f1,h4⟩:=h3'.dropf (n:=c)
        obtain ⟨f2,h5⟩:=h4.takef (n:=sz)
        have hlen:bs.length=C.toList.length:=h3.len
        refine ⟨_,(C.toList.drop c).take sz,hv,view_cells h5 (fun q e es u k1 k2=>?_),by rw [List.length_take,List.length_drop];omega,fun j u hj=>?_⟩
        · have hq:q < sz:=by
            rcases Nat.lt_or_ge q sz with hh | hh
            · exact hh
            · rw [List.getElem?_eq_none (by rw [List.length_take];omega)] at k1;cases k1
          rw [List.getElem?_take_of_lt hq,List.getElem?_drop] at k1
          rw [drop_take_get hq] at k2
          refine ⟨.own e es,u,?_,rfl⟩
          simp only [look,hb,k1,cell_of h2,k2]
        · have hq:j < sz:=by
            rcases Nat.lt_or_ge j sz with hh | hh
            · exact hh
            · rw [List.getElem?_eq_none (by rw [List.length_take];omega)] at hj;cases hj
          rw [drop_take_get hq] at hj
          rw [addr_add,cell_of h2,hj]
  | eptr r c p i j =>
    simp only [St.loadCells] at hl
    rcases hx with ⟨⟨x0,v0,e,es,b,o1,N,cap,k1,k2,k3,k4⟩,_⟩ | hx
    rotate_left
    · cases hx
    have hp:=look_plc h k1 k2
    simp only [hp] at hl
    cases hi:es[i]? with
    | none=>simp [hi] at hl
    | some el =>
      simp only [hi] at hl
      cases hs:sub el j sz with
      | none=>simp [hs] at hl
      | some xs =>
        simp only [hs,Option.some.injEq] at hl
        subst hl
        obtain ⟨hle,rfl⟩:=sub_some hs
        obtain ⟨e0,es0,rfl⟩:=folR_own k2
        obtain ⟨f0,g1,g2,g3⟩:=h.data k1 (folR_slice k2)
        obtain ⟨u0,a1,a2,a3,hfu,_,hRn,_⟩:=g3.fol (folR_fol k2)
        rw [k2] at hfu
        simp only [Option.some.injEq,Prod.mk.injEq,true_and] at hfu
        subst hfu
        rcases RDs.own_inv hRn with ⟨h0,_⟩ | ⟨b1,o2,cap1,C,ty,fp1,h8,_,hb,hd,hle',hnn,ho⟩
        · subst h0;simp at hi
        · simp only [Value.slice.injEq,Option.some.injEq,Addr.mk.injEq,and_true] at h8
          obtain ⟨⟨rfl,rfl⟩,rfl,rfl⟩:=h8
          have hil:i < es.length:=(List.getElem?_eq_some_iff.1 hi).1
          have hell:el.length=e:=hle' _ (List.mem_of_getElem? hi)
          obtain ⟨f1,fq,f2,_,hq⟩:=hd.elem hle' hi
          have hbnd:(i+1) * e≤es.length * e:=Nat.mul_le_mul_right _ hil
          rw [Nat.succ_mul] at hbnd
          have hsl:(((C.toList.drop o1).take (es.length * e)).drop (i * e)).take e=(C.toList.drop (o1+i * e)).take e:=by
            rw [List.drop_take,List.drop_drop,List.take_take];congr 1;omega
          rw [hsl] at hq
          have hcat:Cat (RC cx w F ρ st (look st tm ρ w)) el _ fq:=hq.cat
          obtain ⟨f3,h4⟩:=hcat.dropf (n:=j)
          obtain ⟨f4,h5⟩:=h4.takef (n:=sz)
          have hsl2:(((C.toList.drop (o1+i * e)).take e).drop j).take sz=(C.toList.drop (o1+i * e+j)).take sz:=by
            rw [List.drop_take,List.drop_drop,List.take_take];congr 1;omega
          rw [hsl2] at h5
          have hlen:=h5.len
          refine ⟨_,(C.toList.drop (o1+i * e+j)).take sz,k4,view_cells h5 (fun q e' es' u q1 q2=>?_),?_,fun q u hj=>?_⟩
          · have hq:q < sz:=by
              rcases Nat.lt_or_ge q sz with hh | hh
              · exact hh
              · rw [List.getElem?_eq_none (by rw [List.length_take];omega)] at q1;cases q1
            rw [List.getElem?_take_of_lt hq,List.getElem?_drop] at q1
            rw [drop_take_get hq] at q2
            exact ⟨_,v0,k1,folR_snoc k2 hi q1 (by rw [cell_of hb,← q2,Nat.add_assoc (o1+i * e)])⟩
          · rw [← hlen,List.length_take,List.length_drop];omega
          · have hq:q < sz:=by
              rcases Nat.lt_or_ge q sz with hh | hh
              · exact hh
              · rw [List.getElem?_eq_none (by rw [List.length_take];omega)] at hj;cases hj
            rw [drop_take_get hq] at hj
            rw [addr_add,cell_of hb,hj]
  | lptr ec j =>
    simp only [St.loadCells] at hl
    obtain ⟨hle,rfl⟩:=sub_some hl
    rcases hx with ⟨⟨b,o1,C,ty,fr,k1,k2,k3,k4⟩,_⟩ | hx
    rotate_left
    · cases hx
    have hcat:Cat (RC cx w F ρ st (look st tm ρ w)) ec _ []:=k3.cat
    have h5:=(hcat.drop (n:=j)).take (n:=sz)
    have hsl2:(((C.toList.drop o1).take ec.length).drop j).take sz=(C.toList.drop (o1+j)).take sz:=by
      rw [List.drop_take,List.drop_drop,List.take_take];congr 1;omega
    rw [hsl2] at h5
    have hlen:=h5.len
    refine ⟨_,(C.toList.drop (o1+j)).take sz,k4,h5,?_,fun q u hj=>?_⟩
    · rw [← hlen,List.length_take,List.length_drop];omega
    · have hq:q < sz:=by
        rcases Nat.lt_or_ge q sz with hh | hh
        · exact hh
        · rw [List.getElem?_eq_none (by rw [List.length_take];omega)] at hj;cases hj
      rw [drop_take_get hq] at hj
      rw [addr_add,cell_of k2,hj]
  | _=>simp [St.loadCells] at hl
theorem out_load (h:Rel cx w F ρ fp X st (regs a)) {x:Opd} {x':Operand} {t sz ag} (hx:okOpd cx x' x) (hsz:sizeIs cx.P t sz) (hag:aggIs cx.P t ag) (ho:o.op=.load t x') {v:IV} {st':St} {cf}
    (hev:ev cf st (.load ag sz x)=some (v,st')):OpL cx w F ρ fp X st a o v st':=by
  have hr:=rd_rel h hx
  simp only [ev] at hev
  split at hev
  · rename_i cs hl
    split at hev
    · rename_i v1 hp
      simp only [Option.some.injEq,Prod.mk.injEq] at hev
      obtain ⟨rfl,rfl⟩:=hev
      have hrc:RC cx w F ρ st (look st (regs a) ρ w) (rd st.T x) (a.eval x') []:=rslot_rc hr (fun cs hc=>by rw [hc] at hl;simp [St.loadCells] at hl) (fun cs hc=>by rw [hc] at hl;simp [St.loadCells] at hl) (fun hc=>by rw [hc] at hl;simp [St.loadCells] at hl)
      obtain ⟨ad,vs,hv,hcat,hlen,hcells⟩:=load_cells h hrc hl
      rcases pack_some hp with ⟨rfl,rfl⟩ | ⟨rfl,y,rfl,rfl⟩
      · refine OpL.pure h (v':=.agg vs.toArray) ?_ ⟨_,rfl,by simpa using hcat⟩
        intro w' hw'
        have:=run_loadCells_list (P:=cx.P) w' ad vs (fun j u hj=>hw'.cell (hcells j u hj))
        rw [hlen] at this
        simp [execOp,ho,hv,Instr.loadAt,Instr.sureAddr,loadVar,run_isAgg hag,run_sizeOf hsz,this]
      · have hl1:=hcat.len
        cases vs with
        | nil=>simp at hl1
        | cons u us =>
          cases us with
          | cons _ _=>simp at hl1
          | nil =>
          have hu:=hcells 0 u rfl
          rw [show ad.add 0=ad from rfl] at hu
          refine OpL.pure h (v':=u) ?_ ?_
          · intro w' hw'
            simp [execOp,ho,hv,Instr.loadAt,Instr.sureAddr,loadVar,run_isAgg hag,run_load,hw'.cell hu]
          · generalize hf:([]:List Nat)=f0 at hcat
            cases hcat with
            | cons hh tt =>
              have:=List.append_eq_nil_iff.1 hf.symm
              rw [this.1] at hh
              rw [← hf]
              exact rc_rslot hh
    · cases hev
  · cases hev
end
end Go.Idl
namespace Go.Idl
open Go
section
variable {cx:Cx} {w:World} {F:Nat→Prop} {ρ:Rho} {fp fp':Fp} {X f f':List Nat} {st:St} {a:Act} {o:Oper} {tm:Nat→Value}
theorem Ext.sub {ex} (h1:∀ r b,b ∈ fp' r→∃ r',b ∈ fp r') (h2:∀ b,b ∈ f'→∃ r,b ∈ fp r):Ext w F ρ fp X ex w F ρ fp' (f'++X) :=
  ⟨Nat.le_refl _,fun _ _ _ _=>rfl,fun r b h=>.inl (h1 r b h),fun b h=>by
    simp only [List.mem_append] at h
    rcases h with h | h
    · exact .inl (h2 b h)
    · exact .inr (.inl h),fun _ h=>h,fun _ h=>.inl h,fun _ _ _=>rfl,.refl w⟩
theorem out_asg (h:Rel cx w F ρ fp X st (regs a)) {x:Opd} {y:Operand} (hx:okOpd cx y x) (ho:o.op=.move y ∨ o.op=.assign y):OpOut cx w F ρ fp X st a o (tk st.T x).1 { st with T:=(tk st.T x).2 }:=by
  obtain ⟨fp',f,h1,h2,h3,h4⟩:=tk_rel h hx
  refine ⟨a.eval y,w,F,ρ,fp',f,.inl ?_,h1,h2,Ext.sub (fun r b hb=>⟨r,h4 r b hb⟩) h3,⟨rfl,Nat.le_refl _⟩⟩
  rcases ho with ho | ho <;> simp [execOp,ho]
theorem out_asgm (h:Rel cx w F ρ fp X st (regs a)) {x:Opd} {y:Operand} (hx:okOpd cx y x) (ho:o.op=.move y ∨ o.op=.assign y) {v:IV} {st':St} {cf} (hev:ev cf st (.asgm x)=some (v,st')) :
    OpOut cx w F ρ fp X st a o v st':=by
  obtain ⟨fp1,f1,h1,h2,h3,h4⟩:=tk_rel h hx
  have hrun:(execOp a.eval o).run cx.P w=.ok (.value (a.eval y)) w:=by rcases ho with ho | ho <;> simp [execOp,ho]
  simp only [ev] at hev
  split at hev
  · rename_i cs T ht
    rw [ht] at h1 h2
    split at hev
    · rename_i cs' st1 ha
      simp only [Option.some.injEq,Prod.mk.injEq] at hev
      obtain ⟨rfl,rfl⟩:=hev
      obtain ⟨C,hC,hcat⟩:=h2
      obtain ⟨fp2,fy,k1,k2,k3,k4,k5,k6⟩:=h1.absorbs hcat ha
      refine ⟨a.eval y,w,F,ρ,fp2,fy,.inl hrun,k1,⟨C,hC,k2⟩,Ext.sub (fun r b hb=>⟨r,h4 r b (k5 r b hb)⟩) (fun b hb=>?_),⟨k6.M,k6.loc⟩⟩
      rcases k4 b hb with h9 | ⟨r,h9⟩
      · exact h3 b h9
      · exact ⟨r,h4 r b h9⟩
    · cases hev
  · rename_i v0 T hne ht
    rw [ht] at h1 h2
    split at hev
    · rename_i v1 st1 ha
      simp only [Option.some.injEq,Prod.mk.injEq] at hev
      obtain ⟨rfl,rfl⟩:=hev
      have hrc:=rslot_rc h2 (fun cs hc=>hne cs hc) (fun vs hc=>by simp only at hc;rw [hc] at ha;simp [St.absorb] at ha) (fun hc=>by simp only at hc;rw [hc] at ha;simp [St.absorb] at ha)
      obtain ⟨fp2,fy,k1,k2,k3,k4,k5,k6,k7⟩:=h1.absorb hrc ha
      refine ⟨a.eval y,w,F,ρ,fp2,fy,.inl hrun,k1,rc_rslot k2,Ext.sub (fun r b hb=>⟨r,h4 r b (k5 r b hb)⟩) (fun b hb=>?_),⟨k6.M,k6.loc⟩⟩
      rcases k4 b hb with h9 | ⟨r,h9⟩
      · exact h3 b h9
      · exact ⟨r,h4 r b h9⟩
    · cases hev
theorem cells_rel {lk x v f} (h:RSlot cx w F ρ st lk x v f) (hx:x.okPart=true):Cat (RC cx w F ρ st lk) x.cells v.cells.toList f:=by
  have one:∀ y,RC cx w F ρ st lk y v f→(∀ C,v ≠ .agg C)→Cat (RC cx w F ρ st lk) [y] v.cells.toList f:=fun y hy hv=>by
    have:v.cells=#[v]:=by cases v <;> first | rfl | exact absurd rfl (hv _)
    rw [this]
    simpa using Cat.cons hy .nil
  cases x with
  | agg cs=>obtain ⟨C,rfl,hc⟩:=h;exact hc
  | tup vs=>simp [IV.okPart] at hx
  | un=>simp [IV.okPart] at hx
  | sc u =>
    refine one _ h (fun C hC=>?_)
    obtain ⟨h1,h2,-⟩:=rslot_sc h
    rw [hC] at h1;subst h1;simp [Idl.isSc] at h2
  | lst e es c =>
    refine one _ h (fun C hC=>?_)
    rcases h with ⟨h,_⟩ | h
    · exact h.elim
    · rcases h.lst_inv.2 with ⟨_,_,_,h1,_⟩ | ⟨_,_,_,_,_,_,h1,_⟩ <;> rw [hC] at h1 <;> cases h1
  | own e es =>
    refine one _ h (fun C hC=>?_)
    rcases h with ⟨h,_⟩ | h
    · exact h.elim
    · rcases h.own_inv with ⟨_,_,_,h1⟩ | ⟨_,_,_,_,_,_,h1,_⟩ <;> rw [hC] at h1 <;> cases h1
  | arr r c p e off n k =>
    refine one _ h (fun C hC=>?_)
    rcases h with ⟨⟨_,_,_,_,_,_,_,_,_,_,_,h1,_⟩,_⟩ | h
    · rw [hC] at h1;cases h1
    · cases h
  | eptr r c p i j =>
    refine one _ h (fun C hC=>?_)
    rcases h with ⟨⟨_,_,_,_,_,_,_,_,_,_,_,h1⟩,_⟩ | h
    · rw [hC] at h1;cases h1
    · cases h
  | lptr e j =>
    refine one _ h (fun C hC=>?_)
    rcases h with ⟨⟨_,_,_,_,_,_,_,_,h1⟩,_⟩ | h
    · rw [hC] at h1;cases h1
    · cases h
  | bptr l k c =>
    refine one _ h (fun C hC=>?_)
    rcases h with ⟨⟨h1,_⟩,_⟩ | h
    · rw [hC] at h1;cases h1
    · cases h
  | fn g cs =>
    refine one _ h (fun C hC=>?_)
    rcases h with ⟨⟨_,h1,_⟩,_⟩ | h
    · rw [hC] at h1;cases h1
    · cases h
theorem take_absorb (h:Rel cx w F ρ fp X st (regs a)) {x:Opd} {y:Operand} (hx:okOpd cx y x) {cs:List IV} {st':St} (ha:({ st with T:=(tk st.T x).2 }:St).absorbs (tk st.T x).1.wcells=some (cs,st')) :
    ∃ fp' fy,Rel cx w F ρ fp' (fy++X) st' (regs a)∧Cat (RC cx w F ρ st' (look st' (regs a) ρ w)) cs (a.eval y).cells.toList fy∧(∀ c ∈ cs,c.isD=true)∧(∀ b ∈ fy,∃ r,b ∈ fp r)∧(∀ r,∀ b ∈ fp' r,b ∈ fp r)∧ShpLe st st':=by
  obtain ⟨fp1,f1,h1,h2,h3,h4⟩:=tk_rel h hx
  have hok:(tk st.T x).1.okPart=true:=by
    cases hv:(tk st.T x).1 with
    | un=>rw [hv] at ha;simp [IV.wcells,St.absorbs,St.absorbsK,klc,St.absorb] at ha
    | tup vs=>rw [hv] at ha;simp [IV.wcells,St.absorbs,St.absorbsK,klc,St.absorb] at ha
    | _=>rfl
  have hwc:(tk st.T x).1.wcells=(tk st.T x).1.cells:=by
    cases hv:(tk st.T x).1 <;> first | rfl | (rw [hv] at hok;simp [IV.okPart] at hok)
  rw [hwc] at ha
  have hcat:=cells_rel h2 hok
  obtain ⟨fp2,fy,k1,k2,k3,k4,k5,k6⟩:=h1.absorbs hcat ha
  refine ⟨fp2,fy,k1,k2,k3,fun b hb=>?_,fun r b hb=>h4 r b (k5 r b hb),⟨k6.M,k6.loc⟩⟩
  rcases k4 b hb with h9 | ⟨r,h9⟩
  · exact h3 b h9
  · exact ⟨r,h4 r b h9⟩
end
end Go.Idl
namespace Go.Idl
open Go
section
variable {cx:Cx} {w w':World} {F F':Nat→Prop} {ρ ρ':Rho} {fp fp':Fp} {X f f':List Nat} {st st':St} {a:Act} {o:Oper} {tm:Nat→Value}
theorem Rel.trGrow (h:Rel cx w F ρ fp X st tm) (hk:∀ b,b < w.heap.size→b ∉ X→w'.heap[b]? = w.heap[b]?) (hT:st'.T=st.T)
    (hb:∀ l k,(st.box l k).isSome=true→st'.box l k=st.box l k∧ρ' l k=ρ l k) :
    Tr w F ρ st (look st tm ρ w) w' F ρ' st' (look st' tm ρ' w') (fun _ _ _=>True):=by
  refine ⟨fun r c p _ x0 v0 e es A n cap hl hf=>?_,fun b hb=>hk b (h.Flt b hb) (fun hx=>h.xF b hx hb),fun _ h=>h,fun l k hlk=>⟨(hb l k hlk).2,by rw [(hb l k hlk).1];exact hlk⟩⟩
  have hag:∀ b ∈ fp r,w'.heap[b]? = w.heap[b]?:=fun b hb=>hk b (h.lt r b hb) (h.xdisj r b hb)
  refine ⟨x0,es,?_,h.tr_other hl hf hag,Nat.le_refl _⟩
  cases r with
  | S s=>obtain ⟨h1,h2⟩:=look_S hl;exact look_S_mk (by rw [hT];exact h1) h2
  | B l k =>
    simp only [look] at hl ⊢
    cases hbx:st.box l k with
    | none=>simp [hbx] at hl
    | some cs =>
      obtain ⟨k1,k2⟩:=hb l k (by rw [hbx];rfl)
      rw [k1,k2,hbx]
      simp only [hbx] at hl ⊢
      obtain ⟨C,ty,f0,h1,h2,h3⟩:=h.boxes l k cs hbx
      have h2':w'.heap[ρ l k]? = some (.cells C ty (0,0)):=(hag _ (by rw [h1];simp)).trans h2
      simp only [cell_of h2] at hl
      simp only [cell_of h2']
      exact hl
theorem Rel.grow (h:Rel cx w F ρ fp X st tm) (hk:∀ b,b < w.heap.size→b ∉ X→w'.heap[b]? = w.heap[b]?) (hs:w.heap.size≤w'.heap.size) {Y:List Nat} (hY:Y.Nodup) (hn:∀ b ∈ Y,w.heap.size≤b∧b < w'.heap.size) :
    Rel cx w' F ρ fp (Y++X) st tm∧Tr w F ρ st (look st tm ρ w) w' F ρ st (look st tm ρ w') (fun _ _ _=>True):=by
  have tr:Tr w F ρ st (look st tm ρ w) w' F ρ st (look st tm ρ w') (fun _ _ _=>True):=h.trGrow hk rfl (fun _ _ _=>⟨rfl,rfl⟩)
  refine ⟨⟨fun s=>?_,fun l k cs hb=>?_,h.nobox,h.nodup,h.disj,h.notF,fun r b hb=>Nat.lt_of_lt_of_le (h.lt r b hb) hs,fun b hb=>Nat.lt_of_lt_of_le (h.Flt b hb) hs,?_,?_,?_,?_⟩,tr⟩
  · have:=(h.slots s).trk tr .none (fun _ _ _ _ _ _=>trivial) (fun b hb=>hk b (h.lt _ b hb) (h.xdisj _ b hb))
    rw [kl_none] at this;exact this
  · obtain ⟨C,ty,f0,h1,h2,h3⟩:=h.boxes l k cs hb
    have hag:∀ b ∈ fp (.B l k),w'.heap[b]? = w.heap[b]?:=fun b hb=>hk b (h.lt _ b hb) (h.xdisj _ b hb)
    exact ⟨C,ty,f0,h1,(hag _ (by rw [h1];simp)).trans h2,h3.mono fun x v f hf hx _=>hx.tr tr (fun b hb=>hag b (by rw [h1];simp [hf b hb]))⟩
  · rw [List.nodup_append]
    refine ⟨hY,h.xnodup,fun a ha b hb hab=>?_⟩
    subst hab
    have:=(hn a ha).1
    have:=h.xlt a hb
    omega
  · intro r b hb hx
    simp only [List.mem_append] at hx
    rcases hx with hx | hx
    · have:=(hn b hx).1;have:=h.lt r b hb;omega
    · exact h.xdisj r b hb hx
  · intro b hb hF
    simp only [List.mem_append] at hb
    rcases hb with hx | hx
    · have:=(hn b hx).1;have:=h.Flt b hF;omega
    · exact h.xF b hx hF
  · intro b hb
    simp only [List.mem_append] at hb
    rcases hb with hx | hx
    · exact (hn b hx).2
    · exact Nat.lt_of_lt_of_le (h.xlt b hx) hs
theorem push_old {o:Obj} {b:Nat} (hw:w'.heap=w.heap.push o) (hb:b < w.heap.size):w'.heap[b]? = w.heap[b]?:=by
  rw [hw,Array.getElem?_push];simp [Nat.ne_of_lt hb]
theorem push_new {o:Obj} (hw:w'.heap=w.heap.push o):w'.heap[w.heap.size]? = some o:=by
  rw [hw,Array.getElem?_push];simp
theorem push_size {o:Obj} (hw:w'.heap=w.heap.push o):w'.heap.size=w.heap.size+1:=by rw [hw];simp
theorem RC.rbox {lk x v} (h:RC cx w F ρ st lk x v f) (hd:x.isD=true ∨ x=.un):RBox cx w F ρ st st.M.length x v f:=by
  have lv:∀ l k,(st.box l k).isSome=true→l < st.M.length+1:=fun l k hb=>by
    rw [box_some] at hb
    rcases hb with ⟨h,_⟩ | ⟨_,n,hn,_⟩
    · omega
    · have:=(List.getElem?_eq_some_iff.1 hn).1;simp at this;omega
  rcases h with ⟨h,rfl⟩ | h
  · cases x with
    | bptr l k c=>exact .inl ⟨h,by simp [IV.lvl,lv l k h.2],rfl,rfl⟩
    | fn g caps =>
      refine .inl ⟨h,?_,rfl,rfl⟩
      obtain ⟨cvs,h1,h2⟩:=h
      simp only [IV.lvl,List.all_eq_true]
      intro y hy
      have:∀ {xs:List IV} {vs:List Value} {ff:List Nat},Cat (fun x v f=>capOK ρ st x v∧f=[]) xs vs ff→∀ y ∈ xs,∃ v,capOK ρ st y v:=by
        intro xs vs ff hc
        induction hc with
        | nil=>simp
        | cons h t ih =>
          intro y hy
          rcases List.mem_cons.1 hy with rfl | hy
          · exact ⟨_,h.1⟩
          · exact ih y hy
      obtain ⟨v,hv⟩:=this h2 y hy
      cases y with
      | bptr l k c=>simpa using lv l k hv.2
      | _=>exact hv.elim
    | _=>first | exact h.elim | simp [IV.isD] at hd
  · exact .inr h
theorem Rel.newBox (h:Rel cx w F ρ fp (f++X) st tm) {cs:List IV} {C:Array Value} {ty:TypeId} (hc:Cat (RC cx w F ρ st (look st tm ρ w)) cs C.toList f) (hd:∀ c ∈ cs,c.isD=true ∨ c=.un) (hw:w'.heap=w.heap.push (.cells C ty (0,0))) (henv:Env w w') :
    Rel cx w' F (fun l k=>if l=st.M.length∧k=st.loc.length then w.heap.size else ρ l k) (updFp fp (.B st.M.length st.loc.length) (w.heap.size::f)) X { st with loc:=st.loc++[cs] } tm ∧
      Ext w F ρ fp (f++X) (exB st) w' F (fun l k=>if l=st.M.length∧k=st.loc.length then w.heap.size else ρ l k) (updFp fp (.B st.M.length st.loc.length) (w.heap.size::f)) X ∧
      ShpLe st { st with loc:=st.loc++[cs] }∧(({ st with loc:=st.loc++[cs] }:St).box st.M.length st.loc.length)=some cs:=by
  have hk:∀ b,b < w.heap.size→w'.heap[b]? = w.heap[b]?:=fun b hb=>push_old hw hb
  have hsz:=push_size hw
  have hnone:st.box st.M.length st.loc.length=none:=by simp [St.box]
  have hbox:∀ l k,({ st with loc:=st.loc++[cs] }:St).box l k=if l=st.M.length∧k=st.loc.length then some cs else st.box l k:=by
    intro l k
    unfold St.box
    by_cases hl:l=st.M.length
    · subst hl
      simp only [if_true,true_and]
      by_cases hk:k=st.loc.length
      · subst hk;simp
      · rw [if_neg hk]
        rcases Nat.lt_or_ge k st.loc.length with h1 | h1
        · rw [List.getElem?_append_left h1]
        · rw [List.getElem?_eq_none (by simp;omega),List.getElem?_eq_none h1]
    · simp [hl]
  have hold:∀ l k,(st.box l k).isSome=true→¬ (l=st.M.length∧k=st.loc.length):=fun l k hb hc=>by
    rw [hc.1,hc.2,hnone] at hb;cases hb
  have tr:=h.trGrow (w':=w') (st':={ st with loc:=st.loc++[cs] }) (ρ':=fun l k=>if l=st.M.length∧k=st.loc.length then w.heap.size else ρ l k) (fun b hb _=>hk b hb) rfl
    (fun l k hb=>⟨by rw [hbox,if_neg (hold l k hb)],if_neg (hold l k hb)⟩)
  have hnd:=List.nodup_append.1 h.xnodup
  have hfX:∀ b ∈ f,b ∈ f++X:=fun b hb=>by simp [hb]
  have hXX:∀ b ∈ X,b ∈ f++X:=fun b hb=>by simp [hb]
  have hne:∀ s,(Rt.S s:Rt) ≠ .B st.M.length st.loc.length:=fun s hc=>by cases hc
  refine ⟨⟨fun s=>?_,fun l k cs' hb=>?_,fun l k hb=>?_,fun r=>?_,fun r r' hr b hb hb'=>?_,fun r b hb=>?_,fun r b hb=>?_,fun b hb=>?_,hnd.2.1,fun r b hb hx=>?_,fun b hb=>h.xF b (hXX b hb),
    fun b hb=>?_⟩,⟨by omega,fun b hb _ _=>hk b hb,fun r b hb=>?_,fun b hb=>.inr (.inl (hXX b hb)),fun _ h=>h,fun _ h=>.inl h,fun l k hlk=>if_neg (hold l k hlk),henv⟩,⟨rfl,by simp⟩,by rw [hbox];simp⟩
  · rw [show updFp fp (.B st.M.length st.loc.length) (w.heap.size::f) (.S s)=fp (.S s) from if_neg (hne s)]
    have:=(h.slots s).trk tr .none (fun _ _ _ _ _ _=>trivial) (fun b hb=>hk b (h.lt _ b hb))
    rw [kl_none] at this;exact this
  · rw [hbox] at hb
    by_cases hc':l=st.M.length∧k=st.loc.length
    · rw [if_pos hc'] at hb
      simp only [Option.some.injEq] at hb;subst hb
      obtain ⟨rfl,rfl⟩:=hc'
      refine ⟨C,ty,f,by simp [updFp],?_,?_⟩
      · simp only [and_self,if_true];exact push_new hw
      · have:Cat (RBox cx w F ρ st st.M.length) cs C.toList f:=hc.mono fun x v f _ hx hm=>RC.rbox hx (hd x hm)
        exact this.mono fun x v f' hf' hx _=>hx.tr tr (fun b hb=>hk b (h.xlt b (hfX b (hf' b hb))))
    · rw [if_neg hc'] at hb
      obtain ⟨C',ty',f0,h1,h2,h3⟩:=h.boxes l k cs' hb
      have hag:∀ b ∈ fp (.B l k),w'.heap[b]? = w.heap[b]?:=fun b hb=>hk b (h.lt _ b hb)
      have hne':(Rt.B l k:Rt) ≠ .B st.M.length st.loc.length:=fun hc=>hc' (by cases hc;exact ⟨rfl,rfl⟩)
      refine ⟨C',ty',f0,?_,?_,h3.mono fun x v f hf hx _=>hx.tr tr (fun b hb=>hag b (by rw [h1];simp [hf b hb]))⟩
      · rw [show updFp fp (.B st.M.length st.loc.length) (w.heap.size::f) (.B l k)=fp (.B l k) from if_neg hne'];simp only [if_neg hc'];exact h1
      · simp only [if_neg hc'];exact (hag _ (by rw [h1];simp)).trans h2
  · rw [hbox] at hb
    by_cases hc':l=st.M.length∧k=st.loc.length
    · rw [if_pos hc'] at hb;cases hb
    · rw [if_neg hc'] at hb
      rw [show updFp fp (.B st.M.length st.loc.length) (w.heap.size::f) (.B l k)=fp (.B l k) from if_neg (fun hc=>hc' (by cases hc;exact ⟨rfl,rfl⟩))]
      exact h.nobox l k hb
  · unfold updFp;split
    · refine List.nodup_cons.2 ⟨fun hm=>?_,hnd.1⟩
      have:=h.xlt _ (hfX _ hm);omega
    · exact h.nodup r
  · unfold updFp at hb hb'
    split at hb <;> split at hb'
    · rename_i h1 h2;exact hr (h1.trans h2.symm)
    · rcases List.mem_cons.1 hb with rfl | hb
      · have:=h.lt _ _ hb';omega
      · exact h.xdisj r' b hb' (hfX b hb)
    · rcases List.mem_cons.1 hb' with rfl | hb'
      · have:=h.lt _ _ hb;omega
      · exact h.xdisj r b hb (hfX b hb')
    · exact h.disj r r' hr b hb hb'
  · unfold updFp at hb;split at hb
    · rcases List.mem_cons.1 hb with rfl | hb
      · intro hF;have:=h.Flt _ hF;omega
      · exact h.xF b (hfX b hb)
    · exact h.notF r b hb
  · unfold updFp at hb;split at hb
    · rcases List.mem_cons.1 hb with rfl | hb
      · omega
      · have:=h.xlt b (hfX b hb);omega
    · have:=h.lt r b hb;omega
  · have:=h.Flt b hb;omega
  · unfold updFp at hb;split at hb
    · rcases List.mem_cons.1 hb with rfl | hb
      · have:=h.xlt _ (hXX _ hx);omega
      · exact hnd.2.2 b hb b hx rfl
    · exact h.xdisj r b hb (hXX b hx)
  · have:=h.xlt b (hXX b hb);omega
  · unfold updFp at hb;split at hb
    · rcases List.mem_cons.1 hb with rfl | hb
      · exact .inr (.inr (Nat.le_refl _))
      · exact .inr (.inl (hfX b hb))
    · exact .inl ⟨r,hb⟩
def zeroIs (P:Program) (t:TypeId) (z:List Value):Prop:=∃ i v,P.info? t=some i∧i.zero=some v∧v.cells.toList=z
theorem run_zeroValue {P:Program} {t:TypeId} {z:List Value} (h:zeroIs P t z) (w:World):∃ v,(zeroValue t).run P w=.ok v w∧v.cells.toList=z:=by
  obtain ⟨i,v,h1,h2,h3⟩:=h
  exact ⟨v,by simp [zeroValue,typeInfo,h1,h2],h3⟩
end
end Go.Idl
namespace Go.Idl
open Go
theorem splice_set {α:Type} (l:List α) (k:Nat) (v:α) (rest:List α) (h:k+1+rest.length≤l.length):splice (l.set k v) (k+1) rest=splice l k (v::rest):=by
  unfold splice
  have h1:(l.set k v).take (k+1)=l.take k++[v]:=by
    rw [List.take_add_one,List.take_set_of_le (Nat.le_refl _)]
    simp [show k < l.length by omega]
  have h2:(l.set k v).drop (k+1+rest.length)=l.drop (k+(v::rest).length):=by
    rw [List.drop_set_of_lt (by omega),List.length_cons,show k+1+rest.length=k+(rest.length+1) by omega]
  rw [h1,h2];simp
theorem splice_nil {α:Type} (l:List α) (k:Nat):splice l k []=l:=by simp [splice]
theorem fold_set (off:Nat):∀ (vs:List Value) (k:Nat) (cs:Array Value),off+k+vs.length≤cs.size →
    ((vs.zipIdx k).foldl (fun cs (c,j)=>cs.setIfInBounds (off+j) c) cs).toList=splice cs.toList (off+k) vs
  | [],k,cs,_=>by simp [splice_nil]
  | v::vs,k,cs,h=>by
    simp only [List.length_cons] at h
    rw [List.zipIdx_cons,List.foldl_cons,fold_set off vs (k+1) _ (by simp;omega)]
    simp only [Array.toList_setIfInBounds]
    rw [show off+(k+1)=off+k+1 by omega,splice_set _ _ _ _ (by simp;omega)]
theorem fill_one (place:Nat→Option (Nat×Nat)) (cells:Array Value) (i:Nat) (v:Value) (rest:List (Nat×Value)) {off sz:Nat} (hp:place i=some (off,sz)) (hs:v.cells.size=sz) (hb:off+sz≤cells.size) :
    Instr.fill place cells ((i,v)::rest)=Instr.fill place (splice cells.toList off v.cells.toList).toArray rest:=by
  have:v.cells.zipIdx.foldl (fun cs (x:Value×Nat)=>cs.setIfInBounds (off+x.2) x.1) cells=(splice cells.toList off v.cells.toList).toArray:=by
    apply Array.ext'
    have:=fold_set off v.cells.toList 0 cells (by simp;omega)
    simp only [Nat.add_zero] at this
    rw [← Array.foldl_toList,Array.toList_zipIdx]
    exact this
  rw [Instr.fill,hp]
  simp only
  rw [if_neg (by simp [hs];omega)]
  exact congrArg (fun z=>Instr.fill place z rest) this
section
variable {cx:Cx} {w w':World} {F F':Nat→Prop} {ρ ρ':Rho} {fp fp':Fp} {X f f':List Nat} {st st':St} {a:Act} {o:Oper} {tm:Nat→Value}
theorem Cat.app {R xs vs fq ys us fr} (h:Cat R xs vs fq) (h':Cat R ys us fr):Cat R (xs++ys) (vs++us) (fq++fr):=by
  induction h with
  | nil=>exact h'
  | cons h t ih=>have:=Cat.cons h ih;simpa [List.append_assoc] using this
theorem Cat.split {R xs ys vs fq} (h:Cat R (xs++ys) vs fq):∃ us vs' f1 f2,vs=us++vs'∧fq=f1++f2∧Cat R xs us f1∧Cat R ys vs' f2:=by
  induction xs generalizing vs fq with
  | nil=>exact ⟨[],vs,[],fq,rfl,rfl,.nil,h⟩
  | cons x xs ih =>
    generalize hx:(x::xs++ys)=l at h
    cases h with
    | nil=>cases hx
    | @cons x' v f1 xs' vs' f2 h t =>
      cases hx
      obtain ⟨us',vs'',g1,g2,rfl,rfl,h3,h4⟩:=ih t
      exact ⟨v::us',vs'',f1++g1,g2,rfl,by simp,.cons h h3,h4⟩
theorem Cat.splice {R cs vs fq ys us fr c} (h:Cat R cs vs fq) (h':Cat R ys us fr) (hl:c+ys.length≤cs.length) :
    ∃ f1 g f2,fq=f1++(g++f2)∧Cat R (Idl.splice cs c ys) (Idl.splice vs c us) (f1++(fr++f2)):=by
  have e:cs=cs.take c++((cs.drop c).take ys.length++cs.drop (c+ys.length)):=by
    rw [← List.drop_drop,List.take_append_drop,List.take_append_drop]
  rw [e] at h
  obtain ⟨u1,v1,f1,g1,rfl,rfl,h1,h2⟩:=h.split
  obtain ⟨u2,v2,f2,g2,rfl,rfl,h3,h4⟩:=h2.split
  have l1:u1.length=c:=by rw [← h1.len,List.length_take];omega
  have l2:u2.length=ys.length:=by rw [← h3.len,List.length_take,List.length_drop];omega
  have l3:=h'.len
  refine ⟨f1,f2,g2,rfl,?_⟩
  have e1:Idl.splice (u1++(u2++v2)) c us=u1++(us++v2):=by
    unfold Idl.splice
    rw [← l1,List.take_left,← l3,← l2,show u1.length+u2.length=(u1++u2).length by simp,← List.append_assoc u1 u2,List.drop_left]
    simp
  rw [e1]
  have e2:Idl.splice cs c ys=cs.take c++(ys++cs.drop (c+ys.length)):=by simp [Idl.splice]
  rw [e2]
  exact h1.app (h'.app h4)
theorem KillOK.tkKill (x:Opd):KillOK (tkKill x):=by
  cases x with
  | t s=>exact .rooted _
  | _=>exact .none
theorem tk_tr (h:Rel cx w F ρ fp X st (regs a)) (x:Opd) :
    Tr w F ρ st (look st (regs a) ρ w) w F ρ { st with T:=(tk st.T x).2 } (look { st with T:=(tk st.T x).2 } (regs a) ρ w) (fun r c q=>∃ z:IV,refAt z r c q∧tkKill x z=false):=by
  have refl:∀ (lv:Rt→Nat→Path→Prop),Tr w F ρ st (look st (regs a) ρ w) w F ρ st (look st (regs a) ρ w) lv :=
    fun lv=>⟨fun _ _ _ _ x0 v0 e es A n cap hl hf=>by obtain ⟨e0,es0,rfl⟩:=folR_own hf;exact ⟨_,es,hl,hf,Nat.le_refl _⟩,fun _ _=>rfl,fun _ h=>h,fun _ _ h=>⟨rfl,h⟩⟩
  cases x with
  | t s =>
    simp only [tk]
    split
    · have tr:=tr_slot h s .un (regs a s) (IV.rooted (.S s)) (.rooted _) (.inl fun _ h=>h)
      have htm:(fun q=>if q=s then regs a s else regs a q)=regs a:=by funext q;by_cases hq:q=s <;> simp [hq]
      rw [htm] at tr
      exact tr
    · exact refl _
  | c v=>exact refl _
  | f l=>exact refl _
end
end Go.Idl
namespace Go.Idl
open Go
section
variable {cx:Cx} {w w':World} {F F':Nat→Prop} {ρ ρ':Rho} {fp fp':Fp} {X f f':List Nat} {st st':St} {a:Act} {o:Oper} {tm:Nat→Value}
def okParts (cx:Cx) (place:Nat→Option (Nat×Nat)):List (Nat×Operand)→List (Nat×Nat×Opd)→Prop
  | [],[]=>True
  | (i,o)::r,(off,sz,x)::s=>place i=some (off,sz)∧okOpd cx o x∧okParts cx place r s
  | _,_=>False
theorem sub_mid {α:Type} (g1 g g2 X:List α):(g1++(g2++X)).Sublist (g1++(g++g2)++X):=by
  rw [List.append_assoc,List.append_assoc]
  exact List.Sublist.append_left (List.sublist_append_right g _) g1
theorem fill_rel {place:Nat→Option (Nat×Nat)}:∀ {parts:List (Nat×Nat×Opd)} {rparts:List (Nat×Operand)} {cs cs':List IV} {C:Array Value} {st:St} {T':Tm} {fp:Fp} {f:List Nat},
    Rel cx w F ρ fp (f++X) st (regs a)→Cat (RC cx w F ρ st (look st (regs a) ρ w)) cs C.toList f→okParts cx place rparts parts→fillCells st.T cs parts=some (cs',T') →
    ∃ (C':Array Value) (fp':Fp) (f':List Nat),Instr.fill place C (rparts.map fun (i,x)=>(i,a.eval x))=some C'∧Rel cx w F ρ fp' (f'++X) { st with T:=T' } (regs a) ∧
      Cat (RC cx w F ρ { st with T:=T' } (look { st with T:=T' } (regs a) ρ w)) cs' C'.toList f'∧(∀ b ∈ f',b ∈ f ∨ ∃ r,b ∈ fp r)∧∀ r,∀ b ∈ fp' r,b ∈ fp r
  | [],[],cs,cs',C,st,T',fp,f,h,hc,_,hf=>by
    simp only [fillCells,Option.some.injEq,Prod.mk.injEq] at hf
    obtain ⟨rfl,rfl⟩:=hf
    exact ⟨C,fp,f,rfl,h,hc,fun b hb=>.inl hb,fun _ _ hb=>hb⟩
  | [],(i,o)::r,_,_,_,_,_,_,_,_,_,hp,_=>hp.elim
  | (off,sz,x)::r,[],_,_,_,_,_,_,_,_,_,hp,_=>hp.elim
  | (off,sz,x)::parts,(i,o)::rparts,cs,cs',C,st,T',fp,f,h,hc,hp,hf=>by
    obtain ⟨hpl,hox,hpr⟩:=hp
    simp only [fillCells] at hf
    split at hf
    · rename_i hcond
      obtain ⟨h1,h2,h3⟩:=hcond
      obtain ⟨fp1,f1,k1,k2,k3,k4⟩:=tk_rel h hox
      have tr:=tk_tr h x
      have hcells:=cells_rel k2 h3
      have hin:Cat (RC cx w F ρ { st with T:=(tk st.T x).2 } (look { st with T:=(tk st.T x).2 } (regs a) ρ w)) (cs.map (klc (tkKill x))) C.toList f:=by
        have:Cat (fun z v f=>RC cx w F ρ { st with T:=(tk st.T x).2 } (look { st with T:=(tk st.T x).2 } (regs a) ρ w) (klc (tkKill x) z) v f) cs C.toList f :=
          hc.mono fun z v f _ hz _=>hz.trk tr (KillOK.tkKill x) (fun r c q hq hk=>⟨z,hq,hk⟩) (fun _ _=>rfl)
        exact this.map_kl
      obtain ⟨g1,g,g2,hfe,hsp⟩:=hin.splice hcells (c:=off) (by rw [List.length_map,h1];exact h2)
      have hsz:(a.eval o).cells.size=sz:=by have:=hcells.len;rw [h1] at this;simpa using this.symm
      have hCl:cs.length=C.size:=by have:=hc.len;simpa using this
      have hrel:Rel cx w F ρ fp1 ((g1++(f1++g2))++X) { st with T:=(tk st.T x).2 } (regs a):=by
        have k1':Rel cx w F ρ fp1 (f1++(g1++(g2++X))) { st with T:=(tk st.T x).2 } (regs a):=k1.less (by
          rw [hfe];exact List.Sublist.append_left (sub_mid g1 g g2 X) f1)
        exact k1'.perm (by
          rw [← List.append_assoc]
          have:(f1++g1++(g2++X)).Perm (g1++f1++(g2++X)):=List.Perm.append_right _ List.perm_append_comm
          simpa [List.append_assoc] using this)
      obtain ⟨C',fp',f',e1,e2,e3,e4,e5⟩:=fill_rel (C:=(splice C.toList off (a.eval o).cells.toList).toArray) hrel (by simpa using hsp) hpr hf
      refine ⟨C',fp',f',?_,e2,e3,fun b hb=>?_,fun r b hb=>k4 r b (e5 r b hb)⟩
      · rw [List.map_cons,fill_one place C i (a.eval o) _ hpl hsz (by omega)];exact e1
      · rcases e4 b hb with h5 | ⟨r,h5⟩
        · simp only [List.mem_append] at h5
          rcases h5 with h5 | h5 | h5
          · exact .inl (by rw [hfe];simp [h5])
          · exact .inr (k3 b h5)
          · exact .inl (by rw [hfe];simp [h5])
        · exact .inr ⟨r,k4 r b h5⟩
    · cases hf
theorem RDs.cats {xs vs fq} (h:RDs w F xs vs fq):Cat (fun x v f=>RDs w F [x] [v] f) xs vs fq:=by
  induction xs generalizing vs fq with
  | nil=>cases h;exact .nil
  | cons x xs ih=>obtain ⟨v,us,f1,f2,rfl,rfl,h1,h2⟩:=h.cons_inv;exact .cons h1 (ih h2)
theorem Cat.rds {xs vs fq} (h:Cat (fun x v f=>RDs w F [x] [v] f) xs vs fq):RDs w F xs vs fq:=by
  induction h with
  | nil=>exact .nil
  | cons h t ih=>exact h.cons ih
theorem RDs.of_data {lk xs vs fq} (h:Cat (RC cx w F ρ st lk) xs vs fq) (hd:xs.all IV.isData=true):RDs w F xs vs fq:=by
  refine Cat.rds (h.mono fun x v f _ hx hm=>?_)
  have:=List.all_eq_true.1 hd x hm
  rcases hx with ⟨hx,_⟩ | hx
  · cases x <;> first | exact hx.elim | simp [IV.isData] at this
  · exact hx
theorem flatten_set_row {es:List (List IV)} {e i:Nat} {cs:List IV} (he:∀ x ∈ es,x.length=e) (hi:i < es.length) (hc:cs.length=e):(es.set i cs).flatten=splice es.flatten (i * e) cs:=by
  induction es generalizing i with
  | nil=>simp at hi
  | cons x xs ih =>
    have hx:=he x (by simp)
    cases i with
    | zero =>
      simp only [List.set_cons_zero,List.flatten_cons,Nat.zero_mul,splice,List.take_zero,List.nil_append,Nat.zero_add]
      rw [hc,← hx,List.drop_left]
    | succ i =>
      simp only [List.set_cons_succ,List.flatten_cons,ih (fun y hy=>he y (by simp [hy])) (by simpa using hi),splice,Nat.succ_mul]
      rw [show i * e+e=x.length+i * e by omega,List.take_append,List.drop_append]
      simp only [Nat.add_sub_cancel_left,List.take_of_length_le (show x.length≤x.length+i * e by omega),show x.length+i * e+cs.length - x.length=i * e+cs.length by omega,
        List.drop_of_length_le (show x.length≤x.length+i * e+cs.length by omega)]
      simp
def okParts1 (cx:Cx):List (Nat×Operand)→List (Nat×Opd)→Prop
  | [],[]=>True
  | (i,o)::r,(j,x)::s=>i=j∧okOpd cx o x∧okParts1 cx r s
  | _,_=>False
theorem fillE_rel {e:Nat}:∀ {parts:List (Nat×Opd)} {rparts:List (Nat×Operand)} {es es':List (List IV)} {C:Array Value} {st st':St} {fp:Fp} {f:List Nat},
    Rel cx w F ρ fp (f++X) st (regs a)→RDs w F es.flatten C.toList f→(∀ x ∈ es,x.length=e)→okParts1 cx rparts parts→st.fillElems es e parts=some (es',st') →
    ∃ (C':Array Value) (fp':Fp) (f':List Nat),Instr.fill (fun i=>some (i * e,e)) C (rparts.map fun (i,x)=>(i,a.eval x))=some C'∧Rel cx w F ρ fp' (f'++X) st' (regs a) ∧
      RDs w F es'.flatten C'.toList f'∧(∀ x ∈ es',x.length=e)∧es'.length=es.length∧(∀ b ∈ f',b ∈ f ∨ ∃ r,b ∈ fp r)∧(∀ r,∀ b ∈ fp' r,b ∈ fp r)∧ShpLe st st'
  | [],[],es,es',C,st,st',fp,f,h,hc,he,_,hf=>by
    simp only [St.fillElems,Option.some.injEq,Prod.mk.injEq] at hf
    obtain ⟨rfl,rfl⟩:=hf
    exact ⟨C,fp,f,rfl,h,hc,he,rfl,fun b hb=>.inl hb,fun _ _ hb=>hb,.refl _⟩
  | [],(i,o)::r,_,_,_,_,_,_,_,_,_,_,hp,_=>hp.elim
  | (j,x)::r,[],_,_,_,_,_,_,_,_,_,_,hp,_=>hp.elim
  | (j,x)::parts,(i,o)::rparts,es,es',C,st,st',fp,f,h,hc,he,hp,hf=>by
    obtain ⟨rfl,hox,hpr⟩:=hp
    simp only [St.fillElems] at hf
    split at hf
    · rename_i cs st1 ha
      split at hf
      · rename_i hcond
        obtain ⟨h1,h2,h3⟩:=hcond
        obtain ⟨fp1,f1,k1,k2,k3,k4,k5,k6⟩:=take_absorb h hox ha
        have hR:=RDs.of_data k2 h3
        obtain ⟨g1,g,g2,hfe,hsp⟩:=hc.cats.splice hR.cats (c:=i * e) (by
          rw [h1,flatten_len he]
          have:(i+1) * e≤es.length * e:=Nat.mul_le_mul_right _ h2
          rw [Nat.succ_mul] at this;exact this)
        have hsz:(a.eval o).cells.size=e:=by have:=hR.len;rw [h1] at this;simpa using this.symm
        have hCl:es.length * e=C.size:=by have:=hc.len;rw [flatten_len he] at this;simpa using this
        have hrel:Rel cx w F ρ fp1 ((g1++(f1++g2))++X) st1 (regs a):=by
          have k1':Rel cx w F ρ fp1 (f1++(g1++(g2++X))) st1 (regs a):=k1.less (by
            rw [hfe];exact List.Sublist.append_left (sub_mid g1 g g2 X) f1)
          exact k1'.perm (by
            rw [← List.append_assoc]
            have:(f1++g1++(g2++X)).Perm (g1++f1++(g2++X)):=List.Perm.append_right _ List.perm_append_comm
            simpa [List.append_assoc] using this)
        have hsp':=hsp.rds
        rw [← flatten_set_row he h2 h1] at hsp'
        obtain ⟨C',fp',f',e1,e2,e3,e4,e5,e6,e7,e8⟩:=fillE_rel (C:=(splice C.toList (i * e) (a.eval o).cells.toList).toArray) hrel (by simpa using hsp') (set_len he h1) hpr hf
        refine ⟨C',fp',f',?_,e2,e3,e4,by rw [e5];simp,fun b hb=>?_,fun r b hb=>k5 r b (e7 r b hb),k6.trans e8⟩
        · rw [List.map_cons,fill_one _ C i (a.eval o) _ rfl hsz (by
            have:(i+1) * e≤es.length * e:=Nat.mul_le_mul_right _ h2
            rw [Nat.succ_mul] at this;omega)];exact e1
        · rcases e6 b hb with h5 | ⟨r,h5⟩
          · simp only [List.mem_append] at h5
            rcases h5 with h5 | h5 | h5
            · exact .inl (by rw [hfe];simp [h5])
            · exact .inr (k4 b h5)
            · exact .inl (by rw [hfe];simp [h5])
          · exact .inr ⟨r,k5 r b h5⟩
      · cases hf
    · cases hf
theorem Rel.newOwn (h:Rel cx w F ρ fp (f++X) st tm) {e cap:Nat} {es:List (List IV)} {C:Array Value} {ty:TypeId} (hd:RDs w F es.flatten (C.toList.take (es.length * e)) f) (he:∀ x ∈ es,x.length=e)
    (hn:es.length≤cap) (hC:cap * e≤C.size) (hw:w'.heap=w.heap.push (.cells C ty (0,0))) (henv:Env w w') :
    ∃ f',Rel cx w' F ρ fp (f'++X) st tm∧RDs w' F [.own e es] [.slice (some ⟨w.heap.size,0,none⟩) es.length cap] f'∧(∀ b ∈ f',b ∈ f ∨ b=w.heap.size) ∧
      (∀ ex,Ext w F ρ fp (f++X) ex w' F ρ fp (f'++X))∧Tr w F ρ st (look st tm ρ w) w' F ρ st (look st tm ρ w') (fun _ _ _=>True):=by
  have hk:∀ b,b < w.heap.size→w'.heap[b]? = w.heap[b]?:=fun b hb=>push_old hw hb
  have hsz:=push_size hw
  obtain ⟨h1,tr⟩:=h.grow (fun b hb _=>hk b hb) (by omega) (Y:=[w.heap.size]) (by simp) (by simp [hsz])
  have ext:∀ f',(∀ b ∈ f',b ∈ f ∨ b=w.heap.size)→∀ ex,Ext w F ρ fp (f++X) ex w' F ρ fp (f'++X):=fun f' hf' ex =>
    ⟨by omega,fun b hb _ _=>hk b hb,fun r b hb=>.inl ⟨r,hb⟩,fun b hb=>by
      simp only [List.mem_append] at hb ⊢
      rcases hb with hb | hb
      · rcases hf' b hb with h5 | h5
        · exact .inr (.inl (.inl h5))
        · exact .inr (.inr (by omega))
      · exact .inr (.inl (.inr hb)),fun _ h=>h,fun _ h=>.inl h,fun _ _ _=>rfl,henv⟩
  rcases Nat.eq_zero_or_pos cap with hc | hc
  · have:es=[]:=List.length_eq_zero_iff.1 (by omega)
    subst this hc
    refine ⟨[],h1.less ?_,.own0 .nil,by simp,ext [] (by simp),tr⟩
    simp only [List.nil_append]
    rw [← List.append_assoc]
    exact List.sublist_append_right _ _
  · refine ⟨w.heap.size::f,?_,?_,?_,ext _ ?_,tr⟩
    · simpa using h1
    · have:=RDs.own (w:=w') (F:=F) (xs:=[]) (vs:=[]) (fp:=[]) (o:=0) (push_new hw) (fp1:=f) (by
        simpa using hd.frame (F':=F) (w':=w') (fun b hb=>hk b (h.xlt b (by simp [hb]))) (fun b hb=>hk b (h.Flt b hb)) (fun _ h=>h)) he ⟨hn,hc⟩ (by omega) .nil
      simpa using this
    · intro b hb
      rcases List.mem_cons.1 hb with h5 | h5
      · exact .inr h5
      · exact .inl h5
    · intro b hb
      rcases List.mem_cons.1 hb with h5 | h5
      · exact .inr h5
      · exact .inl h5
theorem made_list (z:Array Value) (n:Nat):(madeCells z (n * z.size)).toList=(List.replicate n z.toList).flatten:=by
  unfold madeCells
  rw [Array.toList_map,Array.toList_range]
  induction n with
  | zero=>simp
  | succ n ih =>
    rw [Nat.succ_mul,List.range_add,List.map_append,ih,List.replicate_succ',List.flatten_append]
    congr 1
    apply List.ext_getElem?
    intro j
    simp only [List.map_map,List.getElem?_map,List.flatten_cons,List.flatten_nil,List.append_nil]
    rcases Nat.lt_or_ge j z.size with hj | hj
    · rw [List.getElem?_range hj]
      simp [Nat.mod_eq_of_lt hj,hj]
    · rw [List.getElem?_eq_none (by simpa using hj),List.getElem?_eq_none (by simpa using hj)];rfl
theorem elems_rel {F:Nat→Prop} (z:List Value) (n:Nat):RDs w F (elemsOf z n).flatten (List.replicate n z).flatten []:=by
  have one:∀ z:List Value,RDs w F (z.map cv1) z []:=by
    intro z
    induction z with
    | nil=>exact .nil
    | cons v z ih =>
      rw [List.map_cons]
      generalize hx:cv1 v=x
      unfold cv1 at hx
      split at hx <;> subst hx
      · exact .lst0 (by simp) ih
      · exact .sc rfl ih
      · exact .sc rfl ih
      · exact .sc rfl ih
      · exact .sc rfl ih
      · exact .un ih
  induction n with
  | zero=>exact .nil
  | succ n ih =>
    simp only [elemsOf,List.replicate_succ,List.flatten_cons]
    have:=(one z).append ih
    simpa [elemsOf] using this
theorem elems_len (z:List Value) (n:Nat):∀ x ∈ elemsOf z n,x.length=z.length:=by
  intro x hx
  rw [elemsOf,List.mem_replicate] at hx
  rw [hx.2];simp
end
end Go.Idl
namespace Go.Idl
open Go
section
variable {cx:Cx} {w w':World} {F F':Nat→Prop} {ρ ρ':Rho} {fp fp':Fp} {X f f':List Nat} {st st':St} {a:Act} {o:Oper} {tm:Nat→Value} {v:IV}
theorem ext_pre {ex} (h1:∀ r,∀ b ∈ fp' r,b ∈ fp r) (h2:∀ b ∈ f,∃ r,b ∈ fp r) {w1 F1 ρ1 fp1 X1} (h:Ext w F ρ fp' (f++X) ex w1 F1 ρ1 fp1 X1):Ext w F ρ fp X ex w1 F1 ρ1 fp1 X1 :=
  (Ext.sub (X:=X) (F:=F) (w:=w) (ρ:=ρ) (fun r b hb=>⟨r,h1 r b hb⟩) h2).trans h (fun _ _ h=>h)
theorem out_alloc (h:Rel cx w F ρ fp X st (regs a)) {t:TypeId} {z:List Value} (hz:zeroIs cx.P t z) (ho:o.op=.alloc t) {cf} (hev:ev cf st (.alloc z)=some (v,st')):OpOut cx w F ρ fp X st a o v st':=by
  simp only [ev,Option.some.injEq,Prod.mk.injEq] at hev
  obtain ⟨rfl,rfl⟩:=hev
  obtain ⟨zv,hz1,hz2⟩:=run_zeroValue hz w
  have hrun:(execOp a.eval o).run cx.P w=.ok (.value (.pointer (some ⟨w.heap.size,0,none⟩))) (w.alloc (.cells zv.cells t)):=by
    simp [execOp,ho,Instr.alloc,hz1,newVar,newRow]
  have hc:Cat (RC cx w F ρ st (look st (regs a) ρ w)) (z.map cv1) zv.cells.toList []:=by rw [hz2];exact cv1_cat z
  have hd:∀ c ∈ z.map cv1,c.isD=true ∨ c=.un:=by
    intro c hc
    obtain ⟨u,_,rfl⟩:=List.mem_map.1 hc
    unfold cv1
    split <;> simp [IV.isD]
  obtain ⟨h1,h2,h3,h4⟩:=Rel.newBox (f:=[]) (X:=X) (w':=w.alloc (.cells zv.cells t)) h hc hd rfl ⟨rfl,rfl,rfl⟩
  refine ⟨_,_,F,_,_,[],.inl hrun,h1,.inl ⟨⟨?_,?_⟩,rfl⟩,h2,h3⟩
  · simp
  · rw [h4];rfl
theorem out_box (h:Rel cx w F ρ fp X st (regs a)) {x:Opd} {y:Operand} {t:TypeId} (hx:okOpd cx y x) (ho:o.op=.box t y) {cf} (hev:ev cf st (.box x)=some (v,st')):OpOut cx w F ρ fp X st a o v st':=by
  simp only [ev] at hev
  split at hev
  · rename_i cs st1 ha
    simp only [Option.some.injEq,Prod.mk.injEq] at hev
    obtain ⟨rfl,rfl⟩:=hev
    obtain ⟨fp1,f1,k1,k2,k3,k4,k5,k6⟩:=take_absorb h hx ha
    have hrun:(execOp a.eval o).run cx.P w=.ok (.value (.pointer (some ⟨w.heap.size,0,none⟩))) (w.alloc (.cells (a.eval y).cells t)):=by
      simp [execOp,ho,Instr.box,newVar,newRow]
    obtain ⟨h1,h2,h3,h4⟩:=Rel.newBox (f:=f1) (X:=X) (w':=w.alloc (.cells (a.eval y).cells t)) k1 k2 (fun c hc=>.inl (k3 c hc)) rfl ⟨rfl,rfl,rfl⟩
    have hex:∀ l k,exB st l k→exB st1 l k:=fun l k hb=>k6.box hb
    have e1:=ext_pre (ex:=exB st) k5 k4 ⟨h2.size,h2.keep,h2.fpn,h2.xn,h2.Fm,h2.Fn,fun l k hlk=>h2.rho l k (hex l k hlk),h2.env⟩
    refine ⟨_,_,F,_,_,[],.inl hrun,h1,.inl ⟨⟨?_,?_⟩,rfl⟩,e1,k6.trans h3⟩
    · simp
    · rw [h4];rfl
  · cases hev
theorem out_build (h:Rel cx w F ρ fp X st (regs a)) {t:TypeId} {z:List Value} {parts:List (Nat×Nat×Opd)} {rparts:Array (Nat×Operand)} {fields:Array Field} {places:List (Nat×Nat)} (hz:zeroIs cx.P t z)
    (hu:cx.P.underlying t=some (.struct fields)) (hpl:fields.toList.mapM (fun f=>(cx.P.info? f.type).map fun i=>(f.offset,i.size))=some places)
    (hp:okParts cx (places.toArray[·]?) rparts.toList parts) (ho:o.op=.build t rparts) {cf} (hev:ev cf st (.build z parts)=some (v,st')):OpOut cx w F ρ fp X st a o v st':=by
  simp only [ev] at hev
  split at hev
  · rename_i cs T hf
    simp only [Option.some.injEq,Prod.mk.injEq] at hev
    obtain ⟨rfl,rfl⟩:=hev
    obtain ⟨i,zv,hi,hiz,hzc⟩:=hz
    have hc:Cat (RC cx w F ρ st (look st (regs a) ρ w)) (z.map cv1) zv.cells.toList []:=by rw [hzc];exact cv1_cat z
    obtain ⟨C',fp',f',e1,e2,e3,e4,e5⟩:=fill_rel (f:=[]) (X:=X) h hc hp hf
    have hb:cx.P.built t (rparts.map fun (i,x)=>(i,a.eval x)).toList=some C':=by
      unfold Program.built
      simp only [hi,hu,hiz,hpl,Array.toList_map]
      exact e1
    refine ⟨.agg C',w,F,ρ,fp',f',.inl ?_,e2,⟨C',rfl,e3⟩,Ext.sub (fun r b hb=>⟨r,e5 r b hb⟩) (fun b hb=>?_),⟨rfl,Nat.le_refl _⟩⟩
    · simp only [execOp,ho,Sem.run_bind,run_build w t _ C' hb,Result.andThen_ok,Sem.run_pure]
    · rcases e4 b hb with h5 | h5
      · cases h5
      · exact h5
  · cases hev
theorem out_buildA (h:Rel cx w F ρ fp X st (regs a)) {t el:TypeId} {n size:Nat} {z:List Value} {parts:List (Nat×Nat×Opd)} {rparts:Array (Nat×Operand)} (hz:zeroIs cx.P t z)
    (hu:cx.P.underlying t=some (.array n el)) (hs:sizeIs cx.P el size)
    (hp:okParts cx (fun i=>some (i * size,size)) rparts.toList parts) (ho:o.op=.build t rparts) {cf} (hev:ev cf st (.build z parts)=some (v,st')):OpOut cx w F ρ fp X st a o v st':=by
  simp only [ev] at hev
  split at hev
  · rename_i cs T hf
    simp only [Option.some.injEq,Prod.mk.injEq] at hev
    obtain ⟨rfl,rfl⟩:=hev
    obtain ⟨zv0,hz1,hz2⟩:=run_zeroValue hz w
    obtain ⟨i,zv,hi,hiz,hzc⟩:=hz
    have hc:Cat (RC cx w F ρ st (look st (regs a) ρ w)) (z.map cv1) zv0.cells.toList []:=by rw [hz2];exact cv1_cat z
    obtain ⟨C',fp',f',e1,e2,e3,e4,e5⟩:=fill_rel (f:=[]) (X:=X) h hc hp hf
    refine ⟨.agg C',w,F,ρ,fp',f',.inl ?_,e2,⟨C',rfl,e3⟩,Ext.sub (fun r b hb=>⟨r,e5 r b hb⟩) (fun b hb=>?_),⟨rfl,Nat.le_refl _⟩⟩
    · have hfill:Instr.fill (fun i=>some (i * size,size)) zv0.cells (rparts.map fun (i,x)=>(i,a.eval x)).toList=some C':=by rw [Array.toList_map];exact e1
      simp only [execOp,ho,Instr.build,Sem.run_bind,hz1,Result.andThen_ok,run_underlying hu,run_sizeOf hs,hfill,Sem.run_pure]
    · rcases e4 b hb with h5 | h5
      · cases h5
      · exact h5
  · cases hev
theorem out_bsl (h:Rel cx w F ρ fp X st (regs a)) {t elem:TypeId} {z:List Value} {e len:Nat} {parts:List (Nat×Opd)} {rparts:Array (Nat×Operand)} (hz:zeroIs cx.P elem z) (he:sizeIs cx.P elem e) (hze:z.length=e)
    (hu:cx.P.underlying t=some (.slice elem)) (hlim:len * e≤16777216) (hp:okParts1 cx rparts.toList parts) (ho:o.op=.buildSlice t len rparts) {cf} (hev:ev cf st (.bsl e z len parts)=some (v,st')):OpOut cx w F ρ fp X st a o v st':=by
  simp only [ev] at hev
  split at hev
  · rename_i es st1 hf
    simp only [Option.some.injEq,Prod.mk.injEq] at hev
    obtain ⟨rfl,rfl⟩:=hev
    obtain ⟨zv,hz1,hz2⟩:=run_zeroValue hz w
    have hzs:zv.cells.size=e:=by rw [← hze,← hz2];simp
    have hrow:∀ z':Array Value,(len * e=0 ∨ z'=zv.cells)→((Array.range (len * e)).map (z'[· % z'.size]!)).toList=(List.replicate len z).flatten:=by
      intro z' hz'
      rcases hz' with h0 | rfl
      · rw [h0]
        have:(List.replicate len z).flatten.length=0:=by simp [hze,h0]
        rw [List.length_eq_zero_iff.1 this];simp
      · have:=made_list zv.cells len
        rw [hz2,hzs] at this
        rw [← this];unfold madeCells;rw [hzs]
    generalize hC0:(Array.range (len * e)).map ((if len * e=0 then (#[]:Array Value) else zv.cells)[· % (if len * e=0 then (#[]:Array Value) else zv.cells).size]!)=C0
    have hC0l:C0.toList=(List.replicate len z).flatten:=by
      rw [← hC0]
      exact hrow _ (by split <;> simp [*])
    have hd:RDs w F (elemsOf z len).flatten C0.toList []:=by rw [hC0l];exact elems_rel z len
    obtain ⟨C',fp',f',e1,e2,e3,e4,e5,e6,e7,e8⟩:=fillE_rel (f:=[]) (X:=X) h hd (by rw [← hze];exact elems_len z len) hp hf
    have hlen:es.length=len:=by rw [e5];simp [elemsOf]
    have hrun:(execOp a.eval o).run cx.P w=.ok (.value (.slice (some ⟨w.heap.size,0,none⟩) len len)) (w.alloc (.cells C' elem)):=by
      have hl:¬ (2 ^ 24 < len * e):=by omega
      have e1':Instr.fill (fun i=>some (i * e,e)) C0 (rparts.map fun (i,x)=>(i,a.eval x)).toList=some C':=by rw [Array.toList_map];exact e1
      by_cases h0:len * e=0
      · rw [if_pos h0] at hC0
        simp only [execOp,ho,Instr.buildSlice,Sem.run_bind,run_underlying hu,Result.andThen_ok,run_sizeOf he,gt_iff_lt,if_neg hl,if_pos h0,Sem.run_pure,hC0,e1',newRow]
        rfl
      · rw [if_neg h0] at hC0
        simp only [execOp,ho,Instr.buildSlice,Sem.run_bind,run_underlying hu,Result.andThen_ok,run_sizeOf he,gt_iff_lt,if_neg hl,if_neg h0,hz1,Sem.run_pure,hC0,e1',newRow]
        rfl
    have hsz:C'.size=len * e:=by have:=e3.len;rw [flatten_len e4,hlen] at this;simpa using this.symm
    obtain ⟨f2,g1,g2,g3,g4,g5⟩:=Rel.newOwn (C:=C') (ty:=elem) (cap:=len) (w':=w.alloc (.cells C' elem)) (e:=e) (es:=es) e2 (by
      rw [hlen,List.take_of_length_le (by simp [hsz])];exact e3) e4 (by omega) (by omega) rfl ⟨rfl,rfl,rfl⟩
    rw [hlen] at g2
    refine ⟨_,_,F,ρ,fp',f2,.inl hrun,g1,.inr g2,ext_pre e7 (fun b hb=>?_) (g4 _),e8⟩
    rcases e6 b hb with h5 | h5
    · cases h5
    · exact h5
  · cases hev
theorem out_mksl (h:Rel cx w F ρ fp X st (regs a)) {t elem:TypeId} {z:List Value} {e:Nat} {l c:Opd} {l' c':Operand} {i:TypeInfo} (hz:zeroIs cx.P elem z) (he:sizeIs cx.P elem e) (hze:z.length=e)
    (hu:cx.P.underlying t=some (.slice elem)) (hi:cx.P.info? elem=some i) (hb:i.bytes≤1024) (hl:okOpd cx l' l) (hc:okOpd cx c' c) (ho:o.op=.makeSlice t l' c') {cf} (hev:ev cf st (.mksl e z l c)=some (v,st')):OpOut cx w F ρ fp X st a o v st':=by
  simp only [ev] at hev
  split at hev
  · rename_i ln cn hln hcn
    split at hev
    · rename_i hcond
      simp only [Option.some.injEq,Prod.mk.injEq] at hev
      obtain ⟨rfl,rfl⟩:=hev
      obtain ⟨kl,zl,h1,h2,h3,-⟩:=natOf_real hln (rd_rel h hl)
      obtain ⟨kc,zc,h4,h5,h6,-⟩:=natOf_real hcn (rd_rel h hc)
      obtain ⟨i',zv,hi',hiz,hzc⟩:=hz
      rw [hi] at hi';cases hi'
      obtain ⟨i'',hi'',hsz⟩:=he
      rw [hi] at hi'';cases hi''
      have hlim:(cn:Int)≤274877906944:=by have:=hcond.2;unfold lim at this;omega
      have hzc':zc=(cn:Int):=by omega
      have hzl':zl=(ln:Int):=by omega
      have hrun:=run_make (P:=cx.P) w t elem i zv hu hi hiz kl kc zl zc h2 (by omega) (by
        have:(i.bytes:Int) * zc≤1024 * 274877906944:=Int.mul_le_mul (by omega) (by omega) h5 (by omega)
        omega) (by omega)
      have hzs:zv.cells.size=i.size:=by rw [hsz,← hze,← hzc];simp
      rw [hzc',hzl',Int.toNat_natCast,Int.toNat_natCast,← hzs] at hrun
      have hml:=made_list zv.cells cn
      rw [hzc] at hml
      have hzs2:zv.cells.size=e:=by omega
      obtain ⟨f2,g1,g2,g3,g4,g5⟩:=Rel.newOwn (f:=[]) (X:=X) (C:=madeCells zv.cells (cn * zv.cells.size)) (ty:=elem) (cap:=cn) (w':=w.alloc (.cells (madeCells zv.cells (cn * zv.cells.size)) elem)) (e:=e) (es:=elemsOf z ln) h (by
        have hll:(elemsOf z ln).length=ln:=by simp [elemsOf]
        rw [hll,hml]
        have:(List.replicate cn z).flatten.take (ln * e)=(List.replicate ln z).flatten:=by
          rw [show cn=ln+(cn - ln) by omega,← List.replicate_append_replicate,List.flatten_append]
          have:(List.replicate ln z).flatten.length=ln * e:=by simp [hze]
          rw [← this,List.take_left]
        rw [this];exact elems_rel z ln) (by rw [← hze];exact elems_len z ln) (by simp [elemsOf];exact hcond.1) (by rw [size_madeCells,hzs2];exact Nat.le_refl _) rfl ⟨rfl,rfl,rfl⟩
      have hll:(elemsOf z ln).length=ln:=by simp [elemsOf]
      rw [hll] at g2
      refine ⟨_,_,F,ρ,fp,f2,.inl ?_,g1,.inr g2,by simpa using g4 _,.refl _⟩
      simp only [execOp,ho,h1,h4,hzc',hzl',Sem.run_bind,hrun,Result.andThen_ok,Sem.run_pure]
    · cases hev
  · cases hev
end
end Go.Idl
namespace Go.Idl
open Go
section
variable {cx:Cx} {w w':World} {F F':Nat→Prop} {ρ ρ':Rho} {fp fp':Fp} {X f f':List Nat} {st st':St} {a:Act} {o:Oper} {tm:Nat→Value} {v:IV}
theorem rcomp_slot {lk x v f} (h:RComp cx w F ρ st lk x v f):RSlot cx w F ρ st lk x v f:=by
  cases x with
  | tup vs =>
    rcases h with ⟨h,_⟩ | h
    · exact h.elim
    · cases h
  | _=>exact h
theorem out_extr (h:Rel cx w F ρ fp X st (regs a)) {x:Opd} {x':Operand} {i:Nat} (hx:okOpd cx x' x) (ho:o.op=.extract x' i) {cf} (hev:ev cf st (.extr x i)=some (v,st')):OpOut cx w F ρ fp X st a o v st':=by
  simp only [ev] at hev
  split at hev
  rotate_left
  · cases hev
  rename_i s
  split at hev
  rotate_left
  · cases hev
  rename_i vs hT
  split at hev
  rotate_left
  · cases hev
  rename_i u hu
  simp only [Option.some.injEq,Prod.mk.injEq] at hev
  obtain ⟨rfl,rfl⟩:=hev
  cases x' with
  | const c=>exact hx.elim
  | func c=>exact hx.elim
  | global c=>exact hx.elim
  | tmp t =>
  have hts:t=s:=hx
  subst hts
  obtain ⟨h1,h2⟩:=h.drop t
  rw [hT] at h2
  obtain ⟨C,hC,hcat⟩:=h2
  have hget:(vs.map (kl1 (IV.rooted (.S t))))[i]? = some (kl1 (IV.rooted (.S t)) u):=by simp [hu]
  obtain ⟨uv,f1,g,f2,k1,k2,k3,k4⟩:=hcat.at_ hget
  have hback:=k4 (RComp cx w F ρ { st with T:=dropSlot t st.T } (look { st with T:=dropSlot t st.T } (regs a) ρ w)) .un uv [] (fun _ _ _ _ h=>h) rfl
  have hset:C.toList.set i uv=C.toList:=by
    apply List.ext_getElem?
    intro j
    by_cases hj:i=j
    · subst hj
      rw [List.getElem?_set_self (by
        rcases Nat.lt_or_ge i C.toList.length with hh | hh
        · exact hh
        · rw [List.getElem?_eq_none hh] at k1;cases k1),k1]
    · rw [List.getElem?_set_ne hj]
  rw [hset] at hback
  have hm:(vs.map (kl1 (IV.rooted (.S t)))).set i .un=(vs.set i .un).map (kl1 (IV.rooted (.S t))):=by
    rw [List.map_set];simp [kl1,klc]
  rw [hm] at hback
  have hslot:RSlot cx w F ρ { st with T:=dropSlot t st.T } (look { st with T:=dropSlot t st.T } (regs a) ρ w) (.tup ((vs.set i .un).map (kl1 (IV.rooted (.S t))))) (regs a t) (f1++([]++f2)):=⟨C,hC,hback⟩
  have hrel:Rel cx w F ρ (updFp fp (.S t) []) ((f1++([]++f2))++(g++X)) { st with T:=dropSlot t st.T } (regs a):=by
    have h1':Rel cx w F ρ (updFp fp (.S t) []) (f1++(g++f2)++X) { st with T:=dropSlot t st.T } (regs a):=by rw [← k2];exact h1
    refine h1'.perm ?_
    simp only [List.nil_append,List.append_assoc]
    refine List.Perm.append_left f1 ?_
    rw [← List.append_assoc,← List.append_assoc]
    exact List.Perm.append_right X List.perm_append_comm
  have hput:=hrel.put hslot t
  have htm:(fun q=>if q=t then regs a t else regs a q)=regs a:=by funext q;by_cases hq:q=t <;> simp [hq]
  rw [htm] at hput
  have tr:=tr_slot h1 t (.tup ((vs.set i .un).map (kl1 (IV.rooted (.S t))))) (regs a t) (fun _=>false) .none (.inr (by simp [dropSlot,tget,IV.holds]))
  rw [htm,killBy_none] at tr
  refine ⟨uv,w,F,ρ,_,g,.inl ?_,hput,?_,Ext.sub (fun r b hb=>?_) (fun b hb=>⟨.S t,by rw [k2];simp [hb]⟩),⟨rfl,Nat.le_refl _⟩⟩
  · have:a.eval (.tmp t)=.tuple C:=hC
    have k1':C[i]? = some uv:=by simpa using k1
    simp [execOp,ho,this,Instr.extract,k1']
  · have h5:=k3.trk tr .none (liveK _) (fun _ _=>rfl)
    rw [kl1_none] at h5
    have e5:tput (dropSlot t st.T) t (.tup ((vs.set i .un).map (kl1 (IV.rooted (.S t)))))=(t,.tup ((vs.set i .un).map (kl1 (IV.rooted (.S t)))))::dropSlot t st.T:=by
      unfold tput;rw [if_neg (by simp [dropSlot,tget,IV.holds])]
    rw [e5]
    exact rcomp_slot h5
  · unfold updFp at hb
    split at hb
    · rename_i hr;subst hr
      refine ⟨.S t,?_⟩
      rw [k2]
      simp only [List.nil_append,List.mem_append] at hb ⊢
      rcases hb with hb | hb <;> simp [hb]
    · exact ⟨r,by rename_i hr;simpa [hr] using hb⟩
end
end Go.Idl
namespace Go.Idl
open Go
theorem splice_out {α:Type} {cs ys:List α} {c j:Nat} (h:c+ys.length≤cs.length) (hj:j < c ∨ c+ys.length≤j):(splice cs c ys)[j]? = cs[j]?:=by
  unfold splice
  rcases hj with hj | hj
  · rw [List.append_assoc,List.getElem?_append_left (by rw [List.length_take];omega),List.getElem?_take_of_lt hj]
  · rw [List.getElem?_append_right (by rw [List.length_append,List.length_take];omega),List.getElem?_drop]
    congr 1
    rw [List.length_append,List.length_take];omega
theorem splice_len {α:Type} {cs ys:List α} {c:Nat} (h:c+ys.length≤cs.length):(splice cs c ys).length=cs.length:=by
  unfold splice;simp;omega
section
variable {cx:Cx} {w w':World} {F F':Nat→Prop} {ρ ρ':Rho} {fp fp':Fp} {X f f' fy:List Nat} {st st':St} {a:Act} {o:Oper} {tm:Nat→Value} {v:IV}
theorem RC.rbox' {lk x v l} (h:RC cx w F ρ st lk x v f) (hd:x.isD=true) (hl:x.lvl (l+1)=true):RBox cx w F ρ st l x v f:=by
  rcases h with ⟨h,rfl⟩ | h
  · cases x with
    | bptr l' k c=>exact .inl ⟨h,hl,rfl,rfl⟩
    | fn g caps=>exact .inl ⟨h,hl,rfl,rfl⟩
    | _=>first | exact h.elim | simp [IV.isD] at hd
  · exact .inr h
theorem Rel.storeBox (h:Rel cx w F ρ fp (fy++X) st tm) {l k c:Nat} {cs old ys:List IV} {us:List Value} (hb:st.box l k=some cs) (hs:sub cs c ys.length=some old)
    (hc:Cat (RC cx w F ρ st (look st tm ρ w)) ys us fy) (hd:∀ y ∈ ys,y.isD=true) (hl:∀ y ∈ ys,y.lvl (l+1)=true) {pk:IV→Bool} (hpk:KillOK pk)
    (hkeep:(∀ y:IV,y.rooted (.B l k)=true→pk y=true) ∨ old.all IV.isSc=true) {C:Array Value} {ty:TypeId} (hC:w.heap[ρ l k]? = some (.cells C ty (0,0)))
    (hw1:w'.heap[ρ l k]? = some (.cells (splice C.toList c us).toArray ty (0,0))) (hw2:∀ b,b ≠ ρ l k→w'.heap[b]? = w.heap[b]?) (hw3:w'.heap.size=w.heap.size) :
    ∃ fp',Rel cx w' F ρ fp' X { st.setBox l k (splice cs c ys) with T:=killBy pk st.T } tm∧ShpLe st { st.setBox l k (splice cs c ys) with T:=killBy pk st.T }∧(∀ r,∀ b ∈ fp' r,b ∈ fp r ∨ b ∈ fy)∧(∃ r,ρ l k ∈ fp r):=by
  obtain ⟨C',ty',f0,hfp,hheap,hcat⟩:=h.boxes l k cs hb
  rw [hC] at hheap
  simp only [Option.some.injEq,Obj.cells.injEq,and_true] at hheap
  obtain ⟨rfl,rfl⟩:=hheap
  obtain ⟨hle,rfl⟩:=sub_some hs
  have hys:Cat (RBox cx w F ρ st l) ys us fy:=hc.mono fun x v f _ hx hm=>hx.rbox' (hd x hm) (hl x hm)
  have hysl:=hys.len
  have hcl:cs.length=C.toList.length:=hcat.len
  obtain ⟨f1,g,f2,hfe,hsp⟩:=hcat.splice hys hle
  have hsome:(st.box l k).isSome=true:=by rw [hb];rfl
  have hbs:=fun l' k'=>box_setBox (cs':=splice cs c ys) hsome l' k'
  have shp:=shp_setBox st l k (splice cs c ys)
  have hin:ρ l k ∈ fp (.B l k):=by rw [hfp];simp
  have hnd:=h.nodup (.B l k)
  rw [hfp] at hnd
  obtain ⟨hnin,hnd0⟩:=List.nodup_cons.1 hnd
  have hagr:∀ r,r ≠ .B l k→∀ b ∈ fp r,w'.heap[b]? = w.heap[b]?:=fun r hr b hb=>hw2 b (fun he=>h.disj r (.B l k) hr b hb (he ▸ hin))
  have hagF:∀ b,F b→w'.heap[b]? = w.heap[b]?:=fun b hb=>hw2 b (fun he=>h.notF (.B l k) b (he ▸ hin) hb)
  have hagX:∀ b,b ∈ fy++X→w'.heap[b]? = w.heap[b]?:=fun b hb=>hw2 b (fun he=>h.xdisj (.B l k) b (he ▸ hin) hb)
  have hag0:∀ b ∈ f0,w'.heap[b]? = w.heap[b]?:=fun b hb=>hw2 b (fun he=>hnin (he ▸ hb))
  have tr:Tr w F ρ st (look st tm ρ w) w' F ρ { st.setBox l k (splice cs c ys) with T:=killBy pk st.T }
      (look { st.setBox l k (splice cs c ys) with T:=killBy pk st.T } tm ρ w') (fun r c q=>∃ x:IV,refAt x r c q∧pk x=false):=by
    refine ⟨fun r c2 q hlive x1 v1 e2 es2 A hn hcap hlk hfo=>?_,hagF,fun _ h=>h,fun l' k' hb=>⟨rfl,shp.box hb⟩⟩
    obtain ⟨e1,es1,rfl⟩:=folR_own hfo
    by_cases hr:r=.B l k
    · subst hr
      rcases hkeep with hk | hsc
      · obtain ⟨x,hx1,hx2⟩:=hlive
        have:x.rooted (.B l k)=true:=refAt_rooted hx1
        rw [hk x this] at hx2;cases hx2
      · simp only [look,hb] at hlk
        cases hc2:cs[c2]? with
        | none=>simp [hc2] at hlk
        | some y2 =>
        simp only [hc2,cell_of hC] at hlk
        cases hv2:C[c2]? with
        | none=>simp [hv2] at hlk
        | some v2 =>
        simp only [hv2,Option.some.injEq,Prod.mk.injEq] at hlk
        obtain ⟨rfl,rfl⟩:=hlk
        have hout:c2 < c ∨ c+ys.length≤c2:=by
          rcases Nat.lt_or_ge c2 c with h1 | h1
          · exact .inl h1
          · rcases Nat.lt_or_ge c2 (c+ys.length) with h2 | h2
            · exfalso
              have:(IV.own e1 es1) ∈ (cs.drop c).take ys.length:=by
                refine List.mem_of_getElem? (i:=c2 - c) ?_
                rw [List.getElem?_take_of_lt (by omega),List.getElem?_drop,show c+(c2 - c)=c2 by omega,hc2]
              have:=List.all_eq_true.1 hsc _ this
              simp [IV.isSc] at this
            · exact .inr h2
        obtain ⟨v3,q1,qf,q2,hv3,hqe,hRq,-⟩:=hcat.at_ hc2
        have hv23:v3=v2:=by
          have:C.toList[c2]? = some v2:=by simpa using hv2
          rw [this] at hv3;exact (Option.some.inj hv3).symm
        subst hv23
        have hRq':RDs w F [.own e1 es1] [v3] qf:=by
          rcases hRq with ⟨hh,_⟩ | hRq
          · exact hh.elim
          · exact hRq
        refine ⟨.own e1 es1,es2,?_,folR_frame hRq' (fun b hb=>hag0 b (by rw [hqe];simp [hb])) hfo,Nat.le_refl _⟩
        simp only [look,box_T,hbs,and_self,if_true]
        rw [splice_out hle hout,hc2,cell_of hw1]
        have:(splice C.toList c us).toArray[c2]? = some v3:=by
          rw [List.getElem?_toArray,splice_out (by rw [← hysl,← hcl];exact hle) (by rw [← hysl];exact hout)]
          simpa using hv2
        rw [this]
    · refine ⟨.own e1 es1,es2,?_,h.tr_other hlk hfo (hagr r hr),Nat.le_refl _⟩
      cases r with
      | S s' =>
        obtain ⟨h1,h2⟩:=look_S hlk
        refine look_S_mk ?_ h2
        rw [tget_killBy]
        exact cells_kl hpk h1
      | B l' k' =>
        have hne:¬ (l'=l∧k'=k):=fun hc=>hr (by rw [hc.1,hc.2])
        have hb1:({ st.setBox l k (splice cs c ys) with T:=killBy pk st.T }:St).box l' k'=st.box l' k':=by
          rw [box_T,hbs,if_neg hne]
        have:=look_B_frame (st':=st) h hlk (hagr _ hr)
        simp only [look,hb1]
        simp only [look] at this
        exact this
  have hX:=List.nodup_append.1 h.xnodup
  have hyX:∀ b ∈ fy,b ∈ fy++X:=fun b hb=>by simp [hb]
  have hXX:∀ b ∈ X,b ∈ fy++X:=fun b hb=>by simp [hb]
  have hsub:∀ q,∀ b ∈ updFp fp (.B l k) (ρ l k::(f1++(fy++f2))) q,b ∈ fp q ∨ (q=.B l k∧b ∈ fy):=fun q b hb=>by
    unfold updFp at hb;split at hb
    · rename_i hq;subst hq
      rw [hfp,hfe]
      simp only [List.mem_cons,List.mem_append] at hb ⊢
      rcases hb with hb | hb | hb | hb
      · exact .inl (.inl hb)
      · exact .inl (.inr (.inl hb))
      · exact .inr ⟨trivial,hb⟩
      · exact .inl (.inr (.inr (.inr hb)))
    · exact .inl hb
  refine ⟨updFp fp (.B l k) (ρ l k::(f1++(fy++f2))),⟨fun s'=>?_,fun l' k' cs' hb'=>?_,fun l' k' hb'=>?_,fun r=>?_,fun r r' hr b hb hb'=>?_,fun r b hb=>?_,fun r b hb=>?_,fun b hb=>?_,hX.2.1,fun r b hb hx=>?_,fun b hb=>h.xF b (hXX b hb),
    fun b hb=>?_⟩,⟨shp.M,shp.loc⟩,fun r b hb=>?_,⟨.B l k,hin⟩⟩
  · rw [tget_killBy]
    have hne:(Rt.S s':Rt) ≠ .B l k:=fun hc=>by cases hc
    rw [show updFp fp (.B l k) (ρ l k::(f1++(fy++f2))) (.S s')=fp (.S s') from if_neg hne]
    exact (h.slots s').trk tr hpk (liveK pk) (hagr _ hne)
  · rw [box_T,hbs] at hb'
    by_cases hlk:l'=l∧k'=k
    · obtain ⟨rfl,rfl⟩:=hlk
      simp only [and_self,if_true,Option.some.injEq] at hb'
      subst hb'
      refine ⟨_,ty,f1++(fy++f2),if_pos rfl,hw1,?_⟩
      simp only
      refine hsp.mono fun x v f' hf' hx _=>hx.tr tr (fun b hb=>?_)
      have:=hf' b hb
      simp only [List.mem_append] at this
      rcases this with h1 | h1 | h1
      · exact hag0 b (by rw [hfe];simp [h1])
      · exact hagX b (hyX b h1)
      · exact hag0 b (by rw [hfe];simp [h1])
    · rw [if_neg hlk] at hb'
      obtain ⟨C',ty',f',k1,k2,k3⟩:=h.boxes l' k' cs' hb'
      have hne:(Rt.B l' k':Rt) ≠ .B l k:=fun hc=>hlk (by cases hc;exact ⟨rfl,rfl⟩)
      refine ⟨C',ty',f',by rw [show updFp fp (.B l k) (ρ l k::(f1++(fy++f2))) (.B l' k')=fp (.B l' k') from if_neg hne];exact k1,(hagr _ hne _ (by rw [k1];simp)).trans k2,?_⟩
      exact k3.mono fun x v f hf hx _=>hx.tr tr (fun b hb=>hagr _ hne b (by rw [k1];simp [hf b hb]))
  · rw [box_T,hbs] at hb'
    by_cases hlk:l'=l∧k'=k
    · rw [if_pos hlk] at hb';cases hb'
    · rw [if_neg hlk] at hb'
      have hne:(Rt.B l' k':Rt) ≠ .B l k:=fun hc=>hlk (by cases hc;exact ⟨rfl,rfl⟩)
      rw [show updFp fp (.B l k) (ρ l k::(f1++(fy++f2))) (.B l' k')=fp (.B l' k') from if_neg hne]
      exact h.nobox l' k' hb'
  · unfold updFp;split
    · refine List.nodup_cons.2 ⟨fun hm=>?_,nodup_repl (hfe ▸ hnd0) (fun b hb=>?_) hX.1⟩
      · simp only [List.mem_append] at hm
        rcases hm with hm | hm | hm
        · exact hnin (by rw [hfe];simp [hm])
        · exact h.xdisj (.B l k) _ hin (hyX _ hm)
        · exact hnin (by rw [hfe];simp [hm])
      · have hx:b ∉ f0:=fun hc=>h.xdisj (.B l k) b (by rw [hfp];simp [hc]) (hyX b hb)
        exact ⟨fun hc=>hx (by rw [hfe];simp [hc]),fun hc=>hx (by rw [hfe];simp [hc])⟩
    · exact h.nodup r
  · rcases hsub r b hb with h1 | ⟨rfl,h1⟩
    · rcases hsub r' b hb' with h2 | ⟨rfl,h2⟩
      · exact h.disj r r' hr b h1 h2
      · exact h.xdisj r b h1 (hyX b h2)
    · rcases hsub r' b hb' with h2 | ⟨rfl,h2⟩
      · exact h.xdisj r' b h2 (hyX b h1)
      · exact hr rfl
  · rcases hsub r b hb with h1 | ⟨_,h1⟩
    · exact h.notF r b h1
    · exact h.xF b (hyX b h1)
  · rw [hw3]
    rcases hsub r b hb with h1 | ⟨_,h1⟩
    · exact h.lt r b h1
    · exact h.xlt b (hyX b h1)
  · rw [hw3];exact h.Flt b hb
  · rcases hsub r b hb with h1 | ⟨_,h1⟩
    · exact h.xdisj r b h1 (hXX b hx)
    · exact hX.2.2 b h1 b hx rfl
  · rw [hw3];exact h.xlt b (hXX b hb)
  · rcases hsub r b hb with h1 | ⟨_,h1⟩
    · exact .inl h1
    · exact .inr h1
end
end Go.Idl
namespace Go.Idl
open Go
theorem splice_sub {α:Type} {C us:List α} {o n k:Nat} (hk:k+us.length≤n) (hn:o+n≤C.length):((splice C (o+k) us).drop o).take n=splice ((C.drop o).take n) k us:=by
  unfold splice
  apply List.ext_getElem?
  intro q
  by_cases hq:q < n
  · rw [List.getElem?_take_of_lt hq,List.getElem?_drop]
    by_cases h1:q < k
    · rw [List.append_assoc,List.getElem?_append_left (by rw [List.length_take];omega),List.getElem?_take_of_lt (by omega)]
      rw [List.append_assoc,List.getElem?_append_left (by simp;omega),List.getElem?_take_of_lt h1,List.getElem?_take_of_lt hq,List.getElem?_drop]
    · by_cases h2:q < k+us.length
      · rw [List.append_assoc,List.getElem?_append_right (by rw [List.length_take];omega),List.getElem?_append_left (by rw [List.length_take];omega)]
        rw [List.append_assoc,List.getElem?_append_right (by simp;omega),List.getElem?_append_left (by simp;omega)]
        congr 1
        simp;omega
      · rw [List.getElem?_append_right (by simp;omega),List.getElem?_drop]
        rw [List.getElem?_append_right (by simp;omega),List.getElem?_drop,List.getElem?_take_of_lt (by simp;omega),List.getElem?_drop]
        congr 1
        simp;omega
  · rw [List.getElem?_eq_none (by rw [List.length_take];omega),List.getElem?_eq_none (by simp;omega)]
theorem splice_splice {α:Type} {L ys:List α} {m e j:Nat} (hL:m+e≤L.length) (hj:j+ys.length≤e):splice L m (splice ((L.drop m).take e) j ys)=splice L (m+j) ys:=by
  have hl:(splice ((L.drop m).take e) j ys).length=e:=by rw [splice_len (by simp;omega)];simp;omega
  apply List.ext_getElem?
  intro q
  by_cases h1:m≤q∧q < m+e
  · have e1:(splice L m (splice ((L.drop m).take e) j ys))[q]? = (splice ((L.drop m).take e) j ys)[q - m]?:=by
      conv=>lhs;unfold splice
      rw [List.append_assoc,List.getElem?_append_right (by rw [List.length_take];omega),List.length_take,Nat.min_eq_left (by omega)]
      rw [List.getElem?_append_left (by have:=hl;unfold splice at this;omega)]
      rfl
    rw [e1]
    by_cases h2:j≤q - m∧q - m < j+ys.length
    · have e2:∀ (K:List α) (c:Nat),c≤K.length→c≤q - m+c - j→(splice K c ys)[q - m+c - j]? = ys[q - m - j]?:=by
        intro K c hc _
        unfold splice
        rw [List.append_assoc,List.getElem?_append_right (by rw [List.length_take];omega),List.length_take,Nat.min_eq_left hc,List.getElem?_append_left (by omega)]
        congr 1;omega
      have a1:=e2 ((L.drop m).take e) j (by simp;omega) (by omega)
      have a2:=e2 L (m+j) (by omega) (by omega)
      rw [show q - m+j - j=q - m by omega] at a1
      rw [show q - m+(m+j) - j=q by omega] at a2
      rw [a1,a2]
    · rw [splice_out (by simp;omega) (by omega),splice_out (by omega) (by omega),List.getElem?_take_of_lt (by omega),List.getElem?_drop]
      congr 1;omega
  · rw [splice_out (by omega) (by omega),splice_out (by omega) (by omega)]
theorem flatten_row {es:List (List IV)} {e i:Nat} {el:List IV} (he:∀ x ∈ es,x.length=e) (hi:es[i]? = some el):(es.flatten.drop (i * e)).take e=el∧i * e+e≤es.flatten.length:=by
  have hil:i < es.length:=(List.getElem?_eq_some_iff.1 hi).1
  have hell:el.length=e:=he _ (List.mem_of_getElem? hi)
  have hb:(i+1) * e≤es.length * e:=Nat.mul_le_mul_right _ hil
  rw [Nat.succ_mul] at hb
  refine ⟨?_,by rw [flatten_len he];exact hb⟩
  apply List.ext_getElem?
  intro q
  by_cases hq:q < e
  · rw [List.getElem?_take_of_lt hq,List.getElem?_drop]
    have:∃ y,el[q]? = some y:=⟨el[q]'(by omega),by simp⟩
    obtain ⟨y,hy⟩:=this
    rw [(flatten_at he hi hy).1,hy]
  · rw [List.getElem?_eq_none (by rw [List.length_take];omega),List.getElem?_eq_none (by omega)]
theorem flatten_splice {es:List (List IV)} {e i j:Nat} {el ys:List IV} (he:∀ x ∈ es,x.length=e) (hi:es[i]? = some el) (hj:j+ys.length≤el.length) :
    (es.set i (splice el j ys)).flatten=splice es.flatten (i * e+j) ys:=by
  have hil:i < es.length:=(List.getElem?_eq_some_iff.1 hi).1
  have hell:el.length=e:=he _ (List.mem_of_getElem? hi)
  obtain ⟨h1,h2⟩:=flatten_row he hi
  rw [flatten_set_row he hil (by rw [splice_len hj];exact hell),← splice_splice h2 (by omega),h1]
section
variable {cx:Cx} {w w':World} {F F':Nat→Prop} {ρ ρ':Rho} {fp fp':Fp} {X f f' fy:List Nat} {st st':St} {a:Act} {o:Oper} {tm:Nat→Value} {v:IV}
theorem Rel.storeElem (h:Rel cx w F ρ fp (fy++X) st tm) {r:Rt} {c:Nat} {p:Path} {i j:Nat} {x0:IV} {v0:Value} {e:Nat} {es:List (List IV)} {b o N cap:Nat} {el old ys:List IV} {us:List Value}
    (hl:look st tm ρ w r c=some (x0,v0)) (hf:folR w x0 v0 p=some (.own e es,.slice (some ⟨b,o,none⟩) N cap)) (hi:es[i]? = some el) (hs:sub el j ys.length=some old)
    (hc:RDs w F ys us fy) (hsc:old.all IV.isSc=true ∨ True) {pk:IV→Bool} (hpk:KillOK pk) (hkeep:(∀ y:IV,y.rooted r=true→pk y=true) ∨ old.all IV.isSc=true) :
    ∃ C ty st' fp',w.heap[b]? = some (.cells C ty (0,0))∧o+i * e+j+us.length≤C.size∧(∃ r,b ∈ fp r)∧st.setPlc r c p (.own e (es.set i (splice el j ys)))=some st'∧ShpLe st st' ∧
      (∀ w',w'.heap[b]? = some (.cells (splice C.toList (o+i * e+j) us).toArray ty (0,0))→(∀ k,k ≠ b→w'.heap[k]? = w.heap[k]?)→w'.heap.size=w.heap.size →
        Rel cx w' F ρ fp' X { st' with T:=killBy pk st'.T } tm)∧(∀ r,∀ b ∈ fp' r,b ∈ fp r ∨ b ∈ fy):=by
  obtain ⟨hle,rfl⟩:=sub_some hs
  obtain ⟨pre,g,post,hfp,hRn,hup⟩:=h.upd hl hf
  rcases hRn.own_inv with ⟨h0,_⟩ | ⟨b1,o2,cap1,C,ty,fp1,h8,hg,hb,hd,he,hnn,ho⟩
  · subst h0;simp at hi
  simp only [Value.slice.injEq,Option.some.injEq,Addr.mk.injEq,and_true] at h8
  obtain ⟨⟨rfl,rfl⟩,rfl,rfl⟩:=h8
  have hil:i < es.length:=(List.getElem?_eq_some_iff.1 hi).1
  have hell:el.length=e:=he _ (List.mem_of_getElem? hi)
  have hbnd:(i+1) * e≤es.length * e:=Nat.mul_le_mul_right _ hil
  rw [Nat.succ_mul] at hbnd
  have husl:=hc.len
  have hcap:es.length * e≤cap * e:=Nat.mul_le_mul_right _ hnn.1
  have hCl:C.toList.length=C.size:=Array.length_toList
  have hgf:∀ k ∈ g,k ∈ fp r:=fun k hk=>by rw [hfp];simp [hk]
  have hgn:g.Nodup:=by
    have:=h.nodup r;rw [hfp] at this
    exact (List.nodup_append.1 (List.nodup_append.1 this).2.1).1
  rw [hg] at hgn
  obtain ⟨hbn,hfn⟩:=List.nodup_cons.1 hgn
  obtain ⟨f1,g0,f2,hfe,hsp⟩:=hd.cats.splice hc.cats (c:=i * e+j) (by rw [flatten_len he];omega)
  have hX:=List.nodup_append.1 h.xnodup
  have hyX:∀ k ∈ fy,k ∈ fy++X:=fun k hk=>by simp [hk]
  have hXX:∀ k ∈ X,k ∈ fy++X:=fun k hk=>by simp [hk]
  have hbr:b ∈ fp r:=hgf b (by rw [hg];simp)
  have hby:b ∉ fy:=fun hk=>h.xdisj r b hbr (hyX b hk)
  have hbX:b ∉ X:=fun hk=>h.xdisj r b hbr (hXX b hk)
  have key:∀ w',w'.heap[b]? = some (.cells (splice C.toList (o+i * e+j) us).toArray ty (0,0))→(∀ k,k ≠ b→w'.heap[k]? = w.heap[k]?)→w'.heap.size=w.heap.size →
      Upd w F g (fy++X) w' F (.own e (es.set i (splice el j ys))) (.slice (some ⟨b,o,none⟩) es.length cap) (b::(f1++(fy++f2))) X ∧
      KeepRefs w w' g r pk (.own e es) (.own e (es.set i (splice el j ys))) (.slice (some ⟨b,o,none⟩) es.length cap):=by
    intro w' hw1 hw2 hw3
    have hag1:∀ k ∈ fp1,w'.heap[k]? = w.heap[k]?:=fun k hk=>hw2 k (fun hc=>hbn (hc ▸ hk))
    refine ⟨⟨by omega,fun k _ hk=>hw2 k (fun hc=>hk (by rw [hg];simp [hc])),fun _ h=>h,fun _ h=>.inl h,?_,fun k hk=>?_,?_,fun k hk=>?_,hX.2.1,fun k hk=>⟨.inl (hXX k hk),fun hm=>?_⟩,fun k hk=>h.xF k (hXX k hk)⟩,?_⟩
    · have hfl:=flatten_splice (ys:=ys) he hi hle
      have h1:RDs w' F (es.set i (splice el j ys)).flatten (((splice C.toList (o+i * e+j) us).drop o).take (es.length * e)) (f1++(fy++f2)):=by
        rw [hfl,show o+i * e+j=o+(i * e+j) by omega,splice_sub (by omega) (by omega)]
        refine (hsp.rds).frame (fun k hk=>?_) (fun k hk=>hw2 k (fun hc=>h.notF r b hbr (hc ▸ hk))) (fun _ h=>h)
        simp only [List.mem_append] at hk
        rcases hk with hk | hk | hk
        · exact hag1 k (by rw [hfe];simp [hk])
        · exact hw2 k (fun hc=>hby (hc ▸ hk))
        · exact hag1 k (by rw [hfe];simp [hk])
      have hl':(es.set i (splice el j ys)).length=es.length:=by simp
      have:=RDs.own (w:=w') (F:=F) (e:=e) (es:=es.set i (splice el j ys)) (xs:=[]) (vs:=[]) (fp:=[]) (cap:=cap) (o:=o) hw1 (fp1:=f1++(fy++f2)) (by rw [hl'];simpa using h1)
        (set_len he (by rw [splice_len hle];exact hell)) (by rw [hl'];exact hnn) (by
          have:(splice C.toList (o+i * e+j) us).length=C.toList.length:=splice_len (by omega)
          simp only [List.size_toArray];omega) .nil
      rw [hl'] at this
      simpa using this
    · rcases List.mem_cons.1 hk with rfl | hk
      · exact .inl (by rw [hg];simp)
      · simp only [List.mem_append] at hk
        rcases hk with hk | hk | hk
        · exact .inl (by rw [hg,hfe];simp [hk])
        · exact .inr (hyX k hk)
        · exact .inl (by rw [hg,hfe];simp [hk])
    · refine List.nodup_cons.2 ⟨fun hm=>?_,nodup_repl (hfe ▸ hfn) (fun k hk=>?_) hX.1⟩
      · simp only [List.mem_append] at hm
        rcases hm with hm | hm | hm
        · exact hbn (by rw [hfe];simp [hm])
        · exact hby hm
        · exact hbn (by rw [hfe];simp [hm])
      · have hx:k ∉ fp1:=fun hc=>h.xdisj r k (hgf k (by rw [hg];simp [hc])) (hyX k hk)
        exact ⟨fun hc=>hx (by rw [hfe];simp [hc]),fun hc=>hx (by rw [hfe];simp [hc])⟩
    · rcases List.mem_cons.1 hk with rfl | hk
      · exact h.notF r k hbr
      · simp only [List.mem_append] at hk
        rcases hk with hk | hk | hk
        · exact h.notF r k (hgf k (by rw [hg,hfe];simp [hk]))
        · exact h.xF k (hyX k hk)
        · exact h.notF r k (hgf k (by rw [hg,hfe];simp [hk]))
    · rcases List.mem_cons.1 hm with rfl | hm
      · exact hbX hk
      · simp only [List.mem_append] at hm
        rcases hm with hm | hm | hm
        · exact h.xdisj r k (hgf k (by rw [hg,hfe];simp [hm])) (hXX k hk)
        · exact hX.2.2 k hm k hk rfl
        · exact h.xdisj r k (hgf k (by rw [hg,hfe];simp [hm])) (hXX k hk)
    · rcases hkeep with hk | hsc'
      · exact .inl hk
      · refine .inr ⟨b,by rw [hg];simp,hw2,fun q e2 es2 hh hq=>?_⟩
        cases q with
        | nil =>
          simp only [folR,Option.some.injEq,Prod.mk.injEq,IV.own.injEq] at hq
          obtain ⟨⟨rfl,rfl⟩,rfl⟩:=hq
          exact ⟨_,rfl,by simp⟩
        | cons ij q =>
          obtain ⟨i2,j2⟩:=ij
          simp only [folR] at hq
          cases hi2:es[i2]? with
          | none=>simp [hi2] at hq
          | some el2 =>
          cases hj2:el2[j2]? with
          | none=>simp [hi2,hj2] at hq
          | some z2 =>
          simp only [hi2,hj2] at hq
          obtain ⟨hfl2,hil2,hje2⟩:=flatten_at he hi2 hj2
          have hbnd2:(i2+1) * e≤es.length * e:=Nat.mul_le_mul_right _ hil2
          rw [Nat.succ_mul] at hbnd2
          obtain ⟨u2,a1,g2,a2,hu2,hge2,hR2,-⟩:=hd.at_ hfl2
          rw [drop_take_get (by omega)] at hu2
          have hcell2:w.cell? ⟨b,o+i2 * e+j2,none⟩=some u2:=by rw [cell_of hb,← hu2,Nat.add_assoc]
          simp only [hcell2] at hq
          obtain ⟨e3,es3,rfl⟩:=folR_own hq
          have hout:i2 ≠ i ∨ (j2 < j ∨ j+ys.length≤j2):=by
            by_cases hii:i2=i
            · subst hii
              rw [hi] at hi2;cases hi2
              right
              rcases Nat.lt_or_ge j2 j with h1 | h1
              · exact .inl h1
              · rcases Nat.lt_or_ge j2 (j+ys.length) with h2 | h2
                · exfalso
                  have:(IV.own e3 es3) ∈ (el.drop j).take ys.length:=by
                    refine List.mem_of_getElem? (i:=j2 - j) ?_
                    rw [List.getElem?_take_of_lt (by omega),List.getElem?_drop,show j+(j2 - j)=j2 by omega,hj2]
                  have:=List.all_eq_true.1 hsc' _ this
                  simp [IV.isSc] at this
                · exact .inr h2
            · exact .inl hii
          have hpos:o+i2 * e+j2 < o+i * e+j ∨ o+i * e+j+us.length≤o+i2 * e+j2:=by
            rcases hout with h1 | h1
            · rcases Nat.lt_or_gt_of_ne h1 with h2 | h2
              · have:(i2+1) * e≤i * e:=Nat.mul_le_mul_right _ h2
                rw [Nat.succ_mul] at this;omega
              · have:(i+1) * e≤i2 * e:=Nat.mul_le_mul_right _ h2
                rw [Nat.succ_mul] at this;omega
            · by_cases hii:i2=i
              · subst hii;omega
              · rcases Nat.lt_or_gt_of_ne hii with h2 | h2
                · have:(i2+1) * e≤i * e:=Nat.mul_le_mul_right _ h2
                  rw [Nat.succ_mul] at this;omega
                · have:(i+1) * e≤i2 * e:=Nat.mul_le_mul_right _ h2
                  rw [Nat.succ_mul] at this;omega
          have hcell2':w'.cell? ⟨b,o+i2 * e+j2,none⟩=some u2:=by
            rw [cell_of hw1,List.getElem?_toArray,splice_out (by omega) hpos]
            rw [Nat.add_assoc];simpa using hu2
          have hr:=folR_frame (w':=w') hR2 (fun k hk=>hag1 k (by rw [hge2];simp [hk])) hq
          refine ⟨es2,?_,Nat.le_refl _⟩
          have hget:∃ el3,(es.set i (splice el j ys))[i2]? = some el3∧el3[j2]? = some (.own e3 es3):=by
            by_cases hii:i=i2
            · subst hii
              rw [hi] at hi2;cases hi2
              refine ⟨_,List.getElem?_set_self hil,?_⟩
              rw [splice_out hle (by rcases hout with h1 | h1;exact absurd rfl h1;exact h1)];exact hj2
            · exact ⟨el2,by rw [List.getElem?_set_ne hii];exact hi2,hj2⟩
          obtain ⟨el3,k1,k2⟩:=hget
          simp only [folR,k1,k2,hcell2',hr]
  let w0:World:=w.setRow b (splice C.toList (o+i * e+j) us).toArray
  have q1:w0.heap[b]? = some (.cells (splice C.toList (o+i * e+j) us).toArray ty (0,0)):=setRow_heap w b C _ ty _ hb
  have q2:∀ k,k ≠ b→w0.heap[k]? = w.heap[k]?:=fun k hk=>setRow_other w b k _ hk
  have q3:w0.heap.size=w.heap.size:=setRow_size _ _ _
  obtain ⟨u0,k0⟩:=key w0 q1 q2 q3
  obtain ⟨st1,hset,hshp,-,-⟩:=hup u0 hpk (.inl ⟨_,_,rfl⟩) k0
  refine ⟨C,ty,st1,updFp fp r (pre++(b::(f1++(fy++f2))++post)),hb,by omega,⟨r,hbr⟩,hset,hshp,fun w' hw1 hw2 hw3=>?_,fun q k hk=>?_⟩
  · obtain ⟨u1,k1⟩:=key w' hw1 hw2 hw3
    obtain ⟨st2,hset2,-,hrel,-⟩:=hup u1 hpk (.inl ⟨_,_,rfl⟩) k1
    rw [hset] at hset2
    cases hset2
    exact hrel
  · unfold updFp at hk
    split at hk
    · rename_i hq;subst hq
      rw [hfp]
      simp only [List.mem_append,List.mem_cons] at hk ⊢
      rcases hk with hk | (hk | hk | hk | hk) | hk
      · exact .inl (.inl hk)
      · exact .inl (.inr (.inl (by rw [hg];simp [hk])))
      · exact .inl (.inr (.inl (by rw [hg,hfe];simp [hk])))
      · exact .inr hk
      · exact .inl (.inr (.inl (by rw [hg,hfe];simp [hk])))
      · exact .inl (.inr (.inr hk))
    · exact .inl hk
end
end Go.Idl
namespace Go.Idl
open Go
section
variable {cx:Cx} {w w':World} {F F':Nat→Prop} {ρ ρ':Rho} {fp fp':Fp} {X f f' fy:List Nat} {st st':St} {a:Act} {o:Oper} {tm:Nat→Value} {v:IV}
theorem RC.oneCell {lk x v} (h:RC cx w F ρ st lk x v f) (hd:x.isD=true):v.oneCell'=true:=by
  rcases h with ⟨h,_⟩ | h
  · cases x with
    | bptr l k c=>rw [h.1];rfl
    | fn g caps=>obtain ⟨_,h1,_⟩:=h;rw [h1];rfl
    | _=>first | exact h.elim | simp [IV.isD] at hd
  · cases x with
    | sc u =>
      cases h;rename_i h1 h2;cases h2
      rcases isSc_cases h1 with ⟨_,_,rfl⟩ | ⟨_,rfl⟩ | ⟨_,rfl⟩ | rfl <;> rfl
    | lst e es c=>rcases h.lst_inv.2 with ⟨_,_,_,h1,_⟩ | ⟨_,_,_,_,_,_,h1,_⟩ <;> rw [h1] <;> rfl
    | own e es=>rcases h.own_inv with ⟨_,_,_,h1⟩ | ⟨_,_,_,_,_,_,h1,_⟩ <;> rw [h1] <;> rfl
    | bptr l k c=>cases h
    | fn g caps=>cases h
    | _=>simp [IV.isD] at hd
theorem Cat.oneCell {lk xs vs fq} (h:Cat (RC cx w F ρ st lk) xs vs fq) (hd:∀ x ∈ xs,x.isD=true):∀ v ∈ vs,v.oneCell'=true:=by
  induction h with
  | nil=>simp
  | cons h t ih =>
    intro v hv
    rcases List.mem_cons.1 hv with rfl | hv
    · exact h.oneCell (hd _ (by simp))
    · exact ih (fun x hx=>hd x (by simp [hx])) v hv
theorem killBy_eta (st:St):({ st with T:=killBy (fun _=>false) st.T }:St)=st:=by rw [killBy_none]
theorem out_store (h:Rel cx w F ρ fp X st (regs a)) {t:TypeId} {sz:Nat} {ad x:Opd} {ad' x':Operand} (hsz:sizeIs cx.P t sz) (ha:okOpd cx ad' ad) (hx:okOpd cx x' x) (ho:o.op=.store t ad' x') {cf}
    (hev:ev cf st (.store sz ad x)=some (v,st')):OpOut cx w F ρ fp X st a o v st':=by
  simp only [ev] at hev
  split at hev
  rotate_left
  · cases hev
  rename_i cs st1 hab
  split at hev
  rotate_left
  · cases hev
  rename_i hlen
  split at hev
  rotate_left
  · cases hev
  rename_i st2 hst
  simp only [Option.some.injEq,Prod.mk.injEq] at hev
  obtain ⟨rfl,rfl⟩:=hev
  obtain ⟨fp1,fy,k1,k2,k3,k4,k5,k6⟩:=take_absorb h hx hab
  have hus:=k2.len
  have h1c:=k2.oneCell k3
  have hr:=rd_rel k1 ha
  have fin:∀ (b o':Nat) (C:Array Value) (ty:TypeId) (fp2:Fp),a.eval ad'=.pointer (some ⟨b,o',none⟩)→w.heap[b]? = some (.cells C ty (0,0))→o'+(a.eval x').cells.toList.length≤C.size →
      (∃ r,b ∈ fp1 r)→Rel cx (w.setRow b (splice C.toList o' (a.eval x').cells.toList).toArray) F ρ fp2 X st2 (regs a)→(∀ r,∀ b ∈ fp2 r,b ∈ fp1 r ∨ b ∈ fy)→ShpLe st1 st2 →
      OpOut cx w F ρ fp X st a o .un st2:=by
    intro b o' C ty fp2 e1 e2 e3 e4 e5 e6 e7
    have hrun:=run_storeCells_at cx.P b o' ty (a.eval x').cells.toList 0 C w e2 (by omega) h1c
    have hvs:(a.eval x').cells.size=sz:=by rw [← hlen,hus];simp
    refine ⟨undef,_,F,ρ,fp2,[],.inr ⟨?_,rfl⟩,e5,rfl,?_,k6.trans e7⟩
    · simp only [execOp,ho,Instr.storeAt,Instr.sureAddr,e1,Sem.run_bind,Sem.run_pure,Result.andThen_ok,storeVar,run_sizeOf hsz,hvs,ne_eq,not_true_eq_false,if_false]
      rw [hrun]
      simp only [Result.andThen_ok,Nat.add_zero,splice]
    · refine ext_pre (ex:=exB st) k5 k4 ⟨by simp,fun q hq hr hx=>?_,fun r q hq=>?_,fun q hq=>.inr (.inl (by simp at hq ⊢;exact .inr hq)),fun _ h=>h,fun _ h=>.inl h,fun _ _ _=>rfl,⟨rfl,rfl,rfl⟩⟩
      · obtain ⟨r,hbr⟩:=e4
        exact setRow_other w b q _ (fun hc=>hr r (hc ▸ hbr))
      · rcases e6 r q hq with h5 | h5
        · exact .inl ⟨r,h5⟩
        · exact .inr (.inl (by simp [h5]))
  unfold St.storeCells at hst
  split at hst
  ·
    rename_i l k c hrd
    rw [hrd] at hr
    have hptr:a.eval ad'=.pointer (some ⟨ρ l k,c,none⟩):=by
      rcases hr with ⟨hr,_⟩ | hr
      · exact hr.1
      · cases hr
    split at hst
    rotate_left
    · cases hst
    rename_i bs hb
    split at hst
    rotate_left
    · cases hst
    rename_i old hs
    split at hst
    rotate_left
    · cases hst
    rename_i hlv
    simp only [Option.some.injEq] at hst
    obtain ⟨C,ty,f0,hfp,hheap,hcat⟩:=k1.boxes l k bs hb
    have hle:=(sub_some hs).1
    have hC:c+(a.eval x').cells.toList.length≤C.size:=by have:=hcat.len;rw [← hus];simp at this;omega
    have go:∀ pk,KillOK pk→((∀ y:IV,y.rooted (.B l k)=true→pk y=true) ∨ old.all IV.isSc=true)→st2={ st1.setBox l k (splice bs c cs) with T:=killBy pk st1.T }→OpOut cx w F ρ fp X st a o .un st2:=by
      intro pk hpk hkeep hst2
      subst hst2
      obtain ⟨fp2,g1,g2,g3,g4⟩:=Rel.storeBox (w':=w.setRow (ρ l k) (splice C.toList c (a.eval x').cells.toList).toArray) k1 hb hs k2 k3 (fun y hy=>List.all_eq_true.1 hlv y hy) hpk hkeep hheap
        (setRow_heap w _ C _ ty _ hheap) (fun b hb=>setRow_other w _ b _ hb) (by simp)
      exact fin _ _ C ty fp2 hptr hheap hC g4 g1 g3 g2
    by_cases hsc:(old.all IV.isSc && cs.all IV.isSc)=true
    · rw [if_pos hsc] at hst
      refine go (fun _=>false) .none (.inr (by simp only [Bool.and_eq_true] at hsc;exact hsc.1)) ?_
      rw [← setBox_T st1 l k (splice bs c cs),killBy_eta,hst]
    · rw [if_neg hsc,setBox_T] at hst
      exact go (IV.rooted (.B l k)) (.rooted _) (.inl fun _ h=>h) hst.symm
  ·
    rename_i r c p i j hrd
    rw [hrd] at hr
    split at hst
    · cases hst
    rename_i hdata
    have hdata':cs.all IV.isData=true:=by simpa using hdata
    split at hst
    rotate_left
    · cases hst
    rename_i e es hplc
    split at hst
    rotate_left
    · cases hst
    rename_i el hi
    split at hst
    rotate_left
    · cases hst
    rename_i old hs
    split at hst
    rotate_left
    · cases hst
    rename_i st3 hset
    simp only [Option.some.injEq] at hst
    rcases hr with ⟨hr,_⟩ | hr
    rotate_left
    · cases hr
    obtain ⟨x0,v0,e',es',b,o1,N,cap,hlk,hfo,hii,hptr⟩:=hr
    have:=look_plc k1 hlk hfo
    rw [hplc] at this
    cases this
    have hR:=RDs.of_data k2 hdata'
    have go:∀ pk,KillOK pk→((∀ y:IV,y.rooted r=true→pk y=true) ∨ old.all IV.isSc=true)→st2={ st3 with T:=killBy pk st3.T }→OpOut cx w F ρ fp X st a o .un st2:=by
      intro pk hpk hkeep hst2
      obtain ⟨C,ty,st4,fp2,g1,g2,g3,g4,g5,g6,g7⟩:=Rel.storeElem k1 hlk hfo hi hs hR (.inr trivial) hpk hkeep
      rw [hset] at g4
      cases g4
      have:=g6 (w.setRow b (splice C.toList (o1+i * e+j) (a.eval x').cells.toList).toArray) (setRow_heap w _ C _ ty _ g1) (fun k hk=>setRow_other w _ k _ hk) (by simp)
      rw [← hst2] at this
      exact fin b _ C ty fp2 hptr g1 g2 g3 this g7 (by rw [hst2];exact ⟨g5.M,g5.loc⟩)
    by_cases hsc:(old.all IV.isSc && cs.all IV.isSc)=true
    · rw [if_pos hsc] at hst
      refine go (fun _=>false) .none (.inr (by simp only [Bool.and_eq_true] at hsc;exact hsc.1)) ?_
      rw [killBy_eta,hst]
    · rw [if_neg hsc] at hst
      exact go (IV.rooted r) (.rooted _) (.inl fun _ h=>h) hst.symm
  · cases hst
end
end Go.Idl
namespace Go.Idl
open Go
def fieldsInt (P:Program):List Field→Nat→Prop
  | [],_=>True
  | f::fs,i=>f.name ≠ "_"∧f.offset=i∧(∃ k,P.underlying f.type=some (.int k))∧fieldsInt P fs (i+1)
def eqVals:List Value→List Value→Option Bool
  | [],[]=>some true
  | .int k a::xs,.int k' b::ys=>if k=k' then match eqVals xs ys with
      | some r=>some (a == b && r)
      | none=>none
    else none
  | _,_=>none
theorem run_eqFields {P:Program} {w:World} {d:Nat}:∀ {fs:List Field} {i:Nat} {C D:Array Value} {us vs:List Value} {b:Bool},fieldsInt P fs i→C.toList.drop i=us→D.toList.drop i=vs→us.length=fs.length→eqVals us vs=some b →
    (Op.eqFields (d+1) C D fs).run P w=.ok b w
  | [],i,C,D,us,vs,b,_,_,_,hl,he=>by
    have:us=[]:=List.length_eq_zero_iff.1 (by simpa using hl)
    subst this
    cases vs with
    | nil=>simp [eqVals] at he;subst he;rfl
    | cons v vs=>simp [eqVals] at he
  | f::fs,i,C,D,us,vs,b,hf,hC,hD,hl,he=>by
    obtain ⟨h1,h2,⟨k,h3⟩,h4⟩:=hf
    cases us with
    | nil=>simp at hl
    | cons u us =>
    cases vs with
    | nil=>cases u <;> simp [eqVals] at he
    | cons v vs =>
    cases u <;> cases v <;> simp only [eqVals] at he <;> try cases he
    rename_i k1 a k2 b2
    split at he
    rotate_left
    · cases he
    rename_i hk
    subst hk
    cases hr:eqVals us vs with
    | none=>simp [hr] at he
    | some r =>
      simp only [hr,Option.some.injEq] at he
      have e1:C[i]? = some (.int k1 a):=by
        have:(C.toList.drop i)[0]? = some (.int k1 a):=by rw [hC];rfl
        rw [List.getElem?_drop] at this;simpa using this
      have e2:D[i]? = some (.int k1 b2):=by
        have:(D.toList.drop i)[0]? = some (.int k1 b2):=by rw [hD];rfl
        rw [List.getElem?_drop] at this;simpa using this
      have p1:∀ (A:Array Value) v,A[i]? = some v→(part f.type A f.offset).run P w=.ok v w:=by
        intro A v hA
        rw [h2]
        simp only [part,Sem.run_bind,run_isAgg (show aggIs P f.type false from ⟨_,h3,rfl⟩),Result.andThen_ok,Bool.false_eq_true,if_false,hA,Sem.run_pure]
      have ih:=run_eqFields (w:=w) (d:=d) (i:=i+1) (C:=C) (D:=D) (us:=us) (vs:=vs) h4 (by rw [← List.tail_drop,hC];rfl) (by rw [← List.tail_drop,hD];rfl) (by simpa using hl) hr
      simp only [Op.eqFields,h1,ne_eq,not_false_eq_true,if_true,Sem.run_bind,p1 C _ e1,p1 D _ e2,Result.andThen_ok,run_equalIn_int w d f.type k1 k a b2 h3]
      by_cases hab:(a == b2)=true
      · simp only [hab,Bool.not_true,Bool.false_eq_true,if_false]
        rw [ih];simp [hab] at he;rw [he]
      · simp only [hab,Bool.not_false,if_true,Sem.run_pure]
        simp [hab] at he;rw [← he]
section
variable {cx:Cx} {w w':World} {F F':Nat→Prop} {ρ ρ':Rho} {fp fp':Fp} {X f f' fy:List Nat} {st st':St} {a:Act} {o:Oper} {tm:Nat→Value} {v:IV}
theorem eqCells_vals {lk xs us fq ys vs fr b} (h:Cat (RC cx w F ρ st lk) xs us fq) (h':Cat (RC cx w F ρ st lk) ys vs fr) (he:eqCells xs ys=some b):eqVals us vs=some b:=by
  induction h generalizing ys vs fr b with
  | nil =>
    cases h' with
    | nil=>simp [eqCells] at he;subst he;rfl
    | cons _ _=>simp [eqCells] at he
  | @cons x v f xs us fq hx t ih =>
    cases h' with
    | nil=>cases x <;> simp [eqCells] at he
    | @cons y u g ys vs fr hy t' =>
      have hform:∃ k n k' n',x=.sc (.int k n)∧y=.sc (.int k' n'):=by
        unfold eqCells at he
        split at he
        · rename_i h1 _;cases h1
        · rename_i h1 h2;cases h1;cases h2;exact ⟨_,_,_,_,rfl,rfl⟩
        · cases he
      obtain ⟨k,n,k',n',rfl,rfl⟩:=hform
      simp only [eqCells] at he
      obtain ⟨rfl,-,-⟩:=rslot_sc (rc_rslot hx)
      obtain ⟨rfl,-,-⟩:=rslot_sc (rc_rslot hy)
      simp only [eqVals]
      split at he
      · rename_i hk
        rw [if_pos hk]
        cases hr:eqCells xs ys with
        | none=>simp [hr] at he
        | some r=>rw [ih t' hr];simpa [hr] using he
      · cases he
def eqaIs (P:Program) (t:TypeId) (n:Nat):Prop:=∃ fs:Array Field,P.underlying t=some (.struct fs)∧fieldsInt P fs.toList 0∧fs.size=n∧P.stoodInHeld t=false∧P.eqGuardType P.depth t=false
theorem run_eqa {P:Program} {t:TypeId} {n:Nat} (ht:eqaIs P t n) {C D:Array Value} (hl:C.size=n) {b:Bool} (he:eqVals C.toList D.toList=some b) (w:World):(Op.equal t (.agg C) (.agg D)).run P w=.ok b w:=by
  obtain ⟨fs,h1,h2,h3,h4,h5⟩:=ht
  have hf:P.fieldsOf t=fs:=by simp [Program.fieldsOf,h1]
  unfold Op.equal
  rw [show Op.maxDepth=9998+1+1 from rfl,run_equalIn_struct w (9998+1) t C D (by rw [hf];exact h1) h4,hf]
  exact run_eqFields h2 (by simp) (by simp) (by simp [hl,h3]) he
theorem out_eqa (h:Rel cx w F ρ fp X st (regs a)) {x y:Opd} {x' y':Operand} {t yt} {neg:Bool} {n:Nat} (hx:okOpd cx x' x) (hy:okOpd cx y' y) (ho:o.op=.binOp (if neg then .neq else .eql) t x' y' yt)
    (ht:eqaIs cx.P t n) {cf} (hev:ev cf st (.eqa neg n x y)=some (v,st')):OpQ cx w F ρ fp X st a o v st':=by
  have h1:=rd_rel h hx
  have h2:=rd_rel h hy
  simp only [ev] at hev
  split at hev
  rotate_left
  · cases hev
  rename_i xs ys hxs hys
  rw [hxs] at h1;rw [hys] at h2
  split at hev
  rotate_left
  · cases hev
  rename_i hlen
  split at hev
  rotate_left
  · cases hev
  rename_i b hb
  simp only [Option.some.injEq,Prod.mk.injEq] at hev
  obtain ⟨rfl,rfl⟩:=hev
  obtain ⟨C,hC,c1⟩:=h1
  obtain ⟨D,hD,c2⟩:=h2
  have hv:=eqCells_vals c1 c2 hb
  have hCs:C.size=n:=by have:=c1.len;rw [hlen] at this;simpa using this.symm
  have hrun:=fun w'=>run_eqa ht hCs hv w'
  refine OpQ.pure h (v':=.bool (if neg then !b else b)) ?_ (sc_rslot rfl)
  have hb1:binOp .eql t (.agg C) (.agg D)=(do let r ← Op.equal t (.agg C) (.agg D);pure (.bool r)):=rfl
  have hb2:binOp .neq t (.agg C) (.agg D)=(do let r ← Op.equal t (.agg C) (.agg D);pure (.bool (!r))):=rfl
  obtain ⟨fs,_,_,_,_,h5⟩:=ht
  cases neg
  · intro w' _
    simp only [execOp,ho,hC,hD,Bool.false_eq_true,if_false,Sem.run_bind,run_eqGuard_agg w' .eql t x' y' C D h5,Result.andThen_ok,hb1,hrun,Sem.run_pure]
  · intro w' _
    simp only [execOp,ho,hC,hD,if_true,Sem.run_bind,run_eqGuard_agg w' .neq t x' y' C D h5,Result.andThen_ok,hb2,hrun,Sem.run_pure]
end
end Go.Idl
namespace Go.Idl
open Go
section
variable {P:Program} {w:World}
def cellsAt (w:World) (A:Option Addr) (n:Nat) (news:List Value):Prop:=0 < n→∃ ad,A=some ad∧∀ j v,news[j]? = some v→w.cell? (ad.add j)=some v
theorem run_first {size n c:Nat} {A:Option Addr} {news:List Value} (hl:news.length=n * size) (h:cellsAt w A n news):(Builtin.firstCells size n (.slice A n c)).run P w=.ok news.toArray w:=by
  cases A with
  | none =>
    have:n=0:=by
      rcases Nat.eq_zero_or_pos n with h0 | h0
      · exact h0
      · obtain ⟨ad,h1,_⟩:=h h0;cases h1
    subst this
    have:news=[]:=List.length_eq_zero_iff.1 (by simpa using hl)
    subst this
    exact run_firstCells_none w size 0 0 c
  | some ad =>
    rcases Nat.eq_zero_or_pos n with h0 | h0
    · subst h0
      have:news=[]:=List.length_eq_zero_iff.1 (by simpa using hl)
      subst this
      exact run_firstCells_some w size 0 ad 0 c [] (by simp) (by simp)
    · obtain ⟨ad',h1,h2⟩:=h h0
      cases h1
      exact run_firstCells_some w size n ad n c news hl h2
theorem cellsAt_heap {w':World} {A n news} (h:cellsAt w A n news) (hh:w'.heap=w.heap):cellsAt w' A n news:=fun h0=>by
  obtain ⟨ad,h1,h2⟩:=h h0
  exact ⟨ad,h1,fun j v hv=>by rw [← h2 j v hv];simp [World.cell?,hh]⟩
structure AppT (P:Program) (t t' e:TypeId) (i:TypeInfo) (z:Value):Prop where
  ht:P.underlying t=some (.slice e)
  ht':∃ e2,P.underlying t'=some (.slice e2)
  hi:P.info? e=some i
  hz:i.zero=some z
  hb:i.bytes≤256
  hzs:z.cells.size=i.size
variable {t t' e ty:TypeId} {i:TypeInfo} {z:Value}
theorem run_app_none (hT:AppT P t t' e i z) {base A:Option Addr} {sLen sCap c:Nat} (hn:sLen≤sCap):(Builtin.append_ #[t,t'] ty #[.slice base sLen sCap,.slice A 0 c]).run P w=.ok (.slice base sLen sCap) w:=by
  obtain ⟨e2,ht'⟩:=hT.ht'
  have hf:(Builtin.firstCells i.size 0 (.slice A 0 c)).run P w=.ok #[] w:=run_first (news:=[]) (by simp) (fun h=>absurd h (Nat.lt_irrefl 0))
  cases base <;> simp [Builtin.append_,run_underlying hT.ht,run_underlying ht',sizeOf,typeInfo,hT.hi,Builtin.lenOf,hn,hf,storeCells]
theorem run_app_room (hT:AppT P t t' e i z) {A:Option Addr} {b o sLen sCap n c:Nat} {C:Array Value} {ty2:TypeId} (hC:w.heap[b]? = some (.cells C ty2 (0,0))) {news:List Value} (hl:news.length=n * i.size) (hnews:cellsAt w A n news)
    (h1:∀ u ∈ news,u.oneCell'=true) (hroom:sLen+n≤sCap) (hfit:o+sLen * i.size+news.length≤C.size) :
    (Builtin.append_ #[t,t'] ty #[.slice (some ⟨b,o,none⟩) sLen sCap,.slice A n c]).run P w=.ok (.slice (some ⟨b,o,none⟩) (sLen+n) sCap) (w.setRow b (splice C.toList (o+sLen * i.size) news).toArray):=by
  obtain ⟨e2,ht'⟩:=hT.ht'
  have hf:=run_first (P:=P) (w:=w) (c:=c) hl hnews
  have hst:=run_storeCells_at P b (o+sLen * i.size) ty2 news 0 C w hC (by omega) h1
  simp only [Nat.add_zero] at hst
  simp [Builtin.append_,run_underlying hT.ht,run_underlying ht',sizeOf,typeInfo,hT.hi,Builtin.lenOf,hroom,hf,Addr.add_lit,hst,splice]
theorem run_app_grow (hT:AppT P t t' e i z) {base A:Option Addr} {sLen sCap n c:Nat} {olds news:List Value} (hlo:olds.length=sLen * i.size) (hols:cellsAt w base sLen olds) (hl:news.length=n * i.size) (hnews:cellsAt w A n news)
    (hg:sCap < sLen+n) (hlim:sLen+n≤lim) :
    ∃ w' cap,(Builtin.append_ #[t,t'] ty #[.slice base sLen sCap,.slice A n c]).run P w=.ok (.slice (some ⟨w.heap.size,0,none⟩) (sLen+n) cap) w' ∧
      w'.heap=w.heap.push (.cells (olds.toArray++news.toArray++Builtin.zeroCells z.cells (cap - (sLen+n))) e (0,0))∧sLen+n≤cap∧Env w w':=by
  obtain ⟨e2,ht'⟩:=hT.ht'
  unfold lim at hlim
  have hn:¬ (sLen+n≤sCap):=by omega
  have h63':¬ (9223372036854775807 < ((sLen:Int)+(n:Int))):=by omega
  have hcapb:Builtin.nextslicecap (sLen+n) sCap * i.bytes≤281474976710656:=by
    have h1:Builtin.nextslicecap (sLen+n) sCap * i.bytes≤2 * (sLen+n) * 256:=Nat.mul_le_mul (nextslicecap_le hg) hT.hb
    omega
  have h48':¬ (281474976710656 < Builtin.nextslicecap (sLen+n) sCap * i.bytes):=by omega
  have hf:=run_first (P:=P) (w:=w.drew) (c:=c) hl (cellsAt_heap hnews rfl)
  have hfo:=run_first (P:=P) (w:=w.drew) (c:=sCap) hlo (cellsAt_heap hols rfl)
  refine ⟨w.drew.alloc (.cells (olds.toArray++news.toArray++Builtin.zeroCells z.cells (grownCap w (sLen+n) sCap e - (sLen+n))) e),grownCap w (sLen+n) sCap e,?_,rfl,grownCap_ge _ _ _ _,⟨rfl,rfl,rfl⟩⟩
  simp [Builtin.append_,run_underlying hT.ht,run_underlying ht',sizeOf,typeInfo,zeroValue,hT.hi,hT.hz,Builtin.lenOf,hn,h63',h48',Question.forced,hf,hfo,newRow,grownCap]
  congr 2
  apply Array.ext'
  simp [List.append_assoc]
end
end Go.Idl
namespace Go.Idl
open Go
theorem splice_take {α:Type} {C us:List α} {o L:Nat} (h:o+L+us.length≤C.length):((splice C (o+L) us).drop o).take (L+us.length)=(C.drop o).take L++us:=by
  apply List.ext_getElem?
  intro q
  by_cases h1:q < L
  · rw [List.getElem?_take_of_lt (by omega),List.getElem?_drop,splice_out (by omega) (by omega),List.getElem?_append_left (by simp;omega),List.getElem?_take_of_lt h1,List.getElem?_drop]
  · by_cases h2:q < L+us.length
    · rw [List.getElem?_take_of_lt h2,List.getElem?_drop,List.getElem?_append_right (by simp;omega)]
      unfold splice
      rw [List.append_assoc,List.getElem?_append_right (by rw [List.length_take];omega),List.getElem?_append_left (by rw [List.length_take];omega)]
      congr 1;simp;omega
    · rw [List.getElem?_eq_none (by rw [List.length_take];omega),List.getElem?_eq_none (by simp;omega)]
section
variable {cx:Cx} {w w':World} {F F':Nat→Prop} {ρ ρ':Rho} {fp fp':Fp} {X f f' f1 f2 fp1:List Nat} {st st':St} {a:Act} {o:Oper} {tm:Nat→Value} {v:IV}
variable {t t' e ty:TypeId} {i:TypeInfo} {z:Value} {esz:Nat} {es ys:List (List IV)} {A base:Option Addr} {sLen sCap c:Nat} {news olds:List Value}
def AppOut (cx:Cx) (w:World) (F:Nat→Prop) (ρ:Rho) (fp:Fp) (X Y:List Nat) (st:St) (tm:Nat→Value) (r:Result Value) (esz:Nat) (es:List (List IV)):Prop :=
  ∃ w' v' f',r=.ok v' w'∧Rel cx w' F ρ fp (f'++X) st tm∧RDs w' F [.own esz es] [v'] f'∧(∀ ex,Ext w F ρ fp (Y++X) ex w' F ρ fp (f'++X))
theorem app_len (he:∀ x ∈ es,x.length=esz) (hy:∀ y ∈ ys,y.length=esz):∀ x ∈ es++ys,x.length=esz:=by
  intro x hx
  rcases List.mem_append.1 hx with h | h
  · exact he x h
  · exact hy x h
theorem app_grow (hT:AppT cx.P t t' e i z) (h:Rel cx w F ρ fp ((fp1++f2)++X) st tm) (hsz:i.size=esz) (ho:RDs w F es.flatten olds fp1) (he:∀ x ∈ es,x.length=esz) (hols:cellsAt w base es.length olds)
    (hy:RDs w F ys.flatten news f2) (hyl:∀ y ∈ ys,y.length=esz) (hnews:cellsAt w A ys.length news) (hg:sCap < es.length+ys.length) (hlim:es.length+ys.length≤lim) :
    AppOut cx w F ρ fp X (fp1++f2) st tm ((Builtin.append_ #[t,t'] ty #[.slice base es.length sCap,.slice A ys.length c]).run cx.P w) esz (es++ys):=by
  subst hsz
  have hlo:olds.length=es.length * i.size:=by rw [← ho.len,flatten_len he]
  have hln:news.length=ys.length * i.size:=by rw [← hy.len,flatten_len hyl]
  obtain ⟨w',cap,hrun,hw,hcap,henv⟩:=run_app_grow (ty:=ty) (c:=c) hT hlo hols hln hnews hg hlim
  have hl:(es++ys).length=es.length+ys.length:=by simp
  obtain ⟨f',g1,g2,g3,g4,g5⟩:=Rel.newOwn (w':=w') (e:=i.size) (es:=es++ys) (cap:=cap) h (by
      have:(olds.toArray++news.toArray++Builtin.zeroCells z.cells (cap - (es.length+ys.length))).toList.take ((es++ys).length * i.size)=olds++news:=by
        rw [hl,Nat.add_mul,← hlo,← hln,← List.length_append]
        simp only [Array.toList_append,List.take_left]
      rw [this,List.flatten_append]
      exact ho.append hy) (app_len he hyl) (by rw [hl];exact hcap) (by
      simp only [Array.size_append,List.size_toArray,size_zeroCells,hlo,hln,hT.hzs]
      rw [← Nat.add_mul,← Nat.add_mul]
      exact Nat.mul_le_mul_right _ (by omega)) hw henv
  rw [hl] at g2
  exact ⟨w',_,f',hrun,g1,g2,g4⟩
theorem app_own (hT:AppT cx.P t t' e i z) (h:Rel cx w F ρ fp ((f1++f2)++X) st tm) (hsz:i.size=esz) (hs:RDs w F [.own esz es] [.slice base sLen sCap] f1)
    (hy:RDs w F ys.flatten news f2) (hyl:∀ y ∈ ys,y.length=esz) (hnews:cellsAt w A ys.length news) (h1:∀ u ∈ news,u.oneCell'=true) (hlim:es.length+ys.length≤lim) :
    AppOut cx w F ρ fp X (f1++f2) st tm ((Builtin.append_ #[t,t'] ty #[.slice base sLen sCap,.slice A ys.length c]).run cx.P w) esz (es++ys):=by
  have same:ys=[]→sLen≤sCap→AppOut cx w F ρ fp X (f1++f2) st tm ((Builtin.append_ #[t,t'] ty #[.slice base sLen sCap,.slice A ys.length c]).run cx.P w) esz (es++ys):=by
    intro h0 hle
    subst h0
    have hf2:f2=[]:=by
      simp only [List.flatten_nil] at hy
      cases hy;rfl
    subst hf2
    rw [List.append_nil] at h
    rw [List.append_nil,List.append_nil]
    exact ⟨w,_,f1,run_app_none hT hle,h,hs,fun ex=>Ext.refl _ _ _ _ _ _⟩
  rcases hs.own_inv with ⟨rfl,rfl,A0,h8⟩ | ⟨b,o,cap,C,ty2,fp1,h8,rfl,hb,hd,he,hn,hoc⟩
  · simp only [Value.slice.injEq] at h8
    obtain ⟨rfl,rfl,rfl⟩:=h8
    cases ys with
    | nil=>exact same rfl (Nat.le_refl _)
    | cons y ys =>
      have:=app_grow (ty:=ty) (c:=c) (sCap:=0) (base:=base) (es:=[]) (fp1:=[]) (olds:=[]) hT h hsz .nil (by simp) (fun h0=>absurd h0 (Nat.lt_irrefl 0)) hy hyl hnews (by simp) (by simpa using hlim)
      simpa using this
  · simp only [Value.slice.injEq] at h8
    obtain ⟨rfl,rfl,rfl⟩:=h8
    subst hsz
    have hln:news.length=ys.length * i.size:=by rw [← hy.len,flatten_len hyl]
    have hX:=List.nodup_append.1 h.xnodup
    have hff:=List.nodup_append.1 hX.1
    have hbf:=(List.nodup_cons.1 hff.1).1
    by_cases hroom:es.length+ys.length≤sCap
    · cases hys:ys with
      | nil=>rw [← hys];exact same hys hn.1
      | cons y0 ys0 =>
      rw [← hys]
      have hcl:C.toList.length=C.size:=Array.length_toList
      have hfit:o+es.length * i.size+news.length≤C.size:=by
        have:(es.length+ys.length) * i.size≤sCap * i.size:=Nat.mul_le_mul_right _ hroom
        rw [Nat.add_mul] at this
        omega
      have hrun:=run_app_room (P:=cx.P) (w:=w) (ty:=ty) (c:=c) hT hb hln hnews h1 hroom hfit
      have hw1:=setRow_heap w b C (splice C.toList (o+es.length * i.size) news).toArray ty2 (0,0) hb
      have hw2:=fun k (hk:k ≠ b)=>setRow_other w b k (splice C.toList (o+es.length * i.size) news).toArray hk
      have hbF:¬ F b:=h.xF b (by simp)
      obtain ⟨r1,tr⟩:=h.grow (w':=w.setRow b (splice C.toList (o+es.length * i.size) news).toArray) (fun k _ hk=>hw2 k (fun hc=>hk (by simp [hc]))) (by simp) (Y:=[]) .nil (by simp)
      refine ⟨_,_,(b::fp1)++f2,hrun,by simpa using r1,?_,fun ex=>⟨by simp,fun k _ _ hk=>hw2 k (fun hc=>hk (by simp [hc])),fun r k hk=>.inl ⟨r,hk⟩,fun k hk=>.inr (.inl hk),fun _ h=>h,fun _ h=>.inl h,fun _ _ _=>rfl,⟨rfl,rfl,rfl⟩⟩⟩
      have hl:(es++ys).length=es.length+ys.length:=by simp
      have hfr:RDs (w.setRow b (splice C.toList (o+es.length * i.size) news).toArray) F (es++ys).flatten (((splice C.toList (o+es.length * i.size) news).drop o).take ((es++ys).length * i.size)) (fp1++f2):=by
        rw [hl,Nat.add_mul,← hln,splice_take (by omega),List.flatten_append]
        refine (hd.append hy).frame (fun k hk=>hw2 k (fun hc=>?_)) (fun k hk=>hw2 k (fun hc=>hbF (hc ▸ hk))) (fun _ h=>h)
        subst hc
        rcases List.mem_append.1 hk with hk | hk
        · exact hbf hk
        · exact hff.2.2 k (by simp) k hk rfl
      have:=RDs.own (w:=w.setRow b (splice C.toList (o+es.length * i.size) news).toArray) (F:=F) (e:=i.size) (es:=es++ys) (xs:=[]) (vs:=[]) (fp:=[]) (cap:=sCap) (o:=o) hw1 (fp1:=fp1++f2) (by simpa using hfr)
        (app_len he hyl) (by rw [hl];exact ⟨hroom,hn.2⟩) (by
          have:(splice C.toList (o+es.length * i.size) news).length=C.toList.length:=splice_len (by omega)
          simp only [List.size_toArray];omega) .nil
      rw [hl] at this
      simpa using this
    · have hcols:cellsAt w (some ⟨b,o,none⟩) es.length ((C.toList.drop o).take (es.length * i.size)):=fun _=>⟨_,rfl,fun j v hv=>by
        have hj:j < es.length * i.size:=by
          rcases Nat.lt_or_ge j (es.length * i.size) with hh | hh
          · exact hh
          · rw [List.getElem?_eq_none (by rw [List.length_take];omega)] at hv;cases hv
        rw [drop_take_get hj] at hv
        rw [addr_add,cell_of hb,hv]⟩
      have h':Rel cx w F ρ fp ((fp1++f2)++X) st tm:=h.less (by simp)
      obtain ⟨w',v',f',g1,g2,g3,g4⟩:=app_grow (ty:=ty) (c:=c) (sCap:=sCap) hT h' rfl hd he hcols hy hyl hnews (by omega) hlim
      refine ⟨w',v',f',g1,g2,g3,fun ex=>?_⟩
      have g5:=g4 ex
      refine ⟨g5.size,fun k hk hr hx=>g5.keep k hk hr (fun hc=>hx (by simp at hc ⊢;exact .inr hc)),fun r k hk=>?_,fun k hk=>?_,g5.Fm,fun k hk=>?_,g5.rho,g5.env⟩
      · rcases g5.fpn r k hk with h5 | h5 | h5
        · exact .inl h5
        · exact .inr (.inl (by simp at h5 ⊢;exact .inr h5))
        · exact .inr (.inr h5)
      · rcases g5.xn k hk with h5 | h5 | h5
        · exact .inl h5
        · exact .inr (.inl (by simp at h5 ⊢;exact .inr h5))
        · exact .inr (.inr h5)
      · rcases g5.Fn k hk with h5 | h5 | h5 | h5
        · exact .inl h5
        · exact .inr (.inl h5)
        · exact .inr (.inr (.inl (by simp at h5 ⊢;exact .inr h5)))
        · exact .inr (.inr (.inr h5))
theorem app_clip (hT:AppT cx.P t t' e i z) (h:Rel cx w F ρ fp (f2++X) st tm) (hsz:i.size=esz) {e0:Nat} (hs:RDs w F [.lst e0 es true] [.slice base sLen sCap] []) (hes:e0=esz ∨ es=[]) (hne:es=[] ∨ ys ≠ [])
    (hy:RDs w F ys.flatten news f2) (hyl:∀ y ∈ ys,y.length=esz) (hnews:cellsAt w A ys.length news) (h1:∀ u ∈ news,u.oneCell'=true) (hlim:es.length+ys.length≤lim) :
    AppOut cx w F ρ fp X f2 st tm ((Builtin.append_ #[t,t'] ty #[.slice base sLen sCap,.slice A ys.length c]).run cx.P w) esz (es++ys):=by
  rcases hs.lst_inv.2 with ⟨rfl,A0,cap,h8,hc⟩ | ⟨b,o,cap,C,ty2,fr,h8,hF,hb,hd,he,hc,hn⟩
  · simp only [Value.slice.injEq] at h8
    obtain ⟨rfl,rfl,rfl⟩:=h8
    have:=hc rfl
    subst this
    have:=app_own (ty:=ty) (c:=c) (base:=base) (f1:=[]) hT h hsz (.own0 .nil) hy hyl hnews h1 hlim
    simpa using this
  · simp only [Value.slice.injEq] at h8
    obtain ⟨rfl,rfl,rfl⟩:=h8
    by_cases hes0:es=[]
    · subst hes0
      have:=hc rfl
      simp only [List.length_nil] at this
      subst this
      have:=app_own (ty:=ty) (c:=c) (base:=some ⟨b,o,none⟩) (f1:=[]) (es:=[]) hT h hsz (.own0 .nil) hy hyl hnews h1 hlim
      simpa using this
    · have he0:e0=esz:=hes.resolve_right hes0
      subst he0
      have hcols:cellsAt w (some ⟨b,o,none⟩) es.length ((C.toList.drop o).take (es.length * e0)):=fun _=>⟨_,rfl,fun j v hv=>by
        have hj:j < es.length * e0:=by
          rcases Nat.lt_or_ge j (es.length * e0) with hh | hh
          · exact hh
          · rw [List.getElem?_eq_none (by rw [List.length_take];omega)] at hv;cases hv
        rw [drop_take_get hj] at hv
        rw [addr_add,cell_of hb,hv]⟩
      have hyn:0 < ys.length:=by
        rcases hne with h5 | h5
        · exact absurd h5 hes0
        · exact List.length_pos_iff.2 h5
      have hcc:=hc rfl
      have:=app_grow (ty:=ty) (c:=c) (sCap:=sCap) (fp1:=[]) hT h hsz hd he hcols hy hyl hnews (by omega) hlim
      simpa using this
end
end Go.Idl
namespace Go.Idl
open Go
section
variable {cx:Cx} {w w':World} {F F':Nat→Prop} {ρ ρ':Rho} {fp fp':Fp} {X f f' f1 f2 fp1:List Nat} {st st':St} {a:Act} {o:Oper} {tm:Nat→Value} {v:IV}
theorem RDs.plain {xs vs fq} (h:RDs w F xs vs fq) (hp:xs.all IV.plain1=true):fq=[]:=by
  induction h with
  | nil=>rfl
  | sc h t ih=>exact ih (by simpa [IV.plain1] using hp)
  | un t ih=>simp [IV.plain1] at hp
  | lst0 h t ih=>exact ih (by simpa [IV.plain1] using hp)
  | lst hF1 hb hd he hc hn t _ iht=>exact iht (by simpa [IV.plain1] using hp)
  | own0 t ih=>simp [IV.plain1] at hp
  | own hb hd he hn ho t _ iht=>simp [IV.plain1] at hp
theorem RDs.oneCells {xs vs fq} (h:RDs w F xs vs fq) (hp:∀ x ∈ xs,x ≠ .un):∀ v ∈ vs,v.oneCell'=true:=by
  induction h with
  | nil=>simp
  | @sc v xs vs fp h t ih =>
    intro u hu
    rcases List.mem_cons.1 hu with rfl | hu
    · rcases isSc_cases h with ⟨_,_,rfl⟩ | ⟨_,rfl⟩ | ⟨_,rfl⟩ | rfl <;> rfl
    · exact ih (fun x hx=>hp x (by simp [hx])) u hu
  | un t ih=>exact absurd rfl (hp .un (by simp))
  | lst0 h t ih =>
    intro u hu
    rcases List.mem_cons.1 hu with rfl | hu
    · rfl
    · exact ih (fun x hx=>hp x (by simp [hx])) u hu
  | lst hF1 hb hd he hc hn t _ iht =>
    intro u hu
    rcases List.mem_cons.1 hu with rfl | hu
    · rfl
    · exact iht (fun x hx=>hp x (by simp [hx])) u hu
  | own0 t ih =>
    intro u hu
    rcases List.mem_cons.1 hu with rfl | hu
    · rfl
    · exact ih (fun x hx=>hp x (by simp [hx])) u hu
  | own hb hd he hn ho t _ iht =>
    intro u hu
    rcases List.mem_cons.1 hu with rfl | hu
    · rfl
    · exact iht (fun x hx=>hp x (by simp [hx])) u hu
theorem all_flatten {p:IV→Bool} {es:List (List IV)} (h:es.all (·.all p)=true):es.flatten.all p=true:=by
  simp only [List.all_eq_true] at h ⊢
  intro x hx
  obtain ⟨l,h1,h2⟩:=List.mem_flatten.1 hx
  exact h l h1 x h2
theorem cellsAt_row {b o n:Nat} {C:Array Value} {ty fr} (hb:w.heap[b]? = some (.cells C ty fr)) (m:Nat):cellsAt w (some ⟨b,o,none⟩) m ((C.toList.drop o).take n):=fun _=>⟨_,rfl,fun j v hv=>by
  have hj:j < n:=by
    rcases Nat.lt_or_ge j n with hh | hh
    · exact hh
    · rw [List.getElem?_eq_none (by rw [List.length_take];omega)] at hv;cases hv
  rw [drop_take_get hj] at hv
  rw [addr_add,cell_of hb,hv]⟩
theorem sview_rel (h:Rel cx w F ρ fp X st tm) {x:IV} {v:Value} (hx:RSlot cx w F ρ st (look st tm ρ w) x v []) {e:Nat} {es:List (List IV)} (hs:st.sview x=some (e,es)) :
    ∃ A c news g,v=.slice A es.length c∧RDs w F es.flatten news g∧(∀ y ∈ es,y.length=e)∧cellsAt w A es.length news:=by
  unfold St.sview at hs
  split at hs
  · rename_i e0 es0 c0
    simp only [Option.some.injEq,Prod.mk.injEq] at hs
    obtain ⟨rfl,rfl⟩:=hs
    rcases hx with ⟨hx,_⟩ | hx
    · exact hx.elim
    rcases hx.lst_inv.2 with ⟨rfl,A0,cap,h8,hc⟩ | ⟨b,o,cap,C,ty2,fr,h8,hF,hb,hd,he,hc,hn⟩
    · exact ⟨A0,cap,[],[],h8,.nil,by simp,fun h=>absurd h (Nat.lt_irrefl 0)⟩
    · exact ⟨_,cap,_,[],h8,hd,he,cellsAt_row hb _⟩
  · rename_i r c p e0 off n clip
    split at hs
    rotate_left
    · cases hs
    rename_i e1 es1 hp
    split at hs
    rotate_left
    · cases hs
    rename_i hoff
    simp only [Option.some.injEq,Prod.mk.injEq] at hs
    obtain ⟨rfl,rfl⟩:=hs
    rcases hx with ⟨hx,_⟩ | hx
    rotate_left
    · cases hx
    obtain ⟨x0,v0,es2,A,N,cap,A',cap',k1,k2,k3,k4,k5,k6,k7,k8⟩:=hx
    have hp':=look_plc h k1 k2
    rw [hp] at hp'
    cases hp'
    have hl:((es1.drop off).take n).length=n:=by rw [List.length_take,List.length_drop];omega
    obtain ⟨f0,g1,g2,g3⟩:=h.data (e:=((folR_own k2).choose)) (es:=(folR_own k2).choose_spec.choose) (by rw [k1];exact congrArg (fun z=>some (z,v0)) (folR_own k2).choose_spec.choose_spec) (folR_slice k2)
    have g3':RDs w F [x0] [v0] f0:=by rw [(folR_own k2).choose_spec.choose_spec];exact g3
    obtain ⟨u,a1,g,a2,hfu,_,hRn,_⟩:=g3'.fol (folR_fol k2)
    rw [k2] at hfu
    simp only [Option.some.injEq,Prod.mk.injEq,true_and] at hfu
    subst hfu
    rcases hRn.own_inv with ⟨rfl,_,A0,h8⟩ | ⟨b,o,cap1,C,ty2,fp1,h8,_,hb,hd,he,hnn,hoc⟩
    · refine ⟨A',cap',[],[],by rw [hl];exact k4,by simp;exact .nil,by simp,fun h0=>?_⟩
      simp at h0
    · simp only [Value.slice.injEq] at h8
      obtain ⟨rfl,rfl,rfl⟩:=h8
      obtain ⟨q1,q2,q3,_,hq⟩:=hd.subs he hoff
      refine ⟨A',cap',_,q2,by rw [hl];exact k4,hq,fun y hy=>he y (List.mem_of_mem_drop (List.mem_of_mem_take hy)),fun h0=>?_⟩
      rw [hl] at h0
      obtain ⟨b',o',e1',e2'⟩:=k8.1 (by omega)
      simp only [Option.some.injEq,Addr.mk.injEq,and_true] at e1'
      obtain ⟨rfl,rfl⟩:=e1'
      refine ⟨_,e2',fun j v hv=>?_⟩
      have hj:j < n * e0:=by
        rcases Nat.lt_or_ge j (n * e0) with hh | hh
        · exact hh
        · rw [List.getElem?_eq_none (by rw [List.length_take];omega)] at hv;cases hv
      rw [List.getElem?_take_of_lt hj,List.getElem?_drop] at hv
      have hj2:off * e0+j < es1.length * e0:=by
        have:(off+n) * e0≤es1.length * e0:=Nat.mul_le_mul_right _ hoff
        rw [Nat.add_mul] at this;omega
      rw [drop_take_get hj2] at hv
      rw [addr_add,cell_of hb,← hv,Nat.add_assoc]
  · cases hs
theorem news_rel (h:Rel cx w F ρ fp X st (regs a)) {y:Opd} {y':Operand} (hy:okOpd cx y' y) {esz:Nat} {ys:List (List IV)} (hn:st.news esz y=some (ys,st')) :
    ∃ A c news f2 fp1,a.eval y'=.slice A ys.length c∧Rel cx w F ρ fp1 (f2++X) st' (regs a)∧RDs w F ys.flatten news f2∧(∀ y ∈ ys,y.length=esz)∧cellsAt w A ys.length news∧(∀ u ∈ news,u.oneCell'=true) ∧
      (∀ b ∈ f2,∃ r,b ∈ fp r)∧(∀ r,∀ b ∈ fp1 r,b ∈ fp r)∧ShpLe st st':=by
  unfold St.news at hn
  split at hn
  · rename_i e es T hT
    split at hn
    rotate_left
    · cases hn
    rename_i hcond
    obtain ⟨rfl,hdata⟩:=hcond
    simp only [Option.some.injEq,Prod.mk.injEq] at hn
    obtain ⟨rfl,rfl⟩:=hn
    obtain ⟨fp',f,k1,k2,k3,k4⟩:=tk_rel h hy
    rw [hT] at k1 k2
    have hR:RDs w F [.own e es] [a.eval y'] f:=by
      rcases k2 with ⟨k2,_⟩ | k2
      · exact k2.elim
      · exact k2
    have hall:=all_flatten hdata
    rcases hR.own_inv with ⟨rfl,rfl,A0,h8⟩ | ⟨b,o,cap,C,ty2,fp1,h8,rfl,hb,hd,he,hn,hoc⟩
    · exact ⟨A0,0,[],[],fp',h8,k1,.nil,by simp,fun h=>absurd h (Nat.lt_irrefl 0),by simp,by simp,k4,⟨rfl,Nat.le_refl _⟩⟩
    · refine ⟨_,cap,_,fp1,fp',h8,k1.less (by simp),hd,he,cellsAt_row hb _,hd.oneCells (fun x hx hc=>?_),fun c hc=>k3 c (by simp [hc]),k4,⟨rfl,Nat.le_refl _⟩⟩
      have:=List.all_eq_true.1 hall x hx
      rw [hc] at this;simp [IV.isData] at this
  · split at hn
    rotate_left
    · cases hn
    rename_i e es hs
    split at hn
    rotate_left
    · cases hn
    rename_i hcond
    simp only [Option.some.injEq,Prod.mk.injEq] at hn
    obtain ⟨rfl,rfl⟩:=hn
    simp only [Bool.and_eq_true] at hcond
    obtain ⟨A,c,news,g,e1,e2,e3,e4⟩:=sview_rel h (rd_rel h hy) hs
    have hg:=e2.plain (all_flatten hcond.2)
    subst hg
    refine ⟨A,c,news,[],fp,e1,h,e2,fun z hz=>?_,e4,e2.oneCells (fun x hx hc=>?_),by simp,fun _ _ hb=>hb,.refl _⟩
    · have h1:=hcond.1
      simp only [Bool.or_eq_true,beq_iff_eq,List.isEmpty_iff] at h1
      rcases h1 with h1 | h1
      · rw [← h1];exact e3 z hz
      · rw [h1] at hz;cases hz
    · have:=List.all_eq_true.1 (all_flatten hcond.2) x hx
      rw [hc] at this;simp [IV.plain1] at this
theorem out_app (h:Rel cx w F ρ fp X st (regs a)) {x y:Opd} {x' y':Operand} {t t' e ty:TypeId} {i:TypeInfo} {z:Value} {esz:Nat} (hT:AppT cx.P t t' e i z) (hsz:i.size=esz) (hx:okOpd cx x' x) (hy:okOpd cx y' y)
    (ho:o.op=.call { callee:=.builtin .append,args:=#[x',y'],argTypes:=#[t,t'] }) {cf} (hev:ev cf st (.app esz x y)=some (v,st')):OpOut cx w F ρ fp X st a o v st':=by
  simp only [ev] at hev
  split at hev
  rotate_left
  · cases hev
  rename_i ys st1 hn
  split at hev
  rotate_left
  · cases hev
  rename_i v1 st2 happ
  simp only [Option.some.injEq,Prod.mk.injEq] at hev
  obtain ⟨rfl,rfl⟩:=hev
  obtain ⟨A,c,news,f2,fp1,e1,e2,e3,e4,e5,e6,e7,e8,e9⟩:=news_rel h hy hn
  have fin:∀ {es:List (List IV)} {st3:St} {fp3:Fp} {f3:List Nat},AppOut cx w F ρ fp3 X (f3++f2) st3 (regs a) ((Builtin.append_ #[t,t'] o.type #[a.eval x',.slice A ys.length c]).run cx.P w) esz es →
      (∀ b ∈ f3,∃ r,b ∈ fp r)→(∀ r,∀ b ∈ fp3 r,b ∈ fp r)→ShpLe st st3→OpOut cx w F ρ fp X st a o (.own esz es) st3:=by
    intro es st3 fp3 f3 ⟨w',v',f',g1,g2,g3,g4⟩ q1 q2 q3
    refine ⟨v',w',F,ρ,fp3,f',.inl ?_,g2,.inr g3,ext_pre q2 (fun b hb=>?_) (g4 (exB st)),q3⟩
    · simp only [execOp,ho,resolve,e1]
      simp [invoke,builtin,e1,g1]
    · rcases List.mem_append.1 hb with hb | hb
      · exact q1 b hb
      · exact e7 b hb
  obtain ⟨fp2,f,k1,k2,k3,k4⟩:=tk_rel e2 hx
  unfold St.append at happ
  split at happ
  · rename_i e0 es T hT2
    split at happ
    rotate_left
    · cases happ
    rename_i hcond
    simp only [Option.some.injEq,Prod.mk.injEq] at happ
    obtain ⟨rfl,rfl⟩:=happ
    rw [hT2] at k2
    have hR:RDs w F [.lst e0 es true] [a.eval x'] f:=by
      rcases k2 with ⟨k2,_⟩ | k2
      · exact k2.elim
      · exact k2
    have hf0:=hR.lst_inv.1
    subst hf0
    have hform:∃ base sLen sCap,a.eval x'=.slice base sLen sCap:=by
      rcases hR.lst_inv.2 with ⟨_,_,_,h8,_⟩ | ⟨_,_,_,_,_,_,h8,_⟩ <;> exact ⟨_,_,_,h8⟩
    obtain ⟨base,sLen,sCap,hf⟩:=hform
    have hR':RDs w F [.lst e0 es true] [.slice base sLen sCap] []:=by rw [← hf];exact hR
    simp only [Bool.and_eq_true,Bool.or_eq_true,beq_iff_eq,List.isEmpty_iff,Bool.not_eq_true',List.isEmpty_eq_false_iff] at hcond
    have:=app_clip (ty:=o.type) (c:=c) hT e2 hsz hR' hcond.1.1 hcond.1.2 e3 e4 e5 e6 hcond.2
    rw [← hf] at this
    exact fin (f3:=[]) this (by simp) e8 e9
  · rename_i r c0 p e0 off n T hT2
    split at happ
    rotate_left
    · cases happ
    rename_i hcond
    obtain ⟨rfl,hlim⟩:=hcond
    simp only [Option.some.injEq,Prod.mk.injEq] at happ
    obtain ⟨rfl,rfl⟩:=happ
    rw [hT2] at k1 k2
    have hv:∃ A0,a.eval x'=.slice A0 0 0∧f=[]:=by
      rcases k2 with ⟨⟨x0,v0,es,A0,N,cap0,A1,cap,q1,q2,q3,q4,q5,q6,q7,q8⟩,q9⟩ | k2
      · have:=q7 rfl
        subst this
        exact ⟨_,q4,q9⟩
      · cases k2
    obtain ⟨A0,hv,rfl⟩:=hv
    have:=app_own (ty:=o.type) (c:=c) (base:=A0) (f1:=[]) (es:=[]) hT (by simpa using k1) hsz (.own0 .nil) e3 e4 e5 e6 (by simpa using hlim)
    rw [← hv] at this
    simp only [List.nil_append] at this
    exact fin (f3:=[]) this (by simp) (fun r b hb=>e8 r b (k4 r b hb)) ⟨e9.M,e9.loc⟩
  · rename_i v2 T hT2 _ _
    rw [‹tk st1.T x=(v2,T)›] at k1 k2
    split at happ
    rotate_left
    · cases happ
    rename_i e0 es st3 hab
    split at happ
    rotate_left
    · cases happ
    rename_i hcond
    obtain ⟨rfl,hlim⟩:=hcond
    simp only [Option.some.injEq,Prod.mk.injEq] at happ
    obtain ⟨rfl,rfl⟩:=happ
    have hrc:=rslot_rc k2 (fun cs hc=>by simp only at hc;rw [hc] at hab;simp [St.absorb] at hab) (fun vs hc=>by simp only at hc;rw [hc] at hab;simp [St.absorb] at hab) (fun hc=>by simp only at hc;rw [hc] at hab;simp [St.absorb] at hab)
    obtain ⟨fp3,f3,q1,q2,q3,q4,q5,q6,q7⟩:=k1.absorb hrc hab
    have hR:RDs w F [.own e0 es] [a.eval x'] f3:=by
      rcases q2 with ⟨q2,_⟩ | q2
      · exact q2.elim
      · exact q2
    have hform:∃ base sLen sCap,a.eval x'=.slice base sLen sCap:=by
      rcases hR.own_inv with ⟨_,_,_,h8⟩ | ⟨_,_,_,_,_,_,h8,_⟩ <;> exact ⟨_,_,_,h8⟩
    obtain ⟨base,sLen,sCap,hf⟩:=hform
    rw [hf] at hR
    have:=app_own (ty:=o.type) (c:=c) hT (by simpa [List.append_assoc] using q1) hsz hR e3 e4 e5 e6 hlim
    rw [← hf] at this
    refine fin this (fun b hb=>?_) (fun r b hb=>e8 r b (k4 r b (q5 r b hb))) (e9.trans ⟨q6.M,q6.loc⟩)
    rcases q4 b hb with h5 | ⟨r,h5⟩
    · obtain ⟨r,h6⟩:=k3 b h5
      exact ⟨r,e8 r b h6⟩
    · exact ⟨r,e8 r b (k4 r b h5)⟩
theorem numsOf_spec:∀ {es:List (List IV)} {xs:List Int},numsOf es=some xs→es.flatten=xs.map (fun n=>.sc (.int .u8 n))∧es.length=xs.length:=by
  intro es
  induction es with
  | nil=>intro xs h;simp only [numsOf,Option.some.injEq] at h;subst h;exact ⟨rfl,rfl⟩
  | cons e r ih =>
    intro xs h
    unfold numsOf at h
    split at h
    · rename_i h0;cases h0
    · rename_i n r' h0
      cases h0
      split at h
      · rename_i ys hy
        simp only [Option.some.injEq] at h
        subst h
        obtain ⟨h1,h2⟩:=ih hy
        exact ⟨by simp [h1],by simp [h2]⟩
      · cases h
    · cases h
theorem rds_ints {F:Nat→Prop}:∀ {xs:List Int} {vs:List Value} {g:List Nat},RDs w F (xs.map fun n=>IV.sc (.int .u8 n)) vs g→vs=xs.map fun n=>.int .u8 n
  | [],vs,g,h=>by cases h;rfl
  | x::xs,vs,g,h=>by
    rw [List.map_cons] at h
    cases h with
    | sc h t=>rw [rds_ints t];rfl
theorem out_strb (h:Rel cx w F ρ fp X st (regs a)) {x:Opd} {x':Operand} {s d e:TypeId} (hx:okOpd cx x' x) (hs:cx.P.underlying s=some (.slice e)) (he:cx.P.underlying e=some (.int .u8)) (hd:cx.P.underlying d=some .string)
    (ho:o.op=.convert s d x') {v:IV} {st':St} {cf} (hev:ev cf st (.strb x)=some (v,st')):OpL cx w F ρ fp X st a o v st':=by
  simp only [ev] at hev
  split at hev
  rotate_left
  · cases hev
  rename_i e0 ys hview
  split at hev
  rotate_left
  · cases hev
  split at hev
  rotate_left
  · cases hev
  rename_i xs hxs
  simp only [Option.some.injEq,Prod.mk.injEq] at hev
  obtain ⟨rfl,rfl⟩:=hev
  obtain ⟨A,c,news,g,hv,hd1,hlen,hcells⟩:=sview_rel h (rd_rel h hx) hview
  obtain ⟨hfl,hl⟩:=numsOf_spec hxs
  rw [hfl] at hd1
  have hnews:=rds_ints hd1
  subst hnews
  refine OpL.pure h (v':=.string (strOfNums xs)) (fun w' hg=>?_) (.inr (.sc rfl .nil))
  have hrun:(execOp a.eval o).run cx.P w'=(do pure (Next.value (← convert s d (a.eval x'))):Sem Next).run cx.P w':=by
    simp only [execOp,ho]
  have hconv:(convert s d (a.eval x')).run cx.P w'=.ok (.string (strOfNums xs)) w':=by
    rw [hv]
    cases A with
    | none =>
      have hz:xs=[]:=by
        rcases Nat.eq_zero_or_pos ys.length with h0 | h0
        · exact List.length_eq_zero_iff.1 (by omega)
        · obtain ⟨ad,h1,-⟩:=hcells h0;cases h1
      subst hz
      rw [run_convert_bytes_nil w' s e hs he _ _ d hd];rfl
    | some ad =>
      rcases Nat.eq_zero_or_pos ys.length with h0 | h0
      · have hz:xs=[]:=List.length_eq_zero_iff.1 (by omega)
        subst hz
        rw [h0]
        rw [run_convert_bytes_string w' s d e _ _ _ hs he hd,run_bytesToString w' ad 0 c [] (by simpa using run_loadCells_list (P:=cx.P) w' ad [] (by simp))]
        rfl
      · obtain ⟨ad',h1,h2⟩:=hcells h0
        cases h1
        rw [run_convert_bytes_string w' s d e _ _ _ hs he hd,run_bytesToString w' ad ys.length c xs,foldl_push_bytes]
        · simp [strOfNums,ByteArray.empty,ByteArray.emptyWithCapacity]
          rfl
        · have:=run_loadCells_list (P:=cx.P) w' ad (xs.map (Value.int .u8)) (fun j v hj=>hg.cell (h2 j v hj))
          simpa [hl] using this
  rw [hrun]
  simp only [Sem.run_bind,hconv,Result.andThen_ok,Sem.run_pure]
end
end Go.Idl
namespace Go.Idl
open Go
theorem frzL_append:∀ (xs ys:List IV),frzL (xs++ys)=frzL xs++frzL ys
  | [],ys=>rfl
  | x::xs,ys=>by simp only [List.cons_append,frzL,frzL_append xs ys]
theorem frzLL_flatten:∀ (es:List (List IV)),(frzLL es).flatten=frzL es.flatten
  | []=>rfl
  | e::es=>by simp only [frzLL,List.flatten_cons,frzL_append,frzLL_flatten es]
theorem frzL_length:∀ (xs:List IV),(frzL xs).length=xs.length
  | []=>rfl
  | x::xs=>by simp only [frzL,List.length_cons,frzL_length xs]
theorem frzLL_length:∀ (es:List (List IV)),(frzLL es).length=es.length
  | []=>rfl
  | e::es=>by simp only [frzLL,List.length_cons,frzLL_length es]
theorem frzLL_len {e:Nat}:∀ {es:List (List IV)},(∀ x ∈ es,x.length=e)→∀ x ∈ frzLL es,x.length=e
  | [],_=>by simp [frzLL]
  | y::es,h=>by
    intro x hx
    simp only [frzLL,List.mem_cons] at hx
    rcases hx with rfl | hx
    · rw [frzL_length];exact h y (by simp)
    · exact frzLL_len (fun z hz=>h z (by simp [hz])) x hx
theorem frzL_eq_map:∀ (xs:List IV),frzL xs=xs.map frzV
  | []=>rfl
  | x::xs=>by simp only [frzL,List.map_cons,frzL_eq_map xs]
theorem noLstL_append:∀ (xs ys:List IV),noLstL (xs++ys)=(noLstL xs && noLstL ys)
  | [],ys=>by simp [noLstL]
  | x::xs,ys=>by simp only [List.cons_append,noLstL,noLstL_append xs ys,Bool.and_assoc]
theorem noLstLL_flatten:∀ (es:List (List IV)),noLstLL es=noLstL es.flatten
  | []=>rfl
  | e::es=>by simp only [noLstLL,List.flatten_cons,noLstL_append,noLstLL_flatten es]
section
variable {cx:Cx} {w w':World} {F F':Nat→Prop} {ρ ρ':Rho} {fp fp':Fp} {X X' f f' f1 f2 fp1:List Nat} {st st':St} {a:Act} {o:Oper} {tm:Nat→Value} {v:IV}
theorem RDs.freeze {xs vs fq} (h:RDs w F xs vs fq):RDs w (fun b=>F b ∨ b ∈ fq) (frzL xs) vs []:=by
  induction h with
  | nil=>exact .nil
  | sc h t ih=>simp only [frzL,frzV];exact .sc h ih
  | un t ih=>simp only [frzL,frzV];exact .un ih
  | lst0 h t ih=>simp only [frzL,frzV];exact .lst0 h ih
  | @lst e es clip b o cap C ty fr xs vs fp hF1 hb hd he hc hn t _ iht =>
    simp only [frzL,frzV]
    exact .lst (.inl hF1) hb (hd.frame (fun _ _=>rfl) (fun _ _=>rfl) (fun _ h=>.inl h)) he hc hn iht
  | own0 t ih=>simp only [frzL,frzV,frzLL];exact .lst0 (by simp) ih
  | @own e es b o cap C ty fp1 xs vs fp hb hd he hn ho t ihd iht =>
    simp only [frzL,frzV]
    have h1:RDs w (fun c=>F c ∨ c ∈ b::(fp1++fp)) (frzL xs) vs []:=iht.frame (fun _ _=>rfl) (fun _ _=>rfl) (fun c hc=>hc.imp id (fun hc=>by simp [hc]))
    have h2:RDs w (fun c=>F c ∨ c ∈ b::(fp1++fp)) (frzL es.flatten) ((C.toList.drop o).take (es.length * e)) []:=ihd.frame (fun _ _=>rfl) (fun _ _=>rfl) (fun c hc=>hc.imp id (fun hc=>by simp [hc]))
    have:=RDs.lst (F:=fun c=>F c ∨ c ∈ b::(fp1++fp)) (es:=frzLL es) (e:=e) (clip:=false) (cap:=cap) (o:=o) (.inr (by simp)) hb (by rw [frzLL_flatten,frzLL_length];exact h2) (frzLL_len he) (by simp) (by rw [frzLL_length];exact hn.1) h1
    rw [frzLL_length] at this
    exact this
theorem RDs.noLst {xs vs fq} (h:RDs w F xs vs fq) (hn:noLstL xs=true):RDs w F' xs vs fq:=by
  induction h with
  | nil=>exact .nil
  | sc h t ih=>simp only [noLstL,Bool.and_eq_true] at hn;exact .sc h (ih hn.2)
  | un t ih=>simp [noLstL,noLstV] at hn
  | lst0 h t ih=>simp only [noLstL,Bool.and_eq_true] at hn;exact .lst0 h (ih hn.2)
  | @lst e es clip b o cap C ty fr xs vs fp hF1 hb hd he hc hn' t _ iht =>
    simp only [noLstL,noLstV,Bool.and_eq_true,List.isEmpty_iff] at hn
    obtain ⟨h1,h2⟩:=hn
    subst h1
    exact .lst0 (fun hcl=>by simpa using hc hcl) (iht h2)
  | own0 t ih=>simp only [noLstL,Bool.and_eq_true] at hn;exact .own0 (ih hn.2)
  | own hb hd he hn' ho t ihd iht =>
    simp only [noLstL,noLstV,Bool.and_eq_true,noLstLL_flatten] at hn
    exact .own hb (ihd hn.1) he hn' ho (iht hn.2)
def IV.isA:IV→Bool
  | .agg cs=>cs.all IV.isD
  | x=>x.isD
def noLk:Rt→Nat→Option (IV×Value):=fun _ _=>none
def RA (cx:Cx) (w:World) (F:Nat→Prop) (ρ:Rho) (st:St) (x:IV) (v:Value) (f:List Nat):Prop:=RComp cx w F ρ st noLk x v f∧x.isA=true
theorem RA.frame {u:Value} (h:RA cx w F ρ st v u f) (hfp:∀ b ∈ f,w'.heap[b]? = w.heap[b]?) (hF:∀ b,F b→w'.heap[b]? = w.heap[b]?) (hFF:∀ b,F b→F' b)
    (hb:∀ l k,(st.box l k).isSome=true→ρ' l k=ρ l k∧(st'.box l k).isSome=true) {lk}:RComp cx w' F' ρ' st' lk v u f:=by
  have ht:Tr w F ρ st noLk w' F' ρ' st' lk (fun _ _ _=>False):=⟨fun _ _ _ h=>h.elim,hF,hFF,hb⟩
  obtain ⟨h1,h2⟩:=h
  cases v with
  | agg cs =>
    obtain ⟨C,rfl,hc⟩:=h1
    refine ⟨C,rfl,hc.mono fun x v f hf hx hm=>hx.tr ht (fun r c p hr=>?_) (fun b hb=>hfp b (hf b hb))⟩
    have:=List.all_eq_true.1 h2 x hm
    cases x <;> simp_all [refAt,IV.isD]
  | sc u=>exact RC.tr (x:=.sc u) ht h1 (fun r c p hr=>by simp [refAt] at hr) hfp
  | lst e es c=>exact RC.tr (x:=.lst e es c) ht h1 (fun r c p hr=>by simp [refAt] at hr) hfp
  | own e es=>exact RC.tr (x:=.own e es) ht h1 (fun r c p hr=>by simp [refAt] at hr) hfp
  | bptr l k c=>exact RC.tr (x:=.bptr l k c) ht h1 (fun r c p hr=>by simp [refAt] at hr) hfp
  | fn g cs=>exact RC.tr (x:=.fn g cs) ht h1 (fun r c p hr=>by simp [refAt] at hr) hfp
  | _=>simp [IV.isA,IV.isD] at h2
theorem Rel.reX (h:Rel cx w F ρ fp X st tm) (hF:∀ b,F b→F' b) (h1:∀ r,∀ b ∈ fp r,¬ F' b) (h2:∀ b,F' b→b < w.heap.size) (h3:X'.Nodup) (h4:∀ r,∀ b ∈ fp r,b ∉ X') (h5:∀ b ∈ X',¬ F' b)
    (h6:∀ b ∈ X',b < w.heap.size):Rel cx w F' ρ fp X' st tm:=by
  have tr:Tr w F ρ st (look st tm ρ w) w F' ρ st (look st tm ρ w) (fun _ _ _=>True) :=
    ⟨fun _ _ _ _ x0 v0 e es A n cap hl hf=>⟨_,es,hl,hf,Nat.le_refl _⟩,fun _ _=>rfl,hF,fun _ _ h=>⟨rfl,h⟩⟩
  refine ⟨fun s=>?_,fun l k cs hb=>?_,h.nobox,h.nodup,h.disj,h1,h.lt,h2,h3,h4,h5,h6⟩
  · have:=(h.slots s).trk tr .none (fun _ _ _ _ _ _=>trivial) (fun b hb=>rfl)
    rw [kl_none] at this;exact this
  · obtain ⟨C,ty,f0,k1,k2,k3⟩:=h.boxes l k cs hb
    exact ⟨C,ty,f0,k1,k2,k3.mono fun x v f hf hx _=>hx.tr tr (fun _ _=>rfl)⟩
theorem Rel.frzX (h:Rel cx w F ρ fp (f++X) st tm):Rel cx w (fun b=>F b ∨ b ∈ f) ρ fp X st tm:=by
  have hX:=List.nodup_append.1 h.xnodup
  refine h.reX (fun _ h=>.inl h) (fun r b hb hF=>?_) (fun b hb=>?_) hX.2.1 (fun r b hb hx=>h.xdisj r b hb (by simp [hx])) (fun b hb hF=>?_) (fun b hb=>h.xlt b (by simp [hb]))
  · rcases hF with hF | hF
    · exact h.notF r b hb hF
    · exact h.xdisj r b hb (by simp [hF])
  · rcases hb with hb | hb
    · exact h.Flt b hb
    · exact h.xlt b (by simp [hb])
  · rcases hF with hF | hF
    · exact h.xF b (by simp [hb]) hF
    · exact hX.2.2 b hF b hb rfl
end
end Go.Idl
namespace Go.Idl
open Go
section
variable {cx:Cx} {w w':World} {F F' F1:Nat→Prop} {ρ ρ':Rho} {fp fp' fp1:Fp} {X X' f f' f1 f2 fa:List Nat} {st st' st1:St} {a:Act} {o:Oper} {tm:Nat→Value} {v:IV}
theorem RC.toNo {lk x u} (h:RC cx w F ρ st lk x u f) (hd:x.isD=true):RC cx w F ρ st noLk x u f:=h.isD hd (fun _ _ h=>h)
def Args1 (cx:Cx) (w:World) (F:Nat→Prop) (ρ:Rho) (st:St) (a:Act):List (Option IV)→List Operand→List Nat→Prop
  | [],[],f=>f=[]
  | some v::vs,o::os,f=>∃ f1 f2,f=f1++f2∧RA cx w F ρ st v (a.eval o) f1∧Args1 cx w F ρ st a vs os f2
  | none::vs,_::os,f=>Args1 cx w F ρ st a vs os f
  | _,_,_=>False
theorem Args1.mono (hFF:∀ b,F b→F1 b) (hb:∀ l k,(st.box l k).isSome=true→(st'.box l k).isSome=true):∀ {vs:List (Option IV)} {os:List Operand} {f:List Nat},Args1 cx w F ρ st a vs os f→Args1 cx w F1 ρ st' a vs os f
  | [],[],_,h=>h
  | some v::vs,o::os,_,⟨f1,f2,h1,h2,h3⟩=>⟨f1,f2,h1,⟨h2.frame (fun _ _=>rfl) (fun _ _=>rfl) hFF (fun l k h=>⟨rfl,hb l k h⟩),h2.2⟩,Args1.mono hFF hb h3⟩
  | none::vs,_::os,_,h=>Args1.mono (vs:=vs) (os:=os) hFF hb h
  | [],_::_,_,h=>h.elim
  | some _::_,[],_,h=>h.elim
  | none::_,[],_,h=>h.elim
def Arg1Out (cx:Cx) (w:World) (F:Nat→Prop) (ρ:Rho) (fp:Fp) (X:List Nat) (st:St) (a:Act) (o:Operand) (v:Option IV) (st':St):Prop :=
  ∃ F1 fp1 fa,Rel cx w F1 ρ fp1 (fa++X) st' (regs a)∧(match v with | some v=>RA cx w F1 ρ st' v (a.eval o) fa | none=>fa=[])∧(∀ b,F b→F1 b)∧(∀ b,F1 b→F b ∨ ∃ r,b ∈ fp r) ∧
    (∀ b ∈ fa,∃ r,b ∈ fp r)∧(∀ r,∀ b ∈ fp1 r,b ∈ fp r)∧ShpLe st st'
theorem Arg1Out.none (h:Rel cx w F ρ fp X st (regs a)) (o:Operand):Arg1Out cx w F ρ fp X st a o .none st :=
  ⟨F,fp,[],h,rfl,fun _ h=>h,fun _ h=>.inl h,by simp,fun _ _ h=>h,.refl _⟩
theorem frz_cells {lk cs C} (h:Cat (RC cx w F ρ st lk) cs C f) (hp:(frzL cs).all IV.plain1=true):Cat (RC cx w (fun b=>F b ∨ b ∈ f) ρ st noLk) (frzL cs) C []∧∀ x ∈ frzL cs,x.isD=true:=by
  have one:∀ {x u g},RC cx w F ρ st lk x u g→(frzV x).plain1=true→RC cx w (fun b=>F b ∨ b ∈ g) ρ st noLk (frzV x) u []∧(frzV x).isD=true:=by
    intro x u g hx hp
    cases x with
    | own e es =>
      rcases hx with ⟨hx,_⟩ | hx
      · exact hx.elim
      · have:=hx.freeze
        simp only [frzL] at this
        exact ⟨.inr this,rfl⟩
    | sc v1 =>
      have h0:=hx.noown rfl
      subst h0
      exact ⟨(hx.toNo rfl).tr ⟨fun _ _ _ h=>h.elim,fun _ _=>rfl,fun _ h=>.inl h,fun _ _ h=>⟨rfl,h⟩⟩ (live:=fun _ _ _=>False) (fun r c p hr=>by simp [refAt,frzV] at hr) (fun _ _=>rfl),rfl⟩
    | lst e es c =>
      have h0:=hx.noown rfl
      subst h0
      exact ⟨(hx.toNo rfl).tr ⟨fun _ _ _ h=>h.elim,fun _ _=>rfl,fun _ h=>.inl h,fun _ _ h=>⟨rfl,h⟩⟩ (live:=fun _ _ _=>False) (fun r c p hr=>by simp [refAt,frzV] at hr) (fun _ _=>rfl),rfl⟩
    | bptr l k c =>
      have h0:=hx.noown rfl
      subst h0
      exact ⟨(hx.toNo rfl).tr ⟨fun _ _ _ h=>h.elim,fun _ _=>rfl,fun _ h=>.inl h,fun _ _ h=>⟨rfl,h⟩⟩ (live:=fun _ _ _=>False) (fun r c p hr=>by simp [refAt,frzV] at hr) (fun _ _=>rfl),rfl⟩
    | fn g cs =>
      have h0:=hx.noown rfl
      subst h0
      exact ⟨(hx.toNo rfl).tr ⟨fun _ _ _ h=>h.elim,fun _ _=>rfl,fun _ h=>.inl h,fun _ _ h=>⟨rfl,h⟩⟩ (live:=fun _ _ _=>False) (fun r c p hr=>by simp [refAt,frzV] at hr) (fun _ _=>rfl),rfl⟩
    | _=>simp [frzV,IV.plain1] at hp
  induction h with
  | nil=>exact ⟨.nil,by simp [frzL]⟩
  | @cons x u g xs us gs hx t ih =>
    simp only [frzL,List.all_cons,Bool.and_eq_true] at hp
    obtain ⟨i1,i2⟩:=ih hp.2
    obtain ⟨o1,o2⟩:=one hx hp.1
    have ext:∀ {g':List Nat} {xs:List IV} {us:List Value},Cat (RC cx w (fun b=>F b ∨ b ∈ g') ρ st noLk) xs us []→(∀ b ∈ g',b ∈ g++gs)→Cat (RC cx w (fun b=>F b ∨ b ∈ g++gs) ρ st noLk) xs us []:=fun hc hs =>
      hc.mono fun z v f hf hz _=>hz.tr (live:=fun _ _ _=>True) ⟨fun _ _ _ _ _ _ _ _ _ _ _ h=>by simp [noLk] at h,fun _ _=>rfl,fun b hb=>hb.imp id (hs b),fun _ _ h=>⟨rfl,h⟩⟩ (fun _ _ _ _=>trivial) (fun _ _=>rfl)
    refine ⟨?_,fun z hz=>?_⟩
    · have c1:=ext (Cat.cons o1 .nil) (fun b hb=>by simp [hb])
      have c2:=ext i1 (fun b hb=>by simp [hb])
      have:=c1.app c2
      simpa [frzL] using this
    · rcases List.mem_cons.1 hz with rfl | hz
      · exact o2
      · exact i2 z hz
theorem own_addr {e es A A' N cap g} (h:RDs w F [.own e es] [.slice A N cap] g) (ha:0 < cap→A=A'):RDs w F [.own e es] [.slice A' N cap] g:=by
  rcases h.own_inv with ⟨rfl,rfl,A0,h8⟩ | ⟨b,o,cap1,C,ty,fp1,h8,rfl,hb,hd,he,hn,hoc⟩
  · simp only [Value.slice.injEq] at h8
    obtain ⟨_,rfl,rfl⟩:=h8
    exact .own0 .nil
  · simp only [Value.slice.injEq] at h8
    obtain ⟨_,_,rfl⟩:=h8
    rw [← ha hn.2];exact h
def SameV (v u:Value):Prop:=∃ A A' N cap,v=.slice A N cap∧u=.slice A' N cap∧(0 < cap→A=A')
inductive SameL:List Value→List Value→Prop
  | nil:SameL [] []
  | cons {v u vs us} (h:v=u ∨ SameV v u) (t:SameL vs us):SameL (v::vs) (u::us)
def LentV (v u:Value):Nat→Prop
  | 0=>SameV v u ∨ ∃ C D:Array Value,v=.agg C∧u=.agg D∧SameL C.toList D.toList
  | c+1=>∃ (C:Array Value) (x:Value),v=.agg C∧C.toList[c]? = some x∧SameV x u
theorem SameV.symm {v u:Value} (h:SameV v u):SameV u v:=by
  obtain ⟨A,A',N,cap,h1,h2,h3⟩:=h
  exact ⟨A',A,N,cap,h2,h1,fun hp=>(h3 hp).symm⟩
theorem own_same {e es v u g} (h:RDs w F [.own e es] [v] g) (hs:SameV v u):RDs w F [.own e es] [u] g:=by
  obtain ⟨A,A',N,cap,rfl,rfl,h3⟩:=hs
  exact own_addr h h3
theorem rcells_own {e es v x g} (h:RDs w F [.own e es] [v] g) (hx:(rcellsOf v)[0]? = some x):v=x:=by
  rcases h.own_inv with ⟨_,_,A0,rfl⟩ | ⟨b,o',cap1,C,ty,fp1,rfl,_⟩ <;> simpa [rcellsOf] using hx
theorem list_set_self {α} {l:List α} {i:Nat} {x:α} (h:l[i]? = some x):l.set i x=l:=by
  apply List.ext_getElem?
  intro k
  by_cases hk:i=k
  · subst hk;rw [List.getElem?_set_self (List.getElem?_eq_some_iff.1 h).1,h]
  · rw [List.getElem?_set_ne hk]
theorem ref_same (h:Rel cx w F ρ fp X st tm) {s c e0 n e:Nat} {es:List (List IV)} {u:Value} {lk} (hlk:lk=look st tm ρ w) (hr:RC cx w F ρ st lk (.arr (.S s) c [] e0 0 n false) u []) (hT:(tget st.T s).cells[c]? = some (.own e es)) (hn:n=es.length) :
    ∃ x,(rcellsOf (tm s))[c]? = some x∧SameV x u∧∃ g,RDs w F [.own e es] [x] g:=by
  subst hlk
  rcases hr with ⟨⟨x0,v0,es2,A,N,cap,a',cap',k1,k2,k3,k4,k5,k6,k7,k8⟩,_⟩ | hr
  rotate_left
  · cases hr
  obtain ⟨q1,q2⟩:=look_S k1
  simp only [folR,Option.some.injEq,Prod.mk.injEq] at k2
  obtain ⟨rfl,rfl⟩:=k2
  rw [hT] at q1
  simp only [Option.some.injEq,IV.own.injEq] at q1
  obtain ⟨rfl,rfl⟩:=q1
  obtain ⟨f0,g1,g2,g3⟩:=h.data k1 ⟨_,_,_,rfl⟩
  have hN:N=es.length:=by
    rcases g3.own_inv with ⟨h0,_,A0,h8⟩ | ⟨b,o',cap1,C,ty,fp1,h8,_⟩
    · simp only [Value.slice.injEq] at h8;rw [h0];exact h8.2.1
    · simp only [Value.slice.injEq] at h8;exact h8.2.1
  have hcap:=k8.2 rfl
  have hc:cap'=cap:=by omega
  subst hc
  refine ⟨_,q2,⟨A,a',N,cap',rfl,by rw [k4,hn,hN],fun hp=>?_⟩,_,g3⟩
  obtain ⟨b,o',g1,g2⟩:=k8.1 hp
  rw [g1,g2];simp
theorem cells_agg {s:Nat} {cs:List IV} (h:Rel cx w F ρ fp X st tm) (hT:tget st.T s=.agg cs):∃ C:Array Value,tm s=.agg C∧Cat (RC cx w F ρ st (look st tm ρ w)) cs C.toList (fp (.S s)):=by
  have hs:=h.slots s
  rw [hT] at hs
  exact hs
theorem scEq_eq {u v:Value} (h:scEq u v=true):u=v:=by
  cases u <;> cases v <;> simp_all [scEq]
theorem shows_data {s:Nat}:∀ {i:Nat} {xs cs:List IV},shows s i xs cs=true→cs.map (klc (IV.rooted (.S s)))=cs∧(∀ x ∈ cs,x.isD=true)
  | _,[],[],_=>⟨rfl,by simp⟩
  | i,x::xs,[],h=>by unfold shows at h;split at h <;> simp_all
  | i,[],c::cs,h=>by simp [shows] at h
  | i,x::xs,c::cs,h=>by
    unfold shows at h
    split at h
    · simp_all
    · rename_i h1 h2
      cases h1;cases h2
      simp only [Bool.and_eq_true] at h
      obtain ⟨k1,k2⟩:=shows_data h.2
      refine ⟨by simp only [List.map_cons,k1];simp [klc,IV.rooted],fun x hx=>?_⟩
      rcases List.mem_cons.1 hx with rfl | hx
      · rfl
      · exact k2 x hx
    · rename_i h1 h2
      cases h1;cases h2
      simp only [Bool.and_eq_true] at h
      obtain ⟨k1,k2⟩:=shows_data h.2
      refine ⟨by simp only [List.map_cons,k1];simp [klc,IV.rooted],fun x hx=>?_⟩
      rcases List.mem_cons.1 hx with rfl | hx
      · rfl
      · exact k2 x hx
    · cases h
theorem shows_same (h:Rel cx w F ρ fp X st tm) {s:Nat} {ds:List IV} (hT:tget st.T s=.agg ds):∀ {i:Nat} {xs cs:List IV} {us vs:List Value} {f:List Nat},shows s i xs cs=true →
    Cat (RC cx w F ρ st (look st tm ρ w)) xs us []→Cat (RC cx w F ρ st (look st tm ρ w)) cs vs f→(∀ q,cs[q]? = ds[i+q]?)→(∀ q,vs[q]? = (rcellsOf (tm s))[i+q]?)→SameL vs us
  | _,[],[],us,vs,f,_,hx,hc,_,_=>by
    obtain ⟨rfl,_⟩:=hx.nil_inv
    obtain ⟨rfl,_⟩:=hc.nil_inv
    exact .nil
  | i,x::xs,[],us,vs,f,h',_,_,_,_=>by unfold shows at h';split at h' <;> simp_all
  | i,[],c::cs,us,vs,f,h',_,_,_,_=>by simp [shows] at h'
  | i,x::xs,c::cs,us,vs,f,h',hx,hc,h1,h2=>by
    generalize hf:([]:List Nat)=f0 at hx
    cases hx with
    | @cons _ u g1 _ us g2 hxu hxt =>
    simp only [List.nil_eq,List.append_eq_nil_iff] at hf
    obtain ⟨rfl,rfl⟩:=hf
    cases hc with
    | @cons _ v g1 _ vs g2 hcv hct =>
    have r1:∀ q,cs[q]? = ds[i+1+q]?:=fun q=>by
      have:=h1 (q+1);rw [show i+(q+1)=i+1+q by omega] at this;simpa using this
    have r2:∀ q,vs[q]? = (rcellsOf (tm s))[i+1+q]?:=fun q=>by
      have:=h2 (q+1);rw [show i+(q+1)=i+1+q by omega] at this;simpa using this
    have h10:=h1 0
    have h20:=h2 0
    simp only [List.getElem?_cons_zero,Nat.add_zero] at h10 h20
    unfold shows at h'
    split at h'
    · simp_all
    · rename_i e1 e2
      cases e1;cases e2
      simp only [Bool.and_eq_true] at h'
      have he:=scEq_eq h'.1
      subst he
      refine .cons (.inl ?_) (shows_same h hT h'.2 hxt hct r1 r2)
      have o1:∀ {y z:Value} {g},RC cx w F ρ st (look st tm ρ w) (.sc y) z g→z=y:=by
        intro y z g hz
        rcases hz with ⟨hz,_⟩ | hz
        · exact hz.elim
        · cases hz;rfl
      rw [o1 hcv,o1 hxu]
    · rename_i e1 e2
      cases e1;cases e2
      simp only [Bool.and_eq_true,beq_iff_eq] at h'
      obtain ⟨⟨⟨rfl,rfl⟩,hn⟩,h'⟩:=h'
      obtain ⟨x,k1,k2,_⟩:=ref_same h rfl hxu (by rw [hT];exact h10.symm) hn
      rw [k1] at h20
      cases h20
      exact .cons (.inr k2) (shows_same h hT h' hxt hct r1 r2)
    · cases h'
theorem cat_same {lk cs vs us} (hc:Cat (RC cx w F ρ st lk) cs vs f) (hd:∀ x ∈ cs,x.isD=true) (hs:SameL vs us) (ho:∀ x ∈ cs,∀ e es c,x ≠ .lst e es c):Cat (RC cx w F ρ st lk) cs us f:=by
  induction hs generalizing cs f with
  | nil=>exact hc
  | @cons v u vs us h t ih =>
    cases hc with
    | @cons x _ g1 xs _ g2 h1 h2 =>
    have ht:=ih h2 (fun x hx=>hd x (by simp [hx])) (fun x hx=>ho x (by simp [hx]))
    rcases h with rfl | h
    · exact .cons h1 ht
    · refine .cons ?_ ht
      obtain ⟨A,A',N,cap,rfl,rfl,h3⟩:=h
      have hdx:=hd x (by simp)
      have hox:=ho x (by simp)
      rcases h1 with ⟨h1,rfl⟩ | h1
      · cases x with
        | bptr l k c=>exact absurd h1.1 (by simp)
        | fn f caps=>obtain ⟨cvs,h1,_⟩:=h1;cases h1
        | _=>first | exact h1.elim | simp [IV.isD] at hdx
      · cases x with
        | own e es=>exact .inr (own_addr h1 h3)
        | lst e es c=>exact (hox _ _ _ rfl).elim
        | sc v=>cases h1 with | sc h _=>simp [Idl.isSc] at h
        | un=>simp [IV.isD] at hdx
        | _=>cases h1
theorem shows_nolst {s:Nat}:∀ {i:Nat} {xs cs:List IV},shows s i xs cs=true→∀ x ∈ cs,∀ e es c,x ≠ .lst e es c
  | _,[],[],_=>by simp
  | i,x::xs,[],h=>by simp
  | i,[],c::cs,h=>by simp [shows] at h
  | i,x::xs,c::cs,h=>by
    unfold shows at h
    split at h
    · simp_all
    · rename_i h1 h2
      cases h1;cases h2
      simp only [Bool.and_eq_true] at h
      intro x hx
      rcases List.mem_cons.1 hx with rfl | hx
      · intro _ _ _ hh;cases hh
      · exact shows_nolst h.2 x hx
    · rename_i h1 h2
      cases h1;cases h2
      simp only [Bool.and_eq_true] at h
      intro x hx
      rcases List.mem_cons.1 hx with rfl | hx
      · intro _ _ _ hh;cases hh
      · exact shows_nolst h.2 x hx
    · cases h
theorem arg1_rel (h:Rel cx w F ρ fp X st (regs a)) {m:Mode} {x:Opd} {o:Operand} (hx:okOpd cx o x) {v:Option IV} (ha:st.arg1 m x=some (v,st')):Arg1Out cx w F ρ fp X st a o v st':=by
  cases m with
  | val =>
    simp only [St.arg1,Option.some.injEq,Prod.mk.injEq] at ha
    obtain ⟨rfl,rfl⟩:=ha
    exact .none h o
  | rv =>
    simp only [St.arg1,Option.some.injEq,Prod.mk.injEq] at ha
    obtain ⟨rfl,rfl⟩:=ha
    exact .none h o
  | rd =>
    simp only [St.arg1] at ha
    obtain ⟨fp1,f1,k1,k2,k3,k4⟩:=tk_rel h hx
    split at ha
    · rename_i e es T hT
      simp only [Option.some.injEq,Prod.mk.injEq] at ha
      obtain ⟨rfl,rfl⟩:=ha
      rw [hT] at k1 k2
      have hR:RDs w F [.own e es] [a.eval o] f1:=by
        rcases k2 with ⟨k2,_⟩ | k2
        · exact k2.elim
        · exact k2
      have h2:=hR.freeze
      simp only [frzL,frzV] at h2
      exact ⟨_,fp1,[],k1.frzX,⟨.inr h2,rfl⟩,fun _ h=>.inl h,fun b hb=>hb.imp id (k3 b),by simp,k4,⟨rfl,Nat.le_refl _⟩⟩
    · rename_i cs T hT
      split at ha
      · rename_i hp
        simp only [Option.some.injEq,Prod.mk.injEq] at ha
        obtain ⟨rfl,rfl⟩:=ha
        rw [hT] at k1 k2
        obtain ⟨C,hC,hc⟩:=k2
        obtain ⟨c1,c2⟩:=frz_cells hc hp
        exact ⟨_,fp1,[],k1.frzX,⟨⟨C,hC,c1⟩,List.all_eq_true.2 c2⟩,fun _ h=>.inl h,fun b hb=>hb.imp id (k3 b),by simp,k4,⟨rfl,Nat.le_refl _⟩⟩
      · simp only [Option.some.injEq,Prod.mk.injEq] at ha
        obtain ⟨rfl,rfl⟩:=ha
        exact .none h o
    · simp only [Option.some.injEq,Prod.mk.injEq] at ha
      obtain ⟨rfl,rfl⟩:=ha
      exact .none h o
  | tk =>
    simp only [St.arg1] at ha
    obtain ⟨fp1,f1,k1,k2,k3,k4⟩:=tk_rel h hx
    split at ha
    · rename_i cs T hT
      split at ha
      · rename_i cs' st2 hab
        simp only [Option.some.injEq,Prod.mk.injEq] at ha
        obtain ⟨rfl,rfl⟩:=ha
        rw [hT] at k1 k2
        obtain ⟨C,hC,hc⟩:=k2
        obtain ⟨fp2,fy,q1,q2,q3,q4,q5,q6⟩:=k1.absorbs hc hab
        refine ⟨F,fp2,fy,q1,⟨⟨C,hC,q2.mono fun z v f _ hz hm=>hz.toNo (q3 z hm)⟩,List.all_eq_true.2 q3⟩,fun _ h=>h,fun _ h=>.inl h,fun b hb=>?_,fun r b hb=>k4 r b (q5 r b hb),⟨q6.M,q6.loc⟩⟩
        rcases q4 b hb with h9 | ⟨r,h9⟩
        · exact k3 b h9
        · exact ⟨r,k4 r b h9⟩
      · cases ha
    · rename_i v0 T hne hT
      split at ha
      · rename_i v1 st2 hab
        simp only [Option.some.injEq,Prod.mk.injEq] at ha
        obtain ⟨rfl,rfl⟩:=ha
        rw [hT] at k1 k2
        have hrc:=rslot_rc k2 (fun cs hc=>hne cs hc) (fun vs hc=>by simp only at hc;rw [hc] at hab;simp [St.absorb] at hab) (fun hc=>by simp only at hc;rw [hc] at hab;simp [St.absorb] at hab)
        obtain ⟨fp2,fy,q1,q2,q3,q4,q5,q6,q7⟩:=k1.absorb hrc hab
        refine ⟨F,fp2,fy,q1,?_,fun _ h=>h,fun _ h=>.inl h,fun b hb=>?_,fun r b hb=>k4 r b (q5 r b hb),⟨q6.M,q6.loc⟩⟩
        · have h5:=q2.toNo q3
          cases v1 with
          | agg cs=>simp [IV.isD] at q3
          | un=>simp [IV.isD] at q3
          | _=>exact ⟨h5,q3⟩
        · rcases q4 b hb with h9 | ⟨r,h9⟩
          · exact k3 b h9
          · exact ⟨r,k4 r b h9⟩
      · cases ha
  | ld =>
    simp only [St.arg1] at ha
    have hr:=rd_rel h hx
    split at ha
    · rename_i s c e0 n hrd
      rw [hrd] at hr
      split at ha
      · rename_i e es hT
        split at ha
        rotate_left
        · cases ha
        rename_i hn
        obtain ⟨hn,rfl⟩:=hn
        simp only [Option.some.injEq,Prod.mk.injEq] at ha
        obtain ⟨rfl,rfl⟩:=ha
        obtain ⟨h1,h2⟩:=h.drop s
        rw [hT] at h2
        have hkl:kl (IV.rooted (.S s)) (.own e es)=.own e es:=by simp [kl,kl1,klc_own (KillOK.rooted _)]
        rw [hkl] at h2
        have hR:RDs w F [.own e es] [regs a s] (fp (.S s)):=by
          rcases h2 with ⟨h2,_⟩ | h2
          · exact h2.elim
          · exact h2
        obtain ⟨x,e1,e2,_⟩:=ref_same h rfl hr (by rw [hT];rfl) hn
        have e1':=rcells_own hR e1
        subst e1'
        refine ⟨F,_,_,h1,⟨.inr (own_same hR e2),rfl⟩,fun _ h=>h,fun _ h=>.inl h,fun b hb=>⟨_,hb⟩,fun r b hb=>?_,⟨rfl,Nat.le_refl _⟩⟩
        unfold updFp at hb
        split at hb
        · cases hb
        · exact hb
      · rename_i cs hT
        split at ha
        rotate_left
        · cases ha
        rename_i e es hce
        split at ha
        rotate_left
        · cases ha
        rename_i hn
        simp only [Option.some.injEq,Prod.mk.injEq] at ha
        obtain ⟨rfl,rfl⟩:=ha
        obtain ⟨x,e1,e2,_⟩:=ref_same h rfl hr (by rw [hT];exact hce) hn
        obtain ⟨h1,h2⟩:=h.drop s
        rw [hT] at h2
        obtain ⟨C,hC,hcat⟩:=h2
        have hce':(cs.map (klc (IV.rooted (.S s))))[c]? = some (.own e es):=by
          rw [List.getElem?_map,hce];simp [klc_own (KillOK.rooted _)]
        obtain ⟨v,f1,g,f2,hv,hf,hx0,hput⟩:=hcat.at_ hce'
        rw [hC] at e1
        simp only [rcellsOf] at e1
        rw [hv] at e1
        have hvx:v=x:=by simpa using e1
        subst hvx
        have hR:RDs w F [.own e es] [v] g:=by
          rcases hx0 with ⟨hx0,_⟩ | hx0
          · exact hx0.elim
          · exact hx0
        have hset:=hput (RC cx w F ρ { st with T:=dropSlot s st.T } (look { st with T:=dropSlot s st.T } (regs a) ρ w)) .un v [] (fun _ _ _ _ h=>h) (.inr (.un .nil))
        rw [list_set_self hv] at hset
        have hX:List.Perm ((f1++([]++f2))++(g++X)) (fp (.S s)++X):=by
          rw [hf,List.nil_append]
          have e5:f1++(g++f2)++X=f1++(g++(f2++X)):=by simp
          have e6:f1++f2++(g++X)=f1++(f2++(g++X)):=by simp
          rw [e5,e6]
          refine List.Perm.append_left f1 ?_
          rw [← List.append_assoc,← List.append_assoc]
          exact List.Perm.append_right X List.perm_append_comm
        have hp:=(h1.perm hX.symm).put (v:=.agg ((cs.map (klc (IV.rooted (.S s)))).set c .un)) (v':=.agg C) ⟨C,rfl,hset⟩ s
        have htm:(fun q=>if q=s then Value.agg C else regs a q)=regs a:=by funext q;by_cases hq:q=s <;> simp [hq,hC]
        rw [htm] at hp
        have htp:tput (dropSlot s st.T) s (.agg ((cs.map (klc (IV.rooted (.S s)))).set c .un))=(s,.agg ((cs.map (klc (IV.rooted (.S s)))).set c .un))::dropSlot s st.T:=by
          simp [tput,dropSlot,tget,IV.holds]
        rw [htp] at hp
        refine ⟨F,_,g,hp,⟨.inr (own_same hR e2),rfl⟩,fun _ h=>h,fun _ h=>.inl h,fun b hb=>⟨.S s,by rw [hf];simp [hb]⟩,fun r b hb=>?_,⟨rfl,Nat.le_refl _⟩⟩
        unfold updFp at hb
        split at hb
        · rename_i hrs
          rw [hrs,hf]
          simp only [List.nil_append,List.mem_append] at hb ⊢
          rcases hb with hb | hb <;> simp [hb]
        · exact hb
      · cases ha
    · rename_i xs hrd
      rw [hrd] at hr
      split at ha
      rotate_left
      · cases ha
      rename_i s hroot
      split at ha
      rotate_left
      · cases ha
      rename_i cs hT
      split at ha
      rotate_left
      · cases ha
      rename_i hsh
      simp only [Option.some.injEq,Prod.mk.injEq] at ha
      obtain ⟨rfl,rfl⟩:=ha
      obtain ⟨D,hD,hcx⟩:=hr
      obtain ⟨C,hC,hcs⟩:=cells_agg h hT
      have hsame:=shows_same h hT (i:=0) hsh hcx hcs (fun q=>by simp) (fun q=>by rw [hC];simp [rcellsOf])
      obtain ⟨h1,h2⟩:=h.drop s
      rw [hT] at h2
      obtain ⟨C2,hC2,hcat⟩:=h2
      rw [hC] at hC2
      cases hC2
      obtain ⟨d1,d2⟩:=shows_data hsh
      simp only [d1] at hcat
      refine ⟨F,_,_,h1,⟨⟨D,hD,cat_same (hcat.mono fun z v f _ hz hm=>hz.toNo (d2 z hm)) d2 hsame (shows_nolst hsh)⟩,List.all_eq_true.2 d2⟩,fun _ h=>h,fun _ h=>.inl h,fun b hb=>⟨_,hb⟩,fun r b hb=>?_,⟨rfl,Nat.le_refl _⟩⟩
      unfold updFp at hb
      split at hb
      · cases hb
      · exact hb
    · cases ha
theorem arg1_lent (h:Rel cx w F ρ fp X st (regs a)) {x:Opd} {o:Operand} (hx:okOpd cx o x) {v:Option IV} (ha:st.arg1 .ld x=some (v,st')):∃ s c,ldSlot st.T .ld x=[(s,c)]∧LentV (regs a s) (a.eval o) c:=by
  simp only [St.arg1] at ha
  have hr:=rd_rel h hx
  split at ha
  · rename_i s c e0 n hrd
    rw [hrd] at hr
    split at ha
    · rename_i e es hT
      split at ha
      rotate_left
      · cases ha
      rename_i hn
      obtain ⟨hn,rfl⟩:=hn
      obtain ⟨x,e1,e2,g,e3⟩:=ref_same h rfl hr (by rw [hT];rfl) hn
      have hs:=h.slots s
      rw [hT] at hs
      have hR:RDs w F [.own e es] [regs a s] (fp (.S s)):=by
        rcases hs with ⟨hs,_⟩ | hs
        · exact hs.elim
        · exact hs
      have e1':=rcells_own hR e1
      subst e1'
      exact ⟨s,0,by simp [ldSlot,hrd,hT],.inl e2⟩
    · rename_i cs hT
      split at ha
      rotate_left
      · cases ha
      rename_i e es hce
      split at ha
      rotate_left
      · cases ha
      rename_i hn
      obtain ⟨x,e1,e2,_⟩:=ref_same h rfl hr (by rw [hT];exact hce) hn
      obtain ⟨C,hC,hcs⟩:=cells_agg h hT
      rw [hC] at e1
      exact ⟨s,c+1,by simp [ldSlot,hrd,hT],C,x,hC,by simpa [rcellsOf] using e1,e2⟩
    · cases ha
  · rename_i xs hrd
    rw [hrd] at hr
    split at ha
    rotate_left
    · cases ha
    rename_i s hroot
    split at ha
    rotate_left
    · cases ha
    rename_i cs hT
    split at ha
    rotate_left
    · cases ha
    rename_i hsh
    obtain ⟨D,hD,hcx⟩:=hr
    obtain ⟨C,hC,hcs⟩:=cells_agg h hT
    have hsame:=shows_same h hT (i:=0) hsh hcx hcs (fun q=>by simp) (fun q=>by rw [hC];simp [rcellsOf])
    exact ⟨s,0,by simp [ldSlot,hrd,hroot],.inr ⟨C,D,hC,hD,hsame⟩⟩
  · cases ha
end
end Go.Idl
namespace Go.Idl
open Go
def okArgs (cx:Cx):List (Mode×Opd)→List Operand→Prop
  | [],[]=>True
  | (_,x)::r,o::os=>okOpd cx o x∧okArgs cx r os
  | _,_=>False
def LentS (a:Act):List (Mode×Opd)→List Operand→List (Nat×Nat)→Prop
  | [],[],ss=>ss=[]
  | (.ld,_)::r,o::os,ss=>∃ s c ss',ss=(s,c)::ss'∧LentV (regs a s) (a.eval o) c∧LentS a r os ss'
  | (.val,_)::r,_::os,ss=>LentS a r os ss
  | (.rd,_)::r,_::os,ss=>LentS a r os ss
  | (.rv,_)::r,_::os,ss=>LentS a r os ss
  | (.tk,_)::r,_::os,ss=>LentS a r os ss
  | _,_,_=>False
section
variable {cx:Cx} {w w':World} {F F' F1:Nat→Prop} {ρ ρ':Rho} {fp fp' fp1:Fp} {X X' f f' f1 f2 fa:List Nat} {st st' st1:St} {a:Act} {o:Oper} {tm:Nat→Value} {v:IV}
theorem args1_rel:∀ {args:List (Mode×Opd)} {os:List Operand} {F:Nat→Prop} {fp:Fp} {X:List Nat} {st st':St} {vs:List (Option IV)} {ss:List (Nat×Nat)},Rel cx w F ρ fp X st (regs a)→okArgs cx args os→st.args1 args=some (vs,st',ss) →
    ∃ F1 fp1 fa,Rel cx w F1 ρ fp1 (fa++X) st' (regs a)∧Args1 cx w F1 ρ st' a vs os fa∧(∀ b,F b→F1 b)∧(∀ b,F1 b→F b ∨ ∃ r,b ∈ fp r)∧(∀ b ∈ fa,∃ r,b ∈ fp r)∧(∀ r,∀ b ∈ fp1 r,b ∈ fp r)∧ShpLe st st'∧LentS a args os ss
  | [],[],F,fp,X,st,st',vs,ss,h,_,ha=>by
    simp only [St.args1,Option.some.injEq,Prod.mk.injEq] at ha
    obtain ⟨rfl,rfl,rfl⟩:=ha
    exact ⟨F,fp,[],h,rfl,fun _ h=>h,fun _ h=>.inl h,by simp,fun _ _ h=>h,.refl _,rfl⟩
  | [],_::_,_,_,_,_,_,_,_,_,hk,_=>hk.elim
  | (_,_)::_,[],_,_,_,_,_,_,_,_,hk,_=>hk.elim
  | (m,x)::r,o::os,F,fp,X,st,st',vs,ss,h,hk,ha=>by
    obtain ⟨hx,hr⟩:=hk
    simp only [St.args1] at ha
    cases h1:st.arg1 m x with
    | none=>simp [h1] at ha
    | some p1 =>
    obtain ⟨v,st1⟩:=p1
    simp only [h1] at ha
    cases h2:st1.args1 r with
    | none=>simp [h2] at ha
    | some p2 =>
    obtain ⟨vs2,st2,ss2⟩:=p2
    simp only [h2,Option.some.injEq,Prod.mk.injEq] at ha
    obtain ⟨rfl,rfl,rfl⟩:=ha
    obtain ⟨F1,fp1,fa,k1,k2,k3,k4,k5,k6,k7⟩:=arg1_rel h hx h1
    obtain ⟨F2,fp2,fb,q1,q2,q3,q4,q5,q6,q7,q8⟩:=args1_rel k1 hr h2
    refine ⟨F2,fp2,fa++fb,q1.perm ?_,?_,fun b hb=>q3 b (k3 b hb),fun b hb=>?_,fun b hb=>?_,fun r b hb=>k6 r b (q6 r b hb),k7.trans q7,?_⟩
    · rw [← List.append_assoc]
      exact List.Perm.append_right X List.perm_append_comm
    · cases v with
      | none =>
        have:fa=[]:=k2
        subst this
        exact q2
      | some v =>
        exact ⟨fa,fb,rfl,⟨RA.frame k2 (fun _ _=>rfl) (fun _ _=>rfl) q3 (fun l k hb=>⟨rfl,q7.box hb⟩),k2.2⟩,q2⟩
    · rcases q4 b hb with h5 | ⟨r,h5⟩
      · exact k4 b h5
      · exact .inr ⟨r,k6 r b h5⟩
    · rcases List.mem_append.1 hb with h5 | h5
      · exact k5 b h5
      · obtain ⟨r,h6⟩:=q5 b h5
        exact ⟨r,k6 r b h6⟩
    · cases m with
      | val=>exact q8
      | rd=>exact q8
      | rv=>exact q8
      | tk=>exact q8
      | ld =>
        obtain ⟨s,c,l1,l2⟩:=arg1_lent h hx h1
        exact ⟨s,c,ss2,by rw [l1];rfl,l2,q8⟩
def Still (F:Nat→Prop) (fp:Fp) (b:Bool):Nat→Prop:=fun c=>F c ∨ (b=true∧∃ r,c ∈ fp r)
theorem seen_rel (h:Rel cx w F ρ fp X st tm) {x y:IV} {u:Value} {b:Bool} (hx:RC cx w F ρ st (look st tm ρ w) x u []) (hs:st.seen x=some (y,b)) :
    RC cx w (Still F fp b) ρ st noLk y u []∧y.isD=true:=by
  unfold St.seen at hs
  split at hs
  · rename_i hp
    simp only [Option.some.injEq,Prod.mk.injEq] at hs
    obtain ⟨rfl,rfl⟩:=hs
    have hd:x.isD=true:=by cases x <;> simp_all [IV.plain1,IV.isD]
    exact ⟨(hx.toNo hd).tr (live:=fun _ _ _=>True) ⟨fun _ _ _ _ _ _ _ _ _ _ _ h=>by simp [noLk] at h,fun _ _=>rfl,fun b hb=>.inl hb,fun _ _ h=>⟨rfl,h⟩⟩ (fun _ _ _ _=>trivial) (fun _ _=>rfl),hd⟩
  · rename_i hnp
    split at hs
    rotate_left
    · cases hs
    rename_i e es hv
    simp only [Option.some.injEq,Prod.mk.injEq] at hs
    obtain ⟨rfl,rfl⟩:=hs
    refine ⟨.inr ?_,rfl⟩
    unfold St.sview at hv
    split at hv
    · simp [IV.plain1] at hnp
    · rename_i r c p e0 off n clip
      split at hv
      rotate_left
      · cases hv
      rename_i e1 es1 hp
      split at hv
      rotate_left
      · cases hv
      rename_i hoff
      simp only [Option.some.injEq,Prod.mk.injEq] at hv
      obtain ⟨rfl,rfl⟩:=hv
      rcases hx with ⟨hx,_⟩ | hx
      rotate_left
      · cases hx
      obtain ⟨x0,v0,es2,A,N,cap,A',cap',k1,k2,k3,rfl,k5,k6,k7,k8⟩:=hx
      have hp':=look_plc h k1 k2
      rw [hp] at hp'
      cases hp'
      obtain ⟨e3,es3,rfl⟩:=folR_own k2
      obtain ⟨f0,g1,g2,g3⟩:=h.data k1 (folR_slice k2)
      obtain ⟨u0,a1,g,a2,hfu,hfe,hRn,_⟩:=g3.fol (folR_fol k2)
      rw [k2] at hfu
      simp only [Option.some.injEq,Prod.mk.injEq,true_and] at hfu
      subst hfu
      obtain ⟨g',hR',hsub,hnd⟩:=own_sub hRn k3 k5 k6 k8.1
      have hfz:=hR'.freeze
      simp only [frzL,frzV] at hfz
      exact hfz.frame (fun _ _=>rfl) (fun _ _=>rfl) (fun b hb=>hb.imp id (fun hb=>⟨rfl,r,g1 b (by rw [hfe];simp [hsub b hb])⟩))
    · cases hv
end
end Go.Idl
namespace Go.Idl
open Go
section
variable {cx:Cx} {w w':World} {F F' F1:Nat→Prop} {ρ ρ':Rho} {fp fp' fp1:Fp} {X X' f f' f1 f2 fa:List Nat} {st st' st1:St} {a:Act} {o:Oper} {tm:Nat→Value} {v:IV}
theorem RC.more {x u} (h:RC cx w F ρ st noLk x u f) (hFF:∀ b,F b→F' b):RC cx w F' ρ st noLk x u f :=
  h.tr (live:=fun _ _ _=>True) ⟨fun _ _ _ _ _ _ _ _ _ _ _ h=>by simp [noLk] at h,fun _ _=>rfl,hFF,fun _ _ h=>⟨rfl,h⟩⟩ (fun _ _ _ _=>trivial) (fun _ _=>rfl)
theorem RA.more {x u} (h:RA cx w F ρ st x u f) (hFF:∀ b,F b→F' b):RA cx w F' ρ st x u f :=
  ⟨h.frame (fun _ _=>rfl) (fun _ _=>rfl) hFF (fun _ _ h=>⟨rfl,h⟩),h.2⟩
theorem Still.or {b c:Bool} {k} (h:Still F fp b k):Still F fp (b || c) k:=h.imp id (fun h=>⟨by simp [h.1],h.2⟩)
theorem Still.or' {b c:Bool} {k} (h:Still F fp c k):Still F fp (b || c) k:=h.imp id (fun h=>⟨by simp [h.1],h.2⟩)
theorem seens_rel (h:Rel cx w F ρ fp X st tm):∀ {xs ys:List IV} {us:List Value} {b:Bool} {g:List Nat},Cat (RC cx w F ρ st (look st tm ρ w)) xs us g→g=[]→st.seens xs=some (ys,b) →
    Cat (RC cx w (Still F fp b) ρ st noLk) ys us []∧ys.all IV.isD=true
  | [],ys,us,b,g,hc,_,hs=>by
    simp only [St.seens,Option.some.injEq,Prod.mk.injEq] at hs
    obtain ⟨rfl,rfl⟩:=hs
    rw [hc.nil_inv.1];exact ⟨.nil,rfl⟩
  | x::xs,ys,us,b,g,hc,hg,hs=>by
    simp only [St.seens] at hs
    cases h1:st.seen x with
    | none=>simp [h1] at hs
    | some p1 =>
    obtain ⟨y,b1⟩:=p1
    simp only [h1] at hs
    cases h2:st.seens xs with
    | none=>simp [h2] at hs
    | some p2 =>
    obtain ⟨ys2,b2⟩:=p2
    simp only [h2,Option.some.injEq,Prod.mk.injEq] at hs
    obtain ⟨rfl,rfl⟩:=hs
    cases hc with
    | @cons _ u g1 _ us g2 hx t =>
    obtain ⟨rfl,rfl⟩:=List.append_eq_nil_iff.1 hg
    obtain ⟨k1,k2⟩:=seen_rel h hx h1
    obtain ⟨q1,q2⟩:=seens_rel h t rfl h2
    refine ⟨Cat.cons (f:=[]) (fp:=[]) (k1.more fun _ h=>Still.or h) (q1.mono fun z v f _ hz _=>hz.more fun _ h=>Still.or' h),by simp [k2,q2]⟩
theorem arg2_rel (h:Rel cx w F ρ fp X st (regs a)) {m:Mode} {x:Opd} {o:Operand} (hx:okOpd cx o x) {y:IV} {b:Bool} (ha:st.arg2 m x=some (y,b)):RA cx w (Still F fp b) ρ st y (a.eval o) []:=by
  have hr:=rd_rel h hx
  have one:∀ z,rd st.T x=z→(∀ cs,z ≠ .agg cs)→st.seen z=some (y,b)→RA cx w (Still F fp b) ρ st y (a.eval o) []:=by
    intro z hz hna hs
    rw [hz] at hr
    have hrc:RC cx w F ρ st (look st (regs a) ρ w) z (a.eval o) []:=rslot_rc hr hna (fun vs hc=>by rw [hc] at hs;simp [St.seen,IV.plain1,St.sview] at hs) (fun hc=>by rw [hc] at hs;simp [St.seen,IV.plain1,St.sview] at hs)
    obtain ⟨k1,k2⟩:=seen_rel h hrc hs
    refine ⟨?_,?_⟩
    · cases y with
      | agg cs=>simp [IV.isD] at k2
      | un=>simp [IV.isD] at k2
      | _=>exact k1
    · cases y with
      | agg cs=>simp [IV.isD] at k2
      | _=>exact k2
  cases m with
  | val =>
    simp only [St.arg2] at ha
    split at ha
    rotate_left
    · cases ha
    rename_i hp
    simp only [Option.some.injEq,Prod.mk.injEq] at ha
    obtain ⟨rfl,rfl⟩:=ha
    cases hz:rd st.T x with
    | agg cs =>
      rw [hz] at hr hp
      obtain ⟨C,hC,hc⟩:=hr
      have hd:∀ z ∈ cs,z.isD=true:=fun z hzm=>by
        have:=List.all_eq_true.1 hp z hzm
        cases z <;> simp_all [IV.plain1,IV.isD]
      exact ⟨⟨C,hC,hc.mono fun z v f _ hz hm=>(hz.toNo (hd z hm)).more fun _ h=>.inl h⟩,List.all_eq_true.2 hd⟩
    | _ =>
      have hs:st.seen (rd st.T x)=some (rd st.T x,false):=by
        rw [hz] at hp ⊢
        unfold St.seen;rw [if_pos (by simpa [IV.plain] using hp)]
      rw [← hz]
      exact one _ rfl (fun cs hc=>by rw [hz] at hc;cases hc) hs
  | rd =>
    simp only [St.arg2] at ha
    split at ha
    · rename_i cs hz
      split at ha
      rotate_left
      · cases ha
      rename_i cs2 b2 hs
      simp only [Option.some.injEq,Prod.mk.injEq] at ha
      obtain ⟨rfl,rfl⟩:=ha
      rw [hz] at hr
      obtain ⟨C,hC,hc⟩:=hr
      obtain ⟨q1,q2⟩:=seens_rel h hc rfl hs
      exact ⟨⟨C,hC,q1⟩,q2⟩
    · rename_i z hna
      exact one _ rfl (fun cs hc=>hna cs hc) ha
  | rv =>
    simp only [St.arg2] at ha
    split at ha
    · rename_i cs hz
      split at ha
      rotate_left
      · cases ha
      rename_i cs2 b2 hs
      simp only [Option.some.injEq,Prod.mk.injEq] at ha
      obtain ⟨rfl,rfl⟩:=ha
      rw [hz] at hr
      obtain ⟨C,hC,hc⟩:=hr
      obtain ⟨q1,q2⟩:=seens_rel h hc rfl hs
      exact ⟨⟨C,hC,q1⟩,q2⟩
    · rename_i z hna
      exact one _ rfl (fun cs hc=>hna cs hc) ha
  | tk=>simp [St.arg2] at ha
  | ld=>simp [St.arg2] at ha
theorem args2_rel (h:Rel cx w F ρ fp X st (regs a)):∀ {args:List (Mode×Opd)} {os:List Operand} {vs:List (Option IV)} {fa:List Nat} {ys:List IV} {b:Bool},okArgs cx args os→Args1 cx w F ρ st a vs os fa→st.args2 args vs=some (ys,b) →
    Cat (RA cx w (Still F fp b) ρ st) ys (os.map a.eval) fa
  | [],os,vs,fa,ys,b,hk,h1,ha=>by
    cases os with
    | cons _ _=>exact hk.elim
    | nil =>
    cases vs with
    | cons v _=>cases v <;> exact h1.elim
    | nil =>
    simp only [St.args2,Option.some.injEq,Prod.mk.injEq] at ha
    obtain ⟨rfl,rfl⟩:=ha
    have:fa=[]:=h1
    subst this
    exact .nil
  | (m,x)::r,os,vs,fa,ys,b,hk,h1,ha=>by
    cases os with
    | nil=>exact hk.elim
    | cons o os =>
    obtain ⟨hx,hr⟩:=hk
    cases vs with
    | nil=>exact h1.elim
    | cons v vs =>
    cases v with
    | some v =>
      obtain ⟨g1,g2,rfl,k1,k2⟩:=h1
      simp only [St.args2] at ha
      cases h2:st.args2 r vs with
      | none=>simp [h2] at ha
      | some p =>
      obtain ⟨ys2,b2⟩:=p
      simp only [h2,Option.some.injEq,Prod.mk.injEq] at ha
      obtain ⟨rfl,rfl⟩:=ha
      exact .cons (k1.more fun _ h=>.inl h) (args2_rel h hr k2 h2)
    | none =>
      have k2:Args1 cx w F ρ st a vs os fa:=h1
      simp only [St.args2] at ha
      cases h3:st.arg2 m x with
      | none=>simp [h3] at ha
      | some p3 =>
      obtain ⟨y,b1⟩:=p3
      simp only [h3] at ha
      cases h2:st.args2 r vs with
      | none=>simp [h2] at ha
      | some p =>
      obtain ⟨ys2,b2⟩:=p
      simp only [h2,Option.some.injEq,Prod.mk.injEq] at ha
      obtain ⟨rfl,rfl⟩:=ha
      have q:=args2_rel h hr k2 h2
      exact Cat.cons (f:=[]) ((arg2_rel h hx h3).more fun _ h=>Still.or h) (q.mono fun z v f _ hz _=>hz.more fun _ h=>Still.or' h)
def argSt (args:List IV) (M:List Boxes):St:={ T:=args.zipIdx.map fun (v,i)=>(i,v),loc:=[],M:=M }
def argTm (vs:List Value):Nat→Value:=fun s=>vs.getD s undef
theorem tget_args (args:List IV) (M:List Boxes) (s:Nat):tget (argSt args M).T s=(args[s]?).getD .un:=by
  unfold argSt
  suffices ∀ (l:List IV) (k:Nat),tget ((l.zipIdx k).map fun (v,i)=>(i,v)) s=if k≤s then (l[s - k]?).getD .un else .un by
    have:=this args 0
    simpa using this
  intro l
  induction l with
  | nil=>intro k;simp [tget]
  | cons x l ih =>
    intro k
    simp only [List.zipIdx_cons,List.map_cons,tget,ih]
    by_cases hk:k=s
    · subst hk;simp
    · rw [if_neg hk]
      by_cases h1:k+1≤s
      · rw [if_pos h1,if_pos (by omega),show s - k=(s - (k+1))+1 by omega];simp
      · rw [if_neg h1,if_neg (by omega)]
end
end Go.Idl
namespace Go.Idl
open Go
theorem Cat.fps {R:IV→Value→List Nat→Prop} {xs vs fq} (h:Cat R xs vs fq):∃ φ:Nat→List Nat,(∀ (i:Nat) (x:IV) (v:Value),xs[i]? = some x→vs[i]? = some v→R x v (φ i))∧(∀ i,xs.length≤i→φ i=[])∧(∀ i,∀ b ∈ φ i,b ∈ fq) ∧
    (fq.Nodup→(∀ i,(φ i).Nodup)∧∀ i j,i ≠ j→∀ b ∈ φ i,b ∉ φ j):=by
  induction h with
  | nil=>exact ⟨fun _=>[],by simp,by simp,by simp,fun _=>⟨by simp,by simp⟩⟩
  | @cons x v f xs vs fp h t ih =>
    obtain ⟨φ,h1,h2,h3,h4⟩:=ih
    refine ⟨fun i=>match i with | 0=>f | i+1=>φ i,fun i y u hy hu=>?_,fun i hi=>?_,fun i b hb=>?_,fun hn=>?_⟩
    · cases i with
      | zero=>simp at hy hu;subst hy hu;exact h
      | succ i=>exact h1 i y u (by simpa using hy) (by simpa using hu)
    · cases i with
      | zero=>simp at hi
      | succ i=>exact h2 i (by simpa using hi)
    · cases i with
      | zero=>simp only at hb;simp [hb]
      | succ i=>have:=h3 i b hb;simp [this]
    · obtain ⟨n1,n2,n3⟩:=List.nodup_append.1 hn
      obtain ⟨k1,k2⟩:=h4 n2
      refine ⟨fun i=>?_,fun i j hij b hb hb'=>?_⟩
      · cases i with
        | zero=>exact n1
        | succ i=>exact k1 i
      · cases i with
        | zero =>
          cases j with
          | zero=>exact hij rfl
          | succ j=>exact n3 b hb b (h3 j b hb') rfl
        | succ i =>
          cases j with
          | zero=>exact n3 b hb' b (h3 i b hb) rfl
          | succ j=>exact k2 i j (fun h=>hij (by rw [h])) b hb hb'
section
variable {cx:Cx} {w w':World} {F F' F0 F1:Nat→Prop} {ρ ρ':Rho} {fp fp' fp1:Fp} {X X' f f' f1 f2 fa:List Nat} {st st' st1:St} {a:Act} {o:Oper} {tm:Nat→Value} {v:IV}
theorem RA.freed {x u} (h:RA cx w F ρ st x u f) (hx:x.free=true) {lk}:RComp cx w F ρ' st' lk x u f:=by
  have one:∀ {x u f},RC cx w F ρ st noLk x u f→x.free1=true→x.isD=true→RC cx w F ρ' st' lk x u f:=by
    intro x u f hx hf hd
    rcases hx with ⟨hx,rfl⟩ | hx
    · cases x with
      | fn g caps =>
        have:caps=[]:=by simpa [IV.free1] using hf
        subst this
        obtain ⟨cvs,h1,h2⟩:=hx
        obtain ⟨rfl,_⟩:=h2.nil_inv
        exact .inl ⟨⟨[],h1,.nil⟩,rfl⟩
      | bptr l k c=>simp [IV.free1] at hf
      | _=>first | exact hx.elim | simp [IV.isD] at hd
    · exact .inr hx
  obtain ⟨h1,h2⟩:=h
  cases x with
  | agg cs =>
    obtain ⟨C,rfl,hc⟩:=h1
    exact ⟨C,rfl,hc.mono fun z v f _ hz hm=>one hz (List.all_eq_true.1 hx z hm) (List.all_eq_true.1 h2 z hm)⟩
  | sc u=>exact one h1 hx h2
  | lst e es c=>exact one h1 hx h2
  | own e es=>exact one h1 hx h2
  | bptr l k c=>exact one h1 hx h2
  | fn g cs=>exact one h1 hx h2
  | _=>simp [IV.isA,IV.isD] at h2
theorem rcomp_un {lk u}:RSlot cx w F ρ st lk .un u []:=rfl
theorem args_slots {ys:List IV} {us:List Value} {R:IV→Value→List Nat→Prop} (hc:Cat R ys us fa) {M:List Boxes} (hR:∀ x v f,R x v f→RSlot cx w F0 ρ' (argSt ys M) (look (argSt ys M) (argTm us) ρ' w) x v f) :
    ∃ φ:Nat→List Nat,(∀ s,RSlot cx w F0 ρ' (argSt ys M) (look (argSt ys M) (argTm us) ρ' w) (tget (argSt ys M).T s) (argTm us s) (φ s))∧(∀ i,∀ b ∈ φ i,b ∈ fa)∧(fa.Nodup→(∀ i,(φ i).Nodup)∧∀ i j,i ≠ j→∀ b ∈ φ i,b ∉ φ j):=by
  obtain ⟨φ,h1,h2,h3,h4⟩:=hc.fps
  refine ⟨φ,fun s=>?_,h3,h4⟩
  rw [tget_args]
  have hl:=hc.len
  rcases Nat.lt_or_ge s ys.length with hs | hs
  · have e1:ys[s]? = some ys[s]:=List.getElem?_eq_getElem hs
    have hs':s < us.length:=by omega
    have e2:us[s]? = some us[s]:=List.getElem?_eq_getElem hs'
    have:=hR _ _ _ (h1 s _ _ e1 e2)
    rw [e1]
    simp only [Option.getD_some,argTm,List.getD_eq_getElem?_getD,e2]
    exact this
  · rw [List.getElem?_eq_none hs,h2 s hs];exact rcomp_un
theorem Rel.enterP (h:Rel cx w F ρ fp (fa++X) st tm) {b:Bool} {ys:List IV} {us:List Value} (hc:Cat (RA cx w (Still F fp b) ρ st) ys us fa) (hf:ys.all IV.free=true) :
    ∃ fp0:Fp,Rel cx w (Still F fp b) ρ fp0 [] (argSt ys []) (argTm us)∧∀ r,∀ k ∈ fp0 r,k ∈ fa:=by
  have hX:=List.nodup_append.1 h.xnodup
  have hc':Cat (fun x v f=>RA cx w (Still F fp b) ρ st x v f∧x.free=true) ys us fa:=hc.mono fun x v f _ hx hm=>⟨hx,List.all_eq_true.1 hf x hm⟩
  obtain ⟨φ,k1,k2,k3⟩:=args_slots (cx:=cx) (w:=w) (F0:=Still F fp b) (ρ':=ρ) (M:=[]) hc' (fun x v f hx=>rcomp_slot (hx.1.freed hx.2))
  obtain ⟨k4,k5⟩:=k3 hX.1
  have hbox:∀ l k,(argSt ys []).box l k=none:=fun l k=>by simp [St.box,argSt]
  have hfa:∀ k ∈ fa,k ∈ fa++X:=fun k hk=>by simp [hk]
  refine ⟨(fun r=>match r with | .S s=>φ s | .B ..=>[]),⟨k1,fun l k cs hb=>(by rw [hbox] at hb;cases hb),fun _ _ _=>rfl,fun r=>?_,fun r r' hr k hk hk'=>?_,fun r k hk=>?_,fun r k hk=>?_,fun k hk=>?_,.nil,fun _ _ _=>(by simp),fun _ h=>(by simp at h),fun _ h=>(by simp at h)⟩,fun r k hk=>?_⟩
  · cases r with
    | S s=>exact k4 s
    | B l k=>exact .nil
  · cases r with
    | B l k=>cases hk
    | S s =>
      cases r' with
      | B l k=>cases hk'
      | S s'=>exact k5 s s' (fun hc=>hr (by rw [hc])) k hk hk'
  · cases r with
    | B l k=>cases hk
    | S s =>
      intro hF
      rcases hF with hF | ⟨_,r,hr⟩
      · exact h.xF k (hfa k (k2 s k hk)) hF
      · exact h.xdisj r k hr (hfa k (k2 s k hk))
  · cases r with
    | B l k=>cases hk
    | S s=>exact h.xlt k (hfa k (k2 s k hk))
  · rcases hk with hk | ⟨_,r,hr⟩
    · exact h.Flt k hk
    · exact h.lt r k hr
  · cases r with
    | B l k=>cases hk
    | S s=>exact k2 s k hk
end
end Go.Idl
namespace Go.Idl
open Go
def IV.isRet:IV→Bool
  | .tup vs=>vs.all IV.isA
  | x=>x.isA
def BackV (w:World) (F:Nat→Prop) (v:Value):IV→List Nat→Prop
  | .agg cs,f=>∃ C:Array Value,v=.agg C∧RDs w F cs C.toList f
  | y,f=>RDs w F [y] [v] f
def BackR (w:World) (F:Nat→Prop) (vs:List Value):List Nat→List IV→List Nat→Prop
  | [],[],f=>f=[]
  | i::ls,y::ys,f=>∃ f1 f2,f=f1++f2∧BackV w F (vs.getD i undef) y f1∧BackR w F vs ls ys f2
  | _,_,_=>False
def retSt (r:Ret):St:={ T:=[(0,r.v)],loc:=r.exp,M:=r.M }
def retTm (v':Value):Nat→Value:=fun s=>if s=0 then v' else undef
def RetPost (cx:Cx) (w:World) (F:Nat→Prop) (ρ:Rho) (fp:Fp) (M:List Boxes) (lent:List Nat) (vs:List Value) (r:Ret) (e:Ending) (w':World):Prop :=
  ∃ v' F' ρ' fp' Xb,e=.returned v'∧Rel cx w' F' ρ' fp' Xb (retSt r) (retTm v')∧Ext w F ρ fp [] (fun l k=>(({ T:=[],loc:=[],M:=M }:St).box l k).isSome=true) w' F' ρ' fp' Xb ∧
    r.M.map List.length=M.map List.length∧BackR w' F' vs lent r.back Xb∧r.v.isRet=true∧r.exp.all (·.all IV.isData)=true
def EnterOK (P:Program) (f:FuncId):Prop:=∃ fn,P.funcs[f]? = some fn∧(fn.name == "runtime.NumGoroutine")=false∧fn.body.isNone=false
def CallOK (cx:Cx) (cf:CF):Prop:=∀ f lent args M r,cf f lent args M=some r→EnterOK cx.P (cx.fid f)∧∀ w F ρ fp vs,vs.length=args.length→Rel cx w F ρ fp [] (argSt args M) (argTm vs) →
  Calls cx.P (cx.fid f) vs.toArray w (RetPost cx w F ρ fp M lent vs r)
section
variable {cx:Cx} {w w':World} {F F' F0 F1:Nat→Prop} {ρ ρ':Rho} {fp fp' fp1:Fp} {X X' f f' f1 f2 fa:List Nat} {st st' st1:St} {a:Act} {o:Oper} {tm:Nat→Value} {v:IV}
theorem RC.nobox {lk lk' x u} (h:RC cx w F ρ st lk x u f) (hb:∀ l k,st.box l k=none) (hd:x.isD=true) (hF:(∀ b,F b→F' b) ∨ noLstL [x]=true):RC cx w F' ρ' st' lk' x u f:=by
  rcases h with ⟨h,rfl⟩ | h
  · cases x with
    | bptr l k c=>have:=h.2;rw [hb] at this;cases this
    | fn g caps =>
      obtain ⟨cvs,h1,h2⟩:=h
      cases caps with
      | nil=>obtain ⟨rfl,_⟩:=h2.nil_inv;exact .inl ⟨⟨[],h1,.nil⟩,rfl⟩
      | cons c cs =>
        generalize hq:([]:List Nat)=q at h2
        cases h2 with
        | cons hc t =>
          obtain ⟨hc,_⟩:=hc
          cases c with
          | bptr l k c=>have:=hc.2;rw [hb] at this;cases this
          | _=>exact hc.elim
    | _=>first | exact h.elim | simp [IV.isD] at hd
  · rcases hF with hF | hF
    · exact .inr (h.frame (fun _ _=>rfl) (fun _ _=>rfl) hF)
    · exact .inr (h.noLst hF)
theorem RComp.nobox {lk lk' x u} (h:RComp cx w F ρ st lk x u f) (hb:∀ l k,st.box l k=none) (hd:x.isA=true) (hF:(∀ b,F b→F' b) ∨ noLstV x=true):RComp cx w F' ρ' st' lk' x u f:=by
  have one:∀ {z:IV},noLstV z=true→noLstL [z]=true:=fun hz=>by simp [noLstL,hz]
  cases x with
  | agg cs =>
    obtain ⟨C,rfl,hc⟩:=h
    refine ⟨C,rfl,hc.mono fun z v f _ hz hm=>hz.nobox hb (List.all_eq_true.1 hd z hm) (hF.imp id fun hn=>one ?_)⟩
    have:∀ {l:List IV},noLstL l=true→∀ z ∈ l,noLstV z=true:=by
      intro l
      induction l with
      | nil=>simp
      | cons y l ih =>
        intro hl z hz
        simp only [noLstL,Bool.and_eq_true] at hl
        rcases List.mem_cons.1 hz with rfl | hz
        · exact hl.1
        · exact ih hl.2 z hz
    exact this (by simpa [noLstV] using hn) z hm
  | sc u=>exact RC.nobox (x:=.sc u) h hb hd (hF.imp id one)
  | lst e es c=>exact RC.nobox (x:=.lst e es c) h hb hd (hF.imp id one)
  | own e es=>exact RC.nobox (x:=.own e es) h hb hd (hF.imp id one)
  | bptr l k c=>exact RC.nobox (x:=.bptr l k c) h hb hd (hF.imp id one)
  | fn g cs=>exact RC.nobox (x:=.fn g cs) h hb hd (hF.imp id one)
  | _=>simp [IV.isA,IV.isD] at hd
theorem RSlot.nobox {lk lk' x u} (h:RSlot cx w F ρ st lk x u f) (hb:∀ l k,st.box l k=none) (hd:x.isRet=true) (hF:(∀ b,F b→F' b) ∨ noLstV x=true):RSlot cx w F' ρ' st' lk' x u f:=by
  cases x with
  | tup vs =>
    obtain ⟨C,rfl,hc⟩:=h
    refine ⟨C,rfl,hc.mono fun z v f _ hz hm=>hz.nobox hb (List.all_eq_true.1 hd z hm) (hF.imp id fun hn=>?_)⟩
    have:∀ {l:List IV},noLstL l=true→∀ z ∈ l,noLstV z=true:=by
      intro l
      induction l with
      | nil=>simp
      | cons y l ih =>
        intro hl z hz
        simp only [noLstL,Bool.and_eq_true] at hl
        rcases List.mem_cons.1 hz with rfl | hz
        · exact hl.1
        · exact ih hl.2 z hz
    exact this (by simpa [noLstV] using hn) z hm
  | un=>simp [IV.isRet,IV.isA,IV.isD] at hd
  | _=>exact rcomp_slot (RComp.nobox h hb hd hF)
theorem call_pure {cf:CF} (hcf:CallOK cx cf) (h:Rel cx w F ρ fp (fa++X) st tm) {b:Bool} {ys:List IV} {us:List Value} (hc:Cat (RA cx w (Still F fp b) ρ st) ys us fa) (hf:ys.all IV.free=true) {g:Lab}
    (hr:cf g [] ys []=some ⟨v,[],[],[]⟩) (hb:b=true→noLstV v=true) :
    Calls cx.P (cx.fid g) us.toArray w (fun e w'=>∃ v' F' fv,e=.returned v'∧Rel cx w' F' ρ fp (fv++X) st tm∧RSlot cx w' F' ρ st (look st tm ρ w') v v' fv∧v.isRet=true ∧
      (∀ ex,Ext w F ρ fp (fa++X) ex w' F' ρ fp (fv++X))∧Tr w F ρ st (look st tm ρ w) w' F' ρ st (look st tm ρ w') (fun _ _ _=>True)):=by
  obtain ⟨fp0,h0,hfp0⟩:=h.enterP hc hf
  refine ((hcf g [] ys [] _ hr).2 w _ ρ fp0 us hc.len.symm h0).mono ?_
  rintro e w' ⟨v',F',ρ',fp',Xb,rfl,q1,q2,q3,q4,q5,-⟩
  have hXb:Xb=[]:=q4
  subst hXb
  have hX:=List.nodup_append.1 h.xnodup
  have hfaX:∀ k ∈ fa,k ∈ fa++X:=fun k hk=>by simp [hk]
  have hXX:∀ k ∈ X,k ∈ fa++X:=fun k hk=>by simp [hk]
  have hkeep:∀ k,k < w.heap.size→k ∉ fa++X→w'.heap[k]? = w.heap[k]?:=fun k hk hn=>q2.keep k hk (fun r hr=>hn (hfaX k (hfp0 r k hr))) (by simp)
  obtain ⟨g1,gtr⟩:=h.grow hkeep q2.size (Y:=[]) .nil (by simp)
  have hFF:∀ k,F k→F' k:=fun k hk=>q2.Fm k (.inl hk)
  let F'':Nat→Prop:=fun k=>F k ∨ (b=false∧F' k)
  have hF''F':∀ k,F'' k→F' k:=fun k hk=>hk.elim (hFF k) (·.2)
  have hFn:∀ k,b=false→F' k→F k ∨ k ∈ fa ∨ w.heap.size≤k:=fun k hb0 hk=>by
    rcases q2.Fn k hk with h1 | ⟨r,h1⟩ | h1 | h1
    · rcases h1 with h1 | ⟨h1,_⟩
      · exact .inl h1
      · rw [hb0] at h1;cases h1
    · exact .inr (.inl (hfp0 r k h1))
    · cases h1
    · exact .inr (.inr h1)
  have hfv:∀ k ∈ fp' (.S 0),k ∈ fa ∨ w.heap.size≤k:=fun k hk=>by
    rcases q2.fpn _ k hk with ⟨r,h1⟩ | h1 | h1
    · exact .inl (hfp0 r k h1)
    · cases h1
    · exact .inr h1
  have g2:Rel cx w' F'' ρ fp (fp' (.S 0)++X) st tm:=by
    refine g1.reX (fun _ h=>.inl h) (fun r k hk hF=>?_) (fun k hk=>q1.Flt k (hF''F' k hk)) ?_ (fun r k hk hx=>?_) (fun k hk hF=>?_) (fun k hk=>?_)
    · rcases hF with hF | ⟨hb0,hF⟩
      · exact h.notF r k hk hF
      · rcases hFn k hb0 hF with h1 | h1 | h1
        · exact h.notF r k hk h1
        · exact h.xdisj r k hk (hfaX k h1)
        · have:=h.lt r k hk;omega
    · rw [List.nodup_append]
      refine ⟨q1.nodup _,hX.2.1,fun x hx y hy hxy=>?_⟩
      subst hxy
      rcases hfv x hx with h1 | h1
      · exact hX.2.2 x h1 x hy rfl
      · have:=h.xlt x (hXX x hy);omega
    · rcases List.mem_append.1 hx with hx | hx
      · rcases hfv k hx with h1 | h1
        · exact h.xdisj r k hk (hfaX k h1)
        · have:=h.lt r k hk;omega
      · exact h.xdisj r k hk (hXX k hx)
    · rcases List.mem_append.1 hk with hk | hk
      · exact q1.notF _ k hk (hF''F' k hF)
      · rcases hF with hF | ⟨hb0,hF⟩
        · exact h.xF k (hXX k hk) hF
        · rcases hFn k hb0 hF with h1 | h1 | h1
          · exact h.xF k (hXX k hk) h1
          · exact hX.2.2 k h1 k hk rfl
          · have:=h.xlt k (hXX k hk);omega
    · rcases List.mem_append.1 hk with hk | hk
      · exact q1.lt _ k hk
      · have:=h.xlt k (hXX k hk);have:=q2.size;omega
  have hbox:∀ l k,(retSt ⟨v,[],[],[]⟩).box l k=none:=fun l k=>by
    simp [St.box,retSt]
  have hs:=q1.slots 0
  have hs':RSlot cx w' F' ρ' (retSt ⟨v,[],[],[]⟩) (look (retSt ⟨v,[],[],[]⟩) (retTm v') ρ' w') v v' (fp' (.S 0)):=hs
  refine ⟨v',F'',fp' (.S 0),rfl,g2,hs'.nobox hbox q5 ?_,q5,fun ex=>⟨q2.size,fun k hk hr hx=>hkeep k hk hx,fun r k hk=>.inl ⟨r,hk⟩,fun k hk=>?_,fun k hk=>.inl hk,fun k hk=>?_,fun _ _ _=>rfl,q2.env⟩,?_⟩
  · cases hb0:b with
    | true=>exact .inr (hb hb0)
    | false=>exact .inl (fun k hk=>.inr ⟨hb0,hk⟩)
  · rcases List.mem_append.1 hk with hk | hk
    · rcases hfv k hk with h1 | h1
      · exact .inr (.inl (hfaX k h1))
      · exact .inr (.inr h1)
    · exact .inr (.inl (hXX k hk))
  · rcases hk with hk | ⟨hb0,hk⟩
    · exact .inl hk
    · rcases hFn k hb0 hk with h1 | h1 | h1
      · exact .inl h1
      · exact .inr (.inr (.inl (hfaX k h1)))
      · exact .inr (.inr (.inr h1))
  · exact ⟨gtr.ref,gtr.fz,fun k hk=>.inl hk,gtr.bx⟩
end
end Go.Idl
namespace Go.Idl
open Go
theorem box_enter (st:St) (ys:List IV) (l k:Nat):(argSt ys (st.M++[st.loc])).box l k=st.box l k:=by
  unfold St.box argSt
  simp only [List.length_append,List.length_cons,List.length_nil,Nat.zero_add]
  by_cases h1:l=st.M.length
  · subst h1
    rw [if_neg (by omega),if_pos rfl]
    simp
  · rw [if_neg h1]
    by_cases h2:l=st.M.length+1
    · subst h2
      rw [if_pos rfl]
      rw [List.getElem?_eq_none (show st.M.length≤st.M.length+1 by omega)];simp
    · rw [if_neg h2]
      rcases Nat.lt_or_ge l st.M.length with h3 | h3
      · rw [List.getElem?_append_left h3]
      · rw [List.getElem?_eq_none (by simp;omega),List.getElem?_eq_none h3]
section
variable {cx:Cx} {w w':World} {F F' F0 F1:Nat→Prop} {ρ ρ':Rho} {fp fp' fp1:Fp} {X X' f f' f1 f2 fa:List Nat} {st st' st1:St} {a:Act} {o:Oper} {tm:Nat→Value} {v:IV}
theorem Rel.enterB (h:Rel cx w F ρ fp (fa++X) st tm) {ys:List IV} {us:List Value} (hc:Cat (RA cx w F ρ st) ys us fa) :
    ∃ fp0:Fp,Rel cx w F ρ fp0 [] (argSt ys (st.M++[st.loc])) (argTm us)∧(∀ s,∀ k ∈ fp0 (.S s),k ∈ fa)∧(∀ l k,fp0 (.B l k)=fp (.B l k)):=by
  have hX:=List.nodup_append.1 h.xnodup
  have hbx:=box_enter st ys
  obtain ⟨φ,k1,k2,k3⟩:=args_slots (cx:=cx) (w:=w) (F0:=F) (ρ':=ρ) (M:=st.M++[st.loc]) hc (fun x v f hx=>rcomp_slot (hx.frame (fun _ _=>rfl) (fun _ _=>rfl) (fun _ h=>h) (fun l k hb=>⟨rfl,by rw [hbx];exact hb⟩)))
  obtain ⟨k4,k5⟩:=k3 hX.1
  have hfa:∀ k ∈ fa,k ∈ fa++X:=fun k hk=>by simp [hk]
  have tr:Tr w F ρ st (look st tm ρ w) w F ρ (argSt ys (st.M++[st.loc])) (fun _ _=>none) (fun _ _ _=>False):=⟨fun _ _ _ h=>h.elim,fun _ _=>rfl,fun _ h=>h,fun l k hb=>⟨rfl,by rw [hbx];exact hb⟩⟩
  refine ⟨(fun r=>match r with | .S s=>φ s | .B l k=>fp (.B l k)),⟨k1,fun l k cs hb=>?_,fun l k hb=>?_,fun r=>?_,fun r r' hr k hk hk'=>?_,fun r k hk=>?_,fun r k hk=>?_,h.Flt,.nil,fun _ _ _=>(by simp),fun _ h=>(by simp at h),fun _ h=>(by simp at h)⟩,fun s k hk=>k2 s k hk,fun _ _=>rfl⟩
  · rw [hbx] at hb
    obtain ⟨C,ty,f0,q1,q2,q3⟩:=h.boxes l k cs hb
    refine ⟨C,ty,f0,q1,q2,q3.mono fun x v f _ hx _=>hx.tr tr (fun _ _=>rfl)⟩
  · rw [hbx] at hb;exact h.nobox l k hb
  · cases r with
    | S s=>exact k4 s
    | B l k=>exact h.nodup _
  · cases r with
    | B l q =>
      cases r' with
      | B l' q'=>exact h.disj _ _ hr k hk hk'
      | S s'=>exact h.xdisj _ k hk (hfa k (k2 s' k hk'))
    | S s =>
      cases r' with
      | B l q=>exact h.xdisj _ k hk' (hfa k (k2 s k hk))
      | S s'=>exact k5 s s' (fun hc=>hr (by rw [hc])) k hk hk'
  · cases r with
    | B l q=>exact h.notF _ k hk
    | S s=>exact h.xF k (hfa k (k2 s k hk))
  · cases r with
    | B l q=>exact h.lt _ k hk
    | S s=>exact h.xlt k (hfa k (k2 s k hk))
def renB (L n:Nat) (l k:Nat):Nat×Nat:=if l=L∧n≤k then (L+1,k - n) else (l,k)
theorem box_leave {r:Ret} {L:Nat} {loc:Boxes} (hM:r.M.getLast? = some loc) (hl:r.M.length=L+1) (l k:Nat) (T:Tm) :
    ({ T:=T,loc:=loc++r.exp,M:=r.M.dropLast }:St).box l k=if l≤L then (retSt r).box (renB L loc.length l k).1 (renB L loc.length l k).2 else none:=by
  have hdl:r.M.dropLast.length=L:=by simp [hl]
  have hMe:r.M=r.M.dropLast++[loc]:=by
    have hne:r.M ≠ []:=by intro h;rw [h] at hl;simp at hl
    have:=List.dropLast_concat_getLast hne
    rw [List.getLast?_eq_some_getLast hne] at hM
    simp only [Option.some.injEq] at hM
    rw [hM] at this;exact this.symm
  unfold St.box retSt renB
  simp only [hdl,hl]
  by_cases h1:l=L
  · subst h1
    simp only [if_true,Nat.le_refl,true_and]
    by_cases h2:loc.length≤k
    · rw [if_pos h2]
      simp only [if_true]
      rw [List.getElem?_append_right h2]
    · rw [if_neg h2]
      simp only
      rw [if_neg (by omega),List.getElem?_append_left (by omega)]
      have:r.M[l]? = some loc:=by
        rw [hMe,List.getElem?_append_right (by omega)];simp [hdl]
      rw [this]
  · have h1':¬ (l=L∧loc.length≤k):=fun h=>h1 h.1
    simp only [if_neg h1,if_neg h1']
    by_cases h3:l≤L
    · rw [if_pos h3,if_neg (by omega)]
      have:r.M[l]? = r.M.dropLast[l]?:=by
        conv=>lhs;rw [hMe]
        rw [List.getElem?_append_left (by omega)]
      rw [this]
    · rw [if_neg h3,List.getElem?_eq_none (by omega)]
end
end Go.Idl
namespace Go.Idl
open Go
def renV (L n:Nat):Boxes→IV→Option IV
  | [],v=>some v
  | [_],.bptr l 0 c=>if l=L+1 then some (.bptr L n c) else none
  | _,_=>none
section
variable {cx:Cx} {w w':World} {F F' F0 F1:Nat→Prop} {ρ ρ':Rho} {fp fp' fp1:Fp} {X X' f f' f1 f2 fa:List Nat} {st st' st1:St} {a:Act} {o:Oper} {tm:Nat→Value} {v:IV}
theorem RSlot.ret {lk lk' x u} (h:RSlot cx w F ρ st lk x u f) (hd:x.isRet=true) (hb:∀ l k,(st.box l k).isSome=true→ρ' l k=ρ l k∧(st'.box l k).isSome=true):RSlot cx w F ρ' st' lk' x u f:=by
  have ht:Tr w F ρ st lk w F ρ' st' lk' (fun _ _ _=>False):=⟨fun _ _ _ h=>h.elim,fun _ _=>rfl,fun _ h=>h,hb⟩
  have comp:∀ {z u g},RComp cx w F ρ st lk z u g→z.isA=true→RComp cx w F ρ' st' lk' z u g:=by
    intro z u g hz hd
    cases z with
    | agg cs =>
      obtain ⟨C,rfl,hc⟩:=hz
      refine ⟨C,rfl,hc.mono fun y v f _ hy hm=>hy.tr ht (fun r c p hr=>?_) (fun _ _=>rfl)⟩
      have:=List.all_eq_true.1 hd y hm
      cases y <;> simp_all [refAt,IV.isD]
    | sc u=>exact RC.tr (x:=.sc u) ht hz (fun r c p hr=>by simp [refAt] at hr) (fun _ _=>rfl)
    | lst e es c=>exact RC.tr (x:=.lst e es c) ht hz (fun r c p hr=>by simp [refAt] at hr) (fun _ _=>rfl)
    | own e es=>exact RC.tr (x:=.own e es) ht hz (fun r c p hr=>by simp [refAt] at hr) (fun _ _=>rfl)
    | bptr l k c=>exact RC.tr (x:=.bptr l k c) ht hz (fun r c p hr=>by simp [refAt] at hr) (fun _ _=>rfl)
    | fn g cs=>exact RC.tr (x:=.fn g cs) ht hz (fun r c p hr=>by simp [refAt] at hr) (fun _ _=>rfl)
    | _=>simp [IV.isA,IV.isD] at hd
  cases x with
  | tup vs =>
    obtain ⟨C,rfl,hc⟩:=h
    exact ⟨C,rfl,hc.mono fun z v f _ hz hm=>comp hz (List.all_eq_true.1 hd z hm)⟩
  | un=>simp [IV.isRet,IV.isA,IV.isD] at hd
  | _=>exact rcomp_slot (comp h hd)
theorem RBox.lv {l x u} (h:RBox cx w F ρ st l x u f) (hb:∀ l' k',l'≤l→(st.box l' k').isSome=true→ρ' l' k'=ρ l' k'∧(st'.box l' k').isSome=true):RBox cx w F ρ' st' l x u f:=by
  rcases h with ⟨h,h2,h3,h4⟩ | h
  · refine .inl ⟨?_,h2,h3,h4⟩
    cases x with
    | bptr l' k c =>
      obtain ⟨h5,h6⟩:=h
      have hl:l'≤l:=by simp [IV.lvl] at h2;omega
      obtain ⟨k1,k2⟩:=hb l' k hl h6
      exact ⟨by rw [k1];exact h5,k2⟩
    | fn g caps =>
      obtain ⟨cvs,h5,h6⟩:=h
      refine ⟨cvs,h5,h6.mono fun z v f _ hz hm=>⟨?_,hz.2⟩⟩
      have hz2:=List.all_eq_true.1 h2 z hm
      cases z with
      | bptr l' k c =>
        obtain ⟨⟨h5,h6⟩,_⟩:=hz
        have hl:l'≤l:=by simp at hz2;omega
        obtain ⟨k1,k2⟩:=hb l' k hl h6
        exact ⟨by rw [k1];exact h5,k2⟩
      | _=>exact hz.1.elim
    | _=>simp at h3
  · exact .inr h
theorem RBox.data {l l' x u} (h:RBox cx w F ρ st l x u f) (hx:x.isData=true):RBox cx w F ρ' st' l' x u f:=by
  rcases h with ⟨h,_⟩ | h
  · cases x <;> first | (simp [IV.isData] at hx;done) | exact h.elim
  · exact .inr h
end
end Go.Idl
namespace Go.Idl
open Go
section
variable {cx:Cx} {w w':World} {F F' F0 F1:Nat→Prop} {ρ ρ':Rho} {fp fp' fp1:Fp} {X X' f f' f1 f2 fa:List Nat} {st st' st1:St} {a:Act} {o:Oper} {tm:Nat→Value} {v:IV}
def callSt (st:St) (r:Ret) (loc:Boxes):St:={ T:=killBoxes st.T,loc:=loc++r.exp,M:=r.M.dropLast }
theorem call_box {cf:CF} (hcf:CallOK cx cf) (h:Rel cx w F ρ fp (fa++X) st tm) {ys:List IV} {us:List Value} (hc:Cat (RA cx w F ρ st) ys us fa) {g:Lab} {lent:List Nat} {r:Ret} {loc:Boxes} {v2:IV}
    (hr:cf g lent ys (st.M++[st.loc])=some r) (hgl:r.M.getLast? = some loc) (hlen:r.M.length=st.M.length+1) (hv:renV st.M.length loc.length r.exp r.v=some v2) :
    Calls cx.P (cx.fid g) us.toArray w (fun e w'=>∃ v' F' ρ2 fp2 Xb fv,e=.returned v'∧Rel cx w' F' ρ2 fp2 (fv++(Xb++X)) (callSt st r loc) tm∧(∀ s,fp2 (.S s)=fp (.S s)) ∧
      RSlot cx w' F' ρ2 (callSt st r loc) (look (callSt st r loc) tm ρ2 w') v2 v' fv∧v2.isRet=true∧BackR w' F' us lent r.back Xb∧Ext w F ρ fp (fa++X) (exB st) w' F' ρ2 fp2 (fv++(Xb++X))∧ShpLe st (callSt st r loc)):=by
  obtain ⟨fp0,h0,hfp0,hfp0B⟩:=h.enterB hc
  refine ((hcf g lent ys _ _ hr).2 w _ ρ fp0 us hc.len.symm h0).mono ?_
  rintro e w' ⟨v',F',ρ',fp',Xb,rfl,q1,q2,q3,q4,q5,q6⟩
  have hX:=List.nodup_append.1 h.xnodup
  have hfaX:∀ k ∈ fa,k ∈ fa++X:=fun k hk=>by simp [hk]
  have hXX:∀ k ∈ X,k ∈ fa++X:=fun k hk=>by simp [hk]
  have hM2:r.M=r.M.dropLast++[loc]:=by
    have hne:r.M ≠ []:=by intro h;rw [h] at hlen;simp at hlen
    have:=List.dropLast_concat_getLast hne
    rw [List.getLast?_eq_some_getLast hne] at hgl
    simp only [Option.some.injEq] at hgl
    rw [hgl] at this;exact this.symm
  have hdl:r.M.dropLast.length=st.M.length:=by simp [hlen]
  have hshape:r.M.dropLast.map List.length=st.M.map List.length∧loc.length=st.loc.length:=by
    rw [hM2,List.map_append,List.map_append] at q3
    have:=List.append_inj q3 (by rw [List.length_map,List.length_map,hdl])
    exact ⟨this.1,by simpa using this.2⟩
  have shp:ShpLe st (callSt st r loc):=⟨hshape.1,by simp [callSt,hshape.2]⟩
  have shp':ShpLe (argSt ys (st.M++[st.loc])) (retSt r):=⟨q3,by simp [argSt,retSt]⟩
  have hbl:=fun l k=>box_leave hgl hlen l k (killBoxes st.T)
  have hbl':∀ l k,(callSt st r loc).box l k=if l≤st.M.length then (retSt r).box (renB st.M.length loc.length l k).1 (renB st.M.length loc.length l k).2 else none:=hbl
  have hold:∀ l k,(st.box l k).isSome=true→renB st.M.length loc.length l k=(l,k)∧l≤st.M.length∧((retSt r).box l k).isSome=true:=fun l k hb=>by
    have hb2:((retSt r).box l k).isSome=true:=shp'.box (by rw [box_enter];exact hb)
    rw [box_some] at hb
    rcases hb with ⟨h1,h2⟩ | ⟨h1,m,h2,h3⟩
    · exact ⟨by unfold renB;rw [if_neg (by omega)],by omega,hb2⟩
    · have:=(List.getElem?_eq_some_iff.1 h2).1
      simp at this
      exact ⟨by unfold renB;rw [if_neg (by omega)],by omega,hb2⟩
  let ρ2:Rho:=fun l k=>ρ' (renB st.M.length loc.length l k).1 (renB st.M.length loc.length l k).2
  let fp2:Fp:=fun q=>match q with
    | .S s=>fp (.S s)
    | .B l k=>if l≤st.M.length then fp' (.B (renB st.M.length loc.length l k).1 (renB st.M.length loc.length l k).2) else []
  have hlow:∀ l k,l≤st.M.length→((retSt r).box l k).isSome=true→ρ2 l k=ρ' l k∧((callSt st r loc).box l k).isSome=true:=fun l k hl hb=>by
    have hren:renB st.M.length loc.length l k=(l,k):=by
      unfold renB
      by_cases hc:l=st.M.length∧loc.length≤k
      · exfalso
        rw [hc.1] at hb
        unfold St.box retSt at hb
        simp only [hlen] at hb
        rw [if_neg (by omega),hM2,List.getElem?_append_right (by omega)] at hb
        simp [hdl,List.getElem?_eq_none hc.2] at hb
      · rw [if_neg hc]
    exact ⟨by simp only [ρ2,hren],by rw [hbl',if_pos hl,hren];exact hb⟩
  have hkeep:∀ k,k < w.heap.size→k ∉ fa→(∀ l q,k ∉ fp (.B l q))→w'.heap[k]? = w.heap[k]?:=fun k hk h1 h2=>q2.keep k hk (fun q hq=>by
    cases q with
    | S s=>exact h1 (hfp0 s k hq)
    | B l q=>rw [hfp0B] at hq;exact h2 l q hq) (by simp)
  have hkS:∀ s,∀ k ∈ fp (.S s),w'.heap[k]? = w.heap[k]?:=fun s k hk=>hkeep k (h.lt _ k hk) (fun h1=>h.xdisj _ k hk (hfaX k h1)) (fun l q h1=>h.disj (.S s) (.B l q) (by intro hc;cases hc) k hk h1)
  have hkF:∀ k,F k→w'.heap[k]? = w.heap[k]?:=fun k hk=>hkeep k (h.Flt k hk) (fun h1=>h.xF k (hfaX k h1) hk) (fun l q h1=>h.notF _ k h1 hk)
  have hnew:∀ q,∀ k ∈ fp' q,k ∈ fa ∨ (∃ l m,k ∈ fp (.B l m)) ∨ w.heap.size≤k:=fun q k hk=>by
    rcases q2.fpn q k hk with ⟨r',h1⟩ | h1 | h1
    · cases r' with
      | S s=>exact .inl (hfp0 s k h1)
      | B l m=>rw [hfp0B] at h1;exact .inr (.inl ⟨l,m,h1⟩)
    · cases h1
    · exact .inr (.inr h1)
  have hnewX:∀ k ∈ Xb,k ∈ fa ∨ (∃ l m,k ∈ fp (.B l m)) ∨ w.heap.size≤k:=fun k hk=>by
    rcases q2.xn k hk with ⟨r',h1⟩ | h1 | h1
    · cases r' with
      | S s=>exact .inl (hfp0 s k h1)
      | B l m=>rw [hfp0B] at h1;exact .inr (.inl ⟨l,m,h1⟩)
    · cases h1
    · exact .inr (.inr h1)
  have hFn:∀ k,F' k→F k ∨ k ∈ fa ∨ (∃ l m,k ∈ fp (.B l m)) ∨ w.heap.size≤k:=fun k hk=>by
    rcases q2.Fn k hk with h1 | ⟨r',h1⟩ | h1 | h1
    · exact .inl h1
    · cases r' with
      | S s=>exact .inr (.inl (hfp0 s k h1))
      | B l m=>rw [hfp0B] at h1;exact .inr (.inr (.inl ⟨l,m,h1⟩))
    · cases h1
    · exact .inr (.inr (.inr h1))
  have apS:∀ s,∀ k ∈ fp (.S s),¬ (k ∈ fa ∨ (∃ l m,k ∈ fp (.B l m)) ∨ w.heap.size≤k):=fun s k hk hh=>by
    rcases hh with h1 | ⟨l,m,h1⟩ | h1
    · exact h.xdisj _ k hk (hfaX k h1)
    · exact h.disj (.S s) (.B l m) (by intro hc;cases hc) k hk h1
    · have:=h.lt _ k hk;omega
  have apX:∀ k ∈ X,¬ (k ∈ fa ∨ (∃ l m,k ∈ fp (.B l m)) ∨ w.heap.size≤k):=fun k hk hh=>by
    rcases hh with h1 | ⟨l,m,h1⟩ | h1
    · exact hX.2.2 k h1 k hk rfl
    · exact h.xdisj _ k h1 (hXX k hk)
    · have:=h.xlt k (hXX k hk);omega
  have tr:Tr w F ρ st (look st tm ρ w) w' F' ρ2 (callSt st r loc) (look (callSt st r loc) tm ρ2 w') (fun r c q=>∃ x:IV,refAt x r c q∧IV.rootB x=false):=by
    refine ⟨fun q c p hlive x0 v0 e es A n cap hl hf=>?_,hkF,q2.Fm,fun l k hb=>?_⟩
    · cases q with
      | B l k =>
        obtain ⟨x,hx1,hx2⟩:=hlive
        cases x <;> simp only [refAt] at hx1
        all_goals
          obtain ⟨rfl,_⟩:=hx1
          simp [IV.rootB] at hx2
      | S s =>
        obtain ⟨e0,es0,rfl⟩:=folR_own hf
        obtain ⟨h1,h2⟩:=look_S hl
        refine ⟨_,es,look_S_mk ?_ h2,h.tr_other hl hf (hkS s),Nat.le_refl _⟩
        simp only [callSt,killBoxes]
        rw [tget_killBy]
        exact cells_kl KillOK.rootB h1
    · obtain ⟨k1,k2,k3⟩:=hold l k hb
      have:=hlow l k k2 k3
      exact ⟨this.1.trans (q2.rho l k (by show (({ T:=[],loc:=[],M:=st.M++[st.loc] }:St).box l k).isSome=true;exact (box_enter st [] l k) ▸ hb)),this.2⟩
  have hval:∀ k,k ∈ fp' (.S 0)→∀ q,k ∉ fp2 q:=fun k hk q hq=>by
    cases q with
    | S s=>exact apS s k hq (hnew _ k hk)
    | B l m =>
      simp only [fp2] at hq
      split at hq
      · exact q1.disj (.S 0) (.B _ _) (by intro hc;cases hc) k hk hq
      · cases hq
  have hrel:Rel cx w' F' ρ2 fp2 (fp' (.S 0)++(Xb++X)) (callSt st r loc) tm:=by
    refine ⟨fun s=>?_,fun l k cs hb=>?_,fun l k hb=>?_,fun q=>?_,fun q q' hq k hk hk'=>?_,fun q k hk=>?_,fun q k hk=>?_,q1.Flt,?_,fun q k hk hx=>?_,fun k hk=>?_,fun k hk=>?_⟩
    · simp only [callSt,killBoxes]
      rw [tget_killBy]
      exact (h.slots s).trk tr KillOK.rootB (liveK _) (hkS s)
    · rw [hbl'] at hb
      split at hb
      rotate_left
      · cases hb
      rename_i hl
      obtain ⟨C,ty,f0,k1,k2,k3⟩:=q1.boxes _ _ cs hb
      refine ⟨C,ty,f0,by simp only [fp2,if_pos hl,ρ2];exact k1,by simp only [ρ2];exact k2,k3.mono fun x v f _ hx hm=>?_⟩
      by_cases hc:l=st.M.length∧loc.length≤k
      ·
        have:(renB st.M.length loc.length l k)=(st.M.length+1,k - loc.length):=by unfold renB;rw [if_pos hc]
        rw [this] at hb
        have hcs:cs ∈ r.exp:=by
          unfold St.box retSt at hb
          simp only [hlen,if_true] at hb
          exact List.mem_of_getElem? hb
        exact hx.data (List.all_eq_true.1 (List.all_eq_true.1 q6 cs hcs) x hm)
      · have:(renB st.M.length loc.length l k)=(l,k):=by unfold renB;rw [if_neg hc]
        rw [this] at hx
        exact hx.lv (fun l' k' hl' hb'=>hlow l' k' (by omega) hb')
    · rw [hbl'] at hb
      simp only [fp2]
      split at hb
      · rename_i hl;rw [if_pos hl];exact q1.nobox _ _ hb
      · rename_i hl;rw [if_neg hl]
    · cases q with
      | S s=>exact h.nodup _
      | B l k=>simp only [fp2];split
               · exact q1.nodup _
               · exact .nil
    · cases q with
      | S s =>
        cases q' with
        | S s'=>exact h.disj _ _ hq k hk hk'
        | B l m =>
          simp only [fp2] at hk'
          split at hk'
          · exact apS s k hk (hnew _ k hk')
          · cases hk'
      | B l m =>
        simp only [fp2] at hk
        split at hk
        rotate_left
        · cases hk
        rename_i hl
        cases q' with
        | S s'=>exact apS s' k hk' (hnew _ k hk)
        | B l' m' =>
          simp only [fp2] at hk'
          split at hk'
          rotate_left
          · cases hk'
          rename_i hl'
          refine q1.disj _ _ (fun hc=>hq ?_) k hk hk'
          have e:renB st.M.length loc.length l m=renB st.M.length loc.length l' m':=by
            simp only [Rt.B.injEq] at hc;exact Prod.ext hc.1 hc.2
          unfold renB at e
          split at e <;> split at e <;> simp only [Prod.mk.injEq] at e
          · rename_i a1 a2;rw [a1.1,a2.1,show m=m' by omega]
          · omega
          · omega
          · rw [e.1,e.2]
    · cases q with
      | S s =>
        intro hF
        rcases hFn k hF with h1 | h1
        · exact h.notF _ k hk h1
        · exact apS s k hk h1
      | B l m =>
        simp only [fp2] at hk
        split at hk
        · exact q1.notF _ k hk
        · cases hk
    · cases q with
      | S s=>exact Nat.lt_of_lt_of_le (h.lt _ k hk) q2.size
      | B l m =>
        simp only [fp2] at hk
        split at hk
        · exact q1.lt _ k hk
        · cases hk
    · rw [List.nodup_append]
      refine ⟨q1.nodup _,?_,fun x hx y hy hxy=>?_⟩
      · rw [List.nodup_append]
        refine ⟨q1.xnodup,hX.2.1,fun x hx y hy hxy=>?_⟩
        subst hxy
        exact apX x hy (hnewX x hx)
      · subst hxy
        rcases List.mem_append.1 hy with hy | hy
        · exact q1.xdisj _ x hx hy
        · exact apX x hy (hnew _ x hx)
    · rcases List.mem_append.1 hx with hx | hx
      · exact hval k hx q hk
      · rcases List.mem_append.1 hx with hx | hx
        · cases q with
          | S s=>exact apS s k hk (hnewX k hx)
          | B l m =>
            simp only [fp2] at hk
            split at hk
            · exact q1.xdisj _ k hk hx
            · cases hk
        · cases q with
          | S s=>exact h.xdisj _ k hk (hXX k hx)
          | B l m =>
            simp only [fp2] at hk
            split at hk
            · exact apX k hx (hnew _ k hk)
            · cases hk
    · rcases List.mem_append.1 hk with hk | hk
      · exact q1.notF _ k hk
      · rcases List.mem_append.1 hk with hk | hk
        · exact q1.xF k hk
        · intro hF
          rcases hFn k hF with h1 | h1
          · exact h.xF k (hXX k hk) h1
          · exact apX k hk h1
    · rcases List.mem_append.1 hk with hk | hk
      · exact q1.lt _ k hk
      · rcases List.mem_append.1 hk with hk | hk
        · exact q1.xlt k hk
        · exact Nat.lt_of_lt_of_le (h.xlt k (hXX k hk)) q2.size
  have hsl:RSlot cx w' F' ρ' (retSt r) (look (retSt r) (retTm v') ρ' w') r.v v' (fp' (.S 0)):=q1.slots 0
  have hvr:RSlot cx w' F' ρ2 (callSt st r loc) (look (callSt st r loc) tm ρ2 w') v2 v' (fp' (.S 0))∧v2.isRet=true:=by
    cases hex:r.exp with
    | nil =>
      rw [hex] at hv
      simp only [renV,Option.some.injEq] at hv
      subst hv
      refine ⟨hsl.ret q5 (fun l k hb=>hlow l k ?_ hb),q5⟩
      have:=hb
      rw [box_some] at this
      simp only [retSt,hex,List.length_nil,hlen] at this
      rcases this with ⟨_,h2⟩ | ⟨h1,m,h2,_⟩
      · omega
      · have:=(List.getElem?_eq_some_iff.1 h2).1
        simp [hlen] at this;omega
    | cons c0 ex =>
      rw [hex] at hv
      cases ex with
      | cons _ _=>simp [renV] at hv
      | nil =>
        cases hrv:r.v with
        | bptr l k c =>
          rw [hrv] at hv
          cases k with
          | succ k=>simp [renV] at hv
          | zero =>
            simp only [renV] at hv
            split at hv
            rotate_left
            · cases hv
            rename_i hl
            simp only [Option.some.injEq] at hv
            subst hv
            rw [hrv] at hsl
            rcases hsl with ⟨⟨h1,h2⟩,h3⟩ | hsl
            rotate_left
            · cases hsl
            have hren:renB st.M.length loc.length st.M.length loc.length=(st.M.length+1,0):=by unfold renB;simp
            refine ⟨.inl ⟨⟨?_,?_⟩,h3⟩,rfl⟩
            · simp only [ρ2,hren];rw [h1,hl]
            · rw [hbl',if_pos (Nat.le_refl _),hren,← hl];exact h2
        | _=>rw [hrv] at hv;simp [renV] at hv
  refine ⟨v',F',ρ2,fp2,Xb,fp' (.S 0),rfl,hrel,fun _=>rfl,hvr.1,hvr.2,q4,⟨q2.size,fun k hk hr hx=>hkeep k hk (fun h1=>hx (hfaX k h1)) (fun l q h1=>hr _ h1),fun q k hk=>?_,fun k hk=>?_,q2.Fm,fun k hk=>?_,fun l k hb=>(tr.bx l k hb).1,q2.env⟩,shp⟩
  · have conv:(k ∈ fa ∨ (∃ l m,k ∈ fp (.B l m)) ∨ w.heap.size≤k)→(∃ r',k ∈ fp r') ∨ k ∈ fa++X ∨ w.heap.size≤k:=fun hh=>by
      rcases hh with h1 | ⟨l,m,h1⟩ | h1
      · exact .inr (.inl (hfaX k h1))
      · exact .inl ⟨_,h1⟩
      · exact .inr (.inr h1)
    cases q with
    | S s=>exact .inl ⟨_,hk⟩
    | B l m =>
      simp only [fp2] at hk
      split at hk
      · exact conv (hnew _ k hk)
      · cases hk
  · have conv:(k ∈ fa ∨ (∃ l m,k ∈ fp (.B l m)) ∨ w.heap.size≤k)→(∃ r',k ∈ fp r') ∨ k ∈ fa++X ∨ w.heap.size≤k:=fun hh=>by
      rcases hh with h1 | ⟨l,m,h1⟩ | h1
      · exact .inr (.inl (hfaX k h1))
      · exact .inl ⟨_,h1⟩
      · exact .inr (.inr h1)
    rcases List.mem_append.1 hk with hk | hk
    · exact conv (hnew _ k hk)
    · rcases List.mem_append.1 hk with hk | hk
      · exact conv (hnewX k hk)
      · exact .inr (.inl (hXX k hk))
  · rcases hFn k hk with h1 | h1 | ⟨l,m,h1⟩ | h1
    · exact .inl h1
    · exact .inr (.inr (.inl (hfaX k h1)))
    · exact .inr (.inl ⟨_,h1⟩)
    · exact .inr (.inr (.inr h1))
end
end Go.Idl
namespace Go.Idl
open Go
section
variable {cx:Cx} {w w':World} {F F' F0 F1:Nat→Prop} {ρ ρ':Rho} {fp fp' fp1:Fp} {X X' f f' f1 f2 fa:List Nat} {st st' st1:St} {a:Act} {o:Oper} {tm:Nat→Value} {v:IV}
theorem SameL.symm {vs us:List Value} (h:SameL vs us):SameL us vs:=by
  induction h with
  | nil=>exact .nil
  | cons h t ih=>exact .cons (h.elim (fun h=>.inl h.symm) (fun h=>.inr h.symm)) ih
theorem rds_same {cs vs us} (h:RDs w F cs vs f) (hs:SameL vs us):RDs w F cs us f:=by
  induction cs generalizing vs us f with
  | nil=>cases h;cases hs;exact .nil
  | cons x xs ih =>
    obtain ⟨v,vs,f1,f2,rfl,rfl,h1,h2⟩:=h.cons_inv
    cases hs with
    | cons hv ht =>
    refine RDs.cons ?_ (ih h2 ht)
    rcases hv with rfl | hv
    · exact h1
    · obtain ⟨A,A',N,cap,rfl,rfl,h3⟩:=hv
      cases x with
      | own e es=>exact own_addr h1 h3
      | lst e es c =>
        obtain ⟨rfl,h4 | ⟨b,o,cap1,C,ty,fr,h8,hF,hb,hd,he,hc,hn⟩⟩:=h1.lst_inv
        · obtain ⟨rfl,A0,cap0,h5,h6⟩:=h4
          cases h5
          exact .lst0 h6 .nil
        · cases h8
          by_cases hp:0 < cap
          · have:=h3 hp
            subst this
            exact h1
          · have h9:es=[]:=List.eq_nil_of_length_eq_zero (by omega)
            subst h9
            exact .lst0 (fun _=>by omega) .nil
      | sc v=>cases h1 with | sc h _=>simp [Idl.isSc] at h
      | un=>exact (by have:=h1.un_nil;subst this;exact .un .nil)
      | _=>cases h1
theorem lent_back {us:List Value}:∀ {args:List (Mode×Opd)} {os:List Operand} {k:Nat} {ss:List (Nat×Nat)} {back:List IV} {Xb:List Nat} {fp:Fp} {st st2:St},(∀ i o,os[i]? = some o→us.getD (k+i) undef=a.eval o) →
    okArgs cx args os→LentS a args os ss→BackR w F us (lents args k) back Xb→Rel cx w F ρ fp (Xb++X) st (regs a)→st.lentBack ss back=some st2 →
    ∃ fp2,Rel cx w F ρ fp2 X st2 (regs a)∧(∀ r,∀ b ∈ fp2 r,b ∈ fp r ∨ b ∈ Xb)∧st2.loc=st.loc∧st2.M=st.M
  | [],os,k,ss,back,Xb,fp,st,st2,hu,hk,hl,hb,h,hlb=>by
    cases os with
    | cons _ _=>exact hk.elim
    | nil =>
    have hss:ss=[]:=hl
    subst hss
    cases back with
    | cons _ _=>exact hb.elim
    | nil =>
    have hX:Xb=[]:=hb
    subst hX
    simp only [St.lentBack,Option.some.injEq] at hlb
    subst hlb
    exact ⟨fp,h,fun r b hb=>.inl hb,rfl,rfl⟩
  | (m,x)::r,os,k,ss,back,Xb,fp,st,st2,hu,hk,hl,hb,h,hlb=>by
    cases os with
    | nil=>exact hk.elim
    | cons o os =>
    have hu':∀ i o,os[i]? = some o→us.getD (k+1+i) undef=a.eval o:=fun i o2 ho=>by
      have:=hu (i+1) o2 (by simpa using ho)
      rw [← this];congr 1;omega
    have skip:LentS a r os ss→BackR w F us (lents r (k+1)) back Xb→∃ fp2,Rel cx w F ρ fp2 X st2 (regs a)∧(∀ r,∀ b ∈ fp2 r,b ∈ fp r ∨ b ∈ Xb)∧st2.loc=st.loc∧st2.M=st.M :=
      fun hl hb=>lent_back hu' hk.2 hl hb h hlb
    cases m with
    | val=>exact skip hl hb
    | rd=>exact skip hl hb
    | rv=>exact skip hl hb
    | tk=>exact skip hl hb
    | ld =>
      obtain ⟨s,c,ss',rfl,hV,hl'⟩:=hl
      cases back with
      | nil=>exact hb.elim
      | cons y ys =>
      obtain ⟨g1,g2,rfl,hR,hb'⟩:=hb
      have h0:=hu 0 o (by simp)
      rw [Nat.add_zero] at h0
      rw [h0] at hR
      have hXp:g1++g2++X=g1++(g2++X):=List.append_assoc ..
      have fin:∀ {fpN:Fp} {st1:St},Rel cx w F ρ fpN (g2++X) st1 (regs a)→st1.lentBack ss' ys=some st2→(∀ r,∀ b ∈ fpN r,b ∈ fp r ∨ b ∈ g1)→st1.loc=st.loc→st1.M=st.M →
          ∃ fp2,Rel cx w F ρ fp2 X st2 (regs a)∧(∀ r,∀ b ∈ fp2 r,b ∈ fp r ∨ b ∈ g1++g2)∧st2.loc=st.loc∧st2.M=st.M:=by
        intro fpN st1 hp hlb hf e1 e2
        obtain ⟨fp2,q1,q2,q3,q4⟩:=lent_back hu' hk.2 hl' hb' hp hlb
        refine ⟨fp2,q1,fun r b hb=>?_,q3.trans e1,q4.trans e2⟩
        rcases q2 r b hb with h5 | h5
        · rcases hf r b h5 with h6 | h6
          · exact .inl h6
          · exact .inr (by simp [h6])
        · exact .inr (by simp [h5])
      have htm:∀ v,regs a s=v→(fun q=>if q=s then v else regs a q)=regs a:=fun v hv=>by funext q;by_cases hq:q=s <;> simp [hq,hv]
      have hupd:∀ r,∀ b ∈ updFp fp (.S s) g1 r,b ∈ fp r ∨ b ∈ g1:=fun r b hb=>by
        unfold updFp at hb
        split at hb
        · exact .inr hb
        · exact .inl hb
      cases c with
      | zero =>
        simp only [St.lentBack] at hlb
        split at hlb
        rotate_left
        · cases hlb
        rename_i hy
        have hslot:RSlot cx w F ρ st (look st (regs a) ρ w) y (regs a s) g1:=by
          cases y with
          | own e es =>
            rcases hV with hV | ⟨C,D,hC,hD,hS⟩
            · exact .inr (own_same hR hV.symm)
            · have hR:RDs w F [.own e es] [a.eval o] g1:=hR
              rw [hD] at hR
              cases hR
          | agg cs =>
            obtain ⟨D,hD,hRd⟩:=hR
            rcases hV with ⟨A,A',N,cap,e1,e2,e3⟩ | ⟨C,D',hC,hD',hS⟩
            · rw [hD] at e2;cases e2
            · rw [hD] at hD';cases hD'
              refine ⟨C,hC,(rds_same hRd hS.symm).cat⟩
          | _=>simp [IV.isBack] at hy
        have hp:=(hXp ▸ h:Rel cx w F ρ fp (g1++(g2++X)) st (regs a)).put hslot s
        rw [htm _ rfl] at hp
        exact fin hp hlb hupd rfl rfl
      | succ c =>
        simp only [St.lentBack] at hlb
        split at hlb
        rotate_left
        · cases hlb
        rename_i hy
        split at hlb
        rotate_left
        · cases hlb
        rename_i cs hT
        split at hlb
        rotate_left
        · cases hlb
        rename_i hcu
        obtain ⟨C,x,hC,hx,hS⟩:=hV
        cases y with
        | own e es =>
          have hR2:RDs w F [.own e es] [x] g1:=own_same hR hS.symm
          obtain ⟨h1,h2⟩:=h.drop s
          rw [hT] at h2
          obtain ⟨C2,hC2,hcat⟩:=h2
          rw [hC] at hC2
          cases hC2
          have hcu':(cs.map (klc (IV.rooted (.S s))))[c]? = some .un:=by
            rw [List.getElem?_map,hcu];simp [klc,IV.rooted]
          obtain ⟨v,f1,g,f2,hv,hf,hx0,hput⟩:=hcat.at_ hcu'
          rw [hx] at hv
          have hvx:x=v:=by simpa using hv
          subst hvx
          have hg:g=[]:=by
            rcases hx0 with ⟨hx0,_⟩ | hx0
            · exact hx0.elim
            · exact hx0.un_nil
          subst hg
          have hset:=hput (RC cx w F ρ { st with T:=dropSlot s st.T } (look { st with T:=dropSlot s st.T } (regs a) ρ w)) (.own e es) x g1 (fun _ _ _ _ h=>h) (.inr hR2)
          rw [list_set_self hx] at hset
          have hX:List.Perm ((f1++(g1++f2))++(g2++X)) (fp (.S s)++(g1++g2++X)):=by
            rw [hf,List.nil_append]
            have e5:f1++(g1++f2)++(g2++X)=f1++((g1++f2)++(g2++X)):=by simp
            have e6:f1++f2++(g1++g2++X)=f1++((f2++g1)++(g2++X)):=by simp
            rw [e5,e6]
            exact List.Perm.append_left f1 (List.Perm.append_right _ List.perm_append_comm)
          have hp:=(h1.perm hX.symm).put (v:=.agg ((cs.map (klc (IV.rooted (.S s)))).set c (.own e es))) (v':=.agg C) ⟨C,rfl,hset⟩ s
          rw [htm _ hC] at hp
          have htp:tput (dropSlot s st.T) s (.agg ((cs.map (klc (IV.rooted (.S s)))).set c (.own e es)))=(s,.agg ((cs.map (klc (IV.rooted (.S s)))).set c (.own e es)))::dropSlot s st.T:=by
            simp [tput,dropSlot,tget,IV.holds]
          rw [htp] at hp
          refine fin hp hlb (fun r b hb=>?_) rfl rfl
          unfold updFp at hb
          split at hb
          · rename_i hrs
            rw [hrs,hf]
            simp only [List.nil_append,List.mem_append] at hb ⊢
            rcases hb with hb | hb | hb <;> simp [hb]
          · exact .inl hb
        | _=>simp [IV.isOwn] at hy
end
end Go.Idl
namespace Go.Idl
open Go
def CallOut (cx:Cx) (w:World) (F:Nat→Prop) (ρ:Rho) (fp:Fp) (X:List Nat) (st:St) (a:Act) (o:Oper) (v:IV) (st':St):Prop :=
  ∃ f args,(execOp a.eval o).run cx.P w=.ok (.enter f args) w∧Calls cx.P f args w (fun e w'=>∃ v' F' ρ' fp' f',e=.returned v'∧Rel cx w' F' ρ' fp' (f'++X) st' (regs a) ∧
    RSlot cx w' F' ρ' st' (look st' (regs a) ρ' w') v v' f'∧Ext w F ρ fp X (exB st) w' F' ρ' fp' (f'++X)∧ShpLe st st')
theorem run_enter {P:Program} {f:FuncId} (h:EnterOK P f) (args:Array Value) (w:World):(callFunc f args).run P w=.ok (.enter f args) w:=by
  obtain ⟨fn,h1,h2,h3⟩:=h
  simp only [callFunc,Sem.run_bind,run_program,Result.andThen_ok,h1,h2,h3,Bool.false_eq_true,if_false,Sem.run_pure]
theorem run_call {P:Program} {a:Act} {o:Oper} {c:Call} {y:Operand} {f:FuncId} {cvs:List Value} (h:EnterOK P f) (ho:o.op=.call c) (hc:c.callee=.value y) (hy:a.eval y=.func (.func f) #[] cvs.toArray) (w:World) :
    (execOp a.eval o).run P w=.ok (.enter f ((c.args.toList.map a.eval)++cvs).toArray) w:=by
  simp only [execOp,ho,resolve,hc,hy,Deferred.ofValue,Sem.run_bind,Sem.run_pure,Result.andThen_ok,invoke]
  rw [run_enter h]
  congr 2
  apply Array.ext'
  simp
end Go.Idl
namespace Go.Idl
open Go
section
variable {cx:Cx} {w w':World} {F F' F0 F1:Nat→Prop} {ρ ρ':Rho} {fp fp' fp1:Fp} {X X' f f' f1 f2 fa:List Nat} {st st' st1:St} {a:Act} {o:Oper} {tm:Nat→Value} {v:IV}
theorem Calls.and {P:Program} {f:FuncId} {args:Array Value} {w:World} {R:Ending→World→Prop} (h:Calls P f args w R) {R':Ending→World→Prop} (hr:∀ e w,R e w→R' e w):Calls P f args w R':=h.mono hr
theorem out_call_pure {cf:CF} (hcf:CallOK cx cf) (h:Rel cx w F ρ fp X st (regs a)) {c:Call} {y:Operand} {g:Lab} {args:List (Mode×Opd)} {os:List Operand} (hk:okArgs cx args os) (ho:o.op=.call c) (hc:c.callee=.value y)
    (hargs:c.args.toList=os) (hy:a.eval y=.func (.func (cx.fid g)) #[] #[]) (hev:st.callWith cf g [] args true=some (v,st')):CallOut cx w F ρ fp X st a o v st':=by
  unfold St.callWith at hev
  cases hA:st.args args with
  | none=>simp [hA] at hev
  | some p =>
  obtain ⟨vs,st1,fz,ss⟩:=p
  simp only [hA,if_true] at hev
  split at hev
  · cases hev
  rename_i hcond
  simp only [List.isEmpty_nil,Bool.and_true,Bool.or_eq_true,Bool.not_eq_true',not_or,Bool.not_eq_false] at hcond
  obtain ⟨hnold,hfree⟩:=hcond
  unfold St.args at hA
  cases hA1:st.args1 args with
  | none=>simp [hA1] at hA
  | some p1 =>
  obtain ⟨mv,st2,ss2⟩:=p1
  simp only [hA1] at hA
  cases hA2:st2.args2 args mv with
  | none=>simp [hA2] at hA
  | some p2 =>
  obtain ⟨ys,b⟩:=p2
  simp only [hA2,Option.some.injEq,Prod.mk.injEq] at hA
  obtain ⟨rfl,rfl,rfl,rfl⟩:=hA
  obtain ⟨F1,fp1,fa,k1,k2,k3,k4,k5,k6,k7,k8⟩:=args1_rel h hk hA1
  have hcat:=args2_rel k1 hk k2 hA2
  cases hcall:cf g [] ys [] with
  | none=>simp [hcall] at hev
  | some r =>
  obtain ⟨rv,rb,rM,re⟩:=r
  have hform:rb=[]∧rM=[]∧re=[]∧v=rv∧st'=st2∧(b=true→noLstV rv=true):=by
    simp only [hcall] at hev
    cases rb with
    | cons _ _=>simp at hev
    | nil =>
    cases rM with
    | cons _ _=>simp at hev
    | nil =>
    cases re with
    | cons _ _=>simp at hev
    | nil =>
    simp only at hev
    cases b with
    | false=>simp at hev;exact ⟨rfl,rfl,rfl,hev.1.symm,hev.2.symm,by simp⟩
    | true =>
      simp only [if_true] at hev
      split at hev
      · rename_i hn
        simp only [Option.some.injEq,Prod.mk.injEq] at hev
        exact ⟨rfl,rfl,rfl,hev.1.symm,hev.2.symm,fun _=>hn⟩
      · cases hev
  obtain ⟨rfl,rfl,rfl,rfl,rfl,hnl⟩:=hform
  have hent:=(hcf g [] ys [] _ hcall).1
  refine ⟨cx.fid g,_,run_call (cvs:=[]) hent ho hc hy w,?_⟩
  rw [hargs,List.append_nil]
  refine (call_pure hcf k1 hcat hfree hcall hnl).mono ?_
  rintro e w' ⟨v',F',fv,rfl,q1,q2,q3,q4,q5⟩
  refine ⟨v',F',ρ,fp1,fv,rfl,q1,q2,?_,k7⟩
  have e1:=q4 (exB st)
  refine ⟨e1.size,fun k hk hr hx=>e1.keep k hk (fun r h1=>hr r (k6 r k h1)) (fun h1=>?_),fun r k h1=>?_,fun k h1=>?_,fun k hk=>e1.Fm k (k3 k hk),fun k hk=>?_,e1.rho,e1.env⟩
  · rcases List.mem_append.1 h1 with h1 | h1
    · obtain ⟨r,h2⟩:=k5 k h1;exact hr r h2
    · exact hx h1
  · exact .inl ⟨r,k6 r k h1⟩
  · rcases e1.xn k h1 with ⟨r,h2⟩ | h2 | h2
    · exact .inl ⟨r,k6 r k h2⟩
    · rcases List.mem_append.1 h2 with h2 | h2
      · exact .inl (k5 k h2)
      · exact .inr (.inl h2)
    · exact .inr (.inr h2)
  · rcases e1.Fn k hk with h2 | ⟨r,h2⟩ | h2 | h2
    · rcases k4 k h2 with h3 | h3
      · exact .inl h3
      · exact .inr (.inl h3)
    · exact .inr (.inl ⟨r,k6 r k h2⟩)
    · rcases List.mem_append.1 h2 with h2 | h2
      · exact .inr (.inl (k5 k h2))
      · exact .inr (.inr (.inl h2))
    · exact .inr (.inr (.inr h2))
end
end Go.Idl
