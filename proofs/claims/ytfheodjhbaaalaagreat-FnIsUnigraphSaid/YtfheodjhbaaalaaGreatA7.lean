/- Part 7 of a proof by an ideal interpreter of the code: its definitions and lemmas. Conditions: none. -/
import Derived.KernelRfl
import Derived.Test.YtfheodjhbaaalaaGreatA6
set_option linter.all false
set_option linter.unusedVariables false
set_option linter.unusedSimpArgs false
namespace Go.Idl
open Go
def capsW:List IV:=[.bptr 1 1 0,.bptr 1 3 0,.bptr 1 2 0,.bptr 1 0 0,.bptr 1 4 0,.bptr 1 5 0]
def boxW (n:Int) (e0:Nat) (from_:List (Int×Int)) (c:Bool) (F:Lab) (caps:List IV) (left:List Int) (ch:IV):Boxes :=
  [[I n],[.lst e0 (eds from_) c],[.fn F caps],[O left],[ch],[.fn zl219 capsW]]
def CallsBack (n:Int) (F:Lab) (caps:List IV) (more:List (Int×Int)→Bool) (P:List (List (Int×Int))→Boxes→Prop):Prop :=
  ∀ gl bs es,P gl bs→gl.length≤10000000→es.length≤1000→∃ bs',P (gl++[es]) bs'∧∀ B Es,Ev tb F [] (.agg [I n,O2 es]::caps) (bs::B::Es) ⟨Bo (more es),[],bs'::B::Es,[]⟩
theorem sg_end (n:Int) (e0:Nat) (from_:List (Int×Int)) (c:Bool) (F:Lab) (caps:List IV) (more:List (Int×Int)→Bool) (P:List (List (Int×Int))→Boxes→Prop) (hcb:CallsBack n F caps more P) (N:Nat)
    (hN:N≤1000) (hfl:from_.length≤900) (left:List Int) (ch:IV) (chosen:List (Int×Int)) (gl:List (List (Int×Int))) (bs:Boxes) (Es:List Boxes) (hP:P gl bs) (hgl:gl.length≤10000000) (hch:EdRep ch chosen)
    (hl:left.length=N) (hcl:chosen.length≤950) :
    ∃ ch' bs',EdRep ch' chosen∧P (gl++(upTo more (subs [] left chosen)).1) bs' ∧
      Ev tb zl219 [] (I from_.length::capsW) (bs::boxW n e0 from_ c F caps left ch::Es) ⟨Bo (upTo more (subs [] left chosen)).2,[],bs'::boxW n e0 from_ c F caps left ch'::Es,[]⟩:=by
  have e1:=fun cc=>ev_lim (ev_allIn left cc 0 0 (by omega))
  have hz0:(left.all fun x=>decide (0≤x) && decide (x≤0))=left.all fun x=>decide (x=0):=by
    congr 1;funext x;rw [Bool.eq_iff_iff];simp;omega
  rw [hz0] at e1
  have hlt:left.take N=left:=List.take_of_length_le (by omega)
  unfold subs
  cases hz:left.all (fun x=>decide (x=0)) with
  | false =>
    rw [hz] at e1
    simp only [Bool.false_eq_true,if_false]
    refine ⟨ch,bs,hch,by simpa [upTo] using hP,?_⟩
    simp only [upTo,boxW,capsW]
    refine call_of_wp zt219 rfl ?_
    repeat (first|apply wp_as|apply wp_ss|refine wr (by simp [e1,hl,hlt];with_reducible rfl) ?_|refine wq (by simp [e1,hl,hlt];with_reducible rfl) ?_|refine wt (by simpa [e1,hl,hlt]) ?_|refine wf (by simpa [e1,hl,hlt]) ?_|refine xt (by simpa [e1,hl,hlt]) ?_|refine xf (by simpa [e1,hl,hlt]) ?_|apply wp_bs|apply wp_b|refine wp_sr ?_|refine wp_sx ?_|refine wp_ret' ?_|refine wp_skip' ?_|refine wp_exit' ?_)
    refine wp_ra (by simp [e1,hl,hlt];with_reducible rfl) (by simp;with_reducible rfl) ?_ ?_
    · intro p hp
      simp only [List.mem_cons,List.not_mem_nil,or_false] at hp
      rcases hp with rfl | rfl | rfl | rfl | rfl
      · exact ⟨_,by simp [e1,hl,hlt];with_reducible rfl,by simp⟩
      · exact ⟨_,by simp [e1,hl,hlt];with_reducible rfl,by simp⟩
      · exact ⟨_,by simp [e1,hl,hlt];with_reducible rfl,by simp⟩
      · exact ⟨_,by simp [e1,hl,hlt];with_reducible rfl,by simp⟩
      · exact ⟨_,by simp [e1,hl,hlt];with_reducible rfl,by simp⟩
    repeat (first|apply wp_as|apply wp_ss|refine wr (by simp;with_reducible rfl) ?_|refine wq (by simp;with_reducible rfl) ?_|refine wt (by simpa) ?_|refine wf (by simpa) ?_|refine xt (by simpa) ?_|refine xf (by simpa) ?_|apply wp_bs|apply wp_b|refine wp_sr ?_|refine wp_sx ?_|refine wp_ret' ?_|refine wp_skip' ?_|refine wp_exit' ?_)
    simp [zi219]
  | true =>
    rw [hz] at e1
    obtain ⟨bs',hP',hF⟩:=hcb gl bs chosen hP hgl (by omega)
    simp only [if_true]
    have hu:upTo more [chosen]=([chosen],more chosen):=by simp only [upTo];cases more chosen <;> rfl
    rw [hu]
    refine ⟨ch,bs',hch,hP',?_⟩
    have e2:=fun B Es=>ev_lim (hF B Es)
    have hct:chosen.take chosen.length=chosen:=List.take_of_length_le (Nat.le_refl _)
    generalize more chosen=b at *
    rcases hch with rfl | ⟨rfl,rfl⟩
    · have e3:=fun cc=>ev_lim (ev_clone2 2 chosen cc (.inl rfl) (by omega))
      simp only [boxW,capsW] at e2 ⊢
      refine call_of_wp zt219 rfl ?_
      repeat (first|apply wp_as|apply wp_ss|refine wr (by simp [e1,hl,hlt];with_reducible rfl) ?_|refine wq (by simp [e1,hl,hlt];with_reducible rfl) ?_|refine wt (by simpa [e1,hl,hlt]) ?_|refine wf (by simpa [e1,hl,hlt]) ?_|refine xt (by simpa [e1,hl,hlt]) ?_|refine xf (by simpa [e1,hl,hlt]) ?_|apply wp_bs|apply wp_b|refine wp_sr ?_|refine wp_sx ?_|refine wp_ret' ?_|refine wp_skip' ?_|refine wp_exit' ?_)
      refine wp_ra (by simp [e1,e2,e3,hl,hlt,hct];with_reducible rfl) (by simp;with_reducible rfl) ?_ ?_
      · intro p hp
        simp only [List.mem_cons,List.not_mem_nil,or_false] at hp
        rcases hp with rfl | rfl | rfl | rfl | rfl
        · exact ⟨_,by simp [e1,e2,e3,hl,hlt,hct];with_reducible rfl,by simp⟩
        · exact ⟨_,by simp [e1,e2,e3,hl,hlt,hct];with_reducible rfl,by simp⟩
        · exact ⟨_,by simp [e1,e2,e3,hl,hlt,hct];with_reducible rfl,by simp⟩
        · exact ⟨_,by simp [e1,e2,e3,hl,hlt,hct];with_reducible rfl,by simp⟩
        · exact ⟨_,by simp [e1,e2,e3,hl,hlt,hct];with_reducible rfl,by simp⟩
      repeat (first|apply wp_as|apply wp_ss|refine wr (by simp;with_reducible rfl) ?_|refine wq (by simp;with_reducible rfl) ?_|refine wt (by simpa) ?_|refine wf (by simpa) ?_|refine xt (by simpa) ?_|refine xf (by simpa) ?_|apply wp_bs|apply wp_b|refine wp_sr ?_|refine wp_sx ?_|refine wp_ret' ?_|refine wp_skip' ?_|refine wp_exit' ?_)
      simp [zi219]
    · have e3:=ev_lim (show Ev tb zl204 [] [Z] [] ⟨O2 [],[],[],[]⟩ from ev_clone2 0 [] true (.inr rfl) (by simp))
      simp only [boxW,capsW] at e2 ⊢
      refine call_of_wp zt219 rfl ?_
      repeat (first|apply wp_as|apply wp_ss|refine wr (by simp [e1,hl,hlt];with_reducible rfl) ?_|refine wq (by simp [e1,hl,hlt];with_reducible rfl) ?_|refine wt (by simpa [e1,hl,hlt]) ?_|refine wf (by simpa [e1,hl,hlt]) ?_|refine xt (by simpa [e1,hl,hlt]) ?_|refine xf (by simpa [e1,hl,hlt]) ?_|apply wp_bs|apply wp_b|refine wp_sr ?_|refine wp_sx ?_|refine wp_ret' ?_|refine wp_skip' ?_|refine wp_exit' ?_)
      refine wp_ra (by simp [e1,e2,e3,hl,hlt,hct];with_reducible rfl) (by simp;with_reducible rfl) ?_ ?_
      · intro p hp
        simp only [List.mem_cons,List.not_mem_nil,or_false] at hp
        rcases hp with rfl | rfl | rfl | rfl | rfl
        · exact ⟨_,by simp [e1,e2,e3,hl,hlt,hct];with_reducible rfl,by simp⟩
        · exact ⟨_,by simp [e1,e2,e3,hl,hlt,hct];with_reducible rfl,by simp⟩
        · exact ⟨_,by simp [e1,e2,e3,hl,hlt,hct];with_reducible rfl,by simp⟩
        · exact ⟨_,by simp [e1,e2,e3,hl,hlt,hct];with_reducible rfl,by simp⟩
        · exact ⟨_,by simp [e1,e2,e3,hl,hlt,hct];with_reducible rfl,by simp⟩
      repeat (first|apply wp_as|apply wp_ss|refine wr (by simp;with_reducible rfl) ?_|refine wq (by simp;with_reducible rfl) ?_|refine wt (by simpa) ?_|refine wf (by simpa) ?_|refine xt (by simpa) ?_|refine xf (by simpa) ?_|apply wp_bs|apply wp_b|refine wp_sr ?_|refine wp_sx ?_|refine wp_ret' ?_|refine wp_skip' ?_|refine wp_exit' ?_)
      simp [zi219]
end Go.Idl
namespace Go.Idl
open Go
set_option maxHeartbeats 2000000 in
theorem sg_skip (n:Int) (from_:List (Int×Int)) (c:Bool) (F:Lab) (caps:List IV) (i p q N:Nat) (hi2:i < from_.length) (hfl:from_.length≤900) (hp:from_[i].1=p) (hq:from_[i].2=q) (left:List Int) (hl:left.length=N) (hpN:p < N) (hqN:q < N)
    (hpos:¬ (0 < left[p]∧0 < left[q])) (ch ch':IV) (bs bs':Boxes) (Es:List Boxes) (b:Bool)
    (e1:Ev tb zl219 [] (I ((i+1:Nat):Int)::capsW) (bs::boxW n 2 from_ c F caps left ch::(Es++[[[I p,I q]]])) ⟨Bo b,[],bs'::boxW n 2 from_ c F caps left ch'::(Es++[[[I p,I q]]]),[]⟩) :
    Ev tb zl219 [] (I i::capsW) (bs::boxW n 2 from_ c F caps left ch::Es) ⟨Bo b,[],bs'::boxW n 2 from_ c F caps left ch'::Es,[]⟩:=by
  have hpl:p < left.length:=by omega
  have hql:q < left.length:=by omega
  have hie:¬ (i:Int)=from_.length:=by omega
  have w2:IntKind.i64.wrap ((i:Int)+1)=(i:Int)+1:=wrap64 (by omega) (by omega)
  have e1:=ev_lim e1
  rw [show ((i+1:Nat):Int)=(i:Int)+1 by omega] at e1
  simp only [boxW,capsW] at e1 ⊢
  by_cases hp0:0 < left[p]
  · have hq0:¬ 0 < left[q]:=fun h=>hpos ⟨hp0,h⟩
    refine call_of_wp zt219 rfl ?_
    repeat (first|apply wp_as|apply wp_ss|refine wr (by simp [hi2,hie,hp,hq,hpl,hql,hp0,hq0,w2,e1,hl,hpN,hqN];with_reducible rfl) ?_|refine wq (by simp [hi2,hie,hp,hq,hpl,hql,hp0,hq0,w2,e1,hl,hpN,hqN];with_reducible rfl) ?_|refine wt (by simpa [hi2,hie,hp,hq,hpl,hql,hp0,hq0,w2,e1,hl,hpN,hqN]) ?_|refine wf (by simpa [hi2,hie,hp,hq,hpl,hql,hp0,hq0,w2,e1,hl,hpN,hqN]) ?_|refine xt (by simpa [hi2,hie,hp,hq,hpl,hql,hp0,hq0,w2,e1,hl,hpN,hqN]) ?_|refine xf (by simpa [hi2,hie,hp,hq,hpl,hql,hp0,hq0,w2,e1,hl,hpN,hqN]) ?_|apply wp_bs|apply wp_b|refine wp_sr ?_|refine wp_sx ?_|refine wp_ret' ?_|refine wp_skip' ?_|refine wp_exit' ?_)
    simp [zi219]
  · refine call_of_wp zt219 rfl ?_
    repeat (first|apply wp_as|apply wp_ss|refine wr (by simp [hi2,hie,hp,hq,hpl,hql,hp0,w2,e1,hl,hpN,hqN];with_reducible rfl) ?_|refine wq (by simp [hi2,hie,hp,hq,hpl,hql,hp0,w2,e1,hl,hpN,hqN];with_reducible rfl) ?_|refine wt (by simpa [hi2,hie,hp,hq,hpl,hql,hp0,w2,e1,hl,hpN,hqN]) ?_|refine wf (by simpa [hi2,hie,hp,hq,hpl,hql,hp0,w2,e1,hl,hpN,hqN]) ?_|refine xt (by simpa [hi2,hie,hp,hq,hpl,hql,hp0,w2,e1,hl,hpN,hqN]) ?_|refine xf (by simpa [hi2,hie,hp,hq,hpl,hql,hp0,w2,e1,hl,hpN,hqN]) ?_|apply wp_bs|apply wp_b|refine wp_sr ?_|refine wp_sx ?_|refine wp_ret' ?_|refine wp_skip' ?_|refine wp_exit' ?_)
    simp [zi219]
structure Dec (left l1 l2 l3:List Int) (p q:Nat) (hp:p < left.length) (hq:q < left.length):Prop where
  e1:left.set p (left[p] - 1)=l1
  n1:l1.length=left.length
  g1:∀ h:q < l1.length,l1[q]=left[q]
  e2:l1.set q (left[q] - 1)=l2
  n2:l2.length=left.length
  g2:∀ h:p < l2.length,l2[p]=left[p] - 1
  e3:l2.set p (left[p])=l3
  n3:l3.length=left.length
  g3:∀ h:q < l3.length,l3[q]=left[q] - 1
  e4:l3.set q (left[q])=left
set_option maxHeartbeats 2000000 in
theorem sg_take (n:Int) (from_:List (Int×Int)) (c:Bool) (F:Lab) (caps:List IV) (i p q N:Nat) (hi2:i < from_.length) (hfl:from_.length≤900) (hp:from_[i].1=p) (hq:from_[i].2=q) (left l1 l2 l3:List Int) (hl:left.length=N) (hpN:p < N) (hqN:q < N)
    (hpl:p < left.length) (hql:q < left.length) (hD:Dec left l1 l2 l3 p q hpl hql) (bp:left[p]≤1000) (bq:left[q]≤1000)
    (hp0:0 < left[p]) (hq0:0 < left[q]) (ch ch':IV) (chosen:List (Int×Int)) (hch:EdRep ch chosen) (hcl:chosen.length≤950) (bs bs1 bs':Boxes) (Es:List Boxes) (b1 b:Bool)
    (e1:Ev tb zl219 [] (I ((i+1:Nat):Int)::capsW) (bs::boxW n 2 from_ c F caps l2 (O2 (chosen++[((p:Int),(q:Int))]))::(Es++[[[I p,I q]]])) ⟨Bo b1,[],bs1::boxW n 2 from_ c F caps l2 (O2 (chosen++[((p:Int),(q:Int))]))::(Es++[[[I p,I q]]]),[]⟩)
    (e2:b1=true→Ev tb zl219 [] (I ((i+1:Nat):Int)::capsW) (bs1::boxW n 2 from_ c F caps left (O2 chosen)::(Es++[[[I p,I q]]])) ⟨Bo b,[],bs'::boxW n 2 from_ c F caps left ch'::(Es++[[[I p,I q]]]),[]⟩)
    (e3:b1=false→b=false∧bs'=bs1∧ch'=O2 chosen) :
    Ev tb zl219 [] (I i::capsW) (bs::boxW n 2 from_ c F caps left ch::Es) ⟨Bo b,[],bs'::boxW n 2 from_ c F caps left ch'::Es,[]⟩:=by
  obtain ⟨d1,n1,g1,d2,n2,g2,d3,n3,g3,d4⟩:=hD
  have hie:¬ (i:Int)=from_.length:=by omega
  have w2:IntKind.i64.wrap ((i:Int)+1)=(i:Int)+1:=wrap64 (by omega) (by omega)
  have w3:IntKind.i64.wrap (left[p] - 1)=left[p] - 1:=wrap64 (by omega) (by omega)
  have w4:IntKind.i64.wrap (left[q] - 1)=left[q] - 1:=wrap64 (by omega) (by omega)
  have w5:IntKind.i64.wrap left[p]=left[p]:=wrap64 (by omega) (by omega)
  have w6:IntKind.i64.wrap left[q]=left[q]:=wrap64 (by omega) (by omega)
  have w7:IntKind.i64.wrap (chosen.length:Int)=(chosen.length:Int):=wrap64 (by omega) (by omega)
  have e1:=ev_lim e1
  rw [show ((i+1:Nat):Int)=(i:Int)+1 by omega] at e1
  rw [hl] at n1 n2 n3
  have hcl1:chosen.length+1≤274877906944:=by omega
  have hct:(chosen++[((p:Int),(q:Int))]).take chosen.length=chosen:=by simp
  simp only [boxW,capsW] at e1 ⊢
  cases b1 with
  | false =>
    obtain ⟨rfl,rfl,rfl⟩:=e3 rfl
    rcases hch with rfl | ⟨rfl,rfl⟩
    · refine call_of_wp zt219 rfl ?_
      repeat (first|apply wp_as|apply wp_ss|refine wr (by simp [hi2,hie,hp,hq,hp0,hq0,w2,hl,hpN,hqN,hpl,hql,w3,w4,w5,w6,d1,n1,g1,d2,n2,g2,d3,n3,g3,d4,e1,hcl1,hct,w7,show IntKind.i64.wrap 0=0 from rfl];with_reducible rfl) ?_|refine wq (by simp [hi2,hie,hp,hq,hp0,hq0,w2,hl,hpN,hqN,hpl,hql,w3,w4,w5,w6,d1,n1,g1,d2,n2,g2,d3,n3,g3,d4,e1,hcl1,hct,w7,show IntKind.i64.wrap 0=0 from rfl];with_reducible rfl) ?_|refine wt (by simpa [hi2,hie,hp,hq,hp0,hq0,w2,hl,hpN,hqN,hpl,hql,w3,w4,w5,w6,d1,n1,g1,d2,n2,g2,d3,n3,g3,d4,e1,hcl1,hct,w7,show IntKind.i64.wrap 0=0 from rfl]) ?_|refine wf (by simpa [hi2,hie,hp,hq,hp0,hq0,w2,hl,hpN,hqN,hpl,hql,w3,w4,w5,w6,d1,n1,g1,d2,n2,g2,d3,n3,g3,d4,e1,hcl1,hct,w7,show IntKind.i64.wrap 0=0 from rfl]) ?_|refine xt (by simpa [hi2,hie,hp,hq,hp0,hq0,w2,hl,hpN,hqN,hpl,hql,w3,w4,w5,w6,d1,n1,g1,d2,n2,g2,d3,n3,g3,d4,e1,hcl1,hct,w7,show IntKind.i64.wrap 0=0 from rfl]) ?_|refine xf (by simpa [hi2,hie,hp,hq,hp0,hq0,w2,hl,hpN,hqN,hpl,hql,w3,w4,w5,w6,d1,n1,g1,d2,n2,g2,d3,n3,g3,d4,e1,hcl1,hct,w7,show IntKind.i64.wrap 0=0 from rfl]) ?_|apply wp_bs|apply wp_b|refine wp_sr ?_|refine wp_sx ?_|refine wp_ret' ?_|refine wp_skip' ?_|refine wp_exit' ?_)
      simp [zi219]
    · simp only [List.nil_append,List.length_nil,O2,show eds [((p:Int),(q:Int))]=[[I p,I q]] from rfl] at e1 hcl1 hct w7
      refine call_of_wp zt219 rfl ?_
      repeat (first|apply wp_as|apply wp_ss|refine wr (by simp [hi2,hie,hp,hq,hp0,hq0,w2,hl,hpN,hqN,hpl,hql,w3,w4,w5,w6,d1,n1,g1,d2,n2,g2,d3,n3,g3,d4,e1,hcl1,hct,w7,show IntKind.i64.wrap 0=0 from rfl];with_reducible rfl) ?_|refine wq (by simp [hi2,hie,hp,hq,hp0,hq0,w2,hl,hpN,hqN,hpl,hql,w3,w4,w5,w6,d1,n1,g1,d2,n2,g2,d3,n3,g3,d4,e1,hcl1,hct,w7,show IntKind.i64.wrap 0=0 from rfl];with_reducible rfl) ?_|refine wt (by simpa [hi2,hie,hp,hq,hp0,hq0,w2,hl,hpN,hqN,hpl,hql,w3,w4,w5,w6,d1,n1,g1,d2,n2,g2,d3,n3,g3,d4,e1,hcl1,hct,w7,show IntKind.i64.wrap 0=0 from rfl]) ?_|refine wf (by simpa [hi2,hie,hp,hq,hp0,hq0,w2,hl,hpN,hqN,hpl,hql,w3,w4,w5,w6,d1,n1,g1,d2,n2,g2,d3,n3,g3,d4,e1,hcl1,hct,w7,show IntKind.i64.wrap 0=0 from rfl]) ?_|refine xt (by simpa [hi2,hie,hp,hq,hp0,hq0,w2,hl,hpN,hqN,hpl,hql,w3,w4,w5,w6,d1,n1,g1,d2,n2,g2,d3,n3,g3,d4,e1,hcl1,hct,w7,show IntKind.i64.wrap 0=0 from rfl]) ?_|refine xf (by simpa [hi2,hie,hp,hq,hp0,hq0,w2,hl,hpN,hqN,hpl,hql,w3,w4,w5,w6,d1,n1,g1,d2,n2,g2,d3,n3,g3,d4,e1,hcl1,hct,w7,show IntKind.i64.wrap 0=0 from rfl]) ?_|apply wp_bs|apply wp_b|refine wp_sr ?_|refine wp_sx ?_|refine wp_ret' ?_|refine wp_skip' ?_|refine wp_exit' ?_)
      simp [zi219]
  | true =>
    have e2:=ev_lim (e2 rfl)
    rw [show ((i+1:Nat):Int)=(i:Int)+1 by omega] at e2
    simp only [boxW,capsW] at e2
    rcases hch with rfl | ⟨rfl,rfl⟩
    · refine call_of_wp zt219 rfl ?_
      repeat (first|apply wp_as|apply wp_ss|refine wr (by simp [hi2,hie,hp,hq,hp0,hq0,w2,hl,hpN,hqN,hpl,hql,w3,w4,w5,w6,d1,n1,g1,d2,n2,g2,d3,n3,g3,d4,e1,e2,hcl1,hct,w7,show IntKind.i64.wrap 0=0 from rfl];with_reducible rfl) ?_|refine wq (by simp [hi2,hie,hp,hq,hp0,hq0,w2,hl,hpN,hqN,hpl,hql,w3,w4,w5,w6,d1,n1,g1,d2,n2,g2,d3,n3,g3,d4,e1,e2,hcl1,hct,w7,show IntKind.i64.wrap 0=0 from rfl];with_reducible rfl) ?_|refine wt (by simpa [hi2,hie,hp,hq,hp0,hq0,w2,hl,hpN,hqN,hpl,hql,w3,w4,w5,w6,d1,n1,g1,d2,n2,g2,d3,n3,g3,d4,e1,e2,hcl1,hct,w7,show IntKind.i64.wrap 0=0 from rfl]) ?_|refine wf (by simpa [hi2,hie,hp,hq,hp0,hq0,w2,hl,hpN,hqN,hpl,hql,w3,w4,w5,w6,d1,n1,g1,d2,n2,g2,d3,n3,g3,d4,e1,e2,hcl1,hct,w7,show IntKind.i64.wrap 0=0 from rfl]) ?_|refine xt (by simpa [hi2,hie,hp,hq,hp0,hq0,w2,hl,hpN,hqN,hpl,hql,w3,w4,w5,w6,d1,n1,g1,d2,n2,g2,d3,n3,g3,d4,e1,e2,hcl1,hct,w7,show IntKind.i64.wrap 0=0 from rfl]) ?_|refine xf (by simpa [hi2,hie,hp,hq,hp0,hq0,w2,hl,hpN,hqN,hpl,hql,w3,w4,w5,w6,d1,n1,g1,d2,n2,g2,d3,n3,g3,d4,e1,e2,hcl1,hct,w7,show IntKind.i64.wrap 0=0 from rfl]) ?_|apply wp_bs|apply wp_b|refine wp_sr ?_|refine wp_sx ?_|refine wp_ret' ?_|refine wp_skip' ?_|refine wp_exit' ?_)
      simp [zi219]
    · simp only [List.nil_append,List.length_nil,O2,show eds [((p:Int),(q:Int))]=[[I p,I q]] from rfl] at e1 hcl1 hct w7
      simp only [O2,eds_nil] at e2
      refine call_of_wp zt219 rfl ?_
      repeat (first|apply wp_as|apply wp_ss|refine wr (by simp [hi2,hie,hp,hq,hp0,hq0,w2,hl,hpN,hqN,hpl,hql,w3,w4,w5,w6,d1,n1,g1,d2,n2,g2,d3,n3,g3,d4,e1,e2,hcl1,hct,w7,show IntKind.i64.wrap 0=0 from rfl];with_reducible rfl) ?_|refine wq (by simp [hi2,hie,hp,hq,hp0,hq0,w2,hl,hpN,hqN,hpl,hql,w3,w4,w5,w6,d1,n1,g1,d2,n2,g2,d3,n3,g3,d4,e1,e2,hcl1,hct,w7,show IntKind.i64.wrap 0=0 from rfl];with_reducible rfl) ?_|refine wt (by simpa [hi2,hie,hp,hq,hp0,hq0,w2,hl,hpN,hqN,hpl,hql,w3,w4,w5,w6,d1,n1,g1,d2,n2,g2,d3,n3,g3,d4,e1,e2,hcl1,hct,w7,show IntKind.i64.wrap 0=0 from rfl]) ?_|refine wf (by simpa [hi2,hie,hp,hq,hp0,hq0,w2,hl,hpN,hqN,hpl,hql,w3,w4,w5,w6,d1,n1,g1,d2,n2,g2,d3,n3,g3,d4,e1,e2,hcl1,hct,w7,show IntKind.i64.wrap 0=0 from rfl]) ?_|refine xt (by simpa [hi2,hie,hp,hq,hp0,hq0,w2,hl,hpN,hqN,hpl,hql,w3,w4,w5,w6,d1,n1,g1,d2,n2,g2,d3,n3,g3,d4,e1,e2,hcl1,hct,w7,show IntKind.i64.wrap 0=0 from rfl]) ?_|refine xf (by simpa [hi2,hie,hp,hq,hp0,hq0,w2,hl,hpN,hqN,hpl,hql,w3,w4,w5,w6,d1,n1,g1,d2,n2,g2,d3,n3,g3,d4,e1,e2,hcl1,hct,w7,show IntKind.i64.wrap 0=0 from rfl]) ?_|apply wp_bs|apply wp_b|refine wp_sr ?_|refine wp_sx ?_|refine wp_ret' ?_|refine wp_skip' ?_|refine wp_exit' ?_)
      simp [zi219]
theorem dec_ok {left:List Int} {p q:Nat} (hp:p < left.length) (hq:q < left.length) (hpq:p ≠ q) :
    Dec left (left.set p (left[p] - 1)) (decAt (decAt left p) q) ((decAt (decAt left p) q).set p left[p]) p q hp hq:=by
  have gp:left.getD p 0=left[p]:=by simp [List.getD_eq_getElem?_getD,List.getElem?_eq_getElem hp]
  have h1:decAt left p=left.set p (left[p] - 1):=by rw [decAt,gp]
  have gq:(left.set p (left[p] - 1)).getD q 0=left[q]:=by
    rw [List.getD_eq_getElem?_getD,List.getElem?_set,if_neg hpq,List.getElem?_eq_getElem hq];rfl
  have h2:decAt (decAt left p) q=(left.set p (left[p] - 1)).set q (left[q] - 1):=by
    rw [h1,decAt,gq]
  rw [h2]
  refine ⟨rfl,by simp,fun h=>?_,rfl,by simp,fun h=>?_,rfl,by simp,fun h=>?_,?_⟩
  · rw [List.getElem_set_ne hpq]
  · rw [List.getElem_set_ne hpq.symm,List.getElem_set_self]
  · rw [List.getElem_set_ne hpq,List.getElem_set_self]
  · refine List.ext_getElem (by simp) fun k k1 k2=>?_
    rw [List.getElem_set,List.getElem_set,List.getElem_set,List.getElem_set]
    split
    · subst_vars;rfl
    · split
      · subst_vars;rfl
      · rfl
end Go.Idl
namespace Go.Idl
open Go
theorem subs_len:∀ (r:List (Int×Int)) (left:List Int) (ch:List (Int×Int)),(subs r left ch).length≤2 ^ r.length
  | [],left,ch=>by rw [subs];split <;> simp
  | e::r,left,ch=>by
    have h1:=subs_len r (decAt (decAt left e.1.toNat) e.2.toNat) (ch++[e])
    have h2:=subs_len r left ch
    rw [subs,List.length_append,List.length_cons,Nat.pow_succ]
    split
    · omega
    · simp;omega
theorem upTo_true (l:List (List (Int×Int))):upTo (fun _=>true) l=(l,true):=by
  induction l with
  | nil=>rfl
  | cons g r ih=>simp [upTo,ih]
theorem upTo_len (more):∀ l:List (List (Int×Int)),(upTo more l).1.length≤l.length
  | []=>by simp [upTo]
  | g::r=>by
    have:=upTo_len more r
    rw [upTo]
    split
    · simp;exact this
    · simp
theorem decAt_len (o:List Int) (i:Nat):(decAt o i).length=o.length:=by simp [decAt]
theorem sg_walk (n:Int) (e0:Nat) (from_:List (Int×Int)) (c:Bool) (F:Lab) (caps:List IV) (more:List (Int×Int)→Bool) (P:List (List (Int×Int))→Boxes→Prop) (hcb:CallsBack n F caps more P) (N:Nat)
    (hfr:∀ e ∈ from_,0≤e.1∧e.1 < e.2∧e.2 < N) (hfl:from_.length≤900) (hN:N≤1000) (he0:e0=2 ∨ from_=[]):∀ (m i:Nat) (left:List Int) (ch:IV) (chosen:List (Int×Int)) (gl:List (List (Int×Int))) (bs:Boxes) (Es:List Boxes),i+m=from_.length→P gl bs→EdRep ch chosen →
    left.length=N→(∀ x ∈ left,x≤1000)→chosen.length+m≤950→gl.length+2 ^ m≤10000000 →
    ∃ ch' bs',EdRep ch' chosen∧P (gl++(upTo more (subs (from_.drop i) left chosen)).1) bs' ∧
      Ev tb zl219 [] (I i::capsW) (bs::boxW n e0 from_ c F caps left ch::Es) ⟨Bo (upTo more (subs (from_.drop i) left chosen)).2,[],bs'::boxW n e0 from_ c F caps left ch'::Es,[]⟩:=by
  intro m
  induction m with
  | zero =>
    intro i left ch chosen gl bs Es hi hP hch hl hlb hcl hgl
    have h3:i=from_.length:=hi
    subst h3
    rw [List.drop_length]
    exact sg_end n e0 from_ c F caps more P hcb N hN hfl left ch chosen gl bs Es hP (by omega) hch hl (by omega)
  | succ m ih =>
    intro i left ch chosen gl bs Es hi hP hch hl hlb hcl hgl
    have hi2:i < from_.length:=by omega
    have he2:e0=2:=he0.resolve_right fun h=>by rw [h] at hi2;simp at hi2
    subst he2
    have hd:from_.drop i=from_[i]::from_.drop (i+1):=List.drop_eq_getElem_cons hi2
    rw [Nat.pow_succ] at hgl
    obtain ⟨hf1,hf2,hf3⟩:=hfr _ (List.getElem_mem hi2)
    obtain ⟨p,hp⟩:=Int.eq_ofNat_of_zero_le hf1
    obtain ⟨q,hq⟩:=Int.eq_ofNat_of_zero_le (show 0≤from_[i].2 by omega)
    have hpl:p < left.length:=by omega
    have hql:q < left.length:=by omega
    have hpq:p ≠ q:=by omega
    have gp:left.getD p 0=left[p]:=by simp [List.getD_eq_getElem?_getD,List.getElem?_eq_getElem hpl]
    have gq:left.getD q 0=left[q]:=by simp [List.getD_eq_getElem?_getD,List.getElem?_eq_getElem hql]
    have he:from_[i]=((p:Int),(q:Int)):=Prod.ext hp hq
    rw [hd,subs]
    have tp:from_[i].1.toNat=p:=by omega
    have tq:from_[i].2.toNat=q:=by omega
    rw [tp,tq,gp,gq]
    by_cases hpos:0 < left[p]∧0 < left[q]
    rotate_left
    · rw [if_neg hpos,List.nil_append]
      obtain ⟨ch',bs',k1,k2,k3⟩:=ih (i+1) left ch chosen gl bs (Es++[[[I p,I q]]]) (by omega) hP hch hl hlb (by omega) (by omega)
      exact ⟨ch',bs',k1,k2,sg_skip n from_ c F caps i p q N hi2 hfl hp hq left hl (by omega) (by omega) hpos ch ch' bs bs' Es _ k3⟩
    · rw [if_pos hpos,he]
      have hD:=dec_ok hpl hql hpq
      have hlb2:∀ x ∈ decAt (decAt left p) q,x≤1000:=fun x hx=>by
        have one:∀ (o:List Int) (k:Nat),(∀ x ∈ o,x≤1000)→∀ x ∈ decAt o k,x≤1000:=fun o k ho x hx=>by
          rcases List.mem_or_eq_of_mem_set hx with hx | rfl
          · exact ho x hx
          · rw [List.getD_eq_getElem?_getD]
            cases ho2:o[k]? with
            | none=>simp
            | some y=>have:=ho y (List.mem_of_getElem? ho2);simp;omega
        exact one _ q (one _ p hlb) x hx
      obtain ⟨ch1,bs1,k1,k2,k3⟩:=ih (i+1) (decAt (decAt left p) q) (O2 (chosen++[((p:Int),(q:Int))])) (chosen++[((p:Int),(q:Int))]) gl bs (Es++[[[I p,I q]]]) (by omega) hP (.inl rfl) (by rw [decAt_len,decAt_len];exact hl) hlb2 (by simp;omega) (by omega)
      have hc1:ch1=O2 (chosen++[((p:Int),(q:Int))]):=by
        rcases k1 with k1 | ⟨k1,_⟩
        · exact k1
        · simp at k1
      subst hc1
      rw [upTo_app]
      obtain ⟨b1,hb1⟩:∃ b1,b1=(upTo more (subs (from_.drop (i+1)) (decAt (decAt left p) q) (chosen++[((p:Int),(q:Int))]))).2:=⟨_,rfl⟩
      rw [← hb1] at k3 ⊢
      have bp:=hlb _ (List.getElem_mem hpl)
      have bq:=hlb _ (List.getElem_mem hql)
      cases b1 with
      | false =>
        simp only [Bool.false_eq_true,if_false]
        rw [← hb1]
        refine ⟨O2 chosen,bs1,.inl rfl,k2,?_⟩
        exact sg_take n from_ c F caps i p q N hi2 hfl hp hq left _ _ _ hl (by omega) (by omega) hpl hql hD bp bq hpos.1 hpos.2 ch (O2 chosen) chosen hch (by omega) bs bs1 bs1 Es false false k3 (fun h=>by cases h) (fun _=>⟨rfl,rfl,rfl⟩)
      | true =>
        simp only [if_true]
        have hgl2:(gl++(upTo more (subs (from_.drop (i+1)) (decAt (decAt left p) q) (chosen++[((p:Int),(q:Int))]))).1).length+2 ^ m≤10000000:=by
          have h1:=upTo_len more (subs (from_.drop (i+1)) (decAt (decAt left p) q) (chosen++[((p:Int),(q:Int))]))
          have h2:=subs_len (from_.drop (i+1)) (decAt (decAt left p) q) (chosen++[((p:Int),(q:Int))])
          rw [List.length_drop,show from_.length - (i+1)=m by omega] at h2
          rw [List.length_append];omega
        obtain ⟨ch2,bs2,j1,j2,j3⟩:=ih (i+1) left (O2 chosen) chosen _ bs1 (Es++[[[I p,I q]]]) (by omega) k2 (.inl rfl) hl hlb (by omega) hgl2
        refine ⟨ch2,bs2,j1,by rw [← List.append_assoc];exact j2,?_⟩
        exact sg_take n from_ c F caps i p q N hi2 hfl hp hq left _ _ _ hl (by omega) (by omega) hpl hql hD bp bq hpos.1 hpos.2 ch ch2 chosen hch (by omega) bs bs1 bs2 Es true _ k3 (fun _=>j3) (fun h=>by cases h)
theorem ev_subgraphs (n:Int) (e0:Nat) (from_:List (Int×Int)) (c:Bool) (d:List Int) (cd:Bool) (F:Lab) (caps:List IV) (more:List (Int×Int)→Bool) (P:List (List (Int×Int))→Boxes→Prop) (hcb:CallsBack n F caps more P)
    (he0:e0=2 ∨ from_=[]) (hfr:∀ e ∈ from_,0≤e.1∧e.1 < e.2∧e.2 < d.length) (hfl:from_.length≤21) (hN:d.length≤1000) (hd:∀ x ∈ d,x≤1000) (bs:Boxes) (hP:P [] bs) :
    ∃ bs',P (upTo more (subs from_ d [])).1 bs'∧Ev tb zl218 [] [I n,.lst e0 (eds from_) c,L d cd,.fn F caps] [bs] ⟨.tup [],[],[bs'],[]⟩:=by
  obtain ⟨ch',bs',k1,k2,k3⟩:=sg_walk n e0 from_ c F caps more P hcb d.length hfr (by omega) hN he0 from_.length 0 d Z [] [] bs [] (by simp) hP (.inr ⟨rfl,rfl⟩) rfl hd (by simp;omega) (by
    have:=Nat.pow_le_pow_right (show 0 < 2 by decide) hfl
    simp only [List.length_nil];omega)
  refine ⟨bs',by simpa using k2,?_⟩
  have e1:=ev_lim k3
  have e2:=ev_lim (ev_clone d cd (by omega))
  simp only [boxW,capsW] at e1
  rw [show ((0:Nat):Int)=0 from rfl] at e1
  refine call_of_wp zt218 rfl ?_
  repeat (first|apply wp_as|apply wp_ss|refine wr (by simp [e1,e2];with_reducible rfl) ?_|refine wq (by simp [e1,e2];with_reducible rfl) ?_|refine wt (by simpa [e1,e2]) ?_|refine wf (by simpa [e1,e2]) ?_|refine xt (by simpa [e1,e2]) ?_|refine xf (by simpa [e1,e2]) ?_|apply wp_bs|apply wp_b|refine wp_sr ?_|refine wp_sx ?_|refine wp_ret' ?_|refine wp_skip' ?_|refine wp_exit' ?_)
  simp [zi218]
end Go.Idl
namespace Go.Idl
open Go
def gls (n:Int) (gl:List (List (Int×Int))):List (List IV):=gl.map fun es=>[I n,O2 es]
@[simp] theorem gls_len (n:Int) (gl):(gls n gl).length=gl.length:=by simp [gls]
@[simp] theorem gls_one (n:Int) (gl) (es:List (Int×Int)):gls n gl++[[IV.sc (.int .i64 n),.own 2 (eds es)]]=gls n (gl++[es]):=by simp [gls]
@[simp] theorem gls_emp (n:Int) (gl):(gls n gl).isEmpty=gl.isEmpty:=by cases gl <;> rfl
@[simp] theorem gls_take (n:Int) (gl) (k:Nat):(gls n gl).take k=gls n (gl.take k):=by simp [gls,List.map_take]
@[simp] theorem gls_all (n:Int) (gl):((gls n gl).all fun x=>x.all IV.isData)=true:=by
  induction gl with
  | nil=>rfl
  | cons x xs ih=>simp only [gls,List.map_cons,List.all_cons] at *;rw [ih];rfl
@[simp] theorem gls_noLst (n:Int) (gl):noLstLL (gls n gl)=true:=by
  induction gl with
  | nil=>rfl
  | cons x xs ih=>simp only [gls,List.map_cons,noLstLL,noLstL,noLstV,eds_noLst] at *;rw [ih];rfl
def ngl (n:Int):List (List (Int×Int))→IV
  | []=>Z
  | g::gl=>.own 2 (gls n (g::gl))
theorem all_F1 (n:Int) (gl:List (List (Int×Int))) (es:List (Int×Int)) (B:Boxes) (Es:List Boxes) (hl:gl.length≤100000000) :
    Ev tb zl148 [] [.agg [I n,O2 es],.bptr 0 0 0] ([[ngl n gl]]::B::Es) ⟨Bo true,[],[[ngl n (gl++[es])]]::B::Es,[]⟩:=by
  cases gl with
  | nil =>
    simp only [ngl,List.nil_append]
    refine call_of_wp zt148 rfl ?_
    repeat (first|apply wp_as|apply wp_ss|refine wr (by simp;with_reducible rfl) ?_|refine wq (by simp;with_reducible rfl) ?_|refine wt (by simpa) ?_|refine wf (by simpa) ?_|refine xt (by simpa) ?_|refine xf (by simpa) ?_|apply wp_bs|apply wp_b|refine wp_sr ?_|refine wp_sx ?_|refine wp_ret' ?_|refine wp_skip' ?_|refine wp_exit' ?_)
    simp [zi148,gls]
  | cons g gl =>
    simp only [ngl,List.cons_append]
    rw [← List.cons_append]
    have h1:gl.length+1+1≤274877906944:=by simp at hl;omega
    have h2:(gls n (g::gl)).take (gl.length+1)=gls n (g::gl):=List.take_of_length_le (by simp)
    refine call_of_wp zt148 rfl ?_
    repeat (first|apply wp_as|apply wp_ss|refine wr (by simp [h1,h2];with_reducible rfl) ?_|refine wq (by simp [h1,h2];with_reducible rfl) ?_|refine wt (by simpa [h1,h2]) ?_|refine wf (by simpa [h1,h2]) ?_|refine xt (by simpa [h1,h2]) ?_|refine xf (by simpa [h1,h2]) ?_|apply wp_bs|apply wp_b|refine wp_sr ?_|refine wp_sx ?_|refine wp_ret' ?_|refine wp_skip' ?_|refine wp_exit' ?_)
    simp [zi148]
theorem calls_all (n:Int):CallsBack n zl148 [.bptr 0 0 0] (fun _=>true) (fun gl bs=>bs=[[ngl n gl]]):=by
  intro gl bs es hP hl he
  exact ⟨[[ngl n (gl++[es])]],rfl,fun B Es=>by rw [hP];exact all_F1 n gl es B Es (by omega)⟩
theorem ev_listed (d:List Int) (c:Bool) (k:Int) (hl:d.length≤2000000):Ev tb zl213 [] [L d c,I k] [] ⟨Bo (valid d && decide ((d.length:Int)≤k)),[],[],[]⟩:=by
  have e1:=ev_lim (ev_ValidDegrees d c hl)
  cases hv:valid d with
  | false =>
    rw [hv] at e1
    refine call_of_wp zt213 rfl ?_
    repeat (first|apply wp_as|apply wp_ss|refine wr (by simp [e1];with_reducible rfl) ?_|refine wq (by simp [e1];with_reducible rfl) ?_|refine wt (by simpa [e1]) ?_|refine wf (by simpa [e1]) ?_|refine xt (by simpa [e1]) ?_|refine xf (by simpa [e1]) ?_|apply wp_bs|apply wp_b|refine wp_sr ?_|refine wp_sx ?_|refine wp_ret' ?_|refine wp_skip' ?_|refine wp_exit' ?_)
    simp [zi213]
  | true =>
    rw [hv] at e1
    refine call_of_wp zt213 rfl ?_
    repeat (first|apply wp_as|apply wp_ss|refine wr (by simp [e1];with_reducible rfl) ?_|refine wq (by simp [e1];with_reducible rfl) ?_|refine wt (by simpa [e1]) ?_|refine wf (by simpa [e1]) ?_|refine xt (by simpa [e1]) ?_|refine xf (by simpa [e1]) ?_|apply wp_bs|apply wp_b|refine wp_sr ?_|refine wp_sx ?_|refine wp_ret' ?_|refine wp_skip' ?_|refine wp_exit' ?_)
    simp [zi213]
theorem ev_ClipG (n:Int) (gl:List (List (Int×Int))):Ev tb zl259 [] [ngl n gl] [] ⟨ngl n gl,[],[],[]⟩:=by
  cases gl with
  | nil =>
    simp only [ngl]
    refine call_of_wp zt259 rfl ?_
    repeat (first|apply wp_as|apply wp_ss|refine wr (by simp;with_reducible rfl) ?_|refine wq (by simp;with_reducible rfl) ?_|refine wt (by simpa) ?_|refine wf (by simpa) ?_|refine xt (by simpa) ?_|refine xf (by simpa) ?_|apply wp_bs|apply wp_b|refine wp_sr ?_|refine wp_sx ?_|refine wp_ret' ?_|refine wp_skip' ?_|refine wp_exit' ?_)
    simp [zi259]
  | cons g gl =>
    simp only [ngl]
    have h2:(gls n (g::gl)).take (gl.length+1)=gls n (g::gl):=List.take_of_length_le (by simp)
    refine call_of_wp zt259 rfl ?_
    repeat (first|apply wp_as|apply wp_ss|refine wr (by simp [h2];with_reducible rfl) ?_|refine wq (by simp [h2];with_reducible rfl) ?_|refine wt (by simpa [h2]) ?_|refine wf (by simpa [h2]) ?_|refine xt (by simpa [h2]) ?_|refine xf (by simpa [h2]) ?_|apply wp_bs|apply wp_b|refine wp_sr ?_|refine wp_sx ?_|refine wp_ret' ?_|refine wp_skip' ?_|refine wp_exit' ?_)
    simp [zi259,h2]
theorem prs21:∀ n,n≤7→(prs n).length≤21:=by decide +kernel
def reals (d:List Int):List (List (Int×Int)):=subs (prs d.length) d []
theorem ev_AllRealizations (d:List Int) (c:Bool) (hv:valid d=true) (h5:d.length≤5):Ev tb zl147 [] [L d c] [] ⟨ngl d.length (reals d),[],[],[]⟩:=by
  have hf:=valid_few hv
  have e1:=ev_lim (ev_listed d c 5 (by omega))
  rw [hv,decide_eq_true (by omega:(d.length:Int)≤5),Bool.true_and] at e1
  have e2:=ev_lim (ev_impl_pairs d.length (by omega))
  have hpl:=prs21 d.length (by omega)
  have hin:∀ e ∈ prs d.length,0≤e.1∧e.1 < e.2∧e.2 < d.length:=fun e he=>mem_prs.1 he
  obtain ⟨bs',k1,k2⟩:∃ bs',(fun gl bs=>bs=[[ngl d.length gl]]) (upTo (fun _=>true) (reals d)).1 bs'∧Ev tb zl218 [] [I d.length,match nl2 (prs d.length) with | .own e x=>.lst e x false | x=>x,L d c,.fn zl148 [.bptr 0 0 0]] [[[Z]]] ⟨.tup [],[],[bs'],[]⟩:=by
    unfold reals
    cases hq:prs d.length with
    | nil=>exact ev_subgraphs d.length 0 [] true d c _ _ _ _ (calls_all d.length) (.inr rfl) (by simp) (by simp) (by omega) (fun x hx=>by have:=hf.2 x hx;omega) [[Z]] rfl
    | cons e r =>
      rw [hq] at hin hpl
      exact ev_subgraphs d.length 2 (e::r) false d c _ _ _ _ (calls_all d.length) (.inl rfl) hin hpl (by omega) (fun x hx=>by have:=hf.2 x hx;omega) [[Z]] rfl
  rw [upTo_true] at k1
  simp only at k1
  subst k1
  have e3:=ev_lim k2
  have e4:=ev_lim (ev_ClipG d.length (reals d))
  generalize reals d=gl at *
  cases hq:prs d.length with
  | nil =>
    rw [hq] at e2 e3
    simp only [nl2_nil] at e2 e3
    cases gl with
    | nil =>
      simp only [ngl] at e3 e4 ⊢
      refine call_of_wp zt147 rfl ?_
      repeat (first|apply wp_as|apply wp_ss|refine wr (by simp [e1,e2,e3,e4];with_reducible rfl) ?_|refine wq (by simp [e1,e2,e3,e4];with_reducible rfl) ?_|refine wt (by simpa [e1,e2,e3,e4]) ?_|refine wf (by simpa [e1,e2,e3,e4]) ?_|refine xt (by simpa [e1,e2,e3,e4]) ?_|refine xf (by simpa [e1,e2,e3,e4]) ?_|apply wp_bs|apply wp_b|refine wp_sr ?_|refine wp_sx ?_|refine wp_ret' ?_|refine wp_skip' ?_|refine wp_exit' ?_)
      simp [zi147]
    | cons g gl =>
      simp only [ngl] at e3 e4 ⊢
      refine call_of_wp zt147 rfl ?_
      repeat (first|apply wp_as|apply wp_ss|refine wr (by simp [e1,e2,e3,e4];with_reducible rfl) ?_|refine wq (by simp [e1,e2,e3,e4];with_reducible rfl) ?_|refine wt (by simpa [e1,e2,e3,e4]) ?_|refine wf (by simpa [e1,e2,e3,e4]) ?_|refine xt (by simpa [e1,e2,e3,e4]) ?_|refine xf (by simpa [e1,e2,e3,e4]) ?_|apply wp_bs|apply wp_b|refine wp_sr ?_|refine wp_sx ?_|refine wp_ret' ?_|refine wp_skip' ?_|refine wp_exit' ?_)
      simp [zi147]
  | cons e r =>
    rw [hq] at e2 e3
    simp only [nl2_cons] at e2 e3
    have hT:(e::r).take (r.length+1)=e::r:=List.take_of_length_le (by simp)
    cases gl with
    | nil =>
      simp only [ngl] at e3 e4 ⊢
      refine call_of_wp zt147 rfl ?_
      repeat (first|apply wp_as|apply wp_ss|refine wr (by simp [e1,e2,e3,e4,hT];with_reducible rfl) ?_|refine wq (by simp [e1,e2,e3,e4,hT];with_reducible rfl) ?_|refine wt (by simpa [e1,e2,e3,e4,hT]) ?_|refine wf (by simpa [e1,e2,e3,e4,hT]) ?_|refine xt (by simpa [e1,e2,e3,e4,hT]) ?_|refine xf (by simpa [e1,e2,e3,e4,hT]) ?_|apply wp_bs|apply wp_b|refine wp_sr ?_|refine wp_sx ?_|refine wp_ret' ?_|refine wp_skip' ?_|refine wp_exit' ?_)
      simp [zi147]
    | cons g gl =>
      simp only [ngl] at e3 e4 ⊢
      refine call_of_wp zt147 rfl ?_
      repeat (first|apply wp_as|apply wp_ss|refine wr (by simp [e1,e2,e3,e4,hT];with_reducible rfl) ?_|refine wq (by simp [e1,e2,e3,e4,hT];with_reducible rfl) ?_|refine wt (by simpa [e1,e2,e3,e4,hT]) ?_|refine wf (by simpa [e1,e2,e3,e4,hT]) ?_|refine xt (by simpa [e1,e2,e3,e4,hT]) ?_|refine xf (by simpa [e1,e2,e3,e4,hT]) ?_|apply wp_bs|apply wp_b|refine wp_sr ?_|refine wp_sx ?_|refine wp_ret' ?_|refine wp_skip' ?_|refine wp_exit' ?_)
      simp [zi147]
end Go.Idl
namespace Go.Idl
open Go
def isM (g h:List (Int×Int)) (to:List Int):Bool:=(g.all fun e=>has h (to.getD e.1.toNat 0) (to.getD e.2.toNat 0)) && decide (g.length=h.length)
def fm (g h:List (Int×Int)) (n:Nat):Nat→List Int→Bool
  | 0,to=>isM g h to
  | m+1,to=>(List.range n).any fun v=>!decide ((v:Int) ∈ to) && fm g h n m (to++[(v:Int)])
theorem ev_isMap (n:Nat) (g h:List (Int×Int)) (cg ch:Bool) (to:List Int) (ct:Bool) (hn:n≤7) (hg:g.length≤21) (hh:h.length≤21) (hin:∀ e ∈ g,0≤e.1∧e.1 < n∧0≤e.2∧e.2 < n) (ht:to.length=n) :
    Ev tb zl588 [] [Gr n g cg,Gr n h ch,L to ct] [] ⟨Bo (isM g h to),[],[],[]⟩:=by
  have loop:∀ (m i:Nat),i+m=g.length→wp tb (.loop z588l6) { T:=[(2,L to ct),(3,.bptr 0 0 0),(4,.bptr 0 1 0),(7,I i)],loc:=[[I n,L2 g cg],[I n,L2 h ch]],M:=[] }
      (fun ex st=>(ex=.exit 0∧((g.drop i).all fun e=>has h (to.getD e.1.toNat 0) (to.getD e.2.toNat 0))=true∧st={ T:=[(2,L to ct),(3,.bptr 0 0 0),(4,.bptr 0 1 0),(7,I g.length),(12,Bo false)],loc:=[[I n,L2 g cg],[I n,L2 h ch]],M:=[] }) ∨
        ex=.ret∧((g.drop i).all fun e=>has h (to.getD e.1.toNat 0) (to.getD e.2.toNat 0))=false∧st={ T:=[(6,Bo false)],loc:=[[I n,L2 g cg],[I n,L2 h ch]],M:=[] }):=by
    intro m
    induction m with
    | zero =>
      intro i hi
      have h3:i=g.length:=hi
      subst h3
      refine wp_loop ?_
      repeat (first|apply wp_as|apply wp_ss|refine wr (by simp;with_reducible rfl) ?_|refine wq (by simp;with_reducible rfl) ?_|refine wt (by simpa) ?_|refine wf (by simpa) ?_|refine xt (by simpa) ?_|refine xf (by simpa) ?_|apply wp_bs|apply wp_b|refine wp_sr ?_|refine wp_sx ?_|refine wp_ret' ?_|refine wp_skip' ?_|refine wp_exit' ?_)
      exact .inl ⟨rfl,by simp,rfl⟩
    | succ m ih =>
      intro i hi
      have hi2:i < g.length:=by omega
      have w2:IntKind.i64.wrap ((i:Int)+1)=((i+1:Nat):Int):=wrapS (by omega)
      have hd:g.drop i=g[i]::g.drop (i+1):=List.drop_eq_getElem_cons hi2
      have hb:=hin _ (List.getElem_mem hi2)
      obtain ⟨⟨x,y⟩,he⟩:∃ e,e=g[i]:=⟨_,rfl⟩
      rw [← he] at hb hd
      obtain ⟨a,rfl⟩:=Int.eq_ofNat_of_zero_le hb.1
      obtain ⟨b,rfl⟩:=Int.eq_ofNat_of_zero_le hb.2.2.1
      simp only at hb
      have he2:=he.symm
      have ha:a < to.length:=by omega
      have hb2:b < to.length:=by omega
      have ga:to.getD a 0=to[a]:=by simp [List.getD_eq_getElem?_getD,List.getElem?_eq_getElem ha]
      have gb:to.getD b 0=to[b]:=by simp [List.getD_eq_getElem?_getD,List.getElem?_eq_getElem hb2]
      have e1:=fun c=>ev_lim (ev_hasEdge n h c (to[a]) (to[b]) (by omega))
      rw [hd,List.all_cons]
      simp only [Int.toNat_natCast,ga,gb]
      cases hv:has h to[a] to[b] with
      | true =>
        rw [hv] at e1
        refine wp_loop ?_
        repeat (first|apply wp_as|apply wp_ss|refine wr (by simp [hi2,he2,ha,hb2,e1,w2];with_reducible rfl) ?_|refine wq (by simp [hi2,he2,ha,hb2,e1,w2];with_reducible rfl) ?_|refine wt (by simpa [hi2,he2,ha,hb2,e1,w2]) ?_|refine wf (by simpa [hi2,he2,ha,hb2,e1,w2]) ?_|refine xt (by simpa [hi2,he2,ha,hb2,e1,w2]) ?_|refine xf (by simpa [hi2,he2,ha,hb2,e1,w2]) ?_|apply wp_bs|apply wp_b|refine wp_sr ?_|refine wp_sx ?_|refine wp_ret' ?_|refine wp_skip' ?_|refine wp_exit' ?_)
        simpa using ih (i+1) (by omega)
      | false =>
        rw [hv] at e1
        refine wp_loop ?_
        repeat (first|apply wp_as|apply wp_ss|refine wr (by simp [hi2,he2,ha,hb2,e1,w2];with_reducible rfl) ?_|refine wq (by simp [hi2,he2,ha,hb2,e1,w2];with_reducible rfl) ?_|refine wt (by simpa [hi2,he2,ha,hb2,e1,w2]) ?_|refine wf (by simpa [hi2,he2,ha,hb2,e1,w2]) ?_|refine xt (by simpa [hi2,he2,ha,hb2,e1,w2]) ?_|refine xf (by simpa [hi2,he2,ha,hb2,e1,w2]) ?_|apply wp_bs|apply wp_b|refine wp_sr ?_|refine wp_sx ?_|refine wp_ret' ?_|refine wp_skip' ?_|refine wp_exit' ?_)
        exact .inr ⟨rfl,rfl,rfl⟩
  have l0:=loop g.length 0 (by simp)
  rw [show ((0:Nat):Int)=0 from rfl] at l0
  refine call_of_wp zt588 rfl ?_
  repeat (first|apply wp_as|apply wp_ss|refine wr (by simp;with_reducible rfl) ?_|refine wq (by simp;with_reducible rfl) ?_|refine wt (by simpa) ?_|refine wf (by simpa) ?_|refine xt (by simpa) ?_|refine xf (by simpa) ?_|apply wp_bs|apply wp_b|refine wp_sr ?_|refine wp_sx ?_|refine wp_ret' ?_|refine wp_skip' ?_|refine wp_exit' ?_)
  refine wp_imp l0 ?_
  rintro ex st (⟨rfl,h1,rfl⟩ | ⟨rfl,h1,rfl⟩)
  · rw [List.drop_zero] at h1
    by_cases hl:g.length=h.length
    · have hl2:(g.length:Int)=h.length:=by omega
      have hq:isM g h to=true:=by rw [isM,h1,decide_eq_true hl];rfl
      repeat (first|apply wp_as|apply wp_ss|refine wr (by simp [hl];with_reducible rfl) ?_|refine wq (by simp [hl];with_reducible rfl) ?_|refine wt (by simpa [hl]) ?_|refine wf (by simpa [hl]) ?_|refine xt (by simpa [hl]) ?_|refine xf (by simpa [hl]) ?_|apply wp_bs|apply wp_b|refine wp_sr ?_|refine wp_sx ?_|refine wp_ret' ?_|refine wp_skip' ?_|refine wp_exit' ?_)
      simp [zi588,hq]
    · have hl2:¬ (g.length:Int)=h.length:=by omega
      have hq:isM g h to=false:=by rw [isM,decide_eq_false hl,Bool.and_false]
      repeat (first|apply wp_as|apply wp_ss|refine wr (by simp [hl,hl2];with_reducible rfl) ?_|refine wq (by simp [hl,hl2];with_reducible rfl) ?_|refine wt (by simpa [hl,hl2]) ?_|refine wf (by simpa [hl,hl2]) ?_|refine xt (by simpa [hl,hl2]) ?_|refine xf (by simpa [hl,hl2]) ?_|apply wp_bs|apply wp_b|refine wp_sr ?_|refine wp_sx ?_|refine wp_ret' ?_|refine wp_skip' ?_|refine wp_exit' ?_)
      simp [zi588,hq,hl2]
  · rw [List.drop_zero] at h1
    have hq:isM g h to=false:=by rw [isM,h1];rfl
    simp [zi588,hq]
def fmV (V:IV):Prop:=V=Z ∨ ∃ l:List Int,V=O l
set_option maxHeartbeats 4000000 in
theorem ev_findMap (n:Nat) (g h:List (Int×Int)) (hn:n≤7) (hg:g.length≤21) (hh:h.length≤21) (hin:∀ e ∈ g,0≤e.1∧e.1 < n∧0≤e.2∧e.2 < n) :
    ∀ (m:Nat) (to:List Int) (cg ch:Bool),to.length+m=n →
    ∃ V,fmV V∧Ev tb zl586 [] [Gr n g cg,Gr n h ch,O to] [] ⟨.tup [V,Bo (fm g h n m to)],[],[],[]⟩:=by
  intro m
  induction m with
  | zero =>
    intro to cg ch hto
    have e1:=fun c1 c2 c3=>ev_lim (ev_isMap n g h c1 c2 to c3 hn hg hh hin (by omega))
    have htt:to.take n=to:=List.take_of_length_le (by omega)
    have hto':to.length=n:=by omega
    refine ⟨O to,.inr ⟨_,rfl⟩,?_⟩
    rw [fm]
    refine call_of_wp zt586 rfl ?_
    repeat (first|apply wp_as|apply wp_ss|refine wr (by simp [e1,hto',htt];with_reducible rfl) ?_|refine wq (by simp [e1,hto',htt];with_reducible rfl) ?_|refine wt (by simpa [e1,hto',htt]) ?_|refine wf (by simpa [e1,hto',htt]) ?_|refine xt (by simpa [e1,hto',htt]) ?_|refine xf (by simpa [e1,hto',htt]) ?_|apply wp_bs|apply wp_b|refine wp_sr ?_|refine wp_sx ?_|refine wp_ret' ?_|refine wp_skip' ?_|refine wp_exit' ?_)
    simp [zi586]
  | succ m ih =>
    intro to cg ch hto
    have hne:¬ to.length=n:=by omega
    have hne2:¬ (to.length:Int)=n:=by omega
    have loop:∀ (k i:Nat),i+k=n→wp tb (.loop z586l10) { T:=[(2,O to),(3,.bptr 0 0 0),(4,.bptr 0 1 0),(8,I i)],loc:=[[I n,L2 g cg],[I n,L2 h ch]],M:=[] }
        (fun ex st=>(ex=.exit 0∧((List.range' i k).any fun v=>!decide ((v:Int) ∈ to) && fm g h n m (to++[(v:Int)]))=false∧st={ T:=[(2,O to),(3,.bptr 0 0 0),(4,.bptr 0 1 0),(8,I n),(24,Bo false)],loc:=[[I n,L2 g cg],[I n,L2 h ch]],M:=[] }) ∨
          ex=.ret∧((List.range' i k).any fun v=>!decide ((v:Int) ∈ to) && fm g h n m (to++[(v:Int)]))=true∧∃ V X9,fmV V∧st={ T:=[(2,O to),(6,V),(7,Bo true),(9,X9)],loc:=[[I n,L2 g cg],[I n,L2 h ch]],M:=[] }):=by
      intro k
      induction k with
      | zero =>
        intro i hi
        have h3:i=n:=hi
        subst h3
        refine wp_loop ?_
        repeat (first|apply wp_as|apply wp_ss|refine wr (by simp;with_reducible rfl) ?_|refine wq (by simp;with_reducible rfl) ?_|refine wt (by simpa) ?_|refine wf (by simpa) ?_|refine xt (by simpa) ?_|refine xf (by simpa) ?_|apply wp_bs|apply wp_b|refine wp_sr ?_|refine wp_sx ?_|refine wp_ret' ?_|refine wp_skip' ?_|refine wp_exit' ?_)
        exact .inl ⟨rfl,by simp,rfl⟩
      | succ k ihk =>
        intro i hi
        have hi2:i < n:=by omega
        have w2:IntKind.i64.wrap ((i:Int)+1)=((i+1:Nat):Int):=wrapS (by omega)
        have e1:=fun c=>ev_lim (ev_hasInt to c i (by omega))
        have hlm:to.length+1≤274877906944:=by omega
        have htt:to.take to.length=to:=List.take_of_length_le (Nat.le_refl _)
        have e2:=fun c=>ev_lim (ev_copyInts to c (by omega))
        rw [List.range'_succ,List.any_cons]
        by_cases hm:(i:Int) ∈ to
        · rw [decide_eq_true hm] at e1 ⊢
          refine wp_loop ?_
          repeat (first|apply wp_as|apply wp_ss|refine wr (by simp [hi2,e1,w2];with_reducible rfl) ?_|refine wq (by simp [hi2,e1,w2];with_reducible rfl) ?_|refine wt (by simpa [hi2,e1,w2]) ?_|refine wf (by simpa [hi2,e1,w2]) ?_|refine xt (by simpa [hi2,e1,w2]) ?_|refine xf (by simpa [hi2,e1,w2]) ?_|apply wp_bs|apply wp_b|refine wp_sr ?_|refine wp_sx ?_|refine wp_ret' ?_|refine wp_skip' ?_|refine wp_exit' ?_)
          simpa using ihk (i+1) (by omega)
        · rw [decide_eq_false hm] at e1 ⊢
          obtain ⟨V2,hV2,E2⟩:=ih (to++[(i:Int)]) cg ch (by simp;omega)
          have e3:=ev_lim E2
          cases hv:fm g h n m (to++[(i:Int)]) with
          | true =>
            rw [hv] at e3
            rcases hV2 with rfl | ⟨l,rfl⟩
            · refine wp_loop ?_
              repeat (first|apply wp_as|apply wp_ss|refine wr (by simp [hi2,e1,w2];with_reducible rfl) ?_|refine wq (by simp [hi2,e1,w2];with_reducible rfl) ?_|refine wt (by simpa [hi2,e1,w2]) ?_|refine wf (by simpa [hi2,e1,w2]) ?_|refine xt (by simpa [hi2,e1,w2]) ?_|refine xf (by simpa [hi2,e1,w2]) ?_|apply wp_bs|apply wp_b|refine wp_sr ?_|refine wp_sx ?_|refine wp_ret' ?_|refine wp_skip' ?_|refine wp_exit' ?_)
              refine wp_rxas (by simp) (by simp [e2,e3,hlm,htt];with_reducible rfl) (by simp;with_reducible rfl) ?_ ?_
              · intro p hp
                simp only [List.mem_cons,List.not_mem_nil,or_false] at hp
                rcases hp with rfl | rfl
                · exact ⟨_,by simp [e2,e3,hlm,htt];with_reducible rfl,by simp⟩
                · exact ⟨_,by simp [e2,e3,hlm,htt];with_reducible rfl,by simp⟩
              repeat (first|apply wp_as|apply wp_ss|refine wr (by simp;with_reducible rfl) ?_|refine wq (by simp;with_reducible rfl) ?_|refine wt (by simpa) ?_|refine wf (by simpa) ?_|refine xt (by simpa) ?_|refine xf (by simpa) ?_|apply wp_bs|apply wp_b|refine wp_sr ?_|refine wp_sx ?_|refine wp_ret' ?_|refine wp_skip' ?_|refine wp_exit' ?_)
              exact .inr ⟨rfl,rfl,_,_,.inl rfl,rfl⟩
            · refine wp_loop ?_
              repeat (first|apply wp_as|apply wp_ss|refine wr (by simp [hi2,e1,w2];with_reducible rfl) ?_|refine wq (by simp [hi2,e1,w2];with_reducible rfl) ?_|refine wt (by simpa [hi2,e1,w2]) ?_|refine wf (by simpa [hi2,e1,w2]) ?_|refine xt (by simpa [hi2,e1,w2]) ?_|refine xf (by simpa [hi2,e1,w2]) ?_|apply wp_bs|apply wp_b|refine wp_sr ?_|refine wp_sx ?_|refine wp_ret' ?_|refine wp_skip' ?_|refine wp_exit' ?_)
              refine wp_rxas (by simp) (by simp [e2,e3,hlm,htt];with_reducible rfl) (by simp;with_reducible rfl) ?_ ?_
              · intro p hp
                simp only [List.mem_cons,List.not_mem_nil,or_false] at hp
                rcases hp with rfl | rfl
                · exact ⟨_,by simp [e2,e3,hlm,htt];with_reducible rfl,by simp⟩
                · exact ⟨_,by simp [e2,e3,hlm,htt];with_reducible rfl,by simp⟩
              repeat (first|apply wp_as|apply wp_ss|refine wr (by simp;with_reducible rfl) ?_|refine wq (by simp;with_reducible rfl) ?_|refine wt (by simpa) ?_|refine wf (by simpa) ?_|refine xt (by simpa) ?_|refine xf (by simpa) ?_|apply wp_bs|apply wp_b|refine wp_sr ?_|refine wp_sx ?_|refine wp_ret' ?_|refine wp_skip' ?_|refine wp_exit' ?_)
              exact .inr ⟨rfl,rfl,_,_,.inr ⟨l,rfl⟩,rfl⟩
          | false =>
            rw [hv] at e3
            rcases hV2 with rfl | ⟨l,rfl⟩
            · refine wp_loop ?_
              repeat (first|apply wp_as|apply wp_ss|refine wr (by simp [hi2,e1,w2];with_reducible rfl) ?_|refine wq (by simp [hi2,e1,w2];with_reducible rfl) ?_|refine wt (by simpa [hi2,e1,w2]) ?_|refine wf (by simpa [hi2,e1,w2]) ?_|refine xt (by simpa [hi2,e1,w2]) ?_|refine xf (by simpa [hi2,e1,w2]) ?_|apply wp_bs|apply wp_b|refine wp_sr ?_|refine wp_sx ?_|refine wp_ret' ?_|refine wp_skip' ?_|refine wp_exit' ?_)
              refine wp_rxas (by simp) (by simp [e2,e3,hlm,htt];with_reducible rfl) (by simp;with_reducible rfl) ?_ ?_
              · intro p hp
                simp only [List.mem_cons,List.not_mem_nil,or_false] at hp
                rcases hp with rfl | rfl
                · exact ⟨_,by simp [e2,e3,hlm,htt];with_reducible rfl,by simp⟩
                · exact ⟨_,by simp [e2,e3,hlm,htt];with_reducible rfl,by simp⟩
              repeat (first|apply wp_as|apply wp_ss|refine wr (by simp [w2];with_reducible rfl) ?_|refine wq (by simp [w2];with_reducible rfl) ?_|refine wt (by simpa [w2]) ?_|refine wf (by simpa [w2]) ?_|refine xt (by simpa [w2]) ?_|refine xf (by simpa [w2]) ?_|apply wp_bs|apply wp_b|refine wp_sr ?_|refine wp_sx ?_|refine wp_ret' ?_|refine wp_skip' ?_|refine wp_exit' ?_)
              simpa using ihk (i+1) (by omega)
            · refine wp_loop ?_
              repeat (first|apply wp_as|apply wp_ss|refine wr (by simp [hi2,e1,w2];with_reducible rfl) ?_|refine wq (by simp [hi2,e1,w2];with_reducible rfl) ?_|refine wt (by simpa [hi2,e1,w2]) ?_|refine wf (by simpa [hi2,e1,w2]) ?_|refine xt (by simpa [hi2,e1,w2]) ?_|refine xf (by simpa [hi2,e1,w2]) ?_|apply wp_bs|apply wp_b|refine wp_sr ?_|refine wp_sx ?_|refine wp_ret' ?_|refine wp_skip' ?_|refine wp_exit' ?_)
              refine wp_rxas (by simp) (by simp [e2,e3,hlm,htt];with_reducible rfl) (by simp;with_reducible rfl) ?_ ?_
              · intro p hp
                simp only [List.mem_cons,List.not_mem_nil,or_false] at hp
                rcases hp with rfl | rfl
                · exact ⟨_,by simp [e2,e3,hlm,htt];with_reducible rfl,by simp⟩
                · exact ⟨_,by simp [e2,e3,hlm,htt];with_reducible rfl,by simp⟩
              repeat (first|apply wp_as|apply wp_ss|refine wr (by simp [w2];with_reducible rfl) ?_|refine wq (by simp [w2];with_reducible rfl) ?_|refine wt (by simpa [w2]) ?_|refine wf (by simpa [w2]) ?_|refine xt (by simpa [w2]) ?_|refine xf (by simpa [w2]) ?_|apply wp_bs|apply wp_b|refine wp_sr ?_|refine wp_sx ?_|refine wp_ret' ?_|refine wp_skip' ?_|refine wp_exit' ?_)
              simpa using ihk (i+1) (by omega)
    have l0:=loop n 0 (by omega)
    rw [show ((0:Nat):Int)=0 from rfl,← List.range_eq_range'] at l0
    have hF:fm g h n (m+1) to=(List.range n).any fun v=>!decide ((v:Int) ∈ to) && fm g h n m (to++[(v:Int)]):=rfl
    rw [← hF] at l0
    generalize fm g h n (m+1) to=F at l0
    suffices hs:∃ r,(∃ V,fmV V∧r=(⟨.tup [V,Bo F],[],[],[]⟩:Ret))∧Ev tb zl586 [] [Gr n g cg,Gr n h ch,O to] [] r by
      obtain ⟨r,⟨V,h1,rfl⟩,h⟩:=hs
      exact ⟨V,h1,h⟩
    refine call_ex zt586 rfl ?_
    repeat (first|apply wp_as|apply wp_ss|refine wr (by simp [hne,hne2];with_reducible rfl) ?_|refine wq (by simp [hne,hne2];with_reducible rfl) ?_|refine wt (by simpa [hne,hne2]) ?_|refine wf (by simpa [hne,hne2]) ?_|refine xt (by simpa [hne,hne2]) ?_|refine xf (by simpa [hne,hne2]) ?_|apply wp_bs|apply wp_b|refine wp_sr ?_|refine wp_sx ?_|refine wp_ret' ?_|refine wp_skip' ?_|refine wp_exit' ?_)
    refine wp_imp l0 ?_
    rintro ex st (⟨rfl,h1,rfl⟩ | ⟨rfl,h1,V,X9,hV,rfl⟩)
    · subst h1
      simp only [if_true]
      repeat (first|apply wp_as|apply wp_ss|refine wr (by simp;with_reducible rfl) ?_|refine wq (by simp;with_reducible rfl) ?_|refine wt (by simpa) ?_|refine wf (by simpa) ?_|refine xt (by simpa) ?_|refine xf (by simpa) ?_|apply wp_bs|apply wp_b|refine wp_sr ?_|refine wp_sx ?_|refine wp_ret' ?_|refine wp_skip' ?_|refine wp_exit' ?_)
      exact ⟨.inr rfl,_,⟨Z,.inl rfl,rfl⟩,by simp [zi586]⟩
    · subst h1
      rcases hV with rfl | ⟨l,rfl⟩
      · exact ⟨.inr rfl,_,⟨Z,.inl rfl,rfl⟩,by simp [zi586]⟩
      · exact ⟨.inr rfl,_,⟨O l,.inr ⟨l,rfl⟩,rfl⟩,by simp [zi586]⟩
set_option maxHeartbeats 4000000 in
theorem ev_alike (n:Nat) (g h:List (Int×Int)) (cg ch:Bool) (hn:n≤7) (hgl:g.length≤21) (hhl:h.length≤21) (hin:EdgesIn n g) (hin2:EdgesIn n h) (hl:g.length=h.length) (hd:degs n g=degs n h) :
    Ev tb zl581 [] [Gr n g cg,Gr n h ch] [] ⟨Bo (fm g h n n []),[],[],[]⟩:=by
  have d1:=fun c=>ev_lim (ev_degrees n g c (by omega) (by omega) hin)
  have d2:=fun c=>ev_lim (ev_degrees n h c (by omega) (by omega) hin2)
  rw [← hd] at d2
  have hdl:(degs n g).length=n:=by rw [degs,dfold_len];simp
  have f1:=fun c=>ev_lim (ev_spec_falling (degs n g) c (by omega))
  have s1:=fun c1 c2=>ev_lim (ev_same (fall (degs n g)) (fall (degs n g)) c1 c2 (by rw [fall_len];omega) (by rw [fall_len];omega))
  simp only [decide_true] at s1
  obtain ⟨V,hV,E⟩:=ev_findMap n g h hn hgl hhl (fun e he=>by have:=hin e he;omega) n [] cg ch (by simp)
  have e1:limF tb zl586 [] [Gr n g cg,Gr n h ch,.own 1 []] []=_:=ev_lim E
  have t1:(degs n g).take n=degs n g:=List.take_of_length_le (by omega)
  have t2:(degs n g).take (degs n g).length=degs n g:=List.take_of_length_le (Nat.le_refl _)
  have t3:(fall (degs n g)).take (fall (degs n g)).length=fall (degs n g):=List.take_of_length_le (Nat.le_refl _)
  generalize degs n g=D at *
  rcases hV with rfl | ⟨l,rfl⟩
  · refine call_of_wp zt581 rfl ?_
    repeat (first|apply wp_as|apply wp_ss|refine wr (by simp;with_reducible rfl) ?_|refine wq (by simp;with_reducible rfl) ?_|refine wt (by simpa) ?_|refine wf (by simpa) ?_|refine xt (by simpa) ?_|refine xf (by simpa) ?_|apply wp_bs|apply wp_b|refine wp_sr ?_|refine wp_sx ?_|refine wp_ret' ?_|refine wp_skip' ?_|refine wp_exit' ?_)
    refine wp_ra (by simp [hl,d1,d2,f1,s1,t1,t2,t3];with_reducible rfl) (by simp;with_reducible rfl) ?_ ?_
    · intro p hp
      simp only [List.mem_cons,List.not_mem_nil,or_false] at hp
      rcases hp with rfl | rfl
      · exact ⟨_,by simp [hl,d1,d2,f1,s1,t1,t2,t3];with_reducible rfl,by simp⟩
      · exact ⟨_,by simp [hl,d1,d2,f1,s1,t1,t2,t3];with_reducible rfl,by simp⟩
    repeat (first|apply wp_as|apply wp_ss|refine wr (by simp [e1];with_reducible rfl) ?_|refine wq (by simp [e1];with_reducible rfl) ?_|refine wt (by simpa [e1]) ?_|refine wf (by simpa [e1]) ?_|refine xt (by simpa [e1]) ?_|refine xf (by simpa [e1]) ?_|apply wp_bs|apply wp_b|refine wp_sr ?_|refine wp_sx ?_|refine wp_ret' ?_|refine wp_skip' ?_|refine wp_exit' ?_)
    simp [zi581]
  · refine call_of_wp zt581 rfl ?_
    repeat (first|apply wp_as|apply wp_ss|refine wr (by simp;with_reducible rfl) ?_|refine wq (by simp;with_reducible rfl) ?_|refine wt (by simpa) ?_|refine wf (by simpa) ?_|refine xt (by simpa) ?_|refine xf (by simpa) ?_|apply wp_bs|apply wp_b|refine wp_sr ?_|refine wp_sx ?_|refine wp_ret' ?_|refine wp_skip' ?_|refine wp_exit' ?_)
    refine wp_ra (by simp [hl,d1,d2,f1,s1,t1,t2,t3];with_reducible rfl) (by simp;with_reducible rfl) ?_ ?_
    · intro p hp
      simp only [List.mem_cons,List.not_mem_nil,or_false] at hp
      rcases hp with rfl | rfl
      · exact ⟨_,by simp [hl,d1,d2,f1,s1,t1,t2,t3];with_reducible rfl,by simp⟩
      · exact ⟨_,by simp [hl,d1,d2,f1,s1,t1,t2,t3];with_reducible rfl,by simp⟩
    repeat (first|apply wp_as|apply wp_ss|refine wr (by simp [e1];with_reducible rfl) ?_|refine wq (by simp [e1];with_reducible rfl) ?_|refine wt (by simpa [e1]) ?_|refine wf (by simpa [e1]) ?_|refine xt (by simpa [e1]) ?_|refine xf (by simpa [e1]) ?_|apply wp_bs|apply wp_b|refine wp_sr ?_|refine wp_sx ?_|refine wp_ret' ?_|refine wp_skip' ?_|refine wp_exit' ?_)
    simp [zi581]
end Go.Idl
namespace Go.Idl
def insC {α:Type} (lt:α→α→Bool) (x:α):List α→List α→List α
  | [],B=>x::B
  | a::r,B=>if lt x a then insC lt x r (a::B) else r.reverse++a::x::B
def srtC {α:Type} (lt:α→α→Bool):List α→List α→List α
  | S,[]=>S
  | S,x::r=>srtC lt (insC lt x S.reverse []) r
end Go.Idl
namespace Go.Idl
structure Seg {α:Type} (X X':List α) (a b:Nat):Prop where
  perm:X'.Perm X
  out:∀ k,k < a ∨ b≤k→X'[k]? = X[k]?
theorem Seg.len {α:Type} {X X':List α} {a b:Nat} (h:Seg X X' a b):X'.length=X.length:=h.perm.length_eq
theorem Seg.refl {α:Type} (X:List α) (a b:Nat):Seg X X a b:=⟨.refl _,fun _ _=>rfl⟩
theorem Seg.trans {α:Type} {X Y Z:List α} {a b:Nat} (h:Seg X Y a b) (k:Seg Y Z a b):Seg X Z a b:=⟨k.perm.trans h.perm,fun i hi=>(k.out i hi).trans (h.out i hi)⟩
theorem Seg.mono {α:Type} {X Y:List α} {a b a' b':Nat} (h:Seg X Y a b) (h1:a'≤a) (h2:b≤b'):Seg X Y a' b':=⟨h.perm,fun i hi=>h.out i (by omega)⟩
theorem Seg.nodup {α:Type} {X Y:List α} {a b:Nat} (h:Seg X Y a b) (hn:X.Nodup):Y.Nodup:=h.perm.nodup_iff.2 hn
def swapL {α:Type} (X:List α) (i j:Nat) (hi:i < X.length) (hj:j < X.length):List α:=(X.set i X[j]).set j X[i]
theorem swapL_len {α:Type} (X:List α) (i j:Nat) (hi hj):(swapL X i j hi hj).length=X.length:=by simp [swapL]
theorem swapL_get {α:Type} (X:List α) (i j:Nat) (hi:i < X.length) (hj:j < X.length) (k:Nat):(swapL X i j hi hj)[k]? = if k=j then some X[i] else if k=i then some X[j] else X[k]?:=by
  rw [swapL,List.getElem?_set,List.getElem?_set]
  by_cases h1:k=j
  · subst h1;simp [hj]
  · by_cases h2:k=i
    · subst h2;simp [hi,h1,Ne.symm h1]
    · simp [h1,h2,Ne.symm h1,Ne.symm h2]
theorem swapL_perm {α:Type} (X:List α) (i j:Nat) (hi:i < X.length) (hj:j < X.length):(swapL X i j hi hj).Perm X:=by
  exact List.set_set_perm hi hj
theorem swapL_seg {α:Type} (X:List α) (i j a b:Nat) (hi:i < X.length) (hj:j < X.length) (h1:a≤i∧i < b) (h2:a≤j∧j < b):Seg X (swapL X i j hi hj) a b :=
  ⟨swapL_perm X i j hi hj,fun k hk=>by rw [swapL_get,if_neg (by omega),if_neg (by omega)]⟩
theorem Seg.back {α:Type} {X Y:List α} {a b:Nat} (h:Seg X Y a b) (hn:X.Nodup) {k:Nat} (hk:a≤k∧k < b) {e:α} (he:Y[k]? = some e):∃ l,(a≤l∧l < b)∧X[l]? = some e:=by
  have hm:e ∈ X:=h.perm.mem_iff.1 (List.mem_of_getElem? he)
  obtain ⟨l,hl,rfl⟩:=List.getElem_of_mem hm
  by_cases hlb:a≤l∧l < b
  · exact ⟨l,hlb,List.getElem?_eq_getElem hl⟩
  · have h1:=h.out l (by omega)
    rw [List.getElem?_eq_getElem hl] at h1
    have hny:=h.nodup hn
    have hkl:k < Y.length:=(List.getElem?_eq_some_iff.1 he).1
    have hll:l < Y.length:=by rw [h.len];exact hl
    have h2:=(List.getElem?_eq_some_iff.1 he).2
    have h3:=(List.getElem?_eq_some_iff.1 h1).2
    have h4:k=l:=(List.getElem_inj hny).1 (h2.trans h3.symm)
    omega
end Go.Idl
namespace Go.Idl
open Go
def BelowOn (X:List (Int×Int)) (lo hi:Nat) (x:Int×Int):Prop:=∀ k e,lo≤k→k < hi→X[k]? = some e→below e x=true
def AboveOn (X:List (Int×Int)) (lo hi:Nat) (x:Int×Int):Prop:=∀ k e,lo≤k→k < hi→X[k]? = some e→below e x=false
theorem BelowOn.snoc {X:List (Int×Int)} {lo hi:Nat} {x:Int×Int} (h:BelowOn X lo hi x) (hl:hi < X.length) (hb:below X[hi] x=true):BelowOn X lo (hi+1) x:=fun k e h1 h2 he=>by
  by_cases hk:k=hi
  · subst hk
    rw [List.getElem?_eq_getElem hl] at he
    cases he;exact hb
  · exact h k e h1 (by omega) he
theorem AboveOn.cons {X:List (Int×Int)} {lo hi:Nat} {x:Int×Int} (h:AboveOn X (lo+1) hi x) (hl:lo < X.length) (hb:below X[lo] x=false):AboveOn X lo hi x:=fun k e h1 h2 he=>by
  by_cases hk:k=lo
  · subst hk
    rw [List.getElem?_eq_getElem hl] at he
    cases he;exact hb
  · exact h k e (by omega) h2 he
structure PInv (X0 X:List (Int×Int)) (a b i j:Nat) (x:Int×Int):Prop where
  seg:Seg X0 X a b
  piv:X[a]? = some x
  lo:BelowOn X (a+1) i x
  hi:AboveOn X (j+1) b x
  ai:a+1≤i
  ij:i≤j+1
  jb:j < b
  bl:b≤X.length
theorem PInv.al {X0 X a b i j x} (h:PInv X0 X a b i j x):a < X.length:=(List.getElem?_eq_some_iff.1 h.piv).1
theorem PInv.xa {X0 X a b i j x} (h:PInv X0 X a b i j x):X[a]'h.al=x:=(List.getElem?_eq_some_iff.1 h.piv).2
theorem PInv.swap {X0 X a b i j x} (h:PInv X0 X a b i j x) (hi:i < X.length) (hj:j < X.length) (hij:i≤j) (h1:below X[i] x=false) (h2:below X[j] x=true) :
    ∃ q,j=q+1∧i < j∧PInv X0 (swapL X i j hi hj) a b (i+1) q x:=by
  have hne:i ≠ j:=by rintro rfl;rw [h1] at h2;cases h2
  have hb:=h.bl
  have hjb:=h.jb
  have hai:=h.ai
  refine ⟨j - 1,by omega,by omega,h.seg.trans (swapL_seg X i j a b hi hj (by omega) (by omega)),?_,?_,?_,by omega,by omega,by omega,by rw [swapL_len];exact hb⟩
  · rw [swapL_get,if_neg (by omega),if_neg (by omega)];exact h.piv
  · intro k e k1 k2 he
    rw [swapL_get,if_neg (by omega)] at he
    by_cases hk:k=i
    · rw [if_pos hk] at he
      cases he;exact h2
    · rw [if_neg hk] at he
      exact h.lo k e k1 (by omega) he
  · intro k e k1 k2 he
    rw [swapL_get] at he
    by_cases hk:k=j
    · rw [if_pos hk] at he
      cases he;exact h1
    · rw [if_neg hk,if_neg (by omega)] at he
      exact h.hi k e (by omega) k2 he
theorem PInv.fin {X0 X a b j x} (h:PInv X0 X a b (j+1) j x) (hj:j < X.length):Seg X0 (swapL X j a hj h.al) a b∧(swapL X j a hj h.al)[j]? = some x∧BelowOn (swapL X j a hj h.al) a j x∧AboveOn (swapL X j a hj h.al) (j+1) b x:=by
  have hb:=h.bl
  have hjb:=h.jb
  have hai:=h.ai
  have hxa:=h.xa
  refine ⟨h.seg.trans (swapL_seg X j a a b hj h.al (by omega) (by omega)),?_,fun k e k1 k2 he=>?_,fun k e k1 k2 he=>?_⟩
  · rw [swapL_get]
    by_cases hja:j=a
    · subst hja;rw [if_pos rfl,hxa]
    · rw [if_neg hja,if_pos rfl,hxa]
  · rw [swapL_get] at he
    by_cases hka:k=a
    · rw [if_pos hka] at he
      cases he
      exact h.lo j _ (by omega) (by omega) (List.getElem?_eq_getElem hj)
    · rw [if_neg hka,if_neg (by omega)] at he
      exact h.lo k e (by omega) (by omega) he
  · rw [swapL_get,if_neg (by omega),if_neg (by omega)] at he
    exact h.hi k e k1 k2 he
end Go.Idl
namespace Go.Idl
open Go
def srtE (X:List (Int×Int)):List (Int×Int):=srtC below [] X
end Go.Idl
namespace Go.Idl
open Go
abbrev RR (n:Nat) (o:Option (List (Int×Int))):IV:=match o with
  | none=>.tup [.agg [I 0,Z],Bo false]
  | some es=>.tup [OG n (srtE es),Bo true]
end Go.Idl
namespace Go.Idl
open Go
def insE (e:Int×Int):List (Int×Int)→List (Int×Int)
  | []=>[e]
  | x::r=>if below x e then x::insE e r else e::x::r
theorem insE_at (e:Int×Int) (es:List (Int×Int)) (k:Nat) (hk:k≤es.length) (h:∀ x ∈ es.take k,below x e=true) (hs:∀ h:k < es.length,below es[k] e=false) :
    insE e es=es.take k++[e]++es.drop k:=by
  induction es generalizing k with
  | nil=>simp at hk;subst hk;rfl
  | cons x r ih =>
    cases k with
    | zero =>
      have:=hs (by simp)
      simp only [List.getElem_cons_zero] at this
      simp [insE,this]
    | succ k =>
      have h1:=h x (by simp)
      rw [insE,if_pos h1,ih k (by simpa using hk) (fun y hy=>h y (by simp [hy])) (fun hh=>hs (by simpa using hh))]
      simp
theorem insE_len (e:Int×Int) (es:List (Int×Int)):(insE e es).length=es.length+1:=by
  induction es with
  | nil=>rfl
  | cons x r ih=>rw [insE];split <;> simp [ih]
theorem ev_addEdge (n:Int) (es:List (Int×Int)) (c:Bool) (a b:Int) (hl:es.length≤2000000) :
    Ev tb zl335 [] [Gr n es c,I a,I b] [] ⟨OG n (insE (min a b,max a b) es),[],[],[]⟩:=by
  obtain ⟨e,he⟩:∃ e:Int×Int,e=(min a b,max a b):=⟨_,rfl⟩
  have he1:(if b < a then b else a)=e.1:=by rw [he];simp only;split <;> omega
  have he2:(if a < b then b else a)=e.2:=by rw [he];simp only;split <;> omega
  rw [← he]
  have loop:∀ (m k:Nat),k+m=es.length→(∀ x ∈ es.take k,below x e=true)→wp tb (.loop z335l5) { T:=[(3,.bptr 0 0 0),(6,.bptr 0 1 0),(7,.bptr 0 2 0),(8,I k)],loc:=[[I n,L2 es c],[I 0,Z],[I e.1,I e.2]],M:=[] }
      (fun ex st=>ex=.exit 0∧∃ k:Nat,(k≤es.length∧(∀ x ∈ es.take k,below x e=true)∧(∀ h:k < es.length,below es[k] e=false)) ∧
        st={ T:=[(3,.bptr 0 0 0),(6,.bptr 0 1 0),(7,.bptr 0 2 0),(8,I k),(30,Bo false)],loc:=[[I n,L2 es c],[I 0,Z],[I e.1,I e.2]],M:=[] }):=by
    intro m
    induction m with
    | zero =>
      intro k hk hb
      have h3:k=es.length:=hk
      subst h3
      refine wp_loop ?_
      repeat (first|apply wp_as|apply wp_ss|refine wr (by simp;with_reducible rfl) ?_|refine wq (by simp;with_reducible rfl) ?_|refine wt (by simpa) ?_|refine wf (by simpa) ?_|refine xt (by simpa) ?_|refine xf (by simpa) ?_|apply wp_bs|apply wp_b|refine wp_sr ?_|refine wp_sx ?_|refine wp_ret' ?_|refine wp_skip' ?_|refine wp_exit' ?_)
      exact ⟨rfl,es.length,⟨Nat.le_refl _,hb,fun h=>absurd h (by omega)⟩,rfl⟩
    | succ m ih =>
      intro k hk hb
      have hi2:k < es.length:=by omega
      have w2:IntKind.i64.wrap ((k:Int)+1)=((k+1:Nat):Int):=wrapS (by omega)
      have e1:=ev_lim (ev_edgeBelow es[k] e)
      cases hq:below es[k] e with
      | true =>
        refine wp_loop ?_
        repeat (first|apply wp_as|apply wp_ss|refine wr (by simp [hi2,e1,hq,w2];with_reducible rfl) ?_|refine wq (by simp [hi2,e1,hq,w2];with_reducible rfl) ?_|refine wt (by simpa [hi2,e1,hq,w2]) ?_|refine wf (by simpa [hi2,e1,hq,w2]) ?_|refine xt (by simpa [hi2,e1,hq,w2]) ?_|refine xf (by simpa [hi2,e1,hq,w2]) ?_|apply wp_bs|apply wp_b|refine wp_sr ?_|refine wp_sx ?_|refine wp_ret' ?_|refine wp_skip' ?_|refine wp_exit' ?_)
        refine ih (k+1) (by omega) fun x hx=>?_
        rw [List.take_succ_eq_append_getElem hi2] at hx
        rcases List.mem_append.1 hx with hx | hx
        · exact hb x hx
        · simp at hx;subst hx;exact hq
      | false =>
        refine wp_loop ?_
        repeat (first|apply wp_as|apply wp_ss|refine wr (by simp [hi2,e1,hq];with_reducible rfl) ?_|refine wq (by simp [hi2,e1,hq];with_reducible rfl) ?_|refine wt (by simpa [hi2,e1,hq]) ?_|refine wf (by simpa [hi2,e1,hq]) ?_|refine xt (by simpa [hi2,e1,hq]) ?_|refine xf (by simpa [hi2,e1,hq]) ?_|apply wp_bs|apply wp_b|refine wp_sr ?_|refine wp_sx ?_|refine wp_ret' ?_|refine wp_skip' ?_|refine wp_exit' ?_)
        exact ⟨rfl,k,⟨by omega,hb,fun _=>hq⟩,rfl⟩
  refine call_of_wp zt335 rfl ?_
  repeat (first|apply wp_as|apply wp_ss|refine wr (by simp [he1,he2];with_reducible rfl) ?_|refine wq (by simp [he1,he2];with_reducible rfl) ?_|refine wt (by simpa [he1,he2]) ?_|refine wf (by simpa [he1,he2]) ?_|refine xt (by simpa [he1,he2]) ?_|refine xf (by simpa [he1,he2]) ?_|apply wp_bs|apply wp_b|refine wp_sr ?_|refine wp_sx ?_|refine wp_ret' ?_|refine wp_skip' ?_|refine wp_exit' ?_)
  refine wp_imp (loop es.length 0 (by simp) (by simp)) ?_
  rintro ex st ⟨rfl,k,⟨hk,hb,hs⟩,rfl⟩
  rw [insE_at e es k hk hb hs]
  try simp only [if_true]
  have hT:es.take es.length=es:=List.take_of_length_le (Nat.le_refl _)
  have hT2:(es.drop k).take (es.length - k)=es.drop k:=List.take_of_length_le (by simp)
  have hT3:(es.take k).take k=es.take k:=by rw [List.take_take,Nat.min_self]
  have hl1:k≤274877906943:=by omega
  have hl2:k≤274877906944:=by omega
  have hl3:k+1≤274877906944:=by omega
  have hl4:k+1+(es.length - k)≤274877906944:=by omega
  have hT4:(es.take k++[(e.1,e.2)]).take (k+1)=es.take k++[(e.1,e.2)]:=List.take_of_length_le (by simp;omega)
  have hmin:min k es.length=k:=by omega
  repeat (first|apply wp_as|apply wp_ss|refine wr (by simp [hk,hT,hT2,hT3,hl1,hl2,hl3,hl4,hT4,hmin];with_reducible rfl) ?_|refine wq (by simp [hk,hT,hT2,hT3,hl1,hl2,hl3,hl4,hT4,hmin];with_reducible rfl) ?_|refine wt (by simpa [hk,hT,hT2,hT3,hl1,hl2,hl3,hl4,hT4,hmin]) ?_|refine wf (by simpa [hk,hT,hT2,hT3,hl1,hl2,hl3,hl4,hT4,hmin]) ?_|refine xt (by simpa [hk,hT,hT2,hT3,hl1,hl2,hl3,hl4,hT4,hmin]) ?_|refine xf (by simpa [hk,hT,hT2,hT3,hl1,hl2,hl3,hl4,hT4,hmin]) ?_|apply wp_bs|apply wp_b|refine wp_sr ?_|refine wp_sx ?_|refine wp_ret' ?_|refine wp_skip' ?_|refine wp_exit' ?_)
  refine wp_ra (by simp [hk,hT,hT2,hT3,hl1,hl2,hl3,hl4,hT4,hmin];with_reducible rfl) (by simp;with_reducible rfl) ?_ ?_
  · intro p hp
    simp only [List.mem_cons,List.not_mem_nil,or_false] at hp
    rcases hp with rfl | rfl | rfl | rfl | rfl | rfl | rfl | rfl | rfl | rfl | rfl
    · exact ⟨_,by simp [hk,hT,hT2,hT3,hl1,hl2,hl3,hl4,hT4,hmin];with_reducible rfl,by simp⟩
    · exact ⟨_,by simp [hk,hT,hT2,hT3,hl1,hl2,hl3,hl4,hT4,hmin];with_reducible rfl,by simp⟩
    · exact ⟨_,by simp [hk,hT,hT2,hT3,hl1,hl2,hl3,hl4,hT4,hmin];with_reducible rfl,by simp⟩
    · exact ⟨_,by simp [hk,hT,hT2,hT3,hl1,hl2,hl3,hl4,hT4,hmin];with_reducible rfl,by simp⟩
    · exact ⟨_,by simp [hk,hT,hT2,hT3,hl1,hl2,hl3,hl4,hT4,hmin];with_reducible rfl,by simp⟩
    · exact ⟨_,by simp [hk,hT,hT2,hT3,hl1,hl2,hl3,hl4,hT4,hmin];with_reducible rfl,by simp⟩
    · exact ⟨_,by simp [hk,hT,hT2,hT3,hl1,hl2,hl3,hl4,hT4,hmin];with_reducible rfl,by simp⟩
    · exact ⟨_,by simp [hk,hT,hT2,hT3,hl1,hl2,hl3,hl4,hT4,hmin];with_reducible rfl,by simp⟩
    · exact ⟨_,by simp [hk,hT,hT2,hT3,hl1,hl2,hl3,hl4,hT4,hmin];with_reducible rfl,by simp⟩
    · exact ⟨_,by simp [hk,hT,hT2,hT3,hl1,hl2,hl3,hl4,hT4,hmin];with_reducible rfl,by simp⟩
    · exact ⟨_,by simp [hk,hT,hT2,hT3,hl1,hl2,hl3,hl4,hT4,hmin];with_reducible rfl,by simp⟩
  repeat (first|apply wp_as|apply wp_ss|refine wr (by simp;with_reducible rfl) ?_|refine wq (by simp;with_reducible rfl) ?_|refine wt (by simpa) ?_|refine wf (by simpa) ?_|refine xt (by simpa) ?_|refine xf (by simpa) ?_|apply wp_bs|apply wp_b|refine wp_sr ?_|refine wp_sx ?_|refine wp_ret' ?_|refine wp_skip' ?_|refine wp_exit' ?_)
  simp [zi335]
end Go.Idl
namespace Go.Idl
open Go
structure SmallG (n:Int) (es:List (Int×Int)):Prop where
  n1:-1≤n
  n2:n≤8
  len:es.length≤60
  el:∀ e ∈ es,-1≤e.1∧e.1≤8∧-1≤e.2∧e.2≤8
theorem SmallG.fit {n es} (h:SmallG n es):Fit es:=fun e he=>by have:=h.el e he;omega
end Go.Idl
namespace Go.Idl
open Go
theorem ev_smallGraph (code:List Int) (c:Bool) (hc:CodeOk code) (cnt:Nat) (hn:cnt≤90000) (bs:Boxes) (Ms:List Boxes) :
    ∃ (n:Nat) (es:List (Int×Int)) (k:Nat),n≤5∧es.Sublist (prs n)∧k≤cnt+101 ∧
      limF tb zl375 [] [.bptr 0 0 0] ((R code c cnt::bs)::Ms)=some ⟨OG n es,[],(R code c k::bs)::Ms,[]⟩:=by
  obtain ⟨x,k1,hx,hk1,e1⟩:=one2 code c hc cnt (by omega) [5,4,5,3,2,1] (by simp) bs (Ms++[[[I 0,.lst 0 [] true]]])
  obtain ⟨n,rfl,hn7⟩:∃ n:Nat,x=(n:Int)∧n≤5:=by
    simp at hx
    exact ⟨x.toNat,by omega,by omega⟩
  obtain ⟨es,k,hs,hk,ea⟩:=ev_aGraph code c hc k1 (by omega) n (by omega) bs (Ms++[[[I 0,.lst 0 [] true]]])
  have e2:=ev_lim ea
  refine ⟨n,es,k,hn7,hs,by omega,ev_lim ?_⟩
  refine call_of_wp zt375 rfl ?_
  repeat (first|apply wp_as|apply wp_ss|refine wr (by simp [e1,e2];with_reducible rfl) ?_|refine wq (by simp [e1,e2];with_reducible rfl) ?_|refine wt (by simpa [e1,e2]) ?_|refine wf (by simpa [e1,e2]) ?_|refine xt (by simpa [e1,e2]) ?_|refine xf (by simpa [e1,e2]) ?_|apply wp_bs|apply wp_b|refine wp_sr ?_|refine wp_sx ?_|refine wp_ret' ?_|refine wp_skip' ?_|refine wp_exit' ?_)
  simp [zi375]
theorem ev_smallDegrees (code:List Int) (c:Bool) (hc:CodeOk code) (cnt:Nat) (hn:cnt≤80000) (bs:Boxes) (Ms:List Boxes) :
    ∃ (d:List Int) (k:Nat),d.length≤5∧Low 1000 d∧k≤cnt+200 ∧
      limF tb zl374 [] [.bptr 0 0 0] ((R code c cnt::bs)::Ms)=some ⟨O d,[],(R code c k::bs)::Ms,[]⟩:=by
  obtain ⟨n,es,k,hn7,hs,hk,e1⟩:=ev_smallGraph code c hc cnt (by omega) bs (Ms++[[]])
  have hel:=prs_len (by omega) hs
  have e2:=ev_lim (ev_degrees n es false (by omega) (by omega) (prs_in hs))
  have hdl:(degs n es).length=n:=by rw [degs,dfold_len];simp
  have hlo:Low 1000 (degs n es):=by
    intro x hx
    have:=dfold_bound es (List.replicate n 0) 0 (by intro x hx;have:=List.eq_of_mem_replicate hx;omega) (by omega) x hx
    omega
  obtain ⟨v,k2,hv,hk2,e3⟩:=pick' code c hc k (by omega) 3 (by omega) bs (Ms++[[]])
  generalize degs n es=d at *
  by_cases hv0:v=0
  · subst hv0
    obtain ⟨d',k3,hd',hlo',hk3,e4⟩:=ev_lifted code c hc k2 (by omega) d (by omega) hlo bs (Ms++[[]])
    refine ⟨d',k3,by omega,hlo',by omega,ev_lim ?_⟩
    refine call_of_wp zt374 rfl ?_
    repeat (first|apply wp_as|apply wp_ss|refine wr (by simp [e1,e2,e3,e4];with_reducible rfl) ?_|refine wq (by simp [e1,e2,e3,e4];with_reducible rfl) ?_|refine wt (by simpa [e1,e2,e3,e4]) ?_|refine wf (by simpa [e1,e2,e3,e4]) ?_|refine xt (by simpa [e1,e2,e3,e4]) ?_|refine xf (by simpa [e1,e2,e3,e4]) ?_|apply wp_bs|apply wp_b|refine wp_sr ?_|refine wp_sx ?_|refine wp_ret' ?_|refine wp_skip' ?_|refine wp_exit' ?_)
    simp [zi374]
  · have hv1:¬ (v:Int)=0:=by omega
    refine ⟨d,k2,by omega,hlo,by omega,ev_lim ?_⟩
    refine call_of_wp zt374 rfl ?_
    repeat (first|apply wp_as|apply wp_ss|refine wr (by simp [e1,e2,e3,hv0,hv1];with_reducible rfl) ?_|refine wq (by simp [e1,e2,e3,hv0,hv1];with_reducible rfl) ?_|refine wt (by simpa [e1,e2,e3,hv0,hv1]) ?_|refine wf (by simpa [e1,e2,e3,hv0,hv1]) ?_|refine xt (by simpa [e1,e2,e3,hv0,hv1]) ?_|refine xf (by simpa [e1,e2,e3,hv0,hv1]) ?_|apply wp_bs|apply wp_b|refine wp_sr ?_|refine wp_sx ?_|refine wp_ret' ?_|refine wp_skip' ?_|refine wp_exit' ?_)
    simp [zi374]
theorem ev_fewDegrees (code:List Int) (c:Bool) (hc:CodeOk code) (cnt:Nat) (hn:cnt≤60000) (bs:Boxes) (Ms:List Boxes) :
    ∃ (d:List Int) (k:Nat),d.length≤8∧Low 1000 d∧k≤cnt+400 ∧
      limF tb zl350 [] [.bptr 0 0 0] ((R code c cnt::bs)::Ms)=some ⟨O d,[],(R code c k::bs)::Ms,[]⟩:=by
  obtain ⟨v,k1,hv,hk1,e1⟩:=pick' code c hc cnt (by omega) 24 (by omega) bs (Ms++[[]])
  by_cases hv0:v=0
  · subst hv0
    obtain ⟨d,k2,h1,h2,h3,e2⟩:=ev_someDegrees code c hc k1 (by omega) bs (Ms++[[]])
    refine ⟨d,k2,h1,h2,by omega,ev_lim ?_⟩
    refine call_of_wp zt350 rfl ?_
    repeat (first|apply wp_as|apply wp_ss|refine wr (by simp [e1,e2];with_reducible rfl) ?_|refine wq (by simp [e1,e2];with_reducible rfl) ?_|refine wt (by simpa [e1,e2]) ?_|refine wf (by simpa [e1,e2]) ?_|refine xt (by simpa [e1,e2]) ?_|refine xf (by simpa [e1,e2]) ?_|apply wp_bs|apply wp_b|refine wp_sr ?_|refine wp_sx ?_|refine wp_ret' ?_|refine wp_skip' ?_|refine wp_exit' ?_)
    simp [zi350]
  · have hv1:¬ (v:Int)=0:=by omega
    obtain ⟨d,k2,h1,h2,h3,e2⟩:=ev_smallDegrees code c hc k1 (by omega) bs (Ms++[[]])
    obtain ⟨d',k3,j1,j2,j3,e3⟩:=ev_bent code c hc k2 (by omega) d (by omega) h2 bs (Ms++[[]])
    refine ⟨d',k3,by omega,j2,by omega,ev_lim ?_⟩
    refine call_of_wp zt350 rfl ?_
    repeat (first|apply wp_as|apply wp_ss|refine wr (by simp [e1,e2,e3,hv0,hv1];with_reducible rfl) ?_|refine wq (by simp [e1,e2,e3,hv0,hv1];with_reducible rfl) ?_|refine wt (by simpa [e1,e2,e3,hv0,hv1]) ?_|refine wf (by simpa [e1,e2,e3,hv0,hv1]) ?_|refine xt (by simpa [e1,e2,e3,hv0,hv1]) ?_|refine xf (by simpa [e1,e2,e3,hv0,hv1]) ?_|apply wp_bs|apply wp_b|refine wp_sr ?_|refine wp_sx ?_|refine wp_ret' ?_|refine wp_skip' ?_|refine wp_exit' ?_)
    simp [zi350]
end Go.Idl
namespace Go.Idl
def insP (x:Nat×Nat):List (Nat×Nat)→List (Nat×Nat)
  | []=>[x]
  | y::r=>if Nat.ble y.1 x.1 then x::y::r else y::insP x r
def hh:Nat→List (Nat×Nat)→List (Nat×Nat)
  | 0,_=>[]
  | _+1,[]=>[]
  | m+1,x::r=>(r.take x.1).map (fun y:Nat×Nat=>(x.2,y.2))++hh m ((((r.take x.1).map (fun y:Nat×Nat=>(y.1 - 1,y.2))++r.drop x.1:List (Nat×Nat))).foldr insP [])
def inH (h:List (Nat×Nat)) (e:Int×Int):Bool:=h.any fun x=>(Nat.beq x.1 e.1.toNat && Nat.beq x.2 e.2.toNat) || (Nat.beq x.2 e.1.toNat && Nat.beq x.1 e.2.toNat)
def hhG (s:List Int):List (Int×Int):=(prs s.length).filter (inH (hh 8 (s.zipIdx.map fun x=>(x.1.toNat,x.2))))
def chkR (s:List Int):Bool:=!(decide (s.sum % 2=0) && noneNeg (slS s)) || decide (degs s.length (hhG s)=s)
set_option maxRecDepth 100000 in
theorem chkR_all:(List.range 8).all (fun n=>allD chkR n (n - 1) [])=true:=by kernel_rfl
theorem getD_zero_all {left:List Int} {N:Nat} (hl:left.length=N):left.all (fun x=>decide (x=0))=true ↔ ∀ v,v < N→(0:Int)=left.getD v 0:=by
  rw [List.all_eq_true]
  constructor
  · intro h v hv
    rw [List.getD_eq_getElem?_getD,List.getElem?_eq_getElem (by omega)]
    have:=of_decide_eq_true (h _ (List.getElem_mem (show v < left.length by omega)))
    simp [this]
  · intro h x hx
    obtain ⟨v,hv,rfl⟩:=List.getElem_of_mem hx
    have:=h v (by omega)
    rw [List.getD_eq_getElem?_getD,List.getElem?_eq_getElem hv] at this
    simpa using this.symm
theorem decAt_get {o:List Int} {i v:Nat} (hv:v < o.length):(decAt o i).getD v 0=o.getD v 0 - (if i=v then 1 else 0):=by
  rw [decAt,List.getD_eq_getElem?_getD,List.getElem?_set]
  by_cases h:i=v
  · subst h;simp [hv,List.getD_eq_getElem?_getD]
  · simp [h,List.getD_eq_getElem?_getD]
theorem inc_nonneg (v:Nat) (e:Int×Int):0≤inc v e:=by simp only [inc];split <;> split <;> decide
theorem mem_subs {N:Nat}:∀ (r:List (Int×Int)) (left:List Int) (ch g:List (Int×Int)),(∀ e ∈ r,0≤e.1∧e.1 < e.2∧e.2 < N)→left.length=N →
    (g ∈ subs r left ch ↔ ∃ s:List (Int×Int),s.Sublist r∧g=ch++s∧∀ v,v < N→deg s v=left.getD v 0)
  | [],left,ch,g,_,hl=>by
    rw [subs]
    constructor
    · intro h
      split at h
      · rename_i hz
        simp at h
        subst h
        exact ⟨[],List.Sublist.refl _,by simp,fun v hv=>(getD_zero_all hl).1 hz v hv⟩
      · simp at h
    · rintro ⟨s,hs,rfl,hd⟩
      have:s=[]:=by simpa using hs
      subst this
      rw [if_pos ((getD_zero_all hl).2 fun v hv=>hd v hv)]
      simp
  | e::r,left,ch,g,hr,hl=>by
    have he:=hr e (by simp)
    have hr':∀ x ∈ r,0≤x.1∧x.1 < x.2∧x.2 < N:=fun x hx=>hr x (by simp [hx])
    have hdl:(decAt (decAt left e.1.toNat) e.2.toNat).length=N:=by simp [decAt,hl]
    have hget:∀ v,v < N→(decAt (decAt left e.1.toNat) e.2.toNat).getD v 0=left.getD v 0 - inc v e:=fun v hv=>by
      rw [decAt_get (by simp [decAt];omega),decAt_get (by omega),inc]
      have c1:(e.1.toNat=v)=(e.1=(v:Int)):=by rw [eq_iff_iff];omega
      have c2:(e.2.toNat=v)=(e.2=(v:Int)):=by rw [eq_iff_iff];omega
      simp only [c1,c2];omega
    rw [subs,List.mem_append]
    constructor
    · rintro (h | h)
      · split at h
        rotate_left
        · simp at h
        obtain ⟨s,hs,rfl,hd⟩:=(mem_subs r _ _ g hr' hdl).1 h
        refine ⟨e::s,hs.cons_cons e,by simp,fun v hv=>?_⟩
        have h1:=hd v hv
        rw [hget v hv] at h1
        rw [deg,S_cons]
        have h2:S s (inc v)=left.getD v 0 - inc v e:=h1
        rw [h2];omega
      · obtain ⟨s,hs,rfl,hd⟩:=(mem_subs r _ _ g hr' hl).1 h
        exact ⟨s,hs.cons e,rfl,hd⟩
    · rintro ⟨s,hs,rfl,hd⟩
      rcases List.sublist_cons_iff.1 hs with hs2 | ⟨s',rfl,hs2⟩
      · exact .inr ((mem_subs r _ _ _ hr' hl).2 ⟨s,hs2,rfl,hd⟩)
      · refine .inl ?_
        have hd':∀ v,v < N→inc v e+deg s' v=left.getD v 0:=fun v hv=>by
          rw [← hd v hv,deg,deg,S_cons]
        have pos:∀ x:Int,0≤x→x < N→(e.1=x ∨ e.2=x)→0 < left.getD x.toNat 0:=fun x h0 h1 h2=>by
          have h3:=hd' x.toNat (by omega)
          have h4:0≤deg s' x.toNat:=S_nonneg fun y _=>inc_nonneg _ y
          have h5:1≤inc x.toNat e:=by
            simp only [inc,show ((x.toNat:Nat):Int)=x by omega]
            rcases h2 with h2 | h2
            · rw [if_pos h2];split <;> decide
            · rw [if_pos h2];split <;> decide
          omega
        rw [if_pos ⟨pos e.1 (by omega) (by omega) (.inl rfl),pos e.2 (by omega) (by omega) (.inr rfl)⟩]
        refine (mem_subs r _ _ _ hr' hdl).2 ⟨s',hs2,by simp,fun v hv=>?_⟩
        rw [hget v hv,← hd' v hv];omega
theorem ite_iff {α:Type} {p q:Prop} [Decidable p] [Decidable q] (h:p ↔ q) (a b:α):(if p then a else b)=if q then a else b:=by
  by_cases hp:p
  · rw [if_pos hp,if_pos (h.1 hp)]
  · rw [if_neg hp,if_neg fun hq=>hp (h.2 hq)]
def mk (u v:Nat):Int×Int:=(min (u:Int) v,max (u:Int) v)
theorem inc_mk_all:(List.range 8).all (fun n=>(prs n).all fun e=>(List.range n).all fun v=>decide (inc v e=S (List.range n) (fun u=>if u=v then 0 else if e=mk u v then 1 else 0)))=true:=by decide +kernel
theorem inc_mk {n:Nat} (hn:n≤7) {e:Int×Int} (he:e ∈ prs n) {v:Nat} (hv:v < n):inc v e=S (List.range n) (fun u=>if u=v then 0 else if e=mk u v then 1 else 0):=by
  have:=List.all_eq_true.1 (List.all_eq_true.1 (List.all_eq_true.1 inc_mk_all n (List.mem_range.2 (by omega))) e he) v (List.mem_range.2 hv)
  exact of_decide_eq_true this
theorem S_ite {α:Type} (l:List α) (p:α→Bool) (f:α→Int):S (l.filter p) f=S l (fun a=>if p a then f a else 0):=by
  induction l with
  | nil=>rfl
  | cons a l ih =>
    rw [List.filter_cons,S_cons]
    split <;> rename_i h
    · rw [S_cons,ih]
    · rw [ih];omega
theorem mk_mem {n u v:Nat} (hu:u < n) (hv:v < n) (h:u ≠ v):mk u v ∈ prs n:=mem_prs.2 (by simp only [mk];omega)
theorem deg_filter {n:Nat} (hn:n≤7) (p:Int×Int→Bool) {v:Nat} (hv:v < n):deg ((prs n).filter p) v=S (List.range n) (fun u=>if u=v then 0 else if p (mk u v) then 1 else 0):=by
  rw [deg,S_ite,S_congr (g:=fun e=>S (List.range n) (fun u=>if u=v then 0 else if e=mk u v then (if p (mk u v) then 1 else 0) else 0)) fun e he=>?_,S_swap]
  · refine S_congr fun u hu=>?_
    have hu:=List.mem_range.1 hu
    by_cases huv:u=v
    · simp only [huv,if_true];exact S_zero _
    · simp only [if_neg huv]
      have hm:=mk_mem hu hv huv
      have h1:=S_one (pw_nodup (prs_pw n)) (mk u v)
      rw [if_pos hm] at h1
      by_cases hp:p (mk u v)=true
      · simp only [hp,if_true]
        exact Eq.trans (S_congr fun e _=>ite_iff eq_comm _ _) h1
      · simp only [if_neg hp,ite_self];exact S_zero _
  · rw [inc_mk hn he hv]
    by_cases hp:p e=true
    · rw [if_pos hp]
      refine S_congr fun u _=>?_
      by_cases huv:u=v
      · simp [huv]
      · simp only [if_neg huv]
        by_cases hem:e=mk u v
        · rw [if_pos hem,if_pos hem,← hem,if_pos hp]
        · rw [if_neg hem,if_neg hem]
    · rw [if_neg hp]
      symm
      rw [S_congr (g:=fun _=>0),S_zero]
      intro u _
      by_cases huv:u=v
      · simp [huv]
      · simp only [if_neg huv]
        by_cases hem:e=mk u v
        · rw [if_pos hem,← hem,if_neg hp]
        · rw [if_neg hem]
theorem mk_comm (u v:Nat):mk u v=mk v u:=Prod.ext (by simp only [mk];omega) (by simp only [mk];omega)
theorem degs_filter {n:Nat} (p:Int×Int→Bool):degs n ((prs n).filter p)=(List.range n).map (deg ((prs n).filter p)) :=
  degs_eq fun e he=>by have:=mem_prs.1 (List.mem_filter.1 he).1;omega
theorem graphic_real {d:List Int} (hg:graphic d=true):∃ p,degs d.length ((prs d.length).filter p)=d:=by
  have hv:valid d=true:=by simp only [graphic,Bool.and_eq_true] at hg;exact hg.1.1
  have h1:=(valid_few hv).1
  have h2:=valid_mem hv
  have hc:=List.all_eq_true.1 chkR_all d.length (List.mem_range.2 (by omega))
  have h3:=allD_ok chkR d.length (d.length - 1) [] (fall d) hc (fall_len d) (fall_desc d) (fun x hx=>by
    have:=h2 x (fall_mem.1 hx)
    omega)
  obtain ⟨n,hn⟩:∃ n,n=d.length:=⟨_,rfl⟩
  simp only [graphic,hv,Bool.true_and,Bool.and_eq_true,decide_eq_true_eq] at hg
  have hg2:noneNeg (slS (fall d))=true:=by rw [← slacks_S];exact hg.2
  simp only [List.reverse_nil,List.nil_append,chkR,fall_sum,hg.1,hg2,decide_true,Bool.and_self,Bool.not_true,Bool.false_or,decide_eq_true_eq,fall_len,hhG] at h3
  generalize inH (hh 8 ((fall d).zipIdx.map fun x=>(x.1.toNat,x.2)))=p0 at h3
  have hd:d=(List.range n).map fun v=>d.getD v 0:=by
    refine List.ext_getElem (by simp [hn]) fun i k1 k2=>?_
    simp [List.getD_eq_getElem?_getD,List.getElem?_eq_getElem k1]
  obtain ⟨π,hπ,hfp⟩:=perm_map_inv (f:=fun v=>d.getD v 0) (fall_perm d) hd
  have hπn:π.Nodup:=hπ.nodup_iff.2 List.nodup_range
  have hπl:π.length=n:=by rw [hπ.length_eq,List.length_range]
  have hσ:∀ v,v < n→π.idxOf v < n∧π[π.idxOf v]? = some v:=fun v hv=>by
    have hm:v ∈ π:=hπ.mem_iff.2 (List.mem_range.2 hv)
    have:=List.idxOf_lt_length_of_mem hm
    exact ⟨by omega,by rw [List.getElem?_eq_getElem this,List.getElem_idxOf]⟩
  have hinj:∀ u v,u < n→v < n→(π.idxOf u=π.idxOf v ↔ u=v):=fun u v hu hv=>by
    constructor
    · intro h
      have h4:=(hσ u hu).2
      rw [h,(hσ v hv).2] at h4
      simpa using h4.symm
    · rintro rfl;rfl
  have hmap:π.map (π.idxOf ·)=List.range n:=by
    refine List.ext_getElem (by simp [hπl]) fun i k1 k2=>?_
    rw [List.getElem_map,List.getElem_range]
    exact hπn.idxOf_getElem i (by simpa using k1)
  refine ⟨fun e=>p0 (mk (π.idxOf e.1.toNat) (π.idxOf e.2.toNat)),?_⟩
  rw [← hn]
  rw [degs_filter]
  conv=>rhs;rw [hd]
  refine List.map_congr_left fun v hv=>?_
  have hv:=List.mem_range.1 hv
  rw [← hn] at h3
  rw [deg_filter (by omega) _ hv]
  have hp:∀ u,p0 (mk (π.idxOf (mk u v).1.toNat) (π.idxOf (mk u v).2.toNat))=p0 (mk (π.idxOf u) (π.idxOf v)):=fun u=>by
    rcases Nat.le_total u v with h | h
    · rw [show (mk u v).1.toNat=u by simp only [mk];omega,show (mk u v).2.toNat=v by simp only [mk];omega]
    · rw [show (mk u v).1.toNat=v by simp only [mk];omega,show (mk u v).2.toNat=u by simp only [mk];omega,mk_comm]
  have e1:S (List.range n) (fun u=>if u=v then 0 else if p0 (mk (π.idxOf (mk u v).1.toNat) (π.idxOf (mk u v).2.toNat))=true then (1:Int) else 0) =
      S (List.range n) (fun u=>(fun i=>if i=π.idxOf v then 0 else if p0 (mk i (π.idxOf v))=true then (1:Int) else 0) (π.idxOf u)):=by
    refine S_congr fun u hu=>?_
    rw [hp u]
    exact ite_iff (hinj u v (List.mem_range.1 hu) hv).symm _ _
  rw [e1,← S_perm hπ]
  have e2:=S_map π (π.idxOf ·) (fun i=>if i=π.idxOf v then 0 else if p0 (mk i (π.idxOf v))=true then (1:Int) else 0)
  rw [hmap] at e2
  refine e2.symm.trans ?_
  rw [← deg_filter (by omega) p0 (hσ v hv).1]
  have h5:(degs n ((prs n).filter p0))[π.idxOf v]? = some (deg ((prs n).filter p0) (π.idxOf v)):=by
    rw [degs_filter,List.getElem?_map,List.getElem?_range (hσ v hv).1];rfl
  rw [h3,hfp,List.getElem?_map,(hσ v hv).2] at h5
  simpa using h5.symm
theorem real_ex {d:List Int} (hg:graphic d=true):∃ es,vGraph d.length es=true∧degs d.length es=d:=by
  obtain ⟨p,hp⟩:=graphic_real hg
  have hv:valid d=true:=by simp only [graphic,Bool.and_eq_true] at hg;exact hg.1.1
  exact ⟨_,filter_vG (valid_few hv).1 p,hp⟩
theorem graphic_iff_real {d:List Int} (h7:d.length≤7):graphic d=true ↔ ∃ es,vGraph d.length es=true∧degs d.length es=d:=by
  refine ⟨real_ex,?_⟩
  rintro ⟨es,h1,h2⟩
  have:=degs_graphic h1
  rwa [h2] at this
end Go.Idl
namespace Go.Idl
def hv:Nat→List Int→Bool
  | 0,_=>true
  | _+1,[]=>true
  | m+1,x::r=>decide (x≤r.length) && (r.take x.toNat).all (fun y=>!decide (y=0)) && hv m (fall ((r.take x.toNat).map (fun y=>y - 1)++r.drop x.toNat))
end Go.Idl
namespace Go.Idl
theorem comp_twice (d:List Int):comp (comp d)=d:=by
  rw [comp_map,comp_map]
  refine List.ext_getElem (by simp) fun i h1 h2=>?_
  simp only [List.length_map,List.map_map,List.getElem_map,Function.comp_apply]
  omega
end Go.Idl
namespace Go.Idl
open Go
@[simp] theorem un_neg (n:Int):Op.unary .neg (.int .i64 n)=.pure (.int .i64 (IntKind.i64.wrap (-n))):=by
  rw [← Int.zero_sub];rfl
def gs (r c:List Int) (i:Nat):Int:=-((fall r).take (i+1)).sum+(c.map fun x:Int=>min x ((i:Int)+1)).sum
end Go.Idl
namespace Go.Idl
open Go
def TT (n:Nat) (t:List (List Int)):Prop:=t.length=n∧∀ r ∈ t,r.length=n∧∀ x ∈ r,0≤x∧x≤1
theorem TT.set {n:Nat} {t:List (List Int)} (h:TT n t) {a b:Nat} {v:Int} (ha:a < t.length) (hv:0≤v∧v≤1):TT n (t.set a (t[a].set b v)):=by
  refine ⟨by simpa using h.1,fun r hr=>?_⟩
  have h1:=h.2 _ (List.getElem_mem ha)
  rcases List.mem_or_eq_of_mem_set hr with hr | rfl
  · exact h.2 r hr
  · refine ⟨by simpa using h1.1,fun x hx=>?_⟩
    rcases List.mem_or_eq_of_mem_set hx with hx | rfl
    · exact h1.2 x hx
    · exact hv
end Go.Idl
namespace Go.Idl
open Go
def MM (h w:Nat) (t:List (List Int)):Prop:=t.length=h∧∀ r ∈ t,r.length=w∧∀ x ∈ r,0≤x∧x≤1
end Go.Idl
namespace Go.Idl
open Go
theorem MM.sums {h w:Nat} {t:List (List Int)} (ht:MM h w t) (hw:w≤5):∀ x ∈ t.map List.sum,0≤x∧x≤5:=by
  intro x hx
  obtain ⟨r,hr,rfl⟩:=List.mem_map.1 hx
  have h1:=ht.2 r hr
  have:=sum01 r h1.2
  omega
end Go.Idl
namespace Go.Idl
open Go
def apart (a b c d:Int):Bool:=decide (a ≠ b) && decide (a ≠ c) && decide (a ≠ d) && decide (b ≠ c) && decide (b ≠ d) && decide (c ≠ d)
def gone (a b c d:Int) (x:Int×Int):Bool:=decide (x=(min a b,max a b)) || decide (x=(min c d,max c d))
end Go.Idl
namespace Go.Idl
open Go
def swX (es:List (Int×Int)) (a b c d:Int):List (Int×Int):=es.filter (fun x=>!gone a b c d x)++[(min a c,max a c),(min b d,max b d)]
def sw (es:List (Int×Int)) (a b c d:Int):List (Int×Int):=srtE (swX es a b c d)
theorem hasM_iff {es:List (Int×Int)} {a b:Int}:hasM es a b=true ↔ (min a b,max a b) ∈ es:=by
  simp [hasM]
theorem vG21 {n:Nat} (hn:n≤7) {es:List (Int×Int)} (h:vGraph n es=true):es.length≤21:=by
  have h1:=(vG_sub h).length_le
  have h2:∀ n,n≤7→(prs n).length≤21:=by decide +kernel
  have:=h2 _ hn
  omega
end Go.Idl
namespace Go.Idl
open Go
abbrev Q4:=Int×Int×Int×Int
def sws (xs:List Q4):List (List IV):=xs.map fun s=>[I s.1,I s.2.1,I s.2.2.1,I s.2.2.2]
@[simp] theorem sws_len (xs:List Q4):(sws xs).length=xs.length:=by simp [sws]
@[simp] theorem sws_nil:sws []=[]:=rfl
@[simp] theorem sws_take (xs:List Q4) (n:Nat):(sws xs).take n=sws (xs.take n):=by simp [sws,List.map_take]
@[simp] theorem sws_drop (xs:List Q4) (n:Nat):(sws xs).drop n=sws (xs.drop n):=by simp [sws,List.map_drop]
@[simp] theorem sws_one (xs:List Q4) (a b c d:Int):sws xs++[[IV.sc (.int .i64 a),IV.sc (.int .i64 b),IV.sc (.int .i64 c),IV.sc (.int .i64 d)]]=sws (xs++[(a,b,c,d)]):=by simp [sws]
@[simp] theorem sws_get (xs:List Q4) (i:Nat) (h:i < (sws xs).length):(sws xs)[i]=[IV.sc (.int .i64 (xs[i]'(by simpa [sws] using h)).1),IV.sc (.int .i64 (xs[i]'(by simpa [sws] using h)).2.1),IV.sc (.int .i64 (xs[i]'(by simpa [sws] using h)).2.2.1),IV.sc (.int .i64 (xs[i]'(by simpa [sws] using h)).2.2.2)]:=by simp [sws]
@[simp] theorem sws_get? (xs:List Q4) (i:Nat):(sws xs)[i]? = xs[i]?.map fun s=>[IV.sc (.int .i64 s.1),IV.sc (.int .i64 s.2.1),IV.sc (.int .i64 s.2.2.1),IV.sc (.int .i64 s.2.2.2)]:=by simp [sws]
@[simp] theorem sws_all1 (xs:List Q4):((sws xs).all fun x=>x.all IV.plain1)=true:=by
  induction xs with
  | nil=>rfl
  | cons x xs ih=>simp only [sws,List.map_cons,List.all_cons] at *;rw [ih];rfl
@[simp] theorem sws_all2 (xs:List Q4):((sws xs).all fun x=>x.all IV.isData)=true:=by
  induction xs with
  | nil=>rfl
  | cons x xs ih=>simp only [sws,List.map_cons,List.all_cons] at *;rw [ih];rfl
@[simp] theorem sws_noLst (xs:List Q4):noLstLL (sws xs)=true:=by
  induction xs with
  | nil=>rfl
  | cons x xs ih=>simp only [sws,List.map_cons,noLstLL,noLstL,noLstV] at *;rw [ih];rfl
@[simp] theorem frz_sws (xs:List Q4):frzLL (sws xs)=sws xs:=by
  induction xs with
  | nil=>rfl
  | cons x xs ih=>simp only [sws,List.map_cons,frzLL,frzL,frzV] at *;rw [ih]
end Go.Idl
namespace Go.Idl
open Go
def srS (n:Nat) (es:List (Int×Int)) (left:List Int):List (Int×Int)→List (List (Int×Int))
  | []=>if left.sum=0 then [es] else []
  | e::r=>(if 0 < left.getD e.1.toNat 0∧0 < left.getD e.2.toNat 0 then srS n (insE e es) (decAt (decAt left e.1.toNat) e.2.toNat) r else []) ++
     (if e.2+1 < n ∨ left.getD e.1.toNat 0=0 then srS n es left r else [])
theorem srS_len (n:Nat):∀ (r:List (Int×Int)) (es:List (Int×Int)) (left:List Int),(srS n es left r).length≤2 ^ r.length
  | [],es,left=>by rw [srS];split <;> simp
  | e::r,es,left=>by
    have h1:=srS_len n r (insE e es) (decAt (decAt left e.1.toNat) e.2.toNat)
    have h2:=srS_len n r es left
    rw [srS,List.length_append,List.length_cons,Nat.pow_succ]
    split <;> split <;> simp <;> omega
abbrev GF:=List (List (Int×Int)×Bool)
def glf (n:Int) (R:GF):List (List IV):=R.map fun x=>[I n,L2 x.1 x.2]
@[simp] theorem glf_len (n:Int) (R:GF):(glf n R).length=R.length:=by simp [glf]
@[simp] theorem glf_nil (n:Int):glf n []=[]:=rfl
@[simp] theorem glf_app (n:Int) (R S:GF):glf n R++glf n S=glf n (R++S):=by simp [glf]
@[simp] theorem glf_take (n:Int) (R:GF) (k:Nat):(glf n R).take k=glf n (R.take k):=by simp [glf,List.map_take]
@[simp] theorem glf_all (n:Int) (R:GF):((glf n R).all fun x=>x.all IV.isData)=true:=by
  induction R with
  | nil=>rfl
  | cons x xs ih=>simp only [glf,List.map_cons,List.all_cons] at *;rw [ih];rfl
set_option maxHeartbeats 4000000 in
theorem ev_search (n:Nat) (hn:n≤7) (all:List (Int×Int)) (hal:all.length≤21) (hall:∀ e ∈ all,0≤e.1∧e.1 < e.2∧e.2 < n) :
    ∀ (m k:Nat) (es:List (Int×Int)) (c c2 c3:Bool) (left:List Int),k+m=all.length→es.length≤k→left.length=n→(∀ x ∈ left,0≤x∧x≤6) →
    ∃ R:GF,R.map Prod.fst=srS n es left (all.drop k)∧Ev tb zl373 [] [Gr n es c,L left c2,L2 all c3,I k] [] ⟨.own 2 (glf n R),[],[],[]⟩:=by
  intro m
  induction m with
  | zero =>
    intro k es c c2 c3 left hk hes hl hb
    have h3:k=all.length:=hk
    subst h3
    have hss:SmallSum left:=Few.small ⟨by omega,fun x hx=>by have:=hb x hx;omega⟩
    have e1:=fun c=>ev_lim (ev_spec_sum left c hss)
    rw [List.drop_length,srS]
    by_cases h0:left.sum=0
    · rw [if_pos h0]
      refine ⟨[(es,c)],rfl,?_⟩
      refine call_of_wp zt373 rfl ?_
      repeat (first|apply wp_as|apply wp_ss|refine wr (by simp [e1,h0];with_reducible rfl) ?_|refine wq (by simp [e1,h0];with_reducible rfl) ?_|refine wt (by simpa [e1,h0]) ?_|refine wf (by simpa [e1,h0]) ?_|refine xt (by simpa [e1,h0]) ?_|refine xf (by simpa [e1,h0]) ?_|apply wp_bs|apply wp_b|refine wp_sr ?_|refine wp_sx ?_|refine wp_ret' ?_|refine wp_skip' ?_|refine wp_exit' ?_)
      simp [zi373,glf]
    · rw [if_neg h0]
      refine ⟨[],rfl,?_⟩
      refine call_of_wp zt373 rfl ?_
      repeat (first|apply wp_as|apply wp_ss|refine wr (by simp [e1,h0];with_reducible rfl) ?_|refine wq (by simp [e1,h0];with_reducible rfl) ?_|refine wt (by simpa [e1,h0]) ?_|refine wf (by simpa [e1,h0]) ?_|refine xt (by simpa [e1,h0]) ?_|refine xf (by simpa [e1,h0]) ?_|apply wp_bs|apply wp_b|refine wp_sr ?_|refine wp_sx ?_|refine wp_ret' ?_|refine wp_skip' ?_|refine wp_exit' ?_)
      simp [zi373]
  | succ m ih =>
    intro k es c c2 c3 left hk hes hl hb
    have hk2:k < all.length:=by omega
    have hkn:¬ k=all.length:=by omega
    have hd:all.drop k=all[k]::all.drop (k+1):=List.drop_eq_getElem_cons hk2
    obtain ⟨⟨x,y⟩,he⟩:∃ e,e=all[k]:=⟨_,rfl⟩
    have hxy:=hall _ (List.getElem_mem hk2)
    rw [← he] at hxy
    obtain ⟨a,rfl⟩:=Int.eq_ofNat_of_zero_le hxy.1
    obtain ⟨b,rfl⟩:=Int.eq_ofNat_of_zero_le (show 0≤y by simp only at hxy;omega)
    simp only at hxy
    have he2:=he.symm
    have hal2:a < left.length:=by omega
    have hbl2:b < left.length:=by omega
    have ga:left.getD a 0=left[a]:=by simp [List.getD_eq_getElem?_getD,List.getElem?_eq_getElem hal2]
    have gb:left.getD b 0=left[b]:=by simp [List.getD_eq_getElem?_getD,List.getElem?_eq_getElem hbl2]
    have ba:=hb _ (List.getElem_mem hal2)
    have bb:=hb _ (List.getElem_mem hbl2)
    have hab:¬ a=b:=by omega
    have w1:IntKind.i64.wrap ((k:Int)+1)=((k+1:Nat):Int):=wrapS (by omega)
    have w2:IntKind.i64.wrap ((b:Int)+1)=(b:Int)+1:=wrap64 (by omega) (by omega)
    have w3:IntKind.i64.wrap (left[a] - 1)=left[a] - 1:=wrap64 (by omega) (by omega)
    have w4:IntKind.i64.wrap (left[b] - 1)=left[b] - 1:=wrap64 (by omega) (by omega)
    have e2:=fun c=>ev_lim (ev_copyInts left c (by omega))
    have e3:=fun c=>ev_lim (ev_addEdge n es c a b (by omega))
    have hmn:((min (a:Int) b,max (a:Int) b):Int×Int)=((a:Int),(b:Int)):=by
      rw [Int.min_eq_left (by omega),Int.max_eq_right (by omega)]
    rw [hmn] at e3
    have hd2:decAt (decAt left a) b=(left.set a (left[a] - 1)).set b (left[b] - 1):=by
      have h1:decAt left a=left.set a (left[a] - 1):=by rw [decAt,ga]
      have h2:(left.set a (left[a] - 1)).getD b 0=left[b]:=by
        rw [List.getD_eq_getElem?_getD,List.getElem?_set_ne hab,List.getElem?_eq_getElem hbl2];rfl
      rw [h1,decAt,h2]
    rw [hd,← he,srS,Int.toNat_natCast,Int.toNat_natCast,ga,gb,hd2]
    have h2p:(2:Nat) ^ (all.drop (k+1)).length≤2 ^ 21:=Nat.pow_le_pow_right (by omega) (by simp;omega)
    have hL1:=srS_len n (all.drop (k+1)) (insE ((a:Int),(b:Int)) es) ((left.set a (left[a] - 1)).set b (left[b] - 1))
    have hL2:=srS_len n (all.drop (k+1)) es left
    by_cases h1:0 < left[a]
    · by_cases h2:0 < left[b]
      · rw [if_pos ⟨h1,h2⟩]
        obtain ⟨R1,hR1,E1⟩:=ih (k+1) (insE ((a:Int),(b:Int)) es) false false c3 ((left.set a (left[a] - 1)).set b (left[b] - 1)) (by omega) (by rw [insE_len];omega) (by simp [hl]) (fun x hx=>by
          rcases List.mem_or_eq_of_mem_set hx with hx | rfl
          · rcases List.mem_or_eq_of_mem_set hx with hx | rfl
            · exact hb x hx
            · omega
          · omega)
        have l1:R1.length≤2097152:=by rw [← List.length_map (f:=Prod.fst),hR1];omega
        have E1:=ev_lim E1
        rw [show ((k+1:Nat):Int)=(k:Int)+1 by omega] at E1
        by_cases h3:(b:Int)+1 < n ∨ left[a]=0
        · rw [if_pos h3]
          have h3':(b:Int)+1 < n:=by omega
          obtain ⟨R2,hR2,E2⟩:=ih (k+1) es c c2 c3 left (by omega) (by omega) hl hb
          have l2:R2.length≤2097152:=by rw [← List.length_map (f:=Prod.fst),hR2];omega
          have E2:=ev_lim E2
          rw [show ((k+1:Nat):Int)=(k:Int)+1 by omega] at E2
          refine ⟨R1++R2,by rw [List.map_append,hR1,hR2],?_⟩
          have q1:R1.length≤274877906944:=by omega
          have q2:R1.length+R2.length≤274877906944:=by omega
          have t1:R1.take R1.length=R1:=List.take_of_length_le (Nat.le_refl _)
          have t2:(R1++R2).take (R1.length+R2.length)=R1++R2:=List.take_of_length_le (by simp)
          refine call_of_wp zt373 rfl ?_
          repeat (first|apply wp_as|apply wp_ss|refine wr (by simp [hk2,hkn,Int.ofNat_inj,he2,hal2,hbl2,h1,h2,e2,e3,w1,w2,w3,w4,hab,E1,E2,h3',q1,q2,t1,t2];with_reducible rfl) ?_|refine wq (by simp [hk2,hkn,Int.ofNat_inj,he2,hal2,hbl2,h1,h2,e2,e3,w1,w2,w3,w4,hab,E1,E2,h3',q1,q2,t1,t2];with_reducible rfl) ?_|refine wt (by simpa [hk2,hkn,Int.ofNat_inj,he2,hal2,hbl2,h1,h2,e2,e3,w1,w2,w3,w4,hab,E1,E2,h3',q1,q2,t1,t2]) ?_|refine wf (by simpa [hk2,hkn,Int.ofNat_inj,he2,hal2,hbl2,h1,h2,e2,e3,w1,w2,w3,w4,hab,E1,E2,h3',q1,q2,t1,t2]) ?_|refine xt (by simpa [hk2,hkn,Int.ofNat_inj,he2,hal2,hbl2,h1,h2,e2,e3,w1,w2,w3,w4,hab,E1,E2,h3',q1,q2,t1,t2]) ?_|refine xf (by simpa [hk2,hkn,Int.ofNat_inj,he2,hal2,hbl2,h1,h2,e2,e3,w1,w2,w3,w4,hab,E1,E2,h3',q1,q2,t1,t2]) ?_|apply wp_bs|apply wp_b|refine wp_sr ?_|refine wp_sx ?_|refine wp_ret' ?_|refine wp_skip' ?_|refine wp_exit' ?_)
          simp [zi373]
        · rw [if_neg h3]
          have h3':¬ (b:Int)+1 < n:=by omega
          have h3'':¬ left[a]=0:=by omega
          refine ⟨R1,by rw [hR1,List.append_nil],?_⟩
          have q1:R1.length≤274877906944:=by omega
          have t1:R1.take R1.length=R1:=List.take_of_length_le (Nat.le_refl _)
          refine call_of_wp zt373 rfl ?_
          repeat (first|apply wp_as|apply wp_ss|refine wr (by simp [hk2,hkn,Int.ofNat_inj,he2,hal2,hbl2,h1,h2,e2,e3,w1,w2,w3,w4,hab,E1,h3',h3'',q1,t1];with_reducible rfl) ?_|refine wq (by simp [hk2,hkn,Int.ofNat_inj,he2,hal2,hbl2,h1,h2,e2,e3,w1,w2,w3,w4,hab,E1,h3',h3'',q1,t1];with_reducible rfl) ?_|refine wt (by simpa [hk2,hkn,Int.ofNat_inj,he2,hal2,hbl2,h1,h2,e2,e3,w1,w2,w3,w4,hab,E1,h3',h3'',q1,t1]) ?_|refine wf (by simpa [hk2,hkn,Int.ofNat_inj,he2,hal2,hbl2,h1,h2,e2,e3,w1,w2,w3,w4,hab,E1,h3',h3'',q1,t1]) ?_|refine xt (by simpa [hk2,hkn,Int.ofNat_inj,he2,hal2,hbl2,h1,h2,e2,e3,w1,w2,w3,w4,hab,E1,h3',h3'',q1,t1]) ?_|refine xf (by simpa [hk2,hkn,Int.ofNat_inj,he2,hal2,hbl2,h1,h2,e2,e3,w1,w2,w3,w4,hab,E1,h3',h3'',q1,t1]) ?_|apply wp_bs|apply wp_b|refine wp_sr ?_|refine wp_sx ?_|refine wp_ret' ?_|refine wp_skip' ?_|refine wp_exit' ?_)
          simp [zi373]
      · rw [if_neg (fun h=>h2 h.2)]
        by_cases h3:(b:Int)+1 < n ∨ left[a]=0
        · rw [if_pos h3]
          have h3':(b:Int)+1 < n:=by omega
          obtain ⟨R2,hR2,E2⟩:=ih (k+1) es c c2 c3 left (by omega) (by omega) hl hb
          have l2:R2.length≤2097152:=by rw [← List.length_map (f:=Prod.fst),hR2];omega
          have E2:=ev_lim E2
          rw [show ((k+1:Nat):Int)=(k:Int)+1 by omega] at E2
          refine ⟨R2,by rw [hR2,List.nil_append],?_⟩
          have q1:R2.length≤274877906944:=by omega
          have t1:R2.take R2.length=R2:=List.take_of_length_le (Nat.le_refl _)
          refine call_of_wp zt373 rfl ?_
          repeat (first|apply wp_as|apply wp_ss|refine wr (by simp [hk2,hkn,Int.ofNat_inj,he2,hal2,hbl2,h1,h2,w1,w2,E2,h3',q1,t1];with_reducible rfl) ?_|refine wq (by simp [hk2,hkn,Int.ofNat_inj,he2,hal2,hbl2,h1,h2,w1,w2,E2,h3',q1,t1];with_reducible rfl) ?_|refine wt (by simpa [hk2,hkn,Int.ofNat_inj,he2,hal2,hbl2,h1,h2,w1,w2,E2,h3',q1,t1]) ?_|refine wf (by simpa [hk2,hkn,Int.ofNat_inj,he2,hal2,hbl2,h1,h2,w1,w2,E2,h3',q1,t1]) ?_|refine xt (by simpa [hk2,hkn,Int.ofNat_inj,he2,hal2,hbl2,h1,h2,w1,w2,E2,h3',q1,t1]) ?_|refine xf (by simpa [hk2,hkn,Int.ofNat_inj,he2,hal2,hbl2,h1,h2,w1,w2,E2,h3',q1,t1]) ?_|apply wp_bs|apply wp_b|refine wp_sr ?_|refine wp_sx ?_|refine wp_ret' ?_|refine wp_skip' ?_|refine wp_exit' ?_)
          simp [zi373]
        · rw [if_neg h3]
          have h3':¬ (b:Int)+1 < n:=by omega
          have h3'':¬ left[a]=0:=by omega
          refine ⟨[],rfl,?_⟩
          refine call_of_wp zt373 rfl ?_
          repeat (first|apply wp_as|apply wp_ss|refine wr (by simp [hk2,hkn,Int.ofNat_inj,he2,hal2,hbl2,h1,h2,w1,w2,h3',h3''];with_reducible rfl) ?_|refine wq (by simp [hk2,hkn,Int.ofNat_inj,he2,hal2,hbl2,h1,h2,w1,w2,h3',h3''];with_reducible rfl) ?_|refine wt (by simpa [hk2,hkn,Int.ofNat_inj,he2,hal2,hbl2,h1,h2,w1,w2,h3',h3'']) ?_|refine wf (by simpa [hk2,hkn,Int.ofNat_inj,he2,hal2,hbl2,h1,h2,w1,w2,h3',h3'']) ?_|refine xt (by simpa [hk2,hkn,Int.ofNat_inj,he2,hal2,hbl2,h1,h2,w1,w2,h3',h3'']) ?_|refine xf (by simpa [hk2,hkn,Int.ofNat_inj,he2,hal2,hbl2,h1,h2,w1,w2,h3',h3'']) ?_|apply wp_bs|apply wp_b|refine wp_sr ?_|refine wp_sx ?_|refine wp_ret' ?_|refine wp_skip' ?_|refine wp_exit' ?_)
          simp [zi373]
    · rw [if_neg (fun h=>h1 h.1)]
      have h0:left[a]=0:=by omega
      rw [if_pos (.inr h0)]
      obtain ⟨R2,hR2,E2⟩:=ih (k+1) es c c2 c3 left (by omega) (by omega) hl hb
      have l2:R2.length≤2097152:=by rw [← List.length_map (f:=Prod.fst),hR2];omega
      have E2:=ev_lim E2
      rw [show ((k+1:Nat):Int)=(k:Int)+1 by omega] at E2
      refine ⟨R2,by rw [hR2,List.nil_append],?_⟩
      have q1:R2.length≤274877906944:=by omega
      have t1:R2.take R2.length=R2:=List.take_of_length_le (Nat.le_refl _)
      by_cases h3:(b:Int)+1 < n
      · refine call_of_wp zt373 rfl ?_
        repeat (first|apply wp_as|apply wp_ss|refine wr (by simp [hk2,hkn,Int.ofNat_inj,he2,hal2,hbl2,h0,w1,w2,E2,h3,q1,t1];with_reducible rfl) ?_|refine wq (by simp [hk2,hkn,Int.ofNat_inj,he2,hal2,hbl2,h0,w1,w2,E2,h3,q1,t1];with_reducible rfl) ?_|refine wt (by simpa [hk2,hkn,Int.ofNat_inj,he2,hal2,hbl2,h0,w1,w2,E2,h3,q1,t1]) ?_|refine wf (by simpa [hk2,hkn,Int.ofNat_inj,he2,hal2,hbl2,h0,w1,w2,E2,h3,q1,t1]) ?_|refine xt (by simpa [hk2,hkn,Int.ofNat_inj,he2,hal2,hbl2,h0,w1,w2,E2,h3,q1,t1]) ?_|refine xf (by simpa [hk2,hkn,Int.ofNat_inj,he2,hal2,hbl2,h0,w1,w2,E2,h3,q1,t1]) ?_|apply wp_bs|apply wp_b|refine wp_sr ?_|refine wp_sx ?_|refine wp_ret' ?_|refine wp_skip' ?_|refine wp_exit' ?_)
        simp [zi373]
      · refine call_of_wp zt373 rfl ?_
        repeat (first|apply wp_as|apply wp_ss|refine wr (by simp [hk2,hkn,Int.ofNat_inj,he2,hal2,hbl2,h0,w1,w2,E2,h3,q1,t1];with_reducible rfl) ?_|refine wq (by simp [hk2,hkn,Int.ofNat_inj,he2,hal2,hbl2,h0,w1,w2,E2,h3,q1,t1];with_reducible rfl) ?_|refine wt (by simpa [hk2,hkn,Int.ofNat_inj,he2,hal2,hbl2,h0,w1,w2,E2,h3,q1,t1]) ?_|refine wf (by simpa [hk2,hkn,Int.ofNat_inj,he2,hal2,hbl2,h0,w1,w2,E2,h3,q1,t1]) ?_|refine xt (by simpa [hk2,hkn,Int.ofNat_inj,he2,hal2,hbl2,h0,w1,w2,E2,h3,q1,t1]) ?_|refine xf (by simpa [hk2,hkn,Int.ofNat_inj,he2,hal2,hbl2,h0,w1,w2,E2,h3,q1,t1]) ?_|apply wp_bs|apply wp_b|refine wp_sr ?_|refine wp_sx ?_|refine wp_ret' ?_|refine wp_skip' ?_|refine wp_exit' ?_)
        simp [zi373]
end Go.Idl
namespace Go.Idl
open Go
theorem ev_realizations (d:List Int) (c:Bool) (hv:valid d=true) :
    ∃ R:GF,R.map Prod.fst=srS d.length [] d (prs d.length)∧Ev tb zl369 [] [L d c] [] ⟨.own 2 (glf d.length R),[],[],[]⟩:=by
  have hf:=valid_few hv
  have hd7:=hf.1
  have hpl:=prs21 d.length (by omega)
  have hin:∀ e ∈ prs d.length,0≤e.1∧e.1 < e.2∧e.2 < d.length:=fun e he=>mem_prs.1 he
  obtain ⟨R,hR,E⟩:=ev_search d.length hf.1 (prs d.length) hpl hin (prs d.length).length 0 [] false c false d (by omega) (by simp) rfl (fun x hx=>by have:=hf.2 x hx;omega)
  rw [List.drop_zero] at hR
  refine ⟨R,hR,?_⟩
  have e1:=ev_lim (ev_pairs d.length (by omega))
  have e2:=ev_lim E
  rw [show ((0:Nat):Int)=0 from rfl] at e2
  simp only [Gr,L2,eds_nil] at e2
  generalize prs d.length=P at *
  refine call_of_wp zt369 rfl ?_
  repeat (first|apply wp_as|apply wp_ss|refine wr (by simp [e1,e2];with_reducible rfl) ?_|refine wq (by simp [e1,e2];with_reducible rfl) ?_|refine wt (by simpa [e1,e2]) ?_|refine wf (by simpa [e1,e2]) ?_|refine xt (by simpa [e1,e2]) ?_|refine xf (by simpa [e1,e2]) ?_|apply wp_bs|apply wp_b|refine wp_sr ?_|refine wp_sx ?_|refine wp_ret' ?_|refine wp_skip' ?_|refine wp_exit' ?_)
  simp [zi369]
theorem fall_valid {d:List Int} (hv:valid d=true):valid (fall d)=true:=by
  have hf:=valid_few hv
  have hm:=valid_mem hv
  rw [valid,Bool.and_eq_true,decide_eq_true_eq,List.all_eq_true,fall_len]
  refine ⟨hf.1,fun x hx=>?_⟩
  have:=hm x (fall_mem.1 hx)
  simp only [Bool.and_eq_true,decide_eq_true_eq]
  exact this
end Go.Idl
namespace Go.Idl
open Go
theorem ev_ContainsI (xs:List Int) (c:Bool) (y:Int) (hl:xs.length≤2000000):Ev tb zl551 [] [L xs c,I y] [] ⟨Bo (decide (y ∈ xs)),[],[],[]⟩:=by
  have e1:=ev_lim (ev_Index xs c y hl)
  have h1:decide (0≤idx (fun x=>decide (y=x)) 0 xs)=decide (y ∈ xs):=by
    rw [idx_ge _ xs 0 (by omega),Bool.eq_iff_iff,List.any_eq_true,decide_eq_true_eq]
    exact ⟨fun ⟨x,h,h2⟩=>by rw [of_decide_eq_true h2];exact h,fun h=>⟨y,h,by simp⟩⟩
  refine call_of_wp zt551 rfl ?_
  repeat (first|apply wp_as|apply wp_ss|refine wr (by simp [e1];with_reducible rfl) ?_|refine wq (by simp [e1];with_reducible rfl) ?_|refine wt (by simpa [e1]) ?_|refine wf (by simpa [e1]) ?_|refine xt (by simpa [e1]) ?_|refine xf (by simpa [e1]) ?_|apply wp_bs|apply wp_b|refine wp_sr ?_|refine wp_sx ?_|refine wp_ret' ?_|refine wp_skip' ?_|refine wp_exit' ?_)
  simp [zi551,h1]
end Go.Idl
namespace Go.Idl
open Go
def TR (X:IV) (to:List Int):Prop:=X=O to ∨ X=Z∧to=[]
def fitB (g h:List (Int×Int)) (to:List Int) (w u:Nat):Bool:=hasM g u to.length == hasM h (to.getD u 0) w
def wk (g h:List (Int×Int)) (n:Nat):Nat→List Int→Bool
  | 0,_=>true
  | m+1,to=>(List.range n).any fun w=>(!decide ((w:Int) ∈ to) && (List.range to.length).all (fitB g h to w)) && wk g h n m (to++[(w:Int)])
theorem ev_IndexZ (y:Int):Ev tb zl74 [] [Z,I y] [] ⟨I (-1),[],[],[]⟩:=by
  refine call_of_wp zt74 rfl ?_
  repeat (first|apply wp_as|apply wp_ss|refine wr (by simp;with_reducible rfl) ?_|refine wq (by simp;with_reducible rfl) ?_|refine wt (by simpa) ?_|refine wf (by simpa) ?_|refine xt (by simpa) ?_|refine xf (by simpa) ?_|apply wp_bs|apply wp_b|refine wp_sr ?_|refine wp_sx ?_|refine wp_ret' ?_|refine wp_skip' ?_|refine wp_exit' ?_)
  refine wp_loop ?_
  repeat (first|apply wp_as|apply wp_ss|refine wr (by simp;with_reducible rfl) ?_|refine wq (by simp;with_reducible rfl) ?_|refine wt (by simpa) ?_|refine wf (by simpa) ?_|refine xt (by simpa) ?_|refine xf (by simpa) ?_|apply wp_bs|apply wp_b|refine wp_sr ?_|refine wp_sx ?_|refine wp_ret' ?_|refine wp_skip' ?_|refine wp_exit' ?_)
  simp [zi74]
theorem ev_ContainsZ (y:Int):Ev tb zl551 [] [Z,I y] [] ⟨Bo false,[],[],[]⟩:=by
  have e1:=ev_lim (ev_IndexZ y)
  refine call_of_wp zt551 rfl ?_
  repeat (first|apply wp_as|apply wp_ss|refine wr (by simp [e1];with_reducible rfl) ?_|refine wq (by simp [e1];with_reducible rfl) ?_|refine wt (by simpa [e1]) ?_|refine wf (by simpa [e1]) ?_|refine xt (by simpa [e1]) ?_|refine xf (by simpa [e1]) ?_|apply wp_bs|apply wp_b|refine wp_sr ?_|refine wp_sx ?_|refine wp_ret' ?_|refine wp_skip' ?_|refine wp_exit' ?_)
  simp [zi551]
abbrev mpF:IV:=.fn zl523 [.bptr 0 2 0,.bptr 0 0 0,.bptr 0 1 0,.bptr 0 3 0]
abbrev mpB (n:Int) (g h:List (Int×Int)) (cg ch:Bool) (X:IV):Boxes:=[[I n,L2 g cg],[I n,L2 h ch],[X],[mpF]]
theorem mp_fits (n:Nat) (g h:List (Int×Int)) (cg ch:Bool) (to:List Int) (w:Nat) (hg:g.length≤21) (hh:h.length≤21) (ht:to.length≤1000) (Es:List Boxes):∀ (m u:Nat) (f:Bool),u+m=to.length →
    wp tb (.loop z523l13) { T:=[(0,.bptr 0 2 0),(1,.bptr 0 0 0),(2,.bptr 0 1 0),(3,.bptr 0 3 0),(5,I to.length),(6,I w),(7,Bo f),(17,I n),(18,I w),(25,.arr (.B 0 2) 0 [] 1 0 to.length false),(26,I to.length),(27,I u)],loc:=[],M:=mpB n g h cg ch (O to)::Es }
      (fun ex st=>ex=.exit 2∧st={ T:=[(0,.bptr 0 2 0),(1,.bptr 0 0 0),(2,.bptr 0 1 0),(3,.bptr 0 3 0),(5,I to.length),(6,I w),(7,Bo (f && (List.range' u m).all (fitB g h to w))),(17,I n),(18,I w),(25,.arr (.B 0 2) 0 [] 1 0 to.length false),(26,I to.length),(27,I to.length),(28,Bo false)],loc:=[],M:=mpB n g h cg ch (O to)::Es }):=by
  intro m
  induction m with
  | zero =>
    intro u f hu
    have h3:u=to.length:=hu
    subst h3
    refine wp_loop ?_
    repeat (first|apply wp_as|apply wp_ss|refine wr (by simp;with_reducible rfl) ?_|refine wq (by simp;with_reducible rfl) ?_|refine wt (by simpa) ?_|refine wf (by simpa) ?_|refine xt (by simpa) ?_|refine xf (by simpa) ?_|apply wp_bs|apply wp_b|refine wp_sr ?_|refine wp_sx ?_|refine wp_ret' ?_|refine wp_skip' ?_|refine wp_exit' ?_)
    exact ⟨rfl,by simp⟩
  | succ m ih =>
    intro u f hu
    have hu2:u < to.length:=by omega
    have w2:IntKind.i64.wrap ((u:Int)+1)=((u+1:Nat):Int):=wrapS (by omega)
    obtain ⟨x,hx⟩:∃ x,x=to[u]:=⟨_,rfl⟩
    have hx2:=hx.symm
    have gx:to.getD u 0=x:=by rw [hx];simp [List.getD_eq_getElem?_getD,List.getElem?_eq_getElem hu2]
    have e1:=fun c=>ev_lim (ev_has n 2 g c u to.length (.inl rfl) (by omega) [])
    have e2:=fun c=>ev_lim (ev_has n 2 h c x w (.inl rfl) (by omega) [])
    rw [List.range'_succ,List.all_cons]
    have hf:fitB g h to w u=(hasM g u to.length == hasM h x w):=by rw [fitB,gx]
    cases f with
    | false =>
      have hA:=ih (u+1) false (by omega)
      refine wp_loop ?_
      repeat (first|apply wp_as|apply wp_ss|refine wr (by simp [hu2,hx2];with_reducible rfl) ?_|refine wq (by simp [hu2,hx2];with_reducible rfl) ?_|refine wt (by simpa [hu2,hx2]) ?_|refine wf (by simpa [hu2,hx2]) ?_|refine xt (by simpa [hu2,hx2]) ?_|refine xf (by simpa [hu2,hx2]) ?_|apply wp_bs|apply wp_b|refine wp_sr ?_|refine wp_sx ?_|refine wp_ret' ?_|refine wp_skip' ?_|refine wp_exit' ?_)
      refine wp_rega (by simp;with_reducible rfl) (by simp;with_reducible rfl) ?_ ?_
      · intro p hp
        simp only [List.mem_cons,List.not_mem_nil,or_false] at hp
        subst hp
        exact ⟨_,by simp [hx2];with_reducible rfl,by simp⟩
      repeat (first|apply wp_as|apply wp_ss|refine wr (by simp [w2];with_reducible rfl) ?_|refine wq (by simp [w2];with_reducible rfl) ?_|refine wt (by simpa [w2]) ?_|refine wf (by simpa [w2]) ?_|refine xt (by simpa [w2]) ?_|refine xf (by simpa [w2]) ?_|apply wp_bs|apply wp_b|refine wp_sr ?_|refine wp_sx ?_|refine wp_ret' ?_|refine wp_skip' ?_|refine wp_exit' ?_)
      simpa using hA
    | true =>
      rw [hf]
      have hA:=ih (u+1) (hasM g u to.length == hasM h x w) (by omega)
      refine wp_loop ?_
      repeat (first|apply wp_as|apply wp_ss|refine wr (by simp [hu2,hx2];with_reducible rfl) ?_|refine wq (by simp [hu2,hx2];with_reducible rfl) ?_|refine wt (by simpa [hu2,hx2]) ?_|refine wf (by simpa [hu2,hx2]) ?_|refine xt (by simpa [hu2,hx2]) ?_|refine xf (by simpa [hu2,hx2]) ?_|apply wp_bs|apply wp_b|refine wp_sr ?_|refine wp_sx ?_|refine wp_ret' ?_|refine wp_skip' ?_|refine wp_exit' ?_)
      refine wp_rega (by simp [e1,e2];with_reducible rfl) (by simp;with_reducible rfl) ?_ ?_
      · intro p hp
        simp only [List.mem_cons,List.not_mem_nil,or_false] at hp
        subst hp
        exact ⟨_,by simp [e1,e2];with_reducible rfl,by simp⟩
      repeat (first|apply wp_as|apply wp_ss|refine wr (by simp [w2];with_reducible rfl) ?_|refine wq (by simp [w2];with_reducible rfl) ?_|refine wt (by simpa [w2]) ?_|refine wf (by simpa [w2]) ?_|refine xt (by simpa [w2]) ?_|refine xf (by simpa [w2]) ?_|apply wp_bs|apply wp_b|refine wp_sr ?_|refine wp_sx ?_|refine wp_ret' ?_|refine wp_skip' ?_|refine wp_exit' ?_)
      simpa using hA
set_option maxHeartbeats 8000000 in
theorem ev_walk (n:Nat) (g h:List (Int×Int)) (cg ch:Bool) (hn:n≤7) (hg:g.length≤21) (hh:h.length≤21):∀ (m:Nat) (to:List Int) (X:IV) (Es:List Boxes),to.length+m=n→TR X to →
    ∃ X' to',TR X' to'∧(wk g h n m to=false→to'=to)∧to'.length≤7 ∧
      Ev tb zl523 [] [.bptr 0 2 0,.bptr 0 0 0,.bptr 0 1 0,.bptr 0 3 0] (mpB n g h cg ch X::Es) ⟨Bo (wk g h n m to),[],mpB n g h cg ch X'::Es,[]⟩:=by
  intro m
  induction m with
  | zero =>
    intro to X Es hto hX
    have hto':to.length=n:=by omega
    refine ⟨X,to,hX,fun _=>rfl,by omega,?_⟩
    rw [wk]
    rcases hX with rfl | ⟨rfl,rfl⟩
    · refine call_of_wp zt523 rfl ?_
      repeat (first|apply wp_as|apply wp_ss|refine wr (by simp [hto'];with_reducible rfl) ?_|refine wq (by simp [hto'];with_reducible rfl) ?_|refine wt (by simpa [hto']) ?_|refine wf (by simpa [hto']) ?_|refine xt (by simpa [hto']) ?_|refine xf (by simpa [hto']) ?_|apply wp_bs|apply wp_b|refine wp_sr ?_|refine wp_sx ?_|refine wp_ret' ?_|refine wp_skip' ?_|refine wp_exit' ?_)
      simp [zi523]
    · have h0:n=0:=by simpa using hto'.symm
      subst h0
      refine call_of_wp zt523 rfl ?_
      repeat (first|apply wp_as|apply wp_ss|refine wr (by simp;with_reducible rfl) ?_|refine wq (by simp;with_reducible rfl) ?_|refine wt (by simpa) ?_|refine wf (by simpa) ?_|refine xt (by simpa) ?_|refine xf (by simpa) ?_|apply wp_bs|apply wp_b|refine wp_sr ?_|refine wp_sx ?_|refine wp_ret' ?_|refine wp_skip' ?_|refine wp_exit' ?_)
      simp [zi523]
  | succ m ih =>
    intro to X Es hto hX
    have hne:¬ to.length=n:=by omega
    have hne2:¬ (to.length:Int)=n:=by omega
    have loop:∀ (k w:Nat) (X:IV),w+k=n→TR X to→wp tb (.loop z523l20) { T:=[(0,.bptr 0 2 0),(1,.bptr 0 0 0),(2,.bptr 0 1 0),(3,.bptr 0 3 0),(5,I to.length),(17,I n),(18,I w)],loc:=[],M:=mpB n g h cg ch X::Es }
        (fun ex st=>(ex=.exit 0∧((List.range' w k).any fun w=>(!decide ((w:Int) ∈ to) && (List.range to.length).all (fitB g h to w)) && wk g h n m (to++[(w:Int)]))=false ∧
            ∃ X',TR X' to∧st={ T:=[(0,.bptr 0 2 0),(1,.bptr 0 0 0),(2,.bptr 0 1 0),(3,.bptr 0 3 0),(5,I to.length),(17,I n),(18,I n),(19,Bo false)],loc:=[],M:=mpB n g h cg ch X'::Es }) ∨
          (ex=.ret∧((List.range' w k).any fun w=>(!decide ((w:Int) ∈ to) && (List.range to.length).all (fitB g h to w)) && wk g h n m (to++[(w:Int)]))=true ∧
            ∃ X' to',TR X' to'∧to'.length≤7∧st={ T:=[(4,Bo true)],loc:=[],M:=mpB n g h cg ch X'::Es })):=by
      intro k
      induction k with
      | zero =>
        intro w X hw hX
        have h3:w=n:=hw
        subst h3
        refine wp_loop ?_
        repeat (first|apply wp_as|apply wp_ss|refine wr (by simp;with_reducible rfl) ?_|refine wq (by simp;with_reducible rfl) ?_|refine wt (by simpa) ?_|refine wf (by simpa) ?_|refine xt (by simpa) ?_|refine xf (by simpa) ?_|apply wp_bs|apply wp_b|refine wp_sr ?_|refine wp_sx ?_|refine wp_ret' ?_|refine wp_skip' ?_|refine wp_exit' ?_)
        exact .inl ⟨rfl,by simp,X,hX,rfl⟩
      | succ k ihk =>
        intro w X hw hX
        have hw2:w < n:=by omega
        have w2:IntKind.i64.wrap ((w:Int)+1)=((w+1:Nat):Int):=wrapS (by omega)
        have e1:=fun c=>ev_lim (ev_ContainsI to c w (by omega))
        have e0:=ev_lim (ev_ContainsZ w)
        have hlm:to.length+1≤274877906944:=by omega
        have htt:to.take to.length=to:=List.take_of_length_le (Nat.le_refl _)
        have htt2:(to++[(w:Int)]).take to.length=to:=by simp
        have rest:=fun X'=>ihk (w+1) X' (by omega)
        rw [List.range'_succ,List.any_cons]
        obtain ⟨F,hF⟩:∃ F,F=(!decide ((w:Int) ∈ to) && (List.range to.length).all (fitB g h to w)):=⟨_,rfl⟩
        rw [← hF]
        rcases hX with rfl | ⟨rfl,rfl⟩
        · have fits:=mp_fits n g h cg ch to w hg hh (by omega) Es to.length 0 (!decide ((w:Int) ∈ to)) (by omega)
          rw [show ((0:Nat):Int)=0 from rfl,← List.range_eq_range',← hF] at fits
          cases F with
          | false =>
            refine wp_loop ?_
            repeat (first|apply wp_as|apply wp_ss|refine wr (by simp [hw2,e1];with_reducible rfl) ?_|refine wq (by simp [hw2,e1];with_reducible rfl) ?_|refine wt (by simpa [hw2,e1]) ?_|refine wf (by simpa [hw2,e1]) ?_|refine xt (by simpa [hw2,e1]) ?_|refine xf (by simpa [hw2,e1]) ?_|apply wp_bs|apply wp_b|refine wp_sr ?_|refine wp_sx ?_|refine wp_ret' ?_|refine wp_skip' ?_|refine wp_exit' ?_)
            refine wp_imp fits ?_
            rintro ex st ⟨rfl,rfl⟩
            simp only [if_true]
            repeat (first|apply wp_as|apply wp_ss|refine wr (by simp [w2];with_reducible rfl) ?_|refine wq (by simp [w2];with_reducible rfl) ?_|refine wt (by simpa [w2]) ?_|refine wf (by simpa [w2]) ?_|refine xt (by simpa [w2]) ?_|refine xf (by simpa [w2]) ?_|apply wp_bs|apply wp_b|refine wp_sr ?_|refine wp_sx ?_|refine wp_ret' ?_|refine wp_skip' ?_|refine wp_exit' ?_)
            simpa using rest (O to) (.inl rfl)
          | true =>
            obtain ⟨X2,to2,hX2,hq,hl2,E⟩:=ih (to++[(w:Int)]) (O (to++[(w:Int)])) (Es++[[]]) (by simp;omega) (.inl rfl)
            have e3:=ev_lim E
            cases hwk:wk g h n m (to++[(w:Int)]) with
            | true =>
              rw [hwk] at e3
              refine wp_loop ?_
              repeat (first|apply wp_as|apply wp_ss|refine wr (by simp [hw2,e1];with_reducible rfl) ?_|refine wq (by simp [hw2,e1];with_reducible rfl) ?_|refine wt (by simpa [hw2,e1]) ?_|refine wf (by simpa [hw2,e1]) ?_|refine xt (by simpa [hw2,e1]) ?_|refine xf (by simpa [hw2,e1]) ?_|apply wp_bs|apply wp_b|refine wp_sr ?_|refine wp_sx ?_|refine wp_ret' ?_|refine wp_skip' ?_|refine wp_exit' ?_)
              refine wp_imp fits ?_
              rintro ex st ⟨rfl,rfl⟩
              simp only [if_true]
              repeat (first|apply wp_as|apply wp_ss|refine wr (by simp [hlm,htt,e3];with_reducible rfl) ?_|refine wq (by simp [hlm,htt,e3];with_reducible rfl) ?_|refine wt (by simpa [hlm,htt,e3]) ?_|refine wf (by simpa [hlm,htt,e3]) ?_|refine xt (by simpa [hlm,htt,e3]) ?_|refine xf (by simpa [hlm,htt,e3]) ?_|apply wp_bs|apply wp_b|refine wp_sr ?_|refine wp_sx ?_|refine wp_ret' ?_|refine wp_skip' ?_|refine wp_exit' ?_)
              exact .inr ⟨rfl,rfl,X2,to2,hX2,hl2,rfl⟩
            | false =>
              rw [hwk] at e3
              have hq2:=hq hwk
              subst hq2
              have hX3:X2=O (to++[(w:Int)]):=by
                rcases hX2 with h | ⟨-,h⟩
                · exact h
                · simp at h
              subst hX3
              refine wp_loop ?_
              repeat (first|apply wp_as|apply wp_ss|refine wr (by simp [hw2,e1];with_reducible rfl) ?_|refine wq (by simp [hw2,e1];with_reducible rfl) ?_|refine wt (by simpa [hw2,e1]) ?_|refine wf (by simpa [hw2,e1]) ?_|refine xt (by simpa [hw2,e1]) ?_|refine xf (by simpa [hw2,e1]) ?_|apply wp_bs|apply wp_b|refine wp_sr ?_|refine wp_sx ?_|refine wp_ret' ?_|refine wp_skip' ?_|refine wp_exit' ?_)
              refine wp_imp fits ?_
              rintro ex st ⟨rfl,rfl⟩
              simp only [if_true]
              repeat (first|apply wp_as|apply wp_ss|refine wr (by simp [hlm,htt,htt2,e3,w2];with_reducible rfl) ?_|refine wq (by simp [hlm,htt,htt2,e3,w2];with_reducible rfl) ?_|refine wt (by simpa [hlm,htt,htt2,e3,w2]) ?_|refine wf (by simpa [hlm,htt,htt2,e3,w2]) ?_|refine xt (by simpa [hlm,htt,htt2,e3,w2]) ?_|refine xf (by simpa [hlm,htt,htt2,e3,w2]) ?_|apply wp_bs|apply wp_b|refine wp_sr ?_|refine wp_sx ?_|refine wp_ret' ?_|refine wp_skip' ?_|refine wp_exit' ?_)
              simpa using rest (O to) (.inl rfl)
        · have hF2:F=true:=by rw [hF];simp
          subst hF2
          obtain ⟨X2,to2,hX2,hq,hl2,E⟩:=ih [(w:Int)] (O [(w:Int)]) (Es++[[]]) (by simp at hto ⊢;omega) (.inl rfl)
          have e3:limF tb zl523 [] [.bptr 0 2 0,.bptr 0 0 0,.bptr 0 1 0,.bptr 0 3 0] ([[I n,L2 g cg],[I n,L2 h ch],[.own 1 [[I w]]],[mpF]]::(Es++[[]]))=_:=ev_lim E
          rw [List.nil_append]
          cases hwk:wk g h n m [(w:Int)] with
          | true =>
            rw [hwk] at e3
            refine wp_loop ?_
            repeat (first|apply wp_as|apply wp_ss|refine wr (by simp [hw2,e0];with_reducible rfl) ?_|refine wq (by simp [hw2,e0];with_reducible rfl) ?_|refine wt (by simpa [hw2,e0]) ?_|refine wf (by simpa [hw2,e0]) ?_|refine xt (by simpa [hw2,e0]) ?_|refine xf (by simpa [hw2,e0]) ?_|apply wp_bs|apply wp_b|refine wp_sr ?_|refine wp_sx ?_|refine wp_ret' ?_|refine wp_skip' ?_|refine wp_exit' ?_)
            refine wp_loop ?_
            repeat (first|apply wp_as|apply wp_ss|refine wr (by simp [e3];with_reducible rfl) ?_|refine wq (by simp [e3];with_reducible rfl) ?_|refine wt (by simpa [e3]) ?_|refine wf (by simpa [e3]) ?_|refine xt (by simpa [e3]) ?_|refine xf (by simpa [e3]) ?_|apply wp_bs|apply wp_b|refine wp_sr ?_|refine wp_sx ?_|refine wp_ret' ?_|refine wp_skip' ?_|refine wp_exit' ?_)
            exact .inr ⟨rfl,rfl,X2,to2,hX2,hl2,rfl⟩
          | false =>
            rw [hwk] at e3
            have hq2:=hq hwk
            subst hq2
            have hX3:X2=O [(w:Int)]:=by
              rcases hX2 with h | ⟨-,h⟩
              · exact h
              · simp at h
            subst hX3
            refine wp_loop ?_
            repeat (first|apply wp_as|apply wp_ss|refine wr (by simp [hw2,e0];with_reducible rfl) ?_|refine wq (by simp [hw2,e0];with_reducible rfl) ?_|refine wt (by simpa [hw2,e0]) ?_|refine wf (by simpa [hw2,e0]) ?_|refine xt (by simpa [hw2,e0]) ?_|refine xf (by simpa [hw2,e0]) ?_|apply wp_bs|apply wp_b|refine wp_sr ?_|refine wp_sx ?_|refine wp_ret' ?_|refine wp_skip' ?_|refine wp_exit' ?_)
            refine wp_loop ?_
            repeat (first|apply wp_as|apply wp_ss|refine wr (by simp [e3,w2];with_reducible rfl) ?_|refine wq (by simp [e3,w2];with_reducible rfl) ?_|refine wt (by simpa [e3,w2]) ?_|refine wf (by simpa [e3,w2]) ?_|refine xt (by simpa [e3,w2]) ?_|refine xf (by simpa [e3,w2]) ?_|apply wp_bs|apply wp_b|refine wp_sr ?_|refine wp_sx ?_|refine wp_ret' ?_|refine wp_skip' ?_|refine wp_exit' ?_)
            simpa using rest (.own 1 []) (.inl rfl)
    have l0:=loop n 0 X (by omega) hX
    rw [show ((0:Nat):Int)=0 from rfl,← List.range_eq_range'] at l0
    have hF:wk g h n (m+1) to=(List.range n).any fun w=>(!decide ((w:Int) ∈ to) && (List.range to.length).all (fitB g h to w)) && wk g h n m (to++[(w:Int)]):=rfl
    rw [← hF] at l0
    generalize wk g h n (m+1) to=F at l0
    suffices hs:∃ r,(∃ X' to',TR X' to'∧(F=false→to'=to)∧to'.length≤7∧r=(⟨Bo F,[],mpB n g h cg ch X'::Es,[]⟩:Ret)) ∧
        Ev tb zl523 [] [.bptr 0 2 0,.bptr 0 0 0,.bptr 0 1 0,.bptr 0 3 0] (mpB n g h cg ch X::Es) r by
      obtain ⟨r,⟨X',to',h1,h2,h3,rfl⟩,hE⟩:=hs
      exact ⟨X',to',h1,h2,h3,hE⟩
    rcases hX with rfl | ⟨rfl,rfl⟩
    · refine call_ex zt523 rfl ?_
      repeat (first|apply wp_as|apply wp_ss|refine wr (by simp [hne,hne2];with_reducible rfl) ?_|refine wq (by simp [hne,hne2];with_reducible rfl) ?_|refine wt (by simpa [hne,hne2]) ?_|refine wf (by simpa [hne,hne2]) ?_|refine xt (by simpa [hne,hne2]) ?_|refine xf (by simpa [hne,hne2]) ?_|apply wp_bs|apply wp_b|refine wp_sr ?_|refine wp_sx ?_|refine wp_ret' ?_|refine wp_skip' ?_|refine wp_exit' ?_)
      refine wp_imp l0 ?_
      rintro ex st (⟨rfl,h1,X',hX',rfl⟩ | ⟨rfl,h1,X',to',hX',hl',rfl⟩)
      · subst h1
        simp only [if_true]
        repeat (first|apply wp_as|apply wp_ss|refine wr (by simp;with_reducible rfl) ?_|refine wq (by simp;with_reducible rfl) ?_|refine wt (by simpa) ?_|refine wf (by simpa) ?_|refine xt (by simpa) ?_|refine xf (by simpa) ?_|apply wp_bs|apply wp_b|refine wp_sr ?_|refine wp_sx ?_|refine wp_ret' ?_|refine wp_skip' ?_|refine wp_exit' ?_)
        exact ⟨.inr rfl,_,⟨X',_,hX',fun _=>rfl,by omega,rfl⟩,by simp [zi523]⟩
      · subst h1
        exact ⟨.inr rfl,_,⟨X',to',hX',fun h=>by (cases h),hl',rfl⟩,by simp [zi523]⟩
    · refine call_ex zt523 rfl ?_
      repeat (first|apply wp_as|apply wp_ss|refine wr (by simp [hne,hne2];with_reducible rfl) ?_|refine wq (by simp [hne,hne2];with_reducible rfl) ?_|refine wt (by simpa [hne,hne2]) ?_|refine wf (by simpa [hne,hne2]) ?_|refine xt (by simpa [hne,hne2]) ?_|refine xf (by simpa [hne,hne2]) ?_|apply wp_bs|apply wp_b|refine wp_sr ?_|refine wp_sx ?_|refine wp_ret' ?_|refine wp_skip' ?_|refine wp_exit' ?_)
      refine wp_imp l0 ?_
      rintro ex st (⟨rfl,h1,X',hX',rfl⟩ | ⟨rfl,h1,X',to',hX',hl',rfl⟩)
      · subst h1
        simp only [if_true]
        repeat (first|apply wp_as|apply wp_ss|refine wr (by simp;with_reducible rfl) ?_|refine wq (by simp;with_reducible rfl) ?_|refine wt (by simpa) ?_|refine wf (by simpa) ?_|refine xt (by simpa) ?_|refine xf (by simpa) ?_|apply wp_bs|apply wp_b|refine wp_sr ?_|refine wp_sx ?_|refine wp_ret' ?_|refine wp_skip' ?_|refine wp_exit' ?_)
        exact ⟨.inr rfl,_,⟨X',_,hX',fun _=>rfl,by omega,rfl⟩,by simp [zi523]⟩
      · subst h1
        exact ⟨.inr rfl,_,⟨X',to',hX',fun h=>by (cases h),hl',rfl⟩,by simp [zi523]⟩
theorem ev_CloneZ:Ev tb zl71 [] [Z] [] ⟨.own 1 [],[],[],[]⟩:=by
  refine call_of_wp zt71 rfl ?_
  refine wp_rs (by simp;rfl) (by simp;rfl) ?_
  refine wp_nil2 (b:=true) (by simp [z71r1];rfl) (by simp) ?_ ?_ ?_ (ex:=.ret) (st':={ T:=[(2,.own 1 [])],loc:=[],M:=[] })
  · refine wp_ct (t:=false) (by simp) (by simp) fun _=>wp_ss ?_
    refine wp_rs (by simp;rfl) (by simp;rfl) ?_
    refine wp_ret' ?_
    simp
  · intro he
    refine wp_ct (t:=true) (by simp) (fun _=>wp_as ?_) (by simp)
    refine wp_rs (by simp;rfl) (by simp;rfl) ?_
    refine wp_sr ?_
    simp
  · simp [zi71]
theorem ev_cloneZ:∃ V,(V=Z ∨ V=.own 1 [])∧Ev tb zl31 [] [Z] [] ⟨V,[],[],[]⟩:=by
  have e1:=ev_lim ev_CloneZ
  have e2:limF tb zl70 [] [.own 1 []] []=_:=ev_lim (ev_Clip [])
  simp only [ints_nil] at e2
  refine ⟨_,.inr rfl,?_⟩
  refine call_of_wp zt31 rfl ?_
  repeat (first|apply wp_as|apply wp_ss|refine wr (by simp [e1,e2];with_reducible rfl) ?_|refine wq (by simp [e1,e2];with_reducible rfl) ?_|refine wt (by simpa [e1,e2]) ?_|refine wf (by simpa [e1,e2]) ?_|refine xt (by simpa [e1,e2]) ?_|refine xf (by simpa [e1,e2]) ?_|apply wp_bs|apply wp_b|refine wp_sr ?_|refine wp_sx ?_|refine wp_ret' ?_|refine wp_skip' ?_|refine wp_exit' ?_)
  simp [zi31]
theorem ev_mapped (n:Nat) (g h:List (Int×Int)) (cg ch:Bool) (hn:n≤7) (hg:g.length≤21) (hh:h.length≤21) :
    ∃ V,(V=Z ∨ ∃ l:List Int,V=O l)∧Ev tb zl522 [] [Gr n g cg,Gr n h ch] [] ⟨.tup [V,Bo (wk g h n n [])],[],[],[]⟩:=by
  obtain ⟨X,to,hX,hq,hl,E⟩:=ev_walk n g h cg ch hn hg hh n [] Z [] (by simp) (.inr ⟨rfl,rfl⟩)
  have e1:=ev_lim E
  cases hw:wk g h n n [] with
  | false =>
    rw [hw] at e1
    refine ⟨Z,.inl rfl,?_⟩
    rcases hX with rfl | ⟨rfl,rfl⟩
    · refine call_of_wp zt522 rfl ?_
      repeat (first|apply wp_as|apply wp_ss|refine wr (by simp [e1];with_reducible rfl) ?_|refine wq (by simp [e1];with_reducible rfl) ?_|refine wt (by simpa [e1]) ?_|refine wf (by simpa [e1]) ?_|refine xt (by simpa [e1]) ?_|refine xf (by simpa [e1]) ?_|apply wp_bs|apply wp_b|refine wp_sr ?_|refine wp_sx ?_|refine wp_ret' ?_|refine wp_skip' ?_|refine wp_exit' ?_)
      simp [zi522]
    · refine call_of_wp zt522 rfl ?_
      repeat (first|apply wp_as|apply wp_ss|refine wr (by simp [e1];with_reducible rfl) ?_|refine wq (by simp [e1];with_reducible rfl) ?_|refine wt (by simpa [e1]) ?_|refine wf (by simpa [e1]) ?_|refine xt (by simpa [e1]) ?_|refine xf (by simpa [e1]) ?_|apply wp_bs|apply wp_b|refine wp_sr ?_|refine wp_sx ?_|refine wp_ret' ?_|refine wp_skip' ?_|refine wp_exit' ?_)
      simp [zi522]
  | true =>
    rw [hw] at e1
    rcases hX with rfl | ⟨rfl,rfl⟩
    · have e2:=fun c=>ev_lim (ev_clone to c (by omega))
      have htt:to.take to.length=to:=List.take_of_length_le (Nat.le_refl _)
      refine ⟨O to,.inr ⟨_,rfl⟩,?_⟩
      refine call_of_wp zt522 rfl ?_
      repeat (first|apply wp_as|apply wp_ss|refine wr (by simp [e1,e2,htt];with_reducible rfl) ?_|refine wq (by simp [e1,e2,htt];with_reducible rfl) ?_|refine wt (by simpa [e1,e2,htt]) ?_|refine wf (by simpa [e1,e2,htt]) ?_|refine xt (by simpa [e1,e2,htt]) ?_|refine xf (by simpa [e1,e2,htt]) ?_|apply wp_bs|apply wp_b|refine wp_sr ?_|refine wp_sx ?_|refine wp_ret' ?_|refine wp_skip' ?_|refine wp_exit' ?_)
      simp [zi522]
    · obtain ⟨V,hV,E2⟩:=ev_cloneZ
      have e2:=ev_lim E2
      rcases hV with rfl | rfl
      · refine ⟨Z,.inl rfl,?_⟩
        refine call_of_wp zt522 rfl ?_
        repeat (first|apply wp_as|apply wp_ss|refine wr (by simp [e1,e2];with_reducible rfl) ?_|refine wq (by simp [e1,e2];with_reducible rfl) ?_|refine wt (by simpa [e1,e2]) ?_|refine wf (by simpa [e1,e2]) ?_|refine xt (by simpa [e1,e2]) ?_|refine xf (by simpa [e1,e2]) ?_|apply wp_bs|apply wp_b|refine wp_sr ?_|refine wp_sx ?_|refine wp_ret' ?_|refine wp_skip' ?_|refine wp_exit' ?_)
        simp [zi522]
      · refine ⟨O [],.inr ⟨_,rfl⟩,?_⟩
        refine call_of_wp zt522 rfl ?_
        repeat (first|apply wp_as|apply wp_ss|refine wr (by simp [e1,e2];with_reducible rfl) ?_|refine wq (by simp [e1,e2];with_reducible rfl) ?_|refine wt (by simpa [e1,e2]) ?_|refine wf (by simpa [e1,e2]) ?_|refine xt (by simpa [e1,e2]) ?_|refine xf (by simpa [e1,e2]) ?_|apply wp_bs|apply wp_b|refine wp_sr ?_|refine wp_sx ?_|refine wp_ret' ?_|refine wp_skip' ?_|refine wp_exit' ?_)
        simp [zi522]
end Go.Idl
namespace Go.Idl
theorem deg_degs {n:Nat} {s:List (Int×Int)} (hs:s.Sublist (prs n)) {d:List Int} (hl:d.length=n):(∀ v,v < n→deg s v=d.getD v 0) ↔ degs n s=d:=by
  rw [degs_eq (prs_in hs)]
  constructor
  · intro h
    refine List.ext_getElem (by simp [hl]) fun v h1 h2=>?_
    rw [List.getElem_map,List.getElem_range,h v (by omega),List.getD_eq_getElem?_getD,List.getElem?_eq_getElem h2];rfl
  · intro h v hv
    rw [← h,List.getD_eq_getElem?_getD,List.getElem?_map,List.getElem?_range hv];rfl
theorem mem_reals {d:List Int} (h7:d.length≤7) (g:List (Int×Int)):g ∈ reals d ↔ vGraph d.length g=true∧degs d.length g=d:=by
  rw [reals,mem_subs (N:=d.length) _ _ _ _ (fun e he=>mem_prs.1 he) rfl]
  constructor
  · rintro ⟨s,hs,rfl,hd⟩
    exact ⟨vG_iff.2 ⟨(prs_pw _).sublist hs,fun e he=>hs.mem he,h7⟩,(deg_degs hs rfl).1 hd⟩
  · rintro ⟨h1,h2⟩
    exact ⟨g,vG_sub h1,rfl,(deg_degs (vG_sub h1) rfl).2 h2⟩
end Go.Idl
namespace Go.Idl
open Go
@[simp] theorem glf_get (n:Int) (R:GF) (i:Nat) (h:i < (glf n R).length):(glf n R)[i]=[IV.sc (.int .i64 n),.lst 2 (eds (R[i]'(by simpa [glf] using h)).1) (R[i]'(by simpa [glf] using h)).2]:=by simp [glf]
@[simp] theorem glf_get? (n:Int) (R:GF) (i:Nat):(glf n R)[i]? = R[i]?.map fun x=>[IV.sc (.int .i64 n),.lst 2 (eds x.1) x.2]:=by simp [glf]
@[simp] theorem frz_glf (n:Int) (R:GF):frzLL (glf n R)=glf n R:=by
  induction R with
  | nil=>rfl
  | cons x xs ih=>simp only [glf,List.map_cons,frzLL,frzL,frzV] at *;rw [ih]
@[simp] theorem frz_gls (n:Int) (gl:List (List (Int×Int))):frzLL (gls n gl)=glf n (gl.map fun es=>(es,false)):=by
  induction gl with
  | nil=>rfl
  | cons x xs ih=>simp only [gls,glf,List.map_cons,frzLL,frzL,frzV,frz_eds] at *;rw [ih]
theorem ev_AllRealizations_no (d:List Int) (c:Bool) (hl:d.length≤2000000) (hv:(valid d && decide ((d.length:Int)≤5))=false):Ev tb zl147 [] [L d c] [] ⟨Z,[],[],[]⟩:=by
  have e1:=ev_lim (ev_listed d c 5 hl)
  rw [hv] at e1
  refine call_of_wp zt147 rfl ?_
  repeat (first|apply wp_as|apply wp_ss|refine wr (by simp [e1];with_reducible rfl) ?_|refine wq (by simp [e1];with_reducible rfl) ?_|refine wt (by simpa [e1]) ?_|refine wf (by simpa [e1]) ?_|refine xt (by simpa [e1]) ?_|refine xf (by simpa [e1]) ?_|apply wp_bs|apply wp_b|refine wp_sr ?_|refine wp_sx ?_|refine wp_ret' ?_|refine wp_skip' ?_|refine wp_exit' ?_)
  simp [zi147]
end Go.Idl
namespace Go.Idl
open Go
theorem reals_few {d:List Int} (hv:valid d=true):(∀ g ∈ reals d,(∀ e ∈ g,0≤e.1∧e.1 < e.2∧e.2 < (d.length:Int))∧g.length≤21):=by
  intro g hg
  have h7:=(valid_few hv).1
  obtain ⟨h1,-⟩:=(mem_reals (by omega) g).1 hg
  have h2:=vG21 (by omega) h1
  exact ⟨fun e he=>mem_prs.1 ((vG_iff.1 h1).2.1 e he),h2⟩
end Go.Idl
namespace Go.Idl
open Go
def gsl (n:Int) (G:List (List (Int×Int))):List (List IV):=G.map fun g=>[I n,L2 g false]
@[simp] theorem gsl_len (n:Int) (G):(gsl n G).length=G.length:=by simp [gsl]
@[simp] theorem gsl_get (n:Int) (G) (i:Nat):(gsl n G)[i]? = (G[i]?).map fun g=>[I n,L2 g false]:=by simp [gsl]
@[simp] theorem gsl_getE (n:Int) (G) (i:Nat) (h):(gsl n G)[i]'h=[I n,L2 (G[i]'(by simpa using h)) false]:=by simp [gsl]
@[simp] theorem gsl_all (n:Int) (G):((gsl n G).all fun x=>x.all IV.isData)=true:=by
  induction G with
  | nil=>rfl
  | cons x xs ih=>simp only [gsl,List.map_cons,List.all_cons] at *;rw [ih];rfl
theorem glf_gsl (n:Int) (G:List (List (Int×Int))):glf n (G.map fun es=>(es,false))=gsl n G:=by simp [glf,gsl,Function.comp_def]
theorem ev_IndexFuncG (n:Int) (A:List (List (Int×Int))) (c:Bool) (F:Lab) (caps:List IV) (M:List Boxes) (p:List (Int×Int)→Bool) (hl:A.length≤2000000)
    (hp:∀ t ∈ A,Ev tb F [] (.agg [I n,L2 t false]::caps) (M++[[]]) ⟨Bo (p t),[],M++[[]],[]⟩) :
    ∃ r:Int,decide (0≤r)=A.any p∧Ev tb zl554 [] [.lst 2 (gsl n A) c,.fn F caps] M ⟨I r,[],M,[]⟩:=by
  have loop:∀ (m i:Nat),i+m=A.length→wp tb (.loop z554l7) { T:=[(0,.lst 2 (gsl n A) c),(1,.fn F caps),(7,I A.length),(8,I i)],loc:=[],M:=M }
      (fun ex st=>(ex=.exit 0∧(A.drop i).any p=false∧st={ T:=[(0,.lst 2 (gsl n A) c),(1,.fn F caps),(7,I A.length),(8,I A.length),(9,Bo false)],loc:=[],M:=M }) ∨
        ex=.ret∧(A.drop i).any p=true∧∃ k:Nat,st={ T:=[(4,I k)],loc:=[],M:=M }):=by
    intro m
    induction m with
    | zero =>
      intro i hi
      have h3:i=A.length:=hi
      subst h3
      refine wp_loop ?_
      repeat (first|apply wp_as|apply wp_ss|refine wr (by simp;with_reducible rfl) ?_|refine wq (by simp;with_reducible rfl) ?_|refine wt (by simpa) ?_|refine wf (by simpa) ?_|refine xt (by simpa) ?_|refine xf (by simpa) ?_|apply wp_bs|apply wp_b|refine wp_sr ?_|refine wp_sx ?_|refine wp_ret' ?_|refine wp_skip' ?_|refine wp_exit' ?_)
      exact .inl ⟨rfl,by rw [List.drop_length];rfl,rfl⟩
    | succ m ih =>
      intro i hi
      have hi2:i < A.length:=by omega
      have h2:A.drop i=A[i]::A.drop (i+1):=List.drop_eq_getElem_cons hi2
      have e1:=ev_lim (hp _ (List.getElem_mem hi2))
      have w1:IntKind.i64.wrap ((i:Int)+1)=((i+1:Nat):Int):=wrapS (by omega)
      have hn:=ih (i+1) (by omega)
      obtain ⟨t,ht⟩:∃ t,t=A[i]:=⟨_,rfl⟩
      have ht2:=ht.symm
      rw [ht2] at e1
      rw [h2,ht2,List.any_cons]
      cases hpx:p t with
      | true =>
        rw [hpx] at e1
        refine wp_loop ?_
        repeat (first|apply wp_as|apply wp_ss|refine wr (by simp [e1,hi2,ht2,w1];with_reducible rfl) ?_|refine wq (by simp [e1,hi2,ht2,w1];with_reducible rfl) ?_|refine wt (by simpa [e1,hi2,ht2,w1]) ?_|refine wf (by simpa [e1,hi2,ht2,w1]) ?_|refine xt (by simpa [e1,hi2,ht2,w1]) ?_|refine xf (by simpa [e1,hi2,ht2,w1]) ?_|apply wp_bs|apply wp_b|refine wp_sr ?_|refine wp_sx ?_|refine wp_ret' ?_|refine wp_skip' ?_|refine wp_exit' ?_)
        exact .inr ⟨rfl,rfl,i,rfl⟩
      | false =>
        rw [hpx] at e1
        simp only [Bool.false_or]
        refine wp_loop ?_
        repeat (first|apply wp_as|apply wp_ss|refine wr (by simp [e1,hi2,ht2,w1];with_reducible rfl) ?_|refine wq (by simp [e1,hi2,ht2,w1];with_reducible rfl) ?_|refine wt (by simpa [e1,hi2,ht2,w1]) ?_|refine wf (by simpa [e1,hi2,ht2,w1]) ?_|refine xt (by simpa [e1,hi2,ht2,w1]) ?_|refine xf (by simpa [e1,hi2,ht2,w1]) ?_|apply wp_bs|apply wp_b|refine wp_sr ?_|refine wp_sx ?_|refine wp_ret' ?_|refine wp_skip' ?_|refine wp_exit' ?_)
        exact hn
  have l0:=loop A.length 0 (by omega)
  rw [List.drop_zero,show ((0:Nat):Int)=0 from rfl] at l0
  suffices hh:∃ r,(∃ q:Int,decide (0≤q)=A.any p∧r=(⟨I q,[],M,[]⟩:Ret))∧Ev tb zl554 [] [.lst 2 (gsl n A) c,.fn F caps] M r by
    obtain ⟨r,⟨q,h1,rfl⟩,h⟩:=hh
    exact ⟨q,h1,h⟩
  refine call_ex zt554 rfl ?_
  repeat (first|apply wp_as|apply wp_ss|refine wr (by simp;with_reducible rfl) ?_|refine wq (by simp;with_reducible rfl) ?_|refine wt (by simpa) ?_|refine wf (by simpa) ?_|refine xt (by simpa) ?_|refine xf (by simpa) ?_|apply wp_bs|apply wp_b|refine wp_sr ?_|refine wp_sx ?_|refine wp_ret' ?_|refine wp_skip' ?_|refine wp_exit' ?_)
  refine wp_imp l0 ?_
  rintro ex st (⟨rfl,h,rfl⟩ | ⟨rfl,h,k,rfl⟩)
  · simp only [if_true]
    repeat (first|apply wp_as|apply wp_ss|refine wr (by simp;with_reducible rfl) ?_|refine wq (by simp;with_reducible rfl) ?_|refine wt (by simpa) ?_|refine wf (by simpa) ?_|refine xt (by simpa) ?_|refine xf (by simpa) ?_|apply wp_bs|apply wp_b|refine wp_sr ?_|refine wp_sx ?_|refine wp_ret' ?_|refine wp_skip' ?_|refine wp_exit' ?_)
    refine ⟨.inr rfl,_,⟨-1,by rw [h];rfl,rfl⟩,?_⟩
    simp [zi554]
  · refine ⟨.inr rfl,_,⟨(k:Int),by rw [h];exact decide_eq_true (by omega),rfl⟩,?_⟩
    simp [zi554]
theorem ev_ContainsFuncG (n:Int) (A:List (List (Int×Int))) (c:Bool) (F:Lab) (caps:List IV) (M:List Boxes) (p:List (Int×Int)→Bool) (hl:A.length≤2000000)
    (hp:∀ t ∈ A,Ev tb F [] (.agg [I n,L2 t false]::caps) (M++[[]]++[[]]) ⟨Bo (p t),[],M++[[]]++[[]],[]⟩) :
    Ev tb zl549 [] [.lst 2 (gsl n A) c,.fn F caps] M ⟨Bo (A.any p),[],M,[]⟩:=by
  obtain ⟨r,h1,E⟩:=ev_IndexFuncG n A c F caps (M++[[]]) p hl hp
  have e1:=ev_lim E
  rw [← h1]
  refine call_of_wp zt549 rfl ?_
  repeat (first|apply wp_as|apply wp_ss|refine wr (by simp [e1];with_reducible rfl) ?_|refine wq (by simp [e1];with_reducible rfl) ?_|refine wt (by simpa [e1]) ?_|refine wf (by simpa [e1]) ?_|refine xt (by simpa [e1]) ?_|refine xf (by simpa [e1]) ?_|apply wp_bs|apply wp_b|refine wp_sr ?_|refine wp_sx ?_|refine wp_ret' ?_|refine wp_skip' ?_|refine wp_exit' ?_)
  simp [zi549]
def uni (n:Nat):List (List (Int×Int))→Bool
  | []=>false
  | g::G=>(g::G).all fun h=>wk g h n n []
theorem un_F1 (n:Nat) (g:List (Int×Int)) (G:List (List (Int×Int))) (h:List (Int×Int)) (c:Bool) (Ms:List Boxes) (hn:n≤7) (hg:g.length≤21) (hh:h.length≤21) :
    Ev tb zl512 [] [.agg [I n,L2 h false],.bptr 0 0 0] ([[.lst 2 (gsl n (g::G)) c]]::Ms) ⟨Bo (!wk g h n n []),[],[[.lst 2 (gsl n (g::G)) c]]::Ms,[]⟩:=by
  obtain ⟨V,hV,E⟩:=ev_mapped n g h false false hn hg hh
  have e1:=ev_lim E
  rcases hV with rfl | ⟨l,rfl⟩
  · refine call_of_wp zt512 rfl ?_
    repeat (first|apply wp_as|apply wp_ss|refine wr (by simp;with_reducible rfl) ?_|refine wq (by simp;with_reducible rfl) ?_|refine wt (by simpa) ?_|refine wf (by simpa) ?_|refine xt (by simpa) ?_|refine xf (by simpa) ?_|apply wp_bs|apply wp_b|refine wp_sr ?_|refine wp_sx ?_|refine wp_ret' ?_|refine wp_skip' ?_|refine wp_exit' ?_)
    refine wp_ra (by simp [e1];with_reducible rfl) (by simp;with_reducible rfl) ?_ ?_
    · intro p hp
      simp only [List.mem_cons,List.not_mem_nil,or_false] at hp
      rcases hp with rfl | rfl
      · exact ⟨_,by simp [e1];with_reducible rfl,by simp⟩
      · exact ⟨_,by simp [e1];with_reducible rfl,by simp⟩
    repeat (first|apply wp_as|apply wp_ss|refine wr (by simp;with_reducible rfl) ?_|refine wq (by simp;with_reducible rfl) ?_|refine wt (by simpa) ?_|refine wf (by simpa) ?_|refine xt (by simpa) ?_|refine xf (by simpa) ?_|apply wp_bs|apply wp_b|refine wp_sr ?_|refine wp_sx ?_|refine wp_ret' ?_|refine wp_skip' ?_|refine wp_exit' ?_)
    simp [zi512]
  · refine call_of_wp zt512 rfl ?_
    repeat (first|apply wp_as|apply wp_ss|refine wr (by simp;with_reducible rfl) ?_|refine wq (by simp;with_reducible rfl) ?_|refine wt (by simpa) ?_|refine wf (by simpa) ?_|refine xt (by simpa) ?_|refine xf (by simpa) ?_|apply wp_bs|apply wp_b|refine wp_sr ?_|refine wp_sx ?_|refine wp_ret' ?_|refine wp_skip' ?_|refine wp_exit' ?_)
    refine wp_ra (by simp [e1];with_reducible rfl) (by simp;with_reducible rfl) ?_ ?_
    · intro p hp
      simp only [List.mem_cons,List.not_mem_nil,or_false] at hp
      rcases hp with rfl | rfl
      · exact ⟨_,by simp [e1];with_reducible rfl,by simp⟩
      · exact ⟨_,by simp [e1];with_reducible rfl,by simp⟩
    repeat (first|apply wp_as|apply wp_ss|refine wr (by simp;with_reducible rfl) ?_|refine wq (by simp;with_reducible rfl) ?_|refine wt (by simpa) ?_|refine wf (by simpa) ?_|refine xt (by simpa) ?_|refine xf (by simpa) ?_|apply wp_bs|apply wp_b|refine wp_sr ?_|refine wp_sx ?_|refine wp_ret' ?_|refine wp_skip' ?_|refine wp_exit' ?_)
    simp [zi512]
set_option maxHeartbeats 4000000 in
theorem ev_IsUnigraph (d:List Int) (c:Bool) (hv:valid d=true) (h5:d.length≤5) :
    Ev tb zl511 [] [L d c] [] ⟨Bo (uni d.length (reals d)),[],[],[]⟩:=by
  have e3:=ev_lim (ev_AllRealizations d c hv h5)
  have hrl:(reals d).length≤2000000:=by
    have h1:=subs_len (prs d.length) d []
    have h5:(prs d.length).length≤10:=by
      have:∀ n,n≤5→(prs n).length≤10:=by decide +kernel
      exact this _ h5
    have h6:2 ^ (prs d.length).length≤2 ^ 10:=Nat.pow_le_pow_right (by omega) h5
    have h7:(2:Nat) ^ 10=1024:=by decide
    show (subs (prs d.length) d []).length≤_
    omega
  have hfr:=reals_few hv
  generalize reals d=G at *
  cases G with
  | nil =>
    simp only [ngl] at e3
    refine call_of_wp zt511 rfl ?_
    repeat (first|apply wp_as|apply wp_ss|refine wr (by simp [e3];with_reducible rfl) ?_|refine wq (by simp [e3];with_reducible rfl) ?_|refine wt (by simpa [e3]) ?_|refine wf (by simpa [e3]) ?_|refine xt (by simpa [e3]) ?_|refine xf (by simpa [e3]) ?_|apply wp_bs|apply wp_b|refine wp_sr ?_|refine wp_sx ?_|refine wp_ret' ?_|refine wp_skip' ?_|refine wp_exit' ?_)
    simp [zi511,uni]
  | cons g G =>
    simp only [ngl] at e3
    have hp:=fun (Ms:List Boxes)=>ev_lim (ev_ContainsFuncG d.length (g::G) false zl512 [.bptr 0 0 0] ([[.lst 2 (gsl d.length (g::G)) false]]::Ms) (fun h=>!wk g h d.length d.length []) (by simpa using hrl) fun h hh=>by
      have:=un_F1 d.length g G h false (Ms++[[]]++[[]]) (by omega) (hfr g (by simp)).2 (hfr h hh).2
      simpa using this)
    have hu:uni d.length (g::G)=!((g::G).any fun h=>!wk g h d.length d.length []):=by
      rw [uni,List.not_any_eq_all_not];simp
    rw [hu]
    generalize ((g::G).any fun h=>!wk g h d.length d.length [])=b at *
    have hlen:0 < (g::G).length:=by simp
    generalize g::G=GG at *
    have hgg:=fun n=>glf_gsl n GG
    refine call_of_wp zt511 rfl ?_
    repeat (first|apply wp_as|apply wp_ss|refine wr (by simp [e3,hp,hlen,hgg];with_reducible rfl) ?_|refine wq (by simp [e3,hp,hlen,hgg];with_reducible rfl) ?_|refine wt (by simpa [e3,hp,hlen,hgg]) ?_|refine wf (by simpa [e3,hp,hlen,hgg]) ?_|refine xt (by simpa [e3,hp,hlen,hgg]) ?_|refine xf (by simpa [e3,hp,hlen,hgg]) ?_|apply wp_bs|apply wp_b|refine wp_sr ?_|refine wp_sx ?_|refine wp_ret' ?_|refine wp_skip' ?_|refine wp_exit' ?_)
    simp [zi511]
end Go.Idl
namespace Go.Idl
theorem len_sub {α:Type} [DecidableEq α]:∀ {l k:List α},l.Nodup→(∀ x ∈ l,x ∈ k)→l.length≤k.length
  | [],_,_,_=>by simp
  | a::l,k,hn,hs=>by
    have hn':=List.nodup_cons.1 hn
    have h1:=len_sub (l:=l) (k:=k.erase a) hn'.2 (fun x hx=>(List.mem_erase_of_ne (fun h=>hn'.1 (by rw [← h];exact hx))).2 (hs x (by simp [hx])))
    have h2:=List.length_erase_of_mem (hs a (by simp))
    have h3:0 < k.length:=List.length_pos_of_mem (hs a (by simp))
    simp only [List.length_cons];omega
theorem len_inj {α β:Type} [DecidableEq β] {l:List α} {k:List β} (f:α→β) (hn:l.Nodup) (hi:∀ x ∈ l,∀ y ∈ l,f x=f y→x=y) (hf:∀ x ∈ l,f x ∈ k):l.length≤k.length:=by
  have h1:(l.map f).Nodup:=by
    rw [List.Nodup,List.pairwise_map]
    exact List.Pairwise.imp_of_mem (fun ha hb h hab=>h (hi _ ha _ hb hab)) hn
  have:=len_sub h1 (fun y hy=>by obtain ⟨x,hx,rfl⟩:=List.mem_map.1 hy;exact hf x hx)
  simpa using this
theorem subs_nodup {N:Nat}:∀ (r:List (Int×Int)) (left:List Int) (ch:List (Int×Int)),(∀ e ∈ r,0≤e.1∧e.1 < e.2∧e.2 < N)→left.length=N→r.Nodup→(subs r left ch).Nodup
  | [],left,ch,_,_,_=>by rw [subs];split <;> simp
  | e::r,left,ch,hr,hl,hn=>by
    have hn':=List.nodup_cons.1 hn
    have hr':∀ x ∈ r,0≤x.1∧x.1 < x.2∧x.2 < N:=fun x hx=>hr x (by simp [hx])
    rw [subs]
    refine List.nodup_append.2 ⟨?_,subs_nodup r left ch hr' hl hn'.2,?_⟩
    · split
      · exact subs_nodup r _ _ hr' (by simp [decAt,hl]) hn'.2
      · exact .nil
    · intro g hg g2 hg2 hgg
      subst hgg
      split at hg
      · obtain ⟨s1,-,h1,-⟩:=(mem_subs r _ _ g hr' (by simp [decAt,hl])).1 hg
        obtain ⟨s2,hs2,h2,-⟩:=(mem_subs r _ _ g hr' hl).1 hg2
        rw [h1,List.append_assoc] at h2
        have h3:=List.append_cancel_left h2
        exact hn'.1 (hs2.mem (by rw [← h3];simp))
      · cases hg
theorem reals_nodup (d:List Int):(reals d).Nodup:=subs_nodup _ _ _ (fun _ he=>mem_prs.1 he) rfl (pw_nodup (prs_pw _))
theorem compM_twice {n:Nat} {es:List (Int×Int)} (h:vGraph n es=true):compM n (compM n es)=es:=by
  conv=>rhs;rw [vG_filter h]
  refine List.filter_congr fun e he=>?_
  rw [hasM_mem he,compM]
  by_cases hm:e ∈ es
  · have:e ∉ (prs n).filter fun e=>!hasM es e.1 e.2:=fun h2=>by
      have:=(List.mem_filter.1 h2).2
      rw [hasM_mem he] at this
      simp [hm] at this
    simp [hm,this]
  · have:e ∈ (prs n).filter fun e=>!hasM es e.1 e.2:=List.mem_filter.2 ⟨he,by rw [hasM_mem he];simp [hm]⟩
    simp [hm,this]
theorem comp_len (d:List Int):(comp d).length=d.length:=by simp [comp]
def rel (n:Nat) (σ:Nat→Nat) (g:List (Int×Int)):List (Int×Int):=(prs n).filter fun e=>decide (mk (σ e.1.toNat) (σ e.2.toNat) ∈ g)
theorem mk_nat {n:Nat} {e:Int×Int} (he:e ∈ prs n):mk e.1.toNat e.2.toNat=e:=by
  have:=mem_prs.1 he
  exact Prod.ext (by simp only [mk];omega) (by simp only [mk];omega)
theorem rel_deg {n:Nat} (hn:n≤7) {σ:Nat→Nat} (hσ:∀ u,u < n→σ u < n) (hi:∀ u v,u < n→v < n→(σ u=σ v ↔ u=v)) (hp:((List.range n).map σ).Perm (List.range n)) {g:List (Int×Int)} (hg:vGraph n g=true) {v:Nat} (hv:v < n) :
    deg (rel n σ g) v=deg g (σ v):=by
  conv=>rhs;rw [vG_filter hg]
  rw [rel,deg_filter hn _ hv,deg_filter hn _ (hσ v hv)]
  conv=>rhs;rw [← S_perm hp,S_map]
  refine S_congr fun u hu=>?_
  have hu:=List.mem_range.1 hu
  have hm:mk (σ (mk u v).1.toNat) (σ (mk u v).2.toNat)=mk (σ u) (σ v):=by
    rcases Nat.le_total u v with h | h
    · rw [show (mk u v).1.toNat=u by simp only [mk];omega,show (mk u v).2.toNat=v by simp only [mk];omega]
    · rw [show (mk u v).1.toNat=v by simp only [mk];omega,show (mk u v).2.toNat=u by simp only [mk];omega,mk_comm]
  rw [hm]
  exact ite_iff (hi u v hu hv).symm _ _
theorem rel_rel {n:Nat} {σ τ:Nat→Nat} (hτ:∀ u,u < n→τ u < n) (hi:∀ u v,u < n→v < n→(τ u=τ v ↔ u=v)) (hst:∀ u,u < n→σ (τ u)=u) {g:List (Int×Int)} (hg:vGraph n g=true) :
    rel n τ (rel n σ g)=g:=by
  conv=>rhs;rw [vG_filter hg]
  refine List.filter_congr fun e he=>?_
  have hb:=mem_prs.1 he
  obtain ⟨a,ha⟩:=Int.eq_ofNat_of_zero_le (show 0≤e.1 by omega)
  obtain ⟨b,hb2⟩:=Int.eq_ofNat_of_zero_le (show 0≤e.2 by omega)
  have he2:=mk_nat he
  rw [ha,hb2,Int.toNat_natCast,Int.toNat_natCast] at he2 ⊢
  have han:a < n:=by omega
  have hbn:b < n:=by omega
  have hm:mk (τ a) (τ b) ∈ prs n:=mk_mem (hτ a han) (hτ b hbn) (fun h=>by have:=(hi a b han hbn).1 h;omega)
  rw [decide_eq_decide,rel,List.mem_filter,decide_eq_true_eq]
  have hm2:mk (σ (mk (τ a) (τ b)).1.toNat) (σ (mk (τ a) (τ b)).2.toNat)=e:=by
    rcases Nat.le_total (τ a) (τ b) with h | h
    · rw [show (mk (τ a) (τ b)).1.toNat=τ a by simp only [mk];omega,show (mk (τ a) (τ b)).2.toNat=τ b by simp only [mk];omega,hst a han,hst b hbn,he2]
    · rw [show (mk (τ a) (τ b)).1.toNat=τ b by simp only [mk];omega,show (mk (τ a) (τ b)).2.toNat=τ a by simp only [mk];omega,hst a han,hst b hbn,mk_comm,he2]
  rw [hm2]
  exact ⟨fun h=>h.2,fun h=>⟨hm,h⟩⟩
theorem reals_rel {d f:List Int} (h7:d.length≤7) (hl:f.length=d.length) {σ τ:Nat→Nat} (hσ:∀ u,u < d.length→σ u < d.length) (hτ:∀ u,u < d.length→τ u < d.length)
    (hst:∀ u,u < d.length→σ (τ u)=u) (hts:∀ u,u < d.length→τ (σ u)=u) (hp:((List.range d.length).map σ).Perm (List.range d.length)) (hd:∀ u,u < d.length→f.getD u 0=d.getD (σ u) 0) :
    (reals d).length≤(reals f).length:=by
  have hiσ:∀ u v,u < d.length→v < d.length→(σ u=σ v ↔ u=v):=fun u v hu hv=>⟨fun h=>by rw [← hts u hu,h,hts v hv],fun h=>by rw [h]⟩
  have hiτ:∀ u v,u < d.length→v < d.length→(τ u=τ v ↔ u=v):=fun u v hu hv=>⟨fun h=>by rw [← hst u hu,h,hst v hv],fun h=>by rw [h]⟩
  refine len_inj (rel d.length σ) (reals_nodup d) (fun x hx y hy h=>?_) fun g hg=>?_
  · rw [← rel_rel hτ hiτ hst ((mem_reals h7 x).1 hx).1,h,rel_rel hτ hiτ hst ((mem_reals h7 y).1 hy).1]
  · obtain ⟨h1,h2⟩:=(mem_reals h7 g).1 hg
    have hv:vGraph d.length (rel d.length σ g)=true:=filter_vG h7 _
    refine (mem_reals (by omega) _).2 ?_
    rw [hl]
    refine ⟨hv,(deg_degs (vG_sub hv) hl).1 fun v hv=>?_⟩
    rw [rel_deg h7 hσ hiσ hp h1 hv,hd v hv]
    exact (deg_degs (vG_sub h1) rfl).2 h2 _ (hσ v hv)
theorem reals_fall {d:List Int} (h7:d.length≤7):(reals (fall d)).length=(reals d).length:=by
  obtain ⟨n,hn⟩:∃ n,n=d.length:=⟨_,rfl⟩
  have hd:d=(List.range n).map fun v=>d.getD v 0:=by
    refine List.ext_getElem (by simp [hn]) fun i k1 k2=>?_
    simp [List.getD_eq_getElem?_getD,List.getElem?_eq_getElem k1]
  obtain ⟨π,hπ,hfp⟩:=perm_map_inv (f:=fun v=>d.getD v 0) (fall_perm d) hd
  have hπn:π.Nodup:=hπ.nodup_iff.2 List.nodup_range
  have hπl:π.length=n:=by rw [hπ.length_eq,List.length_range]
  have hσ:∀ v,v < n→π.idxOf v < n:=fun v hv=>by
    have hm:v ∈ π:=hπ.mem_iff.2 (List.mem_range.2 hv)
    have:=List.idxOf_lt_length_of_mem hm
    omega
  have hτσ:∀ v,v < n→π.getD (π.idxOf v) 0=v:=fun v hv=>by
    have hm:v ∈ π:=hπ.mem_iff.2 (List.mem_range.2 hv)
    have:=List.idxOf_lt_length_of_mem hm
    rw [List.getD_eq_getElem?_getD,List.getElem?_eq_getElem this,List.getElem_idxOf];rfl
  have hτ:∀ i,i < n→π.getD i 0 < n:=fun i hi=>by
    rw [List.getD_eq_getElem?_getD,List.getElem?_eq_getElem (by omega)]
    exact List.mem_range.1 (hπ.mem_iff.1 (List.getElem_mem _))
  have hστ:∀ i,i < n→π.idxOf (π.getD i 0)=i:=fun i hi=>by
    rw [List.getD_eq_getElem?_getD,List.getElem?_eq_getElem (by omega)]
    exact hπn.idxOf_getElem i (by omega)
  have hp1:((List.range n).map (π.getD · 0)).Perm (List.range n):=by
    have:(List.range n).map (π.getD · 0)=π:=by
      refine List.ext_getElem (by simp [hπl]) fun i k1 k2=>?_
      simp [List.getD_eq_getElem?_getD,List.getElem?_eq_getElem k2]
    rw [this];exact hπ
  have hp2:((List.range n).map (π.idxOf ·)).Perm (List.range n):=by
    have hmap:π.map (π.idxOf ·)=List.range n:=by
      refine List.ext_getElem (by simp [hπl]) fun i k1 k2=>?_
      rw [List.getElem_map,List.getElem_range]
      exact hπn.idxOf_getElem i (by simpa using k1)
    have:=hπ.symm.map (π.idxOf ·)
    rwa [hmap] at this
  have hf:∀ i,i < n→(fall d).getD i 0=d.getD (π.getD i 0) 0:=fun i hi=>by
    rw [hfp,List.getD_eq_getElem?_getD,List.getElem?_map,List.getD_eq_getElem?_getD (l:=π),List.getElem?_eq_getElem (by omega:i < π.length)];rfl
  have hfl:=fall_len d
  have a1:=reals_rel (d:=d) (f:=fall d) h7 hfl (σ:=(π.getD · 0)) (τ:=(π.idxOf ·)) (by rw [← hn];exact hτ) (by rw [← hn];exact hσ) (by rw [← hn];exact hτσ) (by rw [← hn];exact hστ) (by rw [← hn];exact hp1) (by rw [← hn];exact hf)
  have a2:=reals_rel (d:=fall d) (f:=d) (by omega) hfl.symm (σ:=(π.idxOf ·)) (τ:=(π.getD · 0)) (by rw [hfl,← hn];exact hσ) (by rw [hfl,← hn];exact hτ) (by rw [hfl,← hn];exact hστ) (by rw [hfl,← hn];exact hτσ) (by rw [hfl,← hn];exact hp2) (fun i hi=>by
    rw [hfl,← hn] at hi
    rw [hf _ (hσ i hi),hτσ i hi])
  omega
theorem reals_some {d:List Int} (h7:d.length≤7):graphic d=!(reals d).isEmpty:=by
  rw [Bool.eq_iff_iff,graphic_iff_real (by omega)]
  constructor
  · rintro ⟨es,h1,h2⟩
    have:=(mem_reals (by omega) es).2 ⟨h1,h2⟩
    cases hr:reals d with
    | nil=>rw [hr] at this;simp at this
    | cons _ _=>rfl
  · intro h
    cases hr:reals d with
    | nil=>rw [hr] at h;cases h
    | cons g r=>exact ⟨g,(mem_reals (by omega) g).1 (by rw [hr];simp)⟩
theorem insE_end {e:Int×Int}:∀ {es:List (Int×Int)},(∀ x ∈ es,below x e=true)→insE e es=es++[e]
  | [],_=>rfl
  | x::es,h=>by rw [insE,if_pos (h x (by simp)),insE_end fun y hy=>h y (by simp [hy])];rfl
theorem sum_zero:∀ {l:List Int},(∀ x ∈ l,0≤x)→(l.sum=0 ↔ l.all (fun x=>decide (x=0))=true)
  | [],_=>by simp
  | x::l,h=>by
    have h1:=h x (by simp)
    have h2:0≤l.sum:=by
      have:∀ {l:List Int},(∀ x ∈ l,0≤x)→0≤l.sum:=by
        intro l
        induction l with
        | nil=>intro _;simp
        | cons y l ih=>intro h;have:=ih fun z hz=>h z (by simp [hz]);have:=h y (by simp);simp only [List.sum_cons];omega
      exact this fun y hy=>h y (by simp [hy])
    rw [List.sum_cons,List.all_cons,Bool.and_eq_true,← sum_zero fun y hy=>h y (by simp [hy]),decide_eq_true_eq]
    omega
theorem srS_subs {n:Nat}:∀ (r:List (Int×Int)) (left:List Int) (es:List (Int×Int)),PW r→(∀ e ∈ r,e ∈ prs n)→left.length=n→(∀ x ∈ left,0≤x)→(∀ x ∈ es,∀ e ∈ r,below x e=true) →
    srS n es left r=subs r left es
  | [],left,es,_,_,_,hb,_=>by rw [srS,subs];exact ite_iff (sum_zero hb) _ _
  | e::r,left,es,hp,hr,hl,hb,hes=>by
    have hp':=List.pairwise_cons.1 hp
    have he:=mem_prs.1 (hr e (by simp))
    have hr':∀ x ∈ r,x ∈ prs n:=fun x hx=>hr x (by simp [hx])
    have hes':∀ x ∈ es,∀ y ∈ r,below x y=true:=fun x hx y hy=>hes x hx y (by simp [hy])
    have h2:=srS_subs r left es hp'.2 hr' hl hb hes'
    rw [srS,subs,insE_end fun x hx=>hes x hx e (by simp)]
    congr 1
    · split
      · rename_i hq
        refine srS_subs r _ _ hp'.2 hr' (by simp [decAt,hl]) (fun x hx=>?_) fun x hx y hy=>?_
        · obtain ⟨i,hi,rfl⟩:=List.mem_iff_getElem.1 hx
          have hi2:i < left.length:=by simpa [decAt] using hi
          have g1:=decAt_get (o:=decAt left e.1.toNat) (i:=e.2.toNat) (v:=i) (by simpa [decAt] using hi2)
          have g2:=decAt_get (o:=left) (i:=e.1.toNat) (v:=i) hi2
          rw [List.getD_eq_getElem?_getD,List.getElem?_eq_getElem hi] at g1
          have g3:=hb left[i] (List.getElem_mem hi2)
          have g4:left.getD i 0=left[i]:=by rw [List.getD_eq_getElem?_getD,List.getElem?_eq_getElem hi2];rfl
          simp only [Option.getD_some] at g1
          rw [g1,g2,g4]
          by_cases k1:e.1.toNat=i
          · rw [k1] at hq
            have:¬ e.2.toNat=i:=by omega
            rw [if_pos k1,if_neg this];omega
          · by_cases k2:e.2.toNat=i
            · rw [k2] at hq
              rw [if_neg k1,if_pos k2];omega
            · rw [if_neg k1,if_neg k2];omega
        · rcases List.mem_append.1 hx with hx | hx
          · exact hes' x hx y hy
          · simp at hx;subst hx;exact hp'.1 y hy
      · rfl
    · by_cases hq:e.2+1 < n ∨ left.getD e.1.toNat 0=0
      · rw [if_pos hq,h2]
      · rw [if_neg hq]
        cases hs:subs r left es with
        | nil=>rfl
        | cons g gl =>
          exfalso
          have hg:g ∈ subs r left es:=by rw [hs];simp
          obtain ⟨s,hsr,-,hd⟩:=(mem_subs r left es g (fun x hx=>mem_prs.1 (hr' x hx)) hl).1 hg
          have h3:=hd e.1.toNat (by omega)
          have h4:deg s e.1.toNat=0:=by
            rw [deg,S_congr (g:=fun _=>0),S_zero]
            intro x hx
            have hx1:=hp'.1 x (hsr.mem hx)
            have hx2:=mem_prs.1 (hr' x (hsr.mem hx))
            rw [below_iff] at hx1
            rw [inc,if_neg (by omega),if_neg (by omega)];rfl
          omega
theorem srS_reals {d:List Int} (hv:valid d=true):srS d.length [] d (prs d.length)=reals d :=
  srS_subs _ _ _ (prs_pw _) (fun _ h=>h) rfl (fun x hx=>(valid_mem hv x hx).1) (by simp)
end Go.Idl
namespace Go.Idl
open Go
abbrev Str (s:ByteArray):IV:=.sc (.string s)
def strs (l:List ByteArray):List (List IV):=l.map fun s=>[Str s]
@[simp] theorem strs_len (l:List ByteArray):(strs l).length=l.length:=by simp [strs]
@[simp] theorem strs_get (l:List ByteArray) (i:Nat) (h:i < (strs l).length):(strs l)[i]=[IV.sc (.string (l[i]'(by simpa [strs] using h)))]:=by simp [strs]
@[simp] theorem strs_get? (l:List ByteArray) (i:Nat):(strs l)[i]? = l[i]?.map fun s=>[IV.sc (.string s)]:=by simp [strs]
end Go.Idl
namespace Go.Idl
def encI:List Int→Nat
  | []=>0
  | x::r=>x.toNat+8 * encI r
theorem dig_enc:∀ (l:List Int) (i:Nat),(∀ x ∈ l,0≤x∧x < 8)→encI l / 8 ^ i % 8=(l.getD i 0).toNat
  | [],i,_=>by simp [encI]
  | x::r,0,h=>by
    have:=h x (by simp)
    simp only [encI,Nat.pow_zero,Nat.div_one,List.getD_cons_zero];omega
  | x::r,i+1,h=>by
    have h1:=h x (by simp)
    have h2:=dig_enc r i fun y hy=>h y (by simp [hy])
    rw [encI,Nat.pow_succ,Nat.mul_comm (8 ^ i),← Nat.div_div_eq_div_mul,show (x.toNat+8 * encI r) / 8=encI r by omega,h2,List.getD_cons_succ]
theorem enc_dec:∀ (l:List Int) (i:Nat),(∀ x ∈ l,0≤x∧x < 8)→0 < l.getD i 0→encI (decAt l i)+8 ^ i=encI l
  | [],i,_,h=>by simp at h
  | x::r,0,h,hp=>by
    simp only [List.getD_cons_zero] at hp
    simp only [decAt,List.getD_cons_zero,List.set_cons_zero,encI,Nat.pow_zero];omega
  | x::r,i+1,h,hp=>by
    rw [List.getD_cons_succ] at hp
    have h2:=enc_dec r i (fun y hy=>h y (by simp [hy])) hp
    rw [decAt] at h2
    rw [decAt,List.getD_cons_succ,List.set_cons_succ,encI,encI,Nat.pow_succ];omega
theorem enc_zero:∀ l:List Int,(∀ x ∈ l,0≤x∧x < 8)→(encI l=0 ↔ l.sum=0)
  | [],_=>by simp [encI]
  | x::r,h=>by
    have h1:=h x (by simp)
    have h2:=enc_zero r fun y hy=>h y (by simp [hy])
    have h3:0≤r.sum:=by
      have:∀ {l:List Int},(∀ x ∈ l,0≤x∧x < 8)→0≤l.sum:=by
        intro l
        induction l with
        | nil=>intro _;simp
        | cons y l ih=>intro h;have:=ih fun z hz=>h z (by simp [hz]);have:=h y (by simp);simp only [List.sum_cons];omega
      exact this fun y hy=>h y (by simp [hy])
    rw [encI,List.sum_cons];omega
noncomputable def sNq (n:Nat) (P:List (Nat×Nat)):Nat→Nat :=
  List.rec (motive:=fun _=>Nat→Nat) (fun q=>Bool.rec 0 1 (Nat.beq q 0))
    (fun e _ ih q=>Nat.add
      (Bool.rec 0 (Bool.rec 0 (ih (Nat.sub (Nat.sub q (Nat.pow 8 e.1)) (Nat.pow 8 e.2))) (Nat.ble 1 (Nat.mod (Nat.div q (Nat.pow 8 e.2)) 8))) (Nat.ble 1 (Nat.mod (Nat.div q (Nat.pow 8 e.1)) 8)))
      (Bool.rec (Bool.rec 0 (ih q) (Nat.beq (Nat.mod (Nat.div q (Nat.pow 8 e.1)) 8) 0)) (ih q) (Nat.ble (e.2+2) n))) P
theorem rec_ite (b:Bool) (x y:Nat):(Bool.rec x y b:Nat)=if b=true then y else x:=by cases b <;> rfl
theorem sN_consq (n:Nat) (a b:Nat) (P:List (Nat×Nat)) (q:Nat):sNq n ((a,b)::P) q =
    (if 1≤q / 8 ^ a % 8 then (if 1≤q / 8 ^ b % 8 then sNq n P (q - 8 ^ a - 8 ^ b) else 0) else 0)+(if b+2≤n then sNq n P q else if q / 8 ^ a % 8=0 then sNq n P q else 0):=by
  show Nat.add (Bool.rec 0 (Bool.rec 0 (sNq n P (Nat.sub (Nat.sub q (Nat.pow 8 a)) (Nat.pow 8 b))) (Nat.ble 1 (Nat.mod (Nat.div q (Nat.pow 8 b)) 8))) (Nat.ble 1 (Nat.mod (Nat.div q (Nat.pow 8 a)) 8)))
      (Bool.rec (Bool.rec 0 (sNq n P q) (Nat.beq (Nat.mod (Nat.div q (Nat.pow 8 a)) 8) 0)) (sNq n P q) (Nat.ble (b+2) n))=_
  simp only [rec_ite,Nat.ble_eq,Nat.beq_eq]
  rfl
theorem dec_bound {l:List Int} {i:Nat} (h:∀ x ∈ l,0≤x∧x < 8) (hp:0 < l.getD i 0):∀ x ∈ decAt l i,0≤x∧x < 8:=by
  intro x hx
  rcases List.mem_or_eq_of_mem_set hx with hx | rfl
  · exact h x hx
  · have:l.getD i 0 < 8:=by
      rw [List.getD_eq_getElem?_getD] at hp ⊢
      cases hq:l[i]? with
      | none=>rw [hq] at hp;simp at hp
      | some y=>have:=h y (List.mem_of_getElem? hq);simpa using this.2
    omega
theorem dec_other {l:List Int} {i j:Nat} (h:i ≠ j):(decAt l i).getD j 0=l.getD j 0:=by
  rw [decAt,List.getD_eq_getElem?_getD,List.getElem?_set_ne h,List.getD_eq_getElem?_getD]
theorem srS_sN (n:Nat):∀ (r:List (Int×Int)) (es:List (Int×Int)) (left:List Int),(∀ e ∈ r,0≤e.1∧e.1 < e.2)→(∀ x ∈ left,0≤x∧x < 8) →
    (srS n es left r).length=sNq n (r.map fun e=>(e.1.toNat,e.2.toNat)) (encI left)
  | [],es,left,_,hb=>by
    rw [srS]
    show _=(Bool.rec 0 1 (Nat.beq (encI left) 0):Nat)
    rw [rec_ite]
    simp only [Nat.beq_eq]
    by_cases h0:left.sum=0
    · rw [if_pos h0,if_pos ((enc_zero left hb).2 h0)];rfl
    · rw [if_neg h0,if_neg fun h=>h0 ((enc_zero left hb).1 h)];rfl
  | e::r,es,left,hr,hb=>by
    have he:=hr e (by simp)
    have hr':∀ x ∈ r,0≤x.1∧x.1 < x.2:=fun x hx=>hr x (by simp [hx])
    have d1:=dig_enc left e.1.toNat hb
    have d2:=dig_enc left e.2.toNat hb
    have hne:e.1.toNat ≠ e.2.toNat:=by omega
    rw [srS,List.map_cons,sN_consq,d1,d2,List.length_append]
    have i2:=srS_sN n r es left hr' hb
    congr 1
    · by_cases h1:0 < left.getD e.1.toNat 0
      · rw [if_pos (show 1≤(left.getD e.1.toNat 0).toNat by omega)]
        by_cases h2:0 < left.getD e.2.toNat 0
        · rw [if_pos ⟨h1,h2⟩,if_pos (show 1≤(left.getD e.2.toNat 0).toNat by omega)]
          have k1:=enc_dec left e.1.toNat hb h1
          have b1:=dec_bound hb h1
          have h2':0 < (decAt left e.1.toNat).getD e.2.toNat 0:=by rw [dec_other hne];exact h2
          have k2:=enc_dec _ e.2.toNat b1 h2'
          rw [srS_sN n r _ _ hr' (dec_bound b1 h2')]
          congr 1
          omega
        · rw [if_neg (fun h=>h2 h.2),if_neg (show ¬ 1≤(left.getD e.2.toNat 0).toNat by omega)];rfl
      · rw [if_neg (fun h=>h1 h.1),if_neg (show ¬ 1≤(left.getD e.1.toNat 0).toNat by omega)];rfl
    · have hz:(left.getD e.1.toNat 0).toNat=0 ↔ left.getD e.1.toNat 0=0:=by
        have:0≤left.getD e.1.toNat 0:=by
          rw [List.getD_eq_getElem?_getD]
          cases hq:left[e.1.toNat]? with
          | none=>simp
          | some y=>exact (hb y (List.mem_of_getElem? hq)).1
        omega
      by_cases h3:e.2+1 < n
      · rw [if_pos (.inl h3),if_pos (by omega),i2]
      · rw [if_neg (show ¬ e.2.toNat+2≤n by omega)]
        by_cases h4:left.getD e.1.toNat 0=0
        · rw [if_pos (.inr h4),if_pos (hz.2 h4),i2]
        · rw [if_neg (fun h=>h.elim h3 h4),if_neg fun h=>h4 (hz.1 h)];rfl
def thS (s:List Int):Bool:=decide (s=corrs s)
end Go.Idl
namespace Go.Idl
noncomputable def chkV (s:List Int):Bool:=Bool.rec true (Nat.beq (sNq s.length ((prs s.length).map fun e=>(e.1.toNat,e.2.toNat)) (encI s)) 1) (thS s)
set_option maxRecDepth 100000 in
theorem chkV_all:(List.range 8).all (fun n=>allD chkV n (n - 1) [])=true:=by kernel_rfl
theorem thr_one {d:List Int} (hv:valid d=true) (h:thr d=true):(reals d).length=1:=by
  have h1:=(valid_few hv).1
  have h2:=valid_mem hv
  have hb:∀ x ∈ fall d,0≤x∧x≤((d.length - 1:Nat):Int):=fun x hx=>by
    have:=h2 x (fall_mem.1 hx)
    omega
  have ht:thr d=thS (fall d):=by rw [thr,hv,thS,Bool.true_and]
  have hc:=List.all_eq_true.1 chkV_all d.length (List.mem_range.2 (by omega))
  have h4:=allD_ok chkV d.length (d.length - 1) [] (fall d) hc (fall_len d) (fall_desc d) hb
  have h5:=srS_sN (fall d).length (prs (fall d).length) [] (fall d) (fun e he=>by have:=mem_prs.1 he;omega) (fun x hx=>by have:=hb x hx;omega)
  rw [srS_reals (fall_valid hv),reals_fall h1] at h5
  simp only [List.reverse_nil,List.nil_append,chkV] at h4
  rw [← h5,← ht,h] at h4
  exact Nat.eq_of_beq_eq_true h4
end Go.Idl
namespace Go.Idl
theorem hasM_mkU (es:List (Int×Int)) (u v:Nat):hasM es u v=decide (mk u v ∈ es):=by
  rw [Bool.eq_iff_iff,hasM_iff,decide_eq_true_eq];exact Iff.rfl
theorem hasM_commU (es:List (Int×Int)) (a b:Int):hasM es a b=hasM es b a:=by
  rw [Bool.eq_iff_iff,hasM_iff,hasM_iff,Int.min_comm,Int.max_comm]
structure Good (g h:List (Int×Int)) (n:Nat) (l:List Int):Prop where
  nd:l.Nodup
  lo:∀ x ∈ l,0≤x∧x < n
  ok:∀ u v,u < v→v < l.length→hasM g u v=hasM h (l.getD u 0) (l.getD v 0)
def Gd (g h:List (Int×Int)) (n:Nat):List Int→List Int→Prop
  | _,[]=>True
  | to,w::s=>(0≤w∧w < n∧w ∉ to∧∀ u,u < to.length→hasM g u to.length=hasM h (to.getD u 0) w)∧Gd g h n (to++[w]) s
theorem getD_left {α:Type} {l k:List α} {i:Nat} {d:α} (h:i < l.length):(l++k).getD i d=l.getD i d:=by
  rw [List.getD_eq_getElem?_getD,List.getElem?_append_left h,List.getD_eq_getElem?_getD]
theorem getD_midU {α:Type} {l k:List α} {x d:α}:(l++x::k).getD l.length d=x:=by
  rw [List.getD_eq_getElem?_getD,List.getElem?_append_right (Nat.le_refl _)];simp
theorem Good.pre {g h:List (Int×Int)} {n:Nat} {l k:List Int} (q:Good g h n (l++k)):Good g h n l :=
  ⟨(List.nodup_append.1 q.nd).1,fun x hx=>q.lo x (List.mem_append_left _ hx),fun u v huv hv=>by
    have:=q.ok u v huv (by rw [List.length_append];omega)
    rwa [getD_left (by omega),getD_left hv] at this⟩
theorem Good.snoc {g h:List (Int×Int)} {n:Nat} {l:List Int} {w:Int} (q:Good g h n l) :
    Good g h n (l++[w]) ↔ 0≤w∧w < n∧w ∉ l∧∀ u,u < l.length→hasM g u l.length=hasM h (l.getD u 0) w:=by
  constructor
  · intro p
    have hw:=p.lo w (by simp)
    refine ⟨hw.1,hw.2,fun hm=>(List.nodup_append.1 p.nd).2.2 w hm w (by simp) rfl,fun u hu=>?_⟩
    have:=p.ok u l.length hu (by simp)
    rwa [getD_left hu,getD_midU] at this
  · rintro ⟨h1,h2,h3,h4⟩
    refine ⟨List.nodup_append.2 ⟨q.nd,by simp,fun a ha b hb=>?_⟩,fun x hx=>?_,fun u v huv hv=>?_⟩
    · simp only [List.mem_singleton] at hb
      subst hb
      rintro rfl
      exact h3 ha
    · rcases List.mem_append.1 hx with hx | hx
      · exact q.lo x hx
      · simp only [List.mem_singleton] at hx
        subst hx
        exact ⟨h1,h2⟩
    · rw [List.length_append,List.length_singleton] at hv
      by_cases hvl:v < l.length
      · rw [getD_left (by omega),getD_left hvl]
        exact q.ok u v huv hvl
      · have:v=l.length:=by omega
        subst this
        rw [getD_left huv,getD_midU]
        exact h4 u huv
theorem Gd_good {g h:List (Int×Int)} {n:Nat}:∀ (s to:List Int),Good g h n to→(Gd g h n to s ↔ Good g h n (to++s))
  | [],to,q=>by rw [List.append_nil];exact ⟨fun _=>q,fun _=>trivial⟩
  | w::s,to,q=>by
    rw [Gd,← q.snoc]
    constructor
    · rintro ⟨h1,h2⟩
      have:=(Gd_good s _ h1).1 h2
      rwa [List.append_assoc] at this
    · intro p
      have p2:Good g h n ((to++[w])++s):=by rwa [List.append_assoc]
      exact ⟨p2.pre,(Gd_good s _ p2.pre).2 p2⟩
theorem wk_iff (g h:List (Int×Int)) (n:Nat):∀ (m:Nat) (to:List Int),wk g h n m to=true ↔ ∃ s:List Int,s.length=m∧Gd g h n to s:=by
  intro m
  induction m with
  | zero =>
    intro to
    exact ⟨fun _=>⟨[],rfl,trivial⟩,fun _=>rfl⟩
  | succ m ih =>
    intro to
    rw [wk,List.any_eq_true]
    constructor
    · rintro ⟨w,hw,hq⟩
      rw [Bool.and_eq_true,Bool.and_eq_true,ih] at hq
      obtain ⟨⟨q1,q2⟩,s,hs,hg⟩:=hq
      refine ⟨(w:Int)::s,by simp [hs],⟨by omega,by have:=List.mem_range.1 hw;omega,by simpa using q1,fun u hu=>?_⟩,hg⟩
      have:=List.all_eq_true.1 q2 u (List.mem_range.2 hu)
      simpa [fitB] using this
    · rintro ⟨s,hs,hg⟩
      cases s with
      | nil=>cases hs
      | cons x s =>
        obtain ⟨⟨h1,h2,h3,h4⟩,h5⟩:=hg
        obtain ⟨w,rfl⟩:=Int.eq_ofNat_of_zero_le h1
        refine ⟨w,List.mem_range.2 (by omega),?_⟩
        rw [Bool.and_eq_true,Bool.and_eq_true,ih]
        refine ⟨⟨by simpa using h3,List.all_eq_true.2 fun u hu=>?_⟩,s,by simpa using hs,h5⟩
        have:=h4 u (List.mem_range.1 hu)
        simpa [fitB] using this
theorem fm_iff (g h:List (Int×Int)) (n:Nat):∀ (m:Nat) (to:List Int),fm g h n m to=true ↔ ∃ s:List Int,s.length=m∧Gd [] [] n to s∧isM g h (to++s)=true:=by
  intro m
  induction m with
  | zero =>
    intro to
    rw [fm]
    exact ⟨fun h=>⟨[],rfl,trivial,by rwa [List.append_nil]⟩,fun ⟨s,h1,_,h3⟩=>by
      have:=List.length_eq_zero_iff.1 h1
      subst this
      rwa [List.append_nil] at h3⟩
  | succ m ih =>
    intro to
    rw [fm,List.any_eq_true]
    constructor
    · rintro ⟨w,hw,hq⟩
      rw [Bool.and_eq_true,ih] at hq
      obtain ⟨q1,s,hs,hg,hi⟩:=hq
      refine ⟨(w:Int)::s,by simp [hs],⟨⟨by omega,by have:=List.mem_range.1 hw;omega,by simpa using q1,fun u hu=>rfl⟩,hg⟩,by rwa [List.append_assoc] at hi⟩
    · rintro ⟨s,hs,hg,hi⟩
      cases s with
      | nil=>cases hs
      | cons x s =>
        obtain ⟨⟨h1,h2,h3,h4⟩,h5⟩:=hg
        obtain ⟨w,rfl⟩:=Int.eq_ofNat_of_zero_le h1
        refine ⟨w,List.mem_range.2 (by omega),?_⟩
        rw [Bool.and_eq_true,ih]
        exact ⟨by simpa using h3,s,by simpa using hs,h5,by rw [List.append_assoc];exact hi⟩
theorem good_nil (g h:List (Int×Int)) (n:Nat):Good g h n []:=⟨by simp,by simp,fun u v _ hv=>by simp at hv⟩
theorem wk_good {g h:List (Int×Int)} {n:Nat}:wk g h n n []=true ↔ ∃ s:List Int,s.length=n∧Good g h n s:=by
  rw [wk_iff]
  constructor
  · rintro ⟨s,h1,h2⟩;exact ⟨s,h1,(Gd_good s [] (good_nil ..)).1 h2⟩
  · rintro ⟨s,h1,h2⟩;exact ⟨s,h1,(Gd_good s [] (good_nil ..)).2 h2⟩
theorem fm_good {g h:List (Int×Int)} {n:Nat}:fm g h n n []=true ↔ ∃ s:List Int,s.length=n∧Good [] [] n s∧isM g h s=true:=by
  rw [fm_iff]
  constructor
  · rintro ⟨s,h1,h2,h3⟩;exact ⟨s,h1,(Gd_good s [] (good_nil ..)).1 h2,h3⟩
  · rintro ⟨s,h1,h2,h3⟩;exact ⟨s,h1,(Gd_good s [] (good_nil ..)).2 h2,h3⟩
theorem Good.get {g h:List (Int×Int)} {n:Nat} {s:List Int} (q:Good g h n s) {u:Nat} (hu:u < s.length):s.getD u 0=s[u]∧s[u] ∈ s:=by
  exact ⟨by simp [List.getD_eq_getElem?_getD,List.getElem?_eq_getElem hu],List.getElem_mem hu⟩
theorem Good.inj {g h:List (Int×Int)} {n:Nat} {s:List Int} (q:Good g h n s) {u v:Nat} (hu:u < s.length) (hv:v < s.length) (he:s.getD u 0=s.getD v 0):u=v:=by
  rw [(q.get hu).1,(q.get hv).1] at he
  have hp:=List.pairwise_iff_getElem.1 q.nd
  by_cases h1:u < v
  · exact absurd he (hp u v hu hv h1)
  · by_cases h2:v < u
    · exact absurd he.symm (hp v u hv hu h2)
    · omega
theorem Good.all {g h:List (Int×Int)} {n:Nat} {s:List Int} (q:Good g h n s) (hs:s.length=n) {x:Nat} (hx:x < n):(x:Int) ∈ s:=by
  by_cases hm:(x:Int) ∈ s
  · exact hm
  · have h1:((x:Int)::s).Nodup:=List.nodup_cons.2 ⟨hm,q.nd⟩
    have h2:=len_sub (k:=(List.range n).map fun v:Nat=>(v:Int)) h1 fun y hy=>by
      rcases List.mem_cons.1 hy with rfl | hy
      · exact List.mem_map.2 ⟨x,List.mem_range.2 hx,rfl⟩
      · have:=q.lo y hy
        exact List.mem_map.2 ⟨y.toNat,List.mem_range.2 (by omega),by omega⟩
    simp at h2
    omega
def Iso (n:Nat) (g h:List (Int×Int)):Prop :=
  ∃ σ τ:Nat→Nat,(∀ u,u < n→σ u < n)∧(∀ u,u < n→τ u < n)∧(∀ u,u < n→τ (σ u)=u)∧(∀ u,u < n→σ (τ u)=u) ∧
    ∀ u v,u < n→v < n→u ≠ v→hasM g u v=hasM h (σ u) (σ v)
theorem Iso.refl (n:Nat) (g:List (Int×Int)):Iso n g g:=⟨id,id,fun _ h=>h,fun _ h=>h,fun _ _=>rfl,fun _ _=>rfl,fun _ _ _ _ _=>rfl⟩
theorem Iso.symm {n:Nat} {g h:List (Int×Int)}:Iso n g h→Iso n h g:=fun ⟨σ,τ,h1,h2,h3,h4,h5⟩ =>
  ⟨τ,σ,h2,h1,h4,h3,fun u v hu hv huv=>by
    have:=h5 (τ u) (τ v) (h2 u hu) (h2 v hv) fun h=>huv (by rw [← h4 u hu,h,h4 v hv])
    rw [h4 u hu,h4 v hv] at this
    exact this.symm⟩
theorem Iso.trans {n:Nat} {g h k:List (Int×Int)}:Iso n g h→Iso n h k→Iso n g k:=fun ⟨σ,τ,h1,h2,h3,h4,h5⟩ ⟨σ',τ',k1,k2,k3,k4,k5⟩ =>
  ⟨fun u=>σ' (σ u),fun u=>τ (τ' u),fun u hu=>k1 _ (h1 u hu),fun u hu=>h2 _ (k2 u hu),fun u hu=>by show τ (τ' (σ' (σ u)))=u;rw [k3 _ (h1 u hu),h3 u hu],fun u hu=>by show σ' (σ (τ (τ' u)))=u;rw [h4 _ (k2 u hu),k4 u hu],fun u v hu hv huv=>by
    rw [h5 u v hu hv huv,k5 _ _ (h1 u hu) (h1 v hv) fun h=>huv (by rw [← h3 u hu,h,h3 v hv])]⟩
theorem good_iso {n:Nat} {g h:List (Int×Int)}:(∃ s:List Int,s.length=n∧Good g h n s) ↔ Iso n g h:=by
  constructor
  · rintro ⟨s,hs,q⟩
    have b:∀ u,u < n→((s.getD u 0).toNat:Int)=s.getD u 0∧(s.getD u 0).toNat < n∧s.getD u 0 ∈ s:=fun u hu=>by
      obtain ⟨h1,h2⟩:=q.get (u:=u) (by omega)
      have:=q.lo _ h2
      rw [h1]
      exact ⟨by omega,by omega,h2⟩
    have c:∀ x:Nat,x < n→s.idxOf (x:Int) < n∧s.getD (s.idxOf (x:Int)) 0=x:=fun x hx=>by
      have hm:=q.all hs hx
      have h1:=List.idxOf_lt_length_of_mem hm
      refine ⟨by omega,?_⟩
      rw [(q.get h1).1,List.getElem_idxOf]
    refine ⟨fun u=>(s.getD u 0).toNat,fun x=>s.idxOf (x:Int),fun u hu=>(b u hu).2.1,fun x hx=>(c x hx).1,fun u hu=>?_,fun x hx=>?_,fun u v hu hv huv=>?_⟩
    · have h1:=(b u hu).1
      have h2:=(b u hu).2.1
      have h3:=c _ h2
      rw [h1] at h3
      show s.idxOf (((s.getD u 0).toNat:Nat):Int)=u
      rw [h1]
      exact q.inj (by omega) (by omega) h3.2
    · show (s.getD (s.idxOf (x:Int)) 0).toNat=x
      rw [(c x hx).2];omega
    · show hasM g u v=hasM h (((s.getD u 0).toNat:Nat):Int) (((s.getD v 0).toNat:Nat):Int)
      rw [(b u hu).1,(b v hv).1]
      by_cases h1:u < v
      · exact q.ok u v h1 (by omega)
      · rw [hasM_commU g,hasM_commU h]
        exact q.ok v u (by omega) (by omega)
  · rintro ⟨σ,τ,h1,h2,h3,h4,h5⟩
    have hg:∀ u,u < n→((List.range n).map fun u=>((σ u:Nat):Int)).getD u 0=σ u:=fun u hu=>by
      simp [List.getD_eq_getElem?_getD,hu]
    refine ⟨(List.range n).map fun u=>((σ u:Nat):Int),by simp,?_,fun x hx=>?_,fun u v huv hv=>?_⟩
    · rw [List.Nodup,List.pairwise_map]
      refine List.pairwise_iff_getElem.2 fun i j hi hj hij=>?_
      simp only [List.getElem_range]
      simp only [List.length_range] at hi hj
      intro he
      have he2:σ i=σ j:=by omega
      have:=h3 i hi
      rw [he2,h3 j hj] at this
      omega
    · obtain ⟨u,hu,rfl⟩:=List.mem_map.1 hx
      have:=h1 u (List.mem_range.1 hu)
      omega
    · simp only [List.length_map,List.length_range] at hv
      rw [hg u (by omega),hg v hv]
      exact h5 u v (by omega) hv (by omega)
theorem wk_iso {n:Nat} {g h:List (Int×Int)}:wk g h n n []=true ↔ Iso n g h:=by rw [wk_good,good_iso]
theorem hasM_has {h:List (Int×Int)} {n:Nat} (hh:∀ e ∈ h,e ∈ prs n) (a b:Int):has h a b=hasM h a b:=by
  rw [Bool.eq_iff_iff,hasM_iff,has,List.any_eq_true]
  constructor
  · rintro ⟨e,he,hq⟩
    have:=mem_prs.1 (hh e he)
    simp only [isE,Bool.or_eq_true,Bool.and_eq_true,decide_eq_true_eq] at hq
    have:e=(min a b,max a b):=Prod.ext (by simp only;omega) (by simp only;omega)
    rwa [← this]
  · intro he
    refine ⟨_,he,?_⟩
    simp only [isE,Bool.or_eq_true,Bool.and_eq_true,decide_eq_true_eq]
    omega
theorem fm_wk {n:Nat} {g h:List (Int×Int)} (hg:vGraph n g=true) (hh:vGraph n h=true) (hl:g.length=h.length):fm g h n n []=wk g h n n []:=by
  have gi:=(vG_iff.1 hg).2.1
  have hi:=(vG_iff.1 hh).2.1
  rw [Bool.eq_iff_iff,fm_good,wk_good]
  constructor
  · rintro ⟨s,hs,q,hm⟩
    rw [isM,Bool.and_eq_true,List.all_eq_true] at hm
    refine ⟨s,hs,q.nd,q.lo,fun u v huv hv=>?_⟩
    have key:∀ e ∈ g,(min (s.getD e.1.toNat 0) (s.getD e.2.toNat 0),max (s.getD e.1.toNat 0) (s.getD e.2.toNat 0)) ∈ h:=fun e he=>by
      have:=hm.1 e he
      rwa [hasM_has hi,hasM_iff] at this
    have he1:((min (u:Int) v,max (u:Int) v):Int×Int)=((u:Int),(v:Int)):=Prod.ext (by simp only;omega) (by simp only;omega)
    rw [Bool.eq_iff_iff,hasM_iff,hasM_iff,he1]
    constructor
    · intro he
      have:=key _ he
      simpa using this
    · intro he
      by_cases hmem:((u:Int),(v:Int)) ∈ g
      · exact hmem
      exfalso
      have hp:∀ e ∈ ((u:Int),(v:Int))::g,0≤e.1∧e.1 < e.2∧e.2 < (n:Int):=fun e he=>by
        rcases List.mem_cons.1 he with rfl | he
        · simp only;omega
        · exact mem_prs.1 (gi e he)
      have hlen:=len_inj (k:=h) (fun e:Int×Int=>(min (s.getD e.1.toNat 0) (s.getD e.2.toNat 0),max (s.getD e.1.toNat 0) (s.getD e.2.toNat 0))) (List.nodup_cons.2 ⟨hmem,pw_nodup (vG_iff.1 hg).1⟩)
        (fun x hx y hy hxy=>by
          have p1:=hp x hx
          have p2:=hp y hy
          have e1:=congrArg Prod.fst hxy
          have e2:=congrArg Prod.snd hxy
          simp only at e1 e2
          have i1:=fun k=>q.inj (u:=x.1.toNat) (v:=k) (by omega)
          have i2:=fun k=>q.inj (u:=x.2.toNat) (v:=k) (by omega)
          have d1:s.getD x.1.toNat 0=s.getD y.1.toNat 0∧s.getD x.2.toNat 0=s.getD y.2.toNat 0 ∨ s.getD x.1.toNat 0=s.getD y.2.toNat 0∧s.getD x.2.toNat 0=s.getD y.1.toNat 0:=by omega
          rcases d1 with ⟨d1,d2⟩ | ⟨d1,d2⟩
          · have:=i1 _ (by omega) d1
            have:=i2 _ (by omega) d2
            exact Prod.ext (by omega) (by omega)
          · have:=i1 _ (by omega) d1
            have:=i2 _ (by omega) d2
            omega)
        (fun x hx=>by
          rcases List.mem_cons.1 hx with rfl | hx
          · simpa using he
          · exact key x hx)
      simp only [List.length_cons] at hlen
      omega
  · rintro ⟨s,hs,q⟩
    refine ⟨s,hs,⟨q.nd,q.lo,fun _ _ _ _=>rfl⟩,?_⟩
    rw [isM,Bool.and_eq_true,List.all_eq_true]
    refine ⟨fun e he=>?_,by simpa using hl⟩
    have hb:=mem_prs.1 (gi e he)
    rw [hasM_has hi,← q.ok e.1.toNat e.2.toNat (by omega) (by omega),hasM_iff]
    have:((min ((e.1.toNat:Nat):Int) ((e.2.toNat:Nat):Int),max ((e.1.toNat:Nat):Int) ((e.2.toNat:Nat):Int)):Int×Int)=e:=Prod.ext (by simp only;omega) (by simp only;omega)
    rwa [this]
theorem uni_iff {n:Nat} {G:List (List (Int×Int))}:uni n G=true ↔ G ≠ []∧∀ g ∈ G,∀ h ∈ G,Iso n g h:=by
  cases G with
  | nil=>simp [uni]
  | cons g G =>
    rw [uni,List.all_eq_true]
    constructor
    · intro q
      refine ⟨by simp,fun x hx y hy=>?_⟩
      exact (wk_iso.1 (q x hx)).symm.trans (wk_iso.1 (q y hy))
    · rintro ⟨-,q⟩ x hx
      exact wk_iso.2 (q g (by simp) x hx)
theorem compM_iso {n:Nat} {g h:List (Int×Int)}:Iso n g h→Iso n (compM n g) (compM n h):=fun ⟨σ,τ,h1,h2,h3,h4,h5⟩ =>
  ⟨σ,τ,h1,h2,h3,h4,fun u v hu hv huv=>by
    have one:∀ (k:List (Int×Int)) (a b:Nat),a < n→b < n→a ≠ b→hasM (compM n k) a b=!hasM k a b:=fun k a b ha hb hab=>by
      have hm:=mk_mem ha hb hab
      rw [hasM_mkU,hasM_mkU,Bool.eq_iff_iff,decide_eq_true_eq,compM,List.mem_filter,hasM_mem hm]
      exact ⟨fun h=>h.2,fun h=>⟨hm,h⟩⟩
    rw [one g u v hu hv huv,one h _ _ (h1 u hu) (h1 v hv) fun hq=>huv (by rw [← h3 u hu,hq,h3 v hv]),h5 u v hu hv huv]⟩
theorem uni_compI {d:List Int} (h7:d.length≤7) (hu:uni d.length (reals d)=true):uni (comp d).length (reals (comp d))=true:=by
  rw [uni_iff] at hu ⊢
  have h7':(comp d).length≤7:=by rw [comp_len];exact h7
  obtain ⟨h1,h2⟩:=hu
  have up:∀ g ∈ reals d,compM d.length g ∈ reals (comp d):=fun g hg=>by
    obtain ⟨k1,k2⟩:=(mem_reals h7 g).1 hg
    refine (mem_reals h7' _).2 ?_
    rw [comp_len]
    exact ⟨compM_vG h7 g,by rw [degs_compM k1,k2]⟩
  have dn:∀ g ∈ reals (comp d),compM d.length g ∈ reals d∧compM d.length (compM d.length g)=g:=fun g hg=>by
    obtain ⟨k1,k2⟩:=(mem_reals h7' g).1 hg
    rw [comp_len] at k1 k2
    refine ⟨(mem_reals h7 _).2 ⟨compM_vG h7 g,by rw [degs_compM k1,k2,comp_twice]⟩,compM_twice k1⟩
  refine ⟨?_,fun g hg h hh=>?_⟩
  · obtain ⟨g,hg⟩:=List.exists_mem_of_ne_nil _ h1
    exact List.ne_nil_of_mem (up g hg)
  · have a1:=dn g hg
    have a2:=dn h hh
    have:=compM_iso (h2 _ a1.1 _ a2.1)
    rw [a1.2,a2.2] at this
    rw [comp_len];exact this
theorem uni_comp {d:List Int} (h7:d.length≤7):uni (comp d).length (reals (comp d))=uni d.length (reals d):=by
  rw [Bool.eq_iff_iff]
  refine ⟨fun h=>?_,uni_compI h7⟩
  have:=uni_compI (d:=comp d) (by rw [comp_len];exact h7) h
  rwa [comp_twice] at this
theorem uni_thr {d:List Int} (hv:valid d=true) (h:thr d=true):uni d.length (reals d)=true:=by
  have h1:=thr_one hv h
  obtain ⟨g,hg⟩:=List.length_eq_one_iff.1 h1
  rw [hg,uni_iff]
  refine ⟨by simp,fun x hx y hy=>?_⟩
  simp only [List.mem_singleton] at hx hy
  rw [hx,hy];exact Iso.refl _ _
theorem uni_graphic {d:List Int} (h7:d.length≤7) (h:uni d.length (reals d)=true):graphic d=true:=by
  rw [reals_some h7]
  cases hr:reals d with
  | nil=>rw [hr] at h;cases h
  | cons g G=>rfl
end Go.Idl
namespace Go.Idl
open Go
theorem alk_loop (n:Nat) (hn:n≤7) (R:GF) (hR:∀ x ∈ R,vGraph n x.1=true) (D:List Int) (hD:∀ x ∈ R,degs n x.1=D) (hRl:R.length≤2000000) (g:List (Int×Int)) (cg:Bool) (h0:R[0]? = some (g,cg)):∀ (m i:Nat),i+m=R.length →
    wp tb (.loop z574l9) { T:=[(3,.own 2 (glf n R)),(4,I i)],loc:=[],M:=[] }
      (fun ex st=>(ex=.exit 0∧((R.drop i).all fun x=>wk g x.1 n n [])=true∧st={ T:=[(3,.own 2 (glf n R)),(4,I R.length),(18,Bo false)],loc:=[],M:=[] }) ∨
        ex=.ret∧((R.drop i).all fun x=>wk g x.1 n n [])=false∧st={ T:=[(2,Bo false)],loc:=[],M:=[] }):=by
  intro m
  induction m with
  | zero =>
    intro i hi
    have h3:i=R.length:=hi
    subst h3
    refine wp_loop ?_
    repeat (first|apply wp_as|apply wp_ss|refine wr (by simp;with_reducible rfl) ?_|refine wq (by simp;with_reducible rfl) ?_|refine wt (by simpa) ?_|refine wf (by simpa) ?_|refine xt (by simpa) ?_|refine xf (by simpa) ?_|apply wp_bs|apply wp_b|refine wp_sr ?_|refine wp_sx ?_|refine wp_ret' ?_|refine wp_skip' ?_|refine wp_exit' ?_)
    exact .inl ⟨rfl,by simp,rfl⟩
  | succ m ih =>
    intro i hi
    have hi2:i < R.length:=by omega
    have hz:0 < R.length:=by omega
    have w2:IntKind.i64.wrap ((i:Int)+1)=((i+1:Nat):Int):=wrapS (by omega)
    have hd:R.drop i=R[i]::R.drop (i+1):=List.drop_eq_getElem_cons hi2
    obtain ⟨⟨h,ch⟩,hx⟩:∃ x,x=R[i]:=⟨_,rfl⟩
    have hx2:=hx.symm
    have hg0:R[0]=(g,cg):=by
      rw [List.getElem?_eq_getElem hz] at h0
      exact Option.some.inj h0
    have m1:(g,cg) ∈ R:=hg0 ▸ List.getElem_mem hz
    have m2:(h,ch) ∈ R:=hx2 ▸ List.getElem_mem hi2
    have v1:vGraph n g=true:=hR _ m1
    have v2:vGraph n h=true:=hR _ m2
    have l1:=vG21 hn v1
    have l2:=vG21 hn v2
    have i1:=(vG_iff.1 v1).2.1
    have i2:=(vG_iff.1 v2).2.1
    have hdd:degs n g=degs n h:=by rw [hD _ m1,hD _ m2]
    have hll:g.length=h.length:=by
      have s1:=degs_sum i1
      have s2:=degs_sum i2
      rw [hdd,s2] at s1
      omega
    have e1:=fun c1 c2=>ev_lim (ev_alike n g h c1 c2 hn l1 l2 (fun e he=>by have:=mem_prs.1 (i1 e he);omega) (fun e he=>by have:=mem_prs.1 (i2 e he);omega) hll hdd)
    rw [fm_wk v1 v2 hll] at e1
    rw [hd,hx2,List.all_cons]
    simp only
    cases hv:wk g h n n [] with
    | true =>
      rw [hv] at e1
      refine wp_loop ?_
      repeat (first|apply wp_as|apply wp_ss|refine wr (by simp [hi2,hz,hg0,hx2,e1,w2];with_reducible rfl) ?_|refine wq (by simp [hi2,hz,hg0,hx2,e1,w2];with_reducible rfl) ?_|refine wt (by simpa [hi2,hz,hg0,hx2,e1,w2]) ?_|refine wf (by simpa [hi2,hz,hg0,hx2,e1,w2]) ?_|refine xt (by simpa [hi2,hz,hg0,hx2,e1,w2]) ?_|refine xf (by simpa [hi2,hz,hg0,hx2,e1,w2]) ?_|apply wp_bs|apply wp_b|refine wp_sr ?_|refine wp_sx ?_|refine wp_ret' ?_|refine wp_skip' ?_|refine wp_exit' ?_)
      simpa using ih (i+1) (by omega)
    | false =>
      rw [hv] at e1
      refine wp_loop ?_
      repeat (first|apply wp_as|apply wp_ss|refine wr (by simp [hi2,hz,hg0,hx2,e1,w2];with_reducible rfl) ?_|refine wq (by simp [hi2,hz,hg0,hx2,e1,w2];with_reducible rfl) ?_|refine wt (by simpa [hi2,hz,hg0,hx2,e1,w2]) ?_|refine wf (by simpa [hi2,hz,hg0,hx2,e1,w2]) ?_|refine xt (by simpa [hi2,hz,hg0,hx2,e1,w2]) ?_|refine xf (by simpa [hi2,hz,hg0,hx2,e1,w2]) ?_|apply wp_bs|apply wp_b|refine wp_sr ?_|refine wp_sx ?_|refine wp_ret' ?_|refine wp_skip' ?_|refine wp_exit' ?_)
      exact .inr ⟨rfl,rfl,rfl⟩
theorem ev_spec_IsUnigraph_no (d:List Int) (c:Bool) (hl:d.length≤2000000) (h:(valid d && decide ((d.length:Int)≤5))=false):Ev tb zl574 [] [L d c] [] ⟨Bo false,[],[],[]⟩:=by
  have v1:=ev_lim (ev_validDegrees d c hl)
  cases hv:valid d with
  | false =>
    rw [hv] at v1
    refine call_of_wp zt574 rfl ?_
    repeat (first|apply wp_as|apply wp_ss|refine wr (by simp [v1];with_reducible rfl) ?_|refine wq (by simp [v1];with_reducible rfl) ?_|refine wt (by simpa [v1]) ?_|refine wf (by simpa [v1]) ?_|refine xt (by simpa [v1]) ?_|refine xf (by simpa [v1]) ?_|apply wp_bs|apply wp_b|refine wp_sr ?_|refine wp_sx ?_|refine wp_ret' ?_|refine wp_skip' ?_|refine wp_exit' ?_)
    simp [zi574]
  | true =>
    rw [hv] at v1 h
    have h5:(5:Int) < d.length:=by simp at h;omega
    have h5':5 < d.length:=by omega
    refine call_of_wp zt574 rfl ?_
    repeat (first|apply wp_as|apply wp_ss|refine wr (by simp [v1,h5,h5'];with_reducible rfl) ?_|refine wq (by simp [v1,h5,h5'];with_reducible rfl) ?_|refine wt (by simpa [v1,h5,h5']) ?_|refine wf (by simpa [v1,h5,h5']) ?_|refine xt (by simpa [v1,h5,h5']) ?_|refine xf (by simpa [v1,h5,h5']) ?_|apply wp_bs|apply wp_b|refine wp_sr ?_|refine wp_sx ?_|refine wp_ret' ?_|refine wp_skip' ?_|refine wp_exit' ?_)
    simp [zi574]
theorem ev_spec_IsUnigraph (d:List Int) (c:Bool) (hv:valid d=true) (h5:d.length≤5):Ev tb zl574 [] [L d c] [] ⟨Bo (uni d.length (reals d)),[],[],[]⟩:=by
  have v1:=ev_lim (ev_validDegrees d c (by omega))
  rw [hv] at v1
  obtain ⟨R,hR,E⟩:=ev_realizations d c hv
  rw [srS_reals hv] at hR
  have e1:=ev_lim E
  have h6:¬ (5:Int) < d.length:=by omega
  have h6':¬ 5 < d.length:=by omega
  have hmem:∀ x ∈ R,x.1 ∈ reals d:=fun x hx=>by rw [← hR];exact List.mem_map_of_mem hx
  have hRv:∀ x ∈ R,vGraph d.length x.1=true:=fun x hx=>((mem_reals (by omega) x.1).1 (hmem x hx)).1
  have hRd:∀ x ∈ R,degs d.length x.1=d:=fun x hx=>((mem_reals (by omega) x.1).1 (hmem x hx)).2
  have hRl:R.length≤2000000:=by
    have h0:R.length=(reals d).length:=by rw [← hR,List.length_map]
    have h1:=subs_len (prs d.length) d []
    have h2:(prs d.length).length≤10:=by
      have:∀ n,n≤5→(prs n).length≤10:=by decide +kernel
      exact this _ h5
    have h6:2 ^ (prs d.length).length≤2 ^ 10:=Nat.pow_le_pow_right (by omega) h2
    have h7:(2:Nat) ^ 10=1024:=by decide
    have h8:(reals d).length≤2 ^ (prs d.length).length:=h1
    omega
  rw [← hR]
  cases R with
  | nil =>
    refine call_of_wp zt574 rfl ?_
    repeat (first|apply wp_as|apply wp_ss|refine wr (by simp [v1,h6,h6',e1];with_reducible rfl) ?_|refine wq (by simp [v1,h6,h6',e1];with_reducible rfl) ?_|refine wt (by simpa [v1,h6,h6',e1]) ?_|refine wf (by simpa [v1,h6,h6',e1]) ?_|refine xt (by simpa [v1,h6,h6',e1]) ?_|refine xf (by simpa [v1,h6,h6',e1]) ?_|apply wp_bs|apply wp_b|refine wp_sr ?_|refine wp_sx ?_|refine wp_ret' ?_|refine wp_skip' ?_|refine wp_exit' ?_)
    refine wp_loop ?_
    repeat (first|apply wp_as|apply wp_ss|refine wr (by simp;with_reducible rfl) ?_|refine wq (by simp;with_reducible rfl) ?_|refine wt (by simpa) ?_|refine wf (by simpa) ?_|refine xt (by simpa) ?_|refine xf (by simpa) ?_|apply wp_bs|apply wp_b|refine wp_sr ?_|refine wp_sx ?_|refine wp_ret' ?_|refine wp_skip' ?_|refine wp_exit' ?_)
    simp [zi574,uni]
  | cons x R =>
    obtain ⟨g,cg⟩:=x
    have l0:=alk_loop d.length (by omega) ((g,cg)::R) hRv d hRd hRl g cg rfl R.length 1 (by simp;omega)
    rw [show ((1:Nat):Int)=1 from rfl,show ((g,cg)::R).drop 1=R from rfl] at l0
    have hu:uni d.length (((g,cg)::R).map Prod.fst)=R.all fun x=>wk g x.1 d.length d.length []:=by
      rw [List.map_cons,uni,List.all_cons,wk_iso.2 (Iso.refl _ _),Bool.true_and,List.all_map];rfl
    have hlen:0 < ((g,cg)::R).length:=by simp
    rw [hu]
    generalize (R.all fun x=>wk g x.1 d.length d.length [])=b at *
    generalize (g,cg)::R=RR at *
    refine call_of_wp zt574 rfl ?_
    repeat (first|apply wp_as|apply wp_ss|refine wr (by simp [v1,h6,h6',e1];with_reducible rfl) ?_|refine wq (by simp [v1,h6,h6',e1];with_reducible rfl) ?_|refine wt (by simpa [v1,h6,h6',e1]) ?_|refine wf (by simpa [v1,h6,h6',e1]) ?_|refine xt (by simpa [v1,h6,h6',e1]) ?_|refine xf (by simpa [v1,h6,h6',e1]) ?_|apply wp_bs|apply wp_b|refine wp_sr ?_|refine wp_sx ?_|refine wp_ret' ?_|refine wp_skip' ?_|refine wp_exit' ?_)
    refine wp_imp l0 ?_
    rintro ex st (⟨rfl,h1,rfl⟩ | ⟨rfl,h1,rfl⟩)
    · subst h1
      simp only [if_true]
      repeat (first|apply wp_as|apply wp_ss|refine wr (by simp [hlen];with_reducible rfl) ?_|refine wq (by simp [hlen];with_reducible rfl) ?_|refine wt (by simpa [hlen]) ?_|refine wf (by simpa [hlen]) ?_|refine xt (by simpa [hlen]) ?_|refine xf (by simpa [hlen]) ?_|apply wp_bs|apply wp_b|refine wp_sr ?_|refine wp_sx ?_|refine wp_ret' ?_|refine wp_skip' ?_|refine wp_exit' ?_)
      simp [zi574]
    · subst h1
      simp [zi574]
theorem ev_DrawIsUnigraph (code:List Int) (c:Bool) (h:∀ x ∈ code,0≤x∧x≤255) (hl:code.length≤10000000) :
    ∃ d:List Int,d.length≤8∧Low 1000 d∧limF tb zl563 [] [.lst 1 (bytes code) c] []=some ⟨O d,[],[],[]⟩:=by
  obtain ⟨c',e⟩:=ev_newReader code c [[]] (by omega)
  have e1:=ev_lim e
  obtain ⟨d,k,h1,h2,h3,e2⟩:=ev_fewDegrees (code.take 2000) c' (code_ok h) 0 (by omega) [] []
  refine ⟨d,h1,h2,ev_lim ?_⟩
  rw [show ((0:Nat):Int)=0 from rfl] at e2
  refine call_of_wp zt563 rfl ?_
  repeat (first|apply wp_as|apply wp_ss|refine wr (by simp [e1,e2];with_reducible rfl) ?_|refine wq (by simp [e1,e2];with_reducible rfl) ?_|refine wt (by simpa [e1,e2]) ?_|refine wf (by simpa [e1,e2]) ?_|refine xt (by simpa [e1,e2]) ?_|refine xf (by simpa [e1,e2]) ?_|apply wp_bs|apply wp_b|refine wp_sr ?_|refine wp_sx ?_|refine wp_ret' ?_|refine wp_skip' ?_|refine wp_exit' ?_)
  simp [zi563]
theorem ev_IsUnigraph_no (d:List Int) (c:Bool) (hl:d.length≤2000000) (h:(valid d && decide ((d.length:Int)≤5))=false):Ev tb zl511 [] [L d c] [] ⟨Bo false,[],[],[]⟩:=by
  have e3:=ev_lim (ev_AllRealizations_no d c hl h)
  refine call_of_wp zt511 rfl ?_
  repeat (first|apply wp_as|apply wp_ss|refine wr (by simp [e3];with_reducible rfl) ?_|refine wq (by simp [e3];with_reducible rfl) ?_|refine wt (by simpa [e3]) ?_|refine wf (by simpa [e3]) ?_|refine xt (by simpa [e3]) ?_|refine xf (by simpa [e3]) ?_|apply wp_bs|apply wp_b|refine wp_sr ?_|refine wp_sx ?_|refine wp_ret' ?_|refine wp_skip' ?_|refine wp_exit' ?_)
  simp [zi511]
theorem ev_FnIsUnigraph (code:List Int) (cl:Bool) (h:∀ x ∈ code,0≤x∧x≤255):Ev tb zl534 [] [.lst 1 (bytes code) cl] [] ⟨Bo true,[],[],[]⟩:=by
  by_cases hc:(1048576:Int) < code.length
  · have hc2:1048576 < code.length:=by omega
    refine call_of_wp zt534 rfl ?_
    repeat (first|apply wp_as|apply wp_ss|refine wr (by simp [hc,hc2];with_reducible rfl) ?_|refine wq (by simp [hc,hc2];with_reducible rfl) ?_|refine wt (by simpa [hc,hc2]) ?_|refine wf (by simpa [hc,hc2]) ?_|refine xt (by simpa [hc,hc2]) ?_|refine xf (by simpa [hc,hc2]) ?_|apply wp_bs|apply wp_b|refine wp_sr ?_|refine wp_sx ?_|refine wp_ret' ?_|refine wp_skip' ?_|refine wp_exit' ?_)
    simp [zi534]
  have hc2:¬ 1048576 < code.length:=by omega
  obtain ⟨d,hd8,hlow,e1⟩:=ev_DrawIsUnigraph code cl h (by omega)
  obtain ⟨cl',hcl⟩:∃ x,x=cl:=⟨_,rfl⟩
  have hdt:d.take d.length=d:=List.take_of_length_le (Nat.le_refl _)
  have v1:=fun c=>ev_lim (ev_ValidDegrees d c (by omega))
  cases hq:(valid d && decide ((d.length:Int)≤5)) with
  | false =>
    have e2:=fun c=>ev_lim (ev_IsUnigraph_no d c (by omega) hq)
    have e3:=fun c=>ev_lim (ev_spec_IsUnigraph_no d c (by omega) hq)
    cases hv:valid d with
    | false =>
      rw [hv] at v1
      refine call_of_wp zt534 rfl ?_
      repeat (first|apply wp_as|apply wp_ss|refine wr (by simp [hc,hc2,e1,hdt,e2,e3,v1];with_reducible rfl) ?_|refine wq (by simp [hc,hc2,e1,hdt,e2,e3,v1];with_reducible rfl) ?_|refine wt (by simpa [hc,hc2,e1,hdt,e2,e3,v1]) ?_|refine wf (by simpa [hc,hc2,e1,hdt,e2,e3,v1]) ?_|refine xt (by simpa [hc,hc2,e1,hdt,e2,e3,v1]) ?_|refine xf (by simpa [hc,hc2,e1,hdt,e2,e3,v1]) ?_|apply wp_bs|apply wp_b|refine wp_sr ?_|refine wp_sx ?_|refine wp_ret' ?_|refine wp_skip' ?_|refine wp_exit' ?_)
      simp [zi534]
    | true =>
      rw [hv] at v1 hq
      have h5:(5:Int) < d.length:=by simp at hq;omega
      have h5':5 < d.length:=by omega
      refine call_of_wp zt534 rfl ?_
      repeat (first|apply wp_as|apply wp_ss|refine wr (by simp [hc,hc2,e1,hdt,e2,e3,v1,h5,h5'];with_reducible rfl) ?_|refine wq (by simp [hc,hc2,e1,hdt,e2,e3,v1,h5,h5'];with_reducible rfl) ?_|refine wt (by simpa [hc,hc2,e1,hdt,e2,e3,v1,h5,h5']) ?_|refine wf (by simpa [hc,hc2,e1,hdt,e2,e3,v1,h5,h5']) ?_|refine xt (by simpa [hc,hc2,e1,hdt,e2,e3,v1,h5,h5']) ?_|refine xf (by simpa [hc,hc2,e1,hdt,e2,e3,v1,h5,h5']) ?_|apply wp_bs|apply wp_b|refine wp_sr ?_|refine wp_sx ?_|refine wp_ret' ?_|refine wp_skip' ?_|refine wp_exit' ?_)
      simp [zi534]
  | true =>
    simp only [Bool.and_eq_true,decide_eq_true_eq] at hq
    obtain ⟨hv,hl5⟩:=hq
    have hl5':d.length≤5:=by omega
    have h5:¬ (5:Int) < d.length:=by omega
    have h5':¬ 5 < d.length:=by omega
    rw [hv] at v1
    have e2:=fun c=>ev_lim (ev_IsUnigraph d c hv hl5')
    have e3:=fun c=>ev_lim (ev_spec_IsUnigraph d c hv hl5')
    have e4:=fun c=>ev_lim (ev_Complement d c hv)
    have hcv:=comp_valid hv
    have hcl:(comp d).length=d.length:=comp_len d
    have e5:=fun c=>ev_lim (ev_IsUnigraph (comp d) c hcv (by omega))
    rw [uni_comp (by omega)] at e5
    have hct:(comp d).take (comp d).length=comp d:=List.take_of_length_le (Nat.le_refl _)
    have hct2:(comp d).take d.length=comp d:=List.take_of_length_le (by omega)
    have e6:=fun c=>ev_lim (ev_IsThreshold d c (by omega))
    have e7:=fun c=>ev_lim (ev_IsGraphic d c (by omega))
    have k1:=@uni_thr d hv
    have k2:=@uni_graphic d (by omega)
    cases hu:uni d.length (reals d) with
    | true =>
      rw [k2 hu] at e7
      rw [hu] at e2 e3 e5
      cases ht:thr d with
      | true =>
        rw [ht] at e6
        refine call_of_wp zt534 rfl ?_
        repeat (first|apply wp_as|apply wp_ss|refine wr (by simp [hc,hc2,e1,hdt,e2,e3,v1,h5,h5',e4,e5,e6,e7,hct];with_reducible rfl) ?_|refine wq (by simp [hc,hc2,e1,hdt,e2,e3,v1,h5,h5',e4,e5,e6,e7,hct];with_reducible rfl) ?_|refine wt (by simpa [hc,hc2,e1,hdt,e2,e3,v1,h5,h5',e4,e5,e6,e7,hct]) ?_|refine wf (by simpa [hc,hc2,e1,hdt,e2,e3,v1,h5,h5',e4,e5,e6,e7,hct]) ?_|refine xt (by simpa [hc,hc2,e1,hdt,e2,e3,v1,h5,h5',e4,e5,e6,e7,hct]) ?_|refine xf (by simpa [hc,hc2,e1,hdt,e2,e3,v1,h5,h5',e4,e5,e6,e7,hct]) ?_|apply wp_bs|apply wp_b|refine wp_sr ?_|refine wp_sx ?_|refine wp_ret' ?_|refine wp_skip' ?_|refine wp_exit' ?_)
        simp [zi534]
      | false =>
        rw [ht] at e6
        refine call_of_wp zt534 rfl ?_
        repeat (first|apply wp_as|apply wp_ss|refine wr (by simp [hc,hc2,e1,hdt,e2,e3,v1,h5,h5',e4,e5,e6,e7,hct];with_reducible rfl) ?_|refine wq (by simp [hc,hc2,e1,hdt,e2,e3,v1,h5,h5',e4,e5,e6,e7,hct];with_reducible rfl) ?_|refine wt (by simpa [hc,hc2,e1,hdt,e2,e3,v1,h5,h5',e4,e5,e6,e7,hct]) ?_|refine wf (by simpa [hc,hc2,e1,hdt,e2,e3,v1,h5,h5',e4,e5,e6,e7,hct]) ?_|refine xt (by simpa [hc,hc2,e1,hdt,e2,e3,v1,h5,h5',e4,e5,e6,e7,hct]) ?_|refine xf (by simpa [hc,hc2,e1,hdt,e2,e3,v1,h5,h5',e4,e5,e6,e7,hct]) ?_|apply wp_bs|apply wp_b|refine wp_sr ?_|refine wp_sx ?_|refine wp_ret' ?_|refine wp_skip' ?_|refine wp_exit' ?_)
        simp [zi534]
    | false =>
      have ht:thr d=false:=by
        cases ht:thr d with
        | false=>rfl
        | true=>rw [k1 ht] at hu;cases hu
      rw [hu] at e2 e3 e5
      rw [ht] at e6
      refine call_of_wp zt534 rfl ?_
      repeat (first|apply wp_as|apply wp_ss|refine wr (by simp [hc,hc2,e1,hdt,e2,e3,v1,h5,h5',e4,e5,e6,hct];with_reducible rfl) ?_|refine wq (by simp [hc,hc2,e1,hdt,e2,e3,v1,h5,h5',e4,e5,e6,hct];with_reducible rfl) ?_|refine wt (by simpa [hc,hc2,e1,hdt,e2,e3,v1,h5,h5',e4,e5,e6,hct]) ?_|refine wf (by simpa [hc,hc2,e1,hdt,e2,e3,v1,h5,h5',e4,e5,e6,hct]) ?_|refine xt (by simpa [hc,hc2,e1,hdt,e2,e3,v1,h5,h5',e4,e5,e6,hct]) ?_|refine xf (by simpa [hc,hc2,e1,hdt,e2,e3,v1,h5,h5',e4,e5,e6,hct]) ?_|apply wp_bs|apply wp_b|refine wp_sr ?_|refine wp_sx ?_|refine wp_ret' ?_|refine wp_skip' ?_|refine wp_exit' ?_)
      simp [zi534]
end Go.Idl
