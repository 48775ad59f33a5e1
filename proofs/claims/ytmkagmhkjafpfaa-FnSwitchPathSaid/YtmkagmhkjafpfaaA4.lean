/- Part 4 of a proof by an ideal interpreter of the code: its definitions and lemmas. Conditions: none. -/
import Derived.Test.YtmkagmhkjafpfaaA3
set_option linter.all false
set_option linter.unusedVariables false
set_option linter.unusedSimpArgs false
namespace Go.Idl
open Go
def Ev (tb:Tbl) (f:Lab) (lent:List Nat) (args:List IV) (M:List Qae) (r:Ret):Prop:=∃ N,∀ n,N≤n→Qch tb n f lent args M=some r
open Classical in
noncomputable def Qcb (tb:Tbl):CF:=fun f lent args M=>if h:∃ r,Ev tb f lent args M r then some (Classical.choose h) else none
def WO (tb:Tbl) (ops:List IOp) (st:St) (Q:St→Prop):Prop:=∃ st',Qag (Qcb tb) st ops=some st'∧Q st'
def Qno (step:St→(Ex→St→Prop)→Prop) (Q:Ex→St→Prop):Nat→St→Prop
 | 0,_=>False
 | k+1,st=>step st fun ex st'=>match ex with
   | .normal=>Qno step Q k st'
   | e=>Q e st'
def Jam (x:Opd) (t:Nat) (live:List Nat) (st:St) (f:St→(Ex→St→Prop)→Prop) (Q:Ex→St→Prop):Prop:=match Qjg (rd st.T x) with
 | some false=>f (st.flag t false live) Q
 | some true=>∃ ex st',f (st.flag t true live) (fun e s=>e=ex∧s=st')∧f (st.flag t false live) (fun e s=>e=ex∧s=st')∧Q ex st'
 | none=>False
def wp (tb:Tbl):IC→St→(Ex→St→Prop)→Prop
 | .skip,st,Q=>Q .normal st
 | .reg ops live alts,st,Q=>WO tb ops st fun st1=>(∀ p ∈ alts,WO tb (Qaf ops p) st fun st2=>st2.cut live=st1.cut live)∧Q .normal (st1.cut live)
 | .regd ops ord live alts,st,Q=>Qx1 st ops=true∧Qf1 (Qcb tb) st (Qaf ops ord)∧WO tb (Qaf ops ord) st fun st1=>(∀ p ∈ alts,Qf1 (Qcb tb) st (Qaf ops p)∧WO tb (Qaf ops p) st fun st2=>(st2.cut live).alike st.loc.length (st1.cut live))∧Q .normal (st1.cut live)
 | .regx ops ord live ds alts,st,Q=>Qn0 st ops=true∧okX (Qcb tb) ds st (Qaf ops ord)∧WO tb (Qaf ops ord) st fun st1=>(∀ p ∈ alts,okX (Qcb tb) ds st (Qaf ops p)∧WO tb (Qaf ops p) st fun st2=>st2.cut live=st1.cut live)∧Q .normal (st1.cut live)
 | .regw ops s t live,st,Q=>WO tb ops st fun st1=>∃ st2,st1.swapS s t=some st2∧Q .normal (st2.cut live)
 | .seq a b,st,Q=>wp tb a st fun ex st'=>match ex with
   | .normal=>wp tb b st' Q
   | e=>Q e st'
 | .nilc ops x t live y,st,Q=>WO tb ops st fun st1=>Jam x t live st1 (wp tb y) Q
 | .nilc2 ops x t live y1 y2,st,Q=>WO tb ops st fun st1=>Jam x t live st1 (fun st Q=>wp tb y1 st fun ex st'=>match ex with
   | .normal=>wp tb y2 st' Q
   | e=>Q e st') Q
 | .ubx ops0 ops1 live y,st,Q=>∃ st1,Qh4 (Qcb tb) st ops0 ops1=some st1∧wp tb y (st1.cut live) Q
 | .cond c a b,st,Q=>match rd st.T c with
   | .sc (.bool t)=>if t=true then wp tb a st Q else wp tb b st Q
   | _=>False
 | .block id b,st,Q=>wp tb b st fun ex st'=>match ex with
   | .exit i=>if i=id then Q .normal st' else Q (.exit i) st'
   | e=>Q e st'
 | .loop b,st,Q=>∃ k,Qno (wp tb b) Q k st
 | .exit id,st,Q=>Q (.exit id) st
 | .ret,st,Q=>Q .ret st
 | .hole,_,_=>False
 | .ext g,st,Q=>∃ v,g (st.T.map (·.2))=some v∧Q .ret { st with T:=[(0,v)] }
section
variable {tb:Tbl}
theorem Ev.det {f lent args M r r'} (h:Ev tb f lent args M r) (h':Ev tb f lent args M r'):r=r':=by
 obtain ⟨N,hN⟩:=h
 obtain ⟨N',hN'⟩:=h'
 have h1:=hN (max N N') (by omega)
 have h2:=hN' (max N N') (by omega)
 rw [h1] at h2
 exact Option.some.inj h2
theorem Qpa {f lent args M r} (h:Qcb tb f lent args M=some r):Ev tb f lent args M r:=by
 unfold Qcb at h
 split at h
 · rename_i hex
   simp only [Qoi] at h
   rw [← h];exact Classical.choose_spec hex
 · cases h
theorem Qab {f lent args M r} (h:Ev tb f lent args M r):Qcb tb f lent args M=some r:=by
 have hex:∃ r,Ev tb f lent args M r:=⟨r,h⟩
 unfold Qcb
 rw [dif_pos hex]
 congr 1
 exact (Classical.choose_spec hex).det h
theorem Qmd {st:St} {f:Lab} {args:List (Mode×Opd)} {v:IV} {st':St} (h:st.callWithH (Qcb tb) f args=some (v,st')) :
 ∃ N,∀ n,N≤n→st.callWithH (Qch tb n) f args=some (v,st'):=by
 unfold St.callWithH at h ⊢
 split at h
 rotate_left
 · cases h
 rename_i vs st1 fz ss hargs
 split at h
 · cases h
 rename_i hc
 split at h
 rotate_left
 · cases h
 rename_i hlv
 cases hl:Qcb tb f (Qjs args 0) vs (st1.M++[[]]) with
 | none=>simp [hl] at h
 | some r =>
 obtain ⟨N,hN⟩:=Qpa hl
 rw [hl] at h
 refine ⟨N,fun n hn=>?_⟩
 simp only [hc,hlv,if_true,if_false,Bool.false_eq_true,hN n hn]
 exact h
theorem Qck {st:St} {f:Lab} {caps:List IV} {args:List (Mode×Opd)} {p:Bool} {v:IV} {st':St} (h:st.callWith (Qcb tb) f caps args p=some (v,st')) :
 ∃ N,∀ n,N≤n→st.callWith (Qch tb n) f caps args p=some (v,st'):=by
 unfold St.callWith at h ⊢
 split at h
 rotate_left
 · cases h
 rename_i vs st1 fz ss hargs
 cases p with
 | true =>
   simp only [if_true] at h ⊢
   split at h
   · cases h
   rename_i hc
   cases hl:Qcb tb f [] vs [] with
   | none=>simp [hl] at h
   | some r =>
   obtain ⟨N,hN⟩:=Qpa hl
   rw [hl] at h
   refine ⟨N,fun n hn=>?_⟩
   simp only [hc,if_false,Bool.false_eq_true,hN n hn]
   exact h
 | false =>
   simp only [Bool.false_eq_true,if_false] at h ⊢
   split at h
   · cases h
   rename_i hc
   cases hl:Qcb tb f (Qjs args 0) (vs++caps) (st1.M++[st1.loc]) with
   | none=>simp [hl] at h
   | some r =>
   obtain ⟨N,hN⟩:=Qpa hl
   rw [hl] at h
   refine ⟨N,fun n hn=>?_⟩
   simp only [hc,if_false,Bool.false_eq_true,hN n hn]
   exact h
theorem Qyp {st:St} {f:Lab} {x:Opd} {v:IV} {st':St} (h:st.callP (Qcb tb) f x=some (v,st')):∃ N,∀ n,N≤n→st.callP (Qch tb n) f x=some (v,st'):=by
 unfold St.callP at h ⊢
 split at h
 rotate_left
 · cases h
 split at h
 rotate_left
 · cases h
 rename_i e es hp
 split at h
 rotate_left
 · cases h
 rename_i hn
 cases hl:Qcb tb f [0] [.own e es] [] with
 | none=>simp [hl] at h
 | some r =>
   obtain ⟨N,hN⟩:=Qpa hl
   rw [hl] at h
   refine ⟨N,fun n hn'=>?_⟩
   simp only [hp,if_pos hn,hN n hn']
   exact h
theorem Qvg {st:St} {f:Lab} {x k:Opd} {v:IV} {st':St} (h:st.callM (Qcb tb) f x k=some (v,st')):∃ N,∀ n,N≤n→st.callM (Qch tb n) f x k=some (v,st'):=by
 unfold St.callM at h ⊢
 split at h
 rotate_left
 · cases h
 rename_i kv hk
 split at h
 rotate_left
 · cases h
 rename_i wr r c p e0 n0 hld
 split at h
 rotate_left
 · cases h
 rename_i e es hp
 split at h
 rotate_left
 · cases h
 rename_i hn
 cases hl:Qcb tb f [0] [Qlx wr (.own e es),.sc kv] [] with
 | none=>simp [hl] at h
 | some r =>
   obtain ⟨N,hN⟩:=Qpa hl
   rw [hl] at h
   refine ⟨N,fun n hn'=>?_⟩
   simp only [hp,if_pos hn,hN n hn']
   exact h
theorem Jg0 {st:St} {k:K} {v:IV} {st':St} (h:ev (Qcb tb) st k=some (v,st')):∃ N,∀ n,N≤n→ev (Qch tb n) st k=some (v,st'):=by
 cases k with
 | call f args p=>exact Qck h
 | callq f args=>exact Qck h
 | callh f args=>exact Qmd h
 | callp f x=>exact Qyp h
 | callm f x k =>
   simp only [ev] at h ⊢
   split at h
   · exact Qvg h
   · exact Qck h
 | callz f x k =>
   simp only [ev] at h ⊢
   split at h
   · exact Qck h
   · exact Qck h
 | callv x args =>
   simp only [ev] at h ⊢
   split at h
   · exact Qck h
   · cases h
 | _=>exact ⟨0,fun n _=>h⟩
theorem Qxs {st:St} {o:IOp} {st':St} (h:Qar (Qcb tb) st o=some st'):∃ N,∀ n,N≤n→Qar (Qch tb n) st o=some st':=by
 unfold Qar at h ⊢
 have run:∀ {st'':St},(match ev (Qcb tb) st o.k with
  | some (v,st')=>match o.dst with
    | some d=>some { st' with T:=tput st'.T d v }
    | none=>some st'
  | none=>none)=some st''→∃ N,∀ n,N≤n→(match ev (Qch tb n) st o.k with
  | some (v,st')=>match o.dst with
    | some d=>some { st' with T:=tput st'.T d v }
    | none=>some st'
  | none=>none)=some st'':=by
  intro st'' h
  cases hl:ev (Qcb tb) st o.k with
  | none=>simp [hl] at h
  | some p =>
    obtain ⟨v,s⟩:=p
    obtain ⟨N,hN⟩:=Jg0 hl
    rw [hl] at h
    exact ⟨N,fun n hn=>by rw [hN n hn];exact h⟩
 split at h
 · exact run h
 · split at h
   · split at h
     · rename_i hc
       obtain ⟨N,hN⟩:=run h
       refine ⟨N,fun n hn=>?_⟩
       simp only [hc,if_true]
       exact hN n hn
     · rename_i hc
       exact ⟨0,fun n _=>by simp only [hc,if_false];exact h⟩
   · exact ⟨0,fun n _=>h⟩
   · cases h
theorem Qfb:∀ {ops:List IOp} {st st':St},Qag (Qcb tb) st ops=some st'→∃ N,∀ n,N≤n→Qag (Qch tb n) st ops=some st'
 | [],st,st',h=>⟨0,fun _ _=>h⟩
 | o::r,st,st',h=>by
   simp only [Qag] at h ⊢
   split at h
   · rename_i st1 h1
     obtain ⟨N,hN⟩:=Qxs h1
     obtain ⟨N',hN'⟩:=Qfb h
     exact ⟨max N N',fun n hn=>by simp only [hN n (by omega),hN' n (by omega)]⟩
   · cases h
theorem Qj8:∀ {ops:List IOp} {st st':St},Qag (Qcb tb) st ops=some st'→Qf1 (Qcb tb) st ops→∃ N,∀ n,N≤n→Qf1 (Qch tb n) st ops
 | [],_,_,_,_=>⟨0,fun _ _=>trivial⟩
 | o::r,st,st',h,hk=>by
   simp only [Qag] at h
   split at h
   rotate_left
   · cases h
   rename_i st1 h1
   obtain ⟨k1,k2⟩:=hk st1 h1
   obtain ⟨N,hN⟩:=Qxs h1
   obtain ⟨N',hN'⟩:=Qj8 h k2
   refine ⟨max N N',fun n hn st2 h2=>?_⟩
   rw [hN n (by omega)] at h2
   cases h2
   exact ⟨k1,hN' n (by omega)⟩
theorem Qp9 {ds:List Nat}:∀ {ops:List IOp} {st st':St},Qag (Qcb tb) st ops=some st'→okX (Qcb tb) ds st ops→∃ N,∀ n,N≤n→okX (Qch tb n) ds st ops
 | [],_,_,_,hk=>⟨0,fun _ _=>hk⟩
 | o::r,st,st',h,hk=>by
   simp only [Qag] at h
   split at h
   rotate_left
   · cases h
   rename_i st1 h1
   obtain ⟨k01,k02,k⟩:=hk
   obtain ⟨k1,k2⟩:=k st1 h1
   obtain ⟨N,hN⟩:=Qxs h1
   obtain ⟨N',hN'⟩:=Qp9 h k2
   refine ⟨max N N',fun n hn=>⟨k01,k02,fun st2 h2=>?_⟩⟩
   rw [hN n (by omega)] at h2
   cases h2
   exact ⟨k1,hN' n (by omega)⟩
theorem Qg6 {ops:List IOp} {st:St} {Q:St→Prop} (h:WO tb ops st Q):∃ st',Q st'∧(∃ N,∀ n,N≤n→Qag (Qch tb n) st ops=some st')∧∀ Q':St→Prop,Q' st'→WO tb ops st Q':=by
 obtain ⟨st',h1,h2⟩:=h
 exact ⟨st',h2,Qfb h1,fun Q' hQ'=>⟨st',h1,hQ'⟩⟩
def Runs (tb:Tbl) (c:IC) (st:St) (ex:Ex) (st':St):Prop:=∃ N,∀ n,N≤n→∀ m,N≤m→Qb0 (Qch tb n) m c st=some (ex,st')
theorem Jjh {st st1:St} {ops0 ops1:List IOp} (h:Qh4 (Qcb tb) st ops0 ops1=some st1):∃ N,∀ n,N≤n→Qh4 (Qch tb n) st ops0 ops1=some st1:=by
 unfold Qh4 at h ⊢
 split at h
 rotate_left
 · cases h
 split at h
 rotate_left
 · cases h
 rename_i st2 h1
 obtain ⟨N,hN⟩:=Qfb h1
 split at h
 rotate_left
 · cases h
 rename_i xs hrd
 split at h
 rotate_left
 · cases h
 rename_i x hsub
 obtain ⟨N2,hN2⟩:=Qfb h
 refine ⟨max N N2,fun n hn=>?_⟩
 simp only [hN n (by omega),hrd,hsub]
 exact hN2 n (by omega)
theorem Qbh:∀ {c:IC} {st:St} {Q:Ex→St→Prop},wp tb c st Q→∃ ex st',Q ex st'∧Runs tb c st ex st'∧∀ Q':Ex→St→Prop,Q' ex st'→wp tb c st Q'
 | .skip,st,Q,h=>⟨.normal,st,h,⟨0,fun _ _ _ _=>rfl⟩,fun _ h=>h⟩
 | .exit id,st,Q,h=>⟨.exit id,st,h,⟨0,fun _ _ _ _=>rfl⟩,fun _ h=>h⟩
 | .ret,st,Q,h=>⟨.ret,st,h,⟨0,fun _ _ _ _=>rfl⟩,fun _ h=>h⟩
 | .reg ops live alts,st,Q,h=>by
   simp only [wp] at h
   obtain ⟨st1,⟨h1,h2⟩,⟨N,hN⟩,h3⟩:=Qg6 h
   have halt:∃ N,∀ n,N≤n→∀ p ∈ alts,∃ st2,Qag (Qch tb n) st (Qaf ops p)=some st2∧st2.cut live=st1.cut live:=by
    clear h h3
    induction alts with
    | nil=>exact ⟨0,fun _ _ p hp=>by cases hp⟩
    | cons p ps ih =>
      obtain ⟨N1,hN1⟩:=ih (fun q hq=>h1 q (by simp [hq]))
      obtain ⟨st2,q1,⟨N2,hN2⟩,-⟩:=Qg6 (h1 p (by simp))
      refine ⟨max N1 N2,fun n hn q hq=>?_⟩
      rcases List.mem_cons.1 hq with rfl | hq
      · exact ⟨st2,hN2 n (by omega),q1⟩
      · exact hN1 n (by omega) q hq
   obtain ⟨N',hN'⟩:=halt
   refine ⟨.normal,st1.cut live,h2,⟨max N N',fun n hn m hm=>?_⟩,fun Q' hQ'=>?_⟩
   · simp only [Qb0,Qqj,hN n (by omega)]
     rw [if_pos (hN' n (by omega))]
   · simp only [wp];exact h3 _ ⟨h1,hQ'⟩
 | .regd ops ord live alts,st,Q,h=>by
   simp only [wp] at h
   obtain ⟨hn,hok,st1,h0,h1,h2⟩:=h
   obtain ⟨N,hN⟩:=Qfb h0
   obtain ⟨N',hN'⟩:=Qj8 h0 hok
   have halt:∃ N,∀ n,N≤n→∀ p ∈ alts,Qf1 (Qch tb n) st (Qaf ops p)∧∃ st2,Qag (Qch tb n) st (Qaf ops p)=some st2∧(st2.cut live).alike st.loc.length (st1.cut live):=by
    clear h2
    induction alts with
    | nil=>exact ⟨0,fun _ _ p hp=>by cases hp⟩
    | cons p ps ih =>
      obtain ⟨N1,hN1⟩:=ih (fun q hq=>h1 q (by simp [hq]))
      obtain ⟨g1,st2,g2,g3⟩:=h1 p (by simp)
      obtain ⟨N2,hN2⟩:=Qfb g2
      obtain ⟨N3,hN3⟩:=Qj8 g2 g1
      refine ⟨max N1 (max N2 N3),fun n hn q hq=>?_⟩
      rcases List.mem_cons.1 hq with rfl | hq
      · exact ⟨hN3 n (by omega),st2,hN2 n (by omega),g3⟩
      · exact hN1 n (by omega) q hq
   obtain ⟨N2,hN2⟩:=halt
   refine ⟨.normal,st1.cut live,h2,⟨max N (max N' N2),fun n hn' m hm=>?_⟩,fun Q' hQ'=>?_⟩
   · simp only [Qb0,Ql7,hN n (by omega)]
     rw [if_pos ⟨hn,hN' n (by omega),hN2 n (by omega)⟩]
   · simp only [wp];exact ⟨hn,hok,st1,h0,h1,hQ'⟩
 | .regx ops ord live ds alts,st,Q,h=>by
   simp only [wp] at h
   obtain ⟨hn,hok,st1,h0,h1,h2⟩:=h
   obtain ⟨N,hN⟩:=Qfb h0
   obtain ⟨N',hN'⟩:=Qp9 h0 hok
   have halt:∃ N,∀ n,N≤n→∀ p ∈ alts,okX (Qch tb n) ds st (Qaf ops p)∧∃ st2,Qag (Qch tb n) st (Qaf ops p)=some st2∧st2.cut live=st1.cut live:=by
    clear h2
    induction alts with
    | nil=>exact ⟨0,fun _ _ p hp=>by cases hp⟩
    | cons p ps ih =>
      obtain ⟨N1,hN1⟩:=ih (fun q hq=>h1 q (by simp [hq]))
      obtain ⟨g1,st2,g2,g3⟩:=h1 p (by simp)
      obtain ⟨N2,hN2⟩:=Qfb g2
      obtain ⟨N3,hN3⟩:=Qp9 g2 g1
      refine ⟨max N1 (max N2 N3),fun n hn q hq=>?_⟩
      rcases List.mem_cons.1 hq with rfl | hq
      · exact ⟨hN3 n (by omega),st2,hN2 n (by omega),g3⟩
      · exact hN1 n (by omega) q hq
   obtain ⟨N2,hN2⟩:=halt
   refine ⟨.normal,st1.cut live,h2,⟨max N (max N' N2),fun n hn' m hm=>?_⟩,fun Q' hQ'=>?_⟩
   · simp only [Qb0,Ql6,hN n (by omega)]
     rw [if_pos ⟨hn,hN' n (by omega),hN2 n (by omega)⟩]
   · simp only [wp];exact ⟨hn,hok,st1,h0,h1,hQ'⟩
 | .regw ops s t live,st,Q,h=>by
   simp only [wp] at h
   obtain ⟨st1,⟨st2,h1,h2⟩,⟨N,hN⟩,h3⟩:=Qg6 h
   refine ⟨.normal,st2.cut live,h2,⟨N,fun n hn m hm=>?_⟩,fun Q' hQ'=>?_⟩
   · simp only [Qb0,hN n hn,h1]
   · simp only [wp];exact h3 _ ⟨st2,h1,hQ'⟩
 | .seq a b,st,Q,h=>by
   simp only [wp] at h
   obtain ⟨ex,st1,h1,⟨N,hN⟩,h2⟩:=Qbh h
   cases ex with
   | normal =>
     obtain ⟨ex2,st2,q1,⟨N2,hN2⟩,q2⟩:=Qbh h1
     refine ⟨ex2,st2,q1,⟨max N N2,fun n hn m hm=>?_⟩,fun Q' hQ'=>?_⟩
     · simp only [Qb0,hN n (by omega) m (by omega),hN2 n (by omega) m (by omega)]
     · simp only [wp];exact h2 _ (q2 _ hQ')
   | exit id =>
     refine ⟨.exit id,st1,h1,⟨N,fun n hn m hm=>?_⟩,fun Q' hQ'=>?_⟩
     · simp only [Qb0,hN n hn m hm]
     · simp only [wp];exact h2 _ hQ'
   | ret =>
     refine ⟨.ret,st1,h1,⟨N,fun n hn m hm=>?_⟩,fun Q' hQ'=>?_⟩
     · simp only [Qb0,hN n hn m hm]
     · simp only [wp];exact h2 _ hQ'
 | .cond c a b,st,Q,h=>by
   simp only [wp] at h
   split at h
   rotate_left
   · exact h.elim
   rename_i t ht
   cases t with
   | true =>
     simp only [if_true] at h
     obtain ⟨ex,st1,h1,⟨N,hN⟩,h2⟩:=Qbh h
     refine ⟨ex,st1,h1,⟨N,fun n hn m hm=>?_⟩,fun Q' hQ'=>?_⟩
     · simp only [Qb0,ht,if_true,hN n hn m hm]
     · simp only [wp,ht,if_true];exact h2 _ hQ'
   | false =>
     simp only [Bool.false_eq_true,if_false] at h
     obtain ⟨ex,st1,h1,⟨N,hN⟩,h2⟩:=Qbh h
     refine ⟨ex,st1,h1,⟨N,fun n hn m hm=>?_⟩,fun Q' hQ'=>?_⟩
     · simp only [Qb0,ht,Bool.false_eq_true,if_false,hN n hn m hm]
     · simp only [wp,ht,Bool.false_eq_true,if_false];exact h2 _ hQ'
 | .block id b,st,Q,h=>by
   simp only [wp] at h
   obtain ⟨ex,st1,h1,⟨N,hN⟩,h2⟩:=Qbh h
   cases ex with
   | normal =>
     refine ⟨.normal,st1,h1,⟨N,fun n hn m hm=>?_⟩,fun Q' hQ'=>?_⟩
     · simp only [Qb0,hN n hn m hm]
     · simp only [wp];exact h2 _ hQ'
   | ret =>
     refine ⟨.ret,st1,h1,⟨N,fun n hn m hm=>?_⟩,fun Q' hQ'=>?_⟩
     · simp only [Qb0,hN n hn m hm]
     · simp only [wp];exact h2 _ hQ'
   | exit i =>
     simp only at h1
     by_cases hi:i=id
     · rw [if_pos hi] at h1
       refine ⟨.normal,st1,h1,⟨N,fun n hn m hm=>?_⟩,fun Q' hQ'=>?_⟩
       · simp only [Qb0,hN n hn m hm,hi,if_true]
       · simp only [wp];exact h2 _ (by simp only [hi,if_true];exact hQ')
     · rw [if_neg hi] at h1
       refine ⟨.exit i,st1,h1,⟨N,fun n hn m hm=>?_⟩,fun Q' hQ'=>?_⟩
       · simp only [Qb0,hN n hn m hm,hi,if_false]
       · simp only [wp];exact h2 _ (by simp only [hi,if_false];exact hQ')
 | .loop b,st,Q,h=>by
   simp only [wp] at h
   obtain ⟨k,h⟩:=h
   have key:∀ (k:Nat) (st:St),Qno (wp tb b) Q k st→∃ ex st',Q ex st'∧(∃ N,∀ n,N≤n→∀ m,N≤m→∀ j,N≤j→Jaq (Qb0 (Qch tb n) m b) j st=some (ex,st'))∧∀ Q':Ex→St→Prop,Q' ex st'→Qno (wp tb b) Q' k st:=by
    intro k
    induction k with
    | zero=>intro st h;exact h.elim
    | succ k ih =>
      intro st h
      simp only [Qno] at h
      obtain ⟨ex,st1,h1,⟨N,hN⟩,h2⟩:=Qbh h
      cases ex with
      | normal =>
        obtain ⟨ex2,st2,q1,⟨N2,hN2⟩,q2⟩:=ih st1 h1
        refine ⟨ex2,st2,q1,⟨max N N2+1,fun n hn m hm j hj=>?_⟩,fun Q' hQ'=>?_⟩
        · obtain ⟨j',rfl⟩:∃ j',j=j'+1:=⟨j - 1,by omega⟩
          simp only [Jaq,hN n (by omega) m (by omega),hN2 n (by omega) m (by omega) j' (by omega)]
        · simp only [Qno];exact h2 _ (q2 _ hQ')
      | exit i =>
        refine ⟨.exit i,st1,h1,⟨N+1,fun n hn m hm j hj=>?_⟩,fun Q' hQ'=>?_⟩
        · obtain ⟨j',rfl⟩:∃ j',j=j'+1:=⟨j - 1,by omega⟩
          simp only [Jaq,hN n (by omega) m (by omega)]
        · simp only [Qno];exact h2 _ hQ'
      | ret =>
        refine ⟨.ret,st1,h1,⟨N+1,fun n hn m hm j hj=>?_⟩,fun Q' hQ'=>?_⟩
        · obtain ⟨j',rfl⟩:∃ j',j=j'+1:=⟨j - 1,by omega⟩
          simp only [Jaq,hN n (by omega) m (by omega)]
        · simp only [Qno];exact h2 _ hQ'
   obtain ⟨ex,st',q1,⟨N,hN⟩,q2⟩:=key k st h
   exact ⟨ex,st',q1,⟨N,fun n hn m hm=>by simp only [Qb0];exact hN n hn m hm m hm⟩,fun Q' hQ'=>by simp only [wp];exact ⟨k,q2 Q' hQ'⟩⟩
 | .nilc ops x t live y,st,Q,h=>by
   simp only [wp] at h
   obtain ⟨st1,h1,⟨N,hN⟩,h3⟩:=Qg6 h
   unfold Jam at h1
   split at h1
   · rename_i he
     obtain ⟨ex,st2,q1,⟨N2,hN2⟩,q2⟩:=Qbh h1
     refine ⟨ex,st2,q1,⟨max N N2,fun n hn m hm=>?_⟩,fun Q' hQ'=>?_⟩
     · simp only [Qb0,Qfk,hN n (by omega),he,hN2 n (by omega) m (by omega)]
     · simp only [wp];exact h3 _ (by unfold Jam;rw [he];exact q2 _ hQ')
   · rename_i he
     obtain ⟨ex,st',h1,h2,hQ⟩:=h1
     obtain ⟨_,_,⟨rfl,rfl⟩,⟨N1,hN1⟩,q1⟩:=Qbh h1
     obtain ⟨_,_,⟨rfl,rfl⟩,⟨N2,hN2⟩,q2⟩:=Qbh h2
     refine ⟨_,_,hQ,⟨max N (max N1 N2),fun n hn m hm=>?_⟩,fun Q' hQ'=>?_⟩
     · simp only [Qb0,Qfk,hN n (by omega),he,hN1 n (by omega) m (by omega),hN2 n (by omega) m (by omega),if_true]
     · simp only [wp];exact h3 _ (by unfold Jam;rw [he];exact ⟨_,_,h1,h2,hQ'⟩)
   · exact h1.elim
 | .hole,st,Q,h=>by
   simp only [wp] at h
 | .ext g,st,Q,h=>by
   simp only [wp] at h
   obtain ⟨v,h1,h2⟩:=h
   exact ⟨.ret,_,h2,⟨0,fun n _ m _=>by simp only [Qb0,h1]⟩,fun Q' hQ'=>by simp only [wp];exact ⟨v,h1,hQ'⟩⟩
 | .ubx ops0 ops1 live y,st,Q,h=>by
   simp only [wp] at h
   obtain ⟨st1,h0,h1⟩:=h
   obtain ⟨N,hN⟩:=Jjh h0
   obtain ⟨ex,st2,q1,⟨N2,hN2⟩,q2⟩:=Qbh h1
   refine ⟨ex,st2,q1,⟨max N N2,fun n hn m hm=>?_⟩,fun Q' hQ'=>?_⟩
   · simp only [Qb0,hN n (by omega)];exact hN2 n (by omega) m (by omega)
   · simp only [wp];exact ⟨st1,h0,q2 _ hQ'⟩
 | .nilc2 ops x t live y1 y2,st,Q,h=>by
   simp only [wp] at h
   obtain ⟨st1,h1,⟨N,hN⟩,h3⟩:=Qg6 h
   have two:∀ {st:St} {Q:Ex→St→Prop},(wp tb y1 st fun ex st'=>match ex with | .normal=>wp tb y2 st' Q | e=>Q e st')→∃ ex st',Q ex st'∧(∃ N,∀ n,N≤n→∀ m,N≤m→Jkv (Qb0 (Qch tb n) m y1) (Qb0 (Qch tb n) m y2) st=some (ex,st'))∧∀ Q':Ex→St→Prop,Q' ex st'→(wp tb y1 st fun ex st'=>match ex with | .normal=>wp tb y2 st' Q' | e=>Q' e st'):=by
    intro st Q h
    obtain ⟨ex,st1,h1,⟨N,hN⟩,h2⟩:=Qbh h
    cases ex with
    | normal =>
      obtain ⟨ex2,st2,q1,⟨N2,hN2⟩,q2⟩:=Qbh h1
      exact ⟨ex2,st2,q1,⟨max N N2,fun n hn m hm=>by simp only [Jkv,hN n (by omega) m (by omega),hN2 n (by omega) m (by omega)]⟩,fun Q' hQ'=>h2 _ (q2 _ hQ')⟩
    | exit id=>exact ⟨.exit id,st1,h1,⟨N,fun n hn m hm=>by simp only [Jkv,hN n hn m hm]⟩,fun Q' hQ'=>h2 _ hQ'⟩
    | ret=>exact ⟨.ret,st1,h1,⟨N,fun n hn m hm=>by simp only [Jkv,hN n hn m hm]⟩,fun Q' hQ'=>h2 _ hQ'⟩
   unfold Jam at h1
   split at h1
   · rename_i he
     obtain ⟨ex,st2,q1,⟨N2,hN2⟩,q2⟩:=two h1
     refine ⟨ex,st2,q1,⟨max N N2,fun n hn m hm=>?_⟩,fun Q' hQ'=>?_⟩
     · simp only [Qb0,Qfk,hN n (by omega),he];exact hN2 n (by omega) m (by omega)
     · simp only [wp];exact h3 _ (by unfold Jam;rw [he];exact q2 _ hQ')
   · rename_i he
     obtain ⟨ex,st',h1,h2,hQ⟩:=h1
     obtain ⟨_,_,⟨rfl,rfl⟩,⟨N1,hN1⟩,q1⟩:=two h1
     obtain ⟨_,_,⟨rfl,rfl⟩,⟨N2,hN2⟩,q2⟩:=two h2
     refine ⟨_,_,hQ,⟨max N (max N1 N2),fun n hn m hm=>?_⟩,fun Q' hQ'=>?_⟩
     · simp only [Qb0,Qfk,hN n (by omega),he]
       rw [hN1 n (by omega) m (by omega),hN2 n (by omega) m (by omega)]
       simp
     · simp only [wp];exact h3 _ (by unfold Jam;rw [he];exact ⟨_,_,h1,h2,hQ'⟩)
   · exact h1.elim
theorem wW {b:IC} {st:St} {Q:Ex→St→Prop} (h:wp tb b st fun ex st'=>match ex with
 | .normal=>wp tb (.loop b) st' Q
 | e=>Q e st'):wp tb (.loop b) st Q:=by
 obtain ⟨ex,st',h1,-,h2⟩:=Qbh h
 cases ex with
 | normal =>
   simp only [wp] at h1
   obtain ⟨k,hk⟩:=h1
   exact ⟨k+1,h2 _ hk⟩
 | exit i=>exact ⟨1,h2 _ h1⟩
 | ret=>exact ⟨1,h2 _ h1⟩
def Qk5 (f:Qbl) (lent:List Nat) (st:St):Option Ret:=match st.retvs f.res with
 | some (vs,st)=>match st.backs lent with
   | some (back,st)=>st.leave (Qbo vs) back
   | none=>none
 | none=>none
theorem cW {f:Lab} {fn:Qbl} (hf:tb f=some fn) {lent:List Nat} {args:List IV} {M:List Qae} {r:Ret} (hl:lent.all fn.keep.contains=true)
 (h:wp tb fn.body { T:=args.zipIdx.map fun (v,i)=>(i,v),loc:=[],M:=M } fun ex st=>(ex=.normal ∨ ex=.ret)∧Qk5 fn lent st=some r):Ev tb f lent args M r:=by
 obtain ⟨ex,st',⟨h1,h2⟩,⟨N,hN⟩,-⟩:=Qbh h
 refine ⟨N+1,fun n hn=>?_⟩
 obtain ⟨n',rfl⟩:∃ n',n=n'+1:=⟨n - 1,by omega⟩
 simp only [Qch,hf,Qr3,hl,Bool.not_true,Bool.false_eq_true,if_false,hN n' (by omega) n' (by omega)]
 unfold Qk5 at h2
 rcases h1 with rfl | rfl <;> exact h2
end
end Go.Idl
namespace Go.Idl
open Go
abbrev I (n:Int):IV:=.sc (.int .i64 n)
abbrev Bo (b:Bool):IV:=.sc (.bool b)
def Qdd (xs:List Int):List (List IV):=xs.map fun n=>[I n]
section
variable {tb:Tbl} {st:St} {Q Q':Ex→St→Prop}
theorem Jez {ops live st1 st2} (h:Qag (Qcb tb) st ops=some st1) (hc:st1.cut live=st2) (hq:Q .normal st2):wp tb (.reg ops live []) st Q:=by
 subst hc
 exact ⟨st1,h,by simp,hq⟩
theorem Qf2 {ops live b st1 st2} (h:Qag (Qcb tb) st ops=some st1) (hc:st1.cut live=st2) (hb:wp tb b st2 Q):wp tb (.seq (.reg ops live []) b) st Q :=
 by simp only [wp];exact Jez (Q:=fun ex st'=>match ex with | .normal=>wp tb b st' Q | e=>Q e st') h hc hb
theorem Qdt {ops live alts b st1 st2} (h:Qag (Qcb tb) st ops=some st1) (hc:st1.cut live=st2) (ha:∀ p ∈ alts,∃ st3,Qag (Qcb tb) st (Qaf ops p)=some st3∧st3.cut live=st2) (hb:wp tb b st2 Q):wp tb (.seq (.reg ops live alts) b) st Q:=by
 subst hc
 simp only [wp]
 exact ⟨st1,h,ha,hb⟩
theorem Qm3 {ops live alts st1 st2} (h:Qag (Qcb tb) st ops=some st1) (hc:st1.cut live=st2) (ha:∀ p ∈ alts,∃ st3,Qag (Qcb tb) st (Qaf ops p)=some st3∧st3.cut live=st2) (hq:Q .normal st2):wp tb (.reg ops live alts) st Q:=by
 subst hc
 exact ⟨st1,h,ha,hq⟩
theorem wA {a b c} (h:wp tb (.seq a (.seq b c)) st Q):wp tb (.seq (.seq a b) c) st Q:=by
 simp only [wp] at h ⊢
 obtain ⟨ex,st1,h1,-,h2⟩:=Qbh h
 refine h2 _ ?_
 cases ex <;> exact h1
theorem Qv9 {a b}:wp tb (.seq a b) st Q=wp tb a st fun ex st'=>match ex with
 | .normal=>wp tb b st' Q
 | e=>Q e st':=rfl
theorem Qal {c} (h:wp tb c st Q) (hq:∀ ex st',Q ex st'→Q' ex st'):wp tb c st Q':=by
 obtain ⟨ex,st',h1,-,h2⟩:=Qbh h
 exact h2 _ (hq _ _ h1)
end
theorem Qaj {n:Int} (h:-9223372036854775808≤n) (h':n < 9223372036854775808):IntKind.i64.wrap n=n:=by
 have e1:(2:Int) ^ IntKind.i64.bits=18446744073709551616:=by decide
 have e2:(2:Int) ^ (IntKind.i64.bits - 1)=9223372036854775808:=by decide
 have e3:IntKind.i64.signed=true:=rfl
 unfold IntKind.wrap
 rw [e1,e2,e3]
 simp only [Bool.true_and,decide_eq_true_eq,ge_iff_le]
 split <;> omega
theorem Qfh {k:IntKind} {n:Nat}:Qb8 (.sc (.int k (n:Int)))=some n:=by simp [Qb8]
@[simp] theorem ints_get? (xs:List Int) (i:Nat):(Qdd xs)[i]? = xs[i]?.map fun n=>[IV.sc (.int .i64 n)]:=by simp [Qdd]
@[simp] theorem Jxz (xs:List Int) (i:Nat) (h:i < (Qdd xs).length):(Qdd xs)[i]=[IV.sc (.int .i64 (xs[i]'(by simpa [Qdd] using h)))]:=by simp [Qdd]
section
variable {tb:Tbl} {st:St} {Q Q':Ex→St→Prop}
theorem wR (h:Q .ret st):wp tb .ret st Q:=h
theorem wK (h:Q .normal st):wp tb .skip st Q:=h
theorem wE {id} (h:Q (.exit id) st):wp tb (.exit id) st Q:=h
theorem Qqb {c a b d t} (hc:rd st.T c=.sc (.bool t)) (h1:t=true→wp tb (.seq a d) st Q) (h2:t=false→wp tb (.seq b d) st Q):wp tb (.seq (.cond c a b) d) st Q:=by
 simp only [wp,hc] at *
 cases t
 · simpa using h2 rfl
 · simpa using h1 rfl
theorem wp_c {c a b t} (hc:rd st.T c=.sc (.bool t)) (h1:t=true→wp tb a st Q) (h2:t=false→wp tb b st Q):wp tb (.cond c a b) st Q:=by
 simp only [wp,hc] at *
 cases t
 · simpa using h2 rfl
 · simpa using h1 rfl
theorem wS {b} (h:wp tb b st Q):wp tb (.seq .skip b) st Q:=h
theorem wX {b} (h:Q .ret st):wp tb (.seq .ret b) st Q:=h
theorem wY {id b} (h:Q (.exit id) st):wp tb (.seq (.exit id) b) st Q:=h
theorem wB {id b c} (h:wp tb b st fun ex st'=>match ex with
 | .normal=>wp tb c st' Q
 | .exit i=>if i=id then wp tb c st' Q else Q (.exit i) st'
 | .ret=>Q .ret st'):wp tb (.seq (.block id b) c) st Q:=by
 simp only [wp]
 refine Qal h fun ex st' hh=>?_
 cases ex with
 | normal=>exact hh
 | ret=>exact hh
 | exit i =>
   simp only at hh ⊢
   split
   · rename_i hi;rw [if_pos hi] at hh;exact hh
   · rename_i hi;rw [if_neg hi] at hh;exact hh
theorem Qaa {id b} (h:wp tb b st fun ex st'=>match ex with
 | .normal=>Q .normal st'
 | .exit i=>if i=id then Q .normal st' else Q (.exit i) st'
 | .ret=>Q .ret st'):wp tb (.block id b) st Q:=by
 simp only [wp]
 refine Qal h fun ex st' hh=>?_
 cases ex <;> exact hh
theorem Qu1 {ops x t live y1 y2 st1 b ex st'} (h:Qag (Qcb tb) st ops=some st1) (he:Qjg (rd st1.T x)=some b) (hf:wp tb (.seq y1 y2) (st1.flag t false live) (fun e s=>e=ex∧s=st'))
 (ht:b=true→wp tb (.seq y1 y2) (st1.flag t true live) (fun e s=>e=ex∧s=st')) (hq:Q ex st'):wp tb (.nilc2 ops x t live y1 y2) st Q:=by
 simp only [wp] at *
 refine ⟨st1,h,?_⟩
 unfold Jam
 cases b with
 | false =>
   rw [he]
   obtain ⟨e,s,⟨rfl,rfl⟩,-,h2⟩:=Qbh (c:=.seq y1 y2) (by simp only [wp];exact hf)
   have:=h2 Q hq
   simpa only [wp] using this
 | true=>rw [he];exact ⟨ex,st',ht rfl,hf,hq⟩
end
theorem Jch (xs:List Int):Qcf (Qdd xs)=Qdd xs:=by
 induction xs with
 | nil=>rfl
 | cons x xs ih=>simp only [Qdd,List.map_cons,Qcf,Qc2,Qgc] at *;rw [ih]
attribute [simp] Qag Qar ev rd Qan Qij Jel tput IV.holds tk cv cv1 Jcl restrict kl kl1 klc rootOut IV.rooted Qbg Qas dropSlot St.cut Qdh Qdr Jc8 sub Qfh bound Qv6 St.sview St.plc St.rcells IV.cells fol St.loadCells
 Qjg St.flag putI Qaf isSc IV.isSc IV.plain1 IV.plain IV.isOwn
@[simp] theorem Jyr (xs:List Int):(Qdd xs).length=xs.length:=by simp [Qdd]
@[simp] theorem Jyg:Qdd []=[]:=rfl
@[simp] theorem Jxx (xs ys:List Int):Qdd xs++Qdd ys=Qdd (xs++ys):=by simp [Qdd]
@[simp] theorem Jys (xs:List Int) (n:Int):Qdd xs++[[IV.sc (.int .i64 n)]]=Qdd (xs++[n]):=by simp [Qdd]
@[simp] theorem Jya (xs:List Int) (i:Nat) (v:Int):(Qdd xs).set i [IV.sc (.int .i64 v)]=Qdd (xs.set i v):=by
  simp [Qdd,List.map_set]
@[simp] theorem Jpz (xs:List Int) (n:Nat):(Qdd xs).take n=Qdd (xs.take n):=by simp [Qdd,List.map_take]
@[simp] theorem Joh (xs:List Int) (n:Nat):(Qdd xs).drop n=Qdd (xs.drop n):=by simp [Qdd,List.map_drop]
@[simp] theorem Jyo (xs:List Int):(Qdd xs).isEmpty=xs.isEmpty:=by cases xs <;> rfl
@[simp] theorem Jvs (xs:List Int):((Qdd xs).all fun x=>x.all IV.plain1)=true:=by
  induction xs with
  | nil=>rfl
  | cons x xs ih=>simp only [Qdd,List.map_cons,List.all_cons] at *;rw [ih];rfl
@[simp] theorem Jms (xs:List Int):((Qdd xs).all fun x=>x.all IV.isData)=true:=by
  induction xs with
  | nil=>rfl
  | cons x xs ih=>simp only [Qdd,List.map_cons,List.all_cons] at *;rw [ih];rfl
@[simp] theorem Qt3 (xs:List Int):Qb1 (Qdd xs)=true:=by
  induction xs with
  | nil=>rfl
  | cons x xs ih=>simp only [Qdd,List.map_cons,Qb1,Qa7,Qbt] at *;rw [ih];rfl
@[simp] theorem Jkq {k:IntKind} {n:Nat}:Qb8 (.sc (.int k ((n:Int)+1)))=some (n+1):=Qfh (n:=n+1)
@[simp] theorem Jk1 {k:IntKind}:Qb8 (.sc (.int k 0))=some 0:=rfl
@[simp] theorem Jw1 {k:IntKind}:Qb8 (.sc (.int k 1))=some 1:=rfl
@[simp] theorem limF_ev {tb:Tbl} {f lent args M r} (h:Ev tb f lent args M r):Qcb tb f lent args M=some r:=Qab h
theorem Jd0 {n:Nat} (h:n < 9223372036854775808):IntKind.i64.wrap (n:Int)=(n:Int):=Qaj (by omega) (by omega)
theorem Qbe {n:Nat} (h:n+1 < 9223372036854775808):IntKind.i64.wrap ((n:Int)+1)=((n+1:Nat):Int):=by
 rw [Qaj (by omega) (by omega)];rfl
attribute [simp] Jx4 St.callP IV.isBack Qge Jx2 Qeg St.fillElems Qap St.news St.append IV.wcells lim fillCells IV.okPart tkKill St.storeCells St.callWith St.callWithH IV.rootL St.args St.args1 St.arg1 Qey St.args2 St.arg2 St.seen St.seens St.lentBack IV.free IV.free1 Qjs isLd Qbt Qa7 Qb1 Qgc Qc2 Qcf Jch Qd4 scInt Jhl IV.isBptr Qap
@[simp] theorem Jkt {α} (a x:α) (m:List α):(a::(m++[x])).getLast? = some x:=by
  rw [← List.cons_append,List.getLast?_append];rfl
@[simp] theorem Je8 {α} (a x:α) (m:List α):(a::(m++[x])).dropLast=a::m:=by
  rw [← List.cons_append,List.dropLast_concat]
@[simp] theorem Jro (b:Bool):Op.unary .not (.bool b)=.pure (.bool !b):=rfl
attribute [simp] Qda IV.rootB
attribute [simp] St.callM Qgq Qlx Qh0 IV.isArr Qr2 Qh4
attribute [simp] Qk5 St.retvs St.retv Qbo St.backs St.leave St.absorb St.absorbs St.absorbsK killOf IV.lvl Qto IV.okLvl IV.isData St.setPlc Qbm Qqx splice St.box St.setBox
def Qj9 (st:St):Option Nat→Bool
 | some d=>(Qan st.T d).holds
 | none=>false
def Qdi (cf:CF):St→List IOp→Option St
 | st,[]=>some st
 | st,o::r=>match Qar cf st o with
   | some st1=>if (Qdw o.k && Qj9 st1 o.dst)=true then none else Qdi cf st1 r
   | none=>none
theorem Qlt {cf:CF}:∀ {ops:List IOp} {st s:St},Qdi cf st ops=some s→Qag cf st ops=some s∧Qf1 cf st ops
 | [],st,s,h=>⟨h,trivial⟩
 | o::r,st,s,h=>by
   simp only [Qdi] at h
   simp only [Qag]
   split at h
   rotate_left
   · cases h
   rename_i st1 h1
   simp only [h1]
   split at h
   · cases h
   rename_i hq
   obtain ⟨q1,q2⟩:=Qlt h
   refine ⟨q1,fun st2 h2=>?_⟩
   rw [h1] at h2
   cases h2
   refine ⟨fun hk d hd=>?_,q2⟩
   simp only [hk,hd,Bool.true_and,Bool.not_eq_true,Qj9] at hq
   exact hq
def nrT (ds:List Nat) (T:Tm):Bool:=T.all fun p=>nrV ds p.2
theorem Qwf {ds:List Nat}:∀ {T:Tm},nrT ds T=true→∀ s,nrV ds (Qan T s)=true
 | [],_,s=>rfl
 | (k,v)::r,h,s=>by
   simp only [nrT,List.all_cons,Qba] at h
   simp only [Qan]
   split
   · exact h.1
   · exact Qwf h.2 s
def Qdj (cf:CF) (ds:List Nat):St→List IOp→Option St
 | st,[]=>if nrT ds st.T=true then some st else none
 | st,o::r=>if (nrT ds st.T && Qmf ds st.T o)=true then match Qar cf st o with
   | some st1=>if (Qdw o.k && Qj9 st1 o.dst)=true then none else Qdj cf ds st1 r
   | none=>none
   else none
theorem Qm1 {cf:CF} {ds:List Nat}:∀ {ops:List IOp} {st s:St},Qdj cf ds st ops=some s→Qag cf st ops=some s∧okX cf ds st ops
 | [],st,s,h=>by
   simp only [Qdj] at h
   split at h
   · rename_i hn;exact ⟨h,Qwf hn⟩
   · cases h
 | o::r,st,s,h=>by
   simp only [Qdj] at h
   simp only [Qag]
   split at h
   rotate_left
   · cases h
   rename_i hc
   simp only [Qba] at hc
   split at h
   rotate_left
   · cases h
   rename_i st1 h1
   simp only [h1]
   split at h
   · cases h
   rename_i hq
   obtain ⟨q1,q2⟩:=Qm1 h
   refine ⟨q1,Qwf hc.1,hc.2,fun st2 h2=>?_⟩
   rw [h1] at h2
   cases h2
   refine ⟨fun hk d hd=>?_,q2⟩
   simp only [hk,hd,Bool.true_and,Bool.not_eq_true,Qj9] at hq
   exact hq
section
variable {tb:Tbl} {st:St} {Q:Ex→St→Prop}
theorem Jzg {ops ord live alts st1 st2} (hn:Qx1 st ops=true) (h:Qdi (Qcb tb) st (Qaf ops ord)=some st1) (hc:st1.cut live=st2) (ha:∀ p ∈ alts,∃ st3,Qdi (Qcb tb) st (Qaf ops p)=some st3∧st3.cut live=st2) (hq:Q .normal st2):wp tb (.regd ops ord live alts) st Q:=by
 subst hc
 obtain ⟨h1,h2⟩:=Qlt h
 refine ⟨hn,h2,st1,h1,fun p hp=>?_,hq⟩
 obtain ⟨st3,g1,g2⟩:=ha p hp
 obtain ⟨g3,g4⟩:=Qlt g1
 exact ⟨g4,st3,g3,.inl g2⟩
theorem Qpc {ops ord live alts b st1 st2} (hn:Qx1 st ops=true) (h:Qdi (Qcb tb) st (Qaf ops ord)=some st1) (hc:st1.cut live=st2) (ha:∀ p ∈ alts,∃ st3,Qdi (Qcb tb) st (Qaf ops p)=some st3∧st3.cut live=st2) (hb:wp tb b st2 Q):wp tb (.seq (.regd ops ord live alts) b) st Q:=by
 simp only [Qv9]
 exact Jzg (Q:=fun ex st'=>match ex with | .normal=>wp tb b st' Q | e=>Q e st') hn h hc ha hb
theorem Jtq {ops ord live ds alts st1 st2} (hn:Qn0 st ops=true) (h:Qdj (Qcb tb) ds st (Qaf ops ord)=some st1) (hc:st1.cut live=st2) (ha:∀ p ∈ alts,∃ st3,Qdj (Qcb tb) ds st (Qaf ops p)=some st3∧st3.cut live=st2) (hq:Q .normal st2):wp tb (.regx ops ord live ds alts) st Q:=by
 subst hc
 obtain ⟨h1,h2⟩:=Qm1 h
 refine ⟨hn,h2,st1,h1,fun p hp=>?_,hq⟩
 obtain ⟨st3,g1,g2⟩:=ha p hp
 obtain ⟨g3,g4⟩:=Qm1 g1
 exact ⟨g4,st3,g3,g2⟩
theorem Jix {ops ord live ds alts b st1 st2} (hn:Qn0 st ops=true) (h:Qdj (Qcb tb) ds st (Qaf ops ord)=some st1) (hc:st1.cut live=st2) (ha:∀ p ∈ alts,∃ st3,Qdj (Qcb tb) ds st (Qaf ops p)=some st3∧st3.cut live=st2) (hb:wp tb b st2 Q):wp tb (.seq (.regx ops ord live ds alts) b) st Q:=by
 simp only [Qv9]
 exact Jtq (Q:=fun ex st'=>match ex with | .normal=>wp tb b st' Q | e=>Q e st') hn h hc ha hb
theorem Qx6 {ops ord live b st1 st2} (hn:Qx1 st ops=true) (h:Qdi (Qcb tb) st (Qaf ops ord)=some st1) (hc:st1.cut live=st2) (hb:wp tb b st2 Q):wp tb (.seq (.regd ops ord live []) b) st Q:=Qpc hn h hc (fun _ h=>nomatch h) hb
end
attribute [simp] St.freezeBox Qdi Qci Qdw Qev Qj9 Qdj nrT nrV nrA nr1 Qe7 Qmf Qew Qhz Qee Jaj qX unV Qn0 Qf9
section
variable {tb:Tbl} {st:St} {Q:Ex→St→Prop}
theorem wr {ops live b st1 st2} (h:Qag (Qcb tb) st ops=some st1) (hb:wp tb b st2 Q) (hc:st1.cut live=st2:=by simp;with_reducible rfl):wp tb (.seq (.reg ops live []) b) st Q:=Qf2 h hc hb
theorem wq {ops live st1 st2} (h:Qag (Qcb tb) st ops=some st1) (hq:Q .normal st2) (hc:st1.cut live=st2:=by simp;with_reducible rfl):wp tb (.reg ops live []) st Q:=Jez h hc hq
theorem wt {c a b d} (hc:rd st.T c=.sc (.bool true)) (h:wp tb (.seq a d) st Q):wp tb (.seq (.cond c a b) d) st Q:=Qqb (t:=true) hc (fun _=>h) (fun h=>nomatch h)
theorem wf {c a b d} (hc:rd st.T c=.sc (.bool false)) (h:wp tb (.seq b d) st Q):wp tb (.seq (.cond c a b) d) st Q:=Qqb (t:=false) hc (fun h=>nomatch h) (fun _=>h)
theorem xt {c a b} (hc:rd st.T c=.sc (.bool true)) (h:wp tb a st Q):wp tb (.cond c a b) st Q:=wp_c (t:=true) hc (fun _=>h) (fun h=>nomatch h)
theorem xf {c a b} (hc:rd st.T c=.sc (.bool false)) (h:wp tb b st Q):wp tb (.cond c a b) st Q:=wp_c (t:=false) hc (fun h=>nomatch h) (fun _=>h)
end
end Go.Idl
