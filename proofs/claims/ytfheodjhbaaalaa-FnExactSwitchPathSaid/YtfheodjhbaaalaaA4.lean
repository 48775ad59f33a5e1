/- Part 4 of a proof by an ideal interpreter of the code: its definitions and lemmas. Conditions: none. -/
import Derived.Deep.Fields
import Derived.Deep.Slices
import Derived.Lib.SmallJoins
import Derived.Test.YtfheodjhbaaalaaA3
set_option linter.all false
set_option linter.unusedVariables false
set_option linter.unusedSimpArgs false
namespace Go.Idl
open Go
def Ev (tb:Tbl) (f:Lab) (lent:List Nat) (args:List IV) (M:List Qal) (r:Ret):Prop:=∃ N,∀ n,N≤n→Qcf tb n f lent args M=some r
open Classical in
noncomputable def Qcm (tb:Tbl):CF:=fun f lent args M=>if h:∃ r,Ev tb f lent args M r then some (Classical.choose h) else none
def WO (tb:Tbl) (ops:List IOp) (st:St) (Q:St→Prop):Prop:=∃ st',Qag (Qcm tb) st ops=some st'∧Q st'
def Qn4 (step:St→(Ex→St→Prop)→Prop) (Q:Ex→St→Prop):Nat→St→Prop
 | 0,_=>False
 | k+1,st=>step st fun ex st'=>match ex with
   | .normal=>Qn4 step Q k st'
   | e=>Q e st'
def Jbj (x:Opd) (t:Nat) (live:List Nat) (st:St) (f:St→(Ex→St→Prop)→Prop) (Q:Ex→St→Prop):Prop:=match Qjs (rd st.T x) with
 | some false=>f (st.flag t false live) Q
 | some true=>∃ ex st',f (st.flag t true live) (fun e s=>e=ex∧s=st')∧f (st.flag t false live) (fun e s=>e=ex∧s=st')∧Q ex st'
 | none=>False
def wp (tb:Tbl):IC→St→(Ex→St→Prop)→Prop
 | .skip,st,Q=>Q .normal st
 | .reg ops live alts,st,Q=>WO tb ops st fun st1=>(∀ p ∈ alts,WO tb (Qae ops p) st fun st2=>st2.cut live=st1.cut live)∧Q .normal (st1.cut live)
 | .regd ops ord live alts,st,Q=>Qua st ops=true∧Qf0 (Qcm tb) st (Qae ops ord)∧WO tb (Qae ops ord) st fun st1=>(∀ p ∈ alts,Qf0 (Qcm tb) st (Qae ops p)∧WO tb (Qae ops p) st fun st2=>(st2.cut live).alike st.loc.length (st1.cut live))∧Q .normal (st1.cut live)
 | .regx ops ord live ds alts,st,Q=>Qn3 st ops=true∧okX (Qcm tb) ds st (Qae ops ord)∧WO tb (Qae ops ord) st fun st1=>(∀ p ∈ alts,okX (Qcm tb) ds st (Qae ops p)∧WO tb (Qae ops p) st fun st2=>st2.cut live=st1.cut live)∧Q .normal (st1.cut live)
 | .regw ops s t live,st,Q=>WO tb ops st fun st1=>∃ st2,st1.swapS s t=some st2∧Q .normal (st2.cut live)
 | .seq a b,st,Q=>wp tb a st fun ex st'=>match ex with
   | .normal=>wp tb b st' Q
   | e=>Q e st'
 | .nilc ops x t live y,st,Q=>WO tb ops st fun st1=>Jbj x t live st1 (wp tb y) Q
 | .nilc2 ops x t live y1 y2,st,Q=>WO tb ops st fun st1=>Jbj x t live st1 (fun st Q=>wp tb y1 st fun ex st'=>match ex with
   | .normal=>wp tb y2 st' Q
   | e=>Q e st') Q
 | .ubx ops0 ops1 live y,st,Q=>∃ st1,Qfd (Qcm tb) st ops0 ops1=some st1∧wp tb y (st1.cut live) Q
 | .cond c a b,st,Q=>match rd st.T c with
   | .sc (.bool t)=>if t=true then wp tb a st Q else wp tb b st Q
   | _=>False
 | .block id b,st,Q=>wp tb b st fun ex st'=>match ex with
   | .exit i=>if i=id then Q .normal st' else Q (.exit i) st'
   | e=>Q e st'
 | .loop b,st,Q=>∃ k,Qn4 (wp tb b) Q k st
 | .exit id,st,Q=>Q (.exit id) st
 | .ret,st,Q=>Q .ret st
section
variable {tb:Tbl}
theorem Ev.det {f lent args M r r'} (h:Ev tb f lent args M r) (h':Ev tb f lent args M r'):r=r':=by
 obtain ⟨N,hN⟩:=h
 obtain ⟨N',hN'⟩:=h'
 have h1:=hN (max N N') (by omega)
 have h2:=hN' (max N N') (by omega)
 rw [h1] at h2
 exact Option.some.inj h2
theorem Qni {f lent args M r} (h:Qcm tb f lent args M=some r):Ev tb f lent args M r:=by
 unfold Qcm at h
 split at h
 · rename_i hex
   simp only [Qoi] at h
   rw [← h];exact Classical.choose_spec hex
 · cases h
theorem Qab {f lent args M r} (h:Ev tb f lent args M r):Qcm tb f lent args M=some r:=by
 have hex:∃ r,Ev tb f lent args M r:=⟨r,h⟩
 unfold Qcm
 rw [dif_pos hex]
 congr 1
 exact (Classical.choose_spec hex).det h
theorem Qk8 {st:St} {f:Lab} {args:List (Mode×Opd)} {v:IV} {st':St} (h:st.callWithH (Qcm tb) f args=some (v,st')) :
 ∃ N,∀ n,N≤n→st.callWithH (Qcf tb n) f args=some (v,st'):=by
 unfold St.callWithH at h ⊢
 split at h
 rotate_left
 · cases h
 rename_i vs st1 fz ss hargs
 split at h
 · cases h
 rename_i hc
 split at h
 rotate_left
 · cases h
 rename_i hlv
 cases hl:Qcm tb f (Qj0 args 0) vs (st1.M++[[]]) with
 | none=>simp [hl] at h
 | some r =>
 obtain ⟨N,hN⟩:=Qni hl
 rw [hl] at h
 refine ⟨N,fun n hn=>?_⟩
 simp only [hc,hlv,if_true,if_false,Bool.false_eq_true,hN n hn]
 exact h
theorem Qcj {st:St} {f:Lab} {caps:List IV} {args:List (Mode×Opd)} {p:Bool} {v:IV} {st':St} (h:st.callWith (Qcm tb) f caps args p=some (v,st')) :
 ∃ N,∀ n,N≤n→st.callWith (Qcf tb n) f caps args p=some (v,st'):=by
 unfold St.callWith at h ⊢
 split at h
 rotate_left
 · cases h
 rename_i vs st1 fz ss hargs
 cases p with
 | true =>
   simp only [if_true] at h ⊢
   split at h
   · cases h
   rename_i hc
   cases hl:Qcm tb f [] vs [] with
   | none=>simp [hl] at h
   | some r =>
   obtain ⟨N,hN⟩:=Qni hl
   rw [hl] at h
   refine ⟨N,fun n hn=>?_⟩
   simp only [hc,if_false,Bool.false_eq_true,hN n hn]
   exact h
 | false =>
   simp only [Bool.false_eq_true,if_false] at h ⊢
   split at h
   · cases h
   rename_i hc
   cases hl:Qcm tb f (Qj0 args 0) (vs++caps) (st1.M++[st1.loc]) with
   | none=>simp [hl] at h
   | some r =>
   obtain ⟨N,hN⟩:=Qni hl
   rw [hl] at h
   refine ⟨N,fun n hn=>?_⟩
   simp only [hc,if_false,Bool.false_eq_true,hN n hn]
   exact h
theorem Quw {st:St} {f:Lab} {x:Opd} {v:IV} {st':St} (h:st.callP (Qcm tb) f x=some (v,st')):∃ N,∀ n,N≤n→st.callP (Qcf tb n) f x=some (v,st'):=by
 unfold St.callP at h ⊢
 split at h
 rotate_left
 · cases h
 split at h
 rotate_left
 · cases h
 rename_i e es hp
 split at h
 rotate_left
 · cases h
 rename_i hn
 cases hl:Qcm tb f [0] [.own e es] [] with
 | none=>simp [hl] at h
 | some r =>
   obtain ⟨N,hN⟩:=Qni hl
   rw [hl] at h
   refine ⟨N,fun n hn'=>?_⟩
   simp only [hp,if_pos hn,hN n hn']
   exact h
theorem Qww {st:St} {f:Lab} {x k:Opd} {v:IV} {st':St} (h:st.callM (Qcm tb) f x k=some (v,st')):∃ N,∀ n,N≤n→st.callM (Qcf tb n) f x k=some (v,st'):=by
 unfold St.callM at h ⊢
 split at h
 rotate_left
 · cases h
 rename_i kv hk
 split at h
 rotate_left
 · cases h
 rename_i wr r c p e0 n0 hld
 split at h
 rotate_left
 · cases h
 rename_i e es hp
 split at h
 rotate_left
 · cases h
 rename_i hn
 cases hl:Qcm tb f [0] [Qlu wr (.own e es),.sc kv] [] with
 | none=>simp [hl] at h
 | some r =>
   obtain ⟨N,hN⟩:=Qni hl
   rw [hl] at h
   refine ⟨N,fun n hn'=>?_⟩
   simp only [hp,if_pos hn,hN n hn']
   exact h
theorem Jek {st:St} {k:K} {v:IV} {st':St} (h:ev (Qcm tb) st k=some (v,st')):∃ N,∀ n,N≤n→ev (Qcf tb n) st k=some (v,st'):=by
 cases k with
 | call f args p=>exact Qcj h
 | callq f args=>exact Qcj h
 | callh f args=>exact Qk8 h
 | callp f x=>exact Quw h
 | callm f x k =>
   simp only [ev] at h ⊢
   split at h
   · exact Qww h
   · exact Qcj h
 | callz f x k =>
   simp only [ev] at h ⊢
   split at h
   · exact Qcj h
   · exact Qcj h
 | callv x args =>
   simp only [ev] at h ⊢
   split at h
   · exact Qcj h
   · cases h
 | _=>exact ⟨0,fun n _=>h⟩
theorem Qvq {st:St} {o:IOp} {st':St} (h:Qar (Qcm tb) st o=some st'):∃ N,∀ n,N≤n→Qar (Qcf tb n) st o=some st':=by
 unfold Qar at h ⊢
 have run:∀ {st'':St},(match ev (Qcm tb) st o.k with
  | some (v,st')=>match o.dst with
    | some d=>some { st' with T:=tput st'.T d v }
    | none=>some st'
  | none=>none)=some st''→∃ N,∀ n,N≤n→(match ev (Qcf tb n) st o.k with
  | some (v,st')=>match o.dst with
    | some d=>some { st' with T:=tput st'.T d v }
    | none=>some st'
  | none=>none)=some st'':=by
  intro st'' h
  cases hl:ev (Qcm tb) st o.k with
  | none=>simp [hl] at h
  | some p =>
    obtain ⟨v,s⟩:=p
    obtain ⟨N,hN⟩:=Jek hl
    rw [hl] at h
    exact ⟨N,fun n hn=>by rw [hN n hn];exact h⟩
 split at h
 · exact run h
 · split at h
   · split at h
     · rename_i hc
       obtain ⟨N,hN⟩:=run h
       refine ⟨N,fun n hn=>?_⟩
       simp only [hc,if_true]
       exact hN n hn
     · rename_i hc
       exact ⟨0,fun n _=>by simp only [hc,if_false];exact h⟩
   · exact ⟨0,fun n _=>h⟩
   · cases h
theorem Qe7:∀ {ops:List IOp} {st st':St},Qag (Qcm tb) st ops=some st'→∃ N,∀ n,N≤n→Qag (Qcf tb n) st ops=some st'
 | [],st,st',h=>⟨0,fun _ _=>h⟩
 | o::r,st,st',h=>by
   simp only [Qag] at h ⊢
   split at h
   · rename_i st1 h1
     obtain ⟨N,hN⟩:=Qvq h1
     obtain ⟨N',hN'⟩:=Qe7 h
     exact ⟨max N N',fun n hn=>by simp only [hN n (by omega),hN' n (by omega)]⟩
   · cases h
theorem Qjh:∀ {ops:List IOp} {st st':St},Qag (Qcm tb) st ops=some st'→Qf0 (Qcm tb) st ops→∃ N,∀ n,N≤n→Qf0 (Qcf tb n) st ops
 | [],_,_,_,_=>⟨0,fun _ _=>trivial⟩
 | o::r,st,st',h,hk=>by
   simp only [Qag] at h
   split at h
   rotate_left
   · cases h
   rename_i st1 h1
   obtain ⟨k1,k2⟩:=hk st1 h1
   obtain ⟨N,hN⟩:=Qvq h1
   obtain ⟨N',hN'⟩:=Qjh h k2
   refine ⟨max N N',fun n hn st2 h2=>?_⟩
   rw [hN n (by omega)] at h2
   cases h2
   exact ⟨k1,hN' n (by omega)⟩
theorem Qpa {ds:List Nat}:∀ {ops:List IOp} {st st':St},Qag (Qcm tb) st ops=some st'→okX (Qcm tb) ds st ops→∃ N,∀ n,N≤n→okX (Qcf tb n) ds st ops
 | [],_,_,_,hk=>⟨0,fun _ _=>hk⟩
 | o::r,st,st',h,hk=>by
   simp only [Qag] at h
   split at h
   rotate_left
   · cases h
   rename_i st1 h1
   obtain ⟨k01,k02,k⟩:=hk
   obtain ⟨k1,k2⟩:=k st1 h1
   obtain ⟨N,hN⟩:=Qvq h1
   obtain ⟨N',hN'⟩:=Qpa h k2
   refine ⟨max N N',fun n hn=>⟨k01,k02,fun st2 h2=>?_⟩⟩
   rw [hN n (by omega)] at h2
   cases h2
   exact ⟨k1,hN' n (by omega)⟩
theorem Qgt {ops:List IOp} {st:St} {Q:St→Prop} (h:WO tb ops st Q):∃ st',Q st'∧(∃ N,∀ n,N≤n→Qag (Qcf tb n) st ops=some st')∧∀ Q':St→Prop,Q' st'→WO tb ops st Q':=by
 obtain ⟨st',h1,h2⟩:=h
 exact ⟨st',h2,Qe7 h1,fun Q' hQ'=>⟨st',h1,hQ'⟩⟩
def Runs (tb:Tbl) (c:IC) (st:St) (ex:Ex) (st':St):Prop:=∃ N,∀ n,N≤n→∀ m,N≤m→Qco (Qcf tb n) m c st=some (ex,st')
theorem Jev {st st1:St} {ops0 ops1:List IOp} (h:Qfd (Qcm tb) st ops0 ops1=some st1):∃ N,∀ n,N≤n→Qfd (Qcf tb n) st ops0 ops1=some st1:=by
 unfold Qfd at h ⊢
 split at h
 rotate_left
 · cases h
 split at h
 rotate_left
 · cases h
 rename_i st2 h1
 obtain ⟨N,hN⟩:=Qe7 h1
 split at h
 rotate_left
 · cases h
 rename_i xs hrd
 split at h
 rotate_left
 · cases h
 rename_i x hsub
 obtain ⟨N2,hN2⟩:=Qe7 h
 refine ⟨max N N2,fun n hn=>?_⟩
 simp only [hN n (by omega),hrd,hsub]
 exact hN2 n (by omega)
theorem Qbi:∀ {c:IC} {st:St} {Q:Ex→St→Prop},wp tb c st Q→∃ ex st',Q ex st'∧Runs tb c st ex st'∧∀ Q':Ex→St→Prop,Q' ex st'→wp tb c st Q'
 | .skip,st,Q,h=>⟨.normal,st,h,⟨0,fun _ _ _ _=>rfl⟩,fun _ h=>h⟩
 | .exit id,st,Q,h=>⟨.exit id,st,h,⟨0,fun _ _ _ _=>rfl⟩,fun _ h=>h⟩
 | .ret,st,Q,h=>⟨.ret,st,h,⟨0,fun _ _ _ _=>rfl⟩,fun _ h=>h⟩
 | .reg ops live alts,st,Q,h=>by
   simp only [wp] at h
   obtain ⟨st1,⟨h1,h2⟩,⟨N,hN⟩,h3⟩:=Qgt h
   have halt:∃ N,∀ n,N≤n→∀ p ∈ alts,∃ st2,Qag (Qcf tb n) st (Qae ops p)=some st2∧st2.cut live=st1.cut live:=by
    clear h h3
    induction alts with
    | nil=>exact ⟨0,fun _ _ p hp=>by cases hp⟩
    | cons p ps ih =>
      obtain ⟨N1,hN1⟩:=ih (fun q hq=>h1 q (by simp [hq]))
      obtain ⟨st2,q1,⟨N2,hN2⟩,-⟩:=Qgt (h1 p (by simp))
      refine ⟨max N1 N2,fun n hn q hq=>?_⟩
      rcases List.mem_cons.1 hq with rfl | hq
      · exact ⟨st2,hN2 n (by omega),q1⟩
      · exact hN1 n (by omega) q hq
   obtain ⟨N',hN'⟩:=halt
   refine ⟨.normal,st1.cut live,h2,⟨max N N',fun n hn m hm=>?_⟩,fun Q' hQ'=>?_⟩
   · simp only [Qco,Qoq,hN n (by omega)]
     rw [if_pos (hN' n (by omega))]
   · simp only [wp];exact h3 _ ⟨h1,hQ'⟩
 | .regd ops ord live alts,st,Q,h=>by
   simp only [wp] at h
   obtain ⟨hn,hok,st1,h0,h1,h2⟩:=h
   obtain ⟨N,hN⟩:=Qe7 h0
   obtain ⟨N',hN'⟩:=Qjh h0 hok
   have halt:∃ N,∀ n,N≤n→∀ p ∈ alts,Qf0 (Qcf tb n) st (Qae ops p)∧∃ st2,Qag (Qcf tb n) st (Qae ops p)=some st2∧(st2.cut live).alike st.loc.length (st1.cut live):=by
    clear h2
    induction alts with
    | nil=>exact ⟨0,fun _ _ p hp=>by cases hp⟩
    | cons p ps ih =>
      obtain ⟨N1,hN1⟩:=ih (fun q hq=>h1 q (by simp [hq]))
      obtain ⟨g1,st2,g2,g3⟩:=h1 p (by simp)
      obtain ⟨N2,hN2⟩:=Qe7 g2
      obtain ⟨N3,hN3⟩:=Qjh g2 g1
      refine ⟨max N1 (max N2 N3),fun n hn q hq=>?_⟩
      rcases List.mem_cons.1 hq with rfl | hq
      · exact ⟨hN3 n (by omega),st2,hN2 n (by omega),g3⟩
      · exact hN1 n (by omega) q hq
   obtain ⟨N2,hN2⟩:=halt
   refine ⟨.normal,st1.cut live,h2,⟨max N (max N' N2),fun n hn' m hm=>?_⟩,fun Q' hQ'=>?_⟩
   · simp only [Qco,Ql2,hN n (by omega)]
     rw [if_pos ⟨hn,hN' n (by omega),hN2 n (by omega)⟩]
   · simp only [wp];exact ⟨hn,hok,st1,h0,h1,hQ'⟩
 | .regx ops ord live ds alts,st,Q,h=>by
   simp only [wp] at h
   obtain ⟨hn,hok,st1,h0,h1,h2⟩:=h
   obtain ⟨N,hN⟩:=Qe7 h0
   obtain ⟨N',hN'⟩:=Qpa h0 hok
   have halt:∃ N,∀ n,N≤n→∀ p ∈ alts,okX (Qcf tb n) ds st (Qae ops p)∧∃ st2,Qag (Qcf tb n) st (Qae ops p)=some st2∧st2.cut live=st1.cut live:=by
    clear h2
    induction alts with
    | nil=>exact ⟨0,fun _ _ p hp=>by cases hp⟩
    | cons p ps ih =>
      obtain ⟨N1,hN1⟩:=ih (fun q hq=>h1 q (by simp [hq]))
      obtain ⟨g1,st2,g2,g3⟩:=h1 p (by simp)
      obtain ⟨N2,hN2⟩:=Qe7 g2
      obtain ⟨N3,hN3⟩:=Qpa g2 g1
      refine ⟨max N1 (max N2 N3),fun n hn q hq=>?_⟩
      rcases List.mem_cons.1 hq with rfl | hq
      · exact ⟨hN3 n (by omega),st2,hN2 n (by omega),g3⟩
      · exact hN1 n (by omega) q hq
   obtain ⟨N2,hN2⟩:=halt
   refine ⟨.normal,st1.cut live,h2,⟨max N (max N' N2),fun n hn' m hm=>?_⟩,fun Q' hQ'=>?_⟩
   · simp only [Qco,Qk6,hN n (by omega)]
     rw [if_pos ⟨hn,hN' n (by omega),hN2 n (by omega)⟩]
   · simp only [wp];exact ⟨hn,hok,st1,h0,h1,hQ'⟩
 | .regw ops s t live,st,Q,h=>by
   simp only [wp] at h
   obtain ⟨st1,⟨st2,h1,h2⟩,⟨N,hN⟩,h3⟩:=Qgt h
   refine ⟨.normal,st2.cut live,h2,⟨N,fun n hn m hm=>?_⟩,fun Q' hQ'=>?_⟩
   · simp only [Qco,hN n hn,h1]
   · simp only [wp];exact h3 _ ⟨st2,h1,hQ'⟩
 | .seq a b,st,Q,h=>by
   simp only [wp] at h
   obtain ⟨ex,st1,h1,⟨N,hN⟩,h2⟩:=Qbi h
   cases ex with
   | normal =>
     obtain ⟨ex2,st2,q1,⟨N2,hN2⟩,q2⟩:=Qbi h1
     refine ⟨ex2,st2,q1,⟨max N N2,fun n hn m hm=>?_⟩,fun Q' hQ'=>?_⟩
     · simp only [Qco,hN n (by omega) m (by omega),hN2 n (by omega) m (by omega)]
     · simp only [wp];exact h2 _ (q2 _ hQ')
   | exit id =>
     refine ⟨.exit id,st1,h1,⟨N,fun n hn m hm=>?_⟩,fun Q' hQ'=>?_⟩
     · simp only [Qco,hN n hn m hm]
     · simp only [wp];exact h2 _ hQ'
   | ret =>
     refine ⟨.ret,st1,h1,⟨N,fun n hn m hm=>?_⟩,fun Q' hQ'=>?_⟩
     · simp only [Qco,hN n hn m hm]
     · simp only [wp];exact h2 _ hQ'
 | .cond c a b,st,Q,h=>by
   simp only [wp] at h
   split at h
   rotate_left
   · exact h.elim
   rename_i t ht
   cases t with
   | true =>
     simp only [if_true] at h
     obtain ⟨ex,st1,h1,⟨N,hN⟩,h2⟩:=Qbi h
     refine ⟨ex,st1,h1,⟨N,fun n hn m hm=>?_⟩,fun Q' hQ'=>?_⟩
     · simp only [Qco,ht,if_true,hN n hn m hm]
     · simp only [wp,ht,if_true];exact h2 _ hQ'
   | false =>
     simp only [Bool.false_eq_true,if_false] at h
     obtain ⟨ex,st1,h1,⟨N,hN⟩,h2⟩:=Qbi h
     refine ⟨ex,st1,h1,⟨N,fun n hn m hm=>?_⟩,fun Q' hQ'=>?_⟩
     · simp only [Qco,ht,Bool.false_eq_true,if_false,hN n hn m hm]
     · simp only [wp,ht,Bool.false_eq_true,if_false];exact h2 _ hQ'
 | .block id b,st,Q,h=>by
   simp only [wp] at h
   obtain ⟨ex,st1,h1,⟨N,hN⟩,h2⟩:=Qbi h
   cases ex with
   | normal =>
     refine ⟨.normal,st1,h1,⟨N,fun n hn m hm=>?_⟩,fun Q' hQ'=>?_⟩
     · simp only [Qco,hN n hn m hm]
     · simp only [wp];exact h2 _ hQ'
   | ret =>
     refine ⟨.ret,st1,h1,⟨N,fun n hn m hm=>?_⟩,fun Q' hQ'=>?_⟩
     · simp only [Qco,hN n hn m hm]
     · simp only [wp];exact h2 _ hQ'
   | exit i =>
     simp only at h1
     by_cases hi:i=id
     · rw [if_pos hi] at h1
       refine ⟨.normal,st1,h1,⟨N,fun n hn m hm=>?_⟩,fun Q' hQ'=>?_⟩
       · simp only [Qco,hN n hn m hm,hi,if_true]
       · simp only [wp];exact h2 _ (by simp only [hi,if_true];exact hQ')
     · rw [if_neg hi] at h1
       refine ⟨.exit i,st1,h1,⟨N,fun n hn m hm=>?_⟩,fun Q' hQ'=>?_⟩
       · simp only [Qco,hN n hn m hm,hi,if_false]
       · simp only [wp];exact h2 _ (by simp only [hi,if_false];exact hQ')
 | .loop b,st,Q,h=>by
   simp only [wp] at h
   obtain ⟨k,h⟩:=h
   have key:∀ (k:Nat) (st:St),Qn4 (wp tb b) Q k st→∃ ex st',Q ex st'∧(∃ N,∀ n,N≤n→∀ m,N≤m→∀ j,N≤j→Jax (Qco (Qcf tb n) m b) j st=some (ex,st'))∧∀ Q':Ex→St→Prop,Q' ex st'→Qn4 (wp tb b) Q' k st:=by
    intro k
    induction k with
    | zero=>intro st h;exact h.elim
    | succ k ih =>
      intro st h
      simp only [Qn4] at h
      obtain ⟨ex,st1,h1,⟨N,hN⟩,h2⟩:=Qbi h
      cases ex with
      | normal =>
        obtain ⟨ex2,st2,q1,⟨N2,hN2⟩,q2⟩:=ih st1 h1
        refine ⟨ex2,st2,q1,⟨max N N2+1,fun n hn m hm j hj=>?_⟩,fun Q' hQ'=>?_⟩
        · obtain ⟨j',rfl⟩:∃ j',j=j'+1:=⟨j - 1,by omega⟩
          simp only [Jax,hN n (by omega) m (by omega),hN2 n (by omega) m (by omega) j' (by omega)]
        · simp only [Qn4];exact h2 _ (q2 _ hQ')
      | exit i =>
        refine ⟨.exit i,st1,h1,⟨N+1,fun n hn m hm j hj=>?_⟩,fun Q' hQ'=>?_⟩
        · obtain ⟨j',rfl⟩:∃ j',j=j'+1:=⟨j - 1,by omega⟩
          simp only [Jax,hN n (by omega) m (by omega)]
        · simp only [Qn4];exact h2 _ hQ'
      | ret =>
        refine ⟨.ret,st1,h1,⟨N+1,fun n hn m hm j hj=>?_⟩,fun Q' hQ'=>?_⟩
        · obtain ⟨j',rfl⟩:∃ j',j=j'+1:=⟨j - 1,by omega⟩
          simp only [Jax,hN n (by omega) m (by omega)]
        · simp only [Qn4];exact h2 _ hQ'
   obtain ⟨ex,st',q1,⟨N,hN⟩,q2⟩:=key k st h
   exact ⟨ex,st',q1,⟨N,fun n hn m hm=>by simp only [Qco];exact hN n hn m hm m hm⟩,fun Q' hQ'=>by simp only [wp];exact ⟨k,q2 Q' hQ'⟩⟩
 | .nilc ops x t live y,st,Q,h=>by
   simp only [wp] at h
   obtain ⟨st1,h1,⟨N,hN⟩,h3⟩:=Qgt h
   unfold Jbj at h1
   split at h1
   · rename_i he
     obtain ⟨ex,st2,q1,⟨N2,hN2⟩,q2⟩:=Qbi h1
     refine ⟨ex,st2,q1,⟨max N N2,fun n hn m hm=>?_⟩,fun Q' hQ'=>?_⟩
     · simp only [Qco,Qe9,hN n (by omega),he,hN2 n (by omega) m (by omega)]
     · simp only [wp];exact h3 _ (by unfold Jbj;rw [he];exact q2 _ hQ')
   · rename_i he
     obtain ⟨ex,st',h1,h2,hQ⟩:=h1
     obtain ⟨_,_,⟨rfl,rfl⟩,⟨N1,hN1⟩,q1⟩:=Qbi h1
     obtain ⟨_,_,⟨rfl,rfl⟩,⟨N2,hN2⟩,q2⟩:=Qbi h2
     refine ⟨_,_,hQ,⟨max N (max N1 N2),fun n hn m hm=>?_⟩,fun Q' hQ'=>?_⟩
     · simp only [Qco,Qe9,hN n (by omega),he,hN1 n (by omega) m (by omega),hN2 n (by omega) m (by omega),if_true]
     · simp only [wp];exact h3 _ (by unfold Jbj;rw [he];exact ⟨_,_,h1,h2,hQ'⟩)
   · exact h1.elim
 | .ubx ops0 ops1 live y,st,Q,h=>by
   simp only [wp] at h
   obtain ⟨st1,h0,h1⟩:=h
   obtain ⟨N,hN⟩:=Jev h0
   obtain ⟨ex,st2,q1,⟨N2,hN2⟩,q2⟩:=Qbi h1
   refine ⟨ex,st2,q1,⟨max N N2,fun n hn m hm=>?_⟩,fun Q' hQ'=>?_⟩
   · simp only [Qco,hN n (by omega)];exact hN2 n (by omega) m (by omega)
   · simp only [wp];exact ⟨st1,h0,q2 _ hQ'⟩
 | .nilc2 ops x t live y1 y2,st,Q,h=>by
   simp only [wp] at h
   obtain ⟨st1,h1,⟨N,hN⟩,h3⟩:=Qgt h
   have two:∀ {st:St} {Q:Ex→St→Prop},(wp tb y1 st fun ex st'=>match ex with | .normal=>wp tb y2 st' Q | e=>Q e st')→∃ ex st',Q ex st'∧(∃ N,∀ n,N≤n→∀ m,N≤m→Jju (Qco (Qcf tb n) m y1) (Qco (Qcf tb n) m y2) st=some (ex,st'))∧∀ Q':Ex→St→Prop,Q' ex st'→(wp tb y1 st fun ex st'=>match ex with | .normal=>wp tb y2 st' Q' | e=>Q' e st'):=by
    intro st Q h
    obtain ⟨ex,st1,h1,⟨N,hN⟩,h2⟩:=Qbi h
    cases ex with
    | normal =>
      obtain ⟨ex2,st2,q1,⟨N2,hN2⟩,q2⟩:=Qbi h1
      exact ⟨ex2,st2,q1,⟨max N N2,fun n hn m hm=>by simp only [Jju,hN n (by omega) m (by omega),hN2 n (by omega) m (by omega)]⟩,fun Q' hQ'=>h2 _ (q2 _ hQ')⟩
    | exit id=>exact ⟨.exit id,st1,h1,⟨N,fun n hn m hm=>by simp only [Jju,hN n hn m hm]⟩,fun Q' hQ'=>h2 _ hQ'⟩
    | ret=>exact ⟨.ret,st1,h1,⟨N,fun n hn m hm=>by simp only [Jju,hN n hn m hm]⟩,fun Q' hQ'=>h2 _ hQ'⟩
   unfold Jbj at h1
   split at h1
   · rename_i he
     obtain ⟨ex,st2,q1,⟨N2,hN2⟩,q2⟩:=two h1
     refine ⟨ex,st2,q1,⟨max N N2,fun n hn m hm=>?_⟩,fun Q' hQ'=>?_⟩
     · simp only [Qco,Qe9,hN n (by omega),he];exact hN2 n (by omega) m (by omega)
     · simp only [wp];exact h3 _ (by unfold Jbj;rw [he];exact q2 _ hQ')
   · rename_i he
     obtain ⟨ex,st',h1,h2,hQ⟩:=h1
     obtain ⟨_,_,⟨rfl,rfl⟩,⟨N1,hN1⟩,q1⟩:=two h1
     obtain ⟨_,_,⟨rfl,rfl⟩,⟨N2,hN2⟩,q2⟩:=two h2
     refine ⟨_,_,hQ,⟨max N (max N1 N2),fun n hn m hm=>?_⟩,fun Q' hQ'=>?_⟩
     · simp only [Qco,Qe9,hN n (by omega),he]
       rw [hN1 n (by omega) m (by omega),hN2 n (by omega) m (by omega)]
       simp
     · simp only [wp];exact h3 _ (by unfold Jbj;rw [he];exact ⟨_,_,h1,h2,hQ'⟩)
   · exact h1.elim
theorem wW {b:IC} {st:St} {Q:Ex→St→Prop} (h:wp tb b st fun ex st'=>match ex with
 | .normal=>wp tb (.loop b) st' Q
 | e=>Q e st'):wp tb (.loop b) st Q:=by
 obtain ⟨ex,st',h1,-,h2⟩:=Qbi h
 cases ex with
 | normal =>
   simp only [wp] at h1
   obtain ⟨k,hk⟩:=h1
   exact ⟨k+1,h2 _ hk⟩
 | exit i=>exact ⟨1,h2 _ h1⟩
 | ret=>exact ⟨1,h2 _ h1⟩
def Qk3 (f:Qbu) (lent:List Nat) (st:St):Option Ret:=match st.retvs f.res with
 | some (vs,st)=>match st.backs lent with
   | some (back,st)=>st.leave (Qbw vs) back
   | none=>none
 | none=>none
theorem cW {f:Lab} {fn:Qbu} (hf:tb f=some fn) {lent:List Nat} {args:List IV} {M:List Qal} {r:Ret} (hl:lent.all fn.keep.contains=true)
 (h:wp tb fn.body { T:=args.zipIdx.map fun (v,i)=>(i,v),loc:=[],M:=M } fun ex st=>(ex=.normal ∨ ex=.ret)∧Qk3 fn lent st=some r):Ev tb f lent args M r:=by
 obtain ⟨ex,st',⟨h1,h2⟩,⟨N,hN⟩,-⟩:=Qbi h
 refine ⟨N+1,fun n hn=>?_⟩
 obtain ⟨n',rfl⟩:∃ n',n=n'+1:=⟨n - 1,by omega⟩
 simp only [Qcf,hf,Quu,hl,Bool.not_true,Bool.false_eq_true,if_false,hN n' (by omega) n' (by omega)]
 unfold Qk3 at h2
 rcases h1 with rfl | rfl <;> exact h2
end
end Go.Idl
namespace Go.Idl
open Go
abbrev I (n:Int):IV:=.sc (.int .i64 n)
abbrev Bo (b:Bool):IV:=.sc (.bool b)
def Qdj (xs:List Int):List (List IV):=xs.map fun n=>[I n]
section
variable {tb:Tbl} {st:St} {Q Q':Ex→St→Prop}
theorem Jcq {ops live st1 st2} (h:Qag (Qcm tb) st ops=some st1) (hc:st1.cut live=st2) (hq:Q .normal st2):wp tb (.reg ops live []) st Q:=by
 subst hc
 exact ⟨st1,h,by simp,hq⟩
theorem Qf1 {ops live b st1 st2} (h:Qag (Qcm tb) st ops=some st1) (hc:st1.cut live=st2) (hb:wp tb b st2 Q):wp tb (.seq (.reg ops live []) b) st Q :=
 by simp only [wp];exact Jcq (Q:=fun ex st'=>match ex with | .normal=>wp tb b st' Q | e=>Q e st') h hc hb
theorem Qea {ops live alts b st1 st2} (h:Qag (Qcm tb) st ops=some st1) (hc:st1.cut live=st2) (ha:∀ p ∈ alts,∃ st3,Qag (Qcm tb) st (Qae ops p)=some st3∧st3.cut live=st2) (hb:wp tb b st2 Q):wp tb (.seq (.reg ops live alts) b) st Q:=by
 subst hc
 simp only [wp]
 exact ⟨st1,h,ha,hb⟩
theorem wA {a b c} (h:wp tb (.seq a (.seq b c)) st Q):wp tb (.seq (.seq a b) c) st Q:=by
 simp only [wp] at h ⊢
 obtain ⟨ex,st1,h1,-,h2⟩:=Qbi h
 refine h2 _ ?_
 cases ex <;> exact h1
theorem Qux {a b}:wp tb (.seq a b) st Q=wp tb a st fun ex st'=>match ex with
 | .normal=>wp tb b st' Q
 | e=>Q e st':=rfl
theorem Qap {c} (h:wp tb c st Q) (hq:∀ ex st',Q ex st'→Q' ex st'):wp tb c st Q':=by
 obtain ⟨ex,st',h1,-,h2⟩:=Qbi h
 exact h2 _ (hq _ _ h1)
end
theorem Qan {n:Int} (h:-9223372036854775808≤n) (h':n < 9223372036854775808):IntKind.i64.wrap n=n:=by
 have e1:(2:Int) ^ IntKind.i64.bits=18446744073709551616:=by decide
 have e2:(2:Int) ^ (IntKind.i64.bits - 1)=9223372036854775808:=by decide
 have e3:IntKind.i64.signed=true:=rfl
 unfold IntKind.wrap
 rw [e1,e2,e3]
 simp only [Bool.true_and,decide_eq_true_eq,ge_iff_le]
 split <;> omega
theorem Qfk {k:IntKind} {n:Nat}:Qc1 (.sc (.int k (n:Int)))=some n:=by simp [Qc1]
@[simp] theorem ints_get? (xs:List Int) (i:Nat):(Qdj xs)[i]? = xs[i]?.map fun n=>[IV.sc (.int .i64 n)]:=by simp [Qdj]
@[simp] theorem Jvh (xs:List Int) (i:Nat) (h:i < (Qdj xs).length):(Qdj xs)[i]=[IV.sc (.int .i64 (xs[i]'(by simpa [Qdj] using h)))]:=by simp [Qdj]
section
variable {tb:Tbl} {st:St} {Q Q':Ex→St→Prop}
theorem wR (h:Q .ret st):wp tb .ret st Q:=h
theorem wK (h:Q .normal st):wp tb .skip st Q:=h
theorem wE {id} (h:Q (.exit id) st):wp tb (.exit id) st Q:=h
theorem Qpt {c a b d t} (hc:rd st.T c=.sc (.bool t)) (h1:t=true→wp tb (.seq a d) st Q) (h2:t=false→wp tb (.seq b d) st Q):wp tb (.seq (.cond c a b) d) st Q:=by
 simp only [wp,hc] at *
 cases t
 · simpa using h2 rfl
 · simpa using h1 rfl
theorem wp_c {c a b t} (hc:rd st.T c=.sc (.bool t)) (h1:t=true→wp tb a st Q) (h2:t=false→wp tb b st Q):wp tb (.cond c a b) st Q:=by
 simp only [wp,hc] at *
 cases t
 · simpa using h2 rfl
 · simpa using h1 rfl
theorem wS {b} (h:wp tb b st Q):wp tb (.seq .skip b) st Q:=h
theorem wX {b} (h:Q .ret st):wp tb (.seq .ret b) st Q:=h
theorem wY {id b} (h:Q (.exit id) st):wp tb (.seq (.exit id) b) st Q:=h
theorem wB {id b c} (h:wp tb b st fun ex st'=>match ex with
 | .normal=>wp tb c st' Q
 | .exit i=>if i=id then wp tb c st' Q else Q (.exit i) st'
 | .ret=>Q .ret st'):wp tb (.seq (.block id b) c) st Q:=by
 simp only [wp]
 refine Qap h fun ex st' hh=>?_
 cases ex with
 | normal=>exact hh
 | ret=>exact hh
 | exit i =>
   simp only at hh ⊢
   split
   · rename_i hi;rw [if_pos hi] at hh;exact hh
   · rename_i hi;rw [if_neg hi] at hh;exact hh
theorem Qaa {id b} (h:wp tb b st fun ex st'=>match ex with
 | .normal=>Q .normal st'
 | .exit i=>if i=id then Q .normal st' else Q (.exit i) st'
 | .ret=>Q .ret st'):wp tb (.block id b) st Q:=by
 simp only [wp]
 refine Qap h fun ex st' hh=>?_
 cases ex <;> exact hh
theorem Qw6 {ops x t live y1 y2 st1 b ex st'} (h:Qag (Qcm tb) st ops=some st1) (he:Qjs (rd st1.T x)=some b) (hf:wp tb (.seq y1 y2) (st1.flag t false live) (fun e s=>e=ex∧s=st'))
 (ht:b=true→wp tb (.seq y1 y2) (st1.flag t true live) (fun e s=>e=ex∧s=st')) (hq:Q ex st'):wp tb (.nilc2 ops x t live y1 y2) st Q:=by
 simp only [wp] at *
 refine ⟨st1,h,?_⟩
 unfold Jbj
 cases b with
 | false =>
   rw [he]
   obtain ⟨e,s,⟨rfl,rfl⟩,-,h2⟩:=Qbi (c:=.seq y1 y2) (by simp only [wp];exact hf)
   have:=h2 Q hq
   simpa only [wp] using this
 | true=>rw [he];exact ⟨ex,st',ht rfl,hf,hq⟩
end
theorem Qzt (xs:List Int):Qcc (Qdj xs)=Qdj xs:=by
 induction xs with
 | nil=>rfl
 | cons x xs ih=>simp only [Qdj,List.map_cons,Qcc,Qcx,Qge] at *;rw [ih]
attribute [simp] Qag Qar ev rd Qak Qig Jcw tput IV.holds tk cv cv1 Jbq restrict kl kl1 klc rootOut IV.rooted Qbd Qas dropSlot St.cut Qdg Qdr Jat sub Qfk bound Qtz St.sview St.plc St.rcells IV.cells fol St.loadCells
 Qjs St.flag putI Qae isSc IV.isSc IV.plain1 IV.plain IV.isOwn
@[simp] theorem Ju9 (xs:List Int):(Qdj xs).length=xs.length:=by simp [Qdj]
@[simp] theorem Jvl:Qdj []=[]:=rfl
@[simp] theorem Jve (xs ys:List Int):Qdj xs++Qdj ys=Qdj (xs++ys):=by simp [Qdj]
@[simp] theorem Ju6 (xs:List Int) (n:Int):Qdj xs++[[IV.sc (.int .i64 n)]]=Qdj (xs++[n]):=by simp [Qdj]
@[simp] theorem Jvt (xs:List Int) (i:Nat) (v:Int):(Qdj xs).set i [IV.sc (.int .i64 v)]=Qdj (xs.set i v):=by
  simp [Qdj,List.map_set]
@[simp] theorem Jsx (xs:List Int) (n:Nat):(Qdj xs).take n=Qdj (xs.take n):=by simp [Qdj,List.map_take]
@[simp] theorem Jou (xs:List Int) (n:Nat):(Qdj xs).drop n=Qdj (xs.drop n):=by simp [Qdj,List.map_drop]
@[simp] theorem Jva (xs:List Int):(Qdj xs).isEmpty=xs.isEmpty:=by cases xs <;> rfl
@[simp] theorem Jqa (xs:List Int):((Qdj xs).all fun x=>x.all IV.plain1)=true:=by
  induction xs with
  | nil=>rfl
  | cons x xs ih=>simp only [Qdj,List.map_cons,List.all_cons] at *;rw [ih];rfl
@[simp] theorem Jnv (xs:List Int):((Qdj xs).all fun x=>x.all IV.isData)=true:=by
  induction xs with
  | nil=>rfl
  | cons x xs ih=>simp only [Qdj,List.map_cons,List.all_cons] at *;rw [ih];rfl
@[simp] theorem Qs5 (xs:List Int):Qb1 (Qdj xs)=true:=by
  induction xs with
  | nil=>rfl
  | cons x xs ih=>simp only [Qdj,List.map_cons,Qb1,Qa7,Qbq] at *;rw [ih];rfl
@[simp] theorem Jjr {k:IntKind} {n:Nat}:Qc1 (.sc (.int k ((n:Int)+1)))=some (n+1):=Qfk (n:=n+1)
@[simp] theorem Jjv {k:IntKind}:Qc1 (.sc (.int k 0))=some 0:=rfl
@[simp] theorem Jm3 {k:IntKind}:Qc1 (.sc (.int k 1))=some 1:=rfl
@[simp] theorem limF_ev {tb:Tbl} {f lent args M r} (h:Ev tb f lent args M r):Qcm tb f lent args M=some r:=Qab h
theorem Jlr {n:Nat} (h:n < 9223372036854775808):IntKind.i64.wrap (n:Int)=(n:Int):=Qan (by omega) (by omega)
theorem Qbp {n:Nat} (h:n+1 < 9223372036854775808):IntKind.i64.wrap ((n:Int)+1)=((n+1:Nat):Int):=by
 rw [Qan (by omega) (by omega)];rfl
attribute [simp] Jvo St.callP IV.isBack Qgb Jux Qeg St.fillElems Qaw St.news St.append IV.wcells lim fillCells IV.okPart tkKill St.storeCells St.callWith St.callWithH IV.rootL St.args St.args1 St.arg1 Qeu St.args2 St.arg2 St.seen St.seens St.lentBack IV.free IV.free1 Qj0 isLd Qbq Qa7 Qb1 Qge Qcx Qcc Qzt Qd6 Jz4 Je9 IV.isBptr Qaw
@[simp] theorem Jjo {α} (a x:α) (m:List α):(a::(m++[x])).getLast? = some x:=by
  rw [← List.cons_append,List.getLast?_append];rfl
@[simp] theorem Je1 {α} (a x:α) (m:List α):(a::(m++[x])).dropLast=a::m:=by
  rw [← List.cons_append,List.dropLast_concat]
@[simp] theorem Jl7 (b:Bool):Op.unary .not (.bool b)=.pure (.bool !b):=rfl
attribute [simp] Qda IV.rootB
attribute [simp] St.callM Qgv Qlu Qh2 IV.isArr Qlk Qfd
attribute [simp] Qk3 St.retvs St.retv Qbw St.backs St.leave St.absorb St.absorbs St.absorbsK killOf IV.lvl Qsv IV.okLvl IV.isData St.setPlc Qbn Qpf splice St.box St.setBox
def Qi9 (st:St):Option Nat→Bool
 | some d=>(Qak st.T d).holds
 | none=>false
def Qdl (cf:CF):St→List IOp→Option St
 | st,[]=>some st
 | st,o::r=>match Qar cf st o with
   | some st1=>if (Qdw o.k && Qi9 st1 o.dst)=true then none else Qdl cf st1 r
   | none=>none
theorem Qll {cf:CF}:∀ {ops:List IOp} {st s:St},Qdl cf st ops=some s→Qag cf st ops=some s∧Qf0 cf st ops
 | [],st,s,h=>⟨h,trivial⟩
 | o::r,st,s,h=>by
   simp only [Qdl] at h
   simp only [Qag]
   split at h
   rotate_left
   · cases h
   rename_i st1 h1
   simp only [h1]
   split at h
   · cases h
   rename_i hq
   obtain ⟨q1,q2⟩:=Qll h
   refine ⟨q1,fun st2 h2=>?_⟩
   rw [h1] at h2
   cases h2
   refine ⟨fun hk d hd=>?_,q2⟩
   simp only [hk,hd,Bool.true_and,Bool.not_eq_true,Qi9] at hq
   exact hq
def nrT (ds:List Nat) (T:Tm):Bool:=T.all fun p=>nrV ds p.2
theorem Qx4 {ds:List Nat}:∀ {T:Tm},nrT ds T=true→∀ s,nrV ds (Qak T s)=true
 | [],_,s=>rfl
 | (k,v)::r,h,s=>by
   simp only [nrT,List.all_cons,Qba] at h
   simp only [Qak]
   split
   · exact h.1
   · exact Qx4 h.2 s
def Qdk (cf:CF) (ds:List Nat):St→List IOp→Option St
 | st,[]=>if nrT ds st.T=true then some st else none
 | st,o::r=>if (nrT ds st.T && Qmo ds st.T o)=true then match Qar cf st o with
   | some st1=>if (Qdw o.k && Qi9 st1 o.dst)=true then none else Qdk cf ds st1 r
   | none=>none
   else none
theorem Qle {cf:CF} {ds:List Nat}:∀ {ops:List IOp} {st s:St},Qdk cf ds st ops=some s→Qag cf st ops=some s∧okX cf ds st ops
 | [],st,s,h=>by
   simp only [Qdk] at h
   split at h
   · rename_i hn;exact ⟨h,Qx4 hn⟩
   · cases h
 | o::r,st,s,h=>by
   simp only [Qdk] at h
   simp only [Qag]
   split at h
   rotate_left
   · cases h
   rename_i hc
   simp only [Qba] at hc
   split at h
   rotate_left
   · cases h
   rename_i st1 h1
   simp only [h1]
   split at h
   · cases h
   rename_i hq
   obtain ⟨q1,q2⟩:=Qle h
   refine ⟨q1,Qx4 hc.1,hc.2,fun st2 h2=>?_⟩
   rw [h1] at h2
   cases h2
   refine ⟨fun hk d hd=>?_,q2⟩
   simp only [hk,hd,Bool.true_and,Bool.not_eq_true,Qi9] at hq
   exact hq
section
variable {tb:Tbl} {st:St} {Q:Ex→St→Prop}
theorem Jyv {ops ord live alts st1 st2} (hn:Qua st ops=true) (h:Qdl (Qcm tb) st (Qae ops ord)=some st1) (hc:st1.cut live=st2) (ha:∀ p ∈ alts,∃ st3,Qdl (Qcm tb) st (Qae ops p)=some st3∧st3.cut live=st2) (hq:Q .normal st2):wp tb (.regd ops ord live alts) st Q:=by
 subst hc
 obtain ⟨h1,h2⟩:=Qll h
 refine ⟨hn,h2,st1,h1,fun p hp=>?_,hq⟩
 obtain ⟨st3,g1,g2⟩:=ha p hp
 obtain ⟨g3,g4⟩:=Qll g1
 exact ⟨g4,st3,g3,.inl g2⟩
theorem Qqo {ops ord live alts b st1 st2} (hn:Qua st ops=true) (h:Qdl (Qcm tb) st (Qae ops ord)=some st1) (hc:st1.cut live=st2) (ha:∀ p ∈ alts,∃ st3,Qdl (Qcm tb) st (Qae ops p)=some st3∧st3.cut live=st2) (hb:wp tb b st2 Q):wp tb (.seq (.regd ops ord live alts) b) st Q:=by
 simp only [Qux]
 exact Jyv (Q:=fun ex st'=>match ex with | .normal=>wp tb b st' Q | e=>Q e st') hn h hc ha hb
theorem Jkn {ops ord live ds alts st1 st2} (hn:Qn3 st ops=true) (h:Qdk (Qcm tb) ds st (Qae ops ord)=some st1) (hc:st1.cut live=st2) (ha:∀ p ∈ alts,∃ st3,Qdk (Qcm tb) ds st (Qae ops p)=some st3∧st3.cut live=st2) (hq:Q .normal st2):wp tb (.regx ops ord live ds alts) st Q:=by
 subst hc
 obtain ⟨h1,h2⟩:=Qle h
 refine ⟨hn,h2,st1,h1,fun p hp=>?_,hq⟩
 obtain ⟨st3,g1,g2⟩:=ha p hp
 obtain ⟨g3,g4⟩:=Qle g1
 exact ⟨g4,st3,g3,g2⟩
theorem Jf9 {ops ord live ds alts b st1 st2} (hn:Qn3 st ops=true) (h:Qdk (Qcm tb) ds st (Qae ops ord)=some st1) (hc:st1.cut live=st2) (ha:∀ p ∈ alts,∃ st3,Qdk (Qcm tb) ds st (Qae ops p)=some st3∧st3.cut live=st2) (hb:wp tb b st2 Q):wp tb (.seq (.regx ops ord live ds alts) b) st Q:=by
 simp only [Qux]
 exact Jkn (Q:=fun ex st'=>match ex with | .normal=>wp tb b st' Q | e=>Q e st') hn h hc ha hb
theorem Jd4 {ops ord live b st1 st2} (hn:Qua st ops=true) (h:Qdl (Qcm tb) st (Qae ops ord)=some st1) (hc:st1.cut live=st2) (hb:wp tb b st2 Q):wp tb (.seq (.regd ops ord live []) b) st Q:=Qqo hn h hc (fun _ h=>nomatch h) hb
end
attribute [simp] St.freezeBox Qdl Qck Qdw Qex Qi9 Qdk nrT nrV nrA nr1 Qfj Qmo Qez Qhi Qee Qy5 qX unV Qn3 Qf3
section
variable {tb:Tbl} {st:St} {Q:Ex→St→Prop}
theorem wr {ops live b st1 st2} (h:Qag (Qcm tb) st ops=some st1) (hb:wp tb b st2 Q) (hc:st1.cut live=st2:=by simp;with_reducible rfl):wp tb (.seq (.reg ops live []) b) st Q:=Qf1 h hc hb
theorem wq {ops live st1 st2} (h:Qag (Qcm tb) st ops=some st1) (hq:Q .normal st2) (hc:st1.cut live=st2:=by simp;with_reducible rfl):wp tb (.reg ops live []) st Q:=Jcq h hc hq
theorem wt {c a b d} (hc:rd st.T c=.sc (.bool true)) (h:wp tb (.seq a d) st Q):wp tb (.seq (.cond c a b) d) st Q:=Qpt (t:=true) hc (fun _=>h) (fun h=>nomatch h)
theorem wf {c a b d} (hc:rd st.T c=.sc (.bool false)) (h:wp tb (.seq b d) st Q):wp tb (.seq (.cond c a b) d) st Q:=Qpt (t:=false) hc (fun h=>nomatch h) (fun _=>h)
theorem xt {c a b} (hc:rd st.T c=.sc (.bool true)) (h:wp tb a st Q):wp tb (.cond c a b) st Q:=wp_c (t:=true) hc (fun _=>h) (fun h=>nomatch h)
theorem xf {c a b} (hc:rd st.T c=.sc (.bool false)) (h:wp tb b st Q):wp tb (.cond c a b) st Q:=wp_c (t:=false) hc (fun h=>nomatch h) (fun _=>h)
end
end Go.Idl
namespace Go.Idl
open Go Go.ChangeShapes Go.WideShapes Go.Deep
def Qy3 (s len:Nat) (f:Nat→Int):List (List IV):=(List.range len).map fun i=>(List.range s).map fun j=>.sc (.int .i64 (f (i * s+j)))
theorem Qmd (s len:Nat) (f:Nat→Int):(Qy3 s len f).length=len:=by simp [Qy3]
theorem Qnv (s:Nat) (f:Nat→Int):∀ len,(Qy3 s len f).flatten=(List.range (len * s)).map fun q=>IV.sc (.int .i64 (f q))
 | 0=>by simp [Qy3]
 | len+1=>by
   have ih:=Qnv s f len
   rw [Qy3] at ih ⊢
   rw [List.range_succ,List.map_append,List.flatten_append,ih,Nat.succ_mul,List.range_add,List.map_append]
   simp
theorem Qzw {z:Int} (h:(Lit.int .i64 z).wf=true):-9223372036854775808≤z∧z < 9223372036854775808:=by
 have e1:IntKind.i64.min=-9223372036854775808:=by decide
 have e2:IntKind.i64.max=9223372036854775807:=by decide
 simp only [Lit.wf,Qba,decide_eq_true_eq,e1,e2] at h
 omega
def Jvv (P:Program) (fs:Array Field):Bool:=fs.toList.all fun f=>match P.underlying f.type with
 | some (.int .i64)=>true
 | _=>false
theorem Jix {P:Program} {fs:Array Field} (h:Jvv P fs=true) (j:Nat) (f:Field) (hj:fs[j]? = some f):P.underlying f.type=some (.int .i64):=by
 have h1:=List.all_eq_true.1 h f (by rw [Array.mem_toList_iff];exact Array.mem_of_getElem? hj)
 split at h1
 · assumption
 · cases h1
section
variable {H:Type} {enc:TypeId×Value→H} {P:Program} {w:World} {base:Nat} {spare:Nat→Bool} {held:Bool}
theorem Quc {t e:TypeId} {fs:Array Field} {fuel:Nat} {cs:List Value} {x:DataW H×List MemPlace} (ht:P.underlying t=some (.slice e)) (he:P.underlying e=some (.struct fs))
 (hone:oneCellFields P fs=true) (hC:P.cellsOf e=fs.size) (hpos:0 < fs.size) (hk0:Jvv P fs=true) (h:DataW.trod enc P w base spare held fuel t cs=some x) :
 ∃ (a:Option Addr) (len cap:Nat) (f:Nat→Int),cs=[.slice a len cap]∧len < 9223372036854775808∧(∀ q,-9223372036854775808≤f q∧f q < 9223372036854775808) ∧
   RDs w (Qx9 w) [.lst fs.size (Qy3 fs.size len f) false] [.slice a len cap] []:=by
 have hk:=Jix hk0
 rcases open_slice ht h with ⟨hcs,-⟩ | ⟨a,len,cap,m,n,D,Pl,hcs,hb,hl,hm,hmm,-,hi⟩
 · exact ⟨none,0,0,fun _=>0,hcs,by omega,fun q=>⟨by simp,by simp⟩,.lst0 (by simp) .nil⟩
 have hlm:len≤m:=by rw [hmm];split <;> omega
 have hmx:maxLen=9223372036854775807:=by decide
 have hcell:∀ i j,i < len→j < fs.size→∃ z,w.cell? (a.add (i * fs.size+j))=some (.int .i64 z)∧(Lit.int .i64 z).wf=true:=by
  intro i j hil hjs
  obtain ⟨cs',hc,ht'⟩:=hi i (by omega)
  rw [hC] at hc
  obtain ⟨-,hcl,hat⟩:=World.cells?_some hc
  obtain ⟨ys,n',-,-,-,hyl,hf⟩:=DataW.trod_struct he ht'
  have hfj:fs[j]? = some fs[j]:=Array.getElem?_eq_getElem hjs
  obtain ⟨ho,hk1⟩:=hone_of hone j _ hfj
  have h1:=hf j _ hfj
  rw [ho,hk1] at h1
  have hone':(cs'.drop j).take 1=[cs'[j]'(by omega)]:=by rw [List.drop_eq_getElem_cons (by omega)];rfl
  rw [hone'] at h1
  have hys:ys[j]? = some (ys[j]'(by omega)):=List.getElem?_eq_getElem (by omega)
  obtain ⟨z,hz,-,hwf⟩:=DataW.trod_int (hk j _ hfj) (h1.trans hys)
  refine ⟨z,?_,hwf⟩
  have h2:=hat j hjs
  rw [List.getElem?_eq_getElem (by omega)] at h2
  simp only [List.cons.injEq,and_true] at hz
  rw [hz] at h2
  rw [← Go.Deep.add_add]
  exact h2
 have hsplit:∀ q,q < len * fs.size→∃ z,w.cell? (a.add q)=some (.int .i64 z)∧(Lit.int .i64 z).wf=true:=by
  intro q hq
  have h1:q / fs.size < len:=Nat.div_lt_of_lt_mul (by rw [Nat.mul_comm];exact hq)
  have:=hcell (q / fs.size) (q % fs.size) h1 (Nat.mod_lt _ hpos)
  rwa [Nat.div_add_mod'] at this
 obtain ⟨f,hf1,hf2⟩:∃ f:Nat→Int,(∀ q,-9223372036854775808≤f q∧f q < 9223372036854775808)∧∀ q,q < len * fs.size→w.cell? (a.add q)=some (.int .i64 (f q)):=by
  refine ⟨fun q=>if h:q < len * fs.size then (hsplit q h).choose else 0,fun q=>?_,fun q hq=>?_⟩
  · dsimp only
    split
    · rename_i h;exact Qzw (hsplit q h).choose_spec.2
    · omega
  · dsimp only
    rw [dif_pos hq]
    exact (hsplit q hq).choose_spec.1
 refine ⟨some a,len,cap,f,hcs,by omega,hf1,?_⟩
 rcases Nat.eq_zero_or_pos len with h0 | h0
 · subst h0
   exact .lst0 (by simp) .nil
 have hx:=hf2 0 (Nat.mul_pos h0 hpos)
 rw [show a.add 0=a from rfl] at hx
 obtain ⟨b,o,sp⟩:=a
 unfold World.cell? at hx
 split at hx
 rotate_left
 · cases hx
 rename_i C ty fr hbb
 simp only at hbb
 cases sp with
 | some _=>simp at hx
 | none =>
 have hC':∀ q,q < len * fs.size→C[o+q]? = some (.int .i64 (f q)):=fun q hq=>by
  have:=hf2 q hq
  rw [Qbk,Qay hbb] at this
  exact this
 have hlt:b < w.heap.size:=by
  rcases Nat.lt_or_ge b w.heap.size with h | h
  · exact h
  · rw [Array.getElem?_eq_none h] at hbb;cases hbb
 have hd:∀ (k m:Nat),(∀ q,q < k→C[o+(m+q)]? = some (.int .i64 (f (m+q))))→RDs w (Qx9 w) ((List.range k).map fun q=>IV.sc (.int .i64 (f (m+q)))) ((C.toList.drop (o+m)).take k) []:=by
  intro k
  induction k with
  | zero=>intro m _;simp;exact .nil
  | succ k ih =>
    intro m hm
    have h0:=hm 0 (by omega)
    rw [Nat.add_zero] at h0
    have e1:C.toList.drop (o+m)=.int .i64 (f m)::C.toList.drop (o+(m+1)):=by
     rw [List.drop_eq_getElem?_toList_append]
     have:C.toList[o+m]? = some (.int .i64 (f m)):=by simpa using h0
     rw [this];rfl
    rw [e1,List.take_succ_cons,List.range_succ_eq_map,List.map_cons,List.map_map]
    refine .sc rfl ?_
    have h2:=ih (m+1) (fun q hq=>by have:=hm (q+1) (by omega);rw [show m+(q+1)=m+1+q by omega] at this;exact this)
    refine (show _=_ from List.map_congr_left fun q _=>?_) ▸ h2
    simp only [Function.comp]
    rw [show m+1+q=m+q.succ by omega]
 have hdd:=hd (len * fs.size) 0 (fun q hq=>by rw [Nat.zero_add];exact hC' q hq)
 simp only [Nat.zero_add,Nat.add_zero] at hdd
 have:=RDs.lst (w:=w) (F:=Qx9 w) (e:=fs.size) (es:=Qy3 fs.size len f) (clip:=false) (b:=b) (o:=o) (cap:=cap) (xs:=[]) (vs:=[]) (fp:=[]) hlt hbb
  (by rw [Qnv,Qmd];exact hdd) (fun x hx=>by simp only [Qy3,List.mem_map] at hx;obtain ⟨n,_,rfl⟩:=hx;simp) (by simp) (by rw [Qmd];exact hl) .nil
 rw [Qmd] at this
 exact this
theorem Qy6 {n:Int} {c:IV} {v0 v1:Value} (h0:v0=.int .i64 n) (h1:RDs w (Qx9 w) [c] [v1] []):ArgR w (.agg [.sc (.int .i64 n),c]) (.agg #[v0,v1]):=by
 subst h0
 exact .agg (.sc rfl h1)
end
end Go.Idl
