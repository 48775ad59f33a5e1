/- Part 4 of a proof by an ideal interpreter of the code: its definitions and lemmas. Conditions: none. -/
import Derived.Lib.Bytealg
import Derived.Test.YtpbpoajmibfliaaA3
set_option linter.all false
set_option linter.unusedVariables false
set_option linter.unusedSimpArgs false
namespace Go.Idl
open Go
def Ev (tb:Tbl) (f:Lab) (lent:List Nat) (args:List IV) (M:List Boxes) (r:Ret):Prop:=∃ N,∀ n,N≤n→callN tb n f lent args M=some r
open Classical in
noncomputable def limF (tb:Tbl):CF:=fun f lent args M=>if h:∃ r,Ev tb f lent args M r then some (Classical.choose h) else none
def WO (tb:Tbl) (ops:List IOp) (st:St) (Q:St→Prop):Prop:=∃ st',execOps (limF tb) st ops=some st'∧Q st'
def loopN (step:St→(Ex→St→Prop)→Prop) (Q:Ex→St→Prop):Nat→St→Prop
  | 0,_=>False
  | k+1,st=>step st fun ex st'=>match ex with
    | .normal=>loopN step Q k st'
    | e=>Q e st'
def nilW (x:Opd) (t:Nat) (live:List Nat) (st:St) (f:St→(Ex→St→Prop)→Prop) (Q:Ex→St→Prop):Prop:=match emptyL (rd st.T x) with
  | some false=>f (st.flag t false live) Q
  | some true=>∃ ex st',f (st.flag t true live) (fun e s=>e=ex∧s=st')∧f (st.flag t false live) (fun e s=>e=ex∧s=st')∧Q ex st'
  | none=>False
def rngW (wa wb:St→(Ex→St→Prop)→Prop) (T:Tm) (p q:Nat) (Q:Ex→St→Prop):List Int→St→Prop
  | [],st=>Q .normal { st with T:=T }
  | x::r,st=>wa { st with T:=tput (tput T p (.sc (iv r.length))) q (.sc (iv x)) } fun ex s1=>ex=.normal∧wb s1 fun ex2 s2=>match ex2 with
    | .normal=>rngW wa wb T p q Q r { s2 with T:=T }
    | .exit e=>Q (.exit e) { s2 with T:=T }
    | .ret=>False
def wp (tb:Tbl):IC→St→(Ex→St→Prop)→Prop
  | .skip,st,Q=>Q .normal st
  | .reg ops live alts,st,Q=>WO tb ops st fun st1=>(∀ p ∈ alts,WO tb (inOrder ops p) st fun st2=>st2.cut live=st1.cut live)∧Q .normal (st1.cut live)
  | .regd ops ord live alts,st,Q=>NHops st ops=true∧okRun (limF tb) st (inOrder ops ord)∧WO tb (inOrder ops ord) st fun st1=>(∀ p ∈ alts,okRun (limF tb) st (inOrder ops p)∧WO tb (inOrder ops p) st fun st2=>(st2.cut live).alike st.loc.length (st1.cut live))∧Q .normal (st1.cut live)
  | .regx ops ord live ds alts,st,Q=>freshX st ops=true∧okX (limF tb) ds st (inOrder ops ord)∧WO tb (inOrder ops ord) st fun st1=>(∀ p ∈ alts,okX (limF tb) ds st (inOrder ops p)∧WO tb (inOrder ops p) st fun st2=>st2.cut live=st1.cut live)∧Q .normal (st1.cut live)
  | .regw ops s t live,st,Q=>WO tb ops st fun st1=>∃ st2,st1.swapS s t=some st2∧Q .normal (st2.cut live)
  | .seq a b,st,Q=>wp tb a st fun ex st'=>match ex with
    | .normal=>wp tb b st' Q
    | e=>Q e st'
  | .nilc ops x t live y,st,Q=>WO tb ops st fun st1=>nilW x t live st1 (wp tb y) Q
  | .nilc2 ops x t live y1 y2,st,Q=>WO tb ops st fun st1=>nilW x t live st1 (fun st Q=>wp tb y1 st fun ex st'=>match ex with
    | .normal=>wp tb y2 st' Q
    | e=>Q e st') Q
  | .ubx ops0 ops1 live y,st,Q=>∃ st1,ubxStep (limF tb) st ops0 ops1=some st1∧wp tb y (st1.cut live) Q
  | .cond c a b,st,Q=>match rd st.T c with
    | .sc (.bool t)=>if t=true then wp tb a st Q else wp tb b st Q
    | _=>False
  | .block id b,st,Q=>wp tb b st fun ex st'=>match ex with
    | .exit i=>if i=id then Q .normal st' else Q (.exit i) st'
    | e=>Q e st'
  | .loop b,st,Q=>∃ k,loopN (wp tb b) Q k st
  | .exit id,st,Q=>Q (.exit id) st
  | .ret,st,Q=>Q .ret st
  | .rngb ops _ x g live bid p q asg body,st,Q=>WO tb ops st fun s0=>∃ es c xs,rd ({ s0 with T:=tput s0.T g .un }.cut live:St).T x=.lst 1 es c∧intsOf es=some xs∧pureT ({ s0 with T:=tput s0.T g .un }.cut live:St).T=true∧xs.length < 2 ^ 40 ∧
      rngW (wp tb asg) (wp tb body) ({ s0 with T:=tput s0.T g .un }.cut live:St).T p q (fun ex s=>match ex with
        | .exit e=>Q (if e=bid then .normal else .exit e) s
        | e=>Q e s) xs.reverse ({ s0 with T:=tput s0.T g .un }.cut live)
  | .hole,_,_=>False
  | .ext g,st,Q=>∃ v,g (st.T.map (·.2))=some v∧Q .ret { st with T:=[(0,v)] }
section
variable {tb:Tbl}
theorem Ev.det {f lent args M r r'} (h:Ev tb f lent args M r) (h':Ev tb f lent args M r'):r=r':=by
  obtain ⟨N,hN⟩:=h
  obtain ⟨N',hN'⟩:=h'
  have h1:=hN (max N N') (by omega)
  have h2:=hN' (max N N') (by omega)
  rw [h1] at h2
  exact Option.some.inj h2
theorem lim_ev {f lent args M r} (h:limF tb f lent args M=some r):Ev tb f lent args M r:=by
  unfold limF at h
  split at h
  · rename_i hex
    simp only [Option.some.injEq] at h
    rw [← h];exact Classical.choose_spec hex
  · cases h
theorem ev_lim {f lent args M r} (h:Ev tb f lent args M r):limF tb f lent args M=some r:=by
  have hex:∃ r,Ev tb f lent args M r:=⟨r,h⟩
  unfold limF
  rw [dif_pos hex]
  congr 1
  exact (Classical.choose_spec hex).det h
theorem callWithH_lim {st:St} {f:Lab} {args:List (Mode×Opd)} {v:IV} {st':St} (h:st.callWithH (limF tb) f args=some (v,st')) :
    ∃ N,∀ n,N≤n→st.callWithH (callN tb n) f args=some (v,st'):=by
  unfold St.callWithH at h ⊢
  split at h
  rotate_left
  · cases h
  rename_i vs st1 fz ss hargs
  split at h
  · cases h
  rename_i hc
  split at h
  rotate_left
  · cases h
  rename_i hlv
  cases hl:limF tb f (lents args 0) vs (st1.M++[[]]) with
  | none=>simp [hl] at h
  | some r =>
  obtain ⟨N,hN⟩:=lim_ev hl
  rw [hl] at h
  refine ⟨N,fun n hn=>?_⟩
  simp only [hc,hlv,if_true,if_false,Bool.false_eq_true,hN n hn]
  exact h
theorem callWith_lim {st:St} {f:Lab} {caps:List IV} {args:List (Mode×Opd)} {p:Bool} {v:IV} {st':St} (h:st.callWith (limF tb) f caps args p=some (v,st')) :
    ∃ N,∀ n,N≤n→st.callWith (callN tb n) f caps args p=some (v,st'):=by
  unfold St.callWith at h ⊢
  split at h
  rotate_left
  · cases h
  rename_i vs st1 fz ss hargs
  cases p with
  | true =>
    simp only [if_true] at h ⊢
    split at h
    · cases h
    rename_i hc
    cases hl:limF tb f [] vs [] with
    | none=>simp [hl] at h
    | some r =>
    obtain ⟨N,hN⟩:=lim_ev hl
    rw [hl] at h
    refine ⟨N,fun n hn=>?_⟩
    simp only [hc,if_false,Bool.false_eq_true,hN n hn]
    exact h
  | false =>
    simp only [Bool.false_eq_true,if_false] at h ⊢
    split at h
    · cases h
    rename_i hc
    cases hl:limF tb f (lents args 0) (vs++caps) (st1.M++[st1.loc]) with
    | none=>simp [hl] at h
    | some r =>
    obtain ⟨N,hN⟩:=lim_ev hl
    rw [hl] at h
    refine ⟨N,fun n hn=>?_⟩
    simp only [hc,if_false,Bool.false_eq_true,hN n hn]
    exact h
theorem callP_lim {st:St} {f:Lab} {x:Opd} {v:IV} {st':St} (h:st.callP (limF tb) f x=some (v,st')):∃ N,∀ n,N≤n→st.callP (callN tb n) f x=some (v,st'):=by
  unfold St.callP at h ⊢
  split at h
  rotate_left
  · cases h
  split at h
  rotate_left
  · cases h
  rename_i e es hp
  split at h
  rotate_left
  · cases h
  rename_i hn
  cases hl:limF tb f [0] [.own e es] [] with
  | none=>simp [hl] at h
  | some r =>
    obtain ⟨N,hN⟩:=lim_ev hl
    rw [hl] at h
    refine ⟨N,fun n hn'=>?_⟩
    simp only [hp,if_pos hn,hN n hn']
    exact h
theorem callM_lim {st:St} {f:Lab} {x k:Opd} {v:IV} {st':St} (h:st.callM (limF tb) f x k=some (v,st')):∃ N,∀ n,N≤n→st.callM (callN tb n) f x k=some (v,st'):=by
  unfold St.callM at h ⊢
  split at h
  rotate_left
  · cases h
  rename_i kv hk
  split at h
  rotate_left
  · cases h
  rename_i wr r c p e0 n0 hld
  split at h
  rotate_left
  · cases h
  rename_i e es hp
  split at h
  rotate_left
  · cases h
  rename_i hn
  cases hl:limF tb f [0] [wrapL wr (.own e es),.sc kv] [] with
  | none=>simp [hl] at h
  | some r =>
    obtain ⟨N,hN⟩:=lim_ev hl
    rw [hl] at h
    refine ⟨N,fun n hn'=>?_⟩
    simp only [hp,if_pos hn,hN n hn']
    exact h
theorem ev_limN {st:St} {k:K} {v:IV} {st':St} (h:ev (limF tb) st k=some (v,st')):∃ N,∀ n,N≤n→ev (callN tb n) st k=some (v,st'):=by
  cases k with
  | call f args p=>exact callWith_lim h
  | callq f args=>exact callWith_lim h
  | callh f args=>exact callWithH_lim h
  | callp f x=>exact callP_lim h
  | callm f x k =>
    simp only [ev] at h ⊢
    split at h
    · exact callM_lim h
    · exact callWith_lim h
  | callz f x k =>
    simp only [ev] at h ⊢
    split at h
    · exact callWith_lim h
    · exact callWith_lim h
  | callv x args =>
    simp only [ev] at h ⊢
    split at h
    · exact callWith_lim h
    · cases h
  | _=>exact ⟨0,fun n _=>h⟩
theorem op_lim {st:St} {o:IOp} {st':St} (h:execOp1 (limF tb) st o=some st'):∃ N,∀ n,N≤n→execOp1 (callN tb n) st o=some st':=by
  unfold execOp1 at h ⊢
  have run:∀ {st'':St},(match ev (limF tb) st o.k with
      | some (v,st')=>match o.dst with
        | some d=>some { st' with T:=tput st'.T d v }
        | none=>some st'
      | none=>none)=some st''→∃ N,∀ n,N≤n→(match ev (callN tb n) st o.k with
      | some (v,st')=>match o.dst with
        | some d=>some { st' with T:=tput st'.T d v }
        | none=>some st'
      | none=>none)=some st'':=by
    intro st'' h
    cases hl:ev (limF tb) st o.k with
    | none=>simp [hl] at h
    | some p =>
      obtain ⟨v,s⟩:=p
      obtain ⟨N,hN⟩:=ev_limN hl
      rw [hl] at h
      exact ⟨N,fun n hn=>by rw [hN n hn];exact h⟩
  split at h
  · exact run h
  · split at h
    · split at h
      · rename_i hc
        obtain ⟨N,hN⟩:=run h
        refine ⟨N,fun n hn=>?_⟩
        simp only [hc,if_true]
        exact hN n hn
      · rename_i hc
        exact ⟨0,fun n _=>by simp only [hc,if_false];exact h⟩
    · exact ⟨0,fun n _=>h⟩
    · cases h
theorem ops_lim:∀ {ops:List IOp} {st st':St},execOps (limF tb) st ops=some st'→∃ N,∀ n,N≤n→execOps (callN tb n) st ops=some st'
  | [],st,st',h=>⟨0,fun _ _=>h⟩
  | o::r,st,st',h=>by
    simp only [execOps] at h ⊢
    split at h
    · rename_i st1 h1
      obtain ⟨N,hN⟩:=op_lim h1
      obtain ⟨N',hN'⟩:=ops_lim h
      exact ⟨max N N',fun n hn=>by simp only [hN n (by omega),hN' n (by omega)]⟩
    · cases h
theorem okRun_lim:∀ {ops:List IOp} {st st':St},execOps (limF tb) st ops=some st'→okRun (limF tb) st ops→∃ N,∀ n,N≤n→okRun (callN tb n) st ops
  | [],_,_,_,_=>⟨0,fun _ _=>trivial⟩
  | o::r,st,st',h,hk=>by
    simp only [execOps] at h
    split at h
    rotate_left
    · cases h
    rename_i st1 h1
    obtain ⟨k1,k2⟩:=hk st1 h1
    obtain ⟨N,hN⟩:=op_lim h1
    obtain ⟨N',hN'⟩:=okRun_lim h k2
    refine ⟨max N N',fun n hn st2 h2=>?_⟩
    rw [hN n (by omega)] at h2
    cases h2
    exact ⟨k1,hN' n (by omega)⟩
theorem okX_lim {ds:List Nat}:∀ {ops:List IOp} {st st':St},execOps (limF tb) st ops=some st'→okX (limF tb) ds st ops→∃ N,∀ n,N≤n→okX (callN tb n) ds st ops
  | [],_,_,_,hk=>⟨0,fun _ _=>hk⟩
  | o::r,st,st',h,hk=>by
    simp only [execOps] at h
    split at h
    rotate_left
    · cases h
    rename_i st1 h1
    obtain ⟨k01,k02,k⟩:=hk
    obtain ⟨k1,k2⟩:=k st1 h1
    obtain ⟨N,hN⟩:=op_lim h1
    obtain ⟨N',hN'⟩:=okX_lim h k2
    refine ⟨max N N',fun n hn=>⟨k01,k02,fun st2 h2=>?_⟩⟩
    rw [hN n (by omega)] at h2
    cases h2
    exact ⟨k1,hN' n (by omega)⟩
theorem WO_sound {ops:List IOp} {st:St} {Q:St→Prop} (h:WO tb ops st Q):∃ st',Q st'∧(∃ N,∀ n,N≤n→execOps (callN tb n) st ops=some st')∧∀ Q':St→Prop,Q' st'→WO tb ops st Q':=by
  obtain ⟨st',h1,h2⟩:=h
  exact ⟨st',h2,ops_lim h1,fun Q' hQ'=>⟨st',h1,hQ'⟩⟩
def Runs (tb:Tbl) (c:IC) (st:St) (ex:Ex) (st':St):Prop:=∃ N,∀ n,N≤n→∀ m,N≤m→exec (callN tb n) m c st=some (ex,st')
theorem ubx_lim {st st1:St} {ops0 ops1:List IOp} (h:ubxStep (limF tb) st ops0 ops1=some st1):∃ N,∀ n,N≤n→ubxStep (callN tb n) st ops0 ops1=some st1:=by
  unfold ubxStep at h ⊢
  split at h
  rotate_left
  · cases h
  split at h
  rotate_left
  · cases h
  rename_i st2 h1
  obtain ⟨N,hN⟩:=ops_lim h1
  split at h
  rotate_left
  · cases h
  rename_i xs hrd
  split at h
  rotate_left
  · cases h
  rename_i x hsub
  obtain ⟨N2,hN2⟩:=ops_lim h
  refine ⟨max N N2,fun n hn=>?_⟩
  simp only [hN n (by omega),hrd,hsub]
  exact hN2 n (by omega)
theorem wp_sound:∀ {c:IC} {st:St} {Q:Ex→St→Prop},wp tb c st Q→∃ ex st',Q ex st'∧Runs tb c st ex st'∧∀ Q':Ex→St→Prop,Q' ex st'→wp tb c st Q'
  | .skip,st,Q,h=>⟨.normal,st,h,⟨0,fun _ _ _ _=>rfl⟩,fun _ h=>h⟩
  | .exit id,st,Q,h=>⟨.exit id,st,h,⟨0,fun _ _ _ _=>rfl⟩,fun _ h=>h⟩
  | .ret,st,Q,h=>⟨.ret,st,h,⟨0,fun _ _ _ _=>rfl⟩,fun _ h=>h⟩
  | .reg ops live alts,st,Q,h=>by
    simp only [wp] at h
    obtain ⟨st1,⟨h1,h2⟩,⟨N,hN⟩,h3⟩:=WO_sound h
    have halt:∃ N,∀ n,N≤n→∀ p ∈ alts,∃ st2,execOps (callN tb n) st (inOrder ops p)=some st2∧st2.cut live=st1.cut live:=by
      clear h h3
      induction alts with
      | nil=>exact ⟨0,fun _ _ p hp=>by cases hp⟩
      | cons p ps ih =>
        obtain ⟨N1,hN1⟩:=ih (fun q hq=>h1 q (by simp [hq]))
        obtain ⟨st2,q1,⟨N2,hN2⟩,-⟩:=WO_sound (h1 p (by simp))
        refine ⟨max N1 N2,fun n hn q hq=>?_⟩
        rcases List.mem_cons.1 hq with rfl | hq
        · exact ⟨st2,hN2 n (by omega),q1⟩
        · exact hN1 n (by omega) q hq
    obtain ⟨N',hN'⟩:=halt
    refine ⟨.normal,st1.cut live,h2,⟨max N N',fun n hn m hm=>?_⟩,fun Q' hQ'=>?_⟩
    · simp only [exec,execReg,hN n (by omega)]
      rw [if_pos (hN' n (by omega))]
    · simp only [wp];exact h3 _ ⟨h1,hQ'⟩
  | .regd ops ord live alts,st,Q,h=>by
    simp only [wp] at h
    obtain ⟨hn,hok,st1,h0,h1,h2⟩:=h
    obtain ⟨N,hN⟩:=ops_lim h0
    obtain ⟨N',hN'⟩:=okRun_lim h0 hok
    have halt:∃ N,∀ n,N≤n→∀ p ∈ alts,okRun (callN tb n) st (inOrder ops p)∧∃ st2,execOps (callN tb n) st (inOrder ops p)=some st2∧(st2.cut live).alike st.loc.length (st1.cut live):=by
      clear h2
      induction alts with
      | nil=>exact ⟨0,fun _ _ p hp=>by cases hp⟩
      | cons p ps ih =>
        obtain ⟨N1,hN1⟩:=ih (fun q hq=>h1 q (by simp [hq]))
        obtain ⟨g1,st2,g2,g3⟩:=h1 p (by simp)
        obtain ⟨N2,hN2⟩:=ops_lim g2
        obtain ⟨N3,hN3⟩:=okRun_lim g2 g1
        refine ⟨max N1 (max N2 N3),fun n hn q hq=>?_⟩
        rcases List.mem_cons.1 hq with rfl | hq
        · exact ⟨hN3 n (by omega),st2,hN2 n (by omega),g3⟩
        · exact hN1 n (by omega) q hq
    obtain ⟨N2,hN2⟩:=halt
    refine ⟨.normal,st1.cut live,h2,⟨max N (max N' N2),fun n hn' m hm=>?_⟩,fun Q' hQ'=>?_⟩
    · simp only [exec,execRegd,hN n (by omega)]
      rw [if_pos ⟨hn,hN' n (by omega),hN2 n (by omega)⟩]
    · simp only [wp];exact ⟨hn,hok,st1,h0,h1,hQ'⟩
  | .regx ops ord live ds alts,st,Q,h=>by
    simp only [wp] at h
    obtain ⟨hn,hok,st1,h0,h1,h2⟩:=h
    obtain ⟨N,hN⟩:=ops_lim h0
    obtain ⟨N',hN'⟩:=okX_lim h0 hok
    have halt:∃ N,∀ n,N≤n→∀ p ∈ alts,okX (callN tb n) ds st (inOrder ops p)∧∃ st2,execOps (callN tb n) st (inOrder ops p)=some st2∧st2.cut live=st1.cut live:=by
      clear h2
      induction alts with
      | nil=>exact ⟨0,fun _ _ p hp=>by cases hp⟩
      | cons p ps ih =>
        obtain ⟨N1,hN1⟩:=ih (fun q hq=>h1 q (by simp [hq]))
        obtain ⟨g1,st2,g2,g3⟩:=h1 p (by simp)
        obtain ⟨N2,hN2⟩:=ops_lim g2
        obtain ⟨N3,hN3⟩:=okX_lim g2 g1
        refine ⟨max N1 (max N2 N3),fun n hn q hq=>?_⟩
        rcases List.mem_cons.1 hq with rfl | hq
        · exact ⟨hN3 n (by omega),st2,hN2 n (by omega),g3⟩
        · exact hN1 n (by omega) q hq
    obtain ⟨N2,hN2⟩:=halt
    refine ⟨.normal,st1.cut live,h2,⟨max N (max N' N2),fun n hn' m hm=>?_⟩,fun Q' hQ'=>?_⟩
    · simp only [exec,execRegx,hN n (by omega)]
      rw [if_pos ⟨hn,hN' n (by omega),hN2 n (by omega)⟩]
    · simp only [wp];exact ⟨hn,hok,st1,h0,h1,hQ'⟩
  | .regw ops s t live,st,Q,h=>by
    simp only [wp] at h
    obtain ⟨st1,⟨st2,h1,h2⟩,⟨N,hN⟩,h3⟩:=WO_sound h
    refine ⟨.normal,st2.cut live,h2,⟨N,fun n hn m hm=>?_⟩,fun Q' hQ'=>?_⟩
    · simp only [exec,hN n hn,h1]
    · simp only [wp];exact h3 _ ⟨st2,h1,hQ'⟩
  | .seq a b,st,Q,h=>by
    simp only [wp] at h
    obtain ⟨ex,st1,h1,⟨N,hN⟩,h2⟩:=wp_sound h
    cases ex with
    | normal =>
      obtain ⟨ex2,st2,q1,⟨N2,hN2⟩,q2⟩:=wp_sound h1
      refine ⟨ex2,st2,q1,⟨max N N2,fun n hn m hm=>?_⟩,fun Q' hQ'=>?_⟩
      · simp only [exec,hN n (by omega) m (by omega),hN2 n (by omega) m (by omega)]
      · simp only [wp];exact h2 _ (q2 _ hQ')
    | exit id =>
      refine ⟨.exit id,st1,h1,⟨N,fun n hn m hm=>?_⟩,fun Q' hQ'=>?_⟩
      · simp only [exec,hN n hn m hm]
      · simp only [wp];exact h2 _ hQ'
    | ret =>
      refine ⟨.ret,st1,h1,⟨N,fun n hn m hm=>?_⟩,fun Q' hQ'=>?_⟩
      · simp only [exec,hN n hn m hm]
      · simp only [wp];exact h2 _ hQ'
  | .cond c a b,st,Q,h=>by
    simp only [wp] at h
    split at h
    rotate_left
    · exact h.elim
    rename_i t ht
    cases t with
    | true =>
      simp only [if_true] at h
      obtain ⟨ex,st1,h1,⟨N,hN⟩,h2⟩:=wp_sound h
      refine ⟨ex,st1,h1,⟨N,fun n hn m hm=>?_⟩,fun Q' hQ'=>?_⟩
      · simp only [exec,ht,if_true,hN n hn m hm]
      · simp only [wp,ht,if_true];exact h2 _ hQ'
    | false =>
      simp only [Bool.false_eq_true,if_false] at h
      obtain ⟨ex,st1,h1,⟨N,hN⟩,h2⟩:=wp_sound h
      refine ⟨ex,st1,h1,⟨N,fun n hn m hm=>?_⟩,fun Q' hQ'=>?_⟩
      · simp only [exec,ht,Bool.false_eq_true,if_false,hN n hn m hm]
      · simp only [wp,ht,Bool.false_eq_true,if_false];exact h2 _ hQ'
  | .block id b,st,Q,h=>by
    simp only [wp] at h
    obtain ⟨ex,st1,h1,⟨N,hN⟩,h2⟩:=wp_sound h
    cases ex with
    | normal =>
      refine ⟨.normal,st1,h1,⟨N,fun n hn m hm=>?_⟩,fun Q' hQ'=>?_⟩
      · simp only [exec,hN n hn m hm]
      · simp only [wp];exact h2 _ hQ'
    | ret =>
      refine ⟨.ret,st1,h1,⟨N,fun n hn m hm=>?_⟩,fun Q' hQ'=>?_⟩
      · simp only [exec,hN n hn m hm]
      · simp only [wp];exact h2 _ hQ'
    | exit i =>
      simp only at h1
      by_cases hi:i=id
      · rw [if_pos hi] at h1
        refine ⟨.normal,st1,h1,⟨N,fun n hn m hm=>?_⟩,fun Q' hQ'=>?_⟩
        · simp only [exec,hN n hn m hm,hi,if_true]
        · simp only [wp];exact h2 _ (by simp only [hi,if_true];exact hQ')
      · rw [if_neg hi] at h1
        refine ⟨.exit i,st1,h1,⟨N,fun n hn m hm=>?_⟩,fun Q' hQ'=>?_⟩
        · simp only [exec,hN n hn m hm,hi,if_false]
        · simp only [wp];exact h2 _ (by simp only [hi,if_false];exact hQ')
  | .loop b,st,Q,h=>by
    simp only [wp] at h
    obtain ⟨k,h⟩:=h
    have key:∀ (k:Nat) (st:St),loopN (wp tb b) Q k st→∃ ex st',Q ex st'∧(∃ N,∀ n,N≤n→∀ m,N≤m→∀ j,N≤j→iter (exec (callN tb n) m b) j st=some (ex,st'))∧∀ Q':Ex→St→Prop,Q' ex st'→loopN (wp tb b) Q' k st:=by
      intro k
      induction k with
      | zero=>intro st h;exact h.elim
      | succ k ih =>
        intro st h
        simp only [loopN] at h
        obtain ⟨ex,st1,h1,⟨N,hN⟩,h2⟩:=wp_sound h
        cases ex with
        | normal =>
          obtain ⟨ex2,st2,q1,⟨N2,hN2⟩,q2⟩:=ih st1 h1
          refine ⟨ex2,st2,q1,⟨max N N2+1,fun n hn m hm j hj=>?_⟩,fun Q' hQ'=>?_⟩
          · obtain ⟨j',rfl⟩:∃ j',j=j'+1:=⟨j - 1,by omega⟩
            simp only [iter,hN n (by omega) m (by omega),hN2 n (by omega) m (by omega) j' (by omega)]
          · simp only [loopN];exact h2 _ (q2 _ hQ')
        | exit i =>
          refine ⟨.exit i,st1,h1,⟨N+1,fun n hn m hm j hj=>?_⟩,fun Q' hQ'=>?_⟩
          · obtain ⟨j',rfl⟩:∃ j',j=j'+1:=⟨j - 1,by omega⟩
            simp only [iter,hN n (by omega) m (by omega)]
          · simp only [loopN];exact h2 _ hQ'
        | ret =>
          refine ⟨.ret,st1,h1,⟨N+1,fun n hn m hm j hj=>?_⟩,fun Q' hQ'=>?_⟩
          · obtain ⟨j',rfl⟩:∃ j',j=j'+1:=⟨j - 1,by omega⟩
            simp only [iter,hN n (by omega) m (by omega)]
          · simp only [loopN];exact h2 _ hQ'
    obtain ⟨ex,st',q1,⟨N,hN⟩,q2⟩:=key k st h
    exact ⟨ex,st',q1,⟨N,fun n hn m hm=>by simp only [exec];exact hN n hn m hm m hm⟩,fun Q' hQ'=>by simp only [wp];exact ⟨k,q2 Q' hQ'⟩⟩
  | .nilc ops x t live y,st,Q,h=>by
    simp only [wp] at h
    obtain ⟨st1,h1,⟨N,hN⟩,h3⟩:=WO_sound h
    unfold nilW at h1
    split at h1
    · rename_i he
      obtain ⟨ex,st2,q1,⟨N2,hN2⟩,q2⟩:=wp_sound h1
      refine ⟨ex,st2,q1,⟨max N N2,fun n hn m hm=>?_⟩,fun Q' hQ'=>?_⟩
      · simp only [exec,nilStep,hN n (by omega),he,hN2 n (by omega) m (by omega)]
      · simp only [wp];exact h3 _ (by unfold nilW;rw [he];exact q2 _ hQ')
    · rename_i he
      obtain ⟨ex,st',h1,h2,hQ⟩:=h1
      obtain ⟨_,_,⟨rfl,rfl⟩,⟨N1,hN1⟩,q1⟩:=wp_sound h1
      obtain ⟨_,_,⟨rfl,rfl⟩,⟨N2,hN2⟩,q2⟩:=wp_sound h2
      refine ⟨_,_,hQ,⟨max N (max N1 N2),fun n hn m hm=>?_⟩,fun Q' hQ'=>?_⟩
      · simp only [exec,nilStep,hN n (by omega),he,hN1 n (by omega) m (by omega),hN2 n (by omega) m (by omega),if_true]
      · simp only [wp];exact h3 _ (by unfold nilW;rw [he];exact ⟨_,_,h1,h2,hQ'⟩)
    · exact h1.elim
  | .rngb ops f x g live bid p q asg body,st,Q,h=>by
    simp only [wp] at h
    obtain ⟨s0,⟨es,c,xs,h1,h2,h3,h4,h5⟩,⟨N,hN⟩,hQ0⟩:=WO_sound h
    have key:∀ (T:Tm) (R:Ex→St→Prop) (l:List Int) (s:St),rngW (wp tb asg) (wp tb body) T p q R l s→∃ ex s',R ex s'∧(∃ N,∀ n,N≤n→∀ m,N≤m→rngGo (exec (callN tb n) m asg) (exec (callN tb n) m body) T p q l s=some (ex,s')) ∧
        ∀ R':Ex→St→Prop,R' ex s'→rngW (wp tb asg) (wp tb body) T p q R' l s:=by
      intro T R l
      induction l with
      | nil=>intro s h;exact ⟨.normal,_,h,⟨0,fun _ _ _ _=>rfl⟩,fun _ h=>h⟩
      | cons x r ih =>
        intro s h
        simp only [rngW] at h
        obtain ⟨exa,s1,⟨rfl,hb⟩,⟨Na,hNa⟩,ha⟩:=wp_sound h
        obtain ⟨exb,s2,hc,⟨Nb,hNb⟩,hb'⟩:=wp_sound hb
        cases exb with
        | normal =>
          obtain ⟨ex,s',k1,⟨Nc,hNc⟩,k2⟩:=ih _ hc
          refine ⟨ex,s',k1,⟨max Na (max Nb Nc),fun n hn m hm=>?_⟩,fun R' hR'=>?_⟩
          · simp only [rngGo,hNa n (by omega) m (by omega),hNb n (by omega) m (by omega),hNc n (by omega) m (by omega)]
          · simp only [rngW];exact ha _ ⟨rfl,hb' _ (k2 _ hR')⟩
        | exit e =>
          refine ⟨.exit e,_,hc,⟨max Na Nb,fun n hn m hm=>?_⟩,fun R' hR'=>?_⟩
          · simp only [rngGo,hNa n (by omega) m (by omega),hNb n (by omega) m (by omega)]
          · simp only [rngW];exact ha _ ⟨rfl,hb' _ hR'⟩
        | ret=>exact hc.elim
    obtain ⟨ex,s',k1,⟨N2,hN2⟩,k2⟩:=key _ _ _ _ h5
    have fin:∀ ex' s'',(match ex with | .exit e=>(if e=bid then Ex.normal else .exit e,s') | e=>(e,s'))=(ex',s'')→Q ex' s''→∃ ex st',Q ex st'∧Runs tb (.rngb ops f x g live bid p q asg body) st ex st'∧∀ Q':Ex→St→Prop,Q' ex st'→wp tb (.rngb ops f x g live bid p q asg body) st Q':=by
      intro ex' s'' he hq
      refine ⟨ex',s'',hq,⟨max N N2,fun n hn m hm=>?_⟩,fun Q' hQ'=>?_⟩
      · simp only [exec,rngStep,hN n (by omega),h1,h2]
        rw [if_pos ⟨h3,h4⟩,hN2 n (by omega) m (by omega)]
        cases ex <;> simp only [Prod.mk.injEq] at he ⊢ <;> (obtain ⟨rfl,rfl⟩:=he;rfl)
      · simp only [wp]
        refine hQ0 _ ⟨es,c,xs,h1,h2,h3,h4,k2 _ ?_⟩
        cases ex <;> simp only [Prod.mk.injEq] at he ⊢ <;> (obtain ⟨rfl,rfl⟩:=he;exact hQ')
    cases ex with
    | normal=>exact fin _ _ rfl k1
    | exit e=>exact fin _ _ rfl k1
    | ret=>exact fin _ _ rfl k1
  | .hole,st,Q,h=>by
    simp only [wp] at h
  | .ext g,st,Q,h=>by
    simp only [wp] at h
    obtain ⟨v,h1,h2⟩:=h
    exact ⟨.ret,_,h2,⟨0,fun n _ m _=>by simp only [exec,h1]⟩,fun Q' hQ'=>by simp only [wp];exact ⟨v,h1,hQ'⟩⟩
  | .ubx ops0 ops1 live y,st,Q,h=>by
    simp only [wp] at h
    obtain ⟨st1,h0,h1⟩:=h
    obtain ⟨N,hN⟩:=ubx_lim h0
    obtain ⟨ex,st2,q1,⟨N2,hN2⟩,q2⟩:=wp_sound h1
    refine ⟨ex,st2,q1,⟨max N N2,fun n hn m hm=>?_⟩,fun Q' hQ'=>?_⟩
    · simp only [exec,hN n (by omega)];exact hN2 n (by omega) m (by omega)
    · simp only [wp];exact ⟨st1,h0,q2 _ hQ'⟩
  | .nilc2 ops x t live y1 y2,st,Q,h=>by
    simp only [wp] at h
    obtain ⟨st1,h1,⟨N,hN⟩,h3⟩:=WO_sound h
    have two:∀ {st:St} {Q:Ex→St→Prop},(wp tb y1 st fun ex st'=>match ex with | .normal=>wp tb y2 st' Q | e=>Q e st')→∃ ex st',Q ex st'∧(∃ N,∀ n,N≤n→∀ m,N≤m→seqX (exec (callN tb n) m y1) (exec (callN tb n) m y2) st=some (ex,st'))∧∀ Q':Ex→St→Prop,Q' ex st'→(wp tb y1 st fun ex st'=>match ex with | .normal=>wp tb y2 st' Q' | e=>Q' e st'):=by
      intro st Q h
      obtain ⟨ex,st1,h1,⟨N,hN⟩,h2⟩:=wp_sound h
      cases ex with
      | normal =>
        obtain ⟨ex2,st2,q1,⟨N2,hN2⟩,q2⟩:=wp_sound h1
        exact ⟨ex2,st2,q1,⟨max N N2,fun n hn m hm=>by simp only [seqX,hN n (by omega) m (by omega),hN2 n (by omega) m (by omega)]⟩,fun Q' hQ'=>h2 _ (q2 _ hQ')⟩
      | exit id=>exact ⟨.exit id,st1,h1,⟨N,fun n hn m hm=>by simp only [seqX,hN n hn m hm]⟩,fun Q' hQ'=>h2 _ hQ'⟩
      | ret=>exact ⟨.ret,st1,h1,⟨N,fun n hn m hm=>by simp only [seqX,hN n hn m hm]⟩,fun Q' hQ'=>h2 _ hQ'⟩
    unfold nilW at h1
    split at h1
    · rename_i he
      obtain ⟨ex,st2,q1,⟨N2,hN2⟩,q2⟩:=two h1
      refine ⟨ex,st2,q1,⟨max N N2,fun n hn m hm=>?_⟩,fun Q' hQ'=>?_⟩
      · simp only [exec,nilStep,hN n (by omega),he];exact hN2 n (by omega) m (by omega)
      · simp only [wp];exact h3 _ (by unfold nilW;rw [he];exact q2 _ hQ')
    · rename_i he
      obtain ⟨ex,st',h1,h2,hQ⟩:=h1
      obtain ⟨_,_,⟨rfl,rfl⟩,⟨N1,hN1⟩,q1⟩:=two h1
      obtain ⟨_,_,⟨rfl,rfl⟩,⟨N2,hN2⟩,q2⟩:=two h2
      refine ⟨_,_,hQ,⟨max N (max N1 N2),fun n hn m hm=>?_⟩,fun Q' hQ'=>?_⟩
      · simp only [exec,nilStep,hN n (by omega),he]
        rw [hN1 n (by omega) m (by omega),hN2 n (by omega) m (by omega)]
        simp
      · simp only [wp];exact h3 _ (by unfold nilW;rw [he];exact ⟨_,_,h1,h2,hQ'⟩)
    · exact h1.elim
theorem wp_loop {b:IC} {st:St} {Q:Ex→St→Prop} (h:wp tb b st fun ex st'=>match ex with
    | .normal=>wp tb (.loop b) st' Q
    | e=>Q e st'):wp tb (.loop b) st Q:=by
  obtain ⟨ex,st',h1,-,h2⟩:=wp_sound h
  cases ex with
  | normal =>
    simp only [wp] at h1
    obtain ⟨k,hk⟩:=h1
    exact ⟨k+1,h2 _ hk⟩
  | exit i=>exact ⟨1,h2 _ h1⟩
  | ret=>exact ⟨1,h2 _ h1⟩
def finish (f:IFun) (lent:List Nat) (st:St):Option Ret:=match st.retvs f.res with
  | some (vs,st)=>match st.backs lent with
    | some (back,st)=>st.leave (packRes vs) back
    | none=>none
  | none=>none
theorem call_of_wp {f:Lab} {fn:IFun} (hf:tb f=some fn) {lent:List Nat} {args:List IV} {M:List Boxes} {r:Ret} (hl:lent.all fn.keep.contains=true)
    (h:wp tb fn.body { T:=args.zipIdx.map fun (v,i)=>(i,v),loc:=[],M:=M } fun ex st=>(ex=.normal ∨ ex=.ret)∧finish fn lent st=some r):Ev tb f lent args M r:=by
  obtain ⟨ex,st',⟨h1,h2⟩,⟨N,hN⟩,-⟩:=wp_sound h
  refine ⟨N+1,fun n hn=>?_⟩
  obtain ⟨n',rfl⟩:∃ n',n=n'+1:=⟨n - 1,by omega⟩
  simp only [callN,hf,runFun,hl,Bool.not_true,Bool.false_eq_true,if_false,hN n' (by omega) n' (by omega)]
  unfold finish at h2
  rcases h1 with rfl | rfl <;> exact h2
end
end Go.Idl
namespace Go.Idl
open Go
abbrev I (n:Int):IV:=.sc (.int .i64 n)
abbrev Bo (b:Bool):IV:=.sc (.bool b)
def ints (xs:List Int):List (List IV):=xs.map fun n=>[I n]
section
variable {tb:Tbl} {st:St} {Q Q':Ex→St→Prop}
theorem wp_reg {ops live st1 st2} (h:execOps (limF tb) st ops=some st1) (hc:st1.cut live=st2) (hq:Q .normal st2):wp tb (.reg ops live []) st Q:=by
  subst hc
  exact ⟨st1,h,by simp,hq⟩
theorem wp_rs {ops live b st1 st2} (h:execOps (limF tb) st ops=some st1) (hc:st1.cut live=st2) (hb:wp tb b st2 Q):wp tb (.seq (.reg ops live []) b) st Q :=
  by simp only [wp];exact wp_reg (Q:=fun ex st'=>match ex with | .normal=>wp tb b st' Q | e=>Q e st') h hc hb
theorem wp_ra {ops live alts b st1 st2} (h:execOps (limF tb) st ops=some st1) (hc:st1.cut live=st2) (ha:∀ p ∈ alts,∃ st3,execOps (limF tb) st (inOrder ops p)=some st3∧st3.cut live=st2) (hb:wp tb b st2 Q):wp tb (.seq (.reg ops live alts) b) st Q:=by
  subst hc
  simp only [wp]
  exact ⟨st1,h,ha,hb⟩
theorem wp_rega {ops live alts st1 st2} (h:execOps (limF tb) st ops=some st1) (hc:st1.cut live=st2) (ha:∀ p ∈ alts,∃ st3,execOps (limF tb) st (inOrder ops p)=some st3∧st3.cut live=st2) (hq:Q .normal st2):wp tb (.reg ops live alts) st Q:=by
  subst hc
  exact ⟨st1,h,ha,hq⟩
theorem wp_as {a b c} (h:wp tb (.seq a (.seq b c)) st Q):wp tb (.seq (.seq a b) c) st Q:=by
  simp only [wp] at h ⊢
  obtain ⟨ex,st1,h1,-,h2⟩:=wp_sound h
  refine h2 _ ?_
  cases ex <;> exact h1
theorem wpi_seq {a b}:wp tb (.seq a b) st Q=wp tb a st fun ex st'=>match ex with
    | .normal=>wp tb b st' Q
    | e=>Q e st':=rfl
theorem wp_imp {c} (h:wp tb c st Q) (hq:∀ ex st',Q ex st'→Q' ex st'):wp tb c st Q':=by
  obtain ⟨ex,st',h1,-,h2⟩:=wp_sound h
  exact h2 _ (hq _ _ h1)
end
theorem wrap64 {n:Int} (h:-9223372036854775808≤n) (h':n < 9223372036854775808):IntKind.i64.wrap n=n:=by
  have e1:(2:Int) ^ IntKind.i64.bits=18446744073709551616:=by decide
  have e2:(2:Int) ^ (IntKind.i64.bits - 1)=9223372036854775808:=by decide
  have e3:IntKind.i64.signed=true:=rfl
  unfold IntKind.wrap
  rw [e1,e2,e3]
  simp only [Bool.true_and,decide_eq_true_eq,ge_iff_le]
  split <;> omega
theorem natOf_nat {k:IntKind} {n:Nat}:natOf (.sc (.int k (n:Int)))=some n:=by simp [natOf]
@[simp] theorem ints_get? (xs:List Int) (i:Nat):(ints xs)[i]? = xs[i]?.map fun n=>[IV.sc (.int .i64 n)]:=by simp [ints]
@[simp] theorem ints_get (xs:List Int) (i:Nat) (h:i < (ints xs).length):(ints xs)[i]=[IV.sc (.int .i64 (xs[i]'(by simpa [ints] using h)))]:=by simp [ints]
section
variable {tb:Tbl} {st:St} {Q Q':Ex→St→Prop}
theorem wp_ret' (h:Q .ret st):wp tb .ret st Q:=h
theorem wp_skip' (h:Q .normal st):wp tb .skip st Q:=h
theorem wp_exit' {id} (h:Q (.exit id) st):wp tb (.exit id) st Q:=h
theorem wp_ct {c a b d t} (hc:rd st.T c=.sc (.bool t)) (h1:t=true→wp tb (.seq a d) st Q) (h2:t=false→wp tb (.seq b d) st Q):wp tb (.seq (.cond c a b) d) st Q:=by
  simp only [wp,hc] at *
  cases t
  · simpa using h2 rfl
  · simpa using h1 rfl
theorem wp_c {c a b t} (hc:rd st.T c=.sc (.bool t)) (h1:t=true→wp tb a st Q) (h2:t=false→wp tb b st Q):wp tb (.cond c a b) st Q:=by
  simp only [wp,hc] at *
  cases t
  · simpa using h2 rfl
  · simpa using h1 rfl
theorem wp_ss {b} (h:wp tb b st Q):wp tb (.seq .skip b) st Q:=h
theorem wp_sr {b} (h:Q .ret st):wp tb (.seq .ret b) st Q:=h
theorem wp_sx {id b} (h:Q (.exit id) st):wp tb (.seq (.exit id) b) st Q:=h
theorem wp_bs {id b c} (h:wp tb b st fun ex st'=>match ex with
    | .normal=>wp tb c st' Q
    | .exit i=>if i=id then wp tb c st' Q else Q (.exit i) st'
    | .ret=>Q .ret st'):wp tb (.seq (.block id b) c) st Q:=by
  simp only [wp]
  refine wp_imp h fun ex st' hh=>?_
  cases ex with
  | normal=>exact hh
  | ret=>exact hh
  | exit i =>
    simp only at hh ⊢
    split
    · rename_i hi;rw [if_pos hi] at hh;exact hh
    · rename_i hi;rw [if_neg hi] at hh;exact hh
theorem wp_b {id b} (h:wp tb b st fun ex st'=>match ex with
    | .normal=>Q .normal st'
    | .exit i=>if i=id then Q .normal st' else Q (.exit i) st'
    | .ret=>Q .ret st'):wp tb (.block id b) st Q:=by
  simp only [wp]
  refine wp_imp h fun ex st' hh=>?_
  cases ex <;> exact hh
theorem wp_nil2 {ops x t live y1 y2 st1 b ex st'} (h:execOps (limF tb) st ops=some st1) (he:emptyL (rd st1.T x)=some b) (hf:wp tb (.seq y1 y2) (st1.flag t false live) (fun e s=>e=ex∧s=st'))
    (ht:b=true→wp tb (.seq y1 y2) (st1.flag t true live) (fun e s=>e=ex∧s=st')) (hq:Q ex st'):wp tb (.nilc2 ops x t live y1 y2) st Q:=by
  simp only [wp] at *
  refine ⟨st1,h,?_⟩
  unfold nilW
  cases b with
  | false =>
    rw [he]
    obtain ⟨e,s,⟨rfl,rfl⟩,-,h2⟩:=wp_sound (c:=.seq y1 y2) (by simp only [wp];exact hf)
    have:=h2 Q hq
    simpa only [wp] using this
  | true=>rw [he];exact ⟨ex,st',ht rfl,hf,hq⟩
end
theorem frz_ints (xs:List Int):frzLL (ints xs)=ints xs:=by
  induction xs with
  | nil=>rfl
  | cons x xs ih=>simp only [ints,List.map_cons,frzLL,frzL,frzV] at *;rw [ih]
attribute [simp] execOps execOp1 ev rd tget viewOf binV tput IV.holds tk cv cv1 slen restrict kl kl1 klc rootOut IV.rooted killRt killBy dropSlot St.cut vcells eqCells pack sub natOf_nat bound slcV St.sview St.plc St.rcells IV.cells fol St.loadCells
  emptyL St.flag putI inOrder isSc IV.isSc IV.plain1 IV.plain IV.isOwn
@[simp] theorem ints_len (xs:List Int):(ints xs).length=xs.length:=by simp [ints]
@[simp] theorem ints_nil:ints []=[]:=rfl
@[simp] theorem ints_app (xs ys:List Int):ints xs++ints ys=ints (xs++ys):=by simp [ints]
@[simp] theorem ints_one (xs:List Int) (n:Int):ints xs++[[IV.sc (.int .i64 n)]]=ints (xs++[n]):=by simp [ints]
@[simp] theorem ints_set (xs:List Int) (i:Nat) (v:Int):(ints xs).set i [IV.sc (.int .i64 v)]=ints (xs.set i v):=by
  simp [ints,List.map_set]
@[simp] theorem ints_take (xs:List Int) (n:Nat):(ints xs).take n=ints (xs.take n):=by simp [ints,List.map_take]
@[simp] theorem ints_drop (xs:List Int) (n:Nat):(ints xs).drop n=ints (xs.drop n):=by simp [ints,List.map_drop]
@[simp] theorem ints_emp (xs:List Int):(ints xs).isEmpty=xs.isEmpty:=by cases xs <;> rfl
@[simp] theorem ints_all1 (xs:List Int):((ints xs).all fun x=>x.all IV.plain1)=true:=by
  induction xs with
  | nil=>rfl
  | cons x xs ih=>simp only [ints,List.map_cons,List.all_cons] at *;rw [ih];rfl
@[simp] theorem ints_all2 (xs:List Int):((ints xs).all fun x=>x.all IV.isData)=true:=by
  induction xs with
  | nil=>rfl
  | cons x xs ih=>simp only [ints,List.map_cons,List.all_cons] at *;rw [ih];rfl
@[simp] theorem ints_noLst (xs:List Int):noLstLL (ints xs)=true:=by
  induction xs with
  | nil=>rfl
  | cons x xs ih=>simp only [ints,List.map_cons,noLstLL,noLstL,noLstV] at *;rw [ih];rfl
@[simp] theorem natOf_succ {k:IntKind} {n:Nat}:natOf (.sc (.int k ((n:Int)+1)))=some (n+1):=natOf_nat (n:=n+1)
@[simp] theorem natOf_zero {k:IntKind}:natOf (.sc (.int k 0))=some 0:=rfl
@[simp] theorem natOf_one {k:IntKind}:natOf (.sc (.int k 1))=some 1:=rfl
@[simp] theorem limF_ev {tb:Tbl} {f lent args M r} (h:Ev tb f lent args M r):limF tb f lent args M=some r:=ev_lim h
theorem wrapN {n:Nat} (h:n < 9223372036854775808):IntKind.i64.wrap (n:Int)=(n:Int):=wrap64 (by omega) (by omega)
theorem wrapS {n:Nat} (h:n+1 < 9223372036854775808):IntKind.i64.wrap ((n:Int)+1)=((n+1:Nat):Int):=by
  rw [wrap64 (by omega) (by omega)];rfl
attribute [simp] ownZ St.callP IV.isBack aggRoot scEq shows St.fillElems elemsOf St.news St.append IV.wcells lim fillCells IV.okPart tkKill St.storeCells St.callWith St.callWithH IV.rootL St.args St.args1 St.arg1 ldSlot St.args2 St.arg2 St.seen St.seens St.lentBack IV.free IV.free1 lents isLd noLstV noLstL noLstLL frzV frzL frzLL frz_ints pureRun scInt bytesOf IV.isBptr elemsOf
@[simp] theorem getLast_ca {α} (a x:α) (m:List α):(a::(m++[x])).getLast? = some x:=by
  rw [← List.cons_append,List.getLast?_append];rfl
@[simp] theorem dropLast_ca {α} (a x:α) (m:List α):(a::(m++[x])).dropLast=a::m:=by
  rw [← List.cons_append,List.dropLast_concat]
@[simp] theorem unary_not (b:Bool):Op.unary .not (.bool b)=.pure (.bool !b):=rfl
attribute [simp] killBoxes IV.rootB
attribute [simp] St.callM lendOf wrapL unwrapL IV.isArr ubxShape ubxStep
attribute [simp] finish St.retvs St.retv packRes St.backs St.leave St.absorb St.absorbs St.absorbsK killOf IV.lvl okRet IV.okLvl IV.isData St.setPlc setCellOf fset splice St.box St.setBox
def dstOwns (st:St):Option Nat→Bool
  | some d=>(tget st.T d).holds
  | none=>false
def execOpsQ (cf:CF):St→List IOp→Option St
  | st,[]=>some st
  | st,o::r=>match execOp1 cf st o with
    | some st1=>if (quietN o.k && dstOwns st1 o.dst)=true then none else execOpsQ cf st1 r
    | none=>none
theorem execQ_ok {cf:CF}:∀ {ops:List IOp} {st s:St},execOpsQ cf st ops=some s→execOps cf st ops=some s∧okRun cf st ops
  | [],st,s,h=>⟨h,trivial⟩
  | o::r,st,s,h=>by
    simp only [execOpsQ] at h
    simp only [execOps]
    split at h
    rotate_left
    · cases h
    rename_i st1 h1
    simp only [h1]
    split at h
    · cases h
    rename_i hq
    obtain ⟨q1,q2⟩:=execQ_ok h
    refine ⟨q1,fun st2 h2=>?_⟩
    rw [h1] at h2
    cases h2
    refine ⟨fun hk d hd=>?_,q2⟩
    simp only [hk,hd,Bool.true_and,Bool.not_eq_true,dstOwns] at hq
    exact hq
def nrT (ds:List Nat) (T:Tm):Bool:=T.all fun p=>nrV ds p.2
def execOpsX (cf:CF) (ds:List Nat):St→List IOp→Option St
  | st,[]=>if nrT ds st.T=true then some st else none
  | st,o::r=>if (nrT ds st.T && effIn ds st.T o)=true then match execOp1 cf st o with
    | some st1=>if (quietN o.k && dstOwns st1 o.dst)=true then none else execOpsX cf ds st1 r
    | none=>none
    else none
section
variable {tb:Tbl} {st:St} {Q:Ex→St→Prop}
theorem wp_rdw {ops ord live alts st1 st2} (hn:NHops st ops=true) (h:execOpsQ (limF tb) st (inOrder ops ord)=some st1) (hc:st1.cut live=st2) (ha:∀ p ∈ alts,∃ st3,execOpsQ (limF tb) st (inOrder ops p)=some st3∧(st3.cut live).alike st.loc.length st2) (hq:Q .normal st2):wp tb (.regd ops ord live alts) st Q:=by
  subst hc
  obtain ⟨h1,h2⟩:=execQ_ok h
  refine ⟨hn,h2,st1,h1,fun p hp=>?_,hq⟩
  obtain ⟨st3,g1,g2⟩:=ha p hp
  obtain ⟨g3,g4⟩:=execQ_ok g1
  exact ⟨g4,st3,g3,g2⟩
theorem wp_rdws {ops ord live alts b st1 st2} (hn:NHops st ops=true) (h:execOpsQ (limF tb) st (inOrder ops ord)=some st1) (hc:st1.cut live=st2) (ha:∀ p ∈ alts,∃ st3,execOpsQ (limF tb) st (inOrder ops p)=some st3∧(st3.cut live).alike st.loc.length st2) (hb:wp tb b st2 Q):wp tb (.seq (.regd ops ord live alts) b) st Q:=by
  simp only [wpi_seq]
  exact wp_rdw (Q:=fun ex st'=>match ex with | .normal=>wp tb b st' Q | e=>Q e st') hn h hc ha hb
end
attribute [simp] St.freezeBox execOpsQ quietK quietN plainK dstOwns execOpsX nrT nrV nrA nr1 effOk effIn noArrO noArr noArr1 effK qX unV freshX fillRd
section
variable {tb:Tbl} {st:St} {Q:Ex→St→Prop}
theorem wr {ops live b st1 st2} (h:execOps (limF tb) st ops=some st1) (hb:wp tb b st2 Q) (hc:st1.cut live=st2:=by simp;with_reducible rfl):wp tb (.seq (.reg ops live []) b) st Q:=wp_rs h hc hb
theorem wq {ops live st1 st2} (h:execOps (limF tb) st ops=some st1) (hq:Q .normal st2) (hc:st1.cut live=st2:=by simp;with_reducible rfl):wp tb (.reg ops live []) st Q:=wp_reg h hc hq
theorem wt {c a b d} (hc:rd st.T c=.sc (.bool true)) (h:wp tb (.seq a d) st Q):wp tb (.seq (.cond c a b) d) st Q:=wp_ct (t:=true) hc (fun _=>h) (fun h=>nomatch h)
theorem wf {c a b d} (hc:rd st.T c=.sc (.bool false)) (h:wp tb (.seq b d) st Q):wp tb (.seq (.cond c a b) d) st Q:=wp_ct (t:=false) hc (fun h=>nomatch h) (fun _=>h)
theorem xt {c a b} (hc:rd st.T c=.sc (.bool true)) (h:wp tb a st Q):wp tb (.cond c a b) st Q:=wp_c (t:=true) hc (fun _=>h) (fun h=>nomatch h)
theorem xf {c a b} (hc:rd st.T c=.sc (.bool false)) (h:wp tb b st Q):wp tb (.cond c a b) st Q:=wp_c (t:=false) hc (fun h=>nomatch h) (fun _=>h)
end
end Go.Idl
namespace Go.Idl
end Go.Idl
