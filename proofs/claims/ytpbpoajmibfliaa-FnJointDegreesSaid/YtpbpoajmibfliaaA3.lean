/- Part 3 of a proof by an ideal interpreter of the code: its definitions and lemmas. Conditions: none. -/
import Derived.Below
import Derived.Lib.Bytealg
import Derived.LoopN
import Derived.LoopNIn
import Derived.OrdersIn
import Derived.RangeFuncCalls
import Derived.RangeFuncLeaves
import Derived.RangeFuncRecord
import Derived.RangeFuncSeq
import Derived.Scope
import Derived.Test.YtpbpoajmibfliaaA2
set_option linter.all false
set_option linter.unusedVariables false
set_option linter.unusedSimpArgs false
namespace Go.Idl
open Go
def opdU:Opd→List Nat
  | .t s=>[s]
  | _=>[]
def optU:Option Opd→List Nat
  | some o=>opdU o
  | none=>[]
def K.useL:K→List Nat
  | .mv x | .mvo _ x | .asg x | .asgm x | .asgf x | .clr x _ | .clrs x _ | .box x | .nilck x | .unop _ x | .conv _ x | .fadr _ x | .fld _ _ _ x | .extr x _ | .len x | .lens x | .capn x | .load _ _ x | .loadf _ _ x | .strb x=>opdU x
  | .pick a b c=>opdU a++(opdU b++opdU c)
  | .alloc _ | .halt | .nilo _=>[]
  | .build _ ps=>ps.flatMap fun p=>opdU p.2.2
  | .bsl _ _ _ ps | .bsls _ _ _ ps=>ps.flatMap fun p=>opdU p.2
  | .store _ a x | .storef _ a x | .bin _ a x | .eqa _ _ a x | .eqb _ a x | .iadr _ a x | .idxs a x | .app _ a x | .appi _ a x | .appz _ a x | .minmax _ a x | .mksl _ _ a x=>opdU a++opdU x
  | .mkfn _ cs=>cs.flatMap opdU
  | .slc _ x a b c=>opdU x++(optU a++(optU b++optU c))
  | .slcs x a b | .slcb _ x a b=>opdU x++(optU a++optU b)
  | .call _ as_ _ | .callq _ as_ | .callh _ as_=>as_.flatMap fun a=>opdU a.2
  | .callp _ x=>opdU x
  | .callm _ x k | .callz _ x k=>opdU x++opdU k
  | .callv f as_=>opdU f++as_.flatMap fun a=>opdU a.2
def monoK:K→Bool
  | .alloc _ | .box _ | .callv .. | .callh .. | .callp .. | .callm .. | .callz ..=>false
  | .call _ _ p=>p
  | _=>true
structure Sim (D:Nat→Prop) (P:IV→Prop) (L:Boxes) (st st':St):Prop where
  T:∀ s,¬ D s→tget st'.T s=tget st.T s
  Q:∀ s,D s→P (tget st'.T s)
  H:∀ s,D s→(tget st.T s).holds=false
  M:st'.M=st.M
  loc:st'.loc=st.loc++L
def Shp (st st':St):Prop:=st'.M.length=st.M.length∧st'.loc.length=st.loc.length
theorem Shp.refl (st:St):Shp st st:=⟨rfl,rfl⟩
theorem Shp.trans {a b c:St} (h:Shp a b) (h':Shp b c):Shp a c:=⟨h'.1.trans h.1,h'.2.trans h.2⟩
section
variable {D:Nat→Prop} {P:IV→Prop} {L:Boxes} {st st' st1:St}
theorem klc_holds {p:IV→Bool} {x:IV} (h:x.isOwn=false):(klc p x).isOwn=false:=by
  unfold klc;split
  · rfl
  · exact h
theorem kl_holds {p:IV→Bool} {x:IV} (h:x.holds=false):(kl p x).holds=false:=by
  cases x with
  | tup vs=>simp [IV.holds] at h
  | agg cs =>
    simp only [IV.holds,kl,kl1] at h ⊢
    rw [List.any_eq_false] at h ⊢
    intro y hy
    obtain ⟨z,hz,rfl⟩:=List.mem_map.1 hy
    have:=h z hz
    simp only [Bool.not_eq_true] at this ⊢
    exact klc_holds this
  | own e es=>simp [IV.holds] at h
  | _=>simp only [kl,kl1,klc];split <;> rfl
theorem Sim.kill (h:Sim D P L st st') (hP:∀ q,KillOK q→∀ x,P x→P (kl q x)) {q:IV→Bool} (hq:KillOK q):Sim D P L { st with T:=killBy q st.T } { st' with T:=killBy q st'.T } :=
  ⟨fun s hs=>by simp only [tget_killBy,h.T s hs],fun s hs=>by simp only [tget_killBy];exact hP q hq _ (h.Q s hs),fun s hs=>by simp only [tget_killBy];exact kl_holds (h.H s hs),h.M,h.loc⟩
theorem Sim.cons (h:Sim D P L st st') {s:Nat} (hs:¬ D s) (v:IV):Sim D P L { st with T:=(s,v)::st.T } { st' with T:=(s,v)::st'.T }:=by
  refine ⟨fun t ht=>?_,fun t ht=>?_,fun t ht=>?_,h.M,h.loc⟩
  · simp only [tget];split
    · rfl
    · exact h.T t ht
  · simp only [tget];split
    · rename_i he;exact absurd (he ▸ ht) hs
    · exact h.Q t ht
  · simp only [tget];split
    · rename_i he;exact absurd (he ▸ ht) hs
    · exact h.H t ht
theorem Sim.dropSlot (h:Sim D P L st st') (hP:∀ q,KillOK q→∀ x,P x→P (kl q x)) {s:Nat} (hs:¬ D s):Sim D P L { st with T:=dropSlot s st.T } { st' with T:=dropSlot s st'.T } :=
  (h.kill hP (.rooted (.S s))).cons hs .un
theorem Sim.tput (h:Sim D P L st st') (hP:∀ q,KillOK q→∀ x,P x→P (kl q x)) {s:Nat} (hs:¬ D s) (v:IV):Sim D P L { st with T:=tput st.T s v } { st' with T:=tput st'.T s v }:=by
  unfold Idl.tput
  rw [h.T s hs]
  split
  · exact (h.kill hP (.rooted (.S s))).cons hs _
  · exact h.cons hs v
theorem Sim.putI (h:Sim D P L st st') (hP:∀ q,KillOK q→∀ x,P x→P (kl q x)) {d:Option Nat} (hs:∀ s,d=some s→¬ D s) (v:IV):Sim D P L (match d with | some s=>{ st with T:=Idl.tput st.T s v } | none=>st) (match d with | some s=>{ st' with T:=Idl.tput st'.T s v } | none=>st'):=by
  cases d with
  | none=>exact h
  | some s=>exact h.tput hP (hs s rfl) v
abbrev NoU (D:Nat→Prop) (l:List Nat):Prop:=∀ s ∈ l,¬ D s
theorem Sim.rd (h:Sim D P L st st') {o:Opd} (ho:NoU D (opdU o)):rd st'.T o=rd st.T o:=by
  cases o with
  | t s=>simp only [Idl.rd,h.T s (ho s (by simp [opdU]))]
  | c v=>rfl
  | f l=>rfl
theorem Sim.tk (h:Sim D P L st st') (hP:∀ q,KillOK q→∀ x,P x→P (kl q x)) {o:Opd} (ho:NoU D (opdU o)) {v:IV} {T:Tm} (ht:tk st.T o=(v,T)) :
    ∃ T',Idl.tk st'.T o=(v,T')∧Sim D P L { st with T:=T } { st' with T:=T' }:=by
  cases o with
  | t s =>
    have hs:=ho s (by simp [opdU])
    simp only [Idl.tk,h.T s hs] at ht ⊢
    split at ht
    · rename_i hh
      rw [if_pos hh]
      simp only [Prod.mk.injEq] at ht
      obtain ⟨rfl,rfl⟩:=ht
      exact ⟨_,rfl,h.dropSlot hP hs⟩
    · rename_i hh
      rw [if_neg hh]
      simp only [Prod.mk.injEq] at ht
      obtain ⟨rfl,rfl⟩:=ht
      exact ⟨_,rfl,h⟩
  | c v=>simp only [Idl.tk,Prod.mk.injEq] at ht ⊢;obtain ⟨rfl,rfl⟩:=ht;exact ⟨_,⟨rfl,rfl⟩,h⟩
  | f l=>simp only [Idl.tk,Prod.mk.injEq] at ht ⊢;obtain ⟨rfl,rfl⟩:=ht;exact ⟨_,⟨rfl,rfl⟩,h⟩
theorem Sim.box (h:Sim D P L st st') {l k:Nat} {cs:List IV} (hb:st.box l k=some cs):st'.box l k=some cs:=by
  unfold St.box at *
  rw [h.M]
  split at hb
  · rename_i hl
    rw [if_pos hl,h.loc,List.getElem?_append_left (List.getElem?_eq_some_iff.1 hb).1];exact hb
  · rename_i hl
    rw [if_neg hl];exact hb
theorem Sim.setBox (h:Sim D P L st st') {l k:Nat} {cs cs':List IV} (hb:st.box l k=some cs):Sim D P L (st.setBox l k cs') (st'.setBox l k cs')∧Shp st (st.setBox l k cs'):=by
  unfold St.box at hb
  unfold St.setBox
  rw [h.M]
  split at hb
  · rename_i hl
    have hlt:=(List.getElem?_eq_some_iff.1 hb).1
    rw [if_pos hl,if_pos hl]
    exact ⟨⟨h.T,h.Q,h.H,rfl,by simp only [h.loc];rw [List.set_append_left _ _ hlt]⟩,⟨rfl,by simp⟩⟩
  · rename_i hl
    rw [if_neg hl,if_neg hl]
    split at hb
    · exact ⟨⟨h.T,h.Q,h.H,by simp only [h.M],h.loc⟩,⟨by simp,rfl⟩⟩
    · cases hb
theorem setBox_T' (st:St) (l k:Nat) (cs:List IV):(st.setBox l k cs).T=st.T:=by
  unfold St.setBox;split
  · rfl
  · split <;> rfl
theorem fol_own {x:IV} {p:Path} {e:Nat} {es:List (List IV)} (h:fol x p=some (.own e es)):∃ e' es',x=.own e' es':=by
  cases p with
  | nil=>simp only [fol,Option.some.injEq] at h;exact ⟨_,_,h⟩
  | cons a p =>
    obtain ⟨i,j⟩:=a
    cases x <;> simp only [fol] at h <;> first | exact ⟨_,_,rfl⟩ | cases h
theorem cells_own {x:IV} {c e:Nat} {es:List (List IV)} (h:x.cells[c]? = some (.own e es)):x.holds=true:=by
  cases x with
  | agg cs =>
    simp only [IV.cells] at h
    simp only [IV.holds,List.any_eq_true]
    exact ⟨_,List.mem_of_getElem? h,rfl⟩
  | tup vs=>rfl
  | own e es=>rfl
  | _=>cases c <;> simp [IV.cells] at h
theorem Sim.plc (h:Sim D P L st st') {r:Rt} {c:Nat} {p:Path} {e:Nat} {es:List (List IV)} (hp:st.plc r c p=some (.own e es)):st'.plc r c p=some (.own e es)∧(∀ s,r=.S s→¬ D s)∧∃ cs x,st.rcells r=some cs∧st'.rcells r=some cs∧cs[c]? = some x∧fol x p=some (.own e es):=by
  unfold St.plc at hp
  split at hp
  rotate_left
  · cases hp
  rename_i cs hcs
  split at hp
  rotate_left
  · cases hp
  rename_i x hx
  have hD:∀ s,r=.S s→¬ D s:=by
    rintro s rfl hs
    simp only [St.rcells,Option.some.injEq] at hcs
    subst hcs
    obtain ⟨e',es',rfl⟩:=fol_own hp
    have:=h.H s hs
    rw [cells_own hx] at this
    cases this
  have hcs':st'.rcells r=some cs:=by
    cases r with
    | S s=>simp only [St.rcells,h.T s (hD s rfl)] at hcs ⊢;exact hcs
    | B l k=>exact h.box hcs
  refine ⟨?_,hD,cs,x,hcs,hcs',hx,hp⟩
  unfold St.plc
  rw [hcs'];simp only [hx];exact hp
theorem Sim.setPlc (h:Sim D P L st st') {r:Rt} {c:Nat} {p:Path} {e:Nat} {es:List (List IV)} (hp:st.plc r c p=some (.own e es)) {y:IV} (hs:st.setPlc r c p y=some st1) :
    ∃ st1',st'.setPlc r c p y=some st1'∧Sim D P L st1 st1'∧Shp st st1:=by
  obtain ⟨-,hD,cs,x,h1,h2,h3,h4⟩:=h.plc hp
  unfold St.setPlc at hs ⊢
  simp only [h1,h2,h3] at hs ⊢
  split at hs
  rotate_left
  · cases hs
  cases r with
  | S s =>
    simp only [Option.some.injEq] at hs ⊢
    subst hs
    rw [h.T s (hD s rfl)]
    exact ⟨_,rfl,h.cons (hD s rfl) _,.refl _⟩
  | B l k =>
    simp only [Option.some.injEq] at hs ⊢
    subst hs
    obtain ⟨q1,q2⟩:=h.setBox (cs':=cs.set c _) (show st.box l k=some cs from h1)
    exact ⟨_,rfl,q1,q2⟩
theorem Sim.absorb (h:Sim D P L st st') (hP:∀ q,KillOK q→∀ x,P x→P (kl q x)) {x y:IV} (ha:st.absorb x=some (y,st1)):∃ st1',st'.absorb x=some (y,st1')∧Sim D P L st1 st1'∧Shp st st1:=by
  cases x with
  | arr r c p e off n cl =>
    simp only [St.absorb] at ha ⊢
    split at ha
    rotate_left
    · cases ha
    rename_i e1 es hpl
    rw [(h.plc hpl).1]
    simp only
    split at ha
    rotate_left
    · cases ha
    rename_i hle
    rw [if_pos hle]
    split at ha
    rotate_left
    · cases ha
    rename_i st2 hs
    simp only [Option.some.injEq,Prod.mk.injEq] at ha
    obtain ⟨rfl,rfl⟩:=ha
    obtain ⟨st2',q1,q2,q3⟩:=h.setPlc hpl hs
    rw [q1]
    exact ⟨_,rfl,q2.kill hP (.rooted r),q3⟩
  | eptr r c p i j=>simp [St.absorb] at ha
  | lptr e j=>simp [St.absorb] at ha
  | agg cs=>simp [St.absorb] at ha
  | tup vs=>simp [St.absorb] at ha
  | un=>simp [St.absorb] at ha
  | _ =>
    simp only [St.absorb,Option.some.injEq,Prod.mk.injEq] at ha ⊢
    obtain ⟨rfl,rfl⟩:=ha
    exact ⟨_,⟨rfl,rfl⟩,h,.refl _⟩
theorem Sim.absorbsK (hP:∀ q,KillOK q→∀ x,P x→P (kl q x)):∀ {xs ys:List IV} {pk:IV→Bool} {st st' st1:St},Sim D P L st st'→st.absorbsK pk xs=some (ys,st1)→∃ st1',st'.absorbsK pk xs=some (ys,st1')∧Sim D P L st1 st1'∧Shp st st1
  | [],ys,pk,st,st',st1,h,ha=>by
    simp only [St.absorbsK,Option.some.injEq,Prod.mk.injEq] at ha ⊢
    obtain ⟨rfl,rfl⟩:=ha
    exact ⟨_,⟨rfl,rfl⟩,h,.refl _⟩
  | x::xs,ys,pk,st,st',st1,h,ha=>by
    simp only [St.absorbsK] at ha ⊢
    split at ha
    rotate_left
    · cases ha
    rename_i y st2 h1
    obtain ⟨st2',q1,q2,q3⟩:=h.absorb hP h1
    split at ha
    rotate_left
    · cases ha
    rename_i ys2 st3 h2
    simp only [Option.some.injEq,Prod.mk.injEq] at ha
    obtain ⟨rfl,rfl⟩:=ha
    obtain ⟨st3',r1,r2,r3⟩:=Sim.absorbsK hP q2 h2
    simp only [q1,r1]
    exact ⟨_,rfl,r2,q3.trans r3⟩
theorem Sim.absorbs (h:Sim D P L st st') (hP:∀ q,KillOK q→∀ x,P x→P (kl q x)) {xs ys:List IV} (ha:st.absorbs xs=some (ys,st1)):∃ st1',st'.absorbs xs=some (ys,st1')∧Sim D P L st1 st1'∧Shp st st1 :=
  Sim.absorbsK hP h ha
theorem Sim.sview (h:Sim D P L st st') {x:IV} {r:Nat×List (List IV)} (hs:st.sview x=some r):st'.sview x=some r:=by
  cases x <;> simp only [St.sview] at hs ⊢ <;> first | exact hs | cases hs | skip
  split at hs
  rotate_left
  · cases hs
  rename_i e es hp
  rw [(h.plc hp).1];exact hs
theorem Sim.loadCells (h:Sim D P L st st') {x:IV} {sz:Nat} {cs:List IV} (hl:st.loadCells sz x=some cs):st'.loadCells sz x=some cs:=by
  cases x <;> simp only [St.loadCells] at hl ⊢ <;> first | exact hl | cases hl | skip
  · split at hl
    rotate_left
    · cases hl
    rename_i hp
    rw [(h.plc hp).1];exact hl
  · split at hl
    rotate_left
    · cases hl
    rename_i hb
    rw [h.box hb];exact hl
theorem Sim.storeCells (h:Sim D P L st st') (hP:∀ q,KillOK q→∀ x,P x→P (kl q x)) {a:IV} {ys:List IV} (hs:st.storeCells a ys=some st1):∃ st1',st'.storeCells a ys=some st1'∧Sim D P L st1 st1'∧Shp st st1:=by
  unfold St.storeCells at hs ⊢
  split at hs
  · rename_i l k c
    split at hs
    rotate_left
    · cases hs
    rename_i cs hb
    simp only [h.box hb]
    split at hs
    rotate_left
    · cases hs
    rename_i old ho
    try simp only [ho]
    split at hs
    rotate_left
    · cases hs
    rename_i hl
    rw [if_pos hl]
    obtain ⟨q1,q2⟩:=h.setBox (cs':=splice cs c ys) hb
    simp only [Option.some.injEq] at hs ⊢
    subst hs
    refine ⟨_,rfl,?_,?_⟩
    · split
      · exact q1
      · exact q1.kill hP (.rooted _)
    · split
      · exact q2
      · exact q2
  · rename_i r c p i j
    split at hs
    · cases hs
    rename_i hd
    rw [if_neg hd]
    split at hs
    rotate_left
    · cases hs
    rename_i e es hp
    simp only [(h.plc hp).1]
    split at hs
    rotate_left
    · cases hs
    rename_i el hi
    try simp only [hi]
    split at hs
    rotate_left
    · cases hs
    rename_i old ho
    try simp only [ho]
    split at hs
    rotate_left
    · cases hs
    rename_i st2 h2
    obtain ⟨st2',q1,q2,q3⟩:=h.setPlc hp h2
    simp only [q1,Option.some.injEq] at hs ⊢
    subst hs
    refine ⟨_,rfl,?_,?_⟩
    · split
      · exact q2
      · exact q2.kill hP (.rooted _)
    · split
      · exact q3
      · exact q3
  · cases hs
theorem shows_own:∀ {xs:List IV} {cs:List IV} {i s:Nat},aggRoot xs=some s→shows s i xs cs=true→cs.any IV.isOwn=true
  | [],cs,i,s,h,_=>by cases h
  | x::xs,[],i,s,_,h=>by unfold shows at h;split at h <;> simp_all
  | x::xs,c::cs,i,s,hr,h=>by
    unfold shows at h
    split at h
    · simp_all
    · rename_i h1 h2
      cases h1;cases h2
      simp only [Bool.and_eq_true] at h
      have:=shows_own (xs:=xs) (by simpa [aggRoot] using hr) h.2
      simp [this]
    · rename_i h1 h2
      cases h1;cases h2
      simp [IV.isOwn]
    · cases h
theorem shows_notD (h:Sim D P L st st') {xs cs:List IV} {s:Nat} (hroot:aggRoot xs=some s) (hs:tget st.T s=.agg cs) (hsh:shows s 0 xs cs=true):¬ D s:=fun hd=>by
  have h9:=h.H s hd
  rw [hs] at h9
  simp only [IV.holds] at h9
  rw [shows_own hroot hsh] at h9
  cases h9
theorem Sim.arg1 (h:Sim D P L st st') (hP:∀ q,KillOK q→∀ x,P x→P (kl q x)) {m:Mode} {o:Opd} (ho:NoU D (opdU o)) {v:Option IV} (ha:st.arg1 m o=some (v,st1)):∃ st1',st'.arg1 m o=some (v,st1')∧Sim D P L st1 st1'∧Shp st st1:=by
  cases m with
  | val=>simp only [St.arg1,Option.some.injEq,Prod.mk.injEq] at ha ⊢;obtain ⟨rfl,rfl⟩:=ha;exact ⟨_,⟨rfl,rfl⟩,h,.refl _⟩
  | rv=>simp only [St.arg1,Option.some.injEq,Prod.mk.injEq] at ha ⊢;obtain ⟨rfl,rfl⟩:=ha;exact ⟨_,⟨rfl,rfl⟩,h,.refl _⟩
  | rd =>
    simp only [St.arg1] at ha ⊢
    cases ht:Idl.tk st.T o with
    | mk x T =>
    obtain ⟨T',q1,q2⟩:=h.tk hP ho ht
    rw [ht] at ha
    rw [q1]
    cases x <;> simp only at ha ⊢ <;> try (simp only [Option.some.injEq,Prod.mk.injEq] at ha ⊢;obtain ⟨rfl,rfl⟩:=ha;exact ⟨_,⟨rfl,rfl⟩,by first | exact q2 | exact h,.refl _⟩)
    split at ha
    · rename_i hp
      rw [if_pos hp]
      simp only [Option.some.injEq,Prod.mk.injEq] at ha ⊢;obtain ⟨rfl,rfl⟩:=ha;exact ⟨_,⟨rfl,rfl⟩,q2,.refl _⟩
    · rename_i hp
      rw [if_neg hp]
      simp only [Option.some.injEq,Prod.mk.injEq] at ha ⊢;obtain ⟨rfl,rfl⟩:=ha;exact ⟨_,⟨rfl,rfl⟩,h,.refl _⟩
  | tk =>
    simp only [St.arg1] at ha ⊢
    cases ht:Idl.tk st.T o with
    | mk x T =>
    obtain ⟨T',q1,q2⟩:=h.tk hP ho ht
    rw [ht] at ha
    rw [q1]
    cases x <;> simp only at ha ⊢
    case agg cs =>
      split at ha
      rotate_left
      · cases ha
      rename_i cs2 st2 h2
      obtain ⟨st2',r1,r2,r3⟩:=q2.absorbs hP h2
      simp only [r1,Option.some.injEq,Prod.mk.injEq] at ha ⊢
      obtain ⟨rfl,rfl⟩:=ha
      exact ⟨_,⟨rfl,rfl⟩,r2,r3⟩
    all_goals
      split at ha
      rotate_left
      · cases ha
      rename_i h2
      obtain ⟨st2',r1,r2,r3⟩:=q2.absorb hP h2
      simp only [r1,Option.some.injEq,Prod.mk.injEq] at ha ⊢
      obtain ⟨rfl,rfl⟩:=ha
      exact ⟨_,⟨rfl,rfl⟩,r2,r3⟩
  | ld =>
    simp only [St.arg1,h.rd ho] at ha ⊢
    split at ha
    · rename_i s c e n hr
      split at ha
      · rename_i e2 es hs
        have hD:¬ D s:=fun hd=>by have:=h.H s hd;rw [hs] at this;cases this
        simp only [h.T s hD,hs]
        split at ha
        rotate_left
        · cases ha
        rename_i hn
        rw [if_pos hn]
        simp only [Option.some.injEq,Prod.mk.injEq] at ha ⊢
        obtain ⟨rfl,rfl⟩:=ha
        exact ⟨_,⟨rfl,rfl⟩,h.dropSlot hP hD,.refl _⟩
      · rename_i cs hs
        split at ha
        rotate_left
        · cases ha
        rename_i e2 es hce
        have hD:¬ D s:=fun hd=>by
          have:=h.H s hd
          rw [hs] at this
          simp only [IV.holds,List.any_eq_false] at this
          exact this _ (List.mem_of_getElem? hce) rfl
        simp only [h.T s hD,hs,hce]
        split at ha
        rotate_left
        · cases ha
        rename_i hn
        rw [if_pos hn]
        simp only [Option.some.injEq,Prod.mk.injEq] at ha ⊢
        obtain ⟨rfl,rfl⟩:=ha
        exact ⟨_,⟨rfl,rfl⟩,(h.dropSlot hP hD).cons hD _,.refl _⟩
      · cases ha
    · rename_i xs hr
      split at ha
      rotate_left
      · cases ha
      rename_i s hroot
      split at ha
      rotate_left
      · cases ha
      rename_i cs hs
      split at ha
      rotate_left
      · cases ha
      rename_i hsh
      have hD:=shows_notD h hroot hs hsh
      simp only [h.T s hD,hs]
      rw [if_pos hsh]
      simp only [Option.some.injEq,Prod.mk.injEq] at ha ⊢
      obtain ⟨rfl,rfl⟩:=ha
      exact ⟨_,⟨rfl,rfl⟩,h.dropSlot hP hD,.refl _⟩
    · cases ha
theorem Sim.args1 (hP:∀ q,KillOK q→∀ x,P x→P (kl q x)):∀ {l:List (Mode×Opd)} {st st' st1:St} {vs:List (Option IV)} {ss:List (Nat×Nat)},Sim D P L st st'→NoU D (l.flatMap fun a=>opdU a.2)→st.args1 l=some (vs,st1,ss) →
    ∃ st1',st'.args1 l=some (vs,st1',ss)∧Sim D P L st1 st1'∧Shp st st1∧NoU D (ss.map (·.1))
  | [],st,st',st1,vs,ss,h,_,ha=>by
    simp only [St.args1,Option.some.injEq,Prod.mk.injEq] at ha ⊢
    obtain ⟨rfl,rfl,rfl⟩:=ha
    exact ⟨_,⟨rfl,rfl,rfl⟩,h,.refl _,fun s hs=>by cases hs⟩
  | (m,o)::l,st,st',st1,vs,ss,h,ho,ha=>by
    have ho1:NoU D (opdU o):=fun s hs=>ho s (by simp [hs])
    have ho2:NoU D (l.flatMap fun a=>opdU a.2):=fun s hs=>ho s (by rw [List.flatMap_cons];simp [hs])
    simp only [St.args1] at ha ⊢
    split at ha
    rotate_left
    · cases ha
    rename_i v st2 h1
    obtain ⟨st2',q1,q2,q3⟩:=h.arg1 hP ho1 h1
    split at ha
    rotate_left
    · cases ha
    rename_i vs2 st3 ss2 h2
    obtain ⟨st3',r1,r2,r3,r4⟩:=Sim.args1 hP q2 ho2 h2
    simp only [Option.some.injEq,Prod.mk.injEq] at ha
    obtain ⟨rfl,rfl,rfl⟩:=ha
    have hl:ldSlot st'.T m o=ldSlot st.T m o∧NoU D ((ldSlot st.T m o).map (·.1)):=by
      cases m <;> try exact ⟨rfl,fun s hs=>by cases hs⟩
      simp only [St.arg1] at h1
      simp only [ldSlot,h.rd ho1]
      split at h1
      · rename_i s c e n hr
        simp only [hr]
        have hD:¬ D s:=fun hd=>by
          have h9:=h.H s hd
          split at h1
          · rename_i hs;rw [hs] at h9;cases h9
          · rename_i cs hs
            split at h1
            · rename_i hce
              rw [hs] at h9
              simp only [IV.holds,List.any_eq_false] at h9
              exact h9 _ (List.mem_of_getElem? hce) rfl
            · cases h1
          · cases h1
        rw [h.T s hD]
        refine ⟨rfl,fun t ht=>?_⟩
        split at ht <;> simp only [List.map_cons,List.map_nil,List.mem_singleton] at ht <;> exact ht ▸ hD
      · rename_i xs hr
        simp only [hr]
        split at h1
        rotate_left
        · cases h1
        rename_i s hroot
        try simp only [hroot]
        split at h1
        rotate_left
        · cases h1
        rename_i cs hs
        split at h1
        rotate_left
        · cases h1
        rename_i hsh
        refine ⟨by first | rfl | trivial,fun t ht=>?_⟩
        simp only [List.map_cons,List.map_nil,List.mem_singleton] at ht
        exact ht ▸ shows_notD h hroot hs hsh
      · cases h1
    simp only [q1,r1,hl.1]
    refine ⟨_,rfl,r2,q3.trans r3,fun s hs=>?_⟩
    rw [List.map_append] at hs
    rcases List.mem_append.1 hs with hs | hs
    · exact hl.2 s hs
    · exact r4 s hs
theorem Sim.seen (h:Sim D P L st st') {x:IV} {r:IV×Bool} (hs:st.seen x=some r):st'.seen x=some r:=by
  unfold St.seen at *
  split at hs
  · rename_i hp;rw [if_pos hp];exact hs
  · rename_i hp;rw [if_neg hp]
    split at hs
    rotate_left
    · cases hs
    rename_i hv
    rw [h.sview hv];exact hs
theorem Sim.seens (h:Sim D P L st st'):∀ {xs:List IV} {r:List IV×Bool},st.seens xs=some r→st'.seens xs=some r
  | [],r,hs=>hs
  | x::xs,r,hs=>by
    simp only [St.seens] at hs ⊢
    split at hs
    rotate_left
    · cases hs
    rename_i h1
    rw [h.seen h1]
    simp only
    split at hs
    rotate_left
    · cases hs
    rename_i h2
    rw [h.seens h2];exact hs
theorem Sim.arg2 (h:Sim D P L st st') {m:Mode} {o:Opd} (ho:NoU D (opdU o)) {r:IV×Bool} (ha:st.arg2 m o=some r):st'.arg2 m o=some r:=by
  cases m <;> simp only [St.arg2,h.rd ho] at ha ⊢ <;> try exact ha
  all_goals
    split at ha
    · split at ha
      rotate_left
      · cases ha
      rename_i hs
      rw [h.seens hs];exact ha
    · exact h.seen ha
theorem Sim.args2 (h:Sim D P L st st'):∀ {l:List (Mode×Opd)} {vs:List (Option IV)} {r:List IV×Bool},NoU D (l.flatMap fun a=>opdU a.2)→st.args2 l vs=some r→st'.args2 l vs=some r
  | [],[],r,_,ha=>ha
  | [],_::_,r,_,ha=>by simp [St.args2] at ha
  | a::l,[],r,_,ha=>by simp [St.args2] at ha
  | a::l,some v::vs,r,ho,ha=>by
    have ho2:NoU D (l.flatMap fun a=>opdU a.2):=fun s hs=>ho s (by rw [List.flatMap_cons];simp [hs])
    simp only [St.args2] at ha ⊢
    split at ha
    rotate_left
    · cases ha
    rename_i h1
    rw [h.args2 ho2 h1];exact ha
  | (m,o)::l,none::vs,r,ho,ha=>by
    have ho1:NoU D (opdU o):=fun s hs=>ho s (by simp [hs])
    have ho2:NoU D (l.flatMap fun a=>opdU a.2):=fun s hs=>ho s (by rw [List.flatMap_cons];simp [hs])
    simp only [St.args2] at ha ⊢
    split at ha
    rotate_left
    · cases ha
    rename_i h1
    rw [h.arg2 ho1 h1]
    simp only
    split at ha
    rotate_left
    · cases ha
    rename_i h2
    rw [h.args2 ho2 h2];exact ha
theorem Sim.args (h:Sim D P L st st') (hP:∀ q,KillOK q→∀ x,P x→P (kl q x)) {l:List (Mode×Opd)} (ho:NoU D (l.flatMap fun a=>opdU a.2)) {vs:List IV} {b:Bool} {ss:List (Nat×Nat)} (ha:st.args l=some (vs,st1,b,ss)) :
    ∃ st1',st'.args l=some (vs,st1',b,ss)∧Sim D P L st1 st1'∧Shp st st1∧NoU D (ss.map (·.1)):=by
  unfold St.args at ha ⊢
  split at ha
  rotate_left
  · cases ha
  rename_i v1 st2 ss2 h1
  obtain ⟨st2',q1,q2,q3,q4⟩:=Sim.args1 hP h ho h1
  simp only [q1]
  split at ha
  rotate_left
  · cases ha
  rename_i h2
  rw [q2.args2 ho h2]
  simp only [Option.some.injEq,Prod.mk.injEq] at ha ⊢
  obtain ⟨rfl,rfl,rfl,rfl⟩:=ha
  exact ⟨_,⟨rfl,rfl,rfl,rfl⟩,q2,q3,q4⟩
theorem Sim.lentBack (hP:∀ q,KillOK q→∀ x,P x→P (kl q x)):∀ {ss:List (Nat×Nat)} {ys:List IV} {st st' st1:St},Sim D P L st st'→NoU D (ss.map (·.1))→st.lentBack ss ys=some st1→∃ st1',st'.lentBack ss ys=some st1'∧Sim D P L st1 st1'
  | [],[],st,st',st1,h,_,ha=>by
    simp only [St.lentBack,Option.some.injEq] at ha ⊢;subst ha;exact ⟨_,rfl,h⟩
  | [],_::_,st,st',st1,h,_,ha=>by simp [St.lentBack] at ha
  | _::_,[],st,st',st1,h,_,ha=>by simp [St.lentBack] at ha
  | (s,0)::ss,y::ys,st,st',st1,h,ho,ha=>by
    simp only [St.lentBack] at ha ⊢
    split at ha
    rotate_left
    · cases ha
    rename_i hy
    rw [if_pos hy]
    exact Sim.lentBack hP (h.tput hP (ho s (by simp)) y) (fun t ht=>ho t (by rw [List.map_cons];exact List.mem_cons_of_mem _ ht)) ha
  | (s,c+1)::ss,y::ys,st,st',st1,h,ho,ha=>by
    have hD:¬ D s:=ho s (by simp)
    simp only [St.lentBack,h.T s hD] at ha ⊢
    split at ha
    rotate_left
    · cases ha
    rename_i hy
    rw [if_pos hy]
    split at ha
    rotate_left
    · cases ha
    rename_i cs hs
    split at ha
    rotate_left
    · cases ha
    rename_i hcu
    try simp only [hcu]
    exact Sim.lentBack hP ((h.dropSlot hP hD).cons hD _) (fun t ht=>ho t (by rw [List.map_cons];exact List.mem_cons_of_mem _ ht)) ha
theorem Sim.callWith (h:Sim D P L st st') (hP:∀ q,KillOK q→∀ x,P x→P (kl q x)) {cf:CF} {f:Lab} {caps:List IV} {args:List (Mode×Opd)} {p:Bool} (hp:p=true ∨ L=[]) (ho:NoU D (args.flatMap fun a=>opdU a.2)) {v:IV}
    (hc:st.callWith cf f caps args p=some (v,st1)):∃ st1',st'.callWith cf f caps args p=some (v,st1')∧Sim D P L st1 st1'∧(p=true→Shp st st1):=by
  unfold St.callWith at hc ⊢
  split at hc
  rotate_left
  · cases hc
  rename_i vs st2 fz ss h1
  obtain ⟨st2',q1,q2,q3,q4⟩:=h.args hP ho h1
  simp only [q1]
  cases p with
  | true =>
    simp only [if_true] at hc ⊢
    split at hc
    · cases hc
    rename_i hg
    rw [if_neg hg]
    split at hc
    rotate_left
    · cases hc
    split at hc
    · rename_i hz
      simp only [hz,if_true]
      split at hc
      · rename_i hn
        rw [if_pos hn]
        simp only [Option.some.injEq,Prod.mk.injEq] at hc ⊢
        obtain ⟨rfl,rfl⟩:=hc
        exact ⟨_,⟨rfl,rfl⟩,q2,fun _=>q3⟩
      · cases hc
    · rename_i hz
      simp only [hz,if_false,Bool.false_eq_true]
      simp only [Option.some.injEq,Prod.mk.injEq] at hc ⊢
      obtain ⟨rfl,rfl⟩:=hc
      exact ⟨_,⟨rfl,rfl⟩,q2,fun _=>q3⟩
  | false =>
    have hL:L=[]:=by rcases hp with hp | hp;cases hp;exact hp
    subst hL
    have hloc:st2'.loc=st2.loc:=by rw [q2.loc,List.append_nil]
    simp only [Bool.false_eq_true,if_false,q2.M,hloc] at hc ⊢
    split at hc
    · cases hc
    rename_i hz
    simp only [hz,Bool.false_eq_true,if_false]
    split at hc
    rotate_left
    · cases hc
    rename_i rv back M exp hcf
    split at hc
    rotate_left
    · cases hc
    rename_i lo hlo
    try simp only [hlo]
    split at hc
    rotate_left
    · cases hc
    rename_i hM
    rw [if_pos hM]
    split at hc
    rotate_left
    · cases hc
    rename_i st3 hlb
    have hs:Sim D P [] { T:=killBoxes st2.T,loc:=lo++exp,M:=M.dropLast } { T:=killBoxes st2'.T,loc:=lo++exp,M:=M.dropLast }:=by
      have:=q2.kill hP .rootB
      exact ⟨this.T,this.Q,this.H,rfl,by simp⟩
    obtain ⟨st3',r1,r2⟩:=Sim.lentBack hP hs q4 hlb
    simp only [r1]
    split at hc
    · simp only [Option.some.injEq,Prod.mk.injEq] at hc ⊢
      obtain ⟨rfl,rfl⟩:=hc
      exact ⟨_,⟨rfl,rfl⟩,r2,fun hh=>by cases hh⟩
    · split at hc
      rotate_left
      · cases hc
      rename_i hl
      rw [if_pos hl]
      simp only [Option.some.injEq,Prod.mk.injEq] at hc ⊢
      obtain ⟨rfl,rfl⟩:=hc
      exact ⟨_,⟨rfl,rfl⟩,r2,fun hh=>by cases hh⟩
    · cases hc
theorem Sim.callWithH (h:Sim D P L st st') (hP:∀ q,KillOK q→∀ x,P x→P (kl q x)) {cf:CF} {f:Lab} {args:List (Mode×Opd)} (hL:L=[]) (ho:NoU D (args.flatMap fun a=>opdU a.2)) {v:IV}
    (hc:st.callWithH cf f args=some (v,st1)):∃ st1',st'.callWithH cf f args=some (v,st1')∧Sim D P L st1 st1':=by
  unfold St.callWithH at hc ⊢
  split at hc
  rotate_left
  · cases hc
  rename_i vs st2 fz ss h1
  obtain ⟨st2',q1,q2,q3,q4⟩:=h.args hP ho h1
  simp only [q1]
  subst hL
  have hloc:st2'.loc=st2.loc:=by rw [q2.loc,List.append_nil]
  simp only [q2.M,hloc] at hc ⊢
  split at hc
  · cases hc
  rename_i hz
  simp only [hz,Bool.false_eq_true,if_false]
  split at hc
  rotate_left
  · cases hc
  rename_i hlv
  simp only [hlv,if_true]
  split at hc
  rotate_left
  · cases hc
  rename_i rv back M exp hcf
  split at hc
  rotate_left
  · cases hc
  rename_i hlo
  try simp only [hlo]
  split at hc
  rotate_left
  · cases hc
  rename_i hM
  rw [if_pos hM]
  split at hc
  rotate_left
  · cases hc
  rename_i st3 hlb
  have hs:Sim D P [] { T:=killBy (IV.rootL st2.M.length) st2.T,loc:=st2.loc++exp,M:=M.dropLast } { T:=killBy (IV.rootL st2.M.length) st2'.T,loc:=st2.loc++exp,M:=M.dropLast }:=by
    have:=q2.kill hP (.rootL st2.M.length)
    exact ⟨this.T,this.Q,this.H,rfl,by simp⟩
  obtain ⟨st3',r1,r2⟩:=Sim.lentBack hP hs q4 hlb
  simp only [r1]
  split at hc
  · simp only [Option.some.injEq,Prod.mk.injEq] at hc ⊢
    obtain ⟨rfl,rfl⟩:=hc
    exact ⟨_,⟨rfl,rfl⟩,r2⟩
  · split at hc
    rotate_left
    · cases hc
    rename_i hl
    rw [if_pos hl]
    simp only [Option.some.injEq,Prod.mk.injEq] at hc ⊢
    obtain ⟨rfl,rfl⟩:=hc
    exact ⟨_,⟨rfl,rfl⟩,r2⟩
  · cases hc
end
end Go.Idl
namespace Go.Idl
open Go
def evq (st:St):K→Option IV
  | .mv x=>some (rd st.T x)
  | .nilo e=>some (.own e [])
  | .pick c a b=>match rd st.T c with
    | .sc (.bool t)=>some (rd st.T (if t then a else b))
    | _=>none
  | .bsls esz zero len parts=>match fillRd st.T (elemsOf zero len) esz parts with
    | some es=>some (.own esz es)
    | none=>none
  | .load agg sz a=>match st.loadCells sz (rd st.T a) with
    | some cs=>pack agg cs
    | none=>none
  | .nilck x=>match rd st.T x with
    | .bptr l k c=>some (.bptr l k c)
    | .eptr r c p i j=>some (.eptr r c p i j)
    | .lptr e j=>some (.lptr e j)
    | _=>none
  | .bin op x y=>binV op (rd st.T x) (rd st.T y)
  | .eqa neg n x y=>match rd st.T x,rd st.T y with
    | .agg xs,.agg ys=>if xs.length=n then match eqCells xs ys with
        | some b=>some (.sc (.bool (if neg then !b else b)))
        | none=>none
      else none
    | _,_=>none
  | .eqb neg x y=>match rd st.T x,rd st.T y with
    | .sc (.bool a),.sc (.bool b)=>some (.sc (.bool (if neg then !(a == b) else a == b)))
    | _,_=>none
  | .unop op x=>match rd st.T x with
    | .sc v=>match pureRun (Op.unary op v) with
      | some v=>if Idl.isSc v then some (.sc v) else none
      | none=>none
    | _=>none
  | .conv k x=>match rd st.T x with
    | .sc (.int _ n)=>some (.sc (.int k (k.wrap n)))
    | _=>none
  | .mkfn f caps=>if (caps.map (rd st.T)).all IV.isBptr then some (.fn f (caps.map (rd st.T))) else none
  | .mksl esz zero len cap=>match natOf (rd st.T len),natOf (rd st.T cap) with
    | some l,some c=>if l≤c∧c≤lim then some (.own esz (elemsOf zero l)) else none
    | _,_=>none
  | .slc esz x lo hi mx=>match slen (rd st.T x) with
    | some n=>match bound 0 st.T lo,bound n st.T hi with
      | some l,some h=>match mx with
        | none=>slcV esz (rd st.T x) l h none
        | some m=>match natOf (rd st.T m) with
          | some m=>slcV esz (rd st.T x) l h (some m)
          | none=>none
      | _,_=>none
    | none=>none
  | .slcs x lo hi=>match rd st.T x with
    | .sc (.string s)=>match bound 0 st.T lo,bound s.size st.T hi with
      | some l,some h=>if l≤h∧h≤s.size then some (.sc (.string (s.extract l h))) else none
      | _,_=>none
    | _=>none
  | .fadr off x=>match rd st.T x with
    | .bptr l k c=>some (.bptr l k (c+off))
    | .eptr r c p i j=>some (.eptr r c p i (j+off))
    | .lptr e j=>some (.lptr e (j+off))
    | _=>none
  | .fld agg off sz x=>match rd st.T x with
    | .agg cs=>match sub cs off sz with
      | some cs=>pack agg cs
      | none=>none
    | _=>none
  | .iadr esz x i=>match natOf (rd st.T i) with
    | some i=>match rd st.T x with
      | .lst e es _=>if e=esz then match es[i]? with
          | some e=>some (.lptr e 0)
          | none=>none
        else none
      | .arr r c p e off n _=>if e=esz∧i < n then some (.eptr r c p (off+i) 0) else none
      | _=>none
    | none=>none
  | .idxs x i=>match rd st.T x,natOf (rd st.T i) with
    | .sc (.string s),some i=>match s[i]? with
      | some b=>some (.sc (.int .u8 b.toNat))
      | none=>none
    | _,_=>none
  | .len x=>match slen (rd st.T x) with
    | some n=>some (.sc (.int .i64 n))
    | none=>none
  | .capn x=>match rd st.T x with
    | .lst _ es true=>some (.sc (.int .i64 es.length))
    | _=>none
  | .lens x=>match rd st.T x with
    | .sc (.string s)=>some (.sc (.int .i64 s.size))
    | _=>none
  | .minmax mn x y=>match rd st.T x,rd st.T y with
    | .sc (.int k a),.sc (.int _ b)=>some (.sc (.int k (if mn then (if b < a then b else a) else (if a < b then b else a))))
    | _,_=>none
  | _=>none
theorem ev_plain {cf:CF} {st:St} {k:K} (hk:plainK k=true):ev cf st k=(evq st k).map fun v=>(v,st):=by
  cases k <;> simp only [plainK,Bool.false_eq_true] at hk <;> simp only [ev,evq]
  case nilck x=>generalize rd st.T x=y;cases y <;> rfl
  case fadr off x=>generalize rd st.T x=y;cases y <;> rfl
  case iadr e x i =>
    cases natOf (rd st.T i) with
    | none=>rfl
    | some n =>
      generalize rd st.T x=y
      cases y <;> simp only <;> first
        | rfl
        | (split <;> first
            | rfl
            | (split <;> simp_all))
  all_goals first
    | rfl
    | (split <;> rfl)
    | (split
       · split <;> first | rfl | simp_all
       · first | rfl | simp_all)
    | (repeat' split) <;> first | rfl | simp_all
section
variable {D:Nat→Prop} {P:IV→Prop} {L:Boxes} {st st' st1:St} {cf:CF}
theorem Sim.bound (h:Sim D P L st st') {d:Nat} {o:Option Opd} (ho:NoU D (optU o)):bound d st'.T o=bound d st.T o:=by
  cases o with
  | none=>rfl
  | some o=>simp only [Idl.bound];rw [h.rd (o:=o) ho]
theorem fillRd_congr {T T':Tm} {e:Nat}:∀ {ps:List (Nat×Opd)} {es:List (List IV)},(∀ p ∈ ps,rd T' p.2=rd T p.2)→fillRd T' es e ps=fillRd T es e ps
  | [],es,_=>rfl
  | (i,o)::r,es,h=>by
    have h1:=h (i,o) (by simp)
    simp only at h1
    simp only [fillRd,h1]
    rw [fillRd_congr fun p hp=>h p (by simp [hp])]
theorem Sim.evq (h:Sim D P L st st') {k:K} (ho:NoU D k.useL) {v:IV} (he:evq st k=some v):evq st' k=some v:=by
  have sub:∀ {x:Opd} {l:List Nat},(∀ s ∈ opdU x,s ∈ l)→NoU D l→Idl.rd st'.T x=Idl.rd st.T x:=fun hs hl=>h.rd fun s hh=>hl s (hs s hh)
  cases k <;> simp only [K.useL] at ho <;> simp only [Idl.evq] at he ⊢ <;> try exact he
  case mv x=>rw [h.rd ho];exact he
  case pick c a b =>
    rw [sub (x:=c) (by intro s hs;simp [hs]) ho]
    split at he
    · rename_i t _
      rw [h.rd (o:=if t=true then a else b) (by intro s hs;refine ho s ?_;cases t <;> simp_all)];exact he
    · cases he
  case load ag sz a =>
    rw [h.rd ho]
    split at he
    · rename_i cs hc
      rw [h.loadCells hc];exact he
    · cases he
  case bsls e z n ps =>
    rw [fillRd_congr (T:=st.T) fun p hp=>h.rd fun s hs=>ho s (List.mem_flatMap.2 ⟨p,hp,hs⟩)];exact he
  case nilck x=>rw [h.rd ho];exact he
  case bin op x y=>rw [sub (x:=x) (by intro s hs;simp [hs]) ho,sub (x:=y) (by intro s hs;simp [hs]) ho];exact he
  case eqa n q x y=>rw [sub (x:=x) (by intro s hs;simp [hs]) ho,sub (x:=y) (by intro s hs;simp [hs]) ho];exact he
  case eqb n x y=>rw [sub (x:=x) (by intro s hs;simp [hs]) ho,sub (x:=y) (by intro s hs;simp [hs]) ho];exact he
  case unop op x=>rw [h.rd ho];exact he
  case conv q x=>rw [h.rd ho];exact he
  case mkfn f caps =>
    have:caps.map (Idl.rd st'.T)=caps.map (Idl.rd st.T):=List.map_congr_left fun o hm=>h.rd fun s hs=>ho s (List.mem_flatMap.2 ⟨o,hm,hs⟩)
    rw [this];exact he
  case mksl e z x y=>rw [sub (x:=x) (by intro s hs;simp [hs]) ho,sub (x:=y) (by intro s hs;simp [hs]) ho];exact he
  case slc e x lo hi mx =>
    rw [sub (x:=x) (by intro s hs;simp [hs]) ho]
    simp only [h.bound (o:=lo) (fun s hs=>ho s (by simp [hs])),h.bound (o:=hi) (fun s hs=>ho s (by simp [hs]))]
    cases mx with
    | none=>exact he
    | some m=>simp only;rw [sub (x:=m) (by intro s hs;simp [optU,hs]) ho];exact he
  case slcs x lo hi =>
    rw [sub (x:=x) (by intro s hs;simp [hs]) ho]
    simp only [h.bound (o:=lo) (fun s hs=>ho s (by simp [hs])),h.bound (o:=hi) (fun s hs=>ho s (by simp [hs]))]
    exact he
  case fadr off x=>rw [h.rd ho];exact he
  case fld ag off sz x=>rw [h.rd ho];exact he
  case iadr e x i=>rw [sub (x:=x) (by intro s hs;simp [hs]) ho,sub (x:=i) (by intro s hs;simp [hs]) ho];exact he
  case idxs x i=>rw [sub (x:=x) (by intro s hs;simp [hs]) ho,sub (x:=i) (by intro s hs;simp [hs]) ho];exact he
  case len x=>rw [h.rd ho];exact he
  case capn x=>rw [h.rd ho];exact he
  case lens x=>rw [h.rd ho];exact he
  case minmax mn x y=>rw [sub (x:=x) (by intro s hs;simp [hs]) ho,sub (x:=y) (by intro s hs;simp [hs]) ho];exact he
theorem Sim.fillCells (hP:∀ q,KillOK q→∀ x,P x→P (kl q x)):∀ {ps:List (Nat×Nat×Opd)} {cs cs2:List IV} {st st':St} {T:Tm},Sim D P L st st'→NoU D (ps.flatMap fun p=>opdU p.2.2)→fillCells st.T cs ps=some (cs2,T) →
    ∃ T',fillCells st'.T cs ps=some (cs2,T')∧Sim D P L { st with T:=T } { st' with T:=T' }
  | [],cs,cs2,st,st',T,h,_,he=>by
    simp only [Idl.fillCells,Option.some.injEq,Prod.mk.injEq] at he ⊢
    obtain ⟨rfl,rfl⟩:=he
    exact ⟨_,⟨rfl,rfl⟩,h⟩
  | (off,sz,o)::ps,cs,cs2,st,st',T,h,ho,he=>by
    have ho1:NoU D (opdU o):=fun s hs=>ho s (by rw [List.flatMap_cons];simp [hs])
    have ho2:NoU D (ps.flatMap fun p=>opdU p.2.2):=fun s hs=>ho s (by rw [List.flatMap_cons];simp [hs])
    simp only [Idl.fillCells] at he ⊢
    cases ht:Idl.tk st.T o with
    | mk v T1 =>
    obtain ⟨T1',q1,q2⟩:=h.tk hP ho1 ht
    rw [ht] at he
    rw [q1]
    simp only at he ⊢
    split at he
    rotate_left
    · cases he
    rename_i hc
    rw [if_pos hc]
    exact Sim.fillCells hP q2 ho2 he
theorem Sim.fillElems (hP:∀ q,KillOK q→∀ x,P x→P (kl q x)) {e:Nat}:∀ {ps:List (Nat×Opd)} {es es2:List (List IV)} {st st' st1:St},Sim D P L st st'→NoU D (ps.flatMap fun p=>opdU p.2)→st.fillElems es e ps=some (es2,st1) →
    ∃ st1',st'.fillElems es e ps=some (es2,st1')∧Sim D P L st1 st1'∧Shp st st1
  | [],es,es2,st,st',st1,h,_,he=>by
    simp only [St.fillElems,Option.some.injEq,Prod.mk.injEq] at he ⊢
    obtain ⟨rfl,rfl⟩:=he
    exact ⟨_,⟨rfl,rfl⟩,h,.refl _⟩
  | (i,o)::ps,es,es2,st,st',st1,h,ho,he=>by
    have ho1:NoU D (opdU o):=fun s hs=>ho s (by rw [List.flatMap_cons];simp [hs])
    have ho2:NoU D (ps.flatMap fun p=>opdU p.2):=fun s hs=>ho s (by rw [List.flatMap_cons];simp [hs])
    simp only [St.fillElems] at he ⊢
    cases ht:Idl.tk st.T o with
    | mk v T1 =>
    obtain ⟨T1',q1,q2⟩:=h.tk hP ho1 ht
    rw [ht] at he
    rw [q1]
    simp only at he ⊢
    split at he
    rotate_left
    · cases he
    rename_i cs st2 h2
    obtain ⟨st2',r1,r2,r3⟩:=q2.absorbs hP h2
    simp only [r1]
    split at he
    rotate_left
    · cases he
    rename_i hc
    rw [if_pos hc]
    obtain ⟨st3',k1,k2,k3⟩:=Sim.fillElems hP r2 ho2 he
    exact ⟨st3',k1,k2,Shp.trans (show Shp st st2 from r3) k3⟩
theorem Sim.news (h:Sim D P L st st') (hP:∀ q,KillOK q→∀ x,P x→P (kl q x)) {e:Nat} {o:Opd} (ho:NoU D (opdU o)) {es:List (List IV)} (he:st.news e o=some (es,st1)):∃ st1',st'.news e o=some (es,st1')∧Sim D P L st1 st1'∧Shp st st1:=by
  unfold St.news at he ⊢
  cases ht:Idl.tk st.T o with
  | mk v T1 =>
  obtain ⟨T1',q1,q2⟩:=h.tk hP ho ht
  rw [ht] at he
  rw [q1]
  have other:∀ {r:Option (List (List IV)×St)} ,(match st.sview (Idl.rd st.T o) with
      | some (e2,es)=>if ((e2 == e || es.isEmpty) && es.all fun x=>x.all IV.plain1)=true then some (es,st) else none
      | none=>none)=some (es,st1)→∃ st1',(match st'.sview (Idl.rd st'.T o) with
      | some (e2,es)=>if ((e2 == e || es.isEmpty) && es.all fun x=>x.all IV.plain1)=true then some (es,st') else none
      | none=>none)=some (es,st1')∧Sim D P L st1 st1'∧Shp st st1:=by
    intro _ hh
    rw [h.rd ho]
    split at hh
    rotate_left
    · cases hh
    rename_i hs
    rw [h.sview hs]
    simp only
    split at hh
    · rename_i hc
      rw [if_pos hc]
      simp only [Option.some.injEq,Prod.mk.injEq] at hh ⊢
      obtain ⟨rfl,rfl⟩:=hh
      exact ⟨_,⟨rfl,rfl⟩,h,.refl _⟩
    · cases hh
  cases v <;> simp only at he ⊢ <;> try exact other (r:=none) he
  split at he
  · rename_i hc
    rw [if_pos hc]
    simp only [Option.some.injEq,Prod.mk.injEq] at he ⊢
    obtain ⟨rfl,rfl⟩:=he
    exact ⟨_,⟨rfl,rfl⟩,q2,.refl _⟩
  · cases he
theorem Sim.append (h:Sim D P L st st') (hP:∀ q,KillOK q→∀ x,P x→P (kl q x)) {e:Nat} {o:Opd} (ho:NoU D (opdU o)) {ys:List (List IV)} {v:IV} (he:st.append e o ys=some (v,st1)):∃ st1',st'.append e o ys=some (v,st1')∧Sim D P L st1 st1'∧Shp st st1:=by
  unfold St.append at he ⊢
  cases ht:Idl.tk st.T o with
  | mk x T1 =>
  obtain ⟨T1',q1,q2⟩:=h.tk hP ho ht
  rw [ht] at he
  rw [q1]
  have other:∀ (x:IV),(match ({ st with T:=T1 }:St).absorb x with
      | some (.own e2 es,st)=>if e2=e∧es.length+ys.length≤lim then some (IV.own e (es++ys),st) else none
      | _=>none)=some (v,st1)→∃ st1',(match ({ st' with T:=T1' }:St).absorb x with
      | some (.own e2 es,st)=>if e2=e∧es.length+ys.length≤lim then some (IV.own e (es++ys),st) else none
      | _=>none)=some (v,st1')∧Sim D P L st1 st1'∧Shp st st1:=by
    intro x hh
    split at hh
    rotate_left
    · cases hh
    rename_i e2 es st2 ha
    obtain ⟨st2',r1,r2,r3⟩:=q2.absorb hP ha
    simp only [r1]
    split at hh
    rotate_left
    · cases hh
    rename_i hc
    rw [if_pos hc]
    simp only [Option.some.injEq,Prod.mk.injEq] at hh ⊢
    obtain ⟨rfl,rfl⟩:=hh
    exact ⟨_,⟨rfl,rfl⟩,r2,r3⟩
  cases x <;> try (first | exact other (.sc _) he | exact other (.own _ _) he | exact other (.eptr _ _ _ _ _) he | exact other (.lptr _ _) he | exact other (.bptr _ _ _) he | exact other (.fn _ _) he | exact other (.agg _) he | exact other (.tup _) he | exact other .un he)
  case lst e2 es cl =>
    cases cl with
    | false=>exact other (.lst e2 es false) he
    | true =>
      simp only at he ⊢
      split at he
      · rename_i hc
        rw [if_pos hc]
        simp only [Option.some.injEq,Prod.mk.injEq] at he ⊢
        obtain ⟨rfl,rfl⟩:=he
        exact ⟨_,⟨rfl,rfl⟩,h,.refl _⟩
      · cases he
  case arr r c p e2 off n cl =>
    cases cl with
    | false=>exact other (.arr r c p e2 off n false) he
    | true =>
      simp only at he ⊢
      split at he
      · rename_i hc
        rw [if_pos hc]
        simp only [Option.some.injEq,Prod.mk.injEq] at he ⊢
        obtain ⟨rfl,rfl⟩:=he
        exact ⟨_,⟨rfl,rfl⟩,q2,.refl _⟩
      · cases he
theorem Sim.freezeBox (h:Sim D P L st st') (hP:∀ q,KillOK q→∀ x,P x→P (kl q x)) {l k c sz:Nat} {st1:St} (hs:st.freezeBox l k c sz=some st1):∃ st1',st'.freezeBox l k c sz=some st1'∧Sim D P L st1 st1'∧Shp st st1:=by
  unfold St.freezeBox at hs ⊢
  split at hs
  rotate_left
  · cases hs
  rename_i cs hb
  simp only [h.box hb]
  split at hs
  rotate_left
  · cases hs
  rename_i xs hx
  split at hs
  rotate_left
  · cases hs
  rename_i hc
  rw [if_pos hc]
  simp only [Option.some.injEq] at hs ⊢
  subst hs
  have hk:KillOK (IV.rooted (.B l k)):=.rooted _
  obtain ⟨a1,a2⟩:=h.setBox (cs':=splice cs c (List.replicate sz .un)) hb
  have a3:=a1.kill hP hk
  simp only [setBox_T'] at a3
  obtain ⟨b1,b2⟩:=a3.setBox (l:=l) (k:=k) (cs:=splice cs c (List.replicate sz .un)) (cs':=splice (splice cs c (List.replicate sz .un)) c (frzL xs)) (by
    rw [box_T,box_setBox (by rw [hb];rfl),if_pos ⟨rfl,rfl⟩])
  refine ⟨_,rfl,?_,Shp.trans (show Shp st _ from a2) b2⟩
  have:=b1.kill hP hk
  simpa only [setBox_T',killRt] using this
theorem ev_sim (h:Sim D P L st st') (hP:∀ q,KillOK q→∀ x,P x→P (kl q x)) {k:K} (hk:monoK k=true ∨ L=[]) (ho:NoU D k.useL) {v:IV} (he:ev cf st k=some (v,st1)) :
    ∃ st1',ev cf st' k=some (v,st1')∧Sim D P L st1 st1'∧(monoK k=true→Shp st st1):=by
  by_cases hp:plainK k=true
  · rw [ev_plain hp] at he ⊢
    rw [Option.map_eq_some_iff] at he
    obtain ⟨v',h1,h2⟩:=he
    simp only [Prod.mk.injEq] at h2
    obtain ⟨rfl,rfl⟩:=h2
    rw [h.evq ho h1]
    exact ⟨st',rfl,h,fun _=>.refl _⟩
  cases k <;> simp only [plainK,not_true_eq_false] at hp <;> simp only [K.useL] at ho <;> simp only [ev] at he ⊢
  case mvo e x =>
    rw [h.rd ho]
    simp only [Option.some.injEq,Prod.mk.injEq] at he ⊢
    obtain ⟨rfl,rfl⟩:=he
    exact ⟨_,⟨rfl,rfl⟩,h,fun _=>.refl _⟩
  case strb x =>
    rw [h.rd ho]
    split at he
    rotate_left
    · cases he
    rename_i e ys hv
    rw [h.sview hv]
    simp only
    split at he
    rotate_left
    · cases he
    rename_i hc
    rw [if_pos hc]
    split at he
    rotate_left
    · cases he
    rename_i xs hx
    simp only [Option.some.injEq,Prod.mk.injEq] at he ⊢
    obtain ⟨rfl,rfl⟩:=he
    exact ⟨_,⟨rfl,rfl⟩,h,fun _=>.refl _⟩
  case asg x =>
    cases ht:Idl.tk st.T x with
    | mk u T1 =>
    obtain ⟨T1',q1,q2⟩:=h.tk hP ho ht
    rw [ht] at he
    rw [q1]
    simp only [Option.some.injEq,Prod.mk.injEq] at he ⊢
    obtain ⟨rfl,rfl⟩:=he
    exact ⟨_,⟨rfl,rfl⟩,q2,fun _=>.refl _⟩
  case asgf x =>
    cases ht:Idl.tk st.T x with
    | mk u T1 =>
    obtain ⟨T1',q1,q2⟩:=h.tk hP ho ht
    rw [ht] at he
    rw [q1]
    cases u
    case agg cs=>simp at he
    all_goals
      simp only at he ⊢
      split at he
      rotate_left
      · cases he
      rename_i u2 st2 h2
      obtain ⟨st2',r1,r2,r3⟩:=q2.absorb hP h2
      simp only [r1]
      split at he
      rotate_left
      · cases he
      rename_i hl
      rw [if_pos hl]
      simp only [Option.some.injEq,Prod.mk.injEq] at he ⊢
      obtain ⟨rfl,rfl⟩:=he
      exact ⟨_,⟨rfl,rfl⟩,r2,fun _=>r3⟩
  case asgm x =>
    cases ht:Idl.tk st.T x with
    | mk u T1 =>
    obtain ⟨T1',q1,q2⟩:=h.tk hP ho ht
    rw [ht] at he
    rw [q1]
    cases u <;> simp only at he ⊢
    case agg cs =>
      split at he
      rotate_left
      · cases he
      rename_i cs2 st2 h2
      obtain ⟨st2',r1,r2,r3⟩:=q2.absorbs hP h2
      simp only [r1,Option.some.injEq,Prod.mk.injEq] at he ⊢
      obtain ⟨rfl,rfl⟩:=he
      exact ⟨_,⟨rfl,rfl⟩,r2,fun _=>r3⟩
    all_goals
      split at he
      rotate_left
      · cases he
      rename_i u2 st2 h2
      obtain ⟨st2',r1,r2,r3⟩:=q2.absorb hP h2
      simp only [r1,Option.some.injEq,Prod.mk.injEq] at he ⊢
      obtain ⟨rfl,rfl⟩:=he
      exact ⟨_,⟨rfl,rfl⟩,r2,fun _=>r3⟩
  case clr x z =>
    rw [h.rd ho]
    split at he
    rotate_left
    · cases he
    split at he
    rotate_left
    · cases he
    rename_i hp1
    simp only [(h.plc hp1).1]
    split at he
    rotate_left
    · cases he
    rename_i hc
    rw [if_pos hc]
    split at he
    rotate_left
    · cases he
    rename_i st2 h2
    obtain ⟨st2',q1,q2,q3⟩:=h.setPlc hp1 h2
    simp only [q1,Option.some.injEq,Prod.mk.injEq] at he ⊢
    obtain ⟨rfl,rfl⟩:=he
    exact ⟨_,⟨rfl,rfl⟩,q2.kill hP (.rooted _),fun _=>q3⟩
  case clrs x z =>
    rw [h.rd ho]
    split at he
    rotate_left
    · cases he
    split at he
    rotate_left
    · cases he
    rename_i hp1
    simp only [(h.plc hp1).1]
    split at he
    rotate_left
    · cases he
    rename_i hc
    rw [if_pos hc]
    split at he
    · rename_i hn
      rw [if_pos hn]
      simp only [Option.some.injEq,Prod.mk.injEq] at he ⊢
      obtain ⟨rfl,rfl⟩:=he
      exact ⟨_,⟨rfl,rfl⟩,h,fun _=>.refl _⟩
    rename_i hn
    rw [if_neg hn]
    split at he
    rotate_left
    · cases he
    rename_i st2 h2
    obtain ⟨st2',q1,q2,q3⟩:=h.setPlc hp1 h2
    simp only [q1,Option.some.injEq,Prod.mk.injEq] at he ⊢
    obtain ⟨rfl,rfl⟩:=he
    exact ⟨_,⟨rfl,rfl⟩,q2,fun _=>q3⟩
  case slcb e x lo hi =>
    rw [h.rd (o:=x) (by intro s hs;exact ho s (by simp [hs]))]
    simp only [h.bound (o:=lo) (fun s hs=>ho s (by simp [hs])),h.bound (o:=hi) (fun s hs=>ho s (by simp [hs]))]
    split at he
    rotate_left
    · cases he
    split at he
    rotate_left
    · cases he
    rename_i hp1
    simp only [(h.plc hp1).1]
    split at he
    rotate_left
    · cases he
    rename_i hb1 hb2
    try simp only [hb1,hb2]
    split at he
    rotate_left
    · cases he
    rename_i hc
    rw [if_pos hc]
    simp only [Option.some.injEq,Prod.mk.injEq] at he ⊢
    obtain ⟨rfl,rfl⟩:=he
    exact ⟨_,⟨rfl,rfl⟩,h,fun _=>.refl _⟩
  case appz z x y =>
    rw [h.rd (o:=x) (by intro s hs;exact ho s (by simp [hs])),h.rd (o:=y) (by intro s hs;exact ho s (by simp [hs]))]
    split at he
    rotate_left
    · cases he
    rename_i hx1 hy1
    try simp only [hx1,hy1]
    split at he
    rotate_left
    · cases he
    rename_i hc
    rw [if_pos hc]
    simp only [Option.some.injEq,Prod.mk.injEq] at he ⊢
    obtain ⟨rfl,rfl⟩:=he
    exact ⟨_,⟨rfl,rfl⟩,h,fun _=>.refl _⟩
  case appi e x y =>
    rw [h.rd (o:=x) (by intro s hs;exact ho s (by simp [hs])),h.rd (o:=y) (by intro s hs;exact ho s (by simp [hs]))]
    split at he
    rotate_left
    · cases he
    split at he
    rotate_left
    · cases he
    rename_i hsv
    rw [h.sview hsv]
    simp only
    split at he
    rotate_left
    · cases he
    rename_i hp1
    simp only [(h.plc hp1).1]
    split at he
    rotate_left
    · cases he
    rename_i hc
    rw [if_pos hc]
    split at he
    · rename_i hn
      rw [if_pos hn]
      simp only [Option.some.injEq,Prod.mk.injEq] at he ⊢
      obtain ⟨rfl,rfl⟩:=he
      exact ⟨_,⟨rfl,rfl⟩,h,fun _=>.refl _⟩
    rename_i hn
    rw [if_neg hn]
    split at he
    rotate_left
    · cases he
    rename_i st2 h2
    obtain ⟨st2',q1,q2,q3⟩:=h.setPlc hp1 h2
    simp only [q1,Option.some.injEq,Prod.mk.injEq] at he ⊢
    obtain ⟨rfl,rfl⟩:=he
    exact ⟨_,⟨rfl,rfl⟩,q2,fun _=>q3⟩
  case alloc z =>
    have hL:L=[]:=by rcases hk with hk | hk;simp [monoK] at hk;exact hk
    subst hL
    have hloc:st'.loc=st.loc:=by rw [h.loc,List.append_nil]
    simp only [Option.some.injEq,Prod.mk.injEq] at he ⊢
    obtain ⟨rfl,rfl⟩:=he
    refine ⟨_,⟨by rw [h.M,hloc],rfl⟩,⟨h.T,h.Q,h.H,h.M,by simp [hloc]⟩,by simp [monoK]⟩
  case box x =>
    have hL:L=[]:=by rcases hk with hk | hk;simp [monoK] at hk;exact hk
    subst hL
    cases ht:Idl.tk st.T x with
    | mk u T1 =>
    obtain ⟨T1',q1,q2⟩:=h.tk hP ho ht
    rw [ht] at he
    rw [q1]
    simp only at he ⊢
    split at he
    rotate_left
    · cases he
    rename_i cs st2 h2
    obtain ⟨st2',r1,r2,r3⟩:=q2.absorbs hP h2
    have hloc:st2'.loc=st2.loc:=by rw [r2.loc,List.append_nil]
    simp only [r1,Option.some.injEq,Prod.mk.injEq] at he ⊢
    obtain ⟨rfl,rfl⟩:=he
    exact ⟨_,⟨by rw [r2.M,hloc],rfl⟩,⟨r2.T,r2.Q,r2.H,r2.M,by simp [hloc]⟩,by simp [monoK]⟩
  case build z ps =>
    split at he
    rotate_left
    · cases he
    rename_i cs T1 h1
    obtain ⟨T1',q1,q2⟩:=Sim.fillCells hP h ho h1
    simp only [q1,Option.some.injEq,Prod.mk.injEq] at he ⊢
    obtain ⟨rfl,rfl⟩:=he
    exact ⟨_,⟨rfl,rfl⟩,q2,fun _=>.refl _⟩
  case bsl e z n ps =>
    split at he
    rotate_left
    · cases he
    rename_i es st2 h1
    obtain ⟨st2',q1,q2,q3⟩:=Sim.fillElems hP h ho h1
    simp only [q1,Option.some.injEq,Prod.mk.injEq] at he ⊢
    obtain ⟨rfl,rfl⟩:=he
    exact ⟨_,⟨rfl,rfl⟩,q2,fun _=>q3⟩
  case store sz a x =>
    cases ht:Idl.tk st.T x with
    | mk u T1 =>
    obtain ⟨T1',q1,q2⟩:=h.tk hP (fun s hs=>ho s (by simp [hs])) ht
    rw [ht] at he
    rw [q1]
    simp only at he ⊢
    split at he
    rotate_left
    · cases he
    rename_i cs st2 h2
    obtain ⟨st2',r1,r2,r3⟩:=q2.absorbs hP h2
    simp only [r1,r2.rd (o:=a) (fun s hs=>ho s (by simp [hs]))]
    split at he
    rotate_left
    · cases he
    rename_i hl
    rw [if_pos hl]
    split at he
    rotate_left
    · cases he
    rename_i st3 h3
    obtain ⟨st3',k1,k2,k3⟩:=r2.storeCells hP h3
    simp only [k1,Option.some.injEq,Prod.mk.injEq] at he ⊢
    obtain ⟨rfl,rfl⟩:=he
    exact ⟨_,⟨rfl,rfl⟩,k2,fun _=>Shp.trans (show Shp st st2 from r3) k3⟩
  case loadf ag sz a =>
    rw [h.rd ho]
    split at he
    rotate_left
    · cases he
    rename_i l k c hrd
    split at he
    rotate_left
    · cases he
    rename_i st2 h2
    obtain ⟨st2',r1,r2,r3⟩:=h.freezeBox hP h2
    simp only [r1,r2.rd ho]
    split at he
    rotate_left
    · cases he
    rename_i cs hc
    rw [r2.loadCells hc]
    simp only
    split at he
    rotate_left
    · cases he
    rename_i v1 hp
    simp only [Option.some.injEq,Prod.mk.injEq] at he ⊢
    obtain ⟨rfl,rfl⟩:=he
    exact ⟨_,⟨rfl,rfl⟩,r2,fun _=>r3⟩
  case storef sz a x =>
    cases ht:Idl.tk st.T x with
    | mk u T1 =>
    obtain ⟨T1',q1,q2⟩:=h.tk hP (fun s hs=>ho s (by simp [hs])) ht
    rw [ht] at he
    rw [q1]
    simp only at he ⊢
    split at he
    rotate_left
    · cases he
    rename_i cs st2 h2
    obtain ⟨st2',r1,r2,r3⟩:=q2.absorbs hP h2
    simp only [r1,r2.rd (o:=a) (fun s hs=>ho s (by simp [hs]))]
    split at he
    rotate_left
    · cases he
    rename_i hl
    rw [if_pos hl]
    split at he
    rotate_left
    · cases he
    split at he
    rotate_left
    · cases he
    rename_i st3 h3
    obtain ⟨st3',k1,k2,k3⟩:=r2.storeCells hP h3
    simp only [k1,Option.some.injEq,Prod.mk.injEq] at he ⊢
    obtain ⟨rfl,rfl⟩:=he
    exact ⟨_,⟨rfl,rfl⟩,k2,fun _=>Shp.trans (show Shp st st2 from r3) k3⟩
  case extr x i =>
    cases x <;> simp only at he ⊢ <;> try (cases he;done)
    rename_i s
    have hs:=ho s (by simp [opdU])
    rw [h.T s hs]
    split at he
    rotate_left
    · cases he
    split at he
    rotate_left
    · cases he
    rename_i hv
    try simp only [hv]
    simp only [Option.some.injEq,Prod.mk.injEq] at he ⊢
    obtain ⟨rfl,rfl⟩:=he
    exact ⟨_,⟨rfl,rfl⟩,(h.dropSlot hP hs).tput hP hs _,fun _=>.refl _⟩
  case call f args p =>
    exact h.callWith hP (by rcases hk with hk | hk;exact .inl hk;exact .inr hk) ho he
  case callq f args =>
    obtain ⟨s1,q1,q2,q3⟩:=h.callWith hP (.inl rfl) ho he
    exact ⟨s1,q1,q2,fun _=>q3 rfl⟩
  case callh f args =>
    have hL:L=[]:=by rcases hk with hk | hk;simp [monoK] at hk;exact hk
    obtain ⟨st1',q1,q2⟩:=h.callWithH hP hL ho he
    exact ⟨st1',q1,q2,by simp [monoK]⟩
  case callp f x =>
    unfold St.callP at he ⊢
    rw [h.rd ho]
    split at he
    rotate_left
    · cases he
    split at he
    rotate_left
    · cases he
    rename_i hp1
    simp only [(h.plc hp1).1]
    split at he
    rotate_left
    · cases he
    rename_i hc
    rw [if_pos hc]
    split at he
    rotate_left
    · cases he
    rename_i hcf
    try simp only [hcf]
    split at he
    rotate_left
    · cases he
    rename_i hs3
    rw [if_pos hs3]
    split at he
    rotate_left
    · cases he
    rename_i st2 h2
    obtain ⟨st2',q1,q2,q3⟩:=h.setPlc hp1 h2
    simp only [q1,Option.some.injEq,Prod.mk.injEq] at he ⊢
    obtain ⟨rfl,rfl⟩:=he
    exact ⟨_,⟨rfl,rfl⟩,q2.kill hP (.rooted _),by simp [monoK]⟩
  case callz f x k =>
    have hL:L=[]:=by rcases hk with hk | hk;simp [monoK] at hk;exact hk
    have hrx:=h.rd (o:=x) (fun s hs=>ho s (by simp [hs]))
    simp only [hrx]
    split at he
    · obtain ⟨s1,q1,q2,q3⟩:=h.callWith hP (.inr hL) (by intro s hs;exact ho s (by simpa using hs)) he
      exact ⟨s1,q1,q2,by simp [monoK]⟩
    · obtain ⟨s1,q1,q2,q3⟩:=h.callWith hP (.inl rfl) (by intro s hs;exact ho s (by simpa using hs)) he
      exact ⟨s1,q1,q2,by simp [monoK]⟩
  case callm f x k =>
    have hrx:=h.rd (o:=x) (fun s hs=>ho s (by simp [hs]))
    simp only [hrx]
    split at he
    rotate_left
    · obtain ⟨s1,q1,q2,q3⟩:=h.callWith hP (.inl rfl) (by intro s hs;exact ho s (by simpa using hs)) he
      exact ⟨s1,q1,q2,fun _=>q3 rfl⟩
    rename_i hlo
    unfold St.callM at he ⊢
    rw [h.rd (o:=k) (fun s hs=>ho s (by simp [hs]))]
    split at he
    rotate_left
    · cases he
    rw [h.rd (o:=x) (fun s hs=>ho s (by simp [hs]))]
    split at he
    rotate_left
    · cases he
    split at he
    rotate_left
    · cases he
    rename_i hp1
    simp only [(h.plc hp1).1]
    split at he
    rotate_left
    · cases he
    rename_i hc
    rw [if_pos hc]
    split at he
    rotate_left
    · cases he
    rename_i hcf
    try simp only [hcf]
    split at he
    rotate_left
    · cases he
    rename_i hun
    try simp only [hun]
    split at he
    rotate_left
    · cases he
    rename_i hs3
    rw [if_pos hs3]
    split at he
    rotate_left
    · cases he
    rename_i st2 h2
    obtain ⟨st2',q1,q2,q3⟩:=h.setPlc hp1 h2
    simp only [q1,Option.some.injEq,Prod.mk.injEq] at he ⊢
    obtain ⟨rfl,rfl⟩:=he
    exact ⟨_,⟨rfl,rfl⟩,q2.kill hP (.rooted _),by simp [monoK]⟩
  case callv x args =>
    have hL:L=[]:=by rcases hk with hk | hk;simp [monoK] at hk;exact hk
    rw [h.rd (o:=x) (fun s hs=>ho s (by simp [hs]))]
    split at he
    rotate_left
    · cases he
    obtain ⟨st1',q1,q2,-⟩:=h.callWith hP (.inr hL) (fun s hs=>ho s (by simp [hs])) he
    exact ⟨st1',q1,q2,by simp [monoK]⟩
  case app e x y =>
    split at he
    rotate_left
    · cases he
    rename_i ys st2 h2
    obtain ⟨st2',q1,q2,q3⟩:=h.news hP (fun s hs=>ho s (by simp [hs])) h2
    simp only [q1]
    split at he
    rotate_left
    · cases he
    rename_i u st3 h3
    obtain ⟨st3',r1,r2,r3⟩:=q2.append hP (fun s hs=>ho s (by simp [hs])) h3
    simp only [r1,Option.some.injEq,Prod.mk.injEq] at he ⊢
    obtain ⟨rfl,rfl⟩:=he
    exact ⟨_,⟨rfl,rfl⟩,r2,fun _=>q3.trans r3⟩
  case halt=>cases he
end
end Go.Idl
namespace Go.Idl
open Go
def gU:Option (Nat×Bool)→List Nat
  | some (s,_)=>[s]
  | none=>[]
def IOp.use (x:IOp):List Nat:=gU x.g++x.k.useL
abbrev SEq (st st':St):Prop:=Sim (fun _=>False) (fun _=>True) [] st st'
theorem SEq.refl (st:St):SEq st st:=⟨fun _ _=>rfl,fun _ h=>h.elim,fun _ h=>h.elim,rfl,by simp⟩
theorem SEq.trans {a b c:St} (h:SEq a b) (h':SEq b c):SEq a c :=
  ⟨fun s hs=>(h'.T s hs).trans (h.T s hs),fun _ h=>h.elim,fun _ h=>h.elim,h'.M.trans h.M,by rw [h'.loc,h.loc,List.append_assoc,List.append_nil]⟩
section
variable {D:Nat→Prop} {P:IV→Prop} {L:Boxes} {st st' st1:St} {cf:CF}
theorem noT:∀ q,KillOK q→∀ x:IV,(fun _=>True) x→(fun _:IV=>True) (kl q x):=fun _ _ _ _=>trivial
theorem op_sim (h:Sim D P L st st') (hP:∀ q,KillOK q→∀ x,P x→P (kl q x)) {x:IOp} (hk:monoK x.k=true ∨ L=[]) (ho:NoU D x.use) (hd:∀ s,x.dst=some s→¬ D s) (he:execOp1 cf st x=some st1) :
    ∃ st1',execOp1 cf st' x=some st1'∧Sim D P L st1 st1'∧(monoK x.k=true→Shp st st1):=by
  have ho2:NoU D x.k.useL:=fun s hs=>ho s (by simp [IOp.use,hs])
  have shT:∀ {st:St} {T:Tm},Shp st { st with T:=T }:=fun {st T}=>⟨rfl,rfl⟩
  have run:∀ {st1:St},(match ev cf st x.k with
      | some (v,st')=>match x.dst with
        | some d=>some { st' with T:=tput st'.T d v }
        | none=>some st'
      | none=>none)=some st1→∃ st1',(match ev cf st' x.k with
      | some (v,st')=>match x.dst with
        | some d=>some { st' with T:=tput st'.T d v }
        | none=>some st'
      | none=>none)=some st1'∧Sim D P L st1 st1'∧(monoK x.k=true→Shp st st1):=by
    intro st1 hh
    split at hh
    rotate_left
    · cases hh
    rename_i v st2 h2
    obtain ⟨st2',q1,q2,q3⟩:=ev_sim h hP hk ho2 h2
    simp only [q1]
    cases hx:x.dst with
    | none =>
      simp only [hx,Option.some.injEq] at hh ⊢
      subst hh
      exact ⟨_,rfl,q2,q3⟩
    | some d =>
      simp only [hx,Option.some.injEq] at hh ⊢
      subst hh
      exact ⟨_,rfl,q2.tput hP (hd d hx) v,fun hm=>(q3 hm).trans shT⟩
  have skip:∀ {st1:St},(match x.dst with
      | some d=>some { st with T:=tput st.T d (.tup []) }
      | none=>some st)=some st1→∃ st1',(match x.dst with
      | some d=>some { st' with T:=tput st'.T d (.tup []) }
      | none=>some st')=some st1'∧Sim D P L st1 st1'∧(monoK x.k=true→Shp st st1):=by
    intro st1 hh
    cases hx:x.dst with
    | none =>
      simp only [hx,Option.some.injEq] at hh ⊢
      subst hh
      exact ⟨_,rfl,h,fun _=>.refl _⟩
    | some d =>
      simp only [hx,Option.some.injEq] at hh ⊢
      subst hh
      exact ⟨_,rfl,h.tput hP (hd d hx) _,fun _=>shT⟩
  unfold execOp1 at he ⊢
  cases hg:x.g with
  | none=>simp only [hg] at he ⊢;exact run he
  | some p =>
    obtain ⟨s,b⟩:=p
    have hs:¬ D s:=ho s (by simp [IOp.use,hg,gU])
    simp only [hg,h.T s hs] at he ⊢
    split at he
    · split at he
      · rename_i hb;rw [if_pos hb];exact run he
      · rename_i hb;rw [if_neg hb];exact skip he
    · exact skip he
    · cases he
theorem op_nh {x:IOp} {d:Nat} (hd:x.dst ≠ some d) (hn:(tget st.T d).holds=false) (hu:d ∉ x.use) (he:execOp1 cf st x=some st1):(tget st1.T d).holds=false:=by
  have h:Sim (fun s=>s=d) (fun _=>True) [] st st:=⟨fun _ _=>rfl,fun _ _=>trivial,fun s hs=>by rw [hs];exact hn,rfl,by simp⟩
  obtain ⟨st1',-,q2,-⟩:=op_sim h noT (.inr rfl) (x:=x) (fun s hs hh=>hu (hh ▸ hs)) (fun s hs hh=>hd (hh ▸ hs)) he
  exact q2.H d rfl
def NHl (iops:List IOp) (st:St) (l:List Nat):Prop:=∀ i ∈ l,∀ x,iops[i]? = some x→swK x.k=true→∀ d,x.dst=some d→(tget st.T d).holds=false
def fwd (iops:List IOp):List Nat→Prop
  | []=>True
  | i::l=>(∀ j ∈ l,∀ x y,iops[i]? = some x→iops[j]? = some y→swK y.k=true→∀ d,y.dst=some d→d ∉ x.use∧x.dst ≠ some d)∧fwd iops l
def execI (cf:CF) (iops:List IOp) (st:St) (l:List Nat):Option St:=execOps cf st (inOrder iops l)
theorem execI_cons {iops:List IOp} {i:Nat} {l:List Nat} {x:IOp} (hx:iops[i]? = some x):execI cf iops st (i::l)=match execOp1 cf st x with
    | some st=>execI cf iops st l
    | none=>none:=by
  simp only [execI,inOrder,List.filterMap_cons,hx,execOps]
  cases execOp1 cf st x <;> rfl
theorem okI_cons {iops:List IOp} {i:Nat} {l:List Nat} {x:IOp} (hx:iops[i]? = some x):okRun cf st (inOrder iops (i::l))=okRun cf st (x::inOrder iops l):=by
  simp only [inOrder,List.filterMap_cons,hx]
theorem exec_step {iops:List IOp} {i:Nat} {l:List Nat} {x:IOp} {s:St} (hx:iops[i]? = some x) (h:execI cf iops st (i::l)=some s):∃ st1,execOp1 cf st x=some st1∧execI cf iops st1 l=some s:=by
  rw [execI_cons hx] at h
  split at h
  · exact ⟨_,‹_›,h⟩
  · cases h
theorem nh_step {iops:List IOp} {i:Nat} {l:List Nat} {x:IOp} (hx:iops[i]? = some x) (hf:fwd iops (i::l)) (hn:NHl iops st (i::l)) (h:execOp1 cf st x=some st1):NHl iops st1 l:=by
  intro j hj y hy hsw d hd
  obtain ⟨h1,h2⟩:=hf.1 j hj x y hx hy hsw d hd
  exact op_nh h2 (hn j (by simp [hj]) y hy hsw d hd) h1 h
structure Fine (cf:CF) (iops:List IOp) (st:St) (l:List Nat) (s:St):Prop where
  lt:∀ i ∈ l,i < iops.length
  nh:NHl iops st l
  fw:fwd iops l
  ok:okRun cf st (inOrder iops l)
  run:execI cf iops st l=some s
theorem Fine.step {iops:List IOp} {i:Nat} {l:List Nat} {s:St} (h:Fine cf iops st (i::l) s):∃ x st1,iops[i]? = some x∧execOp1 cf st x=some st1∧Fine cf iops st1 l s∧(quietN x.k=true→∀ d,x.dst=some d→(tget st1.T d).holds=false):=by
  have hi:=h.lt i (by simp)
  have hx:iops[i]? = some iops[i]:=List.getElem?_eq_getElem hi
  obtain ⟨st1,q1,q2⟩:=exec_step hx h.run
  have hok:=h.ok
  rw [okI_cons hx] at hok
  obtain ⟨k1,k2⟩:=hok st1 q1
  exact ⟨_,st1,hx,q1,⟨fun j hj=>h.lt j (by simp [hj]),nh_step hx h.fw h.nh q1,h.fw.2,k2,q2⟩,k1⟩
end
end Go.Idl
namespace Go.Idl
open Go
end Go.Idl
namespace Go.Idl
open Go
def refNo (D:Nat→Prop):IV→Prop
  | .arr (.S s) _ _ _ _ _ _ | .eptr (.S s) _ _ _ _=>¬ D s
  | _=>True
def nrD (D:Nat→Prop):IV→Prop
  | .agg cs=>∀ x ∈ cs,refNo D x
  | x=>refNo D x
structure SimR (D:Nat→Prop) (st st':St):Prop where
  T:∀ s,¬ D s→tget st'.T s=tget st.T s
  N:∀ s,¬ D s→nrD D (tget st.T s)
  M:st'.M=st.M
  loc:st'.loc=st.loc
section
variable {D:Nat→Prop} {st st' st1 st2:St} {cf:CF}
theorem refNo_cv1 (v:Value):refNo D (cv1 v):=by
  unfold cv1;split <;> trivial
theorem refNo_vcells {s:Nat} (hs:¬ D s) {mk:Nat→Nat×Path}:∀ {cs:List IV} {i:Nat},(∀ x ∈ cs,refNo D x)→∀ x ∈ vcells (.S s) mk i cs,refNo D x
  | [],_,_,x,hx=>by cases hx
  | c::cs,i,h,x,hx=>by
    have ih:=refNo_vcells hs (mk:=mk) (cs:=cs) (i:=i+1) fun y hy=>h y (by simp [hy])
    have hc:=h c (by simp)
    cases c <;> simp only [vcells,List.mem_cons] at hx <;> rcases hx with rfl | hx <;> first | exact ih x hx | exact hc | exact hs
theorem SimR.rd (h:SimR D st st') {o:Opd} (ho:NoU D (opdU o)):rd st'.T o=rd st.T o:=by
  cases o with
  | t s=>simp only [Idl.rd];rw [h.T s (ho s (by simp [opdU]))]
  | c v=>rfl
  | f l=>rfl
theorem SimR.rdN (h:SimR D st st') {o:Opd} (ho:NoU D (opdU o)):nrD D (Idl.rd st.T o):=by
  cases o with
  | c v =>
    have one:∀ u,nrD D (cv1 u):=fun u=>by unfold cv1;split <;> trivial
    cases v with
    | agg cs=>intro x hx;obtain ⟨u,_,rfl⟩:=List.mem_map.1 hx;exact refNo_cv1 u
    | _=>simp only [Idl.rd,cv];exact one _
  | f l=>trivial
  | t s =>
    have hs:=ho s (by simp [opdU])
    have hn:=h.N s hs
    simp only [Idl.rd]
    cases hx:tget st.T s with
    | own e es=>exact hs
    | agg cs=>rw [hx] at hn;exact refNo_vcells hs hn
    | tup vs=>cases vs <;> trivial
    | _=>rw [hx] at hn;exact hn
theorem SimR.box (h:SimR D st st') (l k:Nat):st'.box l k=st.box l k:=by
  unfold St.box;rw [h.M,h.loc]
theorem SimR.plc (h:SimR D st st') {r:Rt} {c:Nat} {p:Path} (hr:∀ s,r=.S s→¬ D s):st'.plc r c p=st.plc r c p:=by
  have:st'.rcells r=st.rcells r:=by
    cases r with
    | S s=>simp only [St.rcells];rw [h.T s (hr s rfl)]
    | B l k=>exact h.box l k
  unfold St.plc;rw [this]
theorem SimR.sview (h:SimR D st st') {x:IV} (hx:refNo D x):st'.sview x=st.sview x:=by
  cases x with
  | arr r c p e off n cl =>
    simp only [St.sview]
    rw [h.plc (r:=r) fun s hs=>by subst hs;exact hx]
  | _=>rfl
theorem SimR.loadCells (h:SimR D st st') {x:IV} {sz:Nat} (hx:refNo D x):st'.loadCells sz x=st.loadCells sz x:=by
  cases x with
  | bptr l k c=>simp only [St.loadCells,h.box]
  | eptr r c p i j =>
    simp only [St.loadCells]
    rw [h.plc (r:=r) fun s hs=>by subst hs;exact hx]
  | _=>rfl
theorem SimR.bound (h:SimR D st st') {d:Nat} {o:Option Opd} (ho:NoU D (optU o)):Idl.bound d st'.T o=Idl.bound d st.T o:=by
  cases o with
  | none=>rfl
  | some o=>simp only [Idl.bound];rw [h.rd (o:=o) ho]
theorem refNo_of {x:IV} (h:nrD D x) (hx:∀ cs,x ≠ .agg cs):refNo D x:=by
  cases x <;> first | exact h | exact absurd rfl (hx _)
theorem SimR.evq (h:SimR D st st') {k:K} (ho:NoU D k.useL):Idl.evq st' k=Idl.evq st k:=by
  have sub:∀ {x:Opd} {l:List Nat},(∀ s ∈ opdU x,s ∈ l)→NoU D l→Idl.rd st'.T x=Idl.rd st.T x:=fun hs hl=>h.rd fun s hh=>hl s (hs s hh)
  cases k <;> simp only [K.useL] at ho <;> simp only [Idl.evq]
  case mv x=>rw [h.rd ho]
  case pick c a b =>
    rw [sub (x:=c) (by intro s hs;simp [hs]) ho]
    split
    · rename_i t _
      rw [h.rd (o:=if t=true then a else b) (by intro s hs;refine ho s ?_;cases t <;> simp_all)]
    · rfl
  case load ag sz a =>
    rw [h.rd ho]
    have hn:=h.rdN ho
    generalize Idl.rd st.T a=y at *
    cases y with
    | agg cs=>rfl
    | _=>rw [h.loadCells (refNo_of hn (fun _ hh=>by cases hh))]
  case bsls e z n ps=>rw [fillRd_congr (T:=st.T) fun p hp=>h.rd fun s hs=>ho s (List.mem_flatMap.2 ⟨p,hp,hs⟩)]
  case nilck x=>rw [h.rd ho]
  case bin op x y=>rw [sub (x:=x) (by intro s hs;simp [hs]) ho,sub (x:=y) (by intro s hs;simp [hs]) ho]
  case eqa n q x y=>rw [sub (x:=x) (by intro s hs;simp [hs]) ho,sub (x:=y) (by intro s hs;simp [hs]) ho]
  case eqb n x y=>rw [sub (x:=x) (by intro s hs;simp [hs]) ho,sub (x:=y) (by intro s hs;simp [hs]) ho]
  case unop op x=>rw [h.rd ho]
  case conv q x=>rw [h.rd ho]
  case mkfn f caps =>
    have:caps.map (Idl.rd st'.T)=caps.map (Idl.rd st.T):=List.map_congr_left fun o hm=>h.rd fun s hs=>ho s (List.mem_flatMap.2 ⟨o,hm,hs⟩)
    rw [this]
  case mksl e z x y=>rw [sub (x:=x) (by intro s hs;simp [hs]) ho,sub (x:=y) (by intro s hs;simp [hs]) ho]
  case slc e x lo hi mx =>
    rw [sub (x:=x) (by intro s hs;simp [hs]) ho]
    simp only [h.bound (o:=lo) (fun s hs=>ho s (by simp [hs])),h.bound (o:=hi) (fun s hs=>ho s (by simp [hs]))]
    cases mx with
    | none=>rfl
    | some m=>simp only;rw [sub (x:=m) (by intro s hs;simp [optU,hs]) ho]
  case slcs x lo hi =>
    rw [sub (x:=x) (by intro s hs;simp [hs]) ho]
    simp only [h.bound (o:=lo) (fun s hs=>ho s (by simp [hs])),h.bound (o:=hi) (fun s hs=>ho s (by simp [hs]))]
  case fadr off x=>rw [h.rd ho]
  case fld ag off sz x=>rw [h.rd ho]
  case iadr e x i=>rw [sub (x:=x) (by intro s hs;simp [hs]) ho,sub (x:=i) (by intro s hs;simp [hs]) ho]
  case idxs x i=>rw [sub (x:=x) (by intro s hs;simp [hs]) ho,sub (x:=i) (by intro s hs;simp [hs]) ho]
  case len x=>rw [h.rd ho]
  case capn x=>rw [h.rd ho]
  case lens x=>rw [h.rd ho]
  case minmax mn x y=>rw [sub (x:=x) (by intro s hs;simp [hs]) ho,sub (x:=y) (by intro s hs;simp [hs]) ho]
theorem SimR.seen (h:SimR D st st') {x:IV} (hx:refNo D x):st'.seen x=st.seen x:=by
  unfold St.seen;rw [h.sview hx]
theorem SimR.seens (h:SimR D st st'):∀ {xs:List IV},(∀ x ∈ xs,refNo D x)→st'.seens xs=st.seens xs
  | [],_=>rfl
  | x::xs,hx=>by
    simp only [St.seens,h.seen (hx x (by simp)),h.seens (xs:=xs) fun y hy=>hx y (List.mem_cons_of_mem _ hy)]
theorem SimR.arg2 (h:SimR D st st') {m:Mode} {o:Opd} (hm:(m == .val || m == .rv)=true) (ho:NoU D (opdU o)):st'.arg2 m o=st.arg2 m o:=by
  have hn:=h.rdN ho
  cases m <;> simp only [Bool.or_eq_true,beq_iff_eq,reduceCtorEq,or_self,or_false,false_or] at hm <;> simp only [St.arg2,h.rd ho]
  generalize Idl.rd st.T o=y at *
  cases y with
  | agg cs=>simp only;rw [h.seens hn]
  | _=>exact h.seen (refNo_of hn (fun _ hh=>by cases hh))
theorem SimR.args2 (h:SimR D st st'):∀ {l:List (Mode×Opd)} {vs:List (Option IV)},(l.all fun a=>a.1 == .val || a.1 == .rv)=true→NoU D (l.flatMap fun a=>opdU a.2)→st'.args2 l vs=st.args2 l vs
  | [],[],_,_=>rfl
  | [],_::_,_,_=>rfl
  | a::l,[],_,_=>rfl
  | a::l,some v::vs,hm,ho=>by
    simp only [List.all_cons,Bool.and_eq_true] at hm
    simp only [St.args2]
    rw [h.args2 hm.2 fun s hs=>ho s (by rw [List.flatMap_cons];simp [hs])]
  | (m,o)::l,none::vs,hm,ho=>by
    simp only [List.all_cons,Bool.and_eq_true] at hm
    simp only [St.args2]
    rw [h.arg2 hm.1 fun s hs=>ho s (by simp [hs]),h.args2 hm.2 fun s hs=>ho s (by rw [List.flatMap_cons];simp [hs])]
theorem args1_q:∀ {l:List (Mode×Opd)} (st:St),(l.all fun a=>a.1 == .val || a.1 == .rv)=true→∃ vs ss,st.args1 l=some (vs,st,ss)∧∀ st':St,∃ ss',st'.args1 l=some (vs,st',ss')
  | [],st,_=>⟨[],[],rfl,fun st'=>⟨[],rfl⟩⟩
  | (m,o)::l,st,h=>by
    simp only [List.all_cons,Bool.and_eq_true,Bool.or_eq_true,beq_iff_eq] at h
    have h1:∀ st:St,st.arg1 m o=some (none,st):=fun st=>by rcases h.1 with rfl | rfl <;> rfl
    obtain ⟨vs,ss,q1,q2⟩:=args1_q (l:=l) st h.2
    refine ⟨none::vs,ldSlot st.T m o++ss,by simp only [St.args1,h1,q1],fun st'=>?_⟩
    obtain ⟨ss',q3⟩:=q2 st'
    exact ⟨ldSlot st'.T m o++ss',by simp only [St.args1,h1,q3]⟩
theorem SimR.callq (h:SimR D st st') {f:Lab} {l:List (Mode×Opd)} {v:IV} {st1:St} (hm:(l.all fun a=>a.1 == .val || a.1 == .rv)=true) (ho:NoU D (l.flatMap fun a=>opdU a.2)) (hc:st.callWith cf f [] l true=some (v,st1)) :
    st1=st∧st'.callWith cf f [] l true=some (v,st'):=by
  obtain ⟨vs,ss,q1,q2⟩:=args1_q st hm
  obtain ⟨ss',q3⟩:=q2 st'
  unfold St.callWith St.args at hc ⊢
  simp only [q1] at hc
  simp only [q3,h.args2 hm ho]
  split at hc
  rotate_left
  · cases hc
  rename_i w1 w2 w3 w4 w5 hw
  split at hw
  rotate_left
  · cases hw
  rename_i ys b hy
  simp only [Option.some.injEq,Prod.mk.injEq] at hw
  obtain ⟨rfl,rfl,rfl,rfl⟩:=hw
  simp only [hy,if_true] at hc ⊢
  split at hc
  · cases hc
  rename_i hg
  rw [if_neg hg]
  split at hc
  rotate_left
  · cases hc
  split at hc
  · rename_i hz
    simp only [hz,if_true]
    split at hc
    · rename_i hn
      rw [if_pos hn]
      simp only [Option.some.injEq,Prod.mk.injEq] at hc ⊢
      exact ⟨hc.2.symm,hc.1,trivial⟩
    · cases hc
  · rename_i hz
    simp only [hz,if_false,Bool.false_eq_true]
    simp only [Option.some.injEq,Prod.mk.injEq] at hc ⊢
    exact ⟨hc.2.symm,hc.1,trivial⟩
theorem SimR.ev (h:SimR D st st') {k:K} (hq:quietK k=true) (ho:NoU D k.useL) {v:IV} {st1:St} (he:ev cf st k=some (v,st1)):ev cf st' k=some (v,st'):=by
  by_cases hp:plainK k=true
  · rw [ev_plain hp] at he ⊢
    rw [h.evq ho]
    rw [Option.map_eq_some_iff] at he ⊢
    obtain ⟨u,h1,h2⟩:=he
    simp only [Prod.mk.injEq] at h2
    exact ⟨u,h1,by rw [h2.1]⟩
  · cases k <;> simp only [quietK,plainK,Bool.false_eq_true,not_true_eq_false] at hq hp
    · rename_i f args p
      cases p with
      | false=>simp [quietK,plainK] at hq
      | true=>exact (h.callq (by simpa [quietK] using hq) ho he).2
    · rename_i f args
      exact (h.callq hq ho he).2
theorem op_un {x:IOp} {d:Nat} (hd:x.dst ≠ some d) (hn:tget st.T d=.un) (hu:d ∉ x.use) (he:execOp1 cf st x=some st1):tget st1.T d=.un:=by
  have h:Sim (fun s=>s=d) (fun x=>x=.un) [] st st:=⟨fun _ _=>rfl,fun s hs=>by rw [hs];exact hn,fun s hs=>by rw [hs,hn];rfl,rfl,by simp⟩
  obtain ⟨st1',q1,q2,-⟩:=op_sim h (by rintro q - x rfl;simp [kl,kl1,klc]) (.inr rfl) (x:=x) (fun s hs hh=>hu (hh ▸ hs)) (fun s hs hh=>hd (hh ▸ hs)) he
  rw [he] at q1
  cases q1
  exact q2.Q d rfl
end
end Go.Idl
namespace Go.Idl
open Go
section
variable {D:Nat→Prop} {st st' st1 st2:St} {cf:CF} {ds:List Nat}
def FRl (iops:List IOp) (st:St) (l:List Nat):Prop:=∀ i ∈ l,∀ x,iops[i]? = some x→qX x.k=true→∀ d,x.dst=some d→tget st.T d=.un
def fwdX (iops:List IOp):List Nat→Prop
  | []=>True
  | i::l=>(∀ j ∈ l,∀ x y,iops[i]? = some x→iops[j]? = some y→qX y.k=true→∀ d,y.dst=some d→d ∉ x.use∧x.dst ≠ some d)∧fwdX iops l
theorem fr_step {iops:List IOp} {i:Nat} {l:List Nat} {x:IOp} (hx:iops[i]? = some x) (hf:fwdX iops (i::l)) (hn:FRl iops st (i::l)) (h:execOp1 cf st x=some st1):FRl iops st1 l:=by
  intro j hj y hy hsw d hd
  obtain ⟨h1,h2⟩:=hf.1 j hj x y hx hy hsw d hd
  exact op_un h2 (hn j (by simp [hj]) y hy hsw d hd) h1 h
structure FineX (cf:CF) (ds:List Nat) (iops:List IOp) (st:St) (l:List Nat) (s:St):Prop where
  lt:∀ i ∈ l,i < iops.length
  fr:FRl iops st l
  fw:fwdX iops l
  ok:okX cf ds st (inOrder iops l)
  run:execI cf iops st l=some s
theorem okXI_cons {iops:List IOp} {i:Nat} {l:List Nat} {x:IOp} (hx:iops[i]? = some x):okX cf ds st (inOrder iops (i::l))=okX cf ds st (x::inOrder iops l):=by
  simp only [inOrder,List.filterMap_cons,hx]
theorem FineX.step {iops:List IOp} {i:Nat} {l:List Nat} {s:St} (h:FineX cf ds iops st (i::l) s):∃ x st1,iops[i]? = some x∧execOp1 cf st x=some st1∧FineX cf ds iops st1 l s∧(quietN x.k=true→∀ d,x.dst=some d→(tget st1.T d).holds=false) ∧
    effIn ds st.T x=true:=by
  have hi:=h.lt i (by simp)
  have hx:iops[i]? = some iops[i]:=List.getElem?_eq_getElem hi
  obtain ⟨st1,q1,q2⟩:=exec_step hx h.run
  have hok:=h.ok
  rw [okXI_cons hx] at hok
  obtain ⟨k0,k00,k⟩:=hok
  obtain ⟨k1,k2⟩:=k st1 q1
  exact ⟨_,st1,hx,q1,⟨fun j hj=>h.lt j (by simp [hj]),fr_step hx h.fw h.fr q1,h.fw.2,k2,q2⟩,k1,k00⟩
end
section
variable {ds:List Nat}
end
end Go.Idl
namespace Go.Idl
open Go
def bIOp (cx:Cx) (ops:Array Oper) (n:Nat) (keep:List Nat) (o:Oper) (i:IOp):Bool :=
  bOp cx o i.k && (match o.dst,i.dst with
    | none,none=>true
    | some d,some e=>d == e && decide (d < n) && !keep.contains d
    | _,_=>false) && (match o.guard,i.g with
    | none,none=>true
    | some (j,b),some (s,c)=>b == c && (match (ops[j]?).bind (·.dst) with
      | some t=>t == s
      | none=>false)
    | _,_=>false)
def clsOf (iops:List IOp) (i:Nat):Cls:=match iops[i]? with
  | some o=>o.k.cls
  | none=>.oth
def Inv (cx:Cx) (w0:World) (F0:Nat→Prop) (ρ0:Rho) (fp0:Fp) (st0:St) (a0:Act) (keep:List Nat) (n:Nat) (st:St) (a:Act) (w:World):Prop :=
  ∃ F ρ fp,Rel cx w F ρ fp [] st (regs a)∧Ext w0 F0 ρ0 fp0 [] (exB st0) w F ρ fp []∧ShpLe st0 st∧n≤a.tmps.size∧a.defers=a0.defers∧∀ s ∈ keep,regs a s=regs a0 s
section
variable {cx:Cx} {w0:World} {F0:Nat→Prop} {ρ0:Rho} {fp0:Fp} {st0:St} {a0:Act} {keep:List Nat} {n:Nat} {cf:CF} {ops:Array Oper} {iops:List IOp}
variable {w w1:World} {F F1:Nat→Prop} {ρ ρ1:Rho} {fp fp1:Fp} {st st':St} {a:Act} {v:IV} {f':List Nat}
def putI (st:St) (d:Option Nat) (v:IV):St:=match d with
  | some d=>{ st with T:=tput st.T d v }
  | none=>st
theorem regs_put {d:Nat} {v':Value} (h:d < a.tmps.size):regs (a.put (some d) v')=fun s=>if s=d then v' else regs a s:=by
  funext s
  simp only [regs,Act.put]
  by_cases hs:s=d
  · subst hs;simp [h]
  · have:d ≠ s:=fun h=>hs h.symm
    simp [Array.getD_eq_getD_getElem?,Array.getElem?_setIfInBounds_ne this,hs]
theorem put_size {d:Option Nat} {v':Value}:(a.put d v').tmps.size=a.tmps.size:=by
  cases d <;> simp [Act.put]
theorem put_defers' {d:Option Nat} {v':Value}:(a.put d v').defers=a.defers:=by
  cases d <;> rfl
theorem inv_put {d:Option Nat} {v':Value} (hR:Rel cx w F ρ fp (f'++[]) st (regs a)) (hv:RSlot cx w F ρ st (look st (regs a) ρ w) v v' f') (hE:Ext w0 F0 ρ0 fp0 [] (exB st0) w F ρ fp (f'++[])) (hS:ShpLe st0 st)
    (hn:n≤a.tmps.size) (hd:a.defers=a0.defers) (hk:∀ s ∈ keep,regs a s=regs a0 s) (hdn:∀ e,d=some e→e < n∧e ∉ keep):Inv cx w0 F0 ρ0 fp0 st0 a0 keep n (putI st d v) (a.put d v') w:=by
  cases d with
  | none =>
    exact ⟨F,ρ,fp,hR.less (List.nil_sublist _),⟨hE.size,hE.keep,hE.fpn,by simp,hE.Fm,hE.Fn,hE.rho,hE.env⟩,hS,hn,hd,hk⟩
  | some e =>
    obtain ⟨h1,h2⟩:=hdn e rfl
    have hlt:e < a.tmps.size:=by omega
    have h3:=hR.put hv e
    rw [← regs_put hlt] at h3
    refine ⟨F,ρ,updFp fp (.S e) f',h3,⟨hE.size,hE.keep,fun r b hb=>?_,by simp,hE.Fm,hE.Fn,hE.rho,hE.env⟩,⟨hS.M,hS.loc⟩,by rw [put_size];exact hn,by rw [put_defers'];exact hd,fun s hs=>?_⟩
    · unfold updFp at hb;split at hb
      · exact hE.xn b (by simp [hb])
      · exact hE.fpn r b hb
    · rw [regs_put hlt]
      have:s ≠ e:=fun h=>h2 (h ▸ hs)
      simp only [this,if_false];exact hk s hs
theorem rslot_undef {lk}:RSlot cx w F ρ st lk (.tup []) undef []:=⟨#[],rfl,.nil⟩
theorem guard_ok {o:Oper} {i:IOp} (hR:Rel cx w F ρ fp [] st (regs a)) (hg:(match o.guard,i.g with
    | none,none=>true
    | some (j,b),some (s,c)=>b == c && (match (ops[j]?).bind (·.dst) with
      | some t=>t == s
      | none=>false)
    | _,_=>false)=true) {st':St} (hev:execOp1 cf st i=some st') :
    (Region.wanted o (yielded ops a.tmps)=true∧∃ v st1,ev cf st i.k=some (v,st1)∧st'=putI st1 i.dst v) ∨ (Region.wanted o (yielded ops a.tmps)=false∧st'=putI st i.dst (.tup [])):=by
  unfold execOp1 at hev
  split at hev
  · rename_i hi
    rw [hi] at hg
    have hog:o.guard=none:=by
      cases h:o.guard with
      | none=>rfl
      | some _=>rw [h] at hg;simp at hg
    refine .inl ⟨by simp [Region.wanted,hog],?_⟩
    split at hev
    · rename_i v st1 he
      refine ⟨v,st1,he,?_⟩
      unfold putI
      split at hev <;> simp_all
    · cases hev
  · rename_i s b hi
    rw [hi] at hg
    cases hog:o.guard with
    | none=>rw [hog] at hg;simp at hg
    | some p =>
    obtain ⟨j,b'⟩:=p
    rw [hog] at hg
    simp only [Bool.and_eq_true,beq_iff_eq] at hg
    obtain ⟨hbb,hg⟩:=hg
    subst hbb
    split at hg
    rotate_left
    · cases hg
    rename_i t ht
    have hts:t=s:=by simpa using hg
    subst hts
    have hy:∀ x,regs a t=x→yielded ops a.tmps j=(match x with | .bool b=>some b | _=>none) ∨ (∃ y,x=y∧∀ b,y ≠ .bool b):=by
      intro x hx
      by_cases hb:∃ b,x=.bool b
      · obtain ⟨b,rfl⟩:=hb
        left
        unfold yielded
        rw [ht]
        have:a.tmps[t]? = some (.bool b):=by
          simp only [regs,Array.getD_eq_getD_getElem?] at hx
          cases hq:a.tmps[t]? with
          | none=>rw [hq] at hx;simp [undef] at hx
          | some y=>rw [hq] at hx;simp at hx;rw [hx]
        simp [this]
      · right;exact ⟨x,rfl,fun b hh=>hb ⟨b,hh⟩⟩
    have hyn:(∀ b,regs a t ≠ .bool b)→yielded ops a.tmps j=none:=by
      intro hnb
      unfold yielded
      rw [ht]
      simp only [Option.bind_some]
      split
      · rename_i b hb
        exact absurd (by simp [regs,Array.getD_eq_getD_getElem?,hb]) (hnb b)
      · rfl
    have hs:=hR.slots t
    split at hev
    · rename_i b1 hT
      rw [hT] at hs
      obtain ⟨hv,-,-⟩:=rslot_sc hs
      have hyy:yielded ops a.tmps j=some b1:=by
        rcases hy _ hv with h | ⟨y,h1,h2⟩
        · exact h
        · exact absurd h1.symm (h2 b1)
      split at hev
      · rename_i hbe
        refine .inl ⟨by simp [Region.wanted,hog,hyy,hbe],?_⟩
        split at hev
        · rename_i v st1 he
          refine ⟨v,st1,he,?_⟩
          unfold putI
          split at hev <;> simp_all
        · cases hev
      · rename_i hbe
        refine .inr ⟨by simp [Region.wanted,hog,hyy,hbe],?_⟩
        unfold putI
        split at hev <;> simp_all
    · rename_i hT
      rw [hT] at hs
      obtain ⟨C,hC,hc⟩:=hs
      have hyy:=hyn (fun b hb=>by rw [hC] at hb;cases hb)
      refine .inr ⟨by simp [Region.wanted,hog,hyy],?_⟩
      unfold putI
      split at hev <;> simp_all
    · cases hev
theorem dst_ok {o:Oper} {i:IOp} (h:(match o.dst,i.dst with
    | none,none=>true
    | some d,some e=>d == e && decide (d < n) && !keep.contains d
    | _,_=>false)=true):o.dst=i.dst∧∀ e,i.dst=some e→e < n∧e ∉ keep:=by
  cases ho:o.dst with
  | none =>
    cases hi:i.dst with
    | none=>exact ⟨rfl,by simp⟩
    | some e=>rw [ho,hi] at h;cases h
  | some d =>
    cases hi:i.dst with
    | none=>rw [ho,hi] at h;cases h
    | some e =>
      rw [ho,hi] at h
      simp only [Bool.and_eq_true,beq_iff_eq,decide_eq_true_eq,Bool.not_eq_true'] at h
      obtain ⟨⟨rfl,h2⟩,h3⟩:=h
      refine ⟨rfl,fun e he=>?_⟩
      cases he
      exact ⟨h2,by simpa using h3⟩
theorem ops_Yl (hcf:CallOK cx cf) (hlen:iops.length≤ops.size) :
    ∀ {l:List Nat} {st:St} {a:Act} {w:World} {st':St},(∀ i ∈ l,∀ (o:Oper) (x:IOp),ops[i]? = some o→iops[i]? = some x→bIOp cx ops n keep o x=true)→(∀ i ∈ l,i < iops.length)→Inv cx w0 F0 ρ0 fp0 st0 a0 keep n st a w→execOps cf st (inOrder iops l)=some st'→wpY cx.P ops (clsOf iops) (Inv cx w0 F0 ρ0 fp0 st0 a0 keep n st') l a w
  | [],st,a,w,st',_,_,hI,hev=>by
    simp only [inOrder,List.filterMap_nil,execOps,Option.some.injEq] at hev
    subst hev;exact hI
  | i::l,st,a,w,st',hck,hl,hI,hev=>by
    have hil:=hl i (by simp)
    have hx:iops[i]? = some iops[i]:=List.getElem?_eq_getElem hil
    have ho:ops[i]? = some (ops[i]'(by omega)):=Array.getElem?_eq_getElem _
    generalize iops[i]=x at hx
    generalize ops[i]'(by omega)=o at ho
    have hin:inOrder iops (i::l)=x::inOrder iops l:=by simp [inOrder,hx]
    rw [hin] at hev
    simp only [execOps] at hev
    split at hev
    rotate_left
    · cases hev
    rename_i st1 h1
    have hc:=hck i (by simp) o x ho hx
    simp only [bIOp,Bool.and_eq_true] at hc
    obtain ⟨⟨hb,hd⟩,hg⟩:=hc
    obtain ⟨hde,hdn⟩:=dst_ok hd
    have hcls:clsOf iops i=x.k.cls:=by simp [clsOf,hx]
    have rest:∀ {a1:Act} {w1:World},Inv cx w0 F0 ρ0 fp0 st0 a0 keep n st1 a1 w1→wpY cx.P ops (clsOf iops) (Inv cx w0 F0 ρ0 fp0 st0 a0 keep n st') l a1 w1:=fun hI1 =>
      ops_Yl hcf hlen (fun j hj=>hck j (by simp [hj])) (fun j hj=>hl j (by simp [hj])) hI1 hev
    obtain ⟨F,ρ,fp,hR,hE,hS,hn,hdf,hk⟩:=hI
    refine ⟨o,ho,?_⟩
    rw [hcls]
    rcases guard_ok hR hg h1 with ⟨hw,v,st2,he,rfl⟩ | ⟨hw,rfl⟩
    · have hres:=op_res hcf hR hb he
      rw [← hde] at rest
      rw [← hde] at hdn
      cases hk2:x.k.cls with
      | reg =>
        rw [hk2] at hres
        obtain ⟨rfl,v',hrun,hv⟩:=hres
        exact ⟨v',.inl ⟨hw,fun w'=>hrun w' trivial⟩,rest (inv_put hR hv hE hS hn hdf hk hdn)⟩
      | ld =>
        rw [hk2] at hres
        obtain ⟨rfl,v',hrun,hv⟩:=hres
        exact ⟨v',.inl ⟨hw,hrun w (.refl w)⟩,rest (inv_put hR hv hE hS hn hdf hk hdn)⟩
      | oth =>
        rw [hk2] at hres
        simp only
        have ext:∀ {w' F' ρ' fp' f'},Ext w F ρ fp [] (exB st) w' F' ρ' fp' (f'++[])→Ext w0 F0 ρ0 fp0 [] (exB st0) w' F' ρ' fp' (f'++[]):=fun h=>hE.trans h fun l k hb=>hS.box hb
        unfold wpOp
        simp only [ho,hw,if_true]
        left
        unfold Oper.wp
        rcases hres with ⟨v',w',F',ρ',fp',f',hy,hR',hv,hE',hS'⟩ | ⟨g,args,hrun,hcalls⟩
        · have hI1:=rest (inv_put hR' hv (ext hE') (hS.trans hS') hn hdf hk hdn)
          rcases hy with hy | ⟨hy,rfl⟩
          · rw [hy];exact hI1
          · rw [hy];exact hI1
        · rw [hrun]
          simp only [Oper.upon]
          refine hcalls.mono ?_
          rintro e w' ⟨v',F',ρ',fp',f',rfl,hR',hv,hE',hS'⟩
          exact rest (inv_put hR' hv (ext hE') (hS.trans hS') hn hdf hk hdn)
    · rw [← hde] at rest
      rw [← hde] at hdn
      have hI1:=rest (inv_put (f':=[]) (by simpa using hR) rslot_undef (by simpa using hE) hS hn hdf hk hdn)
      cases hk2:x.k.cls with
      | reg=>exact ⟨undef,.inr ⟨hw,rfl⟩,hI1⟩
      | ld=>exact ⟨undef,.inr ⟨hw,rfl⟩,hI1⟩
      | oth =>
        simp only
        unfold wpOp
        simp only [ho,hw,Bool.false_eq_true,if_false]
        exact hI1
theorem ops_Y (hcf:CallOK cx cf) (hck:∀ (i:Nat) (o:Oper) (x:IOp),ops[i]? = some o→iops[i]? = some x→bIOp cx ops n keep o x=true) (hlen:iops.length≤ops.size)
    {l:List Nat} {st:St} {a:Act} {w:World} {st':St} (hl:∀ i ∈ l,i < iops.length) (hI:Inv cx w0 F0 ρ0 fp0 st0 a0 keep n st a w) (hev:execOps cf st (inOrder iops l)=some st'):wpY cx.P ops (clsOf iops) (Inv cx w0 F0 ρ0 fp0 st0 a0 keep n st') l a w :=
  ops_Yl hcf hlen (fun i _=>hck i) hl hI hev
end
end Go.Idl
namespace Go.Idl
open Go
theorem swN_swN (k1 k2 k:Nat):swN k1 k2 (swN k1 k2 k)=k:=by
  unfold swN;split <;> split <;> (try split) <;> omega
def swRt (L k1 k2:Nat):Rt→Rt
  | .B l k=>.B l (if l=L then swN k1 k2 k else k)
  | r=>r
theorem swRt_swRt (L k1 k2:Nat) (r:Rt):swRt L k1 k2 (swRt L k1 k2 r)=r:=by
  cases r with
  | S s=>rfl
  | B l k=>simp only [swRt];by_cases h:l=L <;> simp [h,swN_swN]
def swRho (L k1 k2:Nat) (ρ:Rho):Rho:=fun l k=>ρ l (if l=L then swN k1 k2 k else k)
theorem tget_mapv (g:IV→IV) (hg:g .un=.un):∀ (T:Tm) (s:Nat),tget (T.map fun p=>(p.1,g p.2)) s=g (tget T s)
  | [],s=>by simp [tget,hg]
  | (k,v)::r,s=>by
    have:=tget_mapv g hg r s
    simp only [List.map_cons,tget]
    split
    · rfl
    · exact this
theorem tget_all {p:IV→Bool} (hp:p .un=true):∀ {T:Tm},T.all (fun q=>p q.2)=true→∀ s,p (tget T s)=true
  | [],_,s=>by simpa [tget] using hp
  | (k,v)::r,h,s=>by
    simp only [List.all_cons,Bool.and_eq_true] at h
    simp only [tget]
    split
    · exact h.1
    · exact tget_all hp h.2 s
section
variable {cx:Cx} {w:World} {F:Nat→Prop} {ρ:Rho} {fp:Fp} {X:List Nat} {st st':St} {tm:Nat→Value}
theorem Rel.swB (h:Rel cx w F ρ fp X st tm) {k1 k2:Nat} (hsw:st.swB k1 k2=some st') :
    Rel cx w F (swRho st.M.length k1 k2 ρ) (fun r=>fp (swRt st.M.length k1 k2 r)) X st' tm:=by
  unfold St.swB at hsw
  split at hsw
  rotate_left
  · cases hsw
  rename_i hc
  obtain ⟨h1,h2,hT,hloc⟩:=hc
  simp only [Option.some.injEq] at hsw
  subst hsw
  obtain ⟨L,hL⟩:∃ L,L=st.M.length:=⟨_,rfl⟩
  rw [← hL] at hloc ⊢
  have hbox:∀ l k,({ st with T:=st.T.map fun p=>(p.1,p.2.swb L k1 k2),loc:=(st.loc.set k1 (st.loc.getD k2 [])).set k2 (st.loc.getD k1 []) }:St).box l k=st.box l (if l=L then swN k1 k2 k else k):=by
    intro l k
    simp only [St.box]
    by_cases hl:l=L
    · rw [if_pos (by omega),if_pos (by omega),if_pos hl]
      unfold swN
      by_cases e1:k=k1
      · subst e1
        rw [if_pos rfl]
        by_cases e2:k2=k
        · subst e2;rw [List.getElem?_set_self (by simpa using h2),List.getD_eq_getElem?_getD,List.getElem?_eq_getElem h1];rfl
        · rw [List.getElem?_set_ne e2,List.getElem?_set_self h1,List.getD_eq_getElem?_getD,List.getElem?_eq_getElem h2];rfl
      · rw [if_neg e1]
        by_cases e2:k=k2
        · subst e2
          rw [if_pos rfl,List.getElem?_set_self (by simpa using h2),List.getD_eq_getElem?_getD,List.getElem?_eq_getElem h1];rfl
        · rw [if_neg e2,List.getElem?_set_ne (fun hh=>e2 hh.symm),List.getElem?_set_ne (fun hh=>e1 hh.symm)]
    · rw [if_neg (by omega),if_neg (by omega),if_neg hl]
  have hinj:∀ r r',swRt L k1 k2 r=swRt L k1 k2 r'→r=r':=fun r r' hr=>by
    rw [← swRt_swRt L k1 k2 r,hr,swRt_swRt]
  have hcap:∀ (x:IV) (v:Value),x.noK L k1 k2=true→(x matches .bptr .. | .fn ..)→RefOK cx w F ρ st (fun _ _=>none) x v →
      RefOK cx w F (swRho L k1 k2 ρ) { st with T:=st.T.map fun p=>(p.1,p.2.swb L k1 k2),loc:=(st.loc.set k1 (st.loc.getD k2 [])).set k2 (st.loc.getD k1 []) } (fun _ _=>none) x v:=by
    have stay:∀ l k,(!(l == L && (k == k1 || k == k2)))=true→(if l=L then swN k1 k2 k else k)=k:=fun l k hn=>by
      by_cases hl:l=L
      · rw [if_pos hl]
        simp [hl] at hn
        rw [swN,if_neg hn.1,if_neg hn.2]
      · rw [if_neg hl]
    intro x v hn hx hr
    cases x with
    | bptr l k c =>
      have hs:=stay l k hn
      refine ⟨?_,?_⟩
      · rw [hr.1];simp only [swRho,hs]
      · rw [hbox,hs];exact hr.2
    | fn f caps =>
      obtain ⟨cvs,q1,q2⟩:=hr
      refine ⟨cvs,q1,q2.mono fun z u g _ hz hm=>⟨?_,hz.2⟩⟩
      have hnz:=List.all_eq_true.1 hn z hm
      cases z with
      | bptr l k c =>
        have hs:=stay l k hnz
        refine ⟨?_,?_⟩
        · rw [hz.1.1];simp only [swRho,hs]
        · rw [hbox,hs];exact hz.1.2
      | _=>exact hz.1.elim
    | _=>simp at hx
  refine ⟨fun s=>?_,fun l k cs hb=>?_,fun l k hb=>?_,fun r=>h.nodup _,fun r r' hr=>h.disj _ _ (fun hh=>hr (hinj _ _ hh)),fun r=>h.notF _,fun r=>h.lt _,h.Flt,h.xnodup,fun r=>h.xdisj _,h.xF,h.xlt⟩
  · have hs:=h.slots s
    have hf:=tget_all (p:=IV.flat) rfl hT s
    rw [show tget (st.T.map fun p=>(p.1,p.2.swb L k1 k2)) s=(tget st.T s).swb L k1 k2 from tget_mapv (IV.swb L k1 k2) rfl st.T s]
    show RSlot cx w F _ _ _ _ _ (fp (.S s))
    cases hx:tget st.T s with
    | bptr l k c =>
      rw [hx] at hs
      rcases hs with ⟨hs,hfp⟩ | hs
      · refine .inl ⟨⟨?_,?_⟩,hfp⟩
        · rw [hs.1]
          simp only [swRho]
          by_cases hl:l=L
          · simp [hl,swN_swN]
          · simp [hl]
        · rw [hbox]
          by_cases hl:l=L
          · simp only [hl,if_true,swN_swN];rw [hl] at hs;exact hs.2
          · simp only [hl,if_false];exact hs.2
      · cases hs
    | sc v=>rw [hx] at hs;exact hs.elim (fun h=>h.1.elim) .inr
    | lst e es cl=>rw [hx] at hs;exact hs.elim (fun h=>h.1.elim) .inr
    | own e es=>rw [hx] at hs;exact hs.elim (fun h=>h.1.elim) .inr
    | un=>rw [hx] at hs;exact hs
    | _=>rw [hx] at hf;simp [IV.flat] at hf
  · rw [hbox] at hb
    obtain ⟨C,ty,f,q1,q2,q3⟩:=h.boxes l _ cs hb
    refine ⟨C,ty,f,q1,q2,q3.mono fun x v g _ hx hm=>?_⟩
    rcases hx with ⟨p1,p2,p3,p4⟩ | hx
    · refine .inl ⟨hcap x v ?_ p3 p1,p2,p3,p4⟩
      by_cases hl:l=L
      · have:cs ∈ st.loc:=by
          rw [St.box,if_pos (by omega)] at hb
          exact List.mem_of_getElem? hb
        exact List.all_eq_true.1 (List.all_eq_true.1 hloc cs this) x hm
      · have hlt:l < L:=by
          rw [St.box,if_neg (by omega)] at hb
          split at hb
          · rename_i b hM
            have:=(List.getElem?_eq_some_iff.1 hM).1;omega
          · cases hb
        cases x with
        | bptr l' k c =>
          simp only [IV.lvl,decide_eq_true_eq] at p2
          have:(l' == L)=false:=by simp;omega
          simp [IV.noK,this]
        | fn f caps =>
          simp only [IV.lvl] at p2
          refine List.all_eq_true.2 fun z hz=>?_
          have hz2:=List.all_eq_true.1 p2 z hz
          cases z with
          | bptr l' k c =>
            simp only [decide_eq_true_eq] at hz2
            have:(l' == L)=false:=by simp;omega
            simp [this]
          | _=>rfl
        | _=>rfl
    · exact .inr hx
  · rw [hbox] at hb
    exact h.nobox l _ hb
end
end Go.Idl
namespace Go.Idl
open Go
def bOps (cx:Cx) (ops:Array Oper) (n:Nat) (keep:List Nat):List Oper→List IOp→Bool
  | [],[]=>true
  | o::os,x::xs=>bIOp cx ops n keep o x && bOps cx ops n keep os xs
  | _,_=>false
def bNil (cx:Cx) (n:Nat) (keep:List Nat):Code→List IOp→Opd→Nat→Bool
  | .region _ ops false,iops,x,t=>bOps cx ops n keep (ops.toList.take iops.length) iops && ops.size == iops.length+1 && (match ops[iops.length]? with
    | some o=>o.guard.isNone && (match o.dst with | some d=>d == t | none=>false) && decide (t < n) && !keep.contains t && (match o.op with
      | .binOp .eql T a (.const v) _=>vEq v (.slice none 0 0) && isSliceOf cx.P T (fun _=>true) && bOpd cx a x
      | _=>false)
    | none=>false)
  | _,_,_,_=>false
def bCodeI (cx:Cx) (n:Nat) (keep:List Nat):IC→Code→Bool
  | i,.scope c=>bCodeI cx n keep i c
  | .skip,.skip=>true
  | .skip,.label _=>true
  | .reg iops _ alts,.region _ ops draw=>bOps cx ops n keep ops.toList iops && (!draw || drawB ops (clsOf iops) alts)
  | .seq x y,.seq a b=>bCodeI cx n keep x a && bCodeI cx n keep y b
  | .nilc iops x t _ y,.seq a b=>bNil cx n keep a iops x t && bCodeI cx n keep y b
  | .nilc2 iops x t _ y1 y2,.seq (.seq a1 a2) b=>bNil cx n keep a1 iops x t && bCodeI cx n keep y1 a2 && bCodeI cx n keep y2 b
  | .cond d x y,.cond c a b=>bOpd cx c d && bCodeI cx n keep x a && bCodeI cx n keep y b
  | .block id' b',.block id b=>id == id' && bCodeI cx n keep b' b
  | .loop b',.loop b=>bCodeI cx n keep b' b
  | .exit id',.exit id=>id == id'
  | .ret,.ret=>true
  | .hole,_=>true
  | _,_=>false
abbrev bCode (cx:Cx) (n:Nat) (keep:List Nat) (c:Code) (i:IC):Bool:=bCodeI cx n keep i c
def exOf:Ex→Exit
  | .normal=>.normal
  | .exit id=>.exit id
  | .ret=>.ret
section
variable {cx:Cx} {w0:World} {F0:Nat→Prop} {ρ0:Rho} {fp0:Fp} {st0:St} {a0:Act} {keep:List Nat} {n:Nat} {cf:CF}
variable {w:World} {st st':St} {a:Act}
def PostI (cx:Cx) (w0:World) (F0:Nat→Prop) (ρ0:Rho) (fp0:Fp) (st0:St) (a0:Act) (keep:List Nat) (n:Nat) (ex:Ex) (st':St):Exit→Act→World→Prop :=
  fun e a w=>e=exOf ex∧Inv cx w0 F0 ρ0 fp0 st0 a0 keep n st' a w
theorem bOps_spec {ops:Array Oper}:∀ {os:List Oper} {xs:List IOp},bOps cx ops n keep os xs=true→os.length=xs.length∧∀ (i:Nat) (o:Oper) (x:IOp),os[i]? = some o→xs[i]? = some x→bIOp cx ops n keep o x=true
  | [],[],_=>⟨rfl,by simp⟩
  | o::os,x::xs,h=>by
    simp only [bOps,Bool.and_eq_true] at h
    obtain ⟨h1,h2⟩:=bOps_spec h.2
    refine ⟨by simp [h1],fun i o' x' ho hx=>?_⟩
    cases i with
    | zero=>simp at ho hx;subst ho hx;exact h.1
    | succ i=>exact h2 i o' x' (by simpa using ho) (by simpa using hx)
  | [],_::_,h=>by cases h
  | _::_,[],h=>by cases h
theorem inOrder_range (l:List IOp):inOrder l (List.range l.length)=l:=by
  unfold inOrder
  induction l with
  | nil=>rfl
  | cons x l ih =>
    rw [List.length_cons,List.range_succ_eq_map,List.filterMap_cons]
    simp only [List.getElem?_cons_zero,List.filterMap_map]
    congr 1
theorem inv_drawn (h:Inv cx w0 F0 ρ0 fp0 st0 a0 keep n st a w) (k:Nat):Inv cx w0 F0 ρ0 fp0 st0 a0 keep n st a { w with drawn:=k }:=by
  obtain ⟨F,ρ,fp,hR,hE,h1⟩:=h
  obtain ⟨hR',-⟩:=hR.grow (w':={ w with drawn:=k }) (fun _ _ _=>rfl) (Nat.le_refl _) (Y:=[]) .nil (by simp)
  exact ⟨F,ρ,fp,by simpa using hR',⟨hE.size,hE.keep,hE.fpn,hE.xn,hE.Fm,hE.Fn,hE.rho,hE.env⟩,h1⟩
theorem inv_cut (h:Inv cx w0 F0 ρ0 fp0 st0 a0 keep n st a w) (live:List Nat):Inv cx w0 F0 ρ0 fp0 st0 a0 keep n (st.cut live) a w:=by
  obtain ⟨F,ρ,fp,hR,hE,hS,h1⟩:=h
  obtain ⟨fp',k1,k2,k3⟩:=hR.restrict live
  exact ⟨F,ρ,fp',k3,⟨hE.size,hE.keep,fun r b hb=>hE.fpn r b (k1 r b hb),hE.xn,hE.Fm,hE.Fn,hE.rho,hE.env⟩,⟨hS.M,hS.loc⟩,h1⟩
theorem eval_bool (h:Inv cx w0 F0 ρ0 fp0 st0 a0 keep n st a w) {c:Operand} {d:Opd} (hc:okOpd cx c d) {t:Bool} (ht:rd st.T d=.sc (.bool t)):a.eval c=.bool t:=by
  obtain ⟨F,ρ,fp,hR,-⟩:=h
  have:=rd_rel hR hc
  rw [ht] at this
  exact (rslot_sc this).1
theorem wpY_app {P:Program} {ops:Array Oper} {cls:Nat→Cls} {K K2:Act→World→Prop} {l l2:List Nat} (hK:∀ a w,K2 a w→wpY P ops cls K l2 a w):∀ {a:Act} {w:World},wpY P ops cls K2 l a w→wpY P ops cls K (l++l2) a w:=by
  induction l with
  | nil=>intro a w h;exact hK a w h
  | cons i l ih =>
    intro a w h
    obtain ⟨o,ho,h⟩:=h
    refine ⟨o,ho,?_⟩
    split at h
    · obtain ⟨v,hy,h⟩:=h;exact ⟨v,hy,ih h⟩
    · obtain ⟨v,hy,h⟩:=h;exact ⟨v,hy,ih h⟩
    · exact wpOp_mono (fun _ _=>ih) h
theorem empty_real {x:IV} {v:Value} {b:Bool} {F:Nat→Prop} {ρ:Rho} {fp:Fp} {X:List Nat} (hR:Rel cx w F ρ fp X st (regs a)) (h:RSlot cx w F ρ st (look st (regs a) ρ w) x v []) (hb:emptyL x=some b) :
    ∃ ad len cap,v=.slice ad len cap∧(b=false→ad.isSome=true):=by
  unfold emptyL at hb
  split at hb
  · rename_i e es c
    simp only [Option.some.injEq] at hb
    have hd:RDs w F [.lst e es c] [v] []:=by
      rcases h with ⟨h,_⟩ | h
      · exact h.elim
      · exact h
    obtain ⟨-,h1⟩:=hd.lst_inv
    rcases h1 with ⟨rfl,ad,cap,rfl,-⟩ | ⟨b1,o,cap,C,ty,fr,rfl,_⟩
    · exact ⟨ad,0,cap,rfl,fun hf=>by subst hb;simp at hf⟩
    · exact ⟨_,_,_,rfl,fun _=>rfl⟩
  · rename_i r c p e off n cl
    simp only [Option.some.injEq] at hb
    rcases h with ⟨⟨x0,v0,es,A0,N,cap0,A,cap,k1,k2,k3,hA,k5,k6,k7,k8⟩,_⟩ | h
    · refine ⟨A,n,cap,hA,fun hf=>?_⟩
      subst hb
      have hn:0 < n:=by
        rcases Nat.eq_zero_or_pos n with h | h
        · subst h;simp at hf
        · exact h
      obtain ⟨b,o1,-,rfl⟩:=k8.1 (by omega)
      rfl
    · cases h
  · cases hb
theorem run_eqnil' {P:Program} {T e:TypeId} (hT:P.underlying T=some (.slice e)) {ad:Option Addr} {len cap:Nat} (w:World) (d:Nat):(Op.equalIn (d+1) T (.slice ad len cap) (.slice none 0 0)).run P w=.ok ad.isNone w:=by
  cases ad <;> simp [Op.equalIn,run_underlying hT]
theorem run_eqnil {P:Program} {T e:TypeId} (hT:P.underlying T=some (.slice e)) {ad:Option Addr} {len cap:Nat} (w:World):(Op.equal T (.slice ad len cap) (.slice none 0 0)).run P w=.ok ad.isNone w :=
  run_eqnil' hT w 9999
end
end Go.Idl
namespace Go.Idl
open Go
def FR (r:Option Nat):Fence:={ Fence.wide with round:=r }
def ndOps (ops:Array Oper):Bool:=ops.toList.all fun o=>match o.op with
  | .defer _=>false
  | _=>true
def ndC:Code→Bool
  | .region _ ops _=>ndOps ops
  | .seq x y | .cond _ x y=>ndC x && ndC y
  | .block _ c | .loop c | .scope c=>ndC c
  | .rangeFunc _ _ x y=>ndC x && ndC y
  | _=>true
def NoDf (r:Option Nat) (ops:Array Oper):Prop:=r=none ∨ ndOps ops=true
theorem NoDf.sem {r:Option Nat} {ops:Array Oper} (h:NoDf r ops) {i:Nat} {o:Oper} (ho:ops[i]? = some o) (ρ:Operand→Value):Oper.semAt r ρ o=execOp ρ o:=by
  rcases h with rfl | h
  · rfl
  · refine Oper.semAt_eq _ _ _ fun c hc=>?_
    have:=List.all_eq_true.1 h o (by simpa using Array.mem_of_getElem? ho)
    simp [hc] at this
section
variable {P:Program} {ops:Array Oper} {cls:Nat→Cls} {K:Act→World→Prop} {a:Act} {w:World} {r:Option Nat} {m:Nat}
theorem callsIn_FR {f:FuncId} {args:Array Value} {R:Ending→World→Prop} (h:Calls P f args w R):CallsIn (FR r) m P f args w R :=
  callsIn_wide.2 h
theorem rowsIn_FR {row:String} {args:Array Value} {R:Value→World→Prop} (h:Rows P row args w R):RowsIn (FR r) m P row args w R :=
  fun c cs _=>let ⟨v,w',h1,h2⟩:=h c cs;⟨v,w',h1,(stepsIn_wide.2 h2:StepsIn (Machine.fenced P Fence.wide) P _ _)⟩
theorem wpOp_in {i:Nat} (hnd:NoDf r ops) (h:wpOp P ops QF i K a w):wpOpIn (FR r) m P ops QF i K a w:=by
  unfold wpOp at h
  unfold wpOpIn
  cases ho:ops[i]? with
  | none=>simpa only [ho] using h
  | some o =>
    simp only [ho] at h ⊢
    by_cases hw:Region.wanted o (yielded ops a.tmps)=true
    · simp only [hw,if_true] at h ⊢
      rcases h with h | ⟨-,x,y,h⟩
      · refine ⟨fun _ _=>trivial,?_⟩
        rw [show (FR r).round=r from rfl,hnd.sem ho]
        unfold Oper.wp at h
        generalize (execOp a.eval o).run P w=res at h ⊢
        have hdep:(FR r).depth.isSome=true→1≤m:=fun h=>by cases h
        cases res with
        | ok x w' =>
          cases x <;> simp only [Oper.upon,Oper.uponIn] at h ⊢
          all_goals first
            | exact h
            | exact ⟨hdep,rowsIn_FR h⟩
            | exact ⟨hdep,CallsIn.mono (callsIn_FR h) fun e w'' he=>by cases e <;> exact he⟩
            | exact h.elim
        | halt x w'=>cases x <;> simp only [Oper.upon,Oper.uponIn] at h ⊢ <;> exact h
      · exact h.elim
    · rw [if_neg hw] at h ⊢
      exact ⟨fun _ _=>trivial,h⟩
theorem QFIn {i:Nat} {Q:Exit→Act→World→Prop} (h:wpOpIn (FR r) m P ops QF i K a w):wpOpIn (FR r) m P ops Q i K a w:=by
  unfold wpOpIn at *
  cases ho:ops[i]? with
  | none=>simpa only [ho] using h
  | some o =>
    simp only [ho] at h ⊢
    by_cases hw:Region.wanted o (yielded ops a.tmps)=true
    · rw [if_pos hw] at h ⊢
      refine ⟨h.1,?_⟩
      have h:=h.2
      generalize (o.semAt (FR r).round a.eval).run P w=res at h ⊢
      cases res with
      | ok x w' =>
        cases x <;> simp only [Oper.uponIn] at h ⊢
        all_goals first
          | exact h
          | (refine ⟨h.1,CallsIn.mono h.2 fun e w'' he=>?_⟩
             cases e with
             | returned v=>exact he
             | panicked c=>exact he.elim
             | outgrown=>obtain ⟨_,_,he⟩:=he;exact he.elim)
          | (refine ⟨h.1,RoundIn.mono h.2 fun e w'' he=>?_⟩
             cases e with
             | returned v=>exact he
             | panicked c=>exact he.elim
             | outgrown=>obtain ⟨_,_,he⟩:=he;exact he.elim)
      | halt x w'=>cases x <;> simp only [Oper.uponIn] at h ⊢ <;> exact h.elim
    · rw [if_neg hw] at h ⊢
      exact h
theorem wpY_opsIn {Q:Exit→Act→World→Prop} {l:List Nat} (hnd:NoDf r ops) (hK:∀ a w,K a w→Q .normal a w):∀ {a:Act} {w:World},wpY P ops cls K l a w→wpOpsIn (FR r) m P ops Q l a w:=by
  induction l with
  | nil=>intro a w h;exact hK a w h
  | cons i l ih =>
    intro a w h
    obtain ⟨o,ho,h⟩:=h
    rw [wpOpsIn_cons]
    refine QFIn (wpOp_in hnd ?_)
    split at h
    · obtain ⟨v,hy,h⟩:=h;exact hy.wpOp ho (ih h)
    · obtain ⟨v,hy,h⟩:=h;exact hy.wpOp ho (ih h)
    · exact wpOp_mono (fun _ _=>ih) h
theorem wpIn_fixedY {id:Nat} {Q:Exit→Act→World→Prop} (hnd:NoDf r ops) (hK:∀ a w,K a w→Q .normal a w) (h:wpY P ops cls K (List.range ops.size) a w):(Code.region id ops false).wpIn (FR r) m P Q a w :=
  wpIn_region (wpY_opsIn hnd hK h)
theorem wpIn_drawnY {id:Nat} {alts:List (List Nat)} {Q:Exit→Act→World→Prop} (hnd:NoDf r ops) (hm:P.follows .mixedOrders=true)
    (hd:drawB ops cls alts=true) (hK:∀ a w,K a w→Q .normal a w)
    (h:∀ τ ∈ List.range ops.size::alts,wpY P ops cls K τ a { w with drawn:=w.drawn+1 }):(Code.region id ops true).wpIn (FR r) m P Q a w:=by
  refine wpIn_region_draw fun t=>?_
  simp only [Region.schedule,hm,Bool.true_or,if_true]
  have hb:backB .any ops=true:=by
    unfold drawB at hd
    simp only [Bool.and_eq_true] at hd
    exact hd.1.1.1
  obtain ⟨τ,hτ,h1,h2,h3⟩:=drawB_spec hd (lin_go hb t)
  exact wpY_opsIn hnd hK (wpY_perm h1 h2 h3 (h τ hτ))
theorem stepR_scope {b:Frame} {k:List Item} {cs:List Frame} {c:Code}:step P (lone (b.atR a (.code (.scope c)::k)) cs w)=.next (lone (b.atR a (.code c::.inScope c::k)) cs w) :=
  step_lone_go (by simp [stepG,stepG.exec,Frame.atR])
theorem stepR_inScope {b:Frame} {k:List Item} {cs:List Frame} {c:Code}:step P (lone (b.atR a (.inScope c::k)) cs w)=.next (lone (b.atR a k) cs w) :=
  step_lone_go (by simp [stepG,stepG.exec,Frame.atR])
theorem wpIn_scope_straight {F:Fence} {Q:Exit→Act→World→Prop} {c:Code} (h:c.wpIn F m P (Exit.noGoto Q) a w):(Code.scope c).wpIn F m P Q a w:=by
  intro b k cs hro hb hr
  have h0:(lone (b.atR a (.code (.scope c)::k)) cs w).fenced P F:=fenced_calm hb hr rfl
  obtain ⟨e,a₁,w₁,hq,harr⟩:=h b (.inScope c::k) cs hro hb hr
  cases e with
  | normal=>exact ⟨.normal,a₁,w₁,hq,.head h0 stepR_scope (StepsIn.trans harr (.one (fenced_calm hb hr rfl) stepR_inScope))⟩
  | exit id' =>
    have hx:exitTo id' (.inScope c::k)=exitTo id' k:=by simp [exitTo]
    exact ⟨.exit id',a₁,w₁,hq,fun k' hk=>.head h0 stepR_scope (harr.1 k' (by rw [hx];exact hk)),
      fun hr' hk=>let ⟨k₁,h1,h2⟩:=harr.2 hr' (by rw [hx];exact hk);⟨k₁,h1,.head h0 stepR_scope h2⟩⟩
  | goto l=>exact hq.elim
  | ret=>exact ⟨_,a₁,w₁,hq,.of_steps (.one h0 stepR_scope) harr⟩
  | panic ch=>exact ⟨_,a₁,w₁,hq,.of_steps (.one h0 stepR_scope) harr⟩
  | outgrown=>exact ⟨_,a₁,w₁,hq,.of_steps (.one h0 stepR_scope) harr⟩
end
end Go.Idl
namespace Go.Idl
open Go
section
variable {cx:Cx} {w0:World} {F0:Nat→Prop} {ρ0:Rho} {fp0:Fp} {st0:St} {a0:Act} {keep:List Nat} {n:Nat} {cf:CF}
variable {w:World} {st st':St} {a:Act}
variable {r:Option Nat} {dp:Nat}
theorem and_nd {a b:Bool} (h:(a && b)=true):a=true∧b=true:=by simpa using h
theorem nilc_soundI (hcf:CallOK cx cf) {x:Code} (hnd:r=none ∨ ndC x=true) {G:Act→World→Prop} {Q:Exit→Act→World→Prop} {iops:List IOp} {e:Opd} {t:Nat} {live:List Nat} {f:St→Option (Ex×St)} {ex:Ex} (hb:bNil cx n keep x iops e t=true) (hev:nilStep (execOps cf st iops) e t live f=some (ex,st'))
    (hI:Inv cx w0 F0 ρ0 fp0 st0 a0 keep n st a w) (hy:∀ {st:St} {a:Act} {w:World},f st=some (ex,st')→Inv cx w0 F0 ρ0 fp0 st0 a0 keep n st a w→G a w) :
    x.wpIn (FR r) dp cx.P (Exit.then G Q) a w:=by
  obtain ⟨id,ops,rfl⟩:∃ id ops,x=.region id ops false:=by
    unfold bNil at hb
    split at hb
    · exact ⟨_,_,rfl⟩
    · cases hb
  simp only [bNil,Bool.and_eq_true,beq_iff_eq] at hb
  obtain ⟨⟨hops,hsz⟩,hb⟩:=hb
  split at hb
  rotate_left
  · cases hb
  rename_i o ho
  simp only [Bool.and_eq_true,decide_eq_true_eq,Bool.not_eq_true',Option.isNone_iff_eq_none] at hb
  obtain ⟨⟨⟨⟨hg,hd⟩,htn⟩,htk⟩,hop⟩:=hb
  split at hd
  rotate_left
  · cases hd
  rename_i d hdst
  have hdt:d=t:=eq_of_beq hd
  subst hdt
  split at hop
  rotate_left
  · cases hop
  rename_i T xo v yt hopk
  simp only [Bool.and_eq_true] at hop
  obtain ⟨⟨hv,hT⟩,hx⟩:=hop
  have hv':=vEq_eq hv
  subst hv'
  obtain ⟨el,hel,-⟩:=isSliceOf_ok hT
  obtain ⟨hlen,hck⟩:=bOps_spec hops
  have hck':∀ (i:Nat) (o:Oper) (x:IOp),ops[i]? = some o→iops[i]? = some x→bIOp cx ops n keep o x=true:=fun i o x ho hx=>by
    have hi:i < iops.length:=(List.getElem?_eq_some_iff.1 hx).1
    exact hck i o x (by rw [List.getElem?_take_of_lt hi];simpa using ho) hx
  unfold nilStep at hev
  split at hev
  rotate_left
  · cases hev
  rename_i st1 h1
  obtain ⟨b,hbe,hboth⟩:∃ b,emptyL (rd st1.T e)=some b∧∀ b0,(b=false→b0=false)→f (st1.flag d b0 live)=some (ex,st'):=by
    split at hev
    · rename_i he
      exact ⟨false,he,fun b0 h0=>by rw [h0 rfl];exact hev⟩
    · rename_i he
      refine ⟨true,he,fun b0 _=>?_⟩
      split at hev
      rotate_left
      · cases hev
      rename_i r r' hr hr'
      split at hev
      rotate_left
      · cases hev
      rename_i hrr
      simp only [Option.some.injEq] at hev
      subst hrr
      cases b0
      · rw [hr',hev]
      · rw [hr,hev]
    · cases hev
  refine wpIn_fixedY (cls:=clsOf iops) (K:=G) (hnd:NoDf r ops) (fun a w h=>h) ?_
  rw [hsz,List.range_succ]
  refine wpY_app (K2:=Inv cx w0 F0 ρ0 fp0 st0 a0 keep n st1) (fun a1 w1 hI1=>?_) (ops_Y hcf hck' (by omega) (fun i hi=>List.mem_range.1 hi) hI (by rw [inOrder_range];exact h1))
  refine ⟨o,ho,?_⟩
  have hcls:clsOf iops iops.length=.oth:=by simp [clsOf]
  rw [hcls]
  simp only
  have hI1':=hI1
  obtain ⟨F,ρ,fp,hR,hE,hS,hn,hdf,hk⟩:=hI1
  obtain ⟨ad,len,cap,hval,had⟩:=empty_real hR (rd_rel hR (bOpd_ok hx)) hbe
  have hw:Region.wanted o (yielded ops a1.tmps)=true:=by simp [Region.wanted,hg]
  have hrun:(execOp a1.eval o).run cx.P w1=.ok (.value (.bool ad.isNone)) w1:=by
    have he:a1.eval (.const (.slice none 0 0))=.slice none 0 0:=rfl
    simp [execOp,hopk,hval,he,eqGuard,binOp,run_eqnil hel]
  unfold wpOp
  simp only [ho,hw,if_true]
  left
  unfold Oper.wp
  rw [hrun,Oper.upon_value,hdst]
  simp only [wpY]
  have hb0:b=false→ad.isNone=false:=fun h=>by
    have:=had h
    cases ad <;> simp_all
  refine hy (hboth ad.isNone hb0) ?_
  have:=inv_put (cx:=cx) (w0:=w0) (F0:=F0) (ρ0:=ρ0) (fp0:=fp0) (st0:=st0) (a0:=a0) (keep:=keep) (n:=n) (d:=some d) (f':=[]) (v':=.bool ad.isNone) (v:=.sc (.bool ad.isNone)) (by simpa using hR) (sc_rslot rfl) (by simpa using hE) hS hn hdf hk
    (fun e he=>by cases he;exact ⟨htn,by simpa using htk⟩)
  exact inv_cut this live
theorem exec_soundI_aux (hcf:CallOK cx cf) (hm:cx.P.follows .mixedOrders=true):∀ (N:Nat) (c:Code),SizeOf.sizeOf c < N→(r=none ∨ ndC c=true)→∀ {i:IC},bCode cx n keep c i=true→∀ {fuel:Nat} {st:St} {ex:Ex} {st':St} {a:Act} {w:World},
    exec cf fuel i st=some (ex,st')→Inv cx w0 F0 ρ0 fp0 st0 a0 keep n st a w→c.wpIn (FR r) dp cx.P (PostI cx w0 F0 ρ0 fp0 st0 a0 keep n ex st') a w:=by
  intro N
  induction N with
  | zero=>intro c hN;omega
  | succ N ihN =>
  intro c hN hnd
  cases c with
  | skip =>
    intro i hb fuel st ex st' a w hev hI
    cases i <;> simp only [bCode,bCodeI] at hb <;> try (first | (cases hb;done) | (simp only [exec] at hev;cases hev;done))
    simp only [exec,Option.some.injEq,Prod.mk.injEq] at hev
    obtain ⟨rfl,rfl⟩:=hev
    exact wpIn_skip ⟨rfl,hI⟩
  | label l =>
    intro i hb fuel st ex st' a w hev hI
    cases i <;> simp only [bCode,bCodeI] at hb <;> try (first | (cases hb;done) | (simp only [exec] at hev;cases hev;done))
    simp only [exec,Option.some.injEq,Prod.mk.injEq] at hev
    obtain ⟨rfl,rfl⟩:=hev
    exact wpIn_label ⟨rfl,hI⟩
  | scope c =>
    have ih:=fun {i:IC}=>ihN c (by simp at hN;omega) hnd (i:=i)
    intro i hb fuel st ex st' a w hev hI
    have hb':bCode cx n keep c i=true:=by
      cases i <;> simpa only [bCode,bCodeI] using hb
    refine wpIn_scope_straight (wpIn_mono (ih hb' hev hI) ?_)
    rintro e a w ⟨rfl,h⟩
    cases ex <;> exact ⟨rfl,h⟩
  | region id ops draw =>
    intro i hb fuel st ex st' a w hev hI
    cases i <;> simp only [bCode,bCodeI] at hb <;> try (first | (cases hb;done) | (simp only [exec] at hev;cases hev;done))
    rotate_left
    rename_i iops live alts
    simp only [Bool.and_eq_true,Bool.or_eq_true,Bool.not_eq_true'] at hb
    obtain ⟨hops,hdr⟩:=hb
    obtain ⟨hlen,hck⟩:=bOps_spec hops
    have hlen':ops.size=iops.length:=by simpa using hlen
    have hck':∀ (i:Nat) (o:Oper) (x:IOp),ops[i]? = some o→iops[i]? = some x→bIOp cx ops n keep o x=true:=fun i o x ho hx=>hck i o x (by simpa using ho) hx
    simp only [exec] at hev
    split at hev
    rotate_left
    · cases hev
    rename_i st1 hreg
    simp only [Option.some.injEq,Prod.mk.injEq] at hev
    obtain ⟨rfl,rfl⟩:=hev
    unfold execReg at hreg
    split at hreg
    rotate_left
    · cases hreg
    rename_i st2 hmain
    split at hreg
    rotate_left
    · cases hreg
    rename_i halts
    simp only [Option.some.injEq] at hreg
    subst hreg
    have run:∀ (τ:List Nat) (w1:World),Inv cx w0 F0 ρ0 fp0 st0 a0 keep n st a w1→τ ∈ List.range ops.size::alts→(∀ i ∈ τ,i < ops.size)→wpY cx.P ops (clsOf iops) (Inv cx w0 F0 ρ0 fp0 st0 a0 keep n (st2.cut live)) τ a w1:=by
      intro τ w1 hI1 hτ hlt
      rcases List.mem_cons.1 hτ with rfl | hτ
      · have:=ops_Y (l:=List.range ops.size) hcf hck' (by omega) (fun i hi=>by rw [← hlen'];exact hlt i hi) hI1 (st':=st2) (by rw [hlen',inOrder_range];exact hmain)
        exact wpY_mono (fun a w h=>inv_cut h live) this
      · obtain ⟨st3,h3,h4⟩:=halts τ hτ
        have:=ops_Y (l:=τ) hcf hck' (by omega) (fun i hi=>by rw [← hlen'];exact hlt i hi) hI1 h3
        exact wpY_mono (fun a w h=>by rw [← h4];exact inv_cut h live) this
    cases draw with
    | false =>
      exact wpIn_fixedY (hnd:NoDf r ops) (fun a w h=>⟨rfl,h⟩) (run (List.range ops.size) w hI (by simp) (fun i hi=>List.mem_range.1 hi))
    | true =>
      have hdr':drawB ops (clsOf iops) alts=true:=by
        rcases hdr with h | h
        · cases h
        · exact h
      refine wpIn_drawnY (hnd:NoDf r ops) hm hdr' (fun a w h=>⟨rfl,h⟩) fun τ hτ=>run τ _ (inv_drawn hI _) hτ fun i hi=>?_
      rcases List.mem_cons.1 hτ with rfl | hτ
      · exact List.mem_range.1 hi
      · unfold drawB at hdr'
        simp only [Bool.and_eq_true] at hdr'
        have hp:=List.all_eq_true.1 hdr'.1.1.2 τ hτ
        exact List.mem_range.1 ((permB_spec hp).subset hi)
  | seq x y =>
    have ihx:=fun {i:IC}=>ihN x (by simp at hN;omega) (hnd.imp_right fun h=>(and_nd h).1) (i:=i)
    have ihy:=fun {i:IC}=>ihN y (by simp at hN;omega) (hnd.imp_right fun h=>(and_nd h).2) (i:=i)
    intro i hb fuel st ex st' a w hev hI
    cases i <;> simp only [bCode,bCodeI] at hb <;> try (first | (cases hb;done) | (simp only [exec] at hev;cases hev;done))
    rotate_left
    · rename_i iops e t live y'
      simp only [Bool.and_eq_true] at hb
      simp only [exec] at hev
      exact wpIn_seq (nilc_soundI hcf (hnd.imp_right fun h=>(and_nd h).1) hb.1 hev hI fun {st a w} hev hI=>ihy hb.2 hev hI)
    · rename_i iops e t live y1 y2
      cases x <;> simp only [bCode,bCodeI] at hb <;> try (first | (cases hb;done) | (simp only [exec] at hev;cases hev;done))
      rename_i x1 x2
      simp only [Bool.and_eq_true] at hb
      have ih2:=fun {i:IC}=>ihN x2 (by simp at hN;omega) (hnd.imp_right fun h=>(and_nd (and_nd h).1).2) (i:=i)
      simp only [exec] at hev
      refine wpIn_seq (wpIn_seq (nilc_soundI hcf (hnd.imp_right fun h=>(and_nd (and_nd h).1).1) hb.1.1 hev hI fun {st a w} hev hI=>?_))
      unfold seqX at hev
      cases h1:exec cf fuel y1 st with
      | none=>simp [h1] at hev
      | some p =>
      obtain ⟨ex1,st1⟩:=p
      simp only [h1] at hev
      refine wpIn_mono (ih2 hb.1.2 h1 hI) ?_
      rintro e a1 w1 ⟨rfl,hI1⟩
      cases ex1 with
      | normal=>exact ihy hb.2 hev hI1
      | exit id=>simp only [Option.some.injEq,Prod.mk.injEq] at hev;obtain ⟨rfl,rfl⟩:=hev;exact ⟨rfl,hI1⟩
      | ret=>simp only [Option.some.injEq,Prod.mk.injEq] at hev;obtain ⟨rfl,rfl⟩:=hev;exact ⟨rfl,hI1⟩
    rename_i x' y'
    simp only [Bool.and_eq_true] at hb
    simp only [exec] at hev
    cases h1:exec cf fuel x' st with
    | none=>simp [h1] at hev
    | some p =>
    obtain ⟨ex1,st1⟩:=p
    simp only [h1] at hev
    refine wpIn_seq (wpIn_mono (ihx hb.1 h1 hI) ?_)
    rintro e a1 w1 ⟨rfl,hI1⟩
    cases ex1 with
    | normal=>exact ihy hb.2 hev hI1
    | exit id=>simp only [Option.some.injEq,Prod.mk.injEq] at hev;obtain ⟨rfl,rfl⟩:=hev;exact ⟨rfl,hI1⟩
    | ret=>simp only [Option.some.injEq,Prod.mk.injEq] at hev;obtain ⟨rfl,rfl⟩:=hev;exact ⟨rfl,hI1⟩
  | cond c x y =>
    have ihx:=fun {i:IC}=>ihN x (by simp at hN;omega) (hnd.imp_right fun h=>(and_nd h).1) (i:=i)
    have ihy:=fun {i:IC}=>ihN y (by simp at hN;omega) (hnd.imp_right fun h=>(and_nd h).2) (i:=i)
    intro i hb fuel st ex st' a w hev hI
    cases i <;> simp only [bCode,bCodeI] at hb <;> try (first | (cases hb;done) | (simp only [exec] at hev;cases hev;done))
    rename_i d x' y'
    simp only [Bool.and_eq_true] at hb
    simp only [exec] at hev
    split at hev
    rotate_left
    · cases hev
    rename_i t ht
    have hc:=eval_bool hI (bOpd_ok hb.1.1) ht
    refine wpIn_cond_split hc (fun h=>?_) (fun h=>?_)
    · subst h;simp only [if_true] at hev;exact ihx hb.1.2 hev hI
    · subst h;simp only [Bool.false_eq_true,if_false] at hev;exact ihy hb.2 hev hI
  | block id b =>
    have ih:=fun {i:IC}=>ihN b (by simp at hN;omega) hnd (i:=i)
    intro i hb fuel st ex st' a w hev hI
    cases i <;> simp only [bCode,bCodeI] at hb <;> try (first | (cases hb;done) | (simp only [exec] at hev;cases hev;done))
    rename_i id' b'
    simp only [Bool.and_eq_true,beq_iff_eq] at hb
    obtain ⟨rfl,hb⟩:=hb
    simp only [exec] at hev
    cases h1:exec cf fuel b' st with
    | none=>simp [h1] at hev
    | some p =>
    obtain ⟨ex1,st1⟩:=p
    simp only [h1] at hev
    refine wpIn_block (wpIn_mono (ih hb h1 hI) ?_)
    rintro e a1 w1 ⟨rfl,hI1⟩
    cases ex1 with
    | normal=>simp only [Option.some.injEq,Prod.mk.injEq] at hev;obtain ⟨rfl,rfl⟩:=hev;exact ⟨rfl,hI1⟩
    | ret=>simp only [Option.some.injEq,Prod.mk.injEq] at hev;obtain ⟨rfl,rfl⟩:=hev;exact ⟨rfl,hI1⟩
    | exit j =>
      simp only at hev
      simp only [exOf,Exit.inBlock]
      split at hev
      · rename_i hj
        simp only [Option.some.injEq,Prod.mk.injEq] at hev;obtain ⟨rfl,rfl⟩:=hev
        simp only [hj,if_true];exact ⟨rfl,hI1⟩
      · rename_i hj
        simp only [Option.some.injEq,Prod.mk.injEq] at hev;obtain ⟨rfl,rfl⟩:=hev
        simp only [hj,if_false];exact ⟨rfl,hI1⟩
  | loop b =>
    have ih:=fun {i:IC}=>ihN b (by simp at hN;omega) hnd (i:=i)
    intro i hb fuel st ex st' a w hev hI
    cases i <;> simp only [bCode,bCodeI] at hb <;> try (first | (cases hb;done) | (simp only [exec] at hev;cases hev;done))
    rename_i b'
    simp only [exec] at hev
    have key:∀ (m:Nat) (st:St) (a:Act) (w:World),iter (exec cf fuel b') m st=some (ex,st')→Inv cx w0 F0 ρ0 fp0 st0 a0 keep n st a w→Code.roundsIn (FR r) dp cx.P b (PostI cx w0 F0 ρ0 fp0 st0 a0 keep n ex st') m a w:=by
      intro m
      induction m with
      | zero=>intro st a w h;simp [iter] at h
      | succ m ihm =>
        intro st a w h hI
        rw [roundsIn_succ]
        simp only [iter] at h
        cases h1:exec cf fuel b' st with
        | none=>simp [h1] at h
        | some p =>
        obtain ⟨ex1,st1⟩:=p
        simp only [h1] at h
        refine wpIn_mono (ih hb h1 hI) ?_
        rintro e a1 w1 ⟨rfl,hI1⟩
        cases ex1 with
        | normal=>exact ihm st1 a1 w1 h hI1
        | exit j=>simp only [Option.some.injEq,Prod.mk.injEq] at h;obtain ⟨rfl,rfl⟩:=h;exact ⟨rfl,hI1⟩
        | ret=>simp only [Option.some.injEq,Prod.mk.injEq] at h;obtain ⟨rfl,rfl⟩:=h;exact ⟨rfl,hI1⟩
    exact wpIn_loop_rounds fuel (key fuel st a w hev hI)
  | exit id =>
    intro i hb fuel st ex st' a w hev hI
    cases i <;> simp only [bCode,bCodeI] at hb <;> try (first | (cases hb;done) | (simp only [exec] at hev;cases hev;done))
    simp only [beq_iff_eq] at hb
    subst hb
    simp only [exec,Option.some.injEq,Prod.mk.injEq] at hev
    obtain ⟨rfl,rfl⟩:=hev
    exact wpIn_exit ⟨rfl,hI⟩
  | ret =>
    intro i hb fuel st ex st' a w hev hI
    cases i <;> simp only [bCode,bCodeI] at hb <;> try (first | (cases hb;done) | (simp only [exec] at hev;cases hev;done))
    simp only [exec,Option.some.injEq,Prod.mk.injEq] at hev
    obtain ⟨rfl,rfl⟩:=hev
    exact wpIn_ret ⟨rfl,hI⟩
  | rangeFunc f ps x y =>
    intro i hb fuel st ex st' a w hev hI
    cases i <;> first | (simp [bCode,bCodeI] at hb;done) | (simp only [exec] at hev;cases hev;done)
  | goto l =>
    intro i hb fuel st ex st' a w hev hI
    cases i <;> first | (simp [bCode,bCodeI] at hb;done) | (simp only [exec] at hev;cases hev;done)
  | refuse s =>
    intro i hb fuel st ex st' a w hev hI
    cases i <;> first | (simp [bCode,bCodeI] at hb;done) | (simp only [exec] at hev;cases hev;done)
theorem exec_soundI (hcf:CallOK cx cf) (hm:cx.P.follows .mixedOrders=true) {c:Code} {i:IC} (hnd:r=none ∨ ndC c=true) (hb:bCode cx n keep c i=true) {fuel:Nat} {st:St} {ex:Ex} {st':St} {a:Act} {w:World}
    (hev:exec cf fuel i st=some (ex,st')) (hI:Inv cx w0 F0 ρ0 fp0 st0 a0 keep n st a w):c.wpIn (FR r) dp cx.P (PostI cx w0 F0 ρ0 fp0 st0 a0 keep n ex st') a w :=
  exec_soundI_aux hcf hm (SizeOf.sizeOf c+1) c (Nat.lt_succ_self _) hnd hb hev hI
end
end Go.Idl
namespace Go.Idl
open Go
section
variable {cx:Cx} {w0:World} {F0:Nat→Prop} {ρ0:Rho} {fp0:Fp} {st0:St} {a0:Act} {keep:List Nat} {n:Nat} {cf:CF}
variable {w w':World} {F F':Nat→Prop} {ρ ρ':Rho} {fp fp':Fp} {st st':St} {a a':Act} {S S':List Nat} {tm tm':Nat→Value}
def Out (S:List Nat) (F:Nat→Prop) (fp:Fp) (w:World):Prop:=∀ b ∈ S,b < w.heap.size∧¬ F b∧∀ r,b ∉ fp r
theorem Out.ext {ex:Nat→Nat→Prop} (h:Out S F fp w) (hE:Ext w F ρ fp [] ex w' F' ρ' fp' []):Out S F' fp' w'∧∀ b ∈ S,w'.heap[b]? = w.heap[b]?:=by
  refine ⟨fun b hb=>?_,fun b hb=>?_⟩
  · obtain ⟨h1,h2,h3⟩:=h b hb
    refine ⟨Nat.lt_of_lt_of_le h1 hE.size,fun hF=>?_,fun r hr=>?_⟩
    · rcases hE.Fn b hF with k | ⟨r,k⟩ | k | k
      · exact h2 k
      · exact h3 r k
      · cases k
      · omega
    · rcases hE.fpn r b hr with ⟨r',k⟩ | k | k
      · exact h3 r' k
      · cases k
      · omega
  · obtain ⟨h1,h2,h3⟩:=h b hb
    exact hE.keep b h1 h3 (by simp)
theorem Rel.off (h:Rel cx w F ρ fp [] st tm) (hO:Out S F fp w) (hS:S.Nodup) (hk:∀ b,b < w.heap.size→b ∉ S→w'.heap[b]? = w.heap[b]?) (hs:w.heap.size≤w'.heap.size):Rel cx w' F ρ fp [] st tm:=by
  have h1:Rel cx w F ρ fp S st tm:=h.reX (fun _ h=>h) h.notF h.Flt hS (fun r b hb hb'=>(hO b hb').2.2 r hb) (fun b hb=>(hO b hb).2.1) (fun b hb=>(hO b hb).1)
  have h2:=(h1.grow (Y:=[]) hk hs .nil (by simp)).1
  exact h2.less (List.nil_sublist _)
theorem Ext.off {ex:Nat→Nat→Prop} (h:Ext w0 F0 ρ0 fp0 [] ex w F ρ fp []) (hS:∀ b ∈ S,w0.heap.size≤b) (hk:∀ b,b < w.heap.size→b ∉ S→w'.heap[b]? = w.heap[b]?) (hs:w.heap.size≤w'.heap.size) (he:Env w w') :
    Ext w0 F0 ρ0 fp0 [] ex w' F ρ fp [] :=
  ⟨Nat.le_trans h.size hs,fun b hb hr hx=>(hk b (Nat.lt_of_lt_of_le hb h.size) (fun hm=>by have:=hS b hm;omega)).trans (h.keep b hb hr hx),h.fpn,h.xn,h.Fm,h.Fn,h.rho,h.env.trans he⟩
structure Gd (cx:Cx) (w0:World) (F0:Nat→Prop) (ρ0:Rho) (fp0:Fp) (st0:St) (S:List Nat) (st:St) (tm:Nat→Value) (w:World) (F:Nat→Prop) (ρ:Rho) (fp:Fp):Prop where
  rel:Rel cx w F ρ fp [] st tm
  ext:Ext w0 F0 ρ0 fp0 [] (exB st0) w F ρ fp []
  shp:ShpLe st0 st
  out:Out S F fp w
  nd:S.Nodup
  new:∀ b ∈ S,w0.heap.size≤b
theorem Gd.self (h:Gd cx w0 F0 ρ0 fp0 st0 S st (regs a) w F ρ fp) (hn:n≤a.tmps.size):Inv cx w F ρ fp st a keep n st a w :=
  ⟨F,ρ,fp,h.rel,.refl ..,.refl _,hn,rfl,fun _ _=>rfl⟩
theorem Gd.to (h:Gd cx w0 F0 ρ0 fp0 st0 S st tm w F ρ fp) (hR:Rel cx w' F' ρ' fp' [] st' tm') (hE:Ext w F ρ fp [] (exB st) w' F' ρ' fp' []) (hS:ShpLe st st') :
    Gd cx w0 F0 ρ0 fp0 st0 S st' tm' w' F' ρ' fp'∧∀ b ∈ S,w'.heap[b]? = w.heap[b]? :=
  ⟨⟨hR,h.ext.trans hE fun _ _ hb=>h.shp.box hb,h.shp.trans hS,(h.out.ext hE).1,h.nd,h.new⟩,(h.out.ext hE).2⟩
theorem Gd.step (h:Gd cx w0 F0 ρ0 fp0 st0 S st tm w F ρ fp) {a1:Act} (hI:Inv cx w F ρ fp st a1 keep n st' a' w') :
    ∃ F' ρ' fp',Gd cx w0 F0 ρ0 fp0 st0 S st' (regs a') w' F' ρ' fp'∧(∀ b ∈ S,w'.heap[b]? = w.heap[b]?)∧n≤a'.tmps.size∧Ext w F ρ fp [] (exB st) w' F' ρ' fp' []∧ShpLe st st'∧a'.defers=a1.defers∧∀ s ∈ keep,regs a' s=regs a1 s:=by
  obtain ⟨F',ρ',fp',hR,hE,hS,hn,hd,hk⟩:=hI
  obtain ⟨h1,h2⟩:=h.to hR hE hS
  exact ⟨F',ρ',fp',h1,h2,hn,hE,hS,hd,hk⟩
theorem Gd.off (h:Gd cx w0 F0 ρ0 fp0 st0 S st tm w F ρ fp) (hk:∀ b,b < w.heap.size→b ∉ S→w'.heap[b]? = w.heap[b]?) (hs:w.heap.size≤w'.heap.size) (he:Env w w'):Gd cx w0 F0 ρ0 fp0 st0 S st tm w' F ρ fp :=
  ⟨h.rel.off h.out h.nd hk hs,h.ext.off h.new hk hs he,h.shp,fun b hb=>let ⟨x,y,z⟩:=h.out b hb;⟨by omega,y,z⟩,h.nd,h.new⟩
theorem Gd.put1 (h:Gd cx w0 F0 ρ0 fp0 st0 S st tm w F ρ fp) {b:Nat} (hb:b ∈ S) (o:Obj):Gd cx w0 F0 ρ0 fp0 st0 S st tm (w.putObj b o) F ρ fp :=
  h.off (fun k _ hk=>World.putObj_heap_other (fun e=>hk (e ▸ hb))) (by simp) ⟨rfl,rfl,rfl⟩
theorem Gd.alloc (h:Gd cx w0 F0 ρ0 fp0 st0 S st tm w F ρ fp) (o:Obj):Gd cx w0 F0 ρ0 fp0 st0 (w.heap.size::S) st tm (w.alloc o) F ρ fp:=by
  have hk:∀ b,b < w.heap.size→b ∉ S→(w.alloc o).heap[b]? = w.heap[b]?:=fun b hb _=>by
    show (w.heap.push o)[b]? = _
    rw [Array.getElem?_push_lt hb];simp [hb]
  have h1:=h.off hk (by simp) ⟨rfl,rfl,rfl⟩
  refine ⟨h1.rel,h1.ext,h1.shp,fun b hb=>?_,?_,fun b hb=>?_⟩
  · rcases List.mem_cons.1 hb with rfl | hb
    · refine ⟨by simp,fun hF=>?_,fun r hr=>?_⟩
      · exact absurd (h.rel.Flt _ hF) (by omega)
      · exact absurd (h.rel.lt r _ hr) (by omega)
    · exact h1.out b hb
  · exact List.nodup_cons.2 ⟨fun hb=>absurd (h.out _ hb).1 (by omega),h.nd⟩
  · rcases List.mem_cons.1 hb with rfl | hb
    · exact h.ext.size
    · exact h.new b hb
theorem Gd.sub (h:Gd cx w0 F0 ρ0 fp0 st0 S st tm w F ρ fp) (hs:S'.Sublist S):Gd cx w0 F0 ρ0 fp0 st0 S' st tm w F ρ fp :=
  ⟨h.rel,h.ext,h.shp,fun b hb=>h.out b (hs.mem hb),hs.nodup h.nd,fun b hb=>h.new b (hs.mem hb)⟩
theorem pureT_get {T:Tm} (h:pureT T=true) (s:Nat):pureV (tget T s)=true:=by
  induction T with
  | nil=>rfl
  | cons p r ih =>
    unfold pureT at h
    simp only [List.all_cons,Bool.and_eq_true] at h
    simp only [tget]
    split
    · exact h.1
    · exact ih h.2
structure Mv (w:World) (F:Nat→Prop) (ρ:Rho) (st:St) (w':World) (F':Nat→Prop) (ρ':Rho) (st':St):Prop where
  frz:∀ b,F b→w'.heap[b]? = w.heap[b]?
  Fm:∀ b,F b→F' b
  rho:∀ l k,exB st l k→ρ' l k=ρ l k
  shp:ShpLe st st'
theorem Mv.trans {w2:World} {F2:Nat→Prop} {ρ2:Rho} {st2:St} (h:Mv w F ρ st w' F' ρ' st') (k:Mv w' F' ρ' st' w2 F2 ρ2 st2):Mv w F ρ st w2 F2 ρ2 st2 :=
  ⟨fun b hb=>(k.frz b (h.Fm b hb)).trans (h.frz b hb),fun b hb=>k.Fm b (h.Fm b hb),fun l q hq=>(k.rho l q (h.shp.box hq)).trans (h.rho l q hq),h.shp.trans k.shp⟩
theorem Mv.of_ext (h:Rel cx w F ρ fp [] st tm) (hE:Ext w F ρ fp [] (exB st) w' F' ρ' fp' []) (hS:ShpLe st st'):Mv w F ρ st w' F' ρ' st' :=
  ⟨fun b hb=>hE.keep b (h.Flt b hb) (fun r hr=>h.notF r b hr hb) (by simp),hE.Fm,hE.rho,hS⟩
theorem Mv.put {b:Nat} (hb:¬ F b) (o:Obj):Mv w F ρ st (w.putObj b o) F ρ st :=
  ⟨fun k hk=>World.putObj_heap_other (fun e=>hb (e ▸ hk)),fun _ h=>h,fun _ _ _=>rfl,.refl _⟩
theorem Rel.back (h0:Rel cx w F ρ fp [] st tm) (hp:pureT st.T=true) (h:Rel cx w' F' ρ' fp' [] st' tm') (hM:Mv w F ρ st w' F' ρ' st') :
    ∃ fp'',Rel cx w' F' ρ' fp'' [] { st' with T:=st.T } tm∧∀ r,∀ b ∈ fp'' r,b ∈ fp' r:=by
  have hsub:∀ r,∀ b ∈ (match r with | .S _=>[] | r=>fp' r:List Nat),b ∈ fp' r:=fun r b hb=>by cases r <;> simp_all
  refine ⟨fun r=>match r with | .S _=>[] | r=>fp' r,⟨fun s=>?_,fun l k cs hb=>?_,fun l k hb=>h.nobox l k hb,fun r=>?_,fun r r' hr b hb hb'=>h.disj r r' hr b (hsub r b hb) (hsub r' b hb'),fun r b hb=>h.notF r b (hsub r b hb),
    fun r b hb=>h.lt r b (hsub r b hb),h.Flt,h.xnodup,fun r b hb=>h.xdisj r b (hsub r b hb),h.xF,h.xlt⟩,hsub⟩
  · have hs:=h0.slots s
    have hv:=pureT_get hp s
    simp only at hs ⊢
    generalize tget st.T s=x at hs hv
    generalize fp (.S s)=f at hs
    cases x <;> simp only [pureV,Bool.false_eq_true] at hv
    · rcases hs with ⟨hs,-⟩ | hs
      · exact hs.elim
      · right
        have:=RDs.frame (F':=F') (w':=w') hs (fun b hb=>?_) hM.frz hM.Fm
        · cases this with
          | sc h t=>cases t;exact .sc h .nil
        · cases hs with
          | sc h t=>cases t;cases hb
    · rcases hs with ⟨hs,-⟩ | hs
      · exact hs.elim
      · right
        have hf:=(RDs.lst_inv hs).1
        subst hf
        exact RDs.frame hs (by simp) hM.frz hM.Fm
    · rename_i l k c
      rcases hs with ⟨hs,-⟩ | hs
      · refine .inl ⟨⟨?_,?_⟩,rfl⟩
        · rw [hM.rho l k hs.2];exact hs.1
        · exact hM.shp.box hs.2
      · cases hs
    · rfl
  · obtain ⟨C,ty,f,h1,h2,h3⟩:=h.boxes l k cs hb
    exact ⟨C,ty,f,h1,h2,h3.mono fun x v f _ hx _=>by
      rcases hx with ⟨hx,hl,hm,hf⟩ | hx
      · refine .inl ⟨?_,hl,hm,hf⟩
        cases x <;> simp at hm <;> exact hx
      · exact .inr hx⟩
  · cases r with
    | S s=>exact .nil
    | B l k=>exact h.nodup _
theorem Gd.back (h0:Rel cx w F ρ fp [] st tm) (hp:pureT st.T=true) (h:Gd cx w0 F0 ρ0 fp0 st0 S st' tm' w' F' ρ' fp') (hM:Mv w F ρ st w' F' ρ' st') :
    ∃ fp'',Gd cx w0 F0 ρ0 fp0 st0 S { st' with T:=st.T } tm w' F' ρ' fp'':=by
  obtain ⟨fp'',h1,h2⟩:=h0.back hp h.rel hM
  exact ⟨fp'',h1,⟨h.ext.size,h.ext.keep,fun r b hb=>h.ext.fpn r b (h2 r b hb),h.ext.xn,h.ext.Fm,h.ext.Fn,h.ext.rho,h.ext.env⟩,⟨h.shp.M,h.shp.loc⟩,fun b hb=>let ⟨x,y,z⟩:=h.out b hb;⟨x,y,fun r hr=>z r (h2 r b hr)⟩,h.nd,h.new⟩
def mark (D:Nat):Deferred:={ target:=.collected D,args:=#[] }
def InvM (cx:Cx) (w0:World) (F0:Nat→Prop) (ρ0:Rho) (fp0:Fp) (st0:St) (a0:Act) (keep:List Nat) (n:Nat) (st:St) (a:Act) (w:World):Prop :=
  ∃ S F ρ fp,Gd cx w0 F0 ρ0 fp0 st0 S st (regs a) w F ρ fp∧n≤a.tmps.size∧a.defers=S.map mark++a0.defers∧(∀ s ∈ keep,regs a s=regs a0 s)∧∀ D ∈ S,w.heap[D]? = some (.deferred (some []))
def PostM (cx:Cx) (w0:World) (F0:Nat→Prop) (ρ0:Rho) (fp0:Fp) (st0:St) (a0:Act) (keep:List Nat) (n:Nat) (ex:Ex) (st':St):Exit→Act→World→Prop :=
  fun e a w=>e=exOf ex∧InvM cx w0 F0 ρ0 fp0 st0 a0 keep n st' a w
theorem InvM.start (hR:Rel cx w F ρ fp [] st (regs a)) (hn:n≤a.tmps.size):InvM cx w F ρ fp st a keep n st a w :=
  ⟨[],F,ρ,fp,⟨hR,.refl ..,.refl _,by simp [Out],.nil,by simp⟩,hn,rfl,fun _ _=>rfl,by simp⟩
theorem InvM.step (h:InvM cx w0 F0 ρ0 fp0 st0 a0 keep n st a w):∃ F ρ fp,Inv cx w F ρ fp st a keep n st a w∧∀ st' a' w',Inv cx w F ρ fp st a keep n st' a' w'→InvM cx w0 F0 ρ0 fp0 st0 a0 keep n st' a' w':=by
  obtain ⟨S,F,ρ,fp,hG,hn,hd,hk,hD⟩:=h
  refine ⟨F,ρ,fp,hG.self hn,fun st' a' w' hI=>?_⟩
  obtain ⟨F',ρ',fp',h1,h2,h3,-,-,h4,h5⟩:=hG.step hI
  exact ⟨S,F',ρ',fp',h1,h3,h4.trans hd,fun s hs=>(h5 s hs).trans (hk s hs),fun D hD'=>(h2 D hD').trans (hD D hD')⟩
theorem exec_M (hcf:CallOK cx cf) (hm:cx.P.follows .mixedOrders=true) {dp:Nat} {c:Code} {i:IC} (hb:bCode cx n keep c i=true) {fuel:Nat} {ex:Ex}
    (hev:exec cf fuel i st=some (ex,st')) (hI:InvM cx w0 F0 ρ0 fp0 st0 a0 keep n st a w):c.wpIn (FR none) dp cx.P (PostM cx w0 F0 ρ0 fp0 st0 a0 keep n ex st') a w:=by
  obtain ⟨F,ρ,fp,h1,h2⟩:=hI.step
  exact wpIn_mono (exec_soundI hcf hm (.inl rfl) hb hev h1) fun e a w ⟨he,hq⟩=>⟨he,h2 _ _ _ hq⟩
end
end Go.Idl
namespace Go.Idl
open Go
def BkIter (P:Program) (g:Nat):Prop:=∀ (m l B:Nat) (ad:Option Addr) (cap:Nat) (vs:List Int) (J:Nat→World→Prop) (Jx:World→Prop),vs.length < 2 ^ 40 →
  (∀ k W,J k W→W.cell? ⟨B,0,none⟩=some (.slice ad vs.length cap)∧∀ (i:Nat) (v:Int),vs[i]? = some v→∃ b o,ad=some ⟨b,o,none⟩∧W.cell? ⟨b,o+i,none⟩=some (iv v)) →
  (∀ m (k:Nat) (v:Int) W,J k W→vs.reverse[k]? = some v→YieldAt (FR none) m P l #[iv ((vs.length - 1 - k:Nat):Int),iv v] W fun e W'=>(e=.returned (.bool true)∧J (k+1) W') ∨ (e=.returned (.bool false)∧Jx W')) →
  ∀ W,J 0 W→CallsIn (FR none) m P g #[.func (.yield l) #[] #[],.pointer (some ⟨B,0,none⟩)] W fun e W'=>(∃ v,e=.returned v)∧(J vs.length W' ∨ Jx W')
def BkOK (cx:Cx) (f:Lab):Prop:=∃ g ty,EnterOK cx.P (cx.fid f)∧EnterOK cx.P g∧BkIter cx.P g ∧
  ∀ ad len cap w,Calls cx.P (cx.fid f) #[.slice ad len cap] w fun e w'=>e=.returned (.func (.func g) #[] #[.pointer (some ⟨w.heap.size,0,none⟩)])∧w'=w.alloc (.cells #[.slice ad len cap] ty)
section
variable {cx:Cx} {w0:World} {F0:Nat→Prop} {ρ0:Rho} {fp0:Fp} {st0:St} {a0:Act} {keep:List Nat} {n:Nat} {cf:CF}
variable {w w':World} {F F':Nat→Prop} {ρ ρ':Rho} {fp fp':Fp} {st st':St} {a a':Act} {S S':List Nat} {tm tm':Nat→Value}
theorem round_sound (hcf:CallOK cx cf) (hm:cx.P.follows .mixedOrders=true) {dp fuel L fn:Nat} {asg body:IC} {asgC bodyC:Code} {T:Tm} {p q:Nat} {i x:Int} {s1 s2:St} {ex:Ex} {rec:LoopState→Option Code→Loop}
    (hba:bCode cx n [] asgC asg=true) (hbb:bCode cx n [] bodyC body=true) (hnda:ndC asgC=true) (hndb:ndC bodyC=true) (hp:p < n) (hq:q < n)
    (h1:exec cf fuel asg { st with T:=tput (tput T p (.sc (iv i))) q (.sc (iv x)) }=some (.normal,s1)) (h2:exec cf fuel body s1=some (ex,s2)) (hex:ex=.normal ∨ ∃ e,ex=.exit e)
    (hrec:∀ s pe,(rec s pe).state=s) (hrec2:∀ s pe s',({ rec s pe with state:=s' }:Loop)=rec s' pe) (hrec3:∀ s pe s' pe',({ rec s pe with state:=s',pending:=pe' }:Loop)=rec s' pe')
    (hT:st.T=T) (hpT:pureT T=true) (hG:Gd cx w0 F0 ρ0 fp0 st0 (L::S) st (regs a) w F ρ fp) (hn:n≤a.tmps.size) (hL:w.heap[L]? = some (.loop (rec .ready none))) :
    RoundIn (FR none) dp cx.P L fn ((a.tmps.setIfInBounds p (iv i)).setIfInBounds q (iv x)) asgC bodyC w fun e W'=>e=.returned (.bool (ex=.normal))∧∃ F' ρ' fp',Gd cx w0 F0 ρ0 fp0 st0 (L::S) { s2 with T:=T } (regs a) W' F' ρ' fp' ∧
      (∀ b ∈ S,W'.heap[b]? = w.heap[b]?)∧W'.heap[L]? = some (.loop (match ex with | .exit e=>rec .done (some (.exit e)) | _=>rec .ready none)):=by
  refine roundIn_of_wpIn trivial ?_
  have hLS:∀ b ∈ S,b ≠ L:=fun b hb e=>(List.nodup_cons.1 hG.nd).1 (e ▸ hb)
  let ar:Act:={ tmps:=a.tmps,defers:=[] }
  have hI0:Inv cx w F ρ fp st ar [] n st ar w:=⟨F,ρ,fp,hG.rel,.refl ..,.refl _,hn,rfl,fun _ _=>rfl⟩
  have hI1:Inv cx w F ρ fp st ar [] n (putI st (some p) (.sc (iv i))) (ar.put (some p) (iv i)) w :=
    inv_put (f':=[]) (show Rel cx w F ρ fp ([]++[]) st (regs ar) from hG.rel) (.inr (.sc rfl .nil)) (.refl ..) (.refl _) hn rfl (fun _ _=>rfl) (fun e he=>by cases he;exact ⟨hp,by simp⟩)
  have hI2:Inv cx w F ρ fp st ar [] n (putI (putI st (some p) (.sc (iv i))) (some q) (.sc (iv x))) ((ar.put (some p) (iv i)).put (some q) (iv x)) w:=by
    obtain ⟨F1,ρ1,fp1,k1,k2,k3,k4,k5,k6⟩:=hI1
    exact inv_put (f':=[]) (by simpa using k1) (.inr (.sc rfl .nil)) (by simpa using k2) k3 k4 k5 k6 (fun e he=>by cases he;exact ⟨hq,by simp⟩)
  have hst:putI (putI st (some p) (.sc (iv i))) (some q) (.sc (iv x))={ st with T:=tput (tput T p (.sc (iv i))) q (.sc (iv x)) }:=by simp [putI,hT]
  rw [hst] at hI2
  refine wpIn_mono (exec_soundI (r:=some L) hcf hm (.inr hnda) hba h1 hI2) ?_
  rintro e a1 W1 ⟨rfl,hJ1⟩
  obtain ⟨F1,ρ1,fp1,hG1,hs1,hn1,hE1,hS1,-,-⟩:=hG.step hJ1
  have hL1:W1.heap[L]? = some (.loop (rec .ready none)):=(hs1 L (by simp)).trans hL
  have hlt1:L < W1.heap.size:=(Array.getElem?_eq_some_iff.1 hL1).1
  have hb:=run_beginRound (P:=cx.P) hL1 (hrec _ _)
  rw [hrec2] at hb
  refine ⟨_,hb,?_⟩
  have hG2:=hG1.put1 (b:=L) (by simp) (.loop (rec .busy none))
  have hL2:(W1.putObj L (.loop (rec .busy none))).heap[L]? = some (.loop (rec .busy none)):=World.putObj_heap_same hlt1
  have hM1:Mv w F ρ st W1 F1 ρ1 s1:=.of_ext hG.rel hE1 hS1
  have hM2:Mv W1 F1 ρ1 s1 (W1.putObj L (.loop (rec .busy none))) F1 ρ1 s1:=.put (hG1.out L (by simp)).2.1 _
  refine wpIn_mono (exec_soundI (keep:=[]) (n:=n) (r:=some L) hcf hm (.inr hndb) hbb h2 (hG2.self hn1)) ?_
  rintro e2 a2 W3 ⟨rfl,hJ2⟩
  obtain ⟨F3,ρ3,fp3,hG3,hs3,hn3,hE3,hS3,-,-⟩:=hG2.step hJ2
  have hM3:=(hM1.trans hM2).trans (.of_ext hG2.rel hE3 hS3)
  have hL3:W3.heap[L]? = some (.loop (rec .busy none)):=(hs3 L (by simp)).trans hL2
  have hlt3:L < W3.heap.size:=(Array.getElem?_eq_some_iff.1 hL3).1
  obtain ⟨fp4,hG4⟩:=Gd.back hG.rel (by rw [hT];exact hpT) hG3 hM3
  rw [hT] at hG4
  have fin:∀ (jump:Option Code),(Instr.endRound L jump).run cx.P W3=.ok (.bool jump.isNone) (W3.putObj L (.loop (rec (if jump.isNone then .ready else .done) jump))):=fun jump=>by
    have:=run_endRound (P:=cx.P) jump hL3
    rw [hrec3] at this;exact this
  have keepS:∀ (o:Obj),∀ b ∈ S,(W3.putObj L o).heap[b]? = w.heap[b]?:=fun o b hb =>
    (World.putObj_heap_other (hLS b hb)).trans ((hs3 b (by simp [hb])).trans ((World.putObj_heap_other (hLS b hb)).trans (hs1 b (by simp [hb]))))
  rcases hex with rfl | ⟨e,rfl⟩
  · exact ⟨_,_,fin none,rfl,F3,ρ3,fp4,hG4.put1 (by simp) _,keepS _,World.putObj_heap_same hlt3⟩
  · exact ⟨_,_,fin (some (.exit e)),rfl,F3,ρ3,fp4,hG4.put1 (by simp) _,keepS _,World.putObj_heap_same hlt3⟩
theorem zip_two (p q:Nat) (u v:Value) (T:Array Value):((#[p,q]:Array Nat).zip #[u,v]).foldl (fun tmps (t,a)=>tmps.setIfInBounds t a) T=(T.setIfInBounds p u).setIfInBounds q v:=by
  have:(#[p,q]:Array Nat).zip #[u,v]=#[(p,u),(q,v)]:=by rw [← Array.toList_inj];simp
  rw [this];rfl
theorem flatten_one {α β:Type} (f:α→β) (xs:List α):(xs.map fun n=>[f n]).flatten=xs.map f:=by
  induction xs with
  | nil=>rfl
  | cons x xs ih=>simp [ih]
theorem rng_sound (hcf:CallOK cx cf) (hm:cx.P.follows .mixedOrders=true) {dp fuel:Nat} {asg body:IC} {asgC bodyC:Code} {p q:Nat} {x:Opd} {xo gop:Operand} {xs:List Int} {clip:Bool} {g B:Nat} {ty:TypeId} {ex:Ex}
    (hba:bCode cx n [] asgC asg=true) (hbb:bCode cx n [] bodyC body=true) (hnda:ndC asgC=true) (hndb:ndC bodyC=true) (hp:p < n) (hq:q < n)
    (hev:rngGo (exec cf fuel asg) (exec cf fuel body) st.T p q xs.reverse st=some (ex,st')) (hpT:pureT st.T=true) (hx:okOpd cx xo x) (hrd:rd st.T x=.lst 1 (xs.map fun n=>[.sc (iv n)]) clip) (hxl:xs.length < 2 ^ 40)
    (hg:a.eval gop=.func (.func g) #[] #[.pointer (some ⟨B,0,none⟩)]) (hent:EnterOK cx.P g) (hbk:BkIter cx.P g) (hB:B ∈ S) (hBc:w.heap[B]? = some (.cells #[a.eval xo] ty (0,0)))
    (hG:Gd cx w0 F0 ρ0 fp0 st0 S st (regs a) w F ρ fp) (hn:n≤a.tmps.size) :
    (Code.rangeFunc gop #[p,q] asgC bodyC).wpIn (FR none) dp cx.P (fun e a' w'=>e=exOf ex∧∃ D F' ρ' fp',a'={ a with defers:=mark D::a.defers }∧Gd cx w0 F0 ρ0 fp0 st0 (D::S) st' (regs a) w' F' ρ' fp' ∧
      (∀ b ∈ S,w'.heap[b]? = w.heap[b]?)∧w'.heap[D]? = some (.deferred (some []))) a w:=by
  refine wpIn_rangeFunc fun fn _=>?_
  obtain ⟨rec,hrec⟩:∃ rec:LoopState→Option Code→Loop,rec=fun st pe=>{ state:=st,pending:=pe,fn,tmps:=a.tmps,params:=#[p,q],assign:=asgC,body:=bodyC,defers:=w.heap.size }:=⟨_,rfl⟩
  obtain ⟨w1,hw1⟩:∃ w1,w1=(w.alloc (.deferred (some []))).alloc (.loop (rec .ready none)):=⟨_,rfl⟩
  have hG2:Gd cx w0 F0 ρ0 fp0 st0 ((w.heap.size+1)::w.heap.size::S) st (regs a) w1 F ρ fp:=by
    have:=(hG.alloc (.deferred (some []))).alloc (.loop (rec .ready none))
    rw [World.size_alloc,← hw1] at this
    exact this
  have hL1:w1.heap[w.heap.size+1]? = some (.loop (rec .ready none)):=by
    rw [hw1];have:=World.alloc_heap_new (w.alloc (.deferred (some []))) (.loop (rec .ready none));rwa [World.size_alloc] at this
  have halloc:∀ (W:World) (o:Obj) (b:Nat),b < W.heap.size→(W.alloc o).heap[b]? = W.heap[b]?:=fun W o b hb=>by
    show (W.heap.push o)[b]? = _
    rw [Array.getElem?_push_lt hb];simp [hb]
  have hD1:w1.heap[w.heap.size]? = some (.deferred (some [])):=by
    rw [hw1,halloc _ _ _ (by simp)];exact World.alloc_heap_new w _
  have hS1:∀ b ∈ S,w1.heap[b]? = w.heap[b]?:=fun b hb=>by
    have:=(hG.out b hb).1
    rw [hw1,halloc _ _ _ (by simp;omega),halloc _ _ _ this]
  have hv0:=rd_rel hG.rel hx
  rw [hrd] at hv0
  have hlst:∀ {W:World} {Fk:Nat→Prop} {ρk:Rho} {fpk:Fp} {stk:St},Rel cx W Fk ρk fpk [] stk (regs a)→stk.T=st.T→RDs W Fk [.lst 1 (xs.map fun n=>[.sc (iv n)]) clip] [a.eval xo] []:=fun {W Fk ρk fpk stk} hR hT=>by
    have:=rd_rel hR hx
    rw [hT,hrd] at this
    rcases this with ⟨h,-⟩ | h
    · exact h.elim
    · exact h
  obtain ⟨ad,cap,hv⟩:∃ ad cap,a.eval xo=.slice ad xs.length cap:=by
    rcases (RDs.lst_inv (hlst hG.rel rfl)).2 with ⟨h1,a1,c1,h2,-⟩ | ⟨b,o,c1,C,ty',fr,h2,-⟩
    · have:xs=[]:=by simpa using h1
      subst this;exact ⟨a1,c1,h2⟩
    · exact ⟨_,c1,by simpa using h2⟩
  let J:Nat→World→Prop:=fun k W=>∃ stk,rngGo (exec cf fuel asg) (exec cf fuel body) st.T p q (xs.reverse.drop k) stk=some (ex,st')∧stk.T=st.T∧∃ Fk ρk fpk,Gd cx w0 F0 ρ0 fp0 st0 ((w.heap.size+1)::w.heap.size::S) stk (regs a) W Fk ρk fpk ∧
    (∀ b ∈ w.heap.size::S,W.heap[b]? = w1.heap[b]?)∧W.heap[w.heap.size+1]? = some (.loop (rec .ready none))
  let Jx:World→Prop:=fun W=>∃ e,ex=.exit e∧∃ Fk ρk fpk,Gd cx w0 F0 ρ0 fp0 st0 ((w.heap.size+1)::w.heap.size::S) st' (regs a) W Fk ρk fpk ∧
    (∀ b ∈ w.heap.size::S,W.heap[b]? = w1.heap[b]?)∧W.heap[w.heap.size+1]? = some (.loop (rec .done (some (.exit e))))
  refine ⟨w.heap.size+1,[mark w.heap.size],w1,{ target:=.fn (.func g) #[.pointer (some ⟨B,0,none⟩)],args:=#[.func (.yield (w.heap.size+1)) #[] #[]] },w1,g,
    #[.func (.yield (w.heap.size+1)) #[] #[]]++#[.pointer (some ⟨B,0,none⟩)],w1,?_,?_,fun _ _=>trivial,?_,(fun h=>by cases h),?_⟩
  · rw [hw1,hrec];exact run_enterLoop_outer _ _ _ _ _
  · simp only [resolve,hg]
    simp [go_sem]
  · simp [invoke,go_sem,run_enter hent]
  refine (hbk (dp - 1) (w.heap.size+1) B ad cap xs J Jx hxl ?_ ?_ w1 ⟨st,by simpa using hev,rfl,F,ρ,fp,hG2,fun _ _=>rfl,hL1⟩).mono ?_
  · rintro k W ⟨stk,-,hTk,Fk,ρk,fpk,hGk,hsame,-⟩
    refine ⟨?_,fun i u hi=>?_⟩
    · have hb:W.heap[B]? = some (.cells #[a.eval xo] ty (0,0)):=(hsame B (by simp [hB])).trans ((hS1 B hB).trans hBc)
      rw [cell_of hb,← hv];rfl
    · rcases (RDs.lst_inv (hlst hGk.rel hTk)).2 with ⟨h1,-⟩ | ⟨b,o,c1,C,ty',fr,h2,hF,hb,hd,-⟩
      · have:xs=[]:=by simpa using h1
        subst this;simp at hi
      · rw [hv] at h2
        simp only [List.length_map,Value.slice.injEq] at h2
        refine ⟨b,o,h2.1,?_⟩
        rw [flatten_one] at hd
        obtain ⟨u',f1,f,f2,k1,-,k2,-⟩:=hd.at_ (i:=i) (x:=.sc (iv u)) (by simp [hi])
        have hlt:i < (xs.map fun n=>[IV.sc (iv n)]).length * 1:=by
          have:=(List.getElem?_eq_some_iff.1 hi).1;simpa using this
        rw [drop_take_get hlt] at k1
        rw [cell_of hb,k1]
        cases k2;rfl
  · rintro m k u W ⟨stk,hgo,hTk,Fk,ρk,fpk,hGk,hsame,hLk⟩ hku
    obtain ⟨hk,hku'⟩:=List.getElem?_eq_some_iff.1 hku
    have hk':k < xs.length:=by simpa using hk
    rw [List.drop_eq_getElem_cons hk,hku'] at hgo
    simp only [rngGo] at hgo
    have hlen:(xs.reverse.drop (k+1)).length=xs.length - 1 - k:=by simp;omega
    rw [hlen] at hgo
    split at hgo
    rotate_left
    · cases hgo
    rename_i s1 h1
    have hgo':∃ ex2 s2,exec cf fuel body s1=some (ex2,s2)∧((ex2=.normal∧rngGo (exec cf fuel asg) (exec cf fuel body) st.T p q (xs.reverse.drop (k+1)) { s2 with T:=st.T }=some (ex,st')) ∨ ∃ e,ex2=.exit e∧ex=.exit e∧st'={ s2 with T:=st.T }):=by
      split at hgo
      · rename_i s2 h2;exact ⟨_,s2,h2,.inl ⟨rfl,hgo⟩⟩
      · rename_i e s2 h2
        simp only [Option.some.injEq,Prod.mk.injEq] at hgo
        exact ⟨_,s2,h2,.inr ⟨e,rfl,hgo.1.symm,hgo.2.symm⟩⟩
      · cases hgo
    obtain ⟨ex2,s2,h2,hcase⟩:=hgo'
    have hy:=run_yield (P:=cx.P) (args:=#[iv ((xs.length - 1 - k:Nat):Int),iv u]) hLk (by rw [hrec];rfl)
    have hyt:((rec .ready none).params.zip #[iv ((xs.length - 1 - k:Nat):Int),iv u]).foldl (fun tmps (t,a)=>tmps.setIfInBounds t a) (rec .ready none).tmps=(a.tmps.setIfInBounds p (iv ((xs.length - 1 - k:Nat):Int))).setIfInBounds q (iv u):=by
      rw [hrec];exact zip_two ..
    rw [hyt] at hy
    refine ⟨_,_,_,_,hy,?_⟩
    rw [show (rec .ready none).assign=asgC by rw [hrec],show (rec .ready none).body=bodyC by rw [hrec]]
    refine (round_sound (fn:=(rec .ready none).fn) hcf hm hba hbb hnda hndb hp hq h1 h2 (hcase.imp (fun h=>h.1) fun ⟨e,h,_⟩=>⟨e,h⟩) (rec:=rec) (fun _ _=>by rw [hrec]) (fun _ _ _=>by rw [hrec]) (fun _ _ _ _=>by rw [hrec]) hTk hpT hGk hn hLk).mono ?_
    rintro e' W' ⟨rfl,F',ρ',fp',hG',hs',hL'⟩
    have hsame':∀ b ∈ w.heap.size::S,W'.heap[b]? = w1.heap[b]?:=fun b hb=>(hs' b hb).trans (hsame b hb)
    rcases hcase with ⟨rfl,hgo⟩ | ⟨e,rfl,rfl,rfl⟩
    · exact .inl ⟨by simp,_,hgo,rfl,F',ρ',fp',hG',hsame',hL'⟩
    · exact .inr ⟨by simp,e,rfl,F',ρ',fp',hG',hsame',hL'⟩
  · have fin:∀ {W:World} {s:LoopState} {pe:Option Code},W.heap[w.heap.size+1]? = some (.loop (rec s pe))→s ≠ .busy→(Instr.endLoop (w.heap.size+1)).run cx.P W=.ok pe (W.putObj (w.heap.size+1) (.loop (rec .exhausted pe))):=fun {W s pe} hl hs=>by
      have:=run_endLoop (P:=cx.P) hl (by rw [hrec];exact hs)
      rw [hrec] at this ⊢;exact this
    have hDS:∀ (W:World) (o:Obj),(∀ b ∈ w.heap.size::S,W.heap[b]? = w1.heap[b]?)→(∀ b ∈ S,(W.putObj (w.heap.size+1) o).heap[b]? = w.heap[b]?)∧(W.putObj (w.heap.size+1) o).heap[w.heap.size]? = some (.deferred (some [])):=fun W o h=>by
      refine ⟨fun b hb=>?_,?_⟩
      · have:=(hG.out b hb).1
        rw [World.putObj_heap_other (by omega),h b (by simp [hb]),hS1 b hb]
      · rw [World.putObj_heap_other (by omega),h _ (by simp),hD1]
    rintro e W2 ⟨⟨v,rfl⟩,⟨stk,hgo,hTk,Fk,ρk,fpk,hGk,hsame,hLk⟩ | ⟨e,rfl,Fk,ρk,fpk,hGk,hsame,hLk⟩⟩
    · rw [List.drop_of_length_le (by simp)] at hgo
      simp only [rngGo,Option.some.injEq,Prod.mk.injEq] at hgo
      obtain ⟨rfl,rfl⟩:=hgo
      have hst:({ stk with T:=st.T }:St)=stk:=by rw [← hTk]
      rw [hst]
      obtain ⟨k1,k2⟩:=hDS W2 (.loop (rec .exhausted none)) hsame
      exact ⟨none,_,fin hLk (by simp),rfl,w.heap.size,Fk,ρk,fpk,rfl,(hGk.put1 (by simp) _).sub (List.sublist_cons_self _ _),k1,k2⟩
    · obtain ⟨k1,k2⟩:=hDS W2 (.loop (rec .exhausted (some (.exit e)))) hsame
      exact ⟨some (.exit e),_,fin hLk (by simp),wpIn_exit ⟨rfl,w.heap.size,Fk,ρk,fpk,rfl,(hGk.put1 (by simp) _).sub (List.sublist_cons_self _ _),k1,k2⟩⟩
end
end Go.Idl
namespace Go.Idl
open Go
theorem intsOf_spec:∀ {es:List (List IV)} {xs:List Int},intsOf es=some xs→es=xs.map fun n=>[.sc (iv n)]:=by
  intro es
  induction es with
  | nil=>intro xs h;simp only [intsOf,Option.some.injEq] at h;subst h;rfl
  | cons e r ih =>
    intro xs h
    unfold intsOf at h
    split at h
    · rename_i h0;cases h0
    · rename_i n r' h0
      cases h0
      split at h
      · rename_i ys hy
        simp only [Option.some.injEq] at h
        subst h
        rw [ih hy];rfl
      · cases h
    · cases h
def isTmp:Operand→Nat→Bool
  | .tmp t,g=>t == g
  | _,_=>false
def otherT:Opd→Nat→Bool
  | .t s,g=>s != g
  | _,_=>true
def bRng (cx:Cx) (n:Nat) (keep:List Nat) (iops:List IOp) (f:Lab) (x:Opd) (g bid p q:Nat) (ca cb:Code→Bool):Code→Code→Bool
  | .region _ ops false,.block bid' (.rangeFunc go ps asgC bodyC)=>bOps cx ops n keep (ops.toList.take iops.length) iops && ops.size == iops.length+1 && (match ops[iops.length]? with
    | some o=>o.guard.isNone && (match o.dst with | some d=>d == g | none=>false) && decide (g < n) && !keep.contains g && (match o.op with
      | .call c=>(match c.callee with | .value (.func k)=>cx.fid f == k | _=>false) && (match c.args.toList with | [y]=>bOpd cx y x | _=>false)
      | _=>false)
    | none=>false) && bid' == bid && isTmp go g && decide (ps.toList=[p,q]) && decide (p < n) && decide (q < n) && ndC asgC && ndC bodyC && otherT x g && ca asgC && cb bodyC
  | _,_=>false
section
variable {cx:Cx} {w0:World} {F0:Nat→Prop} {ρ0:Rho} {fp0:Fp} {st0:St} {a0:Act} {keep:List Nat} {n:Nat} {cf:CF}
variable {w w':World} {F F':Nat→Prop} {ρ ρ':Rho} {fp fp':Fp} {st st':St} {a a':Act} {S S':List Nat} {tm tm':Nat→Value}
theorem eval_put_ne {y:Operand} {x:Opd} {g:Nat} {v:Value} (h:okOpd cx y x) (hx:otherT x g=true):(a.put (some g) v).eval y=a.eval y:=by
  cases y <;> cases x <;> simp only [okOpd] at h
  · subst h
    rename_i t
    have hne:g ≠ t:=fun e=>by simp [otherT,e] at hx
    simp [Act.put,Act.eval,Array.getD_eq_getD_getElem?,Array.getElem?_setIfInBounds_ne hne]
  · rfl
  · rfl
theorem rngb_sound (hcf:CallOK cx cf) (hm:cx.P.follows .mixedOrders=true) {dp fuel:Nat} {iops:List IOp} {f:Lab} {x:Opd} {g bid p q:Nat} {live:List Nat} {asg body:IC} {ca cb:Code→Bool} {cR cB:Code} {ex:Ex}
    (hca:∀ c,ca c=true→bCode cx n [] c asg=true) (hcb:∀ c,cb c=true→bCode cx n [] c body=true)
    (hb:bRng cx n keep iops f x g bid p q ca cb cR cB=true) (hbk:BkOK cx f) (hev:rngStep cf st iops x g live bid p q (exec cf fuel asg) (exec cf fuel body)=some (ex,st'))
    (hI:InvM cx w0 F0 ρ0 fp0 st0 a0 keep n st a w):(Code.seq cR cB).wpIn (FR none) dp cx.P (PostM cx w0 F0 ρ0 fp0 st0 a0 keep n ex st') a w:=by
  unfold bRng at hb
  split at hb
  rotate_left
  · cases hb
  rename_i id ops bid' go ps asgC bodyC
  simp only [Bool.and_eq_true,beq_iff_eq,decide_eq_true_eq] at hb
  obtain ⟨⟨⟨⟨⟨⟨⟨⟨⟨⟨⟨⟨hops,hsz⟩,hb⟩,hbid⟩,hgo⟩,hps⟩,hp⟩,hq⟩,hnda⟩,hndb⟩,hxg⟩,hba⟩,hbb⟩:=hb
  subst hbid
  split at hb
  rotate_left
  · cases hb
  rename_i o ho
  simp only [Bool.and_eq_true,decide_eq_true_eq,Bool.not_eq_true',Option.isNone_iff_eq_none] at hb
  obtain ⟨⟨⟨⟨hgd,hd⟩,hgn⟩,hgk⟩,hop⟩:=hb
  split at hd
  rotate_left
  · cases hd
  rename_i d hdst
  have hdt:d=g:=eq_of_beq hd
  subst hdt
  split at hop
  rotate_left
  · cases hop
  rename_i c hopc
  simp only [Bool.and_eq_true] at hop
  obtain ⟨hcal,hargs⟩:=hop
  split at hcal
  rotate_left
  · cases hcal
  rename_i k hck0
  have hk0:cx.fid f=k:=eq_of_beq hcal
  split at hargs
  rotate_left
  · cases hargs
  rename_i y hy
  have hyx:=bOpd_ok hargs
  have hgo':go=.tmp d:=by
    cases go <;> simp [isTmp] at hgo
    rw [hgo]
  subst hgo'
  have hps':ps=#[p,q]:=by rw [← Array.toList_inj,hps]
  subst hps'
  obtain ⟨hlen,hck⟩:=bOps_spec hops
  have hck':∀ (i:Nat) (o:Oper) (x:IOp),ops[i]? = some o→iops[i]? = some x→bIOp cx ops n keep o x=true:=fun i o x ho hx=>by
    have hi:i < iops.length:=(List.getElem?_eq_some_iff.1 hx).1
    exact hck i o x (by rw [List.getElem?_take_of_lt hi];simpa using ho) hx
  unfold rngStep at hev
  split at hev
  rotate_left
  · cases hev
  rename_i s0 h0
  simp only at hev
  split at hev
  rotate_left
  · cases hev
  rename_i es clip hrd
  split at hev
  rotate_left
  · cases hev
  rename_i xs hxs
  split at hev
  rotate_left
  · cases hev
  rename_i hcond
  obtain ⟨hpT,hxl⟩:=hcond
  rw [intsOf_spec hxs] at hrd
  obtain ⟨gi,ty,hent,hentg,hiter,hcall⟩:=hbk
  obtain ⟨S,F,ρ,fp,hG,hn,hdf,hkp,hD⟩:=hI
  refine wpIn_seq (wpIn_fixedY (.inl rfl) (cls:=clsOf iops) (K:=fun a w=>(Code.block bid' (.rangeFunc (.tmp d) #[p,q] asgC bodyC)).wpIn (FR none) dp cx.P (PostM cx w0 F0 ρ0 fp0 st0 a0 keep n ex st') a w) (fun a w h=>h) ?_)
  rw [hsz,List.range_succ]
  refine wpY_app (K2:=Inv cx w F ρ fp st a keep n s0) (fun a1 w1 hI1=>?_) (ops_Y hcf hck' (by omega) (fun i hi=>List.mem_range.1 hi) (hG.self hn) (by rw [inOrder_range];exact h0))
  refine ⟨o,ho,?_⟩
  have hcls:clsOf iops iops.length=.oth:=by simp [clsOf]
  rw [hcls]
  simp only
  have hw:Region.wanted o (yielded ops a1.tmps)=true:=by simp [Region.wanted,hgd]
  have hrun:=run_call (a:=a1) (cvs:=[]) (hk0 ▸ hent) hopc hck0 rfl w1
  rw [hy] at hrun
  unfold wpOp
  simp only [ho,hw,if_true]
  left
  unfold Oper.wp
  rw [hrun,Oper.upon_enter,← hk0]
  obtain ⟨F1,ρ1,fp1,hG1,hs1,hn1,-,-,hd1,hk1⟩:=hG.step hI1
  obtain ⟨ad0,len0,cap0,hsl⟩:∃ ad len cap,a1.eval y=.slice ad len cap:=by
    have hIp:=inv_cut (inv_put (cx:=cx) (w0:=w1) (F0:=F1) (ρ0:=ρ1) (fp0:=fp1) (st0:=s0) (a0:=a1) (keep:=keep) (n:=n) (d:=some d) (f':=[]) (v':=undef) (v:=.un)
      (show Rel cx _ F1 ρ1 fp1 ([]++[]) s0 (regs a1) from hG1.rel) rfl (.refl ..) (.refl _) hn1 rfl (fun _ _=>rfl) (fun e he=>by cases he;exact ⟨hgn,by simpa using hgk⟩)) live
    obtain ⟨Fp,ρp,fpp,hRp,-⟩:=hIp
    have hr:=rd_rel hRp hyx
    rw [show putI s0 (some d) .un={ s0 with T:=tput s0.T d .un } from rfl,hrd,eval_put_ne hyx hxg] at hr
    rcases hr with ⟨hr,-⟩ | hr
    · exact hr.elim
    · rcases (RDs.lst_inv hr).2 with ⟨-,b1,c1,h,-⟩ | ⟨b1,o1,c1,C,ty',fr,h,-⟩
      · exact ⟨_,_,_,h⟩
      · exact ⟨_,_,_,h⟩
  have hcall0:=hcall ad0 len0 cap0 w1
  rw [← hsl] at hcall0
  refine Calls.mono hcall0 ?_
  rintro e w2 ⟨rfl,rfl⟩
  simp only [wpY,hdst]
  have hGa:=hG1.alloc (.cells #[a1.eval y] ty)
  have hIa:=inv_put (cx:=cx) (w0:=w1.alloc (.cells #[a1.eval y] ty)) (F0:=F1) (ρ0:=ρ1) (fp0:=fp1) (st0:=s0) (a0:=a1) (keep:=keep) (n:=n) (d:=some d) (f':=[]) (v':=.func (.func gi) #[] #[.pointer (some ⟨w1.heap.size,0,none⟩)]) (v:=.un)
    (show Rel cx _ F1 ρ1 fp1 ([]++[]) s0 (regs a1) from hGa.rel) rfl (.refl ..) (.refl _) hn1 rfl (fun _ _=>rfl) (fun e he=>by cases he;exact ⟨hgn,by simpa using hgk⟩)
  have hIb:=inv_cut hIa live
  obtain ⟨F2,ρ2,fp2,hG2,hs2,hn2,-,-,hd2,hk2⟩:=hGa.step hIb
  have hBnew:(w1.alloc (.cells #[a1.eval y] ty)).heap[w1.heap.size]? = some (.cells #[a1.eval y] ty (0,0)):=World.alloc_heap_new _ _
  have hSame:∀ b ∈ S,(w1.alloc (.cells #[a1.eval y] ty)).heap[b]? = w.heap[b]?:=fun b hb=>by
    have hlt:=(hG1.out b hb).1
    refine Eq.trans ?_ (hs1 b hb)
    show (w1.heap.push _)[b]? = _
    rw [Array.getElem?_push_lt hlt];simp [hlt]
  have hput:putI s0 (some d) .un={ s0 with T:=tput s0.T d .un }:=rfl
  rw [hput] at hG2
  have hgv:(a1.put (some d) (.func (.func gi) #[] #[.pointer (some ⟨w1.heap.size,0,none⟩)])).eval (.tmp d)=.func (.func gi) #[] #[.pointer (some ⟨w1.heap.size,0,none⟩)]:=by
    have:d < a1.tmps.size:=Nat.lt_of_lt_of_le hgn hn1
    simp [Act.put,Act.eval,this]
  obtain ⟨ex1,hgoX,hex1⟩:∃ ex1,rngGo (exec cf fuel asg) (exec cf fuel body) ({ s0 with T:=tput s0.T d .un }.cut live:St).T p q xs.reverse ({ s0 with T:=tput s0.T d .un }.cut live)=some (ex1,st')∧Exit.inBlock bid' (fun e _ _=>e=exOf ex) (exOf ex1) a w∧(ex1=.normal ∨ ∃ e,ex1=.exit e):=by
    have hnr:∀ (l:List Int) (s:St) (e1:Ex) (s2:St),rngGo (exec cf fuel asg) (exec cf fuel body) ({ s0 with T:=tput s0.T d .un }.cut live:St).T p q l s=some (e1,s2)→e1=.normal ∨ ∃ e,e1=.exit e:=by
      intro l
      induction l with
      | nil=>intro s e1 s2 h;simp only [rngGo,Option.some.injEq,Prod.mk.injEq] at h;exact .inl h.1.symm
      | cons x r ih =>
        intro s e1 s2 h
        simp only [rngGo] at h
        split at h
        · split at h
          · exact ih _ _ _ h
          · simp only [Option.some.injEq,Prod.mk.injEq] at h;exact .inr ⟨_,h.1.symm⟩
          · cases h
        · cases h
    cases hgg:rngGo (exec cf fuel asg) (exec cf fuel body) ({ s0 with T:=tput s0.T d .un }.cut live:St).T p q xs.reverse ({ s0 with T:=tput s0.T d .un }.cut live) with
    | none=>rw [hgg] at hev;cases hev
    | some pr =>
      obtain ⟨e1,s2⟩:=pr
      rw [hgg] at hev
      rcases hnr _ _ _ _ hgg with rfl | ⟨e,rfl⟩
      · simp only [Option.some.injEq,Prod.mk.injEq] at hev
        obtain ⟨rfl,rfl⟩:=hev
        exact ⟨_,rfl,rfl,.inl rfl⟩
      · simp only [Option.some.injEq,Prod.mk.injEq] at hev
        obtain ⟨rfl,rfl⟩:=hev
        refine ⟨_,rfl,?_,.inr ⟨e,rfl⟩⟩
        by_cases he:e=bid'
        · simp [he,exOf,Exit.inBlock]
        · simp [he,exOf,Exit.inBlock]
  refine wpIn_block (wpIn_mono (rng_sound (a:=a1.put (some d) (.func (.func gi) #[] #[.pointer (some ⟨w1.heap.size,0,none⟩)])) hcf hm (hca _ hba) (hcb _ hbb) hnda hndb hp hq hgoX hpT hyx hrd hxl hgv hentg hiter (by simp)
    (ty:=ty) (by rw [eval_put_ne hyx hxg];exact hBnew) hG2 hn2) ?_)
  rintro e a3 w3 ⟨rfl,D,F3,ρ3,fp3,rfl,hG3,hs3,hD3⟩
  have hM:InvM cx w0 F0 ρ0 fp0 st0 a0 keep n st' { a1.put (some d) (.func (.func gi) #[] #[.pointer (some ⟨w1.heap.size,0,none⟩)]) with defers:=mark D::(a1.put (some d) (.func (.func gi) #[] #[.pointer (some ⟨w1.heap.size,0,none⟩)])).defers } w3:=by
    refine ⟨D::S,F3,ρ3,fp3,hG3.sub ((List.sublist_cons_self _ S).cons_cons D),hn2,?_,fun s hs=>?_,fun D' hD'=>?_⟩
    · show mark D::(a1.put (some d) _).defers=_
      rw [hd2,hd1,hdf];rfl
    · exact (hk2 s hs).trans ((hk1 s hs).trans (hkp s hs))
    · rcases List.mem_cons.1 hD' with rfl | hD'
      · exact hD3
      · exact (hs3 D' (by simp [hD'])).trans ((hSame D' hD').trans (hD D' hD'))
  obtain ⟨hex2,hex3⟩:=hex1
  rcases hex3 with rfl | ⟨e,rfl⟩
  · exact ⟨hex2,hM⟩
  · simp only [exOf,Exit.inBlock] at hex2 ⊢
    split
    · rename_i he;simp only [he,if_true] at hex2;exact ⟨hex2,hM⟩
    · rename_i he;simp only [he,if_false] at hex2;exact ⟨hex2,hM⟩
end
end Go.Idl
namespace Go.Idl
open Go
def bCode2 (cx:Cx) (n:Nat) (keep:List Nat):IC→Code→Bool
  | i,.scope c=>bCodeI cx n keep i (.scope c) || bCode2 cx n keep i c
  | .seq x y,.seq a b=>bCodeI cx n keep (.seq x y) (.seq a b) || (bCode2 cx n keep x a && bCode2 cx n keep y b)
  | .rngb iops f x g _ bid p q asg body,.seq a b=>cx.bks.contains f && bRng cx n keep iops f x g bid p q (bCodeI cx n [] asg) (bCodeI cx n [] body) a b
  | .cond d x y,.cond c a b=>bCodeI cx n keep (.cond d x y) (.cond c a b) || (bOpd cx c d && bCode2 cx n keep x a && bCode2 cx n keep y b)
  | .block id' b',.block id b=>bCodeI cx n keep (.block id' b') (.block id b) || (id == id' && bCode2 cx n keep b' b)
  | .loop b',.loop b=>bCodeI cx n keep (.loop b') (.loop b) || bCode2 cx n keep b' b
  | i,c=>bCodeI cx n keep i c
def BksOK (cx:Cx):Prop:=∀ f ∈ cx.bks,BkOK cx f
section
variable {cx:Cx} {w0:World} {F0:Nat→Prop} {ρ0:Rho} {fp0:Fp} {st0:St} {a0:Act} {keep:List Nat} {n:Nat} {cf:CF}
variable {w:World} {st st':St} {a:Act}
theorem evalM_bool (hI:InvM cx w0 F0 ρ0 fp0 st0 a0 keep n st a w) {o:Operand} {x:Opd} (ho:okOpd cx o x) {t:Bool} (h:rd st.T x=.sc (.bool t)):a.eval o=.bool t:=by
  obtain ⟨F,ρ,fp,h1,-⟩:=hI.step
  exact eval_bool h1 ho h
theorem exec_sound2 (hcf:CallOK cx cf) (hm:cx.P.follows .mixedOrders=true) (hbk:BksOK cx) {dp:Nat}:∀ (N:Nat) (c:Code),SizeOf.sizeOf c < N→∀ {i:IC},bCode2 cx n keep i c=true→∀ {fuel:Nat} {st:St} {ex:Ex} {st':St} {a:Act} {w:World},
    exec cf fuel i st=some (ex,st')→InvM cx w0 F0 ρ0 fp0 st0 a0 keep n st a w→c.wpIn (FR none) dp cx.P (PostM cx w0 F0 ρ0 fp0 st0 a0 keep n ex st') a w:=by
  intro N
  induction N with
  | zero=>intro c hN;omega
  | succ N ihN =>
  intro c hN i hb fuel st ex st' a w hev hI
  unfold bCode2 at hb
  split at hb
  ·
    rename_i c
    rcases Bool.or_eq_true_iff.1 hb with hb | hb
    · exact exec_M hcf hm hb hev hI
    · refine wpIn_scope_straight (wpIn_mono (ihN c (by simp at hN;omega) hb hev hI) ?_)
      rintro e a w ⟨rfl,h⟩
      cases ex <;> exact ⟨rfl,h⟩
  ·
    rename_i x' y' x y
    rcases Bool.or_eq_true_iff.1 hb with hb | hb
    · exact exec_M hcf hm hb hev hI
    · obtain ⟨hb1,hb2⟩:=and_nd hb
      simp only [exec] at hev
      cases h1:exec cf fuel x' st with
      | none=>simp [h1] at hev
      | some p =>
      obtain ⟨ex1,st1⟩:=p
      simp only [h1] at hev
      refine wpIn_seq (wpIn_mono (ihN x (by simp at hN;omega) hb1 h1 hI) ?_)
      rintro e a1 w1 ⟨rfl,hI1⟩
      cases ex1 with
      | normal=>exact ihN y (by simp at hN;omega) hb2 hev hI1
      | exit id=>simp only [Option.some.injEq,Prod.mk.injEq] at hev;obtain ⟨rfl,rfl⟩:=hev;exact ⟨rfl,hI1⟩
      | ret=>simp only [Option.some.injEq,Prod.mk.injEq] at hev;obtain ⟨rfl,rfl⟩:=hev;exact ⟨rfl,hI1⟩
  ·
    rename_i iops f x g live bid p q asg body ca cb
    obtain ⟨hb1,hb2⟩:=and_nd hb
    simp only [exec] at hev
    exact rngb_sound hcf hm (fun _ h=>h) (fun _ h=>h) hb2 (hbk f (by simpa using hb1)) hev hI
  ·
    rename_i d x' y' c x y
    rcases Bool.or_eq_true_iff.1 hb with hb | hb
    · exact exec_M hcf hm hb hev hI
    · obtain ⟨hb1,hb2⟩:=and_nd hb
      obtain ⟨hb0,hb1⟩:=and_nd hb1
      simp only [exec] at hev
      split at hev
      rotate_left
      · cases hev
      rename_i t ht
      have hc:=evalM_bool hI (bOpd_ok hb0) ht
      refine wpIn_cond_split hc (fun h=>?_) (fun h=>?_)
      · subst h;simp only [if_true] at hev;exact ihN x (by simp at hN;omega) hb1 hev hI
      · subst h;simp only [Bool.false_eq_true,if_false] at hev;exact ihN y (by simp at hN;omega) hb2 hev hI
  ·
    rename_i id' b' id b
    rcases Bool.or_eq_true_iff.1 hb with hb | hb
    · exact exec_M hcf hm hb hev hI
    · obtain ⟨hid0,hb1⟩:=and_nd hb
      have hid:id=id':=eq_of_beq hid0
      subst hid
      simp only [exec] at hev
      cases h1:exec cf fuel b' st with
      | none=>simp [h1] at hev
      | some p =>
      obtain ⟨ex1,st1⟩:=p
      simp only [h1] at hev
      refine wpIn_block (wpIn_mono (ihN b (by simp at hN;omega) hb1 h1 hI) ?_)
      rintro e a1 w1 ⟨rfl,hI1⟩
      cases ex1 with
      | normal=>simp only [Option.some.injEq,Prod.mk.injEq] at hev;obtain ⟨rfl,rfl⟩:=hev;exact ⟨rfl,hI1⟩
      | ret=>simp only [Option.some.injEq,Prod.mk.injEq] at hev;obtain ⟨rfl,rfl⟩:=hev;exact ⟨rfl,hI1⟩
      | exit j =>
        simp only at hev
        simp only [exOf,Exit.inBlock]
        split at hev
        · rename_i hj
          simp only [Option.some.injEq,Prod.mk.injEq] at hev;obtain ⟨rfl,rfl⟩:=hev
          simp only [hj,if_true];exact ⟨rfl,hI1⟩
        · rename_i hj
          simp only [Option.some.injEq,Prod.mk.injEq] at hev;obtain ⟨rfl,rfl⟩:=hev
          simp only [hj,if_false];exact ⟨rfl,hI1⟩
  ·
    rename_i b' b
    rcases Bool.or_eq_true_iff.1 hb with hb | hb
    · exact exec_M hcf hm hb hev hI
    · simp only [exec] at hev
      have key:∀ (m:Nat) (st:St) (a:Act) (w:World),iter (exec cf fuel b') m st=some (ex,st')→InvM cx w0 F0 ρ0 fp0 st0 a0 keep n st a w→Code.roundsIn (FR none) dp cx.P b (PostM cx w0 F0 ρ0 fp0 st0 a0 keep n ex st') m a w:=by
        intro m
        induction m with
        | zero=>intro st a w h;simp [iter] at h
        | succ m ihm =>
          intro st a w h hI
          rw [roundsIn_succ]
          simp only [iter] at h
          cases h1:exec cf fuel b' st with
          | none=>simp [h1] at h
          | some p =>
          obtain ⟨ex1,st1⟩:=p
          simp only [h1] at h
          refine wpIn_mono (ihN b (by simp at hN;omega) hb h1 hI) ?_
          rintro e a1 w1 ⟨rfl,hI1⟩
          cases ex1 with
          | normal=>exact ihm st1 a1 w1 h hI1
          | exit j=>simp only [Option.some.injEq,Prod.mk.injEq] at h;obtain ⟨rfl,rfl⟩:=h;exact ⟨rfl,hI1⟩
          | ret=>simp only [Option.some.injEq,Prod.mk.injEq] at h;obtain ⟨rfl,rfl⟩:=h;exact ⟨rfl,hI1⟩
      exact wpIn_loop_rounds fuel (key fuel st a w hev hI)
  · exact exec_M hcf hm hb hev hI
end
end Go.Idl
namespace Go.Idl
open Go
def bRes (P:Program):ResultVar→RVar→Bool
  | .tmp t,.t s=>t == s
  | .cell a t,.c b sz ag=>a == b && bSize P t sz && bAgg P t ag
  | _,_=>false
def bRess (P:Program):List ResultVar→List RVar→Bool
  | [],[]=>true
  | x::xs,y::ys=>bRes P x y && bRess P xs ys
  | _,_=>false
theorem bRess_ok {P:Program}:∀ {xs:List ResultVar} {ys:List RVar},bRess P xs ys=true→okRess P xs ys
  | [],[],_=>trivial
  | x::xs,y::ys,h=>by
    simp only [bRess,Bool.and_eq_true] at h
    refine ⟨?_,bRess_ok h.2⟩
    cases x <;> cases y <;> simp only [bRes] at h
    · simpa [okRes] using h.1
    · exact absurd h.1 (by simp)
    · exact absurd h.1 (by simp)
    · simp only [Bool.and_eq_true,beq_iff_eq] at h
      exact ⟨h.1.1.1,bSize_ok h.1.1.2,bAgg_ok h.1.2⟩
  | [],_::_,h=>by cases h
  | _::_,[],h=>by cases h
def bFun (cx:Cx) (rf:Func) (f:IFun):Bool:=(rf.name != "runtime.NumGoroutine") && bRess cx.P rf.results.toList f.res && (match rf.body with
  | some c=>bCode2 cx rf.ntmps f.keep f.body c
  | none=>false)
def extEnd (v:IV) (M:List Boxes):Option Ret:=match ({ T:=[(0,v)],loc:=[],M:=M }:St).retvs [.t 0] with
  | some (vs,st)=>match st.backs [] with
    | some (back,st)=>st.leave (packRes vs) back
    | none=>none
  | none=>none
def ExtOK (cx:Cx) (f:Lab) (fn:IFun):Prop:=∃ g,fn=⟨[.t 0],[],.ext g⟩∧EnterOK cx.P (cx.fid f)∧∀ cf,CallOK cx cf→∀ args v,g cf args=some v →
  (∀ M,extEnd v M=some ⟨v,[],M,[]⟩) ∧
  ∀ M w F ρ fp vs,vs.length=args.length→Rel cx w F ρ fp [] (argSt args M) (argTm vs)→Calls cx.P (cx.fid f) vs.toArray w (RetPost cx w F ρ fp M [] vs ⟨v,[],M,[]⟩)
def TblOK (cx:Cx) (tb:Tbl):Prop:=BksOK cx∧∀ f fn,tb f=some fn→(∃ rf,cx.P.funcs[cx.fid f]? = some rf∧bFun cx rf fn=true) ∨ ExtOK cx f fn
theorem regs_args (vs:List Value) (k:Nat):regs { tmps:=vs.toArray++Array.replicate k undef,defers:=[] }=argTm vs:=by
  funext s
  simp only [regs,argTm,Array.getD_eq_getD_getElem?,List.getD_eq_getElem?_getD]
  by_cases hs:s < vs.length
  · rw [Array.getElem?_append_left (by simpa using hs)];simp
  · rw [Array.getElem?_append_right (by simpa using hs),List.getElem?_eq_none (by omega)]
    by_cases h2:s - vs.length < k
    · simp [h2]
    · simp [h2]
theorem leaves_marks {cx:Cx} {w0:World} {F0:Nat→Prop} {ρ0:Rho} {fp0:Fp} {st0 st:St} {tm:Nat→Value} {fn:Func} {tmps:Array Value} {R:Ending→World→Prop}
    (hgood:∀ w F ρ fp,Gd cx w0 F0 ρ0 fp0 st0 [] st tm w F ρ fp→LeavesIn (FR none) 0 cx.P fn tmps R [] .returning w) :
    ∀ (S:List Nat) (w:World) (F:Nat→Prop) (ρ:Rho) (fp:Fp),Gd cx w0 F0 ρ0 fp0 st0 S st tm w F ρ fp→(∀ D ∈ S,w.heap[D]? = some (.deferred (some [])))→LeavesInM (FR none) 0 cx.P fn tmps R (S.map mark) .returning w
  | [],w,F,ρ,fp,hG,_=>hgood w F ρ fp hG
  | D::S,w,F,ρ,fp,hG,hD=>by
    refine ⟨by simp,.inl ⟨D,_,rfl,run_takeDeferred (hD D (by simp)),leaves_marks hgood S _ F ρ fp ((hG.put1 (by simp) _).sub (List.sublist_cons_self _ _)) fun D' hD'=>?_⟩⟩
    have hne:D' ≠ D:=fun e=>(List.nodup_cons.1 hG.nd).1 (e ▸ hD')
    rw [World.putObj_heap_other hne]
    exact hD D' (by simp [hD'])
theorem callN_sound {cx:Cx} {tb:Tbl} (htb:TblOK cx tb) (hm:cx.P.follows .mixedOrders=true):∀ n,CallOK cx (callN tb n)
  | 0=>fun f lent args M r h=>by simp [callN] at h
  | n+1=>fun f lent args M r h=>by
    have ih:=callN_sound htb hm n
    simp only [callN] at h
    split at h
    rotate_left
    · cases h
    rename_i fn hfn
    rcases htb.2 f fn hfn with ⟨rf,hrf,hb⟩ | ⟨g,rfl,hent,hg⟩
    rotate_left
    · refine ⟨hent,?_⟩
      intro w F ρ fp vs hlen hR
      unfold runFun at h
      split at h
      · cases h
      rename_i hkeep
      have hl0:lent=[]:=by
        cases lent with
        | nil=>rfl
        | cons a l=>simp at hkeep
      subst hl0
      have hT:((args.zipIdx.map fun (v,i)=>(i,v)):Tm).map (·.2)=args:=by
        rw [List.map_map]
        exact (List.map_congr_left fun _ _=>rfl).trans (List.zipIdx_map_fst 0 args)
      simp only [exec,hT] at h
      cases hq:g (callN tb n) args with
      | none=>simp only [hq] at h;cases h
      | some v =>
      obtain ⟨k1,k2⟩:=hg (callN tb n) ih args v hq
      simp only [hq] at h
      have h:extEnd v M=some r:=h
      rw [k1 M] at h
      simp only [Option.some.injEq] at h
      subst h
      exact k2 M w F ρ fp vs hlen hR
    unfold bFun at hb
    simp only [Bool.and_eq_true,bne_iff_ne,ne_eq] at hb
    obtain ⟨⟨hname,hress⟩,hb⟩:=hb
    split at hb
    rotate_left
    · cases hb
    rename_i c hc
    refine ⟨⟨rf,hrf,by simpa using hname,by rw [hc];rfl⟩,?_⟩
    intro w F ρ fp vs hlen hR
    unfold runFun at h
    split at h
    · cases h
    rename_i hkeep
    have hkeep':∀ s ∈ lent,s ∈ fn.keep:=by
      simp only [Bool.not_eq_true',Bool.not_eq_false,List.all_eq_true] at hkeep
      intro s hs
      simpa using hkeep s hs
    let a0:Act:={ tmps:=vs.toArray++Array.replicate (rf.ntmps - vs.toArray.size) undef,defers:=[] }
    have hregs:regs a0=argTm vs:=regs_args vs _
    have hI:InvM cx w F ρ fp (argSt args M) a0 fn.keep rf.ntmps (argSt args M) a0 w :=
      .start (by rw [hregs];exact hR) (by simp [a0];omega)
    have body:∀ {ex:Ex} {st1:St},exec (callN tb n) n fn.body (argSt args M)=some (ex,st1)→(ex=.normal ∨ ex=.ret)→∀ {vals st2 back st3},st1.retvs fn.res=some (vals,st2)→st2.backs lent=some (back,st3) →
        st3.leave (packRes vals) back=some r→Calls cx.P (cx.fid f) vs.toArray w (RetPost cx w F ρ fp M lent vs r):=by
      intro ex st1 h1 hex vals st2 back st3 h2 h3 h4
      refine (callsIn_wide (n:=0)).1 (callsIn_of_wp_marks (F:=FR none) hrf hc trivial ?_)
      refine wpIn_mono (exec_sound2 ih hm htb.1 (SizeOf.sizeOf c+1) c (Nat.lt_succ_self _) hb h1 hI) ?_
      rintro e a1 w1 ⟨rfl,S,F1,ρ1,fp1,hG1,-,hd1,hk1,hD1⟩
      have hleave:LeavesInM (FR none) 0 cx.P rf a1.tmps (RetPost cx w F ρ fp M lent vs r) a1.defers .returning w1:=by
        rw [hd1,show a0.defers=[] from rfl,List.append_nil]
        refine leaves_marks (fun w2 F2 ρ2 fp2 hG2=>?_) S w1 F1 ρ1 fp1 hG1 hD1
        obtain ⟨u,q1,q2⟩:=leave_ok rfl hG2.rel hG2.ext hG2.shp (bRess_ok hress) (fun s hs=>by rw [hk1 s (hkeep' s hs),hregs];rfl) h2 h3 h4
        exact ⟨u,q1,q2⟩
      rcases hex with rfl | rfl
      · exact hleave
      · exact hleave
    change (match exec (callN tb n) n fn.body (argSt args M) with
      | some (.exit _,_)=>none
      | some (_,st)=>_
      | none=>none)=some r at h
    cases h1:exec (callN tb n) n fn.body (argSt args M) with
    | none=>simp [h1] at h
    | some p =>
    obtain ⟨ex,st1⟩:=p
    have rest:(match st1.retvs fn.res with
        | some (vs,st)=>match st.backs lent with
          | some (back,st)=>st.leave (packRes vs) back
          | none=>none
        | none=>none)=some r→(ex=.normal ∨ ex=.ret)→Calls cx.P (cx.fid f) vs.toArray w (RetPost cx w F ρ fp M lent vs r):=by
      intro h hex
      split at h
      rotate_left
      · cases h
      rename_i vals st2 h2
      split at h
      rotate_left
      · cases h
      rename_i back st3 h3
      exact body h1 hex h2 h3 h
    rw [h1] at h
    cases ex with
    | exit j=>simp at h
    | normal=>exact rest h (.inl rfl)
    | ret=>exact rest h (.inr rfl)
end Go.Idl
namespace Go.Idl
open Go
def oldF (w:World):Nat→Prop:=fun b=>b < w.heap.size
inductive ArgR (w:World):IV→Value→Prop
  | one {x:IV} {v:Value} (h:RDs w (oldF w) [x] [v] []):ArgR w x v
  | agg {cs:List IV} {C:Array Value} (h:RDs w (oldF w) cs C.toList []):ArgR w (.agg cs) (.agg C)
inductive ArgsR (w:World):List IV→List Value→Prop
  | nil:ArgsR w [] []
  | cons {x v xs vs} (h:ArgR w x v) (t:ArgsR w xs vs):ArgsR w (x::xs) (v::vs)
theorem ArgsR.len {w xs vs} (h:ArgsR w xs vs):xs.length=vs.length:=by
  induction h with
  | nil=>rfl
  | cons _ _ ih=>simp [ih]
section
variable {cx:Cx} {w:World}
theorem rds_cat {F:Nat→Prop} {ρ:Rho} {st:St} {lk}:∀ {cs:List IV} {vs:List Value},RDs w F cs vs []→Cat (RC cx w F ρ st lk) cs vs []
  | [],vs,h=>by cases h;exact .nil
  | c::cs,vs,h=>by
    obtain ⟨v,us,f1,f2,rfl,hf,h1,h2⟩:=h.cons_inv
    obtain ⟨rfl,rfl⟩:=List.append_eq_nil_iff.1 hf.symm
    exact Cat.cons (f:=[]) (fp:=[]) (.inr h1) (rds_cat h2)
theorem ArgR.slot {x v} (h:ArgR w x v) {ρ:Rho} {st:St} {lk}:RSlot cx w (oldF w) ρ st lk x v []:=by
  cases h with
  | agg h=>exact ⟨_,rfl,rds_cat h⟩
  | one h =>
    cases x with
    | tup vs=>cases h
    | agg cs=>cases h
    | un=>exact rfl
    | _=>exact .inr h
theorem tget_argsT {xs:List IV} (s k:Nat):tget ((xs.zipIdx k).map fun (v,i)=>(i,v)) s=if k≤s then xs.getD (s - k) .un else .un:=by
  induction xs generalizing k with
  | nil=>simp [tget]
  | cons x xs ih =>
    rw [List.zipIdx_cons,List.map_cons]
    simp only [tget]
    by_cases hk:k=s
    · subst hk;simp
    · rw [if_neg hk,ih]
      by_cases h1:k≤s
      · have h2:k+1≤s:=by omega
        rw [if_pos h1,if_pos h2,show s - k=(s - (k+1))+1 by omega]
        simp
      · have h2:¬ k+1≤s:=by omega
        rw [if_neg h1,if_neg h2]
theorem ArgsR.get {xs vs} (h:ArgsR w xs vs):∀ s,(xs.getD s .un=.un∧xs.length≤s) ∨ ArgR w (xs.getD s .un) (vs.getD s undef):=by
  induction h with
  | nil=>intro s;exact .inl ⟨by simp,by simp⟩
  | cons h t ih =>
    intro s
    cases s with
    | zero=>exact .inr (by simpa using h)
    | succ s =>
      rcases ih s with ⟨h1,h2⟩ | h1
      · exact .inl ⟨by simpa using h1,by simpa using h2⟩
      · exact .inr (by simpa using h1)
theorem argRel {xs vs} (h:ArgsR w xs vs) (ρ:Rho):Rel cx w (oldF w) ρ (fun _=>[]) [] (argSt xs []) (argTm vs):=by
  have hbox:∀ l k,(argSt xs []).box l k=none:=fun l k=>by simp [St.box,argSt]
  refine ⟨fun s=>?_,fun l k cs hb=>(by rw [hbox] at hb;cases hb),fun _ _ _=>rfl,fun _=>List.nodup_nil,fun _ _ _ _ hb=>absurd hb (by simp),fun _ _ hb=>absurd hb (by simp),fun _ _ hb=>absurd hb (by simp),fun _ hb=>hb,List.nodup_nil,fun _ _ hb=>absurd hb (by simp),fun _ hb=>absurd hb (by simp),fun _ hb=>absurd hb (by simp)⟩
  have:tget (argSt xs []).T s=xs.getD s .un:=by
    have:=tget_argsT (xs:=xs) s 0
    simpa [argSt] using this
  rw [this]
  rcases h.get s with ⟨h1,-⟩ | h1
  · rw [h1];exact rcomp_un
  · exact h1.slot
theorem law_calls {tb:Tbl} (htb:TblOK cx tb) (hm:cx.P.follows .mixedOrders=true) {f:Lab} {xs:List IV} {vs:List Value} (h:ArgsR w xs vs) {n:Nat} (hc:callN tb n f [] xs []=some ⟨.sc (.bool true),[],[],[]⟩) :
    Calls cx.P (cx.fid f) vs.toArray w (fun e w'=>e=.returned (.bool true)∧RowKit.Below w.heap.size w w'):=by
  refine ((callN_sound htb hm n f [] xs [] _ hc).2 w (oldF w) (fun _ _=>0) (fun _=>[]) vs h.len.symm (argRel h _)).mono ?_
  rintro e w' ⟨v',F',ρ',fp',Xb,rfl,hR,hE,-⟩
  have hs:=hR.slots 0
  have hv:v'=.bool true:=(rslot_sc hs).1
  subst hv
  refine ⟨rfl,⟨hE.env.1,hE.env.2.1,hE.env.2.2,hE.size,fun k hk=>hE.keep k hk (by simp) (by simp)⟩⟩
end
theorem arg_ints {w:World} {k:IntKind} {a:Option Addr} {len cap:Nat} {zs:List Int} (h:(a=none∧len=0∧cap=0∧zs=[]) ∨
    ∃ x,a=some x∧len≤cap∧zs.length=cap∧(∀ i,i < zs.length→w.cell? (x.add i)=some (.int k (zs.getD i 0)))) :
    ArgR w (.lst 1 ((zs.take len).map fun n=>[.sc (.int k n)]) false) (.slice a len cap):=by
  rcases h with ⟨rfl,rfl,rfl,rfl⟩ | ⟨x,rfl,h1,h2,h3⟩
  · exact .one (.lst0 (by simp) .nil)
  · rcases Nat.eq_zero_or_pos len with h0 | h0
    · subst h0
      simp only [List.take_zero,List.map_nil]
      exact .one (.lst0 (by simp) .nil)
    · have hx:=h3 0 (by omega)
      rw [show x.add 0=x from rfl] at hx
      obtain ⟨b,o,sp⟩:=x
      unfold World.cell? at hx
      split at hx
      rotate_left
      · cases hx
      rename_i C ty fr hb
      simp only at hb
      cases sp with
      | some _=>simp at hx
      | none =>
      have hcell:∀ i,i < zs.length→C[o+i]? = some (.int k (zs.getD i 0)):=fun i hi=>by
        have:=h3 i hi
        rw [addr_add,cell_of hb] at this
        exact this
      have hlen:((zs.take len).map fun n=>[IV.sc (.int k n)]).length=len:=by simp;omega
      have hd:∀ (l:List Int) (m:Nat),(∀ i,i < l.length→C[m+i]? = some (.int k (l.getD i 0)))→RDs w (oldF w) (l.map fun n=>[IV.sc (.int k n)]).flatten ((C.toList.drop m).take l.length) []:=by
        intro l
        induction l with
        | nil=>intro m _;simp;exact .nil
        | cons n l ih =>
          intro m hl
          have h0:=hl 0 (by simp)
          have hm:C.toList.drop m=.int k n::C.toList.drop (m+1):=by
            rw [List.drop_eq_getElem?_toList_append]
            have:C.toList[m]? = some (.int k n):=by simpa using h0
            rw [this];rfl
          rw [hm,List.length_cons,List.take_succ_cons,List.map_cons,List.flatten_cons]
          refine .sc rfl (ih (m+1) fun i hi=>?_)
          have:=hl (i+1) (by simp;omega)
          simpa [Nat.add_assoc,Nat.add_comm 1 i] using this
      have hb':b < w.heap.size:=by
        rcases Nat.lt_or_ge b w.heap.size with h | h
        · exact h
        · rw [Array.getElem?_eq_none h] at hb;cases hb
      have hdd:=hd (zs.take len) o (fun i hi=>by
        rw [List.length_take] at hi
        rw [hcell i (by omega)]
        simp [List.getD_eq_getElem?_getD,List.getElem?_take_of_lt (show i < len by omega)])
      have hll:(zs.take len).length=len:=by rw [List.length_take];omega
      rw [hll] at hdd
      have:=RDs.lst (w:=w) (F:=oldF w) (e:=1) (es:=(zs.take len).map fun n=>[IV.sc (.int k n)]) (clip:=false) (b:=b) (o:=o) (cap:=cap) (xs:=[]) (vs:=[]) (fp:=[]) hb' hb
        (by rw [hlen,Nat.mul_one];exact hdd) (fun x hx=>by simp only [List.mem_map] at hx;obtain ⟨n,_,rfl⟩:=hx;rfl) (by simp) (by rw [hlen];exact h1) .nil
      rw [hlen] at this
      exact .one this
theorem tbl_okA {cx:Cx}:∀ {L:List (Nat×IFun)},(∀ p ∈ L,(∃ rf,cx.P.funcs[cx.fid p.1]? = some rf∧bFun cx rf p.2=true) ∨ ExtOK cx p.1 p.2) →
    ∀ f fn,tbOf L f=some fn→(∃ rf,cx.P.funcs[cx.fid f]? = some rf∧bFun cx rf fn=true) ∨ ExtOK cx f fn
  | [],_,f,fn,h=>by cases h
  | (k,g)::r,hL,f,fn,h=>by
    simp only [tbOf] at h
    split at h
    · rename_i hk
      subst hk
      simp only [Option.some.injEq] at h
      subst h
      exact hL (k,g) (by simp)
    · exact tbl_okA (fun p hp=>hL p (by simp [hp])) f fn h
theorem tbl_okE {cx:Cx} {L:List (Nat×IFun)} (hb:BksOK cx) (h:∀ p ∈ L,(∃ rf,cx.P.funcs[cx.fid p.1]? = some rf∧bFun cx rf p.2=true) ∨ ExtOK cx p.1 p.2):TblOK cx (tbOf L):=⟨hb,tbl_okA h⟩
theorem tbl_ok {cx:Cx} {L:List (Nat×IFun)} (hb:BksOK cx) (h:∀ p ∈ L,∃ rf,cx.P.funcs[cx.fid p.1]? = some rf∧bFun cx rf p.2=true):TblOK cx (tbOf L):=tbl_okE hb fun p hp=>.inl (h p hp)
end Go.Idl
namespace Go.Idl
open Go
def Ev (tb:Tbl) (f:Lab) (lent:List Nat) (args:List IV) (M:List Boxes) (r:Ret):Prop:=∃ N,∀ n,N≤n→callN tb n f lent args M=some r
open Classical in
noncomputable def limF (tb:Tbl):CF:=fun f lent args M=>if h:∃ r,Ev tb f lent args M r then some (Classical.choose h) else none
def WO (tb:Tbl) (ops:List IOp) (st:St) (Q:St→Prop):Prop:=∃ st',execOps (limF tb) st ops=some st'∧Q st'
def loopN (step:St→(Ex→St→Prop)→Prop) (Q:Ex→St→Prop):Nat→St→Prop
  | 0,_=>False
  | k+1,st=>step st fun ex st'=>match ex with
    | .normal=>loopN step Q k st'
    | e=>Q e st'
def nilW (x:Opd) (t:Nat) (live:List Nat) (st:St) (f:St→(Ex→St→Prop)→Prop) (Q:Ex→St→Prop):Prop:=match emptyL (rd st.T x) with
  | some false=>f (st.flag t false live) Q
  | some true=>∃ ex st',f (st.flag t true live) (fun e s=>e=ex∧s=st')∧f (st.flag t false live) (fun e s=>e=ex∧s=st')∧Q ex st'
  | none=>False
def rngW (wa wb:St→(Ex→St→Prop)→Prop) (T:Tm) (p q:Nat) (Q:Ex→St→Prop):List Int→St→Prop
  | [],st=>Q .normal { st with T:=T }
  | x::r,st=>wa { st with T:=tput (tput T p (.sc (iv r.length))) q (.sc (iv x)) } fun ex s1=>ex=.normal∧wb s1 fun ex2 s2=>match ex2 with
    | .normal=>rngW wa wb T p q Q r { s2 with T:=T }
    | .exit e=>Q (.exit e) { s2 with T:=T }
    | .ret=>False
def wp (tb:Tbl):IC→St→(Ex→St→Prop)→Prop
  | .skip,st,Q=>Q .normal st
  | .reg ops live alts,st,Q=>WO tb ops st fun st1=>(∀ p ∈ alts,WO tb (inOrder ops p) st fun st2=>st2.cut live=st1.cut live)∧Q .normal (st1.cut live)
  | .regd ops ord live alts,st,Q=>NHops st ops=true∧okRun (limF tb) st (inOrder ops ord)∧WO tb (inOrder ops ord) st fun st1=>(∀ p ∈ alts,okRun (limF tb) st (inOrder ops p)∧WO tb (inOrder ops p) st fun st2=>(st2.cut live).alike st.loc.length (st1.cut live))∧Q .normal (st1.cut live)
  | .regx ops ord live ds alts,st,Q=>freshX st ops=true∧okX (limF tb) ds st (inOrder ops ord)∧WO tb (inOrder ops ord) st fun st1=>(∀ p ∈ alts,okX (limF tb) ds st (inOrder ops p)∧WO tb (inOrder ops p) st fun st2=>st2.cut live=st1.cut live)∧Q .normal (st1.cut live)
  | .regw ops s t live,st,Q=>WO tb ops st fun st1=>∃ st2,st1.swapS s t=some st2∧Q .normal (st2.cut live)
  | .seq a b,st,Q=>wp tb a st fun ex st'=>match ex with
    | .normal=>wp tb b st' Q
    | e=>Q e st'
  | .nilc ops x t live y,st,Q=>WO tb ops st fun st1=>nilW x t live st1 (wp tb y) Q
  | .nilc2 ops x t live y1 y2,st,Q=>WO tb ops st fun st1=>nilW x t live st1 (fun st Q=>wp tb y1 st fun ex st'=>match ex with
    | .normal=>wp tb y2 st' Q
    | e=>Q e st') Q
  | .ubx ops0 ops1 live y,st,Q=>∃ st1,ubxStep (limF tb) st ops0 ops1=some st1∧wp tb y (st1.cut live) Q
  | .cond c a b,st,Q=>match rd st.T c with
    | .sc (.bool t)=>if t=true then wp tb a st Q else wp tb b st Q
    | _=>False
  | .block id b,st,Q=>wp tb b st fun ex st'=>match ex with
    | .exit i=>if i=id then Q .normal st' else Q (.exit i) st'
    | e=>Q e st'
  | .loop b,st,Q=>∃ k,loopN (wp tb b) Q k st
  | .exit id,st,Q=>Q (.exit id) st
  | .ret,st,Q=>Q .ret st
  | .rngb ops _ x g live bid p q asg body,st,Q=>WO tb ops st fun s0=>∃ es c xs,rd ({ s0 with T:=tput s0.T g .un }.cut live:St).T x=.lst 1 es c∧intsOf es=some xs∧pureT ({ s0 with T:=tput s0.T g .un }.cut live:St).T=true∧xs.length < 2 ^ 40 ∧
      rngW (wp tb asg) (wp tb body) ({ s0 with T:=tput s0.T g .un }.cut live:St).T p q (fun ex s=>match ex with
        | .exit e=>Q (if e=bid then .normal else .exit e) s
        | e=>Q e s) xs.reverse ({ s0 with T:=tput s0.T g .un }.cut live)
  | .hole,_,_=>False
  | .ext g,st,Q=>∃ v,(∃ N,∀ n,N≤n→g (callN tb n) (st.T.map (·.2))=some v)∧Q .ret { st with T:=[(0,v)] }
section
variable {tb:Tbl}
theorem Ev.det {f lent args M r r'} (h:Ev tb f lent args M r) (h':Ev tb f lent args M r'):r=r':=by
  obtain ⟨N,hN⟩:=h
  obtain ⟨N',hN'⟩:=h'
  have h1:=hN (max N N') (by omega)
  have h2:=hN' (max N N') (by omega)
  rw [h1] at h2
  exact Option.some.inj h2
theorem lim_ev {f lent args M r} (h:limF tb f lent args M=some r):Ev tb f lent args M r:=by
  unfold limF at h
  split at h
  · rename_i hex
    simp only [Option.some.injEq] at h
    rw [← h];exact Classical.choose_spec hex
  · cases h
theorem ev_lim {f lent args M r} (h:Ev tb f lent args M r):limF tb f lent args M=some r:=by
  have hex:∃ r,Ev tb f lent args M r:=⟨r,h⟩
  unfold limF
  rw [dif_pos hex]
  congr 1
  exact (Classical.choose_spec hex).det h
theorem callWithH_lim {st:St} {f:Lab} {args:List (Mode×Opd)} {v:IV} {st':St} (h:st.callWithH (limF tb) f args=some (v,st')) :
    ∃ N,∀ n,N≤n→st.callWithH (callN tb n) f args=some (v,st'):=by
  unfold St.callWithH at h ⊢
  split at h
  rotate_left
  · cases h
  rename_i vs st1 fz ss hargs
  split at h
  · cases h
  rename_i hc
  split at h
  rotate_left
  · cases h
  rename_i hlv
  cases hl:limF tb f (lents args 0) vs (st1.M++[[]]) with
  | none=>simp [hl] at h
  | some r =>
  obtain ⟨N,hN⟩:=lim_ev hl
  rw [hl] at h
  refine ⟨N,fun n hn=>?_⟩
  simp only [hc,hlv,if_true,if_false,Bool.false_eq_true,hN n hn]
  exact h
theorem callWith_lim {st:St} {f:Lab} {caps:List IV} {args:List (Mode×Opd)} {p:Bool} {v:IV} {st':St} (h:st.callWith (limF tb) f caps args p=some (v,st')) :
    ∃ N,∀ n,N≤n→st.callWith (callN tb n) f caps args p=some (v,st'):=by
  unfold St.callWith at h ⊢
  split at h
  rotate_left
  · cases h
  rename_i vs st1 fz ss hargs
  cases p with
  | true =>
    simp only [if_true] at h ⊢
    split at h
    · cases h
    rename_i hc
    cases hl:limF tb f [] vs [] with
    | none=>simp [hl] at h
    | some r =>
    obtain ⟨N,hN⟩:=lim_ev hl
    rw [hl] at h
    refine ⟨N,fun n hn=>?_⟩
    simp only [hc,if_false,Bool.false_eq_true,hN n hn]
    exact h
  | false =>
    simp only [Bool.false_eq_true,if_false] at h ⊢
    split at h
    · cases h
    rename_i hc
    cases hl:limF tb f (lents args 0) (vs++caps) (st1.M++[st1.loc]) with
    | none=>simp [hl] at h
    | some r =>
    obtain ⟨N,hN⟩:=lim_ev hl
    rw [hl] at h
    refine ⟨N,fun n hn=>?_⟩
    simp only [hc,if_false,Bool.false_eq_true,hN n hn]
    exact h
theorem callP_lim {st:St} {f:Lab} {x:Opd} {v:IV} {st':St} (h:st.callP (limF tb) f x=some (v,st')):∃ N,∀ n,N≤n→st.callP (callN tb n) f x=some (v,st'):=by
  unfold St.callP at h ⊢
  split at h
  rotate_left
  · cases h
  split at h
  rotate_left
  · cases h
  rename_i e es hp
  split at h
  rotate_left
  · cases h
  rename_i hn
  cases hl:limF tb f [0] [.own e es] [] with
  | none=>simp [hl] at h
  | some r =>
    obtain ⟨N,hN⟩:=lim_ev hl
    rw [hl] at h
    refine ⟨N,fun n hn'=>?_⟩
    simp only [hp,if_pos hn,hN n hn']
    exact h
theorem callM_lim {st:St} {f:Lab} {x k:Opd} {v:IV} {st':St} (h:st.callM (limF tb) f x k=some (v,st')):∃ N,∀ n,N≤n→st.callM (callN tb n) f x k=some (v,st'):=by
  unfold St.callM at h ⊢
  split at h
  rotate_left
  · cases h
  rename_i kv hk
  split at h
  rotate_left
  · cases h
  rename_i wr r c p e0 n0 hld
  split at h
  rotate_left
  · cases h
  rename_i e es hp
  split at h
  rotate_left
  · cases h
  rename_i hn
  cases hl:limF tb f [0] [wrapL wr (.own e es),.sc kv] [] with
  | none=>simp [hl] at h
  | some r =>
    obtain ⟨N,hN⟩:=lim_ev hl
    rw [hl] at h
    refine ⟨N,fun n hn'=>?_⟩
    simp only [hp,if_pos hn,hN n hn']
    exact h
theorem ev_limN {st:St} {k:K} {v:IV} {st':St} (h:ev (limF tb) st k=some (v,st')):∃ N,∀ n,N≤n→ev (callN tb n) st k=some (v,st'):=by
  cases k with
  | call f args p=>exact callWith_lim h
  | callq f args=>exact callWith_lim h
  | callh f args=>exact callWithH_lim h
  | callp f x=>exact callP_lim h
  | callm f x k =>
    simp only [ev] at h ⊢
    split at h
    · exact callM_lim h
    · exact callWith_lim h
  | callz f x k =>
    simp only [ev] at h ⊢
    split at h
    · exact callWith_lim h
    · exact callWith_lim h
  | callv x args =>
    simp only [ev] at h ⊢
    split at h
    · exact callWith_lim h
    · cases h
  | _=>exact ⟨0,fun n _=>h⟩
theorem op_lim {st:St} {o:IOp} {st':St} (h:execOp1 (limF tb) st o=some st'):∃ N,∀ n,N≤n→execOp1 (callN tb n) st o=some st':=by
  unfold execOp1 at h ⊢
  have run:∀ {st'':St},(match ev (limF tb) st o.k with
      | some (v,st')=>match o.dst with
        | some d=>some { st' with T:=tput st'.T d v }
        | none=>some st'
      | none=>none)=some st''→∃ N,∀ n,N≤n→(match ev (callN tb n) st o.k with
      | some (v,st')=>match o.dst with
        | some d=>some { st' with T:=tput st'.T d v }
        | none=>some st'
      | none=>none)=some st'':=by
    intro st'' h
    cases hl:ev (limF tb) st o.k with
    | none=>simp [hl] at h
    | some p =>
      obtain ⟨v,s⟩:=p
      obtain ⟨N,hN⟩:=ev_limN hl
      rw [hl] at h
      exact ⟨N,fun n hn=>by rw [hN n hn];exact h⟩
  split at h
  · exact run h
  · split at h
    · split at h
      · rename_i hc
        obtain ⟨N,hN⟩:=run h
        refine ⟨N,fun n hn=>?_⟩
        simp only [hc,if_true]
        exact hN n hn
      · rename_i hc
        exact ⟨0,fun n _=>by simp only [hc,if_false];exact h⟩
    · exact ⟨0,fun n _=>h⟩
    · cases h
theorem ops_lim:∀ {ops:List IOp} {st st':St},execOps (limF tb) st ops=some st'→∃ N,∀ n,N≤n→execOps (callN tb n) st ops=some st'
  | [],st,st',h=>⟨0,fun _ _=>h⟩
  | o::r,st,st',h=>by
    simp only [execOps] at h ⊢
    split at h
    · rename_i st1 h1
      obtain ⟨N,hN⟩:=op_lim h1
      obtain ⟨N',hN'⟩:=ops_lim h
      exact ⟨max N N',fun n hn=>by simp only [hN n (by omega),hN' n (by omega)]⟩
    · cases h
theorem okRun_lim:∀ {ops:List IOp} {st st':St},execOps (limF tb) st ops=some st'→okRun (limF tb) st ops→∃ N,∀ n,N≤n→okRun (callN tb n) st ops
  | [],_,_,_,_=>⟨0,fun _ _=>trivial⟩
  | o::r,st,st',h,hk=>by
    simp only [execOps] at h
    split at h
    rotate_left
    · cases h
    rename_i st1 h1
    obtain ⟨k1,k2⟩:=hk st1 h1
    obtain ⟨N,hN⟩:=op_lim h1
    obtain ⟨N',hN'⟩:=okRun_lim h k2
    refine ⟨max N N',fun n hn st2 h2=>?_⟩
    rw [hN n (by omega)] at h2
    cases h2
    exact ⟨k1,hN' n (by omega)⟩
theorem okX_lim {ds:List Nat}:∀ {ops:List IOp} {st st':St},execOps (limF tb) st ops=some st'→okX (limF tb) ds st ops→∃ N,∀ n,N≤n→okX (callN tb n) ds st ops
  | [],_,_,_,hk=>⟨0,fun _ _=>hk⟩
  | o::r,st,st',h,hk=>by
    simp only [execOps] at h
    split at h
    rotate_left
    · cases h
    rename_i st1 h1
    obtain ⟨k01,k02,k⟩:=hk
    obtain ⟨k1,k2⟩:=k st1 h1
    obtain ⟨N,hN⟩:=op_lim h1
    obtain ⟨N',hN'⟩:=okX_lim h k2
    refine ⟨max N N',fun n hn=>⟨k01,k02,fun st2 h2=>?_⟩⟩
    rw [hN n (by omega)] at h2
    cases h2
    exact ⟨k1,hN' n (by omega)⟩
theorem WO_sound {ops:List IOp} {st:St} {Q:St→Prop} (h:WO tb ops st Q):∃ st',Q st'∧(∃ N,∀ n,N≤n→execOps (callN tb n) st ops=some st')∧∀ Q':St→Prop,Q' st'→WO tb ops st Q':=by
  obtain ⟨st',h1,h2⟩:=h
  exact ⟨st',h2,ops_lim h1,fun Q' hQ'=>⟨st',h1,hQ'⟩⟩
def Runs (tb:Tbl) (c:IC) (st:St) (ex:Ex) (st':St):Prop:=∃ N,∀ n,N≤n→∀ m,N≤m→exec (callN tb n) m c st=some (ex,st')
theorem ubx_lim {st st1:St} {ops0 ops1:List IOp} (h:ubxStep (limF tb) st ops0 ops1=some st1):∃ N,∀ n,N≤n→ubxStep (callN tb n) st ops0 ops1=some st1:=by
  unfold ubxStep at h ⊢
  split at h
  rotate_left
  · cases h
  split at h
  rotate_left
  · cases h
  rename_i st2 h1
  obtain ⟨N,hN⟩:=ops_lim h1
  split at h
  rotate_left
  · cases h
  rename_i xs hrd
  split at h
  rotate_left
  · cases h
  rename_i x hsub
  obtain ⟨N2,hN2⟩:=ops_lim h
  refine ⟨max N N2,fun n hn=>?_⟩
  simp only [hN n (by omega),hrd,hsub]
  exact hN2 n (by omega)
theorem wp_sound:∀ {c:IC} {st:St} {Q:Ex→St→Prop},wp tb c st Q→∃ ex st',Q ex st'∧Runs tb c st ex st'∧∀ Q':Ex→St→Prop,Q' ex st'→wp tb c st Q'
  | .skip,st,Q,h=>⟨.normal,st,h,⟨0,fun _ _ _ _=>rfl⟩,fun _ h=>h⟩
  | .exit id,st,Q,h=>⟨.exit id,st,h,⟨0,fun _ _ _ _=>rfl⟩,fun _ h=>h⟩
  | .ret,st,Q,h=>⟨.ret,st,h,⟨0,fun _ _ _ _=>rfl⟩,fun _ h=>h⟩
  | .reg ops live alts,st,Q,h=>by
    simp only [wp] at h
    obtain ⟨st1,⟨h1,h2⟩,⟨N,hN⟩,h3⟩:=WO_sound h
    have halt:∃ N,∀ n,N≤n→∀ p ∈ alts,∃ st2,execOps (callN tb n) st (inOrder ops p)=some st2∧st2.cut live=st1.cut live:=by
      clear h h3
      induction alts with
      | nil=>exact ⟨0,fun _ _ p hp=>by cases hp⟩
      | cons p ps ih =>
        obtain ⟨N1,hN1⟩:=ih (fun q hq=>h1 q (by simp [hq]))
        obtain ⟨st2,q1,⟨N2,hN2⟩,-⟩:=WO_sound (h1 p (by simp))
        refine ⟨max N1 N2,fun n hn q hq=>?_⟩
        rcases List.mem_cons.1 hq with rfl | hq
        · exact ⟨st2,hN2 n (by omega),q1⟩
        · exact hN1 n (by omega) q hq
    obtain ⟨N',hN'⟩:=halt
    refine ⟨.normal,st1.cut live,h2,⟨max N N',fun n hn m hm=>?_⟩,fun Q' hQ'=>?_⟩
    · simp only [exec,execReg,hN n (by omega)]
      rw [if_pos (hN' n (by omega))]
    · simp only [wp];exact h3 _ ⟨h1,hQ'⟩
  | .regd ops ord live alts,st,Q,h=>by
    simp only [wp] at h
    obtain ⟨hn,hok,st1,h0,h1,h2⟩:=h
    obtain ⟨N,hN⟩:=ops_lim h0
    obtain ⟨N',hN'⟩:=okRun_lim h0 hok
    have halt:∃ N,∀ n,N≤n→∀ p ∈ alts,okRun (callN tb n) st (inOrder ops p)∧∃ st2,execOps (callN tb n) st (inOrder ops p)=some st2∧(st2.cut live).alike st.loc.length (st1.cut live):=by
      clear h2
      induction alts with
      | nil=>exact ⟨0,fun _ _ p hp=>by cases hp⟩
      | cons p ps ih =>
        obtain ⟨N1,hN1⟩:=ih (fun q hq=>h1 q (by simp [hq]))
        obtain ⟨g1,st2,g2,g3⟩:=h1 p (by simp)
        obtain ⟨N2,hN2⟩:=ops_lim g2
        obtain ⟨N3,hN3⟩:=okRun_lim g2 g1
        refine ⟨max N1 (max N2 N3),fun n hn q hq=>?_⟩
        rcases List.mem_cons.1 hq with rfl | hq
        · exact ⟨hN3 n (by omega),st2,hN2 n (by omega),g3⟩
        · exact hN1 n (by omega) q hq
    obtain ⟨N2,hN2⟩:=halt
    refine ⟨.normal,st1.cut live,h2,⟨max N (max N' N2),fun n hn' m hm=>?_⟩,fun Q' hQ'=>?_⟩
    · simp only [exec,execRegd,hN n (by omega)]
      rw [if_pos ⟨hn,hN' n (by omega),hN2 n (by omega)⟩]
    · simp only [wp];exact ⟨hn,hok,st1,h0,h1,hQ'⟩
  | .regx ops ord live ds alts,st,Q,h=>by
    simp only [wp] at h
    obtain ⟨hn,hok,st1,h0,h1,h2⟩:=h
    obtain ⟨N,hN⟩:=ops_lim h0
    obtain ⟨N',hN'⟩:=okX_lim h0 hok
    have halt:∃ N,∀ n,N≤n→∀ p ∈ alts,okX (callN tb n) ds st (inOrder ops p)∧∃ st2,execOps (callN tb n) st (inOrder ops p)=some st2∧st2.cut live=st1.cut live:=by
      clear h2
      induction alts with
      | nil=>exact ⟨0,fun _ _ p hp=>by cases hp⟩
      | cons p ps ih =>
        obtain ⟨N1,hN1⟩:=ih (fun q hq=>h1 q (by simp [hq]))
        obtain ⟨g1,st2,g2,g3⟩:=h1 p (by simp)
        obtain ⟨N2,hN2⟩:=ops_lim g2
        obtain ⟨N3,hN3⟩:=okX_lim g2 g1
        refine ⟨max N1 (max N2 N3),fun n hn q hq=>?_⟩
        rcases List.mem_cons.1 hq with rfl | hq
        · exact ⟨hN3 n (by omega),st2,hN2 n (by omega),g3⟩
        · exact hN1 n (by omega) q hq
    obtain ⟨N2,hN2⟩:=halt
    refine ⟨.normal,st1.cut live,h2,⟨max N (max N' N2),fun n hn' m hm=>?_⟩,fun Q' hQ'=>?_⟩
    · simp only [exec,execRegx,hN n (by omega)]
      rw [if_pos ⟨hn,hN' n (by omega),hN2 n (by omega)⟩]
    · simp only [wp];exact ⟨hn,hok,st1,h0,h1,hQ'⟩
  | .regw ops s t live,st,Q,h=>by
    simp only [wp] at h
    obtain ⟨st1,⟨st2,h1,h2⟩,⟨N,hN⟩,h3⟩:=WO_sound h
    refine ⟨.normal,st2.cut live,h2,⟨N,fun n hn m hm=>?_⟩,fun Q' hQ'=>?_⟩
    · simp only [exec,hN n hn,h1]
    · simp only [wp];exact h3 _ ⟨st2,h1,hQ'⟩
  | .seq a b,st,Q,h=>by
    simp only [wp] at h
    obtain ⟨ex,st1,h1,⟨N,hN⟩,h2⟩:=wp_sound h
    cases ex with
    | normal =>
      obtain ⟨ex2,st2,q1,⟨N2,hN2⟩,q2⟩:=wp_sound h1
      refine ⟨ex2,st2,q1,⟨max N N2,fun n hn m hm=>?_⟩,fun Q' hQ'=>?_⟩
      · simp only [exec,hN n (by omega) m (by omega),hN2 n (by omega) m (by omega)]
      · simp only [wp];exact h2 _ (q2 _ hQ')
    | exit id =>
      refine ⟨.exit id,st1,h1,⟨N,fun n hn m hm=>?_⟩,fun Q' hQ'=>?_⟩
      · simp only [exec,hN n hn m hm]
      · simp only [wp];exact h2 _ hQ'
    | ret =>
      refine ⟨.ret,st1,h1,⟨N,fun n hn m hm=>?_⟩,fun Q' hQ'=>?_⟩
      · simp only [exec,hN n hn m hm]
      · simp only [wp];exact h2 _ hQ'
  | .cond c a b,st,Q,h=>by
    simp only [wp] at h
    split at h
    rotate_left
    · exact h.elim
    rename_i t ht
    cases t with
    | true =>
      simp only [if_true] at h
      obtain ⟨ex,st1,h1,⟨N,hN⟩,h2⟩:=wp_sound h
      refine ⟨ex,st1,h1,⟨N,fun n hn m hm=>?_⟩,fun Q' hQ'=>?_⟩
      · simp only [exec,ht,if_true,hN n hn m hm]
      · simp only [wp,ht,if_true];exact h2 _ hQ'
    | false =>
      simp only [Bool.false_eq_true,if_false] at h
      obtain ⟨ex,st1,h1,⟨N,hN⟩,h2⟩:=wp_sound h
      refine ⟨ex,st1,h1,⟨N,fun n hn m hm=>?_⟩,fun Q' hQ'=>?_⟩
      · simp only [exec,ht,Bool.false_eq_true,if_false,hN n hn m hm]
      · simp only [wp,ht,Bool.false_eq_true,if_false];exact h2 _ hQ'
  | .block id b,st,Q,h=>by
    simp only [wp] at h
    obtain ⟨ex,st1,h1,⟨N,hN⟩,h2⟩:=wp_sound h
    cases ex with
    | normal =>
      refine ⟨.normal,st1,h1,⟨N,fun n hn m hm=>?_⟩,fun Q' hQ'=>?_⟩
      · simp only [exec,hN n hn m hm]
      · simp only [wp];exact h2 _ hQ'
    | ret =>
      refine ⟨.ret,st1,h1,⟨N,fun n hn m hm=>?_⟩,fun Q' hQ'=>?_⟩
      · simp only [exec,hN n hn m hm]
      · simp only [wp];exact h2 _ hQ'
    | exit i =>
      simp only at h1
      by_cases hi:i=id
      · rw [if_pos hi] at h1
        refine ⟨.normal,st1,h1,⟨N,fun n hn m hm=>?_⟩,fun Q' hQ'=>?_⟩
        · simp only [exec,hN n hn m hm,hi,if_true]
        · simp only [wp];exact h2 _ (by simp only [hi,if_true];exact hQ')
      · rw [if_neg hi] at h1
        refine ⟨.exit i,st1,h1,⟨N,fun n hn m hm=>?_⟩,fun Q' hQ'=>?_⟩
        · simp only [exec,hN n hn m hm,hi,if_false]
        · simp only [wp];exact h2 _ (by simp only [hi,if_false];exact hQ')
  | .loop b,st,Q,h=>by
    simp only [wp] at h
    obtain ⟨k,h⟩:=h
    have key:∀ (k:Nat) (st:St),loopN (wp tb b) Q k st→∃ ex st',Q ex st'∧(∃ N,∀ n,N≤n→∀ m,N≤m→∀ j,N≤j→iter (exec (callN tb n) m b) j st=some (ex,st'))∧∀ Q':Ex→St→Prop,Q' ex st'→loopN (wp tb b) Q' k st:=by
      intro k
      induction k with
      | zero=>intro st h;exact h.elim
      | succ k ih =>
        intro st h
        simp only [loopN] at h
        obtain ⟨ex,st1,h1,⟨N,hN⟩,h2⟩:=wp_sound h
        cases ex with
        | normal =>
          obtain ⟨ex2,st2,q1,⟨N2,hN2⟩,q2⟩:=ih st1 h1
          refine ⟨ex2,st2,q1,⟨max N N2+1,fun n hn m hm j hj=>?_⟩,fun Q' hQ'=>?_⟩
          · obtain ⟨j',rfl⟩:∃ j',j=j'+1:=⟨j - 1,by omega⟩
            simp only [iter,hN n (by omega) m (by omega),hN2 n (by omega) m (by omega) j' (by omega)]
          · simp only [loopN];exact h2 _ (q2 _ hQ')
        | exit i =>
          refine ⟨.exit i,st1,h1,⟨N+1,fun n hn m hm j hj=>?_⟩,fun Q' hQ'=>?_⟩
          · obtain ⟨j',rfl⟩:∃ j',j=j'+1:=⟨j - 1,by omega⟩
            simp only [iter,hN n (by omega) m (by omega)]
          · simp only [loopN];exact h2 _ hQ'
        | ret =>
          refine ⟨.ret,st1,h1,⟨N+1,fun n hn m hm j hj=>?_⟩,fun Q' hQ'=>?_⟩
          · obtain ⟨j',rfl⟩:∃ j',j=j'+1:=⟨j - 1,by omega⟩
            simp only [iter,hN n (by omega) m (by omega)]
          · simp only [loopN];exact h2 _ hQ'
    obtain ⟨ex,st',q1,⟨N,hN⟩,q2⟩:=key k st h
    exact ⟨ex,st',q1,⟨N,fun n hn m hm=>by simp only [exec];exact hN n hn m hm m hm⟩,fun Q' hQ'=>by simp only [wp];exact ⟨k,q2 Q' hQ'⟩⟩
  | .nilc ops x t live y,st,Q,h=>by
    simp only [wp] at h
    obtain ⟨st1,h1,⟨N,hN⟩,h3⟩:=WO_sound h
    unfold nilW at h1
    split at h1
    · rename_i he
      obtain ⟨ex,st2,q1,⟨N2,hN2⟩,q2⟩:=wp_sound h1
      refine ⟨ex,st2,q1,⟨max N N2,fun n hn m hm=>?_⟩,fun Q' hQ'=>?_⟩
      · simp only [exec,nilStep,hN n (by omega),he,hN2 n (by omega) m (by omega)]
      · simp only [wp];exact h3 _ (by unfold nilW;rw [he];exact q2 _ hQ')
    · rename_i he
      obtain ⟨ex,st',h1,h2,hQ⟩:=h1
      obtain ⟨_,_,⟨rfl,rfl⟩,⟨N1,hN1⟩,q1⟩:=wp_sound h1
      obtain ⟨_,_,⟨rfl,rfl⟩,⟨N2,hN2⟩,q2⟩:=wp_sound h2
      refine ⟨_,_,hQ,⟨max N (max N1 N2),fun n hn m hm=>?_⟩,fun Q' hQ'=>?_⟩
      · simp only [exec,nilStep,hN n (by omega),he,hN1 n (by omega) m (by omega),hN2 n (by omega) m (by omega),if_true]
      · simp only [wp];exact h3 _ (by unfold nilW;rw [he];exact ⟨_,_,h1,h2,hQ'⟩)
    · exact h1.elim
  | .rngb ops f x g live bid p q asg body,st,Q,h=>by
    simp only [wp] at h
    obtain ⟨s0,⟨es,c,xs,h1,h2,h3,h4,h5⟩,⟨N,hN⟩,hQ0⟩:=WO_sound h
    have key:∀ (T:Tm) (R:Ex→St→Prop) (l:List Int) (s:St),rngW (wp tb asg) (wp tb body) T p q R l s→∃ ex s',R ex s'∧(∃ N,∀ n,N≤n→∀ m,N≤m→rngGo (exec (callN tb n) m asg) (exec (callN tb n) m body) T p q l s=some (ex,s')) ∧
        ∀ R':Ex→St→Prop,R' ex s'→rngW (wp tb asg) (wp tb body) T p q R' l s:=by
      intro T R l
      induction l with
      | nil=>intro s h;exact ⟨.normal,_,h,⟨0,fun _ _ _ _=>rfl⟩,fun _ h=>h⟩
      | cons x r ih =>
        intro s h
        simp only [rngW] at h
        obtain ⟨exa,s1,⟨rfl,hb⟩,⟨Na,hNa⟩,ha⟩:=wp_sound h
        obtain ⟨exb,s2,hc,⟨Nb,hNb⟩,hb'⟩:=wp_sound hb
        cases exb with
        | normal =>
          obtain ⟨ex,s',k1,⟨Nc,hNc⟩,k2⟩:=ih _ hc
          refine ⟨ex,s',k1,⟨max Na (max Nb Nc),fun n hn m hm=>?_⟩,fun R' hR'=>?_⟩
          · simp only [rngGo,hNa n (by omega) m (by omega),hNb n (by omega) m (by omega),hNc n (by omega) m (by omega)]
          · simp only [rngW];exact ha _ ⟨rfl,hb' _ (k2 _ hR')⟩
        | exit e =>
          refine ⟨.exit e,_,hc,⟨max Na Nb,fun n hn m hm=>?_⟩,fun R' hR'=>?_⟩
          · simp only [rngGo,hNa n (by omega) m (by omega),hNb n (by omega) m (by omega)]
          · simp only [rngW];exact ha _ ⟨rfl,hb' _ hR'⟩
        | ret=>exact hc.elim
    obtain ⟨ex,s',k1,⟨N2,hN2⟩,k2⟩:=key _ _ _ _ h5
    have fin:∀ ex' s'',(match ex with | .exit e=>(if e=bid then Ex.normal else .exit e,s') | e=>(e,s'))=(ex',s'')→Q ex' s''→∃ ex st',Q ex st'∧Runs tb (.rngb ops f x g live bid p q asg body) st ex st'∧∀ Q':Ex→St→Prop,Q' ex st'→wp tb (.rngb ops f x g live bid p q asg body) st Q':=by
      intro ex' s'' he hq
      refine ⟨ex',s'',hq,⟨max N N2,fun n hn m hm=>?_⟩,fun Q' hQ'=>?_⟩
      · simp only [exec,rngStep,hN n (by omega),h1,h2]
        rw [if_pos ⟨h3,h4⟩,hN2 n (by omega) m (by omega)]
        cases ex <;> simp only [Prod.mk.injEq] at he ⊢ <;> (obtain ⟨rfl,rfl⟩:=he;rfl)
      · simp only [wp]
        refine hQ0 _ ⟨es,c,xs,h1,h2,h3,h4,k2 _ ?_⟩
        cases ex <;> simp only [Prod.mk.injEq] at he ⊢ <;> (obtain ⟨rfl,rfl⟩:=he;exact hQ')
    cases ex with
    | normal=>exact fin _ _ rfl k1
    | exit e=>exact fin _ _ rfl k1
    | ret=>exact fin _ _ rfl k1
  | .hole,st,Q,h=>by
    simp only [wp] at h
  | .ext g,st,Q,h=>by
    simp only [wp] at h
    obtain ⟨v,⟨N,h1⟩,h2⟩:=h
    exact ⟨.ret,_,h2,⟨N,fun n hn m _=>by simp only [exec,h1 n hn]⟩,fun Q' hQ'=>by simp only [wp];exact ⟨v,⟨N,h1⟩,hQ'⟩⟩
  | .ubx ops0 ops1 live y,st,Q,h=>by
    simp only [wp] at h
    obtain ⟨st1,h0,h1⟩:=h
    obtain ⟨N,hN⟩:=ubx_lim h0
    obtain ⟨ex,st2,q1,⟨N2,hN2⟩,q2⟩:=wp_sound h1
    refine ⟨ex,st2,q1,⟨max N N2,fun n hn m hm=>?_⟩,fun Q' hQ'=>?_⟩
    · simp only [exec,hN n (by omega)];exact hN2 n (by omega) m (by omega)
    · simp only [wp];exact ⟨st1,h0,q2 _ hQ'⟩
  | .nilc2 ops x t live y1 y2,st,Q,h=>by
    simp only [wp] at h
    obtain ⟨st1,h1,⟨N,hN⟩,h3⟩:=WO_sound h
    have two:∀ {st:St} {Q:Ex→St→Prop},(wp tb y1 st fun ex st'=>match ex with | .normal=>wp tb y2 st' Q | e=>Q e st')→∃ ex st',Q ex st'∧(∃ N,∀ n,N≤n→∀ m,N≤m→seqX (exec (callN tb n) m y1) (exec (callN tb n) m y2) st=some (ex,st'))∧∀ Q':Ex→St→Prop,Q' ex st'→(wp tb y1 st fun ex st'=>match ex with | .normal=>wp tb y2 st' Q' | e=>Q' e st'):=by
      intro st Q h
      obtain ⟨ex,st1,h1,⟨N,hN⟩,h2⟩:=wp_sound h
      cases ex with
      | normal =>
        obtain ⟨ex2,st2,q1,⟨N2,hN2⟩,q2⟩:=wp_sound h1
        exact ⟨ex2,st2,q1,⟨max N N2,fun n hn m hm=>by simp only [seqX,hN n (by omega) m (by omega),hN2 n (by omega) m (by omega)]⟩,fun Q' hQ'=>h2 _ (q2 _ hQ')⟩
      | exit id=>exact ⟨.exit id,st1,h1,⟨N,fun n hn m hm=>by simp only [seqX,hN n hn m hm]⟩,fun Q' hQ'=>h2 _ hQ'⟩
      | ret=>exact ⟨.ret,st1,h1,⟨N,fun n hn m hm=>by simp only [seqX,hN n hn m hm]⟩,fun Q' hQ'=>h2 _ hQ'⟩
    unfold nilW at h1
    split at h1
    · rename_i he
      obtain ⟨ex,st2,q1,⟨N2,hN2⟩,q2⟩:=two h1
      refine ⟨ex,st2,q1,⟨max N N2,fun n hn m hm=>?_⟩,fun Q' hQ'=>?_⟩
      · simp only [exec,nilStep,hN n (by omega),he];exact hN2 n (by omega) m (by omega)
      · simp only [wp];exact h3 _ (by unfold nilW;rw [he];exact q2 _ hQ')
    · rename_i he
      obtain ⟨ex,st',h1,h2,hQ⟩:=h1
      obtain ⟨_,_,⟨rfl,rfl⟩,⟨N1,hN1⟩,q1⟩:=two h1
      obtain ⟨_,_,⟨rfl,rfl⟩,⟨N2,hN2⟩,q2⟩:=two h2
      refine ⟨_,_,hQ,⟨max N (max N1 N2),fun n hn m hm=>?_⟩,fun Q' hQ'=>?_⟩
      · simp only [exec,nilStep,hN n (by omega),he]
        rw [hN1 n (by omega) m (by omega),hN2 n (by omega) m (by omega)]
        simp
      · simp only [wp];exact h3 _ (by unfold nilW;rw [he];exact ⟨_,_,h1,h2,hQ'⟩)
    · exact h1.elim
theorem wp_loop {b:IC} {st:St} {Q:Ex→St→Prop} (h:wp tb b st fun ex st'=>match ex with
    | .normal=>wp tb (.loop b) st' Q
    | e=>Q e st'):wp tb (.loop b) st Q:=by
  obtain ⟨ex,st',h1,-,h2⟩:=wp_sound h
  cases ex with
  | normal =>
    simp only [wp] at h1
    obtain ⟨k,hk⟩:=h1
    exact ⟨k+1,h2 _ hk⟩
  | exit i=>exact ⟨1,h2 _ h1⟩
  | ret=>exact ⟨1,h2 _ h1⟩
def finish (f:IFun) (lent:List Nat) (st:St):Option Ret:=match st.retvs f.res with
  | some (vs,st)=>match st.backs lent with
    | some (back,st)=>st.leave (packRes vs) back
    | none=>none
  | none=>none
theorem call_of_wp {f:Lab} {fn:IFun} (hf:tb f=some fn) {lent:List Nat} {args:List IV} {M:List Boxes} {r:Ret} (hl:lent.all fn.keep.contains=true)
    (h:wp tb fn.body { T:=args.zipIdx.map fun (v,i)=>(i,v),loc:=[],M:=M } fun ex st=>(ex=.normal ∨ ex=.ret)∧finish fn lent st=some r):Ev tb f lent args M r:=by
  obtain ⟨ex,st',⟨h1,h2⟩,⟨N,hN⟩,-⟩:=wp_sound h
  refine ⟨N+1,fun n hn=>?_⟩
  obtain ⟨n',rfl⟩:∃ n',n=n'+1:=⟨n - 1,by omega⟩
  simp only [callN,hf,runFun,hl,Bool.not_true,Bool.false_eq_true,if_false,hN n' (by omega) n' (by omega)]
  unfold finish at h2
  rcases h1 with rfl | rfl <;> exact h2
end
end Go.Idl
namespace Go.Idl
open Go
abbrev I (n:Int):IV:=.sc (.int .i64 n)
abbrev Bo (b:Bool):IV:=.sc (.bool b)
def ints (xs:List Int):List (List IV):=xs.map fun n=>[I n]
section
variable {tb:Tbl} {st:St} {Q Q':Ex→St→Prop}
theorem wp_reg {ops live st1 st2} (h:execOps (limF tb) st ops=some st1) (hc:st1.cut live=st2) (hq:Q .normal st2):wp tb (.reg ops live []) st Q:=by
  subst hc
  exact ⟨st1,h,by simp,hq⟩
theorem wp_rs {ops live b st1 st2} (h:execOps (limF tb) st ops=some st1) (hc:st1.cut live=st2) (hb:wp tb b st2 Q):wp tb (.seq (.reg ops live []) b) st Q :=
  by simp only [wp];exact wp_reg (Q:=fun ex st'=>match ex with | .normal=>wp tb b st' Q | e=>Q e st') h hc hb
theorem wp_ra {ops live alts b st1 st2} (h:execOps (limF tb) st ops=some st1) (hc:st1.cut live=st2) (ha:∀ p ∈ alts,∃ st3,execOps (limF tb) st (inOrder ops p)=some st3∧st3.cut live=st2) (hb:wp tb b st2 Q):wp tb (.seq (.reg ops live alts) b) st Q:=by
  subst hc
  simp only [wp]
  exact ⟨st1,h,ha,hb⟩
theorem wp_rega {ops live alts st1 st2} (h:execOps (limF tb) st ops=some st1) (hc:st1.cut live=st2) (ha:∀ p ∈ alts,∃ st3,execOps (limF tb) st (inOrder ops p)=some st3∧st3.cut live=st2) (hq:Q .normal st2):wp tb (.reg ops live alts) st Q:=by
  subst hc
  exact ⟨st1,h,ha,hq⟩
theorem wp_as {a b c} (h:wp tb (.seq a (.seq b c)) st Q):wp tb (.seq (.seq a b) c) st Q:=by
  simp only [wp] at h ⊢
  obtain ⟨ex,st1,h1,-,h2⟩:=wp_sound h
  refine h2 _ ?_
  cases ex <;> exact h1
theorem wp_imp {c} (h:wp tb c st Q) (hq:∀ ex st',Q ex st'→Q' ex st'):wp tb c st Q':=by
  obtain ⟨ex,st',h1,-,h2⟩:=wp_sound h
  exact h2 _ (hq _ _ h1)
end
theorem wrap64 {n:Int} (h:-9223372036854775808≤n) (h':n < 9223372036854775808):IntKind.i64.wrap n=n:=by
  have e1:(2:Int) ^ IntKind.i64.bits=18446744073709551616:=by decide
  have e2:(2:Int) ^ (IntKind.i64.bits - 1)=9223372036854775808:=by decide
  have e3:IntKind.i64.signed=true:=rfl
  unfold IntKind.wrap
  rw [e1,e2,e3]
  simp only [Bool.true_and,decide_eq_true_eq,ge_iff_le]
  split <;> omega
theorem natOf_nat {k:IntKind} {n:Nat}:natOf (.sc (.int k (n:Int)))=some n:=by simp [natOf]
@[simp] theorem ints_get? (xs:List Int) (i:Nat):(ints xs)[i]? = xs[i]?.map fun n=>[IV.sc (.int .i64 n)]:=by simp [ints]
@[simp] theorem ints_get (xs:List Int) (i:Nat) (h:i < (ints xs).length):(ints xs)[i]=[IV.sc (.int .i64 (xs[i]'(by simpa [ints] using h)))]:=by simp [ints]
section
variable {tb:Tbl} {st:St} {Q Q':Ex→St→Prop}
theorem wp_ret' (h:Q .ret st):wp tb .ret st Q:=h
theorem wp_skip' (h:Q .normal st):wp tb .skip st Q:=h
theorem wp_exit' {id} (h:Q (.exit id) st):wp tb (.exit id) st Q:=h
theorem wp_ct {c a b d t} (hc:rd st.T c=.sc (.bool t)) (h1:t=true→wp tb (.seq a d) st Q) (h2:t=false→wp tb (.seq b d) st Q):wp tb (.seq (.cond c a b) d) st Q:=by
  simp only [wp,hc] at *
  cases t
  · simpa using h2 rfl
  · simpa using h1 rfl
theorem wp_c {c a b t} (hc:rd st.T c=.sc (.bool t)) (h1:t=true→wp tb a st Q) (h2:t=false→wp tb b st Q):wp tb (.cond c a b) st Q:=by
  simp only [wp,hc] at *
  cases t
  · simpa using h2 rfl
  · simpa using h1 rfl
theorem wp_ss {b} (h:wp tb b st Q):wp tb (.seq .skip b) st Q:=h
theorem wp_sr {b} (h:Q .ret st):wp tb (.seq .ret b) st Q:=h
theorem wp_sx {id b} (h:Q (.exit id) st):wp tb (.seq (.exit id) b) st Q:=h
theorem wp_bs {id b c} (h:wp tb b st fun ex st'=>match ex with
    | .normal=>wp tb c st' Q
    | .exit i=>if i=id then wp tb c st' Q else Q (.exit i) st'
    | .ret=>Q .ret st'):wp tb (.seq (.block id b) c) st Q:=by
  simp only [wp]
  refine wp_imp h fun ex st' hh=>?_
  cases ex with
  | normal=>exact hh
  | ret=>exact hh
  | exit i =>
    simp only at hh ⊢
    split
    · rename_i hi;rw [if_pos hi] at hh;exact hh
    · rename_i hi;rw [if_neg hi] at hh;exact hh
theorem wp_b {id b} (h:wp tb b st fun ex st'=>match ex with
    | .normal=>Q .normal st'
    | .exit i=>if i=id then Q .normal st' else Q (.exit i) st'
    | .ret=>Q .ret st'):wp tb (.block id b) st Q:=by
  simp only [wp]
  refine wp_imp h fun ex st' hh=>?_
  cases ex <;> exact hh
theorem wp_nil2 {ops x t live y1 y2 st1 b ex st'} (h:execOps (limF tb) st ops=some st1) (he:emptyL (rd st1.T x)=some b) (hf:wp tb (.seq y1 y2) (st1.flag t false live) (fun e s=>e=ex∧s=st'))
    (ht:b=true→wp tb (.seq y1 y2) (st1.flag t true live) (fun e s=>e=ex∧s=st')) (hq:Q ex st'):wp tb (.nilc2 ops x t live y1 y2) st Q:=by
  simp only [wp] at *
  refine ⟨st1,h,?_⟩
  unfold nilW
  cases b with
  | false =>
    rw [he]
    obtain ⟨e,s,⟨rfl,rfl⟩,-,h2⟩:=wp_sound (c:=.seq y1 y2) (by simp only [wp];exact hf)
    have:=h2 Q hq
    simpa only [wp] using this
  | true=>rw [he];exact ⟨ex,st',ht rfl,hf,hq⟩
end
theorem frz_ints (xs:List Int):frzLL (ints xs)=ints xs:=by
  induction xs with
  | nil=>rfl
  | cons x xs ih=>simp only [ints,List.map_cons,frzLL,frzL,frzV] at *;rw [ih]
attribute [simp] execOps execOp1 ev rd tget viewOf binV tput IV.holds tk cv cv1 slen restrict kl kl1 klc rootOut IV.rooted killRt killBy dropSlot St.cut vcells eqCells pack sub natOf_nat bound slcV St.sview St.plc St.rcells IV.cells fol St.loadCells
  emptyL St.flag putI inOrder isSc IV.isSc IV.plain1 IV.plain IV.isOwn
@[simp] theorem ints_len (xs:List Int):(ints xs).length=xs.length:=by simp [ints]
@[simp] theorem ints_nil:ints []=[]:=rfl
@[simp] theorem ints_app (xs ys:List Int):ints xs++ints ys=ints (xs++ys):=by simp [ints]
@[simp] theorem ints_one (xs:List Int) (n:Int):ints xs++[[IV.sc (.int .i64 n)]]=ints (xs++[n]):=by simp [ints]
@[simp] theorem ints_set (xs:List Int) (i:Nat) (v:Int):(ints xs).set i [IV.sc (.int .i64 v)]=ints (xs.set i v):=by
  simp [ints,List.map_set]
@[simp] theorem ints_take (xs:List Int) (n:Nat):(ints xs).take n=ints (xs.take n):=by simp [ints,List.map_take]
@[simp] theorem ints_drop (xs:List Int) (n:Nat):(ints xs).drop n=ints (xs.drop n):=by simp [ints,List.map_drop]
@[simp] theorem ints_emp (xs:List Int):(ints xs).isEmpty=xs.isEmpty:=by cases xs <;> rfl
@[simp] theorem ints_all1 (xs:List Int):((ints xs).all fun x=>x.all IV.plain1)=true:=by
  induction xs with
  | nil=>rfl
  | cons x xs ih=>simp only [ints,List.map_cons,List.all_cons] at *;rw [ih];rfl
@[simp] theorem ints_all2 (xs:List Int):((ints xs).all fun x=>x.all IV.isData)=true:=by
  induction xs with
  | nil=>rfl
  | cons x xs ih=>simp only [ints,List.map_cons,List.all_cons] at *;rw [ih];rfl
@[simp] theorem ints_noLst (xs:List Int):noLstLL (ints xs)=true:=by
  induction xs with
  | nil=>rfl
  | cons x xs ih=>simp only [ints,List.map_cons,noLstLL,noLstL,noLstV] at *;rw [ih];rfl
@[simp] theorem natOf_succ {k:IntKind} {n:Nat}:natOf (.sc (.int k ((n:Int)+1)))=some (n+1):=natOf_nat (n:=n+1)
@[simp] theorem natOf_zero {k:IntKind}:natOf (.sc (.int k 0))=some 0:=rfl
@[simp] theorem natOf_one {k:IntKind}:natOf (.sc (.int k 1))=some 1:=rfl
@[simp] theorem limF_ev {tb:Tbl} {f lent args M r} (h:Ev tb f lent args M r):limF tb f lent args M=some r:=ev_lim h
theorem wrapN {n:Nat} (h:n < 9223372036854775808):IntKind.i64.wrap (n:Int)=(n:Int):=wrap64 (by omega) (by omega)
theorem wrapS {n:Nat} (h:n+1 < 9223372036854775808):IntKind.i64.wrap ((n:Int)+1)=((n+1:Nat):Int):=by
  rw [wrap64 (by omega) (by omega)];rfl
attribute [simp] ownZ St.callP IV.isBack aggRoot scEq shows St.fillElems elemsOf St.news St.append IV.wcells lim fillCells IV.okPart tkKill St.storeCells St.callWith St.callWithH IV.rootL St.args St.args1 St.arg1 ldSlot St.args2 St.arg2 St.seen St.seens St.lentBack IV.free IV.free1 lents isLd noLstV noLstL noLstLL frzV frzL frzLL frz_ints pureRun scInt bytesOf IV.isBptr elemsOf
@[simp] theorem getLast_ca {α} (a x:α) (m:List α):(a::(m++[x])).getLast? = some x:=by
  rw [← List.cons_append,List.getLast?_append];rfl
@[simp] theorem dropLast_ca {α} (a x:α) (m:List α):(a::(m++[x])).dropLast=a::m:=by
  rw [← List.cons_append,List.dropLast_concat]
@[simp] theorem unary_not (b:Bool):Op.unary .not (.bool b)=.pure (.bool !b):=rfl
attribute [simp] killBoxes IV.rootB
attribute [simp] St.callM lendOf wrapL unwrapL IV.isArr ubxShape ubxStep
attribute [simp] finish St.retvs St.retv packRes St.backs St.leave St.absorb St.absorbs St.absorbsK killOf IV.lvl okRet IV.okLvl IV.isData St.setPlc setCellOf fset splice St.box St.setBox
def dstOwns (st:St):Option Nat→Bool
  | some d=>(tget st.T d).holds
  | none=>false
def execOpsQ (cf:CF):St→List IOp→Option St
  | st,[]=>some st
  | st,o::r=>match execOp1 cf st o with
    | some st1=>if (quietN o.k && dstOwns st1 o.dst)=true then none else execOpsQ cf st1 r
    | none=>none
def nrT (ds:List Nat) (T:Tm):Bool:=T.all fun p=>nrV ds p.2
def execOpsX (cf:CF) (ds:List Nat):St→List IOp→Option St
  | st,[]=>if nrT ds st.T=true then some st else none
  | st,o::r=>if (nrT ds st.T && effIn ds st.T o)=true then match execOp1 cf st o with
    | some st1=>if (quietN o.k && dstOwns st1 o.dst)=true then none else execOpsX cf ds st1 r
    | none=>none
    else none
section
variable {tb:Tbl} {st:St} {Q:Ex→St→Prop}
end
attribute [simp] St.freezeBox execOpsQ quietK quietN plainK dstOwns execOpsX nrT nrV nrA nr1 effOk effIn noArrO noArr noArr1 effK qX unV freshX fillRd
section
variable {tb:Tbl} {st:St} {Q:Ex→St→Prop}
theorem wr {ops live b st1 st2} (h:execOps (limF tb) st ops=some st1) (hb:wp tb b st2 Q) (hc:st1.cut live=st2:=by simp;with_reducible rfl):wp tb (.seq (.reg ops live []) b) st Q:=wp_rs h hc hb
theorem wq {ops live st1 st2} (h:execOps (limF tb) st ops=some st1) (hq:Q .normal st2) (hc:st1.cut live=st2:=by simp;with_reducible rfl):wp tb (.reg ops live []) st Q:=wp_reg h hc hq
theorem wt {c a b d} (hc:rd st.T c=.sc (.bool true)) (h:wp tb (.seq a d) st Q):wp tb (.seq (.cond c a b) d) st Q:=wp_ct (t:=true) hc (fun _=>h) (fun h=>nomatch h)
theorem wf {c a b d} (hc:rd st.T c=.sc (.bool false)) (h:wp tb (.seq b d) st Q):wp tb (.seq (.cond c a b) d) st Q:=wp_ct (t:=false) hc (fun h=>nomatch h) (fun _=>h)
theorem xt {c a b} (hc:rd st.T c=.sc (.bool true)) (h:wp tb a st Q):wp tb (.cond c a b) st Q:=wp_c (t:=true) hc (fun _=>h) (fun h=>nomatch h)
theorem xf {c a b} (hc:rd st.T c=.sc (.bool false)) (h:wp tb b st Q):wp tb (.cond c a b) st Q:=wp_c (t:=false) hc (fun h=>nomatch h) (fun _=>h)
end
end Go.Idl
namespace Go.Idl
def extKeys (D:List Int):List (List IV)→Option (List (Int×Int))
  | []=>some []
  | [.sc (.int .i64 a),.sc (.int .i64 b)]::r=>if 0≤a∧a.toNat < D.length∧0≤b∧b.toNat < D.length then (match extKeys D r with
    | some ks=>some ((min (D.getD a.toNat 0) (D.getD b.toNat 0),max (D.getD a.toNat 0) (D.getD b.toNat 0))::ks)
    | none=>none) else none
  | _=>none
def cntK (ks:List (Int×Int)):List (Int×Int×Int):=ks.eraseDups.map fun k=>(k.1,k.2,(ks.count k:Int))
def rowsJ (l:List (Int×Int×Int)):List (List IV):=l.map fun x=>[.sc (.int .i64 x.1),.sc (.int .i64 x.2.1),.sc (.int .i64 x.2.2)]
open Classical in
noncomputable def ext_impl_JointOf (lv ld ls lf:Lab) (cf:CF):List IV→Option IV
  | [.agg [.sc (.int .i64 n),.lst e es c]]=>match cf lv [] [.agg [.sc (.int .i64 n),.lst e es c]] [] with
    | some ⟨.sc (.bool false),[],[],[]⟩=>some (.own 3 [])
    | some ⟨.sc (.bool true),[],[],[]⟩=>match cf ld [] [.agg [.sc (.int .i64 n),.lst e es c]] [] with
      | some ⟨.own 1 ds,[],[],[]⟩=>match intsOf ds with
        | some D=>match extKeys D es with
          | some ks=>if es.length≤1000∧∀ x ∈ D,0≤x∧x≤1000 then
              (if h:∃ R:List (Int×Int×Int),∀ π,π.Perm (cntK ks)→cf ls [0] [.own 3 (rowsJ π),.fn lf []] []=some ⟨.tup [],[.own 3 (rowsJ R)],[],[]⟩ then some (.own 3 (rowsJ (Classical.choose h))) else none) else none
          | none=>none
        | none=>none
      | _=>none
    | _=>none
  | _=>none
def ext_slices_Repeat_Sint_int_ (_:CF):List IV→Option IV
  | [.lst 1 [[.sc (.int .i64 x)]] _,.sc (.int .i64 k)]=>if 0≤k∧k≤1000 then some (.own 1 (List.replicate k.toNat [.sc (.int .i64 x)])) else none
  | _=>none
end Go.Idl
