/- Part 3 of a proof by an ideal interpreter of the code: its definitions and lemmas. Conditions: none. -/
import Derived.Below
import Derived.LoopN
import Derived.Scope
import Derived.Test.YtfheodjhbaaalaaA2
set_option linter.all false
set_option linter.unusedVariables false
set_option linter.unusedSimpArgs false
namespace Go.Idl
open Go
def Qch:Opd→List Nat
 | .t s=>[s]
 | _=>[]
def Qzz:Option Opd→List Nat
 | some o=>Qch o
 | none=>[]
def K.useL:K→List Nat
 | .mv x | .mvo _ x | .asg x | .asgm x | .asgf x | .clr x _ | .clrs x _ | .box x | .nilck x | .unop _ x | .conv _ x | .fadr _ x | .fld _ _ _ x | .extr x _ | .len x | .lens x | .capn x | .load _ _ x | .loadf _ _ x=>Qch x
 | .pick a b c=>Qch a++(Qch b++Qch c)
 | .alloc _ | .halt | .nilo _=>[]
 | .build _ ps=>ps.flatMap fun p=>Qch p.2.2
 | .bsl _ _ _ ps | .bsls _ _ _ ps=>ps.flatMap fun p=>Qch p.2
 | .store _ a x | .storef _ a x | .bin _ a x | .eqa _ _ a x | .eqb _ a x | .iadr _ a x | .idxs a x | .app _ a x | .appi _ a x | .minmax _ a x | .mksl _ _ a x=>Qch a++Qch x
 | .mkfn _ cs=>cs.flatMap Qch
 | .slc _ x a b c=>Qch x++(Qzz a++(Qzz b++Qzz c))
 | .slcs x a b | .slcb _ x a b=>Qch x++(Qzz a++Qzz b)
 | .call _ as _ | .callq _ as | .callh _ as=>as.flatMap fun a=>Qch a.2
 | .callp _ x=>Qch x
 | .callm _ x k | .callz _ x k=>Qch x++Qch k
 | .callv f as=>Qch f++as.flatMap fun a=>Qch a.2
def Qd9:K→Bool
 | .alloc _ | .box _ | .callv .. | .callh .. | .callp .. | .callm .. | .callz ..=>false
 | .call _ _ p=>p
 | _=>true
structure Sim (D:Nat→Prop) (P:IV→Prop) (L:Qal) (st st':St):Prop where
 T:∀ s,¬ D s→Qak st'.T s=Qak st.T s
 Q:∀ s,D s→P (Qak st'.T s)
 H:∀ s,D s→(Qak st.T s).holds=false
 M:st'.M=st.M
 loc:st'.loc=st.loc++L
def Shp (st st':St):Prop:=st'.M.length=st.M.length∧st'.loc.length=st.loc.length
theorem Shp.refl (st:St):Shp st st:=⟨rfl,rfl⟩
theorem Shp.trans {a b c:St} (h:Shp a b) (h':Shp b c):Shp a c:=⟨h'.1.trans h.1,h'.2.trans h.2⟩
section
variable {D:Nat→Prop} {P:IV→Prop} {L:Qal} {st st' st1:St}
theorem Qxx {p:IV→Bool} {x:IV} (h:x.isOwn=false):(klc p x).isOwn=false:=by
 unfold klc;split
 · rfl
 · exact h
theorem Qp8 {p:IV→Bool} {x:IV} (h:x.holds=false):(kl p x).holds=false:=by
 cases x with
 | tup vs=>simp [IV.holds] at h
 | agg cs =>
   simp only [IV.holds,kl,kl1] at h ⊢
   rw [List.any_eq_false] at h ⊢
   intro y hy
   obtain ⟨z,hz,rfl⟩:=List.mem_map.1 hy
   have:=h z hz
   simp only [Bool.not_eq_true] at this ⊢
   exact Qxx this
 | own e es=>simp [IV.holds] at h
 | _=>simp only [kl,kl1,klc];split <;> rfl
theorem Sim.kill (h:Sim D P L st st') (hP:∀ q,Qaj q→∀ x,P x→P (kl q x)) {q:IV→Bool} (hq:Qaj q):Sim D P L { st with T:=Qas q st.T } { st' with T:=Qas q st'.T } :=
 ⟨fun s hs=>by simp only [Qai,h.T s hs],fun s hs=>by simp only [Qai];exact hP q hq _ (h.Q s hs),fun s hs=>by simp only [Qai];exact Qp8 (h.H s hs),h.M,h.loc⟩
theorem Sim.cons (h:Sim D P L st st') {s:Nat} (hs:¬ D s) (v:IV):Sim D P L { st with T:=(s,v)::st.T } { st' with T:=(s,v)::st'.T }:=by
 refine ⟨fun t ht=>?_,fun t ht=>?_,fun t ht=>?_,h.M,h.loc⟩
 · simp only [Qak];split
   · rfl
   · exact h.T t ht
 · simp only [Qak];split
   · rename_i he;exact absurd (he ▸ ht) hs
   · exact h.Q t ht
 · simp only [Qak];split
   · rename_i he;exact absurd (he ▸ ht) hs
   · exact h.H t ht
theorem Sim.dropSlot (h:Sim D P L st st') (hP:∀ q,Qaj q→∀ x,P x→P (kl q x)) {s:Nat} (hs:¬ D s):Sim D P L { st with T:=dropSlot s st.T } { st' with T:=dropSlot s st'.T } :=
 (h.kill hP (.rooted (.S s))).cons hs .un
theorem Sim.tput (h:Sim D P L st st') (hP:∀ q,Qaj q→∀ x,P x→P (kl q x)) {s:Nat} (hs:¬ D s) (v:IV):Sim D P L { st with T:=tput st.T s v } { st' with T:=tput st'.T s v }:=by
 unfold Idl.tput
 rw [h.T s hs]
 split
 · exact (h.kill hP (.rooted (.S s))).cons hs _
 · exact h.cons hs v
theorem Sim.putI (h:Sim D P L st st') (hP:∀ q,Qaj q→∀ x,P x→P (kl q x)) {d:Option Nat} (hs:∀ s,d=some s→¬ D s) (v:IV):Sim D P L (match d with | some s=>{ st with T:=Idl.tput st.T s v } | none=>st) (match d with | some s=>{ st' with T:=Idl.tput st'.T s v } | none=>st'):=by
 cases d with
 | none=>exact h
 | some s=>exact h.tput hP (hs s rfl) v
abbrev NoU (D:Nat→Prop) (l:List Nat):Prop:=∀ s ∈ l,¬ D s
theorem Sim.rd (h:Sim D P L st st') {o:Opd} (ho:NoU D (Qch o)):rd st'.T o=rd st.T o:=by
 cases o with
 | t s=>simp only [Idl.rd,h.T s (ho s (by simp [Qch]))]
 | c v=>rfl
 | f l=>rfl
theorem Sim.tk (h:Sim D P L st st') (hP:∀ q,Qaj q→∀ x,P x→P (kl q x)) {o:Opd} (ho:NoU D (Qch o)) {v:IV} {T:Tm} (ht:tk st.T o=(v,T)) :
 ∃ T',Idl.tk st'.T o=(v,T')∧Sim D P L { st with T:=T } { st' with T:=T' }:=by
 cases o with
 | t s =>
   have hs:=ho s (by simp [Qch])
   simp only [Idl.tk,h.T s hs] at ht ⊢
   split at ht
   · rename_i hh
     rw [if_pos hh]
     simp only [Qpi] at ht
     obtain ⟨rfl,rfl⟩:=ht
     exact ⟨_,rfl,h.dropSlot hP hs⟩
   · rename_i hh
     rw [if_neg hh]
     simp only [Qpi] at ht
     obtain ⟨rfl,rfl⟩:=ht
     exact ⟨_,rfl,h⟩
 | c v=>simp only [Idl.tk,Qpi] at ht ⊢;obtain ⟨rfl,rfl⟩:=ht;exact ⟨_,⟨rfl,rfl⟩,h⟩
 | f l=>simp only [Idl.tk,Qpi] at ht ⊢;obtain ⟨rfl,rfl⟩:=ht;exact ⟨_,⟨rfl,rfl⟩,h⟩
theorem Sim.box (h:Sim D P L st st') {l k:Nat} {cs:List IV} (hb:st.box l k=some cs):st'.box l k=some cs:=by
 unfold St.box at *
 rw [h.M]
 split at hb
 · rename_i hl
   rw [if_pos hl,h.loc,List.getElem?_append_left (List.getElem?_eq_some_iff.1 hb).1];exact hb
 · rename_i hl
   rw [if_neg hl];exact hb
theorem Sim.setBox (h:Sim D P L st st') {l k:Nat} {cs cs':List IV} (hb:st.box l k=some cs):Sim D P L (st.setBox l k cs') (st'.setBox l k cs')∧Shp st (st.setBox l k cs'):=by
 unfold St.box at hb
 unfold St.setBox
 rw [h.M]
 split at hb
 · rename_i hl
   have hlt:=(List.getElem?_eq_some_iff.1 hb).1
   rw [if_pos hl,if_pos hl]
   exact ⟨⟨h.T,h.Q,h.H,rfl,by simp only [h.loc];rw [List.set_append_left _ _ hlt]⟩,⟨rfl,by simp⟩⟩
 · rename_i hl
   rw [if_neg hl,if_neg hl]
   split at hb
   · exact ⟨⟨h.T,h.Q,h.H,by simp only [h.M],h.loc⟩,⟨by simp,rfl⟩⟩
   · cases hb
theorem Qnq (st:St) (l k:Nat) (cs:List IV):(st.setBox l k cs).T=st.T:=by
 unfold St.setBox;split
 · rfl
 · split <;> rfl
theorem Jf5 {x:IV} {p:Qf9} {e:Nat} {es:List (List IV)} (h:fol x p=some (.own e es)):∃ e' es',x=.own e' es':=by
 cases p with
 | nil=>simp only [fol,Qoi] at h;exact ⟨_,_,h⟩
 | cons a p =>
   obtain ⟨i,j⟩:=a
   cases x <;> simp only [fol] at h <;> first | exact ⟨_,_,rfl⟩ | cases h
theorem Qwt {x:IV} {c e:Nat} {es:List (List IV)} (h:x.cells[c]? = some (.own e es)):x.holds=true:=by
 cases x with
 | agg cs =>
   simp only [IV.cells] at h
   simp only [IV.holds,List.any_eq_true]
   exact ⟨_,List.mem_of_getElem? h,rfl⟩
 | tup vs=>rfl
 | own e es=>rfl
 | _=>cases c <;> simp [IV.cells] at h
theorem Sim.plc (h:Sim D P L st st') {r:Rt} {c:Nat} {p:Qf9} {e:Nat} {es:List (List IV)} (hp:st.plc r c p=some (.own e es)):st'.plc r c p=some (.own e es)∧(∀ s,r=.S s→¬ D s)∧∃ cs x,st.rcells r=some cs∧st'.rcells r=some cs∧cs[c]? = some x∧fol x p=some (.own e es):=by
 unfold St.plc at hp
 split at hp
 rotate_left
 · cases hp
 rename_i cs hcs
 split at hp
 rotate_left
 · cases hp
 rename_i x hx
 have hD:∀ s,r=.S s→¬ D s:=by
  rintro s rfl hs
  simp only [St.rcells,Qoi] at hcs
  subst hcs
  obtain ⟨e',es',rfl⟩:=Jf5 hp
  have:=h.H s hs
  rw [Qwt hx] at this
  cases this
 have hcs':st'.rcells r=some cs:=by
  cases r with
  | S s=>simp only [St.rcells,h.T s (hD s rfl)] at hcs ⊢;exact hcs
  | B l k=>exact h.box hcs
 refine ⟨?_,hD,cs,x,hcs,hcs',hx,hp⟩
 unfold St.plc
 rw [hcs'];simp only [hx];exact hp
theorem Sim.setPlc (h:Sim D P L st st') {r:Rt} {c:Nat} {p:Qf9} {e:Nat} {es:List (List IV)} (hp:st.plc r c p=some (.own e es)) {y:IV} (hs:st.setPlc r c p y=some st1) :
 ∃ st1',st'.setPlc r c p y=some st1'∧Sim D P L st1 st1'∧Shp st st1:=by
 obtain ⟨-,hD,cs,x,h1,h2,h3,h4⟩:=h.plc hp
 unfold St.setPlc at hs ⊢
 simp only [h1,h2,h3] at hs ⊢
 split at hs
 rotate_left
 · cases hs
 cases r with
 | S s =>
   simp only [Qoi] at hs ⊢
   subst hs
   rw [h.T s (hD s rfl)]
   exact ⟨_,rfl,h.cons (hD s rfl) _,.refl _⟩
 | B l k =>
   simp only [Qoi] at hs ⊢
   subst hs
   obtain ⟨q1,q2⟩:=h.setBox (cs':=cs.set c _) (show st.box l k=some cs from h1)
   exact ⟨_,rfl,q1,q2⟩
theorem Sim.absorb (h:Sim D P L st st') (hP:∀ q,Qaj q→∀ x,P x→P (kl q x)) {x y:IV} (ha:st.absorb x=some (y,st1)):∃ st1',st'.absorb x=some (y,st1')∧Sim D P L st1 st1'∧Shp st st1:=by
 cases x with
 | arr r c p e off n cl =>
   simp only [St.absorb] at ha ⊢
   split at ha
   rotate_left
   · cases ha
   rename_i e1 es hpl
   rw [(h.plc hpl).1]
   simp only
   split at ha
   rotate_left
   · cases ha
   rename_i hle
   rw [if_pos hle]
   split at ha
   rotate_left
   · cases ha
   rename_i st2 hs
   simp only [Qoi,Qpi] at ha
   obtain ⟨rfl,rfl⟩:=ha
   obtain ⟨st2',q1,q2,q3⟩:=h.setPlc hpl hs
   rw [q1]
   exact ⟨_,rfl,q2.kill hP (.rooted r),q3⟩
 | eptr r c p i j=>simp [St.absorb] at ha
 | lptr e j=>simp [St.absorb] at ha
 | agg cs=>simp [St.absorb] at ha
 | tup vs=>simp [St.absorb] at ha
 | un=>simp [St.absorb] at ha
 | _ =>
   simp only [St.absorb,Qoi,Qpi] at ha ⊢
   obtain ⟨rfl,rfl⟩:=ha
   exact ⟨_,⟨rfl,rfl⟩,h,.refl _⟩
theorem Sim.absorbsK (hP:∀ q,Qaj q→∀ x,P x→P (kl q x)):∀ {xs ys:List IV} {pk:IV→Bool} {st st' st1:St},Sim D P L st st'→st.absorbsK pk xs=some (ys,st1)→∃ st1',st'.absorbsK pk xs=some (ys,st1')∧Sim D P L st1 st1'∧Shp st st1
 | [],ys,pk,st,st',st1,h,ha=>by
   simp only [St.absorbsK,Qoi,Qpi] at ha ⊢
   obtain ⟨rfl,rfl⟩:=ha
   exact ⟨_,⟨rfl,rfl⟩,h,.refl _⟩
 | x::xs,ys,pk,st,st',st1,h,ha=>by
   simp only [St.absorbsK] at ha ⊢
   split at ha
   rotate_left
   · cases ha
   rename_i y st2 h1
   obtain ⟨st2',q1,q2,q3⟩:=h.absorb hP h1
   split at ha
   rotate_left
   · cases ha
   rename_i ys2 st3 h2
   simp only [Qoi,Qpi] at ha
   obtain ⟨rfl,rfl⟩:=ha
   obtain ⟨st3',r1,r2,r3⟩:=Sim.absorbsK hP q2 h2
   simp only [q1,r1]
   exact ⟨_,rfl,r2,q3.trans r3⟩
theorem Sim.absorbs (h:Sim D P L st st') (hP:∀ q,Qaj q→∀ x,P x→P (kl q x)) {xs ys:List IV} (ha:st.absorbs xs=some (ys,st1)):∃ st1',st'.absorbs xs=some (ys,st1')∧Sim D P L st1 st1'∧Shp st st1 :=
 Sim.absorbsK hP h ha
theorem Sim.sview (h:Sim D P L st st') {x:IV} {r:Nat×List (List IV)} (hs:st.sview x=some r):st'.sview x=some r:=by
 cases x <;> simp only [St.sview] at hs ⊢ <;> first | exact hs | cases hs | skip
 split at hs
 rotate_left
 · cases hs
 rename_i e es hp
 rw [(h.plc hp).1];exact hs
theorem Sim.loadCells (h:Sim D P L st st') {x:IV} {sz:Nat} {cs:List IV} (hl:st.loadCells sz x=some cs):st'.loadCells sz x=some cs:=by
 cases x <;> simp only [St.loadCells] at hl ⊢ <;> first | exact hl | cases hl | skip
 · split at hl
   rotate_left
   · cases hl
   rename_i hp
   rw [(h.plc hp).1];exact hl
 · split at hl
   rotate_left
   · cases hl
   rename_i hb
   rw [h.box hb];exact hl
theorem Sim.storeCells (h:Sim D P L st st') (hP:∀ q,Qaj q→∀ x,P x→P (kl q x)) {a:IV} {ys:List IV} (hs:st.storeCells a ys=some st1):∃ st1',st'.storeCells a ys=some st1'∧Sim D P L st1 st1'∧Shp st st1:=by
 unfold St.storeCells at hs ⊢
 split at hs
 · rename_i l k c
   split at hs
   rotate_left
   · cases hs
   rename_i cs hb
   simp only [h.box hb]
   split at hs
   rotate_left
   · cases hs
   rename_i old ho
   try simp only [ho]
   split at hs
   rotate_left
   · cases hs
   rename_i hl
   rw [if_pos hl]
   obtain ⟨q1,q2⟩:=h.setBox (cs':=splice cs c ys) hb
   simp only [Qoi] at hs ⊢
   subst hs
   refine ⟨_,rfl,?_,?_⟩
   · split
     · exact q1
     · exact q1.kill hP (.rooted _)
   · split
     · exact q2
     · exact q2
 · rename_i r c p i j
   split at hs
   · cases hs
   rename_i hd
   rw [if_neg hd]
   split at hs
   rotate_left
   · cases hs
   rename_i e es hp
   simp only [(h.plc hp).1]
   split at hs
   rotate_left
   · cases hs
   rename_i el hi
   try simp only [hi]
   split at hs
   rotate_left
   · cases hs
   rename_i old ho
   try simp only [ho]
   split at hs
   rotate_left
   · cases hs
   rename_i st2 h2
   obtain ⟨st2',q1,q2,q3⟩:=h.setPlc hp h2
   simp only [q1,Qoi] at hs ⊢
   subst hs
   refine ⟨_,rfl,?_,?_⟩
   · split
     · exact q2
     · exact q2.kill hP (.rooted _)
   · split
     · exact q3
     · exact q3
 · cases hs
theorem Qmz:∀ {xs:List IV} {cs:List IV} {i s:Nat},Qgb xs=some s→Qeg s i xs cs=true→cs.any IV.isOwn=true
 | [],cs,i,s,h,_=>by cases h
 | x::xs,[],i,s,_,h=>by unfold Qeg at h;split at h <;> simp_all
 | x::xs,c::cs,i,s,hr,h=>by
   unfold Qeg at h
   split at h
   · simp_all
   · rename_i h1 h2
     cases h1;cases h2
     simp only [Qba] at h
     have:=Qmz (xs:=xs) (by simpa [Qgb] using hr) h.2
     simp [this]
   · rename_i h1 h2
     cases h1;cases h2
     simp [IV.isOwn]
   · cases h
theorem Qkr (h:Sim D P L st st') {xs cs:List IV} {s:Nat} (hroot:Qgb xs=some s) (hs:Qak st.T s=.agg cs) (hsh:Qeg s 0 xs cs=true):¬ D s:=fun hd=>by
 have h9:=h.H s hd
 rw [hs] at h9
 simp only [IV.holds] at h9
 rw [Qmz hroot hsh] at h9
 cases h9
theorem Sim.arg1 (h:Sim D P L st st') (hP:∀ q,Qaj q→∀ x,P x→P (kl q x)) {m:Mode} {o:Opd} (ho:NoU D (Qch o)) {v:Option IV} (ha:st.arg1 m o=some (v,st1)):∃ st1',st'.arg1 m o=some (v,st1')∧Sim D P L st1 st1'∧Shp st st1:=by
 cases m with
 | val=>simp only [St.arg1,Qoi,Qpi] at ha ⊢;obtain ⟨rfl,rfl⟩:=ha;exact ⟨_,⟨rfl,rfl⟩,h,.refl _⟩
 | rv=>simp only [St.arg1,Qoi,Qpi] at ha ⊢;obtain ⟨rfl,rfl⟩:=ha;exact ⟨_,⟨rfl,rfl⟩,h,.refl _⟩
 | rd =>
   simp only [St.arg1] at ha ⊢
   cases ht:Idl.tk st.T o with
   | mk x T =>
   obtain ⟨T',q1,q2⟩:=h.tk hP ho ht
   rw [ht] at ha
   rw [q1]
   cases x <;> simp only at ha ⊢ <;> try (simp only [Qoi,Qpi] at ha ⊢;obtain ⟨rfl,rfl⟩:=ha;exact ⟨_,⟨rfl,rfl⟩,by first | exact q2 | exact h,.refl _⟩)
   split at ha
   · rename_i hp
     rw [if_pos hp]
     simp only [Qoi,Qpi] at ha ⊢;obtain ⟨rfl,rfl⟩:=ha;exact ⟨_,⟨rfl,rfl⟩,q2,.refl _⟩
   · rename_i hp
     rw [if_neg hp]
     simp only [Qoi,Qpi] at ha ⊢;obtain ⟨rfl,rfl⟩:=ha;exact ⟨_,⟨rfl,rfl⟩,h,.refl _⟩
 | tk =>
   simp only [St.arg1] at ha ⊢
   cases ht:Idl.tk st.T o with
   | mk x T =>
   obtain ⟨T',q1,q2⟩:=h.tk hP ho ht
   rw [ht] at ha
   rw [q1]
   cases x <;> simp only at ha ⊢
   case agg cs =>
    split at ha
    rotate_left
    · cases ha
    rename_i cs2 st2 h2
    obtain ⟨st2',r1,r2,r3⟩:=q2.absorbs hP h2
    simp only [r1,Qoi,Qpi] at ha ⊢
    obtain ⟨rfl,rfl⟩:=ha
    exact ⟨_,⟨rfl,rfl⟩,r2,r3⟩
   all_goals
    split at ha
    rotate_left
    · cases ha
    rename_i h2
    obtain ⟨st2',r1,r2,r3⟩:=q2.absorb hP h2
    simp only [r1,Qoi,Qpi] at ha ⊢
    obtain ⟨rfl,rfl⟩:=ha
    exact ⟨_,⟨rfl,rfl⟩,r2,r3⟩
 | ld =>
   simp only [St.arg1,h.rd ho] at ha ⊢
   split at ha
   · rename_i s c e n hr
     split at ha
     · rename_i e2 es hs
       have hD:¬ D s:=fun hd=>by have:=h.H s hd;rw [hs] at this;cases this
       simp only [h.T s hD,hs]
       split at ha
       rotate_left
       · cases ha
       rename_i hn
       rw [if_pos hn]
       simp only [Qoi,Qpi] at ha ⊢
       obtain ⟨rfl,rfl⟩:=ha
       exact ⟨_,⟨rfl,rfl⟩,h.dropSlot hP hD,.refl _⟩
     · rename_i cs hs
       split at ha
       rotate_left
       · cases ha
       rename_i e2 es hce
       have hD:¬ D s:=fun hd=>by
        have:=h.H s hd
        rw [hs] at this
        simp only [IV.holds,List.any_eq_false] at this
        exact this _ (List.mem_of_getElem? hce) rfl
       simp only [h.T s hD,hs,hce]
       split at ha
       rotate_left
       · cases ha
       rename_i hn
       rw [if_pos hn]
       simp only [Qoi,Qpi] at ha ⊢
       obtain ⟨rfl,rfl⟩:=ha
       exact ⟨_,⟨rfl,rfl⟩,(h.dropSlot hP hD).cons hD _,.refl _⟩
     · cases ha
   · rename_i xs hr
     split at ha
     rotate_left
     · cases ha
     rename_i s hroot
     split at ha
     rotate_left
     · cases ha
     rename_i cs hs
     split at ha
     rotate_left
     · cases ha
     rename_i hsh
     have hD:=Qkr h hroot hs hsh
     simp only [h.T s hD,hs]
     rw [if_pos hsh]
     simp only [Qoi,Qpi] at ha ⊢
     obtain ⟨rfl,rfl⟩:=ha
     exact ⟨_,⟨rfl,rfl⟩,h.dropSlot hP hD,.refl _⟩
   · cases ha
theorem Sim.args1 (hP:∀ q,Qaj q→∀ x,P x→P (kl q x)):∀ {l:List (Mode×Opd)} {st st' st1:St} {vs:List (Option IV)} {ss:List (Nat×Nat)},Sim D P L st st'→NoU D (l.flatMap fun a=>Qch a.2)→st.args1 l=some (vs,st1,ss) →
 ∃ st1',st'.args1 l=some (vs,st1',ss)∧Sim D P L st1 st1'∧Shp st st1∧NoU D (ss.map (·.1))
 | [],st,st',st1,vs,ss,h,_,ha=>by
   simp only [St.args1,Qoi,Qpi] at ha ⊢
   obtain ⟨rfl,rfl,rfl⟩:=ha
   exact ⟨_,⟨rfl,rfl,rfl⟩,h,.refl _,fun s hs=>by cases hs⟩
 | (m,o)::l,st,st',st1,vs,ss,h,ho,ha=>by
   have ho1:NoU D (Qch o):=fun s hs=>ho s (by simp [hs])
   have ho2:NoU D (l.flatMap fun a=>Qch a.2):=fun s hs=>ho s (by rw [List.flatMap_cons];simp [hs])
   simp only [St.args1] at ha ⊢
   split at ha
   rotate_left
   · cases ha
   rename_i v st2 h1
   obtain ⟨st2',q1,q2,q3⟩:=h.arg1 hP ho1 h1
   split at ha
   rotate_left
   · cases ha
   rename_i vs2 st3 ss2 h2
   obtain ⟨st3',r1,r2,r3,r4⟩:=Sim.args1 hP q2 ho2 h2
   simp only [Qoi,Qpi] at ha
   obtain ⟨rfl,rfl,rfl⟩:=ha
   have hl:Qeu st'.T m o=Qeu st.T m o∧NoU D ((Qeu st.T m o).map (·.1)):=by
    cases m <;> try exact ⟨rfl,fun s hs=>by cases hs⟩
    simp only [St.arg1] at h1
    simp only [Qeu,h.rd ho1]
    split at h1
    · rename_i s c e n hr
      simp only [hr]
      have hD:¬ D s:=fun hd=>by
       have h9:=h.H s hd
       split at h1
       · rename_i hs;rw [hs] at h9;cases h9
       · rename_i cs hs
         split at h1
         · rename_i hce
           rw [hs] at h9
           simp only [IV.holds,List.any_eq_false] at h9
           exact h9 _ (List.mem_of_getElem? hce) rfl
         · cases h1
       · cases h1
      rw [h.T s hD]
      refine ⟨rfl,fun t ht=>?_⟩
      split at ht <;> simp only [List.map_cons,List.map_nil,List.mem_singleton] at ht <;> exact ht ▸ hD
    · rename_i xs hr
      simp only [hr]
      split at h1
      rotate_left
      · cases h1
      rename_i s hroot
      try simp only [hroot]
      split at h1
      rotate_left
      · cases h1
      rename_i cs hs
      split at h1
      rotate_left
      · cases h1
      rename_i hsh
      refine ⟨by first | rfl | trivial,fun t ht=>?_⟩
      simp only [List.map_cons,List.map_nil,List.mem_singleton] at ht
      exact ht ▸ Qkr h hroot hs hsh
    · cases h1
   simp only [q1,r1,hl.1]
   refine ⟨_,rfl,r2,q3.trans r3,fun s hs=>?_⟩
   rw [List.map_append] at hs
   rcases List.mem_append.1 hs with hs | hs
   · exact hl.2 s hs
   · exact r4 s hs
theorem Sim.seen (h:Sim D P L st st') {x:IV} {r:IV×Bool} (hs:st.seen x=some r):st'.seen x=some r:=by
 unfold St.seen at *
 split at hs
 · rename_i hp;rw [if_pos hp];exact hs
 · rename_i hp;rw [if_neg hp]
   split at hs
   rotate_left
   · cases hs
   rename_i hv
   rw [h.sview hv];exact hs
theorem Sim.seens (h:Sim D P L st st'):∀ {xs:List IV} {r:List IV×Bool},st.seens xs=some r→st'.seens xs=some r
 | [],r,hs=>hs
 | x::xs,r,hs=>by
   simp only [St.seens] at hs ⊢
   split at hs
   rotate_left
   · cases hs
   rename_i h1
   rw [h.seen h1]
   simp only
   split at hs
   rotate_left
   · cases hs
   rename_i h2
   rw [h.seens h2];exact hs
theorem Sim.arg2 (h:Sim D P L st st') {m:Mode} {o:Opd} (ho:NoU D (Qch o)) {r:IV×Bool} (ha:st.arg2 m o=some r):st'.arg2 m o=some r:=by
 cases m <;> simp only [St.arg2,h.rd ho] at ha ⊢ <;> try exact ha
 all_goals
  split at ha
  · split at ha
    rotate_left
    · cases ha
    rename_i hs
    rw [h.seens hs];exact ha
  · exact h.seen ha
theorem Sim.args2 (h:Sim D P L st st'):∀ {l:List (Mode×Opd)} {vs:List (Option IV)} {r:List IV×Bool},NoU D (l.flatMap fun a=>Qch a.2)→st.args2 l vs=some r→st'.args2 l vs=some r
 | [],[],r,_,ha=>ha
 | [],_::_,r,_,ha=>by simp [St.args2] at ha
 | a::l,[],r,_,ha=>by simp [St.args2] at ha
 | a::l,some v::vs,r,ho,ha=>by
   have ho2:NoU D (l.flatMap fun a=>Qch a.2):=fun s hs=>ho s (by rw [List.flatMap_cons];simp [hs])
   simp only [St.args2] at ha ⊢
   split at ha
   rotate_left
   · cases ha
   rename_i h1
   rw [h.args2 ho2 h1];exact ha
 | (m,o)::l,none::vs,r,ho,ha=>by
   have ho1:NoU D (Qch o):=fun s hs=>ho s (by simp [hs])
   have ho2:NoU D (l.flatMap fun a=>Qch a.2):=fun s hs=>ho s (by rw [List.flatMap_cons];simp [hs])
   simp only [St.args2] at ha ⊢
   split at ha
   rotate_left
   · cases ha
   rename_i h1
   rw [h.arg2 ho1 h1]
   simp only
   split at ha
   rotate_left
   · cases ha
   rename_i h2
   rw [h.args2 ho2 h2];exact ha
theorem Sim.args (h:Sim D P L st st') (hP:∀ q,Qaj q→∀ x,P x→P (kl q x)) {l:List (Mode×Opd)} (ho:NoU D (l.flatMap fun a=>Qch a.2)) {vs:List IV} {b:Bool} {ss:List (Nat×Nat)} (ha:st.args l=some (vs,st1,b,ss)) :
 ∃ st1',st'.args l=some (vs,st1',b,ss)∧Sim D P L st1 st1'∧Shp st st1∧NoU D (ss.map (·.1)):=by
 unfold St.args at ha ⊢
 split at ha
 rotate_left
 · cases ha
 rename_i v1 st2 ss2 h1
 obtain ⟨st2',q1,q2,q3,q4⟩:=Sim.args1 hP h ho h1
 simp only [q1]
 split at ha
 rotate_left
 · cases ha
 rename_i h2
 rw [q2.args2 ho h2]
 simp only [Qoi,Qpi] at ha ⊢
 obtain ⟨rfl,rfl,rfl,rfl⟩:=ha
 exact ⟨_,⟨rfl,rfl,rfl,rfl⟩,q2,q3,q4⟩
theorem Sim.lentBack (hP:∀ q,Qaj q→∀ x,P x→P (kl q x)):∀ {ss:List (Nat×Nat)} {ys:List IV} {st st' st1:St},Sim D P L st st'→NoU D (ss.map (·.1))→st.lentBack ss ys=some st1→∃ st1',st'.lentBack ss ys=some st1'∧Sim D P L st1 st1'
 | [],[],st,st',st1,h,_,ha=>by
   simp only [St.lentBack,Qoi] at ha ⊢;subst ha;exact ⟨_,rfl,h⟩
 | [],_::_,st,st',st1,h,_,ha=>by simp [St.lentBack] at ha
 | _::_,[],st,st',st1,h,_,ha=>by simp [St.lentBack] at ha
 | (s,0)::ss,y::ys,st,st',st1,h,ho,ha=>by
   simp only [St.lentBack] at ha ⊢
   split at ha
   rotate_left
   · cases ha
   rename_i hy
   rw [if_pos hy]
   exact Sim.lentBack hP (h.tput hP (ho s (by simp)) y) (fun t ht=>ho t (by rw [List.map_cons];exact List.mem_cons_of_mem _ ht)) ha
 | (s,c+1)::ss,y::ys,st,st',st1,h,ho,ha=>by
   have hD:¬ D s:=ho s (by simp)
   simp only [St.lentBack,h.T s hD] at ha ⊢
   split at ha
   rotate_left
   · cases ha
   rename_i hy
   rw [if_pos hy]
   split at ha
   rotate_left
   · cases ha
   rename_i cs hs
   split at ha
   rotate_left
   · cases ha
   rename_i hcu
   try simp only [hcu]
   exact Sim.lentBack hP ((h.dropSlot hP hD).cons hD _) (fun t ht=>ho t (by rw [List.map_cons];exact List.mem_cons_of_mem _ ht)) ha
theorem Sim.callWith (h:Sim D P L st st') (hP:∀ q,Qaj q→∀ x,P x→P (kl q x)) {cf:CF} {f:Lab} {caps:List IV} {args:List (Mode×Opd)} {p:Bool} (hp:p=true ∨ L=[]) (ho:NoU D (args.flatMap fun a=>Qch a.2)) {v:IV}
 (hc:st.callWith cf f caps args p=some (v,st1)):∃ st1',st'.callWith cf f caps args p=some (v,st1')∧Sim D P L st1 st1'∧(p=true→Shp st st1):=by
 unfold St.callWith at hc ⊢
 split at hc
 rotate_left
 · cases hc
 rename_i vs st2 fz ss h1
 obtain ⟨st2',q1,q2,q3,q4⟩:=h.args hP ho h1
 simp only [q1]
 cases p with
 | true =>
   simp only [if_true] at hc ⊢
   split at hc
   · cases hc
   rename_i hg
   rw [if_neg hg]
   split at hc
   rotate_left
   · cases hc
   split at hc
   · rename_i hz
     simp only [hz,if_true]
     split at hc
     · rename_i hn
       rw [if_pos hn]
       simp only [Qoi,Qpi] at hc ⊢
       obtain ⟨rfl,rfl⟩:=hc
       exact ⟨_,⟨rfl,rfl⟩,q2,fun _=>q3⟩
     · cases hc
   · rename_i hz
     simp only [hz,if_false,Bool.false_eq_true]
     simp only [Qoi,Qpi] at hc ⊢
     obtain ⟨rfl,rfl⟩:=hc
     exact ⟨_,⟨rfl,rfl⟩,q2,fun _=>q3⟩
 | false =>
   have hL:L=[]:=by rcases hp with hp | hp;cases hp;exact hp
   subst hL
   have hloc:st2'.loc=st2.loc:=by rw [q2.loc,List.append_nil]
   simp only [Bool.false_eq_true,if_false,q2.M,hloc] at hc ⊢
   split at hc
   · cases hc
   rename_i hz
   simp only [hz,Bool.false_eq_true,if_false]
   split at hc
   rotate_left
   · cases hc
   rename_i rv back M exp hcf
   split at hc
   rotate_left
   · cases hc
   rename_i lo hlo
   try simp only [hlo]
   split at hc
   rotate_left
   · cases hc
   rename_i hM
   rw [if_pos hM]
   split at hc
   rotate_left
   · cases hc
   rename_i st3 hlb
   have hs:Sim D P [] { T:=Qda st2.T,loc:=lo++exp,M:=M.dropLast } { T:=Qda st2'.T,loc:=lo++exp,M:=M.dropLast }:=by
    have:=q2.kill hP .rootB
    exact ⟨this.T,this.Q,this.H,rfl,by simp⟩
   obtain ⟨st3',r1,r2⟩:=Sim.lentBack hP hs q4 hlb
   simp only [r1]
   split at hc
   · simp only [Qoi,Qpi] at hc ⊢
     obtain ⟨rfl,rfl⟩:=hc
     exact ⟨_,⟨rfl,rfl⟩,r2,fun hh=>by cases hh⟩
   · split at hc
     rotate_left
     · cases hc
     rename_i hl
     rw [if_pos hl]
     simp only [Qoi,Qpi] at hc ⊢
     obtain ⟨rfl,rfl⟩:=hc
     exact ⟨_,⟨rfl,rfl⟩,r2,fun hh=>by cases hh⟩
   · cases hc
theorem Sim.callWithH (h:Sim D P L st st') (hP:∀ q,Qaj q→∀ x,P x→P (kl q x)) {cf:CF} {f:Lab} {args:List (Mode×Opd)} (hL:L=[]) (ho:NoU D (args.flatMap fun a=>Qch a.2)) {v:IV}
 (hc:st.callWithH cf f args=some (v,st1)):∃ st1',st'.callWithH cf f args=some (v,st1')∧Sim D P L st1 st1':=by
 unfold St.callWithH at hc ⊢
 split at hc
 rotate_left
 · cases hc
 rename_i vs st2 fz ss h1
 obtain ⟨st2',q1,q2,q3,q4⟩:=h.args hP ho h1
 simp only [q1]
 subst hL
 have hloc:st2'.loc=st2.loc:=by rw [q2.loc,List.append_nil]
 simp only [q2.M,hloc] at hc ⊢
 split at hc
 · cases hc
 rename_i hz
 simp only [hz,Bool.false_eq_true,if_false]
 split at hc
 rotate_left
 · cases hc
 rename_i hlv
 simp only [hlv,if_true]
 split at hc
 rotate_left
 · cases hc
 rename_i rv back M exp hcf
 split at hc
 rotate_left
 · cases hc
 rename_i hlo
 try simp only [hlo]
 split at hc
 rotate_left
 · cases hc
 rename_i hM
 rw [if_pos hM]
 split at hc
 rotate_left
 · cases hc
 rename_i st3 hlb
 have hs:Sim D P [] { T:=Qas (IV.rootL st2.M.length) st2.T,loc:=st2.loc++exp,M:=M.dropLast } { T:=Qas (IV.rootL st2.M.length) st2'.T,loc:=st2.loc++exp,M:=M.dropLast }:=by
  have:=q2.kill hP (.rootL st2.M.length)
  exact ⟨this.T,this.Q,this.H,rfl,by simp⟩
 obtain ⟨st3',r1,r2⟩:=Sim.lentBack hP hs q4 hlb
 simp only [r1]
 split at hc
 · simp only [Qoi,Qpi] at hc ⊢
   obtain ⟨rfl,rfl⟩:=hc
   exact ⟨_,⟨rfl,rfl⟩,r2⟩
 · split at hc
   rotate_left
   · cases hc
   rename_i hl
   rw [if_pos hl]
   simp only [Qoi,Qpi] at hc ⊢
   obtain ⟨rfl,rfl⟩:=hc
   exact ⟨_,⟨rfl,rfl⟩,r2⟩
 · cases hc
end
end Go.Idl
namespace Go.Idl
open Go
def evq (st:St):K→Option IV
 | .mv x=>some (rd st.T x)
 | .nilo e=>some (.own e [])
 | .pick c a b=>match rd st.T c with
   | .sc (.bool t)=>some (rd st.T (if t then a else b))
   | _=>none
 | .bsls esz zero len parts=>match Qf3 st.T (Qaw zero len) esz parts with
   | some es=>some (.own esz es)
   | none=>none
 | .load agg sz a=>match st.loadCells sz (rd st.T a) with
   | some cs=>Jat agg cs
   | none=>none
 | .nilck x=>match rd st.T x with
   | .bptr l k c=>some (.bptr l k c)
   | .eptr r c p i j=>some (.eptr r c p i j)
   | .lptr e j=>some (.lptr e j)
   | _=>none
 | .bin op x y=>Jcw op (rd st.T x) (rd st.T y)
 | .eqa neg n x y=>match rd st.T x,rd st.T y with
   | .agg xs,.agg ys=>if xs.length=n then match Qdr xs ys with
      | some b=>some (.sc (.bool (if neg then !b else b)))
      | none=>none
     else none
   | _,_=>none
 | .eqb neg x y=>match rd st.T x,rd st.T y with
   | .sc (.bool a),.sc (.bool b)=>some (.sc (.bool (if neg then !(a == b) else a == b)))
   | _,_=>none
 | .unop op x=>match rd st.T x with
   | .sc v=>match Qd6 (Op.unary op v) with
     | some v=>if Idl.isSc v then some (.sc v) else none
     | none=>none
   | _=>none
 | .conv k x=>match rd st.T x with
   | .sc (.int _ n)=>some (.sc (.int k (k.wrap n)))
   | _=>none
 | .mkfn f caps=>if (caps.map (rd st.T)).all IV.isBptr then some (.fn f (caps.map (rd st.T))) else none
 | .mksl esz zero len cap=>match Qc1 (rd st.T len),Qc1 (rd st.T cap) with
   | some l,some c=>if l≤c∧c≤lim then some (.own esz (Qaw zero l)) else none
   | _,_=>none
 | .slc esz x lo hi mx=>match Jbq (rd st.T x) with
   | some n=>match bound 0 st.T lo,bound n st.T hi with
     | some l,some h=>match mx with
       | none=>Qtz esz (rd st.T x) l h none
       | some m=>match Qc1 (rd st.T m) with
         | some m=>Qtz esz (rd st.T x) l h (some m)
         | none=>none
     | _,_=>none
   | none=>none
 | .slcs x lo hi=>match rd st.T x with
   | .sc (.string s)=>match bound 0 st.T lo,bound s.size st.T hi with
     | some l,some h=>if l≤h∧h≤s.size then some (.sc (.string (s.extract l h))) else none
     | _,_=>none
   | _=>none
 | .fadr off x=>match rd st.T x with
   | .bptr l k c=>some (.bptr l k (c+off))
   | .eptr r c p i j=>some (.eptr r c p i (j+off))
   | .lptr e j=>some (.lptr e (j+off))
   | _=>none
 | .fld agg off sz x=>match rd st.T x with
   | .agg cs=>match sub cs off sz with
     | some cs=>Jat agg cs
     | none=>none
   | _=>none
 | .iadr esz x i=>match Qc1 (rd st.T i) with
   | some i=>match rd st.T x with
     | .lst e es _=>if e=esz then match es[i]? with
        | some e=>some (.lptr e 0)
        | none=>none
       else none
     | .arr r c p e off n _=>if e=esz∧i < n then some (.eptr r c p (off+i) 0) else none
     | _=>none
   | none=>none
 | .idxs x i=>match rd st.T x,Qc1 (rd st.T i) with
   | .sc (.string s),some i=>match s[i]? with
     | some b=>some (.sc (.int .u8 b.toNat))
     | none=>none
   | _,_=>none
 | .len x=>match Jbq (rd st.T x) with
   | some n=>some (.sc (.int .i64 n))
   | none=>none
 | .capn x=>match rd st.T x with
   | .lst _ es true=>some (.sc (.int .i64 es.length))
   | _=>none
 | .lens x=>match rd st.T x with
   | .sc (.string s)=>some (.sc (.int .i64 s.size))
   | _=>none
 | .minmax mn x y=>match rd st.T x,rd st.T y with
   | .sc (.int k a),.sc (.int _ b)=>some (.sc (.int k (if mn then (if b < a then b else a) else (if a < b then b else a))))
   | _,_=>none
 | _=>none
theorem Ql3 {cf:CF} {st:St} {k:K} (hk:Qex k=true):ev cf st k=(evq st k).map fun v=>(v,st):=by
 cases k <;> simp only [Qex,Bool.false_eq_true] at hk <;> simp only [ev,evq]
 case nilck x=>generalize rd st.T x=y;cases y <;> rfl
 case fadr off x=>generalize rd st.T x=y;cases y <;> rfl
 case iadr e x i =>
  cases Qc1 (rd st.T i) with
  | none=>rfl
  | some n =>
    generalize rd st.T x=y
    cases y <;> simp only <;> first
     | rfl
     | (split <;> first
         | rfl
         | (split <;> simp_all))
 all_goals first
  | rfl
  | (split <;> rfl)
  | (split
     · split <;> first | rfl | simp_all
     · first | rfl | simp_all)
  | (repeat' split) <;> first | rfl | simp_all
section
variable {D:Nat→Prop} {P:IV→Prop} {L:Qal} {st st' st1:St} {cf:CF}
theorem Sim.bound (h:Sim D P L st st') {d:Nat} {o:Option Opd} (ho:NoU D (Qzz o)):bound d st'.T o=bound d st.T o:=by
 cases o with
 | none=>rfl
 | some o=>simp only [Idl.bound];rw [h.rd (o:=o) ho]
theorem Qfg {T T':Tm} {e:Nat}:∀ {ps:List (Nat×Opd)} {es:List (List IV)},(∀ p ∈ ps,rd T' p.2=rd T p.2)→Qf3 T' es e ps=Qf3 T es e ps
 | [],es,_=>rfl
 | (i,o)::r,es,h=>by
   have h1:=h (i,o) (by simp)
   simp only at h1
   simp only [Qf3,h1]
   rw [Qfg fun p hp=>h p (by simp [hp])]
theorem Sim.evq (h:Sim D P L st st') {k:K} (ho:NoU D k.useL) {v:IV} (he:evq st k=some v):evq st' k=some v:=by
 have sub:∀ {x:Opd} {l:List Nat},(∀ s ∈ Qch x,s ∈ l)→NoU D l→Idl.rd st'.T x=Idl.rd st.T x:=fun hs hl=>h.rd fun s hh=>hl s (hs s hh)
 cases k <;> simp only [K.useL] at ho <;> simp only [Idl.evq] at he ⊢ <;> try exact he
 case mv x=>rw [h.rd ho];exact he
 case pick c a b =>
  rw [sub (x:=c) (by intro s hs;simp [hs]) ho]
  split at he
  · rename_i t _
    rw [h.rd (o:=if t=true then a else b) (by intro s hs;refine ho s ?_;cases t <;> simp_all)];exact he
  · cases he
 case load ag sz a =>
  rw [h.rd ho]
  split at he
  · rename_i cs hc
    rw [h.loadCells hc];exact he
  · cases he
 case bsls e z n ps =>
  rw [Qfg (T:=st.T) fun p hp=>h.rd fun s hs=>ho s (List.mem_flatMap.2 ⟨p,hp,hs⟩)];exact he
 case nilck x=>rw [h.rd ho];exact he
 case bin op x y=>rw [sub (x:=x) (by intro s hs;simp [hs]) ho,sub (x:=y) (by intro s hs;simp [hs]) ho];exact he
 case eqa n q x y=>rw [sub (x:=x) (by intro s hs;simp [hs]) ho,sub (x:=y) (by intro s hs;simp [hs]) ho];exact he
 case eqb n x y=>rw [sub (x:=x) (by intro s hs;simp [hs]) ho,sub (x:=y) (by intro s hs;simp [hs]) ho];exact he
 case unop op x=>rw [h.rd ho];exact he
 case conv q x=>rw [h.rd ho];exact he
 case mkfn f caps =>
  have:caps.map (Idl.rd st'.T)=caps.map (Idl.rd st.T):=List.map_congr_left fun o hm=>h.rd fun s hs=>ho s (List.mem_flatMap.2 ⟨o,hm,hs⟩)
  rw [this];exact he
 case mksl e z x y=>rw [sub (x:=x) (by intro s hs;simp [hs]) ho,sub (x:=y) (by intro s hs;simp [hs]) ho];exact he
 case slc e x lo hi mx =>
  rw [sub (x:=x) (by intro s hs;simp [hs]) ho]
  simp only [h.bound (o:=lo) (fun s hs=>ho s (by simp [hs])),h.bound (o:=hi) (fun s hs=>ho s (by simp [hs]))]
  cases mx with
  | none=>exact he
  | some m=>simp only;rw [sub (x:=m) (by intro s hs;simp [Qzz,hs]) ho];exact he
 case slcs x lo hi =>
  rw [sub (x:=x) (by intro s hs;simp [hs]) ho]
  simp only [h.bound (o:=lo) (fun s hs=>ho s (by simp [hs])),h.bound (o:=hi) (fun s hs=>ho s (by simp [hs]))]
  exact he
 case fadr off x=>rw [h.rd ho];exact he
 case fld ag off sz x=>rw [h.rd ho];exact he
 case iadr e x i=>rw [sub (x:=x) (by intro s hs;simp [hs]) ho,sub (x:=i) (by intro s hs;simp [hs]) ho];exact he
 case idxs x i=>rw [sub (x:=x) (by intro s hs;simp [hs]) ho,sub (x:=i) (by intro s hs;simp [hs]) ho];exact he
 case len x=>rw [h.rd ho];exact he
 case capn x=>rw [h.rd ho];exact he
 case lens x=>rw [h.rd ho];exact he
 case minmax mn x y=>rw [sub (x:=x) (by intro s hs;simp [hs]) ho,sub (x:=y) (by intro s hs;simp [hs]) ho];exact he
theorem Sim.fillCells (hP:∀ q,Qaj q→∀ x,P x→P (kl q x)):∀ {ps:List (Nat×Nat×Opd)} {cs cs2:List IV} {st st':St} {T:Tm},Sim D P L st st'→NoU D (ps.flatMap fun p=>Qch p.2.2)→fillCells st.T cs ps=some (cs2,T) →
 ∃ T',fillCells st'.T cs ps=some (cs2,T')∧Sim D P L { st with T:=T } { st' with T:=T' }
 | [],cs,cs2,st,st',T,h,_,he=>by
   simp only [Idl.fillCells,Qoi,Qpi] at he ⊢
   obtain ⟨rfl,rfl⟩:=he
   exact ⟨_,⟨rfl,rfl⟩,h⟩
 | (off,sz,o)::ps,cs,cs2,st,st',T,h,ho,he=>by
   have ho1:NoU D (Qch o):=fun s hs=>ho s (by rw [List.flatMap_cons];simp [hs])
   have ho2:NoU D (ps.flatMap fun p=>Qch p.2.2):=fun s hs=>ho s (by rw [List.flatMap_cons];simp [hs])
   simp only [Idl.fillCells] at he ⊢
   cases ht:Idl.tk st.T o with
   | mk v T1 =>
   obtain ⟨T1',q1,q2⟩:=h.tk hP ho1 ht
   rw [ht] at he
   rw [q1]
   simp only at he ⊢
   split at he
   rotate_left
   · cases he
   rename_i hc
   rw [if_pos hc]
   exact Sim.fillCells hP q2 ho2 he
theorem Sim.fillElems (hP:∀ q,Qaj q→∀ x,P x→P (kl q x)) {e:Nat}:∀ {ps:List (Nat×Opd)} {es es2:List (List IV)} {st st' st1:St},Sim D P L st st'→NoU D (ps.flatMap fun p=>Qch p.2)→st.fillElems es e ps=some (es2,st1) →
 ∃ st1',st'.fillElems es e ps=some (es2,st1')∧Sim D P L st1 st1'∧Shp st st1
 | [],es,es2,st,st',st1,h,_,he=>by
   simp only [St.fillElems,Qoi,Qpi] at he ⊢
   obtain ⟨rfl,rfl⟩:=he
   exact ⟨_,⟨rfl,rfl⟩,h,.refl _⟩
 | (i,o)::ps,es,es2,st,st',st1,h,ho,he=>by
   have ho1:NoU D (Qch o):=fun s hs=>ho s (by rw [List.flatMap_cons];simp [hs])
   have ho2:NoU D (ps.flatMap fun p=>Qch p.2):=fun s hs=>ho s (by rw [List.flatMap_cons];simp [hs])
   simp only [St.fillElems] at he ⊢
   cases ht:Idl.tk st.T o with
   | mk v T1 =>
   obtain ⟨T1',q1,q2⟩:=h.tk hP ho1 ht
   rw [ht] at he
   rw [q1]
   simp only at he ⊢
   split at he
   rotate_left
   · cases he
   rename_i cs st2 h2
   obtain ⟨st2',r1,r2,r3⟩:=q2.absorbs hP h2
   simp only [r1]
   split at he
   rotate_left
   · cases he
   rename_i hc
   rw [if_pos hc]
   obtain ⟨st3',k1,k2,k3⟩:=Sim.fillElems hP r2 ho2 he
   exact ⟨st3',k1,k2,Shp.trans (show Shp st st2 from r3) k3⟩
theorem Sim.news (h:Sim D P L st st') (hP:∀ q,Qaj q→∀ x,P x→P (kl q x)) {e:Nat} {o:Opd} (ho:NoU D (Qch o)) {es:List (List IV)} (he:st.news e o=some (es,st1)):∃ st1',st'.news e o=some (es,st1')∧Sim D P L st1 st1'∧Shp st st1:=by
 unfold St.news at he ⊢
 cases ht:Idl.tk st.T o with
 | mk v T1 =>
 obtain ⟨T1',q1,q2⟩:=h.tk hP ho ht
 rw [ht] at he
 rw [q1]
 have other:∀ {r:Option (List (List IV)×St)} ,(match st.sview (Idl.rd st.T o) with
  | some (e2,es)=>if ((e2 == e || es.isEmpty) && es.all fun x=>x.all IV.plain1)=true then some (es,st) else none
  | none=>none)=some (es,st1)→∃ st1',(match st'.sview (Idl.rd st'.T o) with
  | some (e2,es)=>if ((e2 == e || es.isEmpty) && es.all fun x=>x.all IV.plain1)=true then some (es,st') else none
  | none=>none)=some (es,st1')∧Sim D P L st1 st1'∧Shp st st1:=by
  intro _ hh
  rw [h.rd ho]
  split at hh
  rotate_left
  · cases hh
  rename_i hs
  rw [h.sview hs]
  simp only
  split at hh
  · rename_i hc
    rw [if_pos hc]
    simp only [Qoi,Qpi] at hh ⊢
    obtain ⟨rfl,rfl⟩:=hh
    exact ⟨_,⟨rfl,rfl⟩,h,.refl _⟩
  · cases hh
 cases v <;> simp only at he ⊢ <;> try exact other (r:=none) he
 split at he
 · rename_i hc
   rw [if_pos hc]
   simp only [Qoi,Qpi] at he ⊢
   obtain ⟨rfl,rfl⟩:=he
   exact ⟨_,⟨rfl,rfl⟩,q2,.refl _⟩
 · cases he
theorem Sim.append (h:Sim D P L st st') (hP:∀ q,Qaj q→∀ x,P x→P (kl q x)) {e:Nat} {o:Opd} (ho:NoU D (Qch o)) {ys:List (List IV)} {v:IV} (he:st.append e o ys=some (v,st1)):∃ st1',st'.append e o ys=some (v,st1')∧Sim D P L st1 st1'∧Shp st st1:=by
 unfold St.append at he ⊢
 cases ht:Idl.tk st.T o with
 | mk x T1 =>
 obtain ⟨T1',q1,q2⟩:=h.tk hP ho ht
 rw [ht] at he
 rw [q1]
 have other:∀ (x:IV),(match ({ st with T:=T1 }:St).absorb x with
  | some (.own e2 es,st)=>if e2=e∧es.length+ys.length≤lim then some (IV.own e (es++ys),st) else none
  | _=>none)=some (v,st1)→∃ st1',(match ({ st' with T:=T1' }:St).absorb x with
  | some (.own e2 es,st)=>if e2=e∧es.length+ys.length≤lim then some (IV.own e (es++ys),st) else none
  | _=>none)=some (v,st1')∧Sim D P L st1 st1'∧Shp st st1:=by
  intro x hh
  split at hh
  rotate_left
  · cases hh
  rename_i e2 es st2 ha
  obtain ⟨st2',r1,r2,r3⟩:=q2.absorb hP ha
  simp only [r1]
  split at hh
  rotate_left
  · cases hh
  rename_i hc
  rw [if_pos hc]
  simp only [Qoi,Qpi] at hh ⊢
  obtain ⟨rfl,rfl⟩:=hh
  exact ⟨_,⟨rfl,rfl⟩,r2,r3⟩
 cases x <;> try (first | exact other (.sc _) he | exact other (.own _ _) he | exact other (.eptr _ _ _ _ _) he | exact other (.lptr _ _) he | exact other (.bptr _ _ _) he | exact other (.fn _ _) he | exact other (.agg _) he | exact other (.tup _) he | exact other .un he)
 case lst e2 es cl =>
  cases cl with
  | false=>exact other (.lst e2 es false) he
  | true =>
    simp only at he ⊢
    split at he
    · rename_i hc
      rw [if_pos hc]
      simp only [Qoi,Qpi] at he ⊢
      obtain ⟨rfl,rfl⟩:=he
      exact ⟨_,⟨rfl,rfl⟩,h,.refl _⟩
    · cases he
 case arr r c p e2 off n cl =>
  cases cl with
  | false=>exact other (.arr r c p e2 off n false) he
  | true =>
    simp only at he ⊢
    split at he
    · rename_i hc
      rw [if_pos hc]
      simp only [Qoi,Qpi] at he ⊢
      obtain ⟨rfl,rfl⟩:=he
      exact ⟨_,⟨rfl,rfl⟩,q2,.refl _⟩
    · cases he
theorem Sim.freezeBox (h:Sim D P L st st') (hP:∀ q,Qaj q→∀ x,P x→P (kl q x)) {l k c sz:Nat} {st1:St} (hs:st.freezeBox l k c sz=some st1):∃ st1',st'.freezeBox l k c sz=some st1'∧Sim D P L st1 st1'∧Shp st st1:=by
 unfold St.freezeBox at hs ⊢
 split at hs
 rotate_left
 · cases hs
 rename_i cs hb
 simp only [h.box hb]
 split at hs
 rotate_left
 · cases hs
 rename_i xs hx
 split at hs
 rotate_left
 · cases hs
 rename_i hc
 rw [if_pos hc]
 simp only [Qoi] at hs ⊢
 subst hs
 have hk:Qaj (IV.rooted (.B l k)):=.rooted _
 obtain ⟨a1,a2⟩:=h.setBox (cs':=splice cs c (List.replicate sz .un)) hb
 have a3:=a1.kill hP hk
 simp only [Qnq] at a3
 obtain ⟨b1,b2⟩:=a3.setBox (l:=l) (k:=k) (cs:=splice cs c (List.replicate sz .un)) (cs':=splice (splice cs c (List.replicate sz .un)) c (Qcx xs)) (by
  rw [Qha,Qeb (by rw [hb];rfl),if_pos ⟨rfl,rfl⟩])
 refine ⟨_,rfl,?_,Shp.trans (show Shp st _ from a2) b2⟩
 have:=b1.kill hP hk
 simpa only [Qnq,Qbd] using this
theorem Jsq (h:Sim D P L st st') (hP:∀ q,Qaj q→∀ x,P x→P (kl q x)) {k:K} (hk:Qd9 k=true ∨ L=[]) (ho:NoU D k.useL) {v:IV} (he:ev cf st k=some (v,st1)) :
 ∃ st1',ev cf st' k=some (v,st1')∧Sim D P L st1 st1'∧(Qd9 k=true→Shp st st1):=by
 by_cases hp:Qex k=true
 · rw [Ql3 hp] at he ⊢
   rw [Option.map_eq_some_iff] at he
   obtain ⟨v',h1,h2⟩:=he
   simp only [Qpi] at h2
   obtain ⟨rfl,rfl⟩:=h2
   rw [h.evq ho h1]
   exact ⟨st',rfl,h,fun _=>.refl _⟩
 cases k <;> simp only [Qex,not_true_eq_false] at hp <;> simp only [K.useL] at ho <;> simp only [ev] at he ⊢
 case mvo e x =>
  rw [h.rd ho]
  simp only [Qoi,Qpi] at he ⊢
  obtain ⟨rfl,rfl⟩:=he
  exact ⟨_,⟨rfl,rfl⟩,h,fun _=>.refl _⟩
 case asg x =>
  cases ht:Idl.tk st.T x with
  | mk u T1 =>
  obtain ⟨T1',q1,q2⟩:=h.tk hP ho ht
  rw [ht] at he
  rw [q1]
  simp only [Qoi,Qpi] at he ⊢
  obtain ⟨rfl,rfl⟩:=he
  exact ⟨_,⟨rfl,rfl⟩,q2,fun _=>.refl _⟩
 case asgf x =>
  cases ht:Idl.tk st.T x with
  | mk u T1 =>
  obtain ⟨T1',q1,q2⟩:=h.tk hP ho ht
  rw [ht] at he
  rw [q1]
  cases u
  case agg cs=>simp at he
  all_goals
   simp only at he ⊢
   split at he
   rotate_left
   · cases he
   rename_i u2 st2 h2
   obtain ⟨st2',r1,r2,r3⟩:=q2.absorb hP h2
   simp only [r1]
   split at he
   rotate_left
   · cases he
   rename_i hl
   rw [if_pos hl]
   simp only [Qoi,Qpi] at he ⊢
   obtain ⟨rfl,rfl⟩:=he
   exact ⟨_,⟨rfl,rfl⟩,r2,fun _=>r3⟩
 case asgm x =>
  cases ht:Idl.tk st.T x with
  | mk u T1 =>
  obtain ⟨T1',q1,q2⟩:=h.tk hP ho ht
  rw [ht] at he
  rw [q1]
  cases u <;> simp only at he ⊢
  case agg cs =>
   split at he
   rotate_left
   · cases he
   rename_i cs2 st2 h2
   obtain ⟨st2',r1,r2,r3⟩:=q2.absorbs hP h2
   simp only [r1,Qoi,Qpi] at he ⊢
   obtain ⟨rfl,rfl⟩:=he
   exact ⟨_,⟨rfl,rfl⟩,r2,fun _=>r3⟩
  all_goals
   split at he
   rotate_left
   · cases he
   rename_i u2 st2 h2
   obtain ⟨st2',r1,r2,r3⟩:=q2.absorb hP h2
   simp only [r1,Qoi,Qpi] at he ⊢
   obtain ⟨rfl,rfl⟩:=he
   exact ⟨_,⟨rfl,rfl⟩,r2,fun _=>r3⟩
 case clr x z =>
  rw [h.rd ho]
  split at he
  rotate_left
  · cases he
  split at he
  rotate_left
  · cases he
  rename_i hp1
  simp only [(h.plc hp1).1]
  split at he
  rotate_left
  · cases he
  rename_i hc
  rw [if_pos hc]
  split at he
  rotate_left
  · cases he
  rename_i st2 h2
  obtain ⟨st2',q1,q2,q3⟩:=h.setPlc hp1 h2
  simp only [q1,Qoi,Qpi] at he ⊢
  obtain ⟨rfl,rfl⟩:=he
  exact ⟨_,⟨rfl,rfl⟩,q2.kill hP (.rooted _),fun _=>q3⟩
 case clrs x z =>
  rw [h.rd ho]
  split at he
  rotate_left
  · cases he
  split at he
  rotate_left
  · cases he
  rename_i hp1
  simp only [(h.plc hp1).1]
  split at he
  rotate_left
  · cases he
  rename_i hc
  rw [if_pos hc]
  split at he
  · rename_i hn
    rw [if_pos hn]
    simp only [Qoi,Qpi] at he ⊢
    obtain ⟨rfl,rfl⟩:=he
    exact ⟨_,⟨rfl,rfl⟩,h,fun _=>.refl _⟩
  rename_i hn
  rw [if_neg hn]
  split at he
  rotate_left
  · cases he
  rename_i st2 h2
  obtain ⟨st2',q1,q2,q3⟩:=h.setPlc hp1 h2
  simp only [q1,Qoi,Qpi] at he ⊢
  obtain ⟨rfl,rfl⟩:=he
  exact ⟨_,⟨rfl,rfl⟩,q2,fun _=>q3⟩
 case slcb e x lo hi =>
  rw [h.rd (o:=x) (by intro s hs;exact ho s (by simp [hs]))]
  simp only [h.bound (o:=lo) (fun s hs=>ho s (by simp [hs])),h.bound (o:=hi) (fun s hs=>ho s (by simp [hs]))]
  split at he
  rotate_left
  · cases he
  split at he
  rotate_left
  · cases he
  rename_i hp1
  simp only [(h.plc hp1).1]
  split at he
  rotate_left
  · cases he
  rename_i hb1 hb2
  try simp only [hb1,hb2]
  split at he
  rotate_left
  · cases he
  rename_i hc
  rw [if_pos hc]
  simp only [Qoi,Qpi] at he ⊢
  obtain ⟨rfl,rfl⟩:=he
  exact ⟨_,⟨rfl,rfl⟩,h,fun _=>.refl _⟩
 case appi e x y =>
  rw [h.rd (o:=x) (by intro s hs;exact ho s (by simp [hs])),h.rd (o:=y) (by intro s hs;exact ho s (by simp [hs]))]
  split at he
  rotate_left
  · cases he
  split at he
  rotate_left
  · cases he
  rename_i hsv
  rw [h.sview hsv]
  simp only
  split at he
  rotate_left
  · cases he
  rename_i hp1
  simp only [(h.plc hp1).1]
  split at he
  rotate_left
  · cases he
  rename_i hc
  rw [if_pos hc]
  split at he
  · rename_i hn
    rw [if_pos hn]
    simp only [Qoi,Qpi] at he ⊢
    obtain ⟨rfl,rfl⟩:=he
    exact ⟨_,⟨rfl,rfl⟩,h,fun _=>.refl _⟩
  rename_i hn
  rw [if_neg hn]
  split at he
  rotate_left
  · cases he
  rename_i st2 h2
  obtain ⟨st2',q1,q2,q3⟩:=h.setPlc hp1 h2
  simp only [q1,Qoi,Qpi] at he ⊢
  obtain ⟨rfl,rfl⟩:=he
  exact ⟨_,⟨rfl,rfl⟩,q2,fun _=>q3⟩
 case alloc z =>
  have hL:L=[]:=by rcases hk with hk | hk;simp [Qd9] at hk;exact hk
  subst hL
  have hloc:st'.loc=st.loc:=by rw [h.loc,List.append_nil]
  simp only [Qoi,Qpi] at he ⊢
  obtain ⟨rfl,rfl⟩:=he
  refine ⟨_,⟨by rw [h.M,hloc],rfl⟩,⟨h.T,h.Q,h.H,h.M,by simp [hloc]⟩,by simp [Qd9]⟩
 case box x =>
  have hL:L=[]:=by rcases hk with hk | hk;simp [Qd9] at hk;exact hk
  subst hL
  cases ht:Idl.tk st.T x with
  | mk u T1 =>
  obtain ⟨T1',q1,q2⟩:=h.tk hP ho ht
  rw [ht] at he
  rw [q1]
  simp only at he ⊢
  split at he
  rotate_left
  · cases he
  rename_i cs st2 h2
  obtain ⟨st2',r1,r2,r3⟩:=q2.absorbs hP h2
  have hloc:st2'.loc=st2.loc:=by rw [r2.loc,List.append_nil]
  simp only [r1,Qoi,Qpi] at he ⊢
  obtain ⟨rfl,rfl⟩:=he
  exact ⟨_,⟨by rw [r2.M,hloc],rfl⟩,⟨r2.T,r2.Q,r2.H,r2.M,by simp [hloc]⟩,by simp [Qd9]⟩
 case build z ps =>
  split at he
  rotate_left
  · cases he
  rename_i cs T1 h1
  obtain ⟨T1',q1,q2⟩:=Sim.fillCells hP h ho h1
  simp only [q1,Qoi,Qpi] at he ⊢
  obtain ⟨rfl,rfl⟩:=he
  exact ⟨_,⟨rfl,rfl⟩,q2,fun _=>.refl _⟩
 case bsl e z n ps =>
  split at he
  rotate_left
  · cases he
  rename_i es st2 h1
  obtain ⟨st2',q1,q2,q3⟩:=Sim.fillElems hP h ho h1
  simp only [q1,Qoi,Qpi] at he ⊢
  obtain ⟨rfl,rfl⟩:=he
  exact ⟨_,⟨rfl,rfl⟩,q2,fun _=>q3⟩
 case store sz a x =>
  cases ht:Idl.tk st.T x with
  | mk u T1 =>
  obtain ⟨T1',q1,q2⟩:=h.tk hP (fun s hs=>ho s (by simp [hs])) ht
  rw [ht] at he
  rw [q1]
  simp only at he ⊢
  split at he
  rotate_left
  · cases he
  rename_i cs st2 h2
  obtain ⟨st2',r1,r2,r3⟩:=q2.absorbs hP h2
  simp only [r1,r2.rd (o:=a) (fun s hs=>ho s (by simp [hs]))]
  split at he
  rotate_left
  · cases he
  rename_i hl
  rw [if_pos hl]
  split at he
  rotate_left
  · cases he
  rename_i st3 h3
  obtain ⟨st3',k1,k2,k3⟩:=r2.storeCells hP h3
  simp only [k1,Qoi,Qpi] at he ⊢
  obtain ⟨rfl,rfl⟩:=he
  exact ⟨_,⟨rfl,rfl⟩,k2,fun _=>Shp.trans (show Shp st st2 from r3) k3⟩
 case loadf ag sz a =>
  rw [h.rd ho]
  split at he
  rotate_left
  · cases he
  rename_i l k c hrd
  split at he
  rotate_left
  · cases he
  rename_i st2 h2
  obtain ⟨st2',r1,r2,r3⟩:=h.freezeBox hP h2
  simp only [r1,r2.rd ho]
  split at he
  rotate_left
  · cases he
  rename_i cs hc
  rw [r2.loadCells hc]
  simp only
  split at he
  rotate_left
  · cases he
  rename_i v1 hp
  simp only [Qoi,Qpi] at he ⊢
  obtain ⟨rfl,rfl⟩:=he
  exact ⟨_,⟨rfl,rfl⟩,r2,fun _=>r3⟩
 case storef sz a x =>
  cases ht:Idl.tk st.T x with
  | mk u T1 =>
  obtain ⟨T1',q1,q2⟩:=h.tk hP (fun s hs=>ho s (by simp [hs])) ht
  rw [ht] at he
  rw [q1]
  simp only at he ⊢
  split at he
  rotate_left
  · cases he
  rename_i cs st2 h2
  obtain ⟨st2',r1,r2,r3⟩:=q2.absorbs hP h2
  simp only [r1,r2.rd (o:=a) (fun s hs=>ho s (by simp [hs]))]
  split at he
  rotate_left
  · cases he
  rename_i hl
  rw [if_pos hl]
  split at he
  rotate_left
  · cases he
  split at he
  rotate_left
  · cases he
  rename_i st3 h3
  obtain ⟨st3',k1,k2,k3⟩:=r2.storeCells hP h3
  simp only [k1,Qoi,Qpi] at he ⊢
  obtain ⟨rfl,rfl⟩:=he
  exact ⟨_,⟨rfl,rfl⟩,k2,fun _=>Shp.trans (show Shp st st2 from r3) k3⟩
 case extr x i =>
  cases x <;> simp only at he ⊢ <;> try (cases he;done)
  rename_i s
  have hs:=ho s (by simp [Qch])
  rw [h.T s hs]
  split at he
  rotate_left
  · cases he
  split at he
  rotate_left
  · cases he
  rename_i hv
  try simp only [hv]
  simp only [Qoi,Qpi] at he ⊢
  obtain ⟨rfl,rfl⟩:=he
  exact ⟨_,⟨rfl,rfl⟩,(h.dropSlot hP hs).tput hP hs _,fun _=>.refl _⟩
 case call f args p =>
  exact h.callWith hP (by rcases hk with hk | hk;exact .inl hk;exact .inr hk) ho he
 case callq f args =>
  obtain ⟨s1,q1,q2,q3⟩:=h.callWith hP (.inl rfl) ho he
  exact ⟨s1,q1,q2,fun _=>q3 rfl⟩
 case callh f args =>
  have hL:L=[]:=by rcases hk with hk | hk;simp [Qd9] at hk;exact hk
  obtain ⟨st1',q1,q2⟩:=h.callWithH hP hL ho he
  exact ⟨st1',q1,q2,by simp [Qd9]⟩
 case callp f x =>
  unfold St.callP at he ⊢
  rw [h.rd ho]
  split at he
  rotate_left
  · cases he
  split at he
  rotate_left
  · cases he
  rename_i hp1
  simp only [(h.plc hp1).1]
  split at he
  rotate_left
  · cases he
  rename_i hc
  rw [if_pos hc]
  split at he
  rotate_left
  · cases he
  rename_i hcf
  try simp only [hcf]
  split at he
  rotate_left
  · cases he
  rename_i hs3
  rw [if_pos hs3]
  split at he
  rotate_left
  · cases he
  rename_i st2 h2
  obtain ⟨st2',q1,q2,q3⟩:=h.setPlc hp1 h2
  simp only [q1,Qoi,Qpi] at he ⊢
  obtain ⟨rfl,rfl⟩:=he
  exact ⟨_,⟨rfl,rfl⟩,q2.kill hP (.rooted _),by simp [Qd9]⟩
 case callz f x k =>
  have hL:L=[]:=by rcases hk with hk | hk;simp [Qd9] at hk;exact hk
  have hrx:=h.rd (o:=x) (fun s hs=>ho s (by simp [hs]))
  simp only [hrx]
  split at he
  · obtain ⟨s1,q1,q2,q3⟩:=h.callWith hP (.inr hL) (by intro s hs;exact ho s (by simpa using hs)) he
    exact ⟨s1,q1,q2,by simp [Qd9]⟩
  · obtain ⟨s1,q1,q2,q3⟩:=h.callWith hP (.inl rfl) (by intro s hs;exact ho s (by simpa using hs)) he
    exact ⟨s1,q1,q2,by simp [Qd9]⟩
 case callm f x k =>
  have hrx:=h.rd (o:=x) (fun s hs=>ho s (by simp [hs]))
  simp only [hrx]
  split at he
  rotate_left
  · obtain ⟨s1,q1,q2,q3⟩:=h.callWith hP (.inl rfl) (by intro s hs;exact ho s (by simpa using hs)) he
    exact ⟨s1,q1,q2,fun _=>q3 rfl⟩
  rename_i hlo
  unfold St.callM at he ⊢
  rw [h.rd (o:=k) (fun s hs=>ho s (by simp [hs]))]
  split at he
  rotate_left
  · cases he
  rw [h.rd (o:=x) (fun s hs=>ho s (by simp [hs]))]
  split at he
  rotate_left
  · cases he
  split at he
  rotate_left
  · cases he
  rename_i hp1
  simp only [(h.plc hp1).1]
  split at he
  rotate_left
  · cases he
  rename_i hc
  rw [if_pos hc]
  split at he
  rotate_left
  · cases he
  rename_i hcf
  try simp only [hcf]
  split at he
  rotate_left
  · cases he
  rename_i hun
  try simp only [hun]
  split at he
  rotate_left
  · cases he
  rename_i hs3
  rw [if_pos hs3]
  split at he
  rotate_left
  · cases he
  rename_i st2 h2
  obtain ⟨st2',q1,q2,q3⟩:=h.setPlc hp1 h2
  simp only [q1,Qoi,Qpi] at he ⊢
  obtain ⟨rfl,rfl⟩:=he
  exact ⟨_,⟨rfl,rfl⟩,q2.kill hP (.rooted _),by simp [Qd9]⟩
 case callv x args =>
  have hL:L=[]:=by rcases hk with hk | hk;simp [Qd9] at hk;exact hk
  rw [h.rd (o:=x) (fun s hs=>ho s (by simp [hs]))]
  split at he
  rotate_left
  · cases he
  obtain ⟨st1',q1,q2,-⟩:=h.callWith hP (.inr hL) (fun s hs=>ho s (by simp [hs])) he
  exact ⟨st1',q1,q2,by simp [Qd9]⟩
 case app e x y =>
  split at he
  rotate_left
  · cases he
  rename_i ys st2 h2
  obtain ⟨st2',q1,q2,q3⟩:=h.news hP (fun s hs=>ho s (by simp [hs])) h2
  simp only [q1]
  split at he
  rotate_left
  · cases he
  rename_i u st3 h3
  obtain ⟨st3',r1,r2,r3⟩:=q2.append hP (fun s hs=>ho s (by simp [hs])) h3
  simp only [r1,Qoi,Qpi] at he ⊢
  obtain ⟨rfl,rfl⟩:=he
  exact ⟨_,⟨rfl,rfl⟩,r2,fun _=>q3.trans r3⟩
 case halt=>cases he
end
end Go.Idl
namespace Go.Idl
open Go
def gU:Option (Nat×Bool)→List Nat
 | some (s,_)=>[s]
 | none=>[]
def IOp.use (x:IOp):List Nat:=gU x.g++x.k.useL
def Qit (d:Option Nat) (l:List Nat):Bool:=match d with
 | some d=>l.contains d
 | none=>false
def Qq7 (x y:IOp):Bool:=!Qit x.dst y.use && !Qit y.dst x.use && (match x.dst,y.dst with
 | some d,some e=>d != e
 | _,_=>true)
def Qns (iops:List IOp) (i j:Nat):Bool:=match iops[i]?,iops[j]? with
 | some x,some y=>Qq7 x y && ((Qdw x.k && Qck y.k) || (Qd9 x.k && Qvg y.k && y.g.isNone && y.dst.isSome))
 | _,_=>false
theorem Qkq {cf:CF} {st st1:St} {k:K} {v:IV} (hk:Qck k=true) (he:ev cf st k=some (v,st1)):st1=st:=by
 by_cases hp:Qex k=true
 · rw [Ql3 hp,Option.map_eq_some_iff] at he
   obtain ⟨_,_,h2⟩:=he
   simp only [Qpi] at h2
   exact h2.2.symm
 · have key:∀ f args,(args.all fun a=>a.1 == Mode.val || a.1 == Mode.rv)=true→st.callWith cf f [] args true=some (v,st1)→st1=st:=by
    intro f args hk hc
    simp only [St.callWith] at hc
    split at hc
    rotate_left
    · cases hc
    rename_i vs st2 fz ss h1
    have hs:st2=st:=by
     unfold St.args at h1
     split at h1
     rotate_left
     · cases h1
     rename_i v1 st3 ss3 h3
     split at h1
     rotate_left
     · cases h1
     simp only [Qoi,Qpi] at h1
     obtain ⟨-,rfl,-,-⟩:=h1
     have key:∀ (l:List (Mode×Opd)) (st st2:St) vs ss,(l.all fun a=>a.1 == .val || a.1 == .rv)=true→st.args1 l=some (vs,st2,ss)→st2=st:=by
      intro l
      induction l with
      | nil=>intro st st2 vs ss _ h;simp only [St.args1,Qoi,Qpi] at h;exact h.2.1.symm
      | cons a l ih =>
        intro st st2 vs ss hl h
        obtain ⟨m,o⟩:=a
        simp only [List.all_cons,Qba,Bool.or_eq_true,beq_iff_eq] at hl
        have h1:st.arg1 m o=some (none,st):=by rcases hl.1 with rfl | rfl <;> rfl
        simp only [St.args1,h1] at h
        split at h
        rotate_left
        · cases h
        rename_i h2
        simp only [Qoi,Qpi] at h
        obtain ⟨-,rfl,-⟩:=h
        exact ih _ _ _ _ hl.2 h2
     exact key _ _ _ _ _ hk h3
    subst hs
    try simp only [if_true] at hc
    split at hc
    · cases hc
    split at hc
    rotate_left
    · cases hc
    split at hc
    · split at hc
      · simp only [Qoi,Qpi] at hc;exact hc.2.symm
      · cases hc
    · simp only [Qoi,Qpi] at hc;exact hc.2.symm
   cases k <;> simp only [Qck,Qex,Bool.false_eq_true,not_true_eq_false] at hk hp
   · rename_i f args p
     cases p with
     | false=>simp [Qck,Qex] at hk
     | true=>exact key f args (by simpa [Qck] using hk) he
   · rename_i f args
     exact key f args hk he
abbrev SEq (st st':St):Prop:=Sim (fun _=>False) (fun _=>True) [] st st'
theorem SEq.refl (st:St):SEq st st:=⟨fun _ _=>rfl,fun _ h=>h.elim,fun _ h=>h.elim,rfl,by simp⟩
theorem SEq.trans {a b c:St} (h:SEq a b) (h':SEq b c):SEq a c :=
 ⟨fun s hs=>(h'.T s hs).trans (h.T s hs),fun _ h=>h.elim,fun _ h=>h.elim,h'.M.trans h.M,by rw [h'.loc,h.loc,List.append_assoc,List.append_nil]⟩
theorem Qub {st st':St} (h:SEq st st') (live:List Nat):st'.cut live=st.cut live:=by
 unfold St.cut restrict
 have e1:=h.M
 have e2:st'.loc=st.loc:=by rw [h.loc,List.append_nil]
 have e3:(live.map fun s=>(s,kl (rootOut live) (Qak st'.T s)))=live.map fun s=>(s,kl (rootOut live) (Qak st.T s)):=List.map_congr_left fun s _=>by rw [h.T s (fun h=>h)]
 cases st;cases st'
 simp only at e1 e2 e3 ⊢
 rw [e1,e2,e3]
section
variable {D:Nat→Prop} {P:IV→Prop} {L:Qal} {st st' st1:St} {cf:CF}
theorem noT:∀ q,Qaj q→∀ x:IV,(fun _=>True) x→(fun _:IV=>True) (kl q x):=fun _ _ _ _=>trivial
theorem Qf6 (h:Sim D P L st st') (hP:∀ q,Qaj q→∀ x,P x→P (kl q x)) {x:IOp} (hk:Qd9 x.k=true ∨ L=[]) (ho:NoU D x.use) (hd:∀ s,x.dst=some s→¬ D s) (he:Qar cf st x=some st1) :
 ∃ st1',Qar cf st' x=some st1'∧Sim D P L st1 st1'∧(Qd9 x.k=true→Shp st st1):=by
 have ho2:NoU D x.k.useL:=fun s hs=>ho s (by simp [IOp.use,hs])
 have shT:∀ {st:St} {T:Tm},Shp st { st with T:=T }:=fun {st T}=>⟨rfl,rfl⟩
 have run:∀ {st1:St},(match ev cf st x.k with
  | some (v,st')=>match x.dst with
    | some d=>some { st' with T:=tput st'.T d v }
    | none=>some st'
  | none=>none)=some st1→∃ st1',(match ev cf st' x.k with
  | some (v,st')=>match x.dst with
    | some d=>some { st' with T:=tput st'.T d v }
    | none=>some st'
  | none=>none)=some st1'∧Sim D P L st1 st1'∧(Qd9 x.k=true→Shp st st1):=by
  intro st1 hh
  split at hh
  rotate_left
  · cases hh
  rename_i v st2 h2
  obtain ⟨st2',q1,q2,q3⟩:=Jsq h hP hk ho2 h2
  simp only [q1]
  cases hx:x.dst with
  | none =>
    simp only [hx,Qoi] at hh ⊢
    subst hh
    exact ⟨_,rfl,q2,q3⟩
  | some d =>
    simp only [hx,Qoi] at hh ⊢
    subst hh
    exact ⟨_,rfl,q2.tput hP (hd d hx) v,fun hm=>(q3 hm).trans shT⟩
 have skip:∀ {st1:St},(match x.dst with
  | some d=>some { st with T:=tput st.T d (.tup []) }
  | none=>some st)=some st1→∃ st1',(match x.dst with
  | some d=>some { st' with T:=tput st'.T d (.tup []) }
  | none=>some st')=some st1'∧Sim D P L st1 st1'∧(Qd9 x.k=true→Shp st st1):=by
  intro st1 hh
  cases hx:x.dst with
  | none =>
    simp only [hx,Qoi] at hh ⊢
    subst hh
    exact ⟨_,rfl,h,fun _=>.refl _⟩
  | some d =>
    simp only [hx,Qoi] at hh ⊢
    subst hh
    exact ⟨_,rfl,h.tput hP (hd d hx) _,fun _=>shT⟩
 unfold Qar at he ⊢
 cases hg:x.g with
 | none=>simp only [hg] at he ⊢;exact run he
 | some p =>
   obtain ⟨s,b⟩:=p
   have hs:¬ D s:=ho s (by simp [IOp.use,hg,gU])
   simp only [hg,h.T s hs] at he ⊢
   split at he
   · split at he
     · rename_i hb;rw [if_pos hb];exact run he
     · rename_i hb;rw [if_neg hb];exact skip he
   · exact skip he
   · cases he
theorem Qpo:∀ {l:List IOp} {st st' st1:St},SEq st st'→Qag cf st l=some st1→∃ st1',Qag cf st' l=some st1'∧SEq st1 st1'
 | [],st,st',st1,h,he=>by
   simp only [Qag,Qoi] at he ⊢;subst he;exact ⟨_,rfl,h⟩
 | x::l,st,st',st1,h,he=>by
   simp only [Qag] at he ⊢
   split at he
   rotate_left
   · cases he
   rename_i st2 h2
   obtain ⟨st2',q1,q2,-⟩:=Qf6 h noT (.inr rfl) (fun _ _ h=>h) (fun _ _ h=>h) h2
   simp only [q1]
   exact Qpo q2 he
theorem op_nh {x:IOp} {d:Nat} (hd:x.dst ≠ some d) (hn:(Qak st.T d).holds=false) (hu:d ∉ x.use) (he:Qar cf st x=some st1):(Qak st1.T d).holds=false:=by
 have h:Sim (fun s=>s=d) (fun _=>True) [] st st:=⟨fun _ _=>rfl,fun _ _=>trivial,fun s hs=>by rw [hs];exact hn,rfl,by simp⟩
 obtain ⟨st1',-,q2,-⟩:=Qf6 h noT (.inr rfl) (x:=x) (fun s hs hh=>hu (hh ▸ hs)) (fun s hs hh=>hd (hh ▸ hs)) he
 exact q2.H d rfl
def Qey (st:St) (d:Option Nat) (v:IV):St:=match d with
 | some d=>{ st with T:=tput st.T d v }
 | none=>st
theorem Qiu {x:IOp} (hq:Qck x.k=true) (he:Qar cf st x=some st1):∃ v,st1=Qey st x.dst v:=by
 have run:∀ {st1:St},(match ev cf st x.k with
  | some (v,st')=>match x.dst with
    | some d=>some { st' with T:=tput st'.T d v }
    | none=>some st'
  | none=>none)=some st1→∃ v,st1=Qey st x.dst v:=by
  intro st1 hh
  split at hh
  rotate_left
  · cases hh
  rename_i v st2 h2
  have:=Qkq hq h2
  subst this
  refine ⟨v,?_⟩
  unfold Qey
  split at hh <;> simp_all
 have skip:∀ {st1:St},(match x.dst with
  | some d=>some { st with T:=tput st.T d (.tup []) }
  | none=>some st)=some st1→∃ v,st1=Qey st x.dst v:=by
  intro st1 hh
  refine ⟨.tup [],?_⟩
  unfold Qey
  split at hh <;> simp_all
 unfold Qar at he
 split at he
 · exact run he
 · split at he
   · split at he
     · exact run he
     · exact skip he
   · exact skip he
   · cases he
theorem Qax {st:St} {d:Option Nat} {v:IV} (hn:∀ e,d=some e→(Qak st.T e).holds=false) (s:Nat):Qak (Qey st d v).T s=if d=some s then v else Qak st.T s:=by
 cases d with
 | none=>simp [Qey]
 | some e =>
   simp only [Qey,tput,hn e rfl,Bool.false_eq_true,if_false,Qak]
   by_cases h:e=s
   · subst h;simp
   · simp [h]
theorem Qby {st:St} {d:Option Nat} {v:IV}:(Qey st d v).M=st.M:=by cases d <;> rfl
theorem Qa4 {st:St} {d:Option Nat} {v:IV}:(Qey st d v).loc=st.loc:=by cases d <;> rfl
theorem Qnd {x y:IOp} (h:Qq7 x y=true):(∀ s,x.dst=some s→s ∉ y.use)∧(∀ s,y.dst=some s→s ∉ x.use)∧(∀ s,x.dst=some s→y.dst ≠ some s):=by
 unfold Qq7 at h
 simp only [Qba,Bool.not_eq_true'] at h
 obtain ⟨⟨h1,h2⟩,h3⟩:=h
 refine ⟨fun s hs=>?_,fun s hs=>?_,fun s hs hy=>?_⟩
 · rw [hs] at h1;simpa [Qit] using h1
 · rw [hs] at h2;simpa [Qit] using h2
 · rw [hs,hy] at h3;simp at h3
theorem Ji4 {iops:List IOp} {i j:Nat} {x y:IOp} (hx:iops[i]? = some x) (hy:iops[j]? = some y) (hi:Qns iops i j=true) (hnx:swK x.k=true→∀ d,x.dst=some d→(Qak st.T d).holds=false) (hny:∀ d,y.dst=some d→(Qak st.T d).holds=false)
 {st2:St} (h1:Qar cf st x=some st1) (h2:Qar cf st1 y=some st2) (hox:Qdw x.k=true→∀ d,x.dst=some d→(Qak st1.T d).holds=false):∃ st1' st2',Qar cf st y=some st1'∧Qar cf st1' x=some st2'∧SEq st2 st2' ∧
  (∀ d,y.dst=some d→Qak st1'.T d=Qak st2.T d)∧(∀ d,x.dst=some d→Qak st2'.T d=Qak st1.T d):=by
 unfold Qns at hi
 simp only [hx,hy,Qba,Bool.or_eq_true] at hi
 obtain ⟨hap,hi⟩:=hi
 obtain ⟨a1,a2,a3⟩:=Qnd hap
 rcases hi with ⟨hqx,hqy⟩ | ⟨⟨⟨hmx,hay⟩,hgy⟩,hdy⟩
 ·
  have hox:=hox hqx
  have hqx:Qck x.k=true:=by simp only [Qdw,Qba] at hqx;exact hqx.1
  have hnx:=hnx (by simp [swK,hqx])
  obtain ⟨vx,rfl⟩:=Qiu hqx h1
  have hny1:∀ e,y.dst=some e→(Qak (Qey st x.dst vx).T e).holds=false:=fun e he=>by
   rw [Qax hnx,if_neg (fun h=>a3 e h he)];exact hny e he
  obtain ⟨vy,rfl⟩:=Qiu hqy h2
  have sy:Sim (fun s=>x.dst=some s) (fun _=>True) [] (Qey st x.dst vx) st:=by
   refine ⟨fun s hs=>?_,fun _ _=>trivial,fun s hs=>hox s hs,by rw [Qby],by rw [Qa4,List.append_nil]⟩
   rw [Qax hnx,if_neg hs]
  obtain ⟨s1,q1,q2,-⟩:=Qf6 sy noT (.inr rfl) (x:=y) (fun s hs hh=>a1 s hh hs) (fun s hs hh=>a3 s hh hs) h2
  obtain ⟨vy',rfl⟩:=Qiu hqy q1
  have hvy:∀ e,y.dst=some e→vy'=vy:=fun e he=>by
   have:=q2.T e (fun hh=>a3 e hh he)
   rw [Qax hny,Qax hny1,if_pos he,if_pos he] at this
   exact this
  have hpy:Qey st y.dst vy'=Qey st y.dst vy:=by
   cases hd:y.dst with
   | none=>rfl
   | some e=>rw [hvy e hd]
  rw [hpy] at q1 q2
  have sx:Sim (fun s=>y.dst=some s) (fun _=>True) [] st (Qey st y.dst vy):=by
   refine ⟨fun s hs=>?_,fun _ _=>trivial,fun s hs=>hny s hs,by rw [Qby],by rw [Qa4,List.append_nil]⟩
   rw [Qax hny,if_neg hs]
  obtain ⟨s2,r1,r2,-⟩:=Qf6 sx noT (.inr rfl) (x:=x) (fun s hs hh=>a2 s hh hs) (fun s hs hh=>a3 s hs hh) h1
  obtain ⟨vx',rfl⟩:=Qiu hqx r1
  have hnx1:∀ e,x.dst=some e→(Qak (Qey st y.dst vy).T e).holds=false:=fun e he=>by
   rw [Qax hny,if_neg (fun h=>a3 e he h)];exact hnx e he
  refine ⟨_,_,q1,r1,⟨fun s _=>?_,fun _ h=>h.elim,fun _ h=>h.elim,by rw [Qby,Qby,Qby,Qby],by rw [Qa4,Qa4,Qa4,Qa4,List.append_nil]⟩,fun d hd=>?_,fun d hd=>?_⟩
  · by_cases hs:y.dst=some s
    · rw [Qax hny1,if_pos hs,Qax hnx1,if_neg (fun h=>a3 s h hs),Qax hny,if_pos hs]
    · rw [r2.T s hs,Qax hny1,if_neg hs]
  · rw [Qax hny,Qax hny1,if_pos hd,if_pos hd]
  · exact r2.T d (fun hh=>a3 d hd hh)
 ·
  obtain ⟨e,he⟩:=Option.isSome_iff_exists.1 hdy
  have hqy:∃ z,y.k=.alloc z:=by cases hk:y.k <;> simp [Qvg,hk] at hay;exact ⟨_,rfl⟩
  obtain ⟨z,hz⟩:=hqy
  have hgn:y.g=none:=by simpa using hgy
  have hne:=hny e he
  have ex:∀ s:St,(Qak s.T e).holds=false→Qar cf s y=some { s with T:=(e,.bptr s.M.length s.loc.length 0)::s.T,loc:=s.loc++[z.map cv1] }:=by
   intro s hs
   simp only [Qar,hgn,hz,ev,he,tput,hs,Bool.false_eq_true,if_false]
  have hP:∀ q,Qaj q→∀ x:IV,(x=.bptr st.M.length st.loc.length 0)→kl q x=.bptr st.M.length st.loc.length 0:=by
   rintro q hq x rfl
   simp only [kl,kl1,klc]
   split
   · rename_i hh
     have:=hq _ hh
     simp [IV.isR] at this
   · rfl
  have s0:Sim (fun s=>s=e) (fun x=>x=.bptr st.M.length st.loc.length 0) [z.map cv1] st { st with T:=(e,.bptr st.M.length st.loc.length 0)::st.T,loc:=st.loc++[z.map cv1] }:=by
   refine ⟨fun s hs=>?_,fun s hs=>?_,fun s hs=>by rw [hs];exact hne,rfl,rfl⟩
   · simp only [Qak];rw [if_neg (fun h=>hs h.symm)]
   · simp only [Qak];rw [if_pos hs.symm]
  obtain ⟨s2,q1,q2,q3⟩:=Qf6 s0 hP (.inl hmx) (x:=x) (fun s hs hh=>a2 s (by rw [hh];exact he) hs) (fun s hs hh=>a3 s hs (by rw [hh];exact he)) h1
  have q3:=q3 hmx
  rw [ex st1 (q2.H e rfl)] at h2
  simp only [Qoi] at h2
  subst h2
  refine ⟨_,s2,ex st hne,q1,⟨fun s _=>?_,fun _ h=>h.elim,fun _ h=>h.elim,q2.M,by rw [q2.loc,List.append_nil]⟩,fun d hd=>?_,fun d hd=>?_⟩
  · simp only [Qak]
    split
    · rename_i hs
      rw [q2.Q s hs.symm,q3.1,q3.2]
    · rename_i hs
      exact q2.T s (fun h=>hs h.symm)
  · rw [he] at hd;cases hd
    simp only [Qak,if_true,q3.1,q3.2]
  · exact q2.T d (fun hh=>a3 d hd (by rw [hh];exact he))
theorem Qm0:∀ {l:List IOp} {st st':St},SEq st st'→Qf0 cf st l→(∃ s,Qag cf st l=some s)→Qf0 cf st' l
 | [],_,_,_,_,_=>trivial
 | x::l,st,st',h,hk,⟨s,hs⟩=>by
   intro st1' h1'
   simp only [Qag] at hs
   split at hs
   rotate_left
   · cases hs
   rename_i st1 h1
   obtain ⟨s1,q1,q2,-⟩:=Qf6 h noT (.inr rfl) (x:=x) (fun _ _ h=>h) (fun _ _ h=>h) h1
   rw [q1] at h1'
   cases h1'
   obtain ⟨k1,k2⟩:=hk st1 h1
   exact ⟨fun hq d hd=>by rw [q2.T d (fun h=>h)];exact k1 hq d hd,Qm0 q2 k2 ⟨s,hs⟩⟩
def NHl (iops:List IOp) (st:St) (l:List Nat):Prop:=∀ i ∈ l,∀ x,iops[i]? = some x→swK x.k=true→∀ d,x.dst=some d→(Qak st.T d).holds=false
def fwd (iops:List IOp):List Nat→Prop
 | []=>True
 | i::l=>(∀ j ∈ l,∀ x y,iops[i]? = some x→iops[j]? = some y→swK y.k=true→∀ d,y.dst=some d→d ∉ x.use∧x.dst ≠ some d)∧fwd iops l
def Qhy (cf:CF) (iops:List IOp) (st:St) (l:List Nat):Option St:=Qag cf st (Qae iops l)
theorem Qc0 {iops:List IOp} {i:Nat} {l:List Nat} {x:IOp} (hx:iops[i]? = some x):Qhy cf iops st (i::l)=match Qar cf st x with
 | some st=>Qhy cf iops st l
 | none=>none:=by
 simp only [Qhy,Qae,List.filterMap_cons,hx,Qag]
 cases Qar cf st x <;> rfl
theorem Qlh {iops:List IOp} {i:Nat} {l:List Nat} {x:IOp} (hx:iops[i]? = some x):Qf0 cf st (Qae iops (i::l))=Qf0 cf st (x::Qae iops l):=by
 simp only [Qae,List.filterMap_cons,hx]
theorem Qne {iops:List IOp} {i:Nat} {l:List Nat} {x:IOp} {s:St} (hx:iops[i]? = some x) (h:Qhy cf iops st (i::l)=some s):∃ st1,Qar cf st x=some st1∧Qhy cf iops st1 l=some s:=by
 rw [Qc0 hx] at h
 split at h
 · exact ⟨_,‹_›,h⟩
 · cases h
theorem Jhu {iops:List IOp} {i:Nat} {l:List Nat} {x:IOp} (hx:iops[i]? = some x) (hf:fwd iops (i::l)) (hn:NHl iops st (i::l)) (h:Qar cf st x=some st1):NHl iops st1 l:=by
 intro j hj y hy hsw d hd
 obtain ⟨h1,h2⟩:=hf.1 j hj x y hx hy hsw d hd
 exact op_nh h2 (hn j (by simp [hj]) y hy hsw d hd) h1 h
structure Jfa (cf:CF) (iops:List IOp) (st:St) (l:List Nat) (s:St):Prop where
 lt:∀ i ∈ l,i < iops.length
 nh:NHl iops st l
 fw:fwd iops l
 ok:Qf0 cf st (Qae iops l)
 run:Qhy cf iops st l=some s
theorem Jfa.step {iops:List IOp} {i:Nat} {l:List Nat} {s:St} (h:Jfa cf iops st (i::l) s):∃ x st1,iops[i]? = some x∧Qar cf st x=some st1∧Jfa cf iops st1 l s∧(Qdw x.k=true→∀ d,x.dst=some d→(Qak st1.T d).holds=false):=by
 have hi:=h.lt i (by simp)
 have hx:iops[i]? = some iops[i]:=List.getElem?_eq_getElem hi
 obtain ⟨st1,q1,q2⟩:=Qne hx h.run
 have hok:=h.ok
 rw [Qlh hx] at hok
 obtain ⟨k1,k2⟩:=hok st1 q1
 exact ⟨_,st1,hx,q1,⟨fun j hj=>h.lt j (by simp [hj]),Jhu hx h.fw h.nh q1,h.fw.2,k2,q2⟩,k1⟩
theorem Qkv {iops:List IOp} {i:Nat} {l2:List Nat}:∀ {l1:List Nat} {st s:St},(∀ y ∈ l1,Qns iops y i=true)→fwd iops (i::(l1++l2))→Jfa cf iops st (l1++i::l2) s→∃ s',Jfa cf iops st (i::(l1++l2)) s'∧SEq s s'
 | [],st,s,_,_,h=>⟨s,h,.refl _⟩
 | y::l1,st,s,hall,hfw,h=>by
   obtain ⟨xy,st1,hy,h1,hF,hqy⟩:=h.step
   have hfw1:fwd iops (i::(l1++l2)):=⟨fun j hj=>hfw.1 j (by simp at hj ⊢;rcases hj with hj | hj <;> simp [hj]),hfw.2.2⟩
   obtain ⟨s1,hF1,e1⟩:=Qkv (fun z hz=>hall z (by simp [hz])) hfw1 hF
   obtain ⟨xi,st2,hi,h2,hF2,hqi⟩:=hF1.step
   have hind:=hall y (by simp)
   have hni:∀ d,xi.dst=some d→swK xi.k=true→(Qak st.T d).holds=false:=fun d hd hsw=>h.nh i (by simp) xi hi hsw d hd
   have hsi:swK xi.k=true:=by
    unfold Qns at hind
    simp only [hy,hi,Qba,Bool.or_eq_true] at hind
    rcases hind.2 with ⟨-,h⟩ | ⟨⟨⟨-,h⟩,-⟩,-⟩ <;> simp [swK,h]
   obtain ⟨t1,t2,q1,q2,q3,q4,q5⟩:=Ji4 hy hi hind (fun hsw d hd=>h.nh y (by simp) xy hy hsw d hd) (fun d hd=>hni d hd hsi) h1 h2 hqy
   obtain ⟨s2,r1,r2⟩:=Qpo q3 (show Qag cf st2 (Qae iops (l1++l2))=some s1 from hF2.run)
   refine ⟨s2,⟨fun j hj=>h.lt j (by simp at hj ⊢;rcases hj with hj | hj | hj | hj <;> simp [hj]),fun j hj=>h.nh j (by simp at hj ⊢;rcases hj with hj | hj | hj | hj <;> simp [hj]),hfw,?_,?_⟩,e1.trans r2⟩
   · rw [Qlh hi]
     intro a ha
     rw [q1] at ha
     cases ha
     refine ⟨fun hq d hd=>by rw [q4 d hd];exact hqi hq d hd,?_⟩
     show Qf0 cf t1 (Qae iops (y::(l1++l2)))
     rw [Qlh hy]
     intro b hb
     rw [q2] at hb
     cases hb
     exact ⟨fun hq d hd=>by rw [q5 d hd];exact hqy hq d hd,Qm0 q3 hF2.ok ⟨_,hF2.run⟩⟩
   · rw [Qc0 hi,q1]
     show Qhy cf iops t1 (y::(l1++l2))=_
     rw [Qc0 hy,q2]
     exact r1
theorem Qod {iops:List IOp}:∀ {σ τ:List Nat} {st s:St},σ.Perm τ→τ.Nodup→fwd iops σ→(∀ i j,Qns iops i j=false→[i,j].Sublist τ→[i,j].Sublist σ)→Jfa cf iops st τ s→∃ s',Qhy cf iops st σ=some s'∧SEq s s'
 | [],τ,st,s,hp,_,_,_,h=>by
   have:τ=[]:=hp.symm.eq_nil
   subst this;exact ⟨s,h.run,.refl _⟩
 | x::σ,τ,st,s,hp,hn,hfw,hd,h=>by
   have hx:x ∈ τ:=hp.subset (by simp)
   obtain ⟨l1,l2,rfl⟩:=List.append_of_mem hx
   have hσn:(x::σ).Nodup:=hp.nodup_iff.2 hn
   have hxσ:x ∉ σ:=(List.nodup_cons.1 hσn).1
   have hp':σ.Perm (l1++l2):=(hp.trans List.perm_middle).cons_inv
   have hsub:(l1++l2).Sublist (l1++x::l2):=List.Sublist.append (List.Sublist.refl _) (List.sublist_cons_self _ _)
   have hn':(l1++l2).Nodup:=List.Sublist.nodup hsub hn
   have hind:∀ y ∈ l1,Qns iops y x=true:=by
    intro y hy
    cases hi:Qns iops y x with
    | true=>rfl
    | false =>
      exfalso
      have hs:[y,x].Sublist (l1++x::l2):=by
       have h1:[y].Sublist l1:=List.singleton_sublist.2 hy
       have h2:[x].Sublist (x::l2):=List.singleton_sublist.2 (by simp)
       exact h1.append h2
      have:=hd y x hi hs
      cases this with
      | cons _ hh=>exact hxσ (hh.subset (by simp))
      | cons_cons _ hh=>exact hxσ (hh.subset (by simp))
   have hfw2:fwd iops (x::(l1++l2)):=by
    have key:∀ (l:List Nat),fwd iops l ↔ l.Pairwise fun i j=>∀ x y,iops[i]? = some x→iops[j]? = some y→swK y.k=true→∀ d,y.dst=some d→d ∉ x.use∧x.dst ≠ some d:=by
     intro l
     induction l with
     | nil=>simp [fwd]
     | cons a l ih=>rw [List.pairwise_cons,← ih];rfl
    refine ⟨fun j hj=>hfw.1 j (hp'.symm.subset hj),?_⟩
    have h1:=(key _).1 h.fw
    exact (key _).2 (h1.sublist hsub)
   obtain ⟨s1,hF,e1⟩:=Qkv hind hfw2 h
   obtain ⟨xi,st1,hi,h1,hF1,-⟩:=hF.step
   obtain ⟨s2,q1,q2⟩:=Qod hp' hn' hfw.2 (fun i j hi hs=>by
    have:=hd i j hi (hs.trans hsub)
    cases this with
    | cons _ hh=>exact hh
    | cons_cons _ hh =>
      exfalso
      have:x ∈ l1++l2:=hs.subset (by simp)
      exact hxσ (hp'.symm.subset this)) hF1
   refine ⟨s2,?_,e1.trans q2⟩
   rw [Qc0 hi,h1];exact q1
end
end Go.Idl
namespace Go.Idl
open Go
def Juw (iops:List IOp):List Nat→Bool
 | []=>true
 | i::l=>(l.all fun j=>match iops[i]?,iops[j]? with
    | some x,some y=>!swK y.k || !(Qit y.dst x.use || (match x.dst,y.dst with
      | some d,some e=>d == e
      | _,_=>false))
    | _,_=>true) && Juw iops l
theorem Qvo {iops:List IOp}:∀ {l:List Nat},Juw iops l=true→fwd iops l
 | [],_=>trivial
 | i::l,h=>by
   simp only [Juw,Qba,List.all_eq_true] at h
   refine ⟨fun j hj x y hx hy hsw d hd=>?_,Qvo h.2⟩
   have:=h.1 j hj
   simp only [hx,hy,hsw,hd,Bool.not_true,Bool.false_or,Bool.not_eq_true',Bool.or_eq_false_iff,Qit] at this
   refine ⟨fun hm=>?_,fun hxd=>?_⟩
   · rw [List.contains_eq_mem,decide_eq_false_iff_not] at this;exact this.1 hm
   · rw [hxd] at this;simp at this
def Qo1 (iops:List IOp) (cs:List (List Nat)) (i j:Nat):Bool:=(Qns iops i j && (Qns iops j i || cs.all fun τ=>bef τ i j)) || (Qns iops j i && cs.all fun τ=>bef τ j i)
def Jdr (iops:List IOp) (cs:List (List Nat)) (n:Nat):List (Nat×Nat) :=
 (List.range n).flatMap fun j=>(List.range j).filterMap fun i=>if Qo1 iops cs i j then none else some (i,j)
theorem Qoc {iops:List IOp} {cs:List (List Nat)} {n i j:Nat}:(i,j) ∈ Jdr iops cs n ↔ i < j∧j < n∧Qo1 iops cs i j=false:=by
 unfold Jdr
 rw [List.mem_flatMap]
 constructor
 · rintro ⟨j',hj',hm⟩
   rw [List.mem_filterMap] at hm
   obtain ⟨i',hi',he⟩:=hm
   split at he
   · cases he
   · rename_i hf
     simp only [Qoi,Qpi] at he
     obtain ⟨rfl,rfl⟩:=he
     exact ⟨List.mem_range.1 hi',List.mem_range.1 hj',by simpa using hf⟩
 · rintro ⟨h1,h2,h3⟩
   exact ⟨j,List.mem_range.2 h2,List.mem_filterMap.2 ⟨i,List.mem_range.2 h1,by simp [h3]⟩⟩
def fwdC (c:List Nat) (iops:List IOp) (n:Nat):Bool:=(List.range n).all fun i=>(List.range n).all fun j=>i == j || (match iops[i]?,iops[j]? with
 | some x,some y=>!swK y.k || !(Qit y.dst x.use || (match x.dst,y.dst with
    | some d,some e=>d == e
    | _,_=>false)) || (c.getD i 0).testBit j
 | _,_=>true)
def Jjw (iops:List IOp) (c:List Nat):List (Nat×Nat)→List (Nat×Nat)→List (List Nat)→Bool
 | [],_,cs=>!cs.isEmpty
 | (i,j)::r,E,cs=>(forced c E j i || Jjw iops c r ((i,j)::E) (cs.filter fun τ=>bef τ i j || Qns iops j i)) && (forced c E i j || Jjw iops c r ((j,i)::E) (cs.filter fun τ=>bef τ j i || Qns iops i j))
theorem Qjo {iops:List IOp} {σ:List Nat} (hn:σ.Nodup) {c:List Nat} (hc:∀ k i,(c.getD k 0).testBit i=true→[i,k].Sublist σ):∀ {A E:List (Nat×Nat)} {cs:List (List Nat)},(∀ i j,(i,j) ∈ A→i ∈ σ∧j ∈ σ∧i ≠ j) →
 (∀ i j,(i,j) ∈ E→[i,j].Sublist σ)→Jjw iops c A E cs=true →
 ∃ τ ∈ cs,∀ i j,(i,j) ∈ A→(([i,j].Sublist σ∧([i,j].Sublist τ ∨ Qns iops j i=true)) ∨ ([j,i].Sublist σ∧([j,i].Sublist τ ∨ Qns iops i j=true)))
 | [],E,cs,_,_,h=>by
   cases cs with
   | nil=>simp [Jjw] at h
   | cons τ cs=>exact ⟨τ,by simp,by simp⟩
 | (i,j)::A,E,cs,hA,hE,h=>by
   simp only [Jjw,Qba,Bool.or_eq_true] at h
   obtain ⟨h1,h2,h3⟩:=hA i j (by simp)
   have hA':∀ i j,(i,j) ∈ A→i ∈ σ∧j ∈ σ∧i ≠ j:=fun i j hm=>hA i j (by simp [hm])
   rcases Qhm h1 h2 h3 with hs | hs
   · have hcv:=h.1.resolve_left (fun hf=>Qa0 hn hs (Qcz hn hc hE hf))
     obtain ⟨τ,hτ,ht⟩:=Qjo hn hc hA' (fun a b hm=>by
      rcases List.mem_cons.1 hm with he | hm
      · cases he;exact hs
      · exact hE a b hm) hcv
     rw [List.mem_filter,Bool.or_eq_true] at hτ
     refine ⟨τ,hτ.1,fun a b hm=>?_⟩
     rcases List.mem_cons.1 hm with he | hm
     · cases he;exact .inl ⟨hs,hτ.2.imp Qb9 id⟩
     · exact ht a b hm
   · have hcv:=h.2.resolve_left (fun hf=>Qa0 hn hs (Qcz hn hc hE hf))
     obtain ⟨τ,hτ,ht⟩:=Qjo hn hc hA' (fun a b hm=>by
      rcases List.mem_cons.1 hm with he | hm
      · cases he;exact hs
      · exact hE a b hm) hcv
     rw [List.mem_filter,Bool.or_eq_true] at hτ
     refine ⟨τ,hτ.1,fun a b hm=>?_⟩
     rcases List.mem_cons.1 hm with he | hm
     · cases he;exact .inr ⟨hs,hτ.2.imp Qb9 id⟩
     · exact ht a b hm
def Jbl (ops:Array Oper) (iops:List IOp) (ord:List Nat) (alts:List (List Nat)):Bool :=
 let c:=clo .any ops.toList []
 let cs:=ord::alts
 let D:=Jdr iops cs ops.size
 let A:=D.filter fun p=>!(c.getD p.2 0).testBit p.1
 Qjb .any ops && (cs.all fun τ=>Qys τ ops.size) && (cs.all fun τ=>D.all fun p=>!(c.getD p.2 0).testBit p.1 || bef τ p.1 p.2) && Jjw iops c A [] cs && (cs.all fun τ=>Juw iops τ) && fwdC c iops ops.size
theorem Qs8 {ops:Array Oper} {iops:List IOp} {ord:List Nat} {alts:List (List Nat)} (h:Jbl ops iops ord alts=true) {σ:List Nat} (hL:Lin .any ops σ) :
 ∃ τ ∈ ord::alts,σ.Perm τ∧τ.Nodup∧fwd iops τ∧fwd iops σ∧∀ i j,Qns iops i j=false→[i,j].Sublist τ→[i,j].Sublist σ:=by
 unfold Jbl at h
 simp only [Qba] at h
 obtain ⟨⟨⟨⟨⟨hb,hperm⟩,hclo⟩,hcov⟩,hfw⟩,hfc⟩:=h
 have hc:=Qiy hL ops.toList [] (fun k o hk=>by simpa using hk) (fun k i hi=>by simp at hi)
 obtain ⟨τ,hτ,ht⟩:=Qjo hL.nodup hc (fun i j hm=>by
  rw [List.mem_filter] at hm
  obtain ⟨h1,h2,h3⟩:=Qoc.1 hm.1
  exact ⟨(hL.mem i).2 (by omega),(hL.mem j).2 h2,by omega⟩) (by simp) hcov
 have hpτ:τ.Perm (List.range ops.size):=by
  rw [List.all_eq_true] at hperm
  exact Qfo (hperm τ hτ)
 have hpσ:σ.Perm (List.range ops.size):=by
  rw [List.perm_ext_iff_of_nodup hL.nodup List.nodup_range]
  intro i;rw [hL.mem,List.mem_range]
 have hnτ:τ.Nodup:=hpτ.nodup_iff.2 List.nodup_range
 have hfwσ:fwd iops σ:=by
  have key:∀ (l:List Nat),fwd iops l ↔ l.Pairwise fun i j=>∀ x y,iops[i]? = some x→iops[j]? = some y→swK y.k=true→∀ d,y.dst=some d→d ∉ x.use∧x.dst ≠ some d:=by
   intro l
   induction l with
   | nil=>simp [fwd]
   | cons a l ih=>rw [List.pairwise_cons,← ih];rfl
  rw [key,List.pairwise_iff_forall_sublist]
  intro i j hs x y hx hy hsw d hd
  have hil:i < ops.size:=(hL.mem i).1 (hs.subset (by simp))
  have hjl:j < ops.size:=(hL.mem j).1 (hs.subset (by simp))
  have hne:=Qhp hL.nodup hs
  unfold fwdC at hfc
  rw [List.all_eq_true] at hfc
  have h1:=hfc i (List.mem_range.2 hil)
  rw [List.all_eq_true] at h1
  have h2:=h1 j (List.mem_range.2 hjl)
  simp only [hx,hy,hsw,hd,Bool.not_true,Bool.false_or,Bool.or_eq_true,beq_iff_eq,Qit,Bool.not_eq_true',Bool.or_eq_false_iff] at h2
  rcases h2 with h2 | h2 | h2
  · exact absurd h2 hne
  · refine ⟨fun hm=>?_,fun hxd=>?_⟩
    · rw [List.contains_eq_mem,decide_eq_false_iff_not] at h2;exact h2.1 hm
    · rw [hxd] at h2;simp at h2
  · exact (Qa0 hL.nodup hs (hc _ _ h2)).elim
 rw [List.all_eq_true] at hfw
 refine ⟨τ,hτ,hpσ.trans hpτ.symm,hnτ,Qvo (hfw τ hτ),hfwσ,?_⟩
 have main:∀ i j,i < j→Qo1 iops (ord::alts) i j=false→j < ops.size→(([i,j].Sublist σ∧([i,j].Sublist τ ∨ Qns iops j i=true)) ∨ ([j,i].Sublist σ∧([j,i].Sublist τ ∨ Qns iops i j=true))):=by
  intro i j hij hi hj
  have hD:=Qoc.2 ⟨hij,hj,hi⟩
  cases hbit:((clo .any ops.toList []).getD j 0).testBit i with
  | true =>
    have h1:=hc j i hbit
    rw [List.all_eq_true] at hclo
    have h2:=hclo τ hτ
    rw [List.all_eq_true] at h2
    have h3:=h2 (i,j) hD
    simp only [hbit,Bool.not_true,Bool.false_or] at h3
    exact .inl ⟨h1,.inl (Qb9 h3)⟩
  | false=>exact ht i j (List.mem_filter.2 ⟨hD,by simp only [hbit,Bool.not_false]⟩)
 intro i j hi hs
 have hne:=Qhp hnτ hs
 have hil:i < ops.size:=List.mem_range.1 (hpτ.subset (hs.subset (by simp)))
 have hjl:j < ops.size:=List.mem_range.1 (hpτ.subset (hs.subset (by simp)))
 have allB:∀ i j,((ord::alts).all fun τ=>bef τ i j)=true→[i,j].Sublist τ:=fun i j h=>Qb9 (List.all_eq_true.1 h τ hτ)
 rcases Nat.lt_or_gt_of_ne hne with hlt | hlt
 · cases hf:Qo1 iops (ord::alts) i j with
   | true =>
     simp only [Qo1,hi,Bool.false_and,Bool.false_or,Qba] at hf
     exact (Qa0 hnτ hs (allB _ _ hf.2)).elim
   | false =>
     rcases main i j hlt hf hjl with ⟨h1,h2⟩ | ⟨h1,h2 | h2⟩
     · exact h1
     · exact (Qa0 hnτ hs h2).elim
     · rw [hi] at h2;cases h2
 · cases hf:Qo1 iops (ord::alts) j i with
   | true =>
     simp only [Qo1,hi,Bool.false_and,Bool.or_false,Bool.false_or,Qba] at hf
     exact (Qa0 hnτ hs (allB _ _ hf.2)).elim
   | false =>
     rcases main j i hlt hf hil with ⟨h1,h2 | h2⟩ | ⟨h1,h2⟩
     · exact (Qa0 hnτ hs h2).elim
     · rw [hi] at h2;cases h2
     · exact h1
end Go.Idl
namespace Go.Idl
open Go
def Qjy (D:Nat→Prop):IV→Prop
 | .arr (.S s) _ _ _ _ _ _ | .eptr (.S s) _ _ _ _=>¬ D s
 | _=>True
def nrD (D:Nat→Prop):IV→Prop
 | .agg cs=>∀ x ∈ cs,Qjy D x
 | x=>Qjy D x
structure Qe2 (D:Nat→Prop) (st st':St):Prop where
 T:∀ s,¬ D s→Qak st'.T s=Qak st.T s
 N:∀ s,¬ D s→nrD D (Qak st.T s)
 M:st'.M=st.M
 loc:st'.loc=st.loc
section
variable {D:Nat→Prop} {st st' st1 st2:St} {cf:CF}
theorem Qud (v:Value):Qjy D (cv1 v):=by
 unfold cv1;split <;> trivial
theorem Qij {s:Nat} (hs:¬ D s) {mk:Nat→Nat×Qf9}:∀ {cs:List IV} {i:Nat},(∀ x ∈ cs,Qjy D x)→∀ x ∈ Qdg (.S s) mk i cs,Qjy D x
 | [],_,_,x,hx=>by cases hx
 | c::cs,i,h,x,hx=>by
   have ih:=Qij hs (mk:=mk) (cs:=cs) (i:=i+1) fun y hy=>h y (by simp [hy])
   have hc:=h c (by simp)
   cases c <;> simp only [Qdg,List.mem_cons] at hx <;> rcases hx with rfl | hx <;> first | exact ih x hx | exact hc | exact hs
theorem Qe2.rd (h:Qe2 D st st') {o:Opd} (ho:NoU D (Qch o)):rd st'.T o=rd st.T o:=by
 cases o with
 | t s=>simp only [Idl.rd];rw [h.T s (ho s (by simp [Qch]))]
 | c v=>rfl
 | f l=>rfl
theorem Qe2.rdN (h:Qe2 D st st') {o:Opd} (ho:NoU D (Qch o)):nrD D (Idl.rd st.T o):=by
 cases o with
 | c v =>
   have one:∀ u,nrD D (cv1 u):=fun u=>by unfold cv1;split <;> trivial
   cases v with
   | agg cs=>intro x hx;obtain ⟨u,_,rfl⟩:=List.mem_map.1 hx;exact Qud u
   | _=>simp only [Idl.rd,cv];exact one _
 | f l=>trivial
 | t s =>
   have hs:=ho s (by simp [Qch])
   have hn:=h.N s hs
   simp only [Idl.rd]
   cases hx:Qak st.T s with
   | own e es=>exact hs
   | agg cs=>rw [hx] at hn;exact Qij hs hn
   | tup vs=>cases vs <;> trivial
   | _=>rw [hx] at hn;exact hn
theorem Qe2.box (h:Qe2 D st st') (l k:Nat):st'.box l k=st.box l k:=by
 unfold St.box;rw [h.M,h.loc]
theorem Qe2.plc (h:Qe2 D st st') {r:Rt} {c:Nat} {p:Qf9} (hr:∀ s,r=.S s→¬ D s):st'.plc r c p=st.plc r c p:=by
 have:st'.rcells r=st.rcells r:=by
  cases r with
  | S s=>simp only [St.rcells];rw [h.T s (hr s rfl)]
  | B l k=>exact h.box l k
 unfold St.plc;rw [this]
theorem Qe2.sview (h:Qe2 D st st') {x:IV} (hx:Qjy D x):st'.sview x=st.sview x:=by
 cases x with
 | arr r c p e off n cl =>
   simp only [St.sview]
   rw [h.plc (r:=r) fun s hs=>by subst hs;exact hx]
 | _=>rfl
theorem Qe2.loadCells (h:Qe2 D st st') {x:IV} {sz:Nat} (hx:Qjy D x):st'.loadCells sz x=st.loadCells sz x:=by
 cases x with
 | bptr l k c=>simp only [St.loadCells,h.box]
 | eptr r c p i j =>
   simp only [St.loadCells]
   rw [h.plc (r:=r) fun s hs=>by subst hs;exact hx]
 | _=>rfl
theorem Qe2.bound (h:Qe2 D st st') {d:Nat} {o:Option Opd} (ho:NoU D (Qzz o)):Idl.bound d st'.T o=Idl.bound d st.T o:=by
 cases o with
 | none=>rfl
 | some o=>simp only [Idl.bound];rw [h.rd (o:=o) ho]
theorem Qrh {x:IV} (h:nrD D x) (hx:∀ cs,x ≠ .agg cs):Qjy D x:=by
 cases x <;> first | exact h | exact absurd rfl (hx _)
theorem Qe2.evq (h:Qe2 D st st') {k:K} (ho:NoU D k.useL):Idl.evq st' k=Idl.evq st k:=by
 have sub:∀ {x:Opd} {l:List Nat},(∀ s ∈ Qch x,s ∈ l)→NoU D l→Idl.rd st'.T x=Idl.rd st.T x:=fun hs hl=>h.rd fun s hh=>hl s (hs s hh)
 cases k <;> simp only [K.useL] at ho <;> simp only [Idl.evq]
 case mv x=>rw [h.rd ho]
 case pick c a b =>
  rw [sub (x:=c) (by intro s hs;simp [hs]) ho]
  split
  · rename_i t _
    rw [h.rd (o:=if t=true then a else b) (by intro s hs;refine ho s ?_;cases t <;> simp_all)]
  · rfl
 case load ag sz a =>
  rw [h.rd ho]
  have hn:=h.rdN ho
  generalize Idl.rd st.T a=y at *
  cases y with
  | agg cs=>rfl
  | _=>rw [h.loadCells (Qrh hn (fun _ hh=>by cases hh))]
 case bsls e z n ps=>rw [Qfg (T:=st.T) fun p hp=>h.rd fun s hs=>ho s (List.mem_flatMap.2 ⟨p,hp,hs⟩)]
 case nilck x=>rw [h.rd ho]
 case bin op x y=>rw [sub (x:=x) (by intro s hs;simp [hs]) ho,sub (x:=y) (by intro s hs;simp [hs]) ho]
 case eqa n q x y=>rw [sub (x:=x) (by intro s hs;simp [hs]) ho,sub (x:=y) (by intro s hs;simp [hs]) ho]
 case eqb n x y=>rw [sub (x:=x) (by intro s hs;simp [hs]) ho,sub (x:=y) (by intro s hs;simp [hs]) ho]
 case unop op x=>rw [h.rd ho]
 case conv q x=>rw [h.rd ho]
 case mkfn f caps =>
  have:caps.map (Idl.rd st'.T)=caps.map (Idl.rd st.T):=List.map_congr_left fun o hm=>h.rd fun s hs=>ho s (List.mem_flatMap.2 ⟨o,hm,hs⟩)
  rw [this]
 case mksl e z x y=>rw [sub (x:=x) (by intro s hs;simp [hs]) ho,sub (x:=y) (by intro s hs;simp [hs]) ho]
 case slc e x lo hi mx =>
  rw [sub (x:=x) (by intro s hs;simp [hs]) ho]
  simp only [h.bound (o:=lo) (fun s hs=>ho s (by simp [hs])),h.bound (o:=hi) (fun s hs=>ho s (by simp [hs]))]
  cases mx with
  | none=>rfl
  | some m=>simp only;rw [sub (x:=m) (by intro s hs;simp [Qzz,hs]) ho]
 case slcs x lo hi =>
  rw [sub (x:=x) (by intro s hs;simp [hs]) ho]
  simp only [h.bound (o:=lo) (fun s hs=>ho s (by simp [hs])),h.bound (o:=hi) (fun s hs=>ho s (by simp [hs]))]
 case fadr off x=>rw [h.rd ho]
 case fld ag off sz x=>rw [h.rd ho]
 case iadr e x i=>rw [sub (x:=x) (by intro s hs;simp [hs]) ho,sub (x:=i) (by intro s hs;simp [hs]) ho]
 case idxs x i=>rw [sub (x:=x) (by intro s hs;simp [hs]) ho,sub (x:=i) (by intro s hs;simp [hs]) ho]
 case len x=>rw [h.rd ho]
 case capn x=>rw [h.rd ho]
 case lens x=>rw [h.rd ho]
 case minmax mn x y=>rw [sub (x:=x) (by intro s hs;simp [hs]) ho,sub (x:=y) (by intro s hs;simp [hs]) ho]
theorem Qe2.seen (h:Qe2 D st st') {x:IV} (hx:Qjy D x):st'.seen x=st.seen x:=by
 unfold St.seen;rw [h.sview hx]
theorem Qe2.seens (h:Qe2 D st st'):∀ {xs:List IV},(∀ x ∈ xs,Qjy D x)→st'.seens xs=st.seens xs
 | [],_=>rfl
 | x::xs,hx=>by
   simp only [St.seens,h.seen (hx x (by simp)),h.seens (xs:=xs) fun y hy=>hx y (List.mem_cons_of_mem _ hy)]
theorem Qe2.arg2 (h:Qe2 D st st') {m:Mode} {o:Opd} (hm:(m == .val || m == .rv)=true) (ho:NoU D (Qch o)):st'.arg2 m o=st.arg2 m o:=by
 have hn:=h.rdN ho
 cases m <;> simp only [Bool.or_eq_true,beq_iff_eq,reduceCtorEq,or_self,or_false,false_or] at hm <;> simp only [St.arg2,h.rd ho]
 generalize Idl.rd st.T o=y at *
 cases y with
 | agg cs=>simp only;rw [h.seens hn]
 | _=>exact h.seen (Qrh hn (fun _ hh=>by cases hh))
theorem Qe2.args2 (h:Qe2 D st st'):∀ {l:List (Mode×Opd)} {vs:List (Option IV)},(l.all fun a=>a.1 == .val || a.1 == .rv)=true→NoU D (l.flatMap fun a=>Qch a.2)→st'.args2 l vs=st.args2 l vs
 | [],[],_,_=>rfl
 | [],_::_,_,_=>rfl
 | a::l,[],_,_=>rfl
 | a::l,some v::vs,hm,ho=>by
   simp only [List.all_cons,Qba] at hm
   simp only [St.args2]
   rw [h.args2 hm.2 fun s hs=>ho s (by rw [List.flatMap_cons];simp [hs])]
 | (m,o)::l,none::vs,hm,ho=>by
   simp only [List.all_cons,Qba] at hm
   simp only [St.args2]
   rw [h.arg2 hm.1 fun s hs=>ho s (by simp [hs]),h.args2 hm.2 fun s hs=>ho s (by rw [List.flatMap_cons];simp [hs])]
theorem Quk:∀ {l:List (Mode×Opd)} (st:St),(l.all fun a=>a.1 == .val || a.1 == .rv)=true→∃ vs ss,st.args1 l=some (vs,st,ss)∧∀ st':St,∃ ss',st'.args1 l=some (vs,st',ss')
 | [],st,_=>⟨[],[],rfl,fun st'=>⟨[],rfl⟩⟩
 | (m,o)::l,st,h=>by
   simp only [List.all_cons,Qba,Bool.or_eq_true,beq_iff_eq] at h
   have h1:∀ st:St,st.arg1 m o=some (none,st):=fun st=>by rcases h.1 with rfl | rfl <;> rfl
   obtain ⟨vs,ss,q1,q2⟩:=Quk (l:=l) st h.2
   refine ⟨none::vs,Qeu st.T m o++ss,by simp only [St.args1,h1,q1],fun st'=>?_⟩
   obtain ⟨ss',q3⟩:=q2 st'
   exact ⟨Qeu st'.T m o++ss',by simp only [St.args1,h1,q3]⟩
theorem Qe2.callq (h:Qe2 D st st') {f:Lab} {l:List (Mode×Opd)} {v:IV} {st1:St} (hm:(l.all fun a=>a.1 == .val || a.1 == .rv)=true) (ho:NoU D (l.flatMap fun a=>Qch a.2)) (hc:st.callWith cf f [] l true=some (v,st1)) :
 st1=st∧st'.callWith cf f [] l true=some (v,st'):=by
 obtain ⟨vs,ss,q1,q2⟩:=Quk st hm
 obtain ⟨ss',q3⟩:=q2 st'
 unfold St.callWith St.args at hc ⊢
 simp only [q1] at hc
 simp only [q3,h.args2 hm ho]
 split at hc
 rotate_left
 · cases hc
 rename_i w1 w2 w3 w4 w5 hw
 split at hw
 rotate_left
 · cases hw
 rename_i ys b hy
 simp only [Qoi,Qpi] at hw
 obtain ⟨rfl,rfl,rfl,rfl⟩:=hw
 simp only [hy,if_true] at hc ⊢
 split at hc
 · cases hc
 rename_i hg
 rw [if_neg hg]
 split at hc
 rotate_left
 · cases hc
 split at hc
 · rename_i hz
   simp only [hz,if_true]
   split at hc
   · rename_i hn
     rw [if_pos hn]
     simp only [Qoi,Qpi] at hc ⊢
     exact ⟨hc.2.symm,hc.1,trivial⟩
   · cases hc
 · rename_i hz
   simp only [hz,if_false,Bool.false_eq_true]
   simp only [Qoi,Qpi] at hc ⊢
   exact ⟨hc.2.symm,hc.1,trivial⟩
theorem Qe2.ev (h:Qe2 D st st') {k:K} (hq:Qck k=true) (ho:NoU D k.useL) {v:IV} {st1:St} (he:ev cf st k=some (v,st1)):ev cf st' k=some (v,st'):=by
 by_cases hp:Qex k=true
 · rw [Ql3 hp] at he ⊢
   rw [h.evq ho]
   rw [Option.map_eq_some_iff] at he ⊢
   obtain ⟨u,h1,h2⟩:=he
   simp only [Qpi] at h2
   exact ⟨u,h1,by rw [h2.1]⟩
 · cases k <;> simp only [Qck,Qex,Bool.false_eq_true,not_true_eq_false] at hq hp
   · rename_i f args p
     cases p with
     | false=>simp [Qck,Qex] at hq
     | true=>exact (h.callq (by simpa [Qck] using hq) ho he).2
   · rename_i f args
     exact (h.callq hq ho he).2
theorem Qqi {x:IOp} (hq:Qck x.k=true) (he:Qar cf st x=some st1):∃ v,st1=Qey st x.dst v∧∀ (D:Nat→Prop) st',Qe2 D st st'→NoU D x.use→Qar cf st' x=some (Qey st' x.dst v):=by
 have hu:∀ {D:Nat→Prop},NoU D x.use→NoU D x.k.useL:=fun ho s hs=>ho s (by simp [IOp.use,hs])
 have put:∀ (st:St) (v:IV),(match x.dst with
  | some d=>some { st with T:=tput st.T d v }
  | none=>some st)=some (Qey st x.dst v):=fun st v=>by unfold Qey;cases x.dst <;> rfl
 have run:∀ {st1:St},(match ev cf st x.k with
  | some (v,st')=>match x.dst with
    | some d=>some { st' with T:=tput st'.T d v }
    | none=>some st'
  | none=>none)=some st1→∃ v,st1=Qey st x.dst v∧∀ (D:Nat→Prop) st',Qe2 D st st'→NoU D x.use→(match ev cf st' x.k with
  | some (v,st')=>match x.dst with
    | some d=>some { st' with T:=tput st'.T d v }
    | none=>some st'
  | none=>none)=some (Qey st' x.dst v):=by
  intro st1 hh
  split at hh
  rotate_left
  · cases hh
  rename_i v st2 h2
  have:=Qkq hq h2
  subst this
  rw [put] at hh
  simp only [Qoi] at hh
  refine ⟨v,hh.symm,fun D st' hs ho=>?_⟩
  rw [hs.ev hq (hu ho) h2]
  exact put _ _
 have skip:∀ {st1:St},(match x.dst with
  | some d=>some { st with T:=tput st.T d (.tup []) }
  | none=>some st)=some st1→∃ v,st1=Qey st x.dst v∧∀ (D:Nat→Prop) st',Qe2 D st st'→NoU D x.use→(match x.dst with
  | some d=>some { st' with T:=tput st'.T d (.tup []) }
  | none=>some st')=some (Qey st' x.dst v):=by
  intro st1 hh
  rw [put] at hh
  simp only [Qoi] at hh
  exact ⟨.tup [],hh.symm,fun D st' _ _=>put _ _⟩
 unfold Qar at he
 unfold Qar
 cases hg:x.g with
 | none=>rw [hg] at he;exact run he
 | some sb =>
   obtain ⟨s,b⟩:=sb
   rw [hg] at he
   have hsu:∀ {D:Nat→Prop} {st':St},Qe2 D st st'→NoU D x.use→Qak st'.T s=Qak st.T s:=fun hs ho=>hs.T s (ho s (by simp [IOp.use,hg,gU]))
   simp only at he ⊢
   split at he
   · rename_i t ht
     split at he
     · rename_i htb
       obtain ⟨v,h1,h2⟩:=run he
       refine ⟨v,h1,fun D st' hs ho=>?_⟩
       rw [hsu hs ho,ht]
       simp only
       rw [if_pos htb]
       exact h2 D st' hs ho
     · rename_i htb
       obtain ⟨v,h1,h2⟩:=skip he
       refine ⟨v,h1,fun D st' hs ho=>?_⟩
       rw [hsu hs ho,ht]
       simp only
       rw [if_neg htb]
       exact h2 D st' hs ho
   · rename_i ht
     obtain ⟨v,h1,h2⟩:=skip he
     refine ⟨v,h1,fun D st' hs ho=>?_⟩
     rw [hsu hs ho,ht]
     exact h2 D st' hs ho
   · cases he
def Qd8 (ss:List Nat) (T:Tm):Tm:=ss.foldl (fun T s=>dropSlot s T) T
theorem Qjk (a b:List Nat) (T:Tm):Qd8 (a++b) T=Qd8 b (Qd8 a T):=by simp [Qd8]
theorem Qg3 {d:Nat}:∀ {ss:List Nat} {T:Tm},(Qak T d).holds=false→(Qak (Qd8 ss T) d).holds=false
 | [],_,h=>h
 | t::ss,T,h=>by
   refine Qg3 (ss:=ss) (T:=dropSlot t T) ?_
   simp only [dropSlot,Qak]
   split
   · rfl
   · unfold Qbd;rw [Qai];exact Qp8 h
theorem Qq1 {q:IV→Bool} {x:IV} (h:Qhi x=true):Qhi (kl q x)=true:=by
 have h1:∀ c,Qee c=true→Qee (klc q c)=true:=fun c hc=>by
  unfold klc;split
  · rfl
  · exact hc
 cases x with
 | agg cs =>
   simp only [Qhi,kl,kl1,List.all_eq_true,List.mem_map] at h ⊢
   rintro y ⟨c,hc,rfl⟩
   exact h1 c (h c hc)
 | tup vs=>simp [Qhi] at h
 | _=>first | (simp only [kl,kl1,klc];split <;> first | rfl | exact h)
theorem Qrs {s t:Nat} {T:Tm} (h:Qhi (Qak T s)=true):Qhi (Qak (dropSlot t T) s)=true:=by
 simp only [dropSlot,Qak]
 split
 · rfl
 · unfold Qbd;rw [Qai];exact Qq1 h
theorem Qjq {s:Nat}:∀ {ss:List Nat} {T:Tm},Qhi (Qak T s)=true→Qhi (Qak (Qd8 ss T) s)=true
 | [],_,h=>h
 | t::ss,T,h=>Qjq (ss:=ss) (Qrs h)
theorem Qic {o:Opd} {ss:List Nat} {T:Tm} (h:Qez T o=true):Qez (Qd8 ss T) o=true:=by
 cases o with
 | t s=>exact Qjq h
 | _=>rfl
theorem Qi2 {T T':Tm} {o:Opd} {v:IV} (h:tk T o=(v,T')):∃ ss,(∀ s ∈ ss,s ∈ Qch o)∧T'=Qd8 ss T:=by
 cases o with
 | t s =>
   simp only [tk] at h
   split at h
   · simp only [Qpi] at h;exact ⟨[s],by simp [Qch],h.2.symm⟩
   · simp only [Qpi] at h;exact ⟨[],by simp,h.2.symm⟩
 | c u=>simp only [tk,Qpi] at h;exact ⟨[],by simp,h.2.symm⟩
 | f l=>simp only [tk,Qpi] at h;exact ⟨[],by simp,h.2.symm⟩
theorem Jcb {T T':Tm} {o:Opd} {v:IV} (h:tk T o=(v,T')) (hn:Qez T o=true):Qhi v=true ∨ (∃ u,o=.c u):=by
 cases o with
 | t s =>
   simp only [tk] at h
   split at h
   · simp only [Qpi] at h;rw [← h.1];exact .inl (Qq1 hn)
   · simp only [Qpi] at h;rw [← h.1];exact .inl hn
 | c u=>exact .inr ⟨u,rfl⟩
 | f l=>simp only [tk,Qpi] at h;rw [← h.1];exact .inl rfl
theorem Qsk (v:Value):Qee (cv1 v)=true:=by
 unfold cv1;split <;> rfl
theorem Qqh {T T':Tm} {o:Opd} {v:IV} (h:tk T o=(v,T')) (hn:Qez T o=true):∀ x ∈ v.wcells,Qee x=true:=by
 rcases Jcb h hn with hv | ⟨u,rfl⟩
 · cases v with
   | agg cs=>simp only [Qhi,List.all_eq_true] at hv;exact hv
   | tup vs=>simp [Qhi] at hv
   | _=>intro x hx;simp only [IV.wcells,List.mem_singleton] at hx;subst hx;exact hv
 · simp only [tk,Qpi] at h
   rw [← h.1]
   cases u with
   | agg cs=>intro x hx;simp only [cv,IV.wcells,List.mem_map] at hx;obtain ⟨c,_,rfl⟩:=hx;exact Qsk c
   | _=>intro x hx;simp only [cv] at hx;unfold cv1 at hx;split at hx <;> simp only [IV.wcells,List.mem_singleton] at hx <;> subst hx <;> rfl
theorem Qif {x y:IV} (hx:Qee x=true) (h:st.absorb x=some (y,st1)):st1=st:=by
 cases x <;> simp only [St.absorb,reduceCtorEq,Qoi,Qpi] at h <;> first | exact h.2.symm | simp [Qee] at hx
theorem Qsf {q:IV→Bool} {x:IV} (h:Qee x=true):Qee (klc q x)=true:=by
 unfold klc;split
 · rfl
 · exact h
theorem Qf5:∀ {xs ys:List IV} {pk:IV→Bool} {st st1:St},(∀ x ∈ xs,Qee x=true)→st.absorbsK pk xs=some (ys,st1)→st1=st
 | [],ys,pk,st,st1,_,h=>by simp only [St.absorbsK,Qoi,Qpi] at h;exact h.2.symm
 | x::xs,ys,pk,st,st1,hx,h=>by
   simp only [St.absorbsK] at h
   split at h
   rotate_left
   · cases h
   rename_i y st2 h1
   split at h
   rotate_left
   · cases h
   rename_i ys2 st3 h2
   simp only [Qoi,Qpi] at h
   have e1:=Qif (Qsf (hx x (by simp))) h1
   have e2:=Qf5 (fun z hz=>hx z (by simp [hz])) h2
   rw [← h.2,e2,e1]
theorem Qfh:∀ {ps:List (Nat×Nat×Opd)} {cs cs2:List IV} {T T':Tm},fillCells T cs ps=some (cs2,T')→∃ ss,(∀ s ∈ ss,s ∈ ps.flatMap fun p=>Qch p.2.2)∧T'=Qd8 ss T
 | [],cs,cs2,T,T',h=>by simp only [fillCells,Qoi,Qpi] at h;exact ⟨[],by simp,h.2.symm⟩
 | (off,sz,o)::r,cs,cs2,T,T',h=>by
   simp only [fillCells] at h
   cases ht:tk T o with
   | mk v T1 =>
   rw [ht] at h
   simp only at h
   split at h
   rotate_left
   · cases h
   obtain ⟨s1,a1,rfl⟩:=Qi2 ht
   obtain ⟨s2,b1,rfl⟩:=Qfh h
   refine ⟨s1++s2,fun s hs=>?_,by rw [Qjk]⟩
   rw [List.flatMap_cons]
   rcases List.mem_append.1 hs with hs | hs
   · simp [a1 s hs]
   · exact List.mem_append.2 (.inr (b1 s hs))
theorem Qe6:∀ {ps:List (Nat×Opd)} {es es2:List (List IV)} {e:Nat} {st st1:St},(∀ p ∈ ps,Qez st.T p.2=true)→st.fillElems es e ps=some (es2,st1) →
 st1.M=st.M∧st1.loc=st.loc∧∃ ss,(∀ s ∈ ss,s ∈ ps.flatMap fun p=>Qch p.2)∧st1.T=Qd8 ss st.T
 | [],es,es2,e,st,st1,_,h=>by
   simp only [St.fillElems,Qoi,Qpi] at h
   rw [← h.2];exact ⟨rfl,rfl,[],by simp,rfl⟩
 | (i,o)::r,es,es2,e,st,st1,hn,h=>by
   simp only [St.fillElems] at h
   cases ht:tk st.T o with
   | mk v T1 =>
   rw [ht] at h
   simp only at h
   split at h
   rotate_left
   · cases h
   rename_i cs st2 h2
   split at h
   rotate_left
   · cases h
   obtain ⟨s1,a1,rfl⟩:=Qi2 ht
   have e2:=Qf5 (Qqh ht (hn (i,o) (by simp))) h2
   subst e2
   obtain ⟨b1,b2,s2,b3,b4⟩:=Qe6 (fun p hp=>Qic (hn p (by simp [hp]))) h
   refine ⟨b1,b2,s1++s2,fun s hs=>?_,by rw [b4,Qjk]⟩
   rw [List.flatMap_cons]
   rcases List.mem_append.1 hs with hs | hs
   · simp [a1 s hs]
   · exact List.mem_append.2 (.inr (b3 s hs))
theorem Qt8 {k:K} (hk:Qy5 k=true) (ho:Qfj st.T k=true) {v:IV} (he:ev cf st k=some (v,st1)) :
 st1.M=st.M∧st1.loc=st.loc∧∃ ss,(∀ s ∈ ss,s ∈ k.useL)∧st1.T=Qd8 ss st.T:=by
 cases k <;> simp only [Qy5,Bool.false_eq_true] at hk
 case build zero parts =>
  simp only [ev] at he
  split at he
  · rename_i cs T h1
    simp only [Qoi,Qpi] at he
    obtain ⟨ss,a1,rfl⟩:=Qfh h1
    rw [← he.2]
    exact ⟨rfl,rfl,ss,a1,rfl⟩
  · cases he
 case bsl e z n ps =>
  simp only [ev] at he
  split at he
  · rename_i es st2 h1
    simp only [Qoi,Qpi] at he
    rw [← he.2]
    simp only [Qfj,List.all_eq_true] at ho
    exact Qe6 ho h1
  · cases he
 case app e x y =>
  simp only [Qfj] at ho
  simp only [ev] at he
  split at he
  rotate_left
  · cases he
  rename_i ys st2 h1
  split at he
  rotate_left
  · cases he
  rename_i u st3 h2
  simp only [Qoi,Qpi] at he
  obtain ⟨-,rfl⟩:=he
  have hy:st2.M=st.M∧st2.loc=st.loc∧∃ ss,(∀ s ∈ ss,s ∈ Qch y)∧st2.T=Qd8 ss st.T:=by
   unfold St.news at h1
   split at h1
   · rename_i e2 es T1 ht
     split at h1
     · simp only [Qoi,Qpi] at h1
       obtain ⟨ss,a1,rfl⟩:=Qi2 ht
       rw [← h1.2];exact ⟨rfl,rfl,ss,a1,rfl⟩
     · cases h1
   · split at h1
     · split at h1
       · simp only [Qoi,Qpi] at h1
         rw [← h1.2];exact ⟨rfl,rfl,[],by simp,rfl⟩
       · cases h1
     · cases h1
  obtain ⟨m1,m2,s1,a1,hT⟩:=hy
  have hno:Qez st2.T x=true:=by rw [hT];exact Qic ho
  have hx:st3.M=st2.M∧st3.loc=st2.loc∧∃ ss,(∀ s ∈ ss,s ∈ Qch x)∧st3.T=Qd8 ss st2.T:=by
   unfold St.append at h2
   cases ht:tk st2.T x with
   | mk w T1 =>
   have hc:=Qqh ht hno
   obtain ⟨ss,a2,hT1⟩:=Qi2 ht
   rw [ht] at h2
   have fin:∀ {q:Option (IV×St)},q=({ st2 with T:=T1 }:St).absorb w→(match q with
    | some (.own e2 es,st)=>if e2=e∧es.length+ys.length≤lim then some (IV.own e (es++ys),st) else none
    | _=>none)=some (u,st3)→(w.wcells=[w])→st3.M=st2.M∧st3.loc=st2.loc∧∃ ss,(∀ s ∈ ss,s ∈ Qch x)∧st3.T=Qd8 ss st2.T:=by
    intro q hq hm hw
    split at hm
    · rename_i e2 es st4
      split at hm
      · simp only [Qoi,Qpi] at hm
        obtain ⟨-,rfl⟩:=hm
        have:=Qif (hc w (by rw [hw];simp)) hq.symm
        subst this
        exact ⟨rfl,rfl,ss,a2,hT1⟩
      · cases hm
    · cases hm
   have same:∀ {b:Prop} [Decidable b] {r:IV},(if b then some (r,st2) else none)=some (u,st3)→st3.M=st2.M∧st3.loc=st2.loc∧∃ ss,(∀ s ∈ ss,s ∈ Qch x)∧st3.T=Qd8 ss st2.T:=by
    intro b _ r hm
    split at hm
    · simp only [Qoi,Qpi] at hm
      obtain ⟨-,rfl⟩:=hm
      exact ⟨rfl,rfl,[],by simp,rfl⟩
    · cases hm
   cases w with
   | lst e2 es c =>
     cases c with
     | true=>exact same h2
     | false=>exact fin rfl h2 rfl
   | arr r c p e2 off n cl=>have:=hc _ (List.mem_singleton.2 rfl);simp [Qee] at this
   | agg cs=>simp [St.absorb] at h2
   | tup vs=>simp [St.absorb] at h2
   | _=>exact fin rfl h2 rfl
  obtain ⟨n1,n2,s2,b1,hT2⟩:=hx
  refine ⟨n1.trans m1,n2.trans m2,s1++s2,fun s hs=>?_,by rw [hT2,hT,Qjk]⟩
  simp only [K.useL]
  rcases List.mem_append.1 hs with hs | hs
  · exact List.mem_append.2 (.inr (a1 s hs))
  · exact List.mem_append.2 (.inl (b1 s hs))
theorem Qre {x:IOp} (hk:Qy5 x.k=true) (ho:Qfj st.T x.k=true) (he:Qar cf st x=some st1) :
 ∃ ss v st2,(∀ s ∈ ss,s ∈ x.use)∧st2.M=st.M∧st2.loc=st.loc∧st2.T=Qd8 ss st.T∧st1=Qey st2 x.dst v:=by
 have put:∀ (st:St) (v:IV) {r:St},(match x.dst with
  | some d=>some { st with T:=tput st.T d v }
  | none=>some st)=some r→r=Qey st x.dst v:=fun st v r h=>by
  unfold Qey;cases hd:x.dst <;> simp_all
 have run:(match ev cf st x.k with
  | some (v,st')=>match x.dst with
    | some d=>some { st' with T:=tput st'.T d v }
    | none=>some st'
  | none=>none)=some st1→∃ ss v st2,(∀ s ∈ ss,s ∈ x.use)∧st2.M=st.M∧st2.loc=st.loc∧st2.T=Qd8 ss st.T∧st1=Qey st2 x.dst v:=by
  intro hh
  split at hh
  rotate_left
  · cases hh
  rename_i v st2 h2
  obtain ⟨a1,a2,ss,a3,a4⟩:=Qt8 hk ho h2
  exact ⟨ss,v,st2,fun s hs=>by simp [IOp.use,a3 s hs],a1,a2,a4,put st2 v hh⟩
 have skip:(match x.dst with
  | some d=>some { st with T:=tput st.T d (.tup []) }
  | none=>some st)=some st1→∃ ss v st2,(∀ s ∈ ss,s ∈ x.use)∧st2.M=st.M∧st2.loc=st.loc∧st2.T=Qd8 ss st.T∧st1=Qey st2 x.dst v :=
  fun hh=>⟨[],.tup [],st,by simp,rfl,rfl,rfl,put st _ hh⟩
 unfold Qar at he
 split at he
 · exact run he
 · split at he
   · split at he
     · exact run he
     · exact skip he
   · exact skip he
   · cases he
theorem Qqb {ds:List Nat} (hD:∀ s,D s→s ∈ ds) {x:IV} (h:nrV ds x=true):nrD D x:=by
 have h1:∀ c,nr1 ds c=true→Qjy D c:=fun c hc=>by
  cases c with
  | arr r a p e o n cl=>cases r with
    | S s=>intro hs;simp [nr1,hD s hs] at hc
    | B l k=>trivial
  | eptr r a p i j=>cases r with
    | S s=>intro hs;simp [nr1,hD s hs] at hc
    | B l k=>trivial
  | _=>trivial
 cases x with
 | agg cs=>intro y hy;simp only [nrV,nrA,List.all_eq_true] at h;exact h1 y (h y hy)
 | tup vs=>trivial
 | _=>exact h1 _ (by simpa only [nrV,nrA] using h)
theorem Jzs {ds:List Nat} {s:Nat} (hs:s ∈ ds) {x:IV} (h:nrV ds x=true):kl (IV.rooted (.S s)) x=x:=by
 have h1:∀ c,nr1 ds c=true→klc (IV.rooted (.S s)) c=c:=fun c hc=>by
  unfold klc
  split
  · rename_i hr
    cases c with
    | arr r a p e o n cl =>
      simp only [IV.rooted,decide_eq_true_eq] at hr
      subst hr
      simp [nr1,hs] at hc
    | eptr r a p i j =>
      simp only [IV.rooted,decide_eq_true_eq] at hr
      subst hr
      simp [nr1,hs] at hc
    | _=>simp [IV.rooted] at hr
  · rfl
 have h2:∀ c,nrA ds c=true→kl1 (IV.rooted (.S s)) c=c:=fun c hc=>by
  cases c with
  | agg cs =>
    simp only [nrA,List.all_eq_true] at hc
    simp only [kl1]
    congr 1
    conv=>rhs;rw [← List.map_id cs]
    exact List.map_congr_left fun y hy=>h1 y (hc y hy)
  | _=>exact h1 _ hc
 cases x with
 | tup vs =>
   simp only [nrV,List.all_eq_true] at h
   simp only [kl]
   congr 1
   conv=>rhs;rw [← List.map_id vs]
   exact List.map_congr_left fun y hy=>h2 y (h y hy)
 | _=>exact h2 _ (by simpa only [nrV] using h)
theorem Qdo {ds:List Nat} {s:Nat}:∀ {ss:List Nat} {T:Tm},s ∉ ss→(∀ t ∈ ss,t ∈ ds)→nrV ds (Qak T s)=true→Qak (Qd8 ss T) s=Qak T s
 | [],T,_,_,_=>rfl
 | t::ss,T,hs,hd,hn=>by
   have h1:Qak (dropSlot t T) s=Qak T s:=by
    simp only [dropSlot,Qak]
    rw [if_neg (fun h=>hs (by simp [h])),show Qbd (.S t) T=Qas (IV.rooted (.S t)) T from rfl,Qai]
    exact Jzs (hd t (by simp)) hn
   show Qak (Qd8 ss (dropSlot t T)) s=_
   rw [Qdo (fun h=>hs (by simp [h])) (fun u hu=>hd u (by simp [hu])) (by rw [h1];exact hn),h1]
def Jzj (a b:List Nat):Bool:=a.all fun s=>!b.contains s
def Jea (ds:List Nat) (x:IOp):Bool:=(match x.dst with
 | some d=>ds.contains d
 | none=>true) && (!Qy5 x.k || x.use.all fun s=>ds.contains s)
def Qmr (ds:List Nat) (iops:List IOp) (i j:Nat):Bool:=match iops[i]?,iops[j]? with
 | some x,some y=>Qq7 x y && Jea ds x && Jea ds y && ((Qck x.k && Qck y.k) || (Jzj x.use y.use && ((Qdw x.k && Qy5 y.k) || (Qy5 x.k && Qck y.k))))
 | _,_=>false
theorem Qcd {T T':Tm} {k:K} (h:∀ s ∈ k.useL,Qak T' s=Qak T s):Qfj T' k=Qfj T k:=by
 have one:∀ o,(∀ s ∈ Qch o,s ∈ k.useL)→Qez T' o=Qez T o:=fun o ho=>by
  cases o with
  | t s=>simp only [Qez];rw [h s (ho s (by simp [Qch]))]
  | _=>rfl
 cases k with
 | app e x y=>exact one x fun s hs=>by simp [K.useL,hs]
 | bsl e z n ps =>
   simp only [Qfj]
   rw [Bool.eq_iff_iff,List.all_eq_true,List.all_eq_true]
   exact forall_congr' fun p=>⟨fun hh hp=>by rw [← one p.2 fun s hs=>List.mem_flatMap.2 ⟨p,hp,hs⟩];exact hh hp,fun hh hp=>by rw [one p.2 fun s hs=>List.mem_flatMap.2 ⟨p,hp,hs⟩];exact hh hp⟩
 | _=>rfl
theorem Qkt {k:K} (h:Qdw k=true):Qck k=true:=by simp only [Qdw,Qba] at h;exact h.1
theorem Jz7 {x:IOp} {d:Nat} (hd:x.dst ≠ some d) (hn:Qak st.T d=.un) (hu:d ∉ x.use) (he:Qar cf st x=some st1):Qak st1.T d=.un:=by
 have h:Sim (fun s=>s=d) (fun x=>x=.un) [] st st:=⟨fun _ _=>rfl,fun s hs=>by rw [hs];exact hn,fun s hs=>by rw [hs,hn];rfl,rfl,by simp⟩
 obtain ⟨st1',q1,q2,-⟩:=Qf6 h (by rintro q - x rfl;simp [kl,kl1,klc]) (.inr rfl) (x:=x) (fun s hs hh=>hu (hh ▸ hs)) (fun s hs hh=>hd (hh ▸ hs)) he
 rw [he] at q1
 cases q1
 exact q2.Q d rfl
theorem Jzm {ds:List Nat} {iops:List IOp} {i j:Nat} {x y:IOp} (hx:iops[i]? = some x) (hy:iops[j]? = some y) (hi:Qmr ds iops i j=true)
 (hfx:∀ d,x.dst=some d→Qak st.T d=.un) (hfy:∀ d,y.dst=some d→Qak st.T d=.un)
 (n0:∀ s,nrV ds (Qak st.T s)=true) (n1:∀ s,nrV ds (Qak st1.T s)=true) (n2:∀ s,nrV ds (Qak st2.T s)=true) (e0:Qfj st.T x.k=true) (e1:Qfj st1.T y.k=true)
 (h1:Qar cf st x=some st1) (h2:Qar cf st1 y=some st2) (q1:Qdw x.k=true→∀ d,x.dst=some d→(Qak st1.T d).holds=false) :
 ∃ st1' st2',Qar cf st y=some st1'∧Qar cf st1' x=some st2'∧SEq st2 st2'∧(∀ s,nrV ds (Qak st1'.T s)=true)∧Qfj st.T y.k=true∧Qfj st1'.T x.k=true ∧
   (∀ d,y.dst=some d→Qak st1'.T d=Qak st2.T d)∧(∀ d,x.dst=some d→Qak st2'.T d=Qak st1.T d):=by
 unfold Qmr at hi
 simp only [hx,hy,Qba,Bool.or_eq_true] at hi
 obtain ⟨⟨⟨hap,hdx⟩,hdy⟩,hi⟩:=hi
 obtain ⟨a1,a2,a3⟩:=Qnd hap
 simp only [Jea,Qba,Bool.or_eq_true,Bool.not_eq_true'] at hdx hdy
 have dx:∀ d,x.dst=some d→d ∈ ds:=fun d hd=>by have:=hdx.1;rw [hd] at this;simpa using this
 have dy:∀ d,y.dst=some d→d ∈ ds:=fun d hd=>by have:=hdy.1;rw [hd] at this;simpa using this
 have nhx:∀ d,x.dst=some d→(Qak st.T d).holds=false:=fun d hd=>by rw [hfx d hd];rfl
 have nhy:∀ d,y.dst=some d→(Qak st.T d).holds=false:=fun d hd=>by rw [hfy d hd];rfl
 have ueff:∀ z:IOp,(Qy5 z.k=false ∨ (z.use.all fun s=>ds.contains s)=true)→Qy5 z.k=true→∀ s ∈ z.use,s ∈ ds:=fun z hz hk s hs=>by
  rcases hz with hz | hz
  · rw [hz] at hk;cases hk
  · have:=List.all_eq_true.1 hz s hs;simpa using this
 rcases hi with ⟨hqx,hqy⟩ | ⟨hdj,hi⟩
 ·
  obtain ⟨vx,rfl,kx⟩:=Qqi hqx h1
  have nhy1:∀ d,y.dst=some d→(Qak (Qey st x.dst vx).T d).holds=false:=fun d hd=>by
   rw [Qax nhx,if_neg (fun h=>a3 d h hd)];exact nhy d hd
  obtain ⟨vy,rfl,ky⟩:=Qqi hqy h2
  have s1:Qe2 (fun s=>x.dst=some s) (Qey st x.dst vx) st:=⟨fun s hs=>by rw [Qax nhx,if_neg hs],fun s hs=>Qqb dx (n1 s),Qby.symm,Qa4.symm⟩
  have q1:=ky _ _ s1 (fun s hs hh=>a1 s hh hs)
  have s2:Qe2 (fun s=>y.dst=some s) st (Qey st y.dst vy):=⟨fun s hs=>by rw [Qax nhy,if_neg hs],fun s hs=>Qqb dy (n0 s),Qby,Qa4⟩
  have q2:=kx _ _ s2 (fun s hs hh=>a2 s hh hs)
  have nhx1:∀ d,x.dst=some d→(Qak (Qey st y.dst vy).T d).holds=false:=fun d hd=>by
   rw [Qax nhy,if_neg (fun h=>a3 d hd h)];exact nhx d hd
  refine ⟨_,_,q1,q2,⟨fun s _=>?_,fun _ h=>h.elim,fun _ h=>h.elim,by rw [Qby,Qby,Qby,Qby],by rw [Qa4,Qa4,Qa4,Qa4,List.append_nil]⟩,fun s=>?_,?_,?_,fun d hd=>?_,fun d hd=>?_⟩
  · rw [Qax nhx1,Qax nhy,Qax nhy1,Qax nhx]
    by_cases k1:x.dst=some s
    · rw [if_pos k1,if_neg (fun h=>a3 s k1 h),if_pos k1]
    · rw [if_neg k1,if_neg k1]
  · rw [Qax nhy]
    split
    · rename_i hs
      have:=n2 s
      rw [Qax nhy1,if_pos hs] at this
      exact this
    · exact n0 s
  · rw [← e1];exact (Qcd fun s hs=>by rw [Qax nhx,if_neg (fun h=>a1 s h (by simp [IOp.use,hs]))]).symm
  · rw [← e0];exact Qcd fun s hs=>by rw [Qax nhy,if_neg (fun h=>a2 s h (by simp [IOp.use,hs]))]
  · rw [Qax nhy,Qax nhy1,if_pos hd,if_pos hd]
  · rw [Qax nhx1,Qax nhx,if_pos hd,if_pos hd]
 have dj:∀ s,s ∈ x.use→s ∉ y.use:=fun s hs=>by
  have:=List.all_eq_true.1 hdj s hs
  simpa using this
 rcases hi with ⟨hqx,hey⟩ | ⟨hex,hqy⟩
 ·
  have uy:=ueff y hdy.2 hey
  have hq1:=q1 hqx
  obtain ⟨vx,rfl,kx⟩:=Qqi (Qkt hqx) h1
  have e1':Qfj st.T y.k=true:=by
   rw [← e1];exact (Qcd fun s hs=>by rw [Qax nhx,if_neg (fun h=>a1 s h (by simp [IOp.use,hs]))]).symm
  have sm:Sim (fun s=>x.dst=some s) (fun _=>True) [] (Qey st x.dst vx) st:=⟨fun s hs=>by rw [Qax nhx,if_neg hs],fun _ _=>trivial,fun s hs=>hq1 s hs,Qby.symm,by rw [Qa4,List.append_nil]⟩
  obtain ⟨st1',r1,r2,-⟩:=Qf6 sm noT (.inr rfl) (x:=y) (fun s hs hh=>a1 s hh hs) (fun s hs hh=>a3 s hh hs) h2
  obtain ⟨ss,v,st3,b1,b2,b3,b4,b5⟩:=Qre hey e1' r1
  obtain ⟨ss2,v2,st4,c1,c2,c3,c4,c5⟩:=Qre hey e1 h2
  have out:∀ s,s ∉ y.use→y.dst ≠ some s→Qak st1'.T s=Qak st.T s:=fun s h3 h4=>by
   have hd:=Qdo (fun h=>h3 (b1 s h)) (fun t ht=>uy t (b1 t ht)) (n0 s)
   have nh3:∀ d,y.dst=some d→(Qak st3.T d).holds=false:=fun d hd=>by
    by_cases hdu:d ∈ y.use
    · rw [b4]
      exact Qg3 (nhy d hd)
    · rw [b4,Qdo (fun h=>hdu (b1 d h)) (fun t ht=>uy t (b1 t ht)) (n0 d)];exact nhy d hd
   rw [b5,Qax nh3,if_neg h4,b4,hd]
  have out2:∀ s,s ∉ y.use→y.dst ≠ some s→Qak st2.T s=Qak (Qey st x.dst vx).T s:=fun s h3 h4=>by
   have hd:=Qdo (fun h=>h3 (c1 s h)) (fun t ht=>uy t (c1 t ht)) (n1 s)
   have nh3:∀ d,y.dst=some d→(Qak st4.T d).holds=false:=fun d hd=>by
    rw [c4]
    exact Qg3 (by rw [Qax nhx,if_neg (fun h=>a3 d h hd)];exact nhy d hd)
   rw [c5,Qax nh3,if_neg h4,c4,hd]
  have s2:Qe2 (fun s=>s ∈ y.use ∨ y.dst=some s) st st1':=by
   refine ⟨fun s hs=>out s (fun h=>hs (.inl h)) (fun h=>hs (.inr h)),fun s hs=>Qqb (fun t ht=>ht.elim (uy t) (dy t)) (n0 s),?_,?_⟩
   · rw [b5,Qby,b2]
   · rw [b5,Qa4,b3]
  have q2:=kx _ _ s2 (fun s hs hh=>hh.elim (fun h=>dj s hs h) (fun h=>a2 s h hs))
  have nhx1:∀ d,x.dst=some d→(Qak st1'.T d).holds=false:=fun d hd=>by
   rw [out d (fun h=>a1 d hd h) (fun h=>a3 d hd h)];exact nhx d hd
  refine ⟨_,_,r1,q2,⟨fun s _=>?_,fun _ h=>h.elim,fun _ h=>h.elim,?_,?_⟩,fun s=>?_,e1',?_,fun d hd=>?_,fun d hd=>?_⟩
  · rw [Qax nhx1]
    split
    · rename_i hs
      rw [out2 s (fun h=>a1 s hs h) (fun h=>a3 s hs h),Qax nhx,if_pos hs]
    · rename_i hs
      exact r2.T s hs
  · rw [Qby,b5,Qby,b2,c5,Qby,c2,Qby]
  · rw [Qa4,b5,Qa4,b3,c5,Qa4,c3,Qa4,List.append_nil]
  · by_cases hs:x.dst=some s
    · rw [out s (fun h=>a1 s hs h) (fun h=>a3 s hs h)];exact n0 s
    · rw [r2.T s hs];exact n2 s
  · rw [← e0];exact Qcd fun s hs=>out s (dj s (by simp [IOp.use,hs])) (fun h=>a2 s h (by simp [IOp.use,hs]))
  · exact r2.T d (fun h=>a3 d h hd)
  · rw [Qax nhx1,Qax nhx,if_pos hd,if_pos hd]
 ·
  have ux:=ueff x hdx.2 hex
  obtain ⟨ss,v,st3,b1,b2,b3,b4,b5⟩:=Qre hex e0 h1
  have nh3:∀ d,x.dst=some d→(Qak st3.T d).holds=false:=fun d hd=>by rw [b4];exact Qg3 (nhx d hd)
  have out:∀ s,s ∉ x.use→x.dst ≠ some s→Qak st1.T s=Qak st.T s:=fun s h3 h4=>by
   have hd:=Qdo (fun h=>h3 (b1 s h)) (fun t ht=>ux t (b1 t ht)) (n0 s)
   rw [b5,Qax nh3,if_neg h4,b4,hd]
  have nhy1:∀ d,y.dst=some d→(Qak st1.T d).holds=false:=fun d hd=>by
   rw [out d (fun h=>a2 d hd h) (fun h=>a3 d h hd)];exact nhy d hd
  obtain ⟨vy,rfl,ky⟩:=Qqi hqy h2
  have s1:Qe2 (fun s=>s ∈ x.use ∨ x.dst=some s) st1 st:=by
   refine ⟨fun s hs=>(out s (fun h=>hs (.inl h)) (fun h=>hs (.inr h))).symm,fun s hs=>Qqb (fun t ht=>ht.elim (ux t) (dx t)) (n1 s),?_,?_⟩
   · rw [b5,Qby,b2]
   · rw [b5,Qa4,b3]
  have r1:=ky _ _ s1 (fun s hs hh=>hh.elim (fun h=>dj s h hs) (fun h=>a1 s h hs))
  have e0':Qfj (Qey st y.dst vy).T x.k=true:=by
   rw [← e0];exact Qcd fun s hs=>by rw [Qax nhy,if_neg (fun h=>a2 s h (by simp [IOp.use,hs]))]
  have sm:Sim (fun s=>y.dst=some s) (fun _=>True) [] st (Qey st y.dst vy):=⟨fun s hs=>by rw [Qax nhy,if_neg hs],fun _ _=>trivial,fun s hs=>nhy s hs,Qby,by rw [Qa4,List.append_nil]⟩
  obtain ⟨st2',r2,r3,-⟩:=Qf6 sm noT (.inr rfl) (x:=x) (fun s hs hh=>a2 s hh hs) (fun s hs hh=>a3 s hs hh) h1
  have nP:∀ s,nrV ds (Qak (Qey st y.dst vy).T s)=true:=fun s=>by
   rw [Qax nhy]
   split
   · rename_i hs
     have:=n2 s
     rw [Qax nhy1,if_pos hs] at this
     exact this
   · exact n0 s
  obtain ⟨ss2,v2,st4,c1,c2,c3,c4,c5⟩:=Qre hex e0' r2
  have nh4:∀ d,x.dst=some d→(Qak st4.T d).holds=false:=fun d hd=>by
   rw [c4];exact Qg3 (by rw [Qax nhy,if_neg (fun h=>a3 d hd h)];exact nhx d hd)
  refine ⟨_,_,r1,r2,⟨fun s _=>?_,fun _ h=>h.elim,fun _ h=>h.elim,?_,?_⟩,nP,?_,e0',fun d hd=>?_,fun d hd=>?_⟩
  · by_cases hs:y.dst=some s
    · have hsx:x.dst ≠ some s:=fun h=>a3 s h hs
      have hsu:s ∉ x.use:=fun h=>a2 s hs h
      rw [c5,Qax nh4,if_neg hsx,c4,Qdo (fun h=>hsu (c1 s h)) (fun t ht=>ux t (c1 t ht)) (nP s),Qax nhy,if_pos hs,Qax nhy1,if_pos hs]
    · rw [r3.T s hs,Qax nhy1,if_neg hs]
  · rw [c5,Qby,c2,Qby,Qby,b5,Qby,b2]
  · rw [c5,Qa4,c3,Qa4,Qa4,b5,Qa4,b3,List.append_nil]
  · rw [← e1];exact (Qcd fun s hs=>out s (fun h=>dj s h (by simp [IOp.use,hs])) (fun h=>a1 s h (by simp [IOp.use,hs]))).symm
  · rw [Qax nhy,Qax nhy1,if_pos hd,if_pos hd]
  · exact r3.T d (fun h=>a3 d hd h)
end
end Go.Idl
namespace Go.Idl
open Go
section
variable {D:Nat→Prop} {st st' st1 st2:St} {cf:CF} {ds:List Nat}
theorem Qp6 {T:Tm} {x:IOp} (hd:Jea ds x=true) (he:Qmo ds T x=true):Qfj T x.k=true:=by
 unfold Qmo at he
 unfold Jea at hd
 rw [Qba] at hd
 cases hx:x.dst with
 | none=>rw [hx] at he;simpa using he
 | some d =>
   rw [hx] at he hd
   have h1:=hd.1
   simp only at h1 he
   rw [h1] at he
   simpa using he
theorem Qp7 {T:Tm} {x:IOp} (he:Qfj T x.k=true):Qmo ds T x=true:=by unfold Qmo;rw [he];rfl
theorem Qxa:∀ {l:List IOp} {st st':St},SEq st st'→okX cf ds st l→(∃ s,Qag cf st l=some s)→okX cf ds st' l
 | [],_,_,h,hk,_=>fun s=>by rw [h.T s (fun h=>h)];exact hk s
 | x::l,st,st',h,hk,⟨s,hs⟩=>by
   obtain ⟨hn,he,hk⟩:=hk
   refine ⟨fun s=>by rw [h.T s (fun h=>h)];exact hn s,by unfold Qmo at he ⊢;rw [Qcd fun s _=>h.T s (fun h=>h)];exact he,fun st1' h1'=>?_⟩
   simp only [Qag] at hs
   split at hs
   rotate_left
   · cases hs
   rename_i st1 h1
   obtain ⟨st2',q1,q2,-⟩:=Qf6 h noT (.inr rfl) (x:=x) (fun s _ hh=>hh) (fun s _ hh=>hh) h1
   rw [q1] at h1'
   cases h1'
   obtain ⟨k1,k2⟩:=hk st1 h1
   exact ⟨fun hq d hd=>by rw [q2.T d (fun h=>h)];exact k1 hq d hd,Qxa q2 k2 ⟨s,hs⟩⟩
def FRl (iops:List IOp) (st:St) (l:List Nat):Prop:=∀ i ∈ l,∀ x,iops[i]? = some x→qX x.k=true→∀ d,x.dst=some d→Qak st.T d=.un
def Qp5 (iops:List IOp):List Nat→Prop
 | []=>True
 | i::l=>(∀ j ∈ l,∀ x y,iops[i]? = some x→iops[j]? = some y→qX y.k=true→∀ d,y.dst=some d→d ∉ x.use∧x.dst ≠ some d)∧Qp5 iops l
theorem Jfp {iops:List IOp} {i:Nat} {l:List Nat} {x:IOp} (hx:iops[i]? = some x) (hf:Qp5 iops (i::l)) (hn:FRl iops st (i::l)) (h:Qar cf st x=some st1):FRl iops st1 l:=by
 intro j hj y hy hsw d hd
 obtain ⟨h1,h2⟩:=hf.1 j hj x y hx hy hsw d hd
 exact Jz7 h2 (hn j (by simp [hj]) y hy hsw d hd) h1 h
structure Qpr (cf:CF) (ds:List Nat) (iops:List IOp) (st:St) (l:List Nat) (s:St):Prop where
 lt:∀ i ∈ l,i < iops.length
 fr:FRl iops st l
 fw:Qp5 iops l
 ok:okX cf ds st (Qae iops l)
 run:Qhy cf iops st l=some s
theorem Qjd {iops:List IOp} {i:Nat} {l:List Nat} {x:IOp} (hx:iops[i]? = some x):okX cf ds st (Qae iops (i::l))=okX cf ds st (x::Qae iops l):=by
 simp only [Qae,List.filterMap_cons,hx]
theorem Qrd:∀ {l:List IOp} {st:St},okX cf ds st l→∀ s,nrV ds (Qak st.T s)=true
 | [],_,h=>h
 | _::_,_,h=>h.1
theorem Qpr.step {iops:List IOp} {i:Nat} {l:List Nat} {s:St} (h:Qpr cf ds iops st (i::l) s):∃ x st1,iops[i]? = some x∧Qar cf st x=some st1∧Qpr cf ds iops st1 l s∧(Qdw x.k=true→∀ d,x.dst=some d→(Qak st1.T d).holds=false) ∧
 Qmo ds st.T x=true:=by
 have hi:=h.lt i (by simp)
 have hx:iops[i]? = some iops[i]:=List.getElem?_eq_getElem hi
 obtain ⟨st1,q1,q2⟩:=Qne hx h.run
 have hok:=h.ok
 rw [Qjd hx] at hok
 obtain ⟨k0,k00,k⟩:=hok
 obtain ⟨k1,k2⟩:=k st1 q1
 exact ⟨_,st1,hx,q1,⟨fun j hj=>h.lt j (by simp [hj]),Jfp hx h.fw h.fr q1,h.fw.2,k2,q2⟩,k1,k00⟩
theorem Qi6 {iops:List IOp} {i:Nat} {l2:List Nat}:∀ {l1:List Nat} {st s:St},(∀ y ∈ l1,Qmr ds iops y i=true)→Qp5 iops (i::(l1++l2))→Qpr cf ds iops st (l1++i::l2) s→∃ s',Qpr cf ds iops st (i::(l1++l2)) s'∧SEq s s'
 | [],st,s,_,_,h=>⟨s,h,.refl _⟩
 | y::l1,st,s,hall,hfw,h=>by
   obtain ⟨xy,st1,hy,h1,hF,hqy,hey⟩:=h.step
   have hfw1:Qp5 iops (i::(l1++l2)):=⟨fun j hj=>hfw.1 j (by simp at hj ⊢;rcases hj with hj | hj <;> simp [hj]),hfw.2.2⟩
   obtain ⟨s1,hF1,e1⟩:=Qi6 (fun z hz=>hall z (by simp [hz])) hfw1 hF
   obtain ⟨xi,st2,hi,h2,hF2,hqi,hei⟩:=hF1.step
   have hind:=hall y (by simp)
   have hsw:qX xy.k=true∧qX xi.k=true:=by
    unfold Qmr at hind
    simp only [hy,hi,Qba,Bool.or_eq_true] at hind
    rcases hind.2 with ⟨h1,h2⟩ | ⟨-,⟨h1,h2⟩ | ⟨h1,h2⟩⟩
    · simp [qX,h1,h2]
    · simp [qX,Qkt h1,h2]
    · simp [qX,h1,h2]
   have hdd:Jea ds xy=true∧Jea ds xi=true:=by
    unfold Qmr at hind
    simp only [hy,hi,Qba] at hind
    exact ⟨hind.1.1.2,hind.1.2⟩
   have hey:=Qp6 hdd.1 hey
   have hei:=Qp6 hdd.2 hei
   obtain ⟨t1,t2,q1,q2,q3,q4,q5,q6,q7,q8⟩:=Jzm hy hi hind (fun d hd=>h.fr y (by simp) xy hy hsw.1 d hd) (fun d hd=>h.fr i (by simp) xi hi hsw.2 d hd) (Qrd h.ok) (Qrd hF.ok) (Qrd hF2.ok) hey hei h1 h2 hqy
   obtain ⟨s2,r1,r2⟩:=Qpo q3 (show Qag cf st2 (Qae iops (l1++l2))=some s1 from hF2.run)
   refine ⟨s2,⟨fun j hj=>h.lt j (by simp at hj ⊢;rcases hj with hj | hj | hj | hj <;> simp [hj]),fun j hj=>h.fr j (by simp at hj ⊢;rcases hj with hj | hj | hj | hj <;> simp [hj]),hfw,?_,?_⟩,e1.trans r2⟩
   · rw [Qjd hi]
     refine ⟨Qrd h.ok,Qp7 q5,fun a ha=>?_⟩
     rw [q1] at ha
     cases ha
     refine ⟨fun hq d hd=>by rw [q7 d hd];exact hqi hq d hd,?_⟩
     show okX cf ds t1 (Qae iops (y::(l1++l2)))
     rw [Qjd hy]
     refine ⟨q4,Qp7 q6,fun b hb=>?_⟩
     rw [q2] at hb
     cases hb
     exact ⟨fun hq d hd=>by rw [q8 d hd];exact hqy hq d hd,Qxa q3 hF2.ok ⟨_,hF2.run⟩⟩
   · rw [Qc0 hi,q1]
     show Qhy cf iops t1 (y::(l1++l2))=_
     rw [Qc0 hy,q2]
     exact r1
theorem Qk4 {iops:List IOp}:∀ {σ τ:List Nat} {st s:St},σ.Perm τ→τ.Nodup→Qp5 iops σ→(∀ i j,Qmr ds iops i j=false→[i,j].Sublist τ→[i,j].Sublist σ)→Qpr cf ds iops st τ s→∃ s',Qhy cf iops st σ=some s'∧SEq s s'
 | [],τ,st,s,hp,_,_,_,h=>by
   have:τ=[]:=hp.symm.eq_nil
   subst this;exact ⟨s,h.run,.refl _⟩
 | x::σ,τ,st,s,hp,hn,hfw,hd,h=>by
   have hx:x ∈ τ:=hp.subset (by simp)
   obtain ⟨l1,l2,rfl⟩:=List.append_of_mem hx
   have hσn:(x::σ).Nodup:=hp.nodup_iff.2 hn
   have hxσ:x ∉ σ:=(List.nodup_cons.1 hσn).1
   have hp':σ.Perm (l1++l2):=(hp.trans List.perm_middle).cons_inv
   have hsub:(l1++l2).Sublist (l1++x::l2):=List.Sublist.append (List.Sublist.refl _) (List.sublist_cons_self _ _)
   have hn':(l1++l2).Nodup:=List.Sublist.nodup hsub hn
   have hind:∀ y ∈ l1,Qmr ds iops y x=true:=by
    intro y hy
    cases hi:Qmr ds iops y x with
    | true=>rfl
    | false =>
      exfalso
      have hs:[y,x].Sublist (l1++x::l2):=by
       have h1:[y].Sublist l1:=List.singleton_sublist.2 hy
       have h2:[x].Sublist (x::l2):=List.singleton_sublist.2 (by simp)
       exact h1.append h2
      have:=hd y x hi hs
      cases this with
      | cons _ hh=>exact hxσ (hh.subset (by simp))
      | cons_cons _ hh=>exact hxσ (hh.subset (by simp))
   have hfw2:Qp5 iops (x::(l1++l2)):=by
    have key:∀ (l:List Nat),Qp5 iops l ↔ l.Pairwise fun i j=>∀ x y,iops[i]? = some x→iops[j]? = some y→qX y.k=true→∀ d,y.dst=some d→d ∉ x.use∧x.dst ≠ some d:=by
     intro l
     induction l with
     | nil=>simp [Qp5]
     | cons a l ih=>rw [List.pairwise_cons,← ih];rfl
    refine ⟨fun j hj=>hfw.1 j (hp'.symm.subset hj),?_⟩
    have h1:=(key _).1 h.fw
    exact (key _).2 (h1.sublist hsub)
   obtain ⟨s1,hF,e1⟩:=Qi6 hind hfw2 h
   obtain ⟨xi,st1,hi,h1,hF1,-,-⟩:=hF.step
   obtain ⟨s2,q1,q2⟩:=Qk4 hp' hn' hfw.2 (fun i j hi hs=>by
    have:=hd i j hi (hs.trans hsub)
    cases this with
    | cons _ hh=>exact hh
    | cons_cons _ hh =>
      exfalso
      have:x ∈ l1++l2:=hs.subset (by simp)
      exact hxσ (hp'.symm.subset this)) hF1
   refine ⟨s2,?_,e1.trans q2⟩
   rw [Qc0 hi,h1];exact q1
end
section
variable {ds:List Nat}
def Qzc (iops:List IOp):List Nat→Bool
 | []=>true
 | i::l=>(l.all fun j=>match iops[i]?,iops[j]? with
    | some x,some y=>!qX y.k || !(Qit y.dst x.use || (match x.dst,y.dst with
      | some d,some e=>d == e
      | _,_=>false))
    | _,_=>true) && Qzc iops l
theorem Qrr {iops:List IOp}:∀ {l:List Nat},Qzc iops l=true→Qp5 iops l
 | [],_=>trivial
 | i::l,h=>by
   simp only [Qzc,Qba,List.all_eq_true] at h
   refine ⟨fun j hj x y hx hy hsw d hd=>?_,Qrr h.2⟩
   have:=h.1 j hj
   simp only [hx,hy,hsw,hd,Bool.not_true,Bool.false_or,Bool.not_eq_true',Bool.or_eq_false_iff,Qit] at this
   refine ⟨fun hm=>?_,fun hxd=>?_⟩
   · rw [List.contains_eq_mem,decide_eq_false_iff_not] at this;exact this.1 hm
   · rw [hxd] at this;simp at this
def Qo8 (ds:List Nat) (iops:List IOp) (cs:List (List Nat)) (i j:Nat):Bool:=(Qmr ds iops i j && (Qmr ds iops j i || cs.all fun τ=>bef τ i j)) || (Qmr ds iops j i && cs.all fun τ=>bef τ j i)
def Jg2 (ds:List Nat) (iops:List IOp) (cs:List (List Nat)) (n:Nat):List (Nat×Nat) :=
 (List.range n).flatMap fun j=>(List.range j).filterMap fun i=>if Qo8 ds iops cs i j then none else some (i,j)
theorem Qny {iops:List IOp} {cs:List (List Nat)} {n i j:Nat}:(i,j) ∈ Jg2 ds iops cs n ↔ i < j∧j < n∧Qo8 ds iops cs i j=false:=by
 unfold Jg2
 rw [List.mem_flatMap]
 constructor
 · rintro ⟨j',hj',hm⟩
   rw [List.mem_filterMap] at hm
   obtain ⟨i',hi',he⟩:=hm
   split at he
   · cases he
   · rename_i hf
     simp only [Qoi,Qpi] at he
     obtain ⟨rfl,rfl⟩:=he
     exact ⟨List.mem_range.1 hi',List.mem_range.1 hj',by simpa using hf⟩
 · rintro ⟨h1,h2,h3⟩
   exact ⟨j,List.mem_range.2 h2,List.mem_filterMap.2 ⟨i,List.mem_range.2 h1,by simp [h3]⟩⟩
def Jj7 (c:List Nat) (iops:List IOp) (n:Nat):Bool:=(List.range n).all fun i=>(List.range n).all fun j=>i == j || (match iops[i]?,iops[j]? with
 | some x,some y=>!qX y.k || !(Qit y.dst x.use || (match x.dst,y.dst with
    | some d,some e=>d == e
    | _,_=>false)) || (c.getD i 0).testBit j
 | _,_=>true)
def Jjp (ds:List Nat) (iops:List IOp) (c:List Nat):List (Nat×Nat)→List (Nat×Nat)→List (List Nat)→Bool
 | [],_,cs=>!cs.isEmpty
 | (i,j)::r,E,cs=>(forced c E j i || Jjp ds iops c r ((i,j)::E) (cs.filter fun τ=>bef τ i j || Qmr ds iops j i)) && (forced c E i j || Jjp ds iops c r ((j,i)::E) (cs.filter fun τ=>bef τ j i || Qmr ds iops i j))
theorem Qi4 {iops:List IOp} {σ:List Nat} (hn:σ.Nodup) {c:List Nat} (hc:∀ k i,(c.getD k 0).testBit i=true→[i,k].Sublist σ):∀ {A E:List (Nat×Nat)} {cs:List (List Nat)},(∀ i j,(i,j) ∈ A→i ∈ σ∧j ∈ σ∧i ≠ j) →
 (∀ i j,(i,j) ∈ E→[i,j].Sublist σ)→Jjp ds iops c A E cs=true →
 ∃ τ ∈ cs,∀ i j,(i,j) ∈ A→(([i,j].Sublist σ∧([i,j].Sublist τ ∨ Qmr ds iops j i=true)) ∨ ([j,i].Sublist σ∧([j,i].Sublist τ ∨ Qmr ds iops i j=true)))
 | [],E,cs,_,_,h=>by
   cases cs with
   | nil=>simp [Jjp] at h
   | cons τ cs=>exact ⟨τ,by simp,by simp⟩
 | (i,j)::A,E,cs,hA,hE,h=>by
   simp only [Jjp,Qba,Bool.or_eq_true] at h
   obtain ⟨h1,h2,h3⟩:=hA i j (by simp)
   have hA':∀ i j,(i,j) ∈ A→i ∈ σ∧j ∈ σ∧i ≠ j:=fun i j hm=>hA i j (by simp [hm])
   rcases Qhm h1 h2 h3 with hs | hs
   · have hcv:=h.1.resolve_left (fun hf=>Qa0 hn hs (Qcz hn hc hE hf))
     obtain ⟨τ,hτ,ht⟩:=Qi4 hn hc hA' (fun a b hm=>by
      rcases List.mem_cons.1 hm with he | hm
      · cases he;exact hs
      · exact hE a b hm) hcv
     rw [List.mem_filter,Bool.or_eq_true] at hτ
     refine ⟨τ,hτ.1,fun a b hm=>?_⟩
     rcases List.mem_cons.1 hm with he | hm
     · cases he;exact .inl ⟨hs,hτ.2.imp Qb9 id⟩
     · exact ht a b hm
   · have hcv:=h.2.resolve_left (fun hf=>Qa0 hn hs (Qcz hn hc hE hf))
     obtain ⟨τ,hτ,ht⟩:=Qi4 hn hc hA' (fun a b hm=>by
      rcases List.mem_cons.1 hm with he | hm
      · cases he;exact hs
      · exact hE a b hm) hcv
     rw [List.mem_filter,Bool.or_eq_true] at hτ
     refine ⟨τ,hτ.1,fun a b hm=>?_⟩
     rcases List.mem_cons.1 hm with he | hm
     · cases he;exact .inr ⟨hs,hτ.2.imp Qb9 id⟩
     · exact ht a b hm
def Jbs (ds:List Nat) (ops:Array Oper) (iops:List IOp) (ord:List Nat) (alts:List (List Nat)):Bool :=
 let c:=clo .any ops.toList []
 let cs:=ord::alts
 let D:=Jg2 ds iops cs ops.size
 let A:=D.filter fun p=>!(c.getD p.2 0).testBit p.1
 Qjb .any ops && (cs.all fun τ=>Qys τ ops.size) && (cs.all fun τ=>D.all fun p=>!(c.getD p.2 0).testBit p.1 || bef τ p.1 p.2) && Jjp ds iops c A [] cs && (cs.all fun τ=>Qzc iops τ) && Jj7 c iops ops.size
theorem Qr2 {ops:Array Oper} {iops:List IOp} {ord:List Nat} {alts:List (List Nat)} (h:Jbs ds ops iops ord alts=true) {σ:List Nat} (hL:Lin .any ops σ) :
 ∃ τ ∈ ord::alts,σ.Perm τ∧τ.Nodup∧Qp5 iops τ∧Qp5 iops σ∧∀ i j,Qmr ds iops i j=false→[i,j].Sublist τ→[i,j].Sublist σ:=by
 unfold Jbs at h
 simp only [Qba] at h
 obtain ⟨⟨⟨⟨⟨hb,hperm⟩,hclo⟩,hcov⟩,hfw⟩,hfc⟩:=h
 have hc:=Qiy hL ops.toList [] (fun k o hk=>by simpa using hk) (fun k i hi=>by simp at hi)
 obtain ⟨τ,hτ,ht⟩:=Qi4 hL.nodup hc (fun i j hm=>by
  rw [List.mem_filter] at hm
  obtain ⟨h1,h2,h3⟩:=Qny.1 hm.1
  exact ⟨(hL.mem i).2 (by omega),(hL.mem j).2 h2,by omega⟩) (by simp) hcov
 have hpτ:τ.Perm (List.range ops.size):=by
  rw [List.all_eq_true] at hperm
  exact Qfo (hperm τ hτ)
 have hpσ:σ.Perm (List.range ops.size):=by
  rw [List.perm_ext_iff_of_nodup hL.nodup List.nodup_range]
  intro i;rw [hL.mem,List.mem_range]
 have hnτ:τ.Nodup:=hpτ.nodup_iff.2 List.nodup_range
 have hfwσ:Qp5 iops σ:=by
  have key:∀ (l:List Nat),Qp5 iops l ↔ l.Pairwise fun i j=>∀ x y,iops[i]? = some x→iops[j]? = some y→qX y.k=true→∀ d,y.dst=some d→d ∉ x.use∧x.dst ≠ some d:=by
   intro l
   induction l with
   | nil=>simp [Qp5]
   | cons a l ih=>rw [List.pairwise_cons,← ih];rfl
  rw [key,List.pairwise_iff_forall_sublist]
  intro i j hs x y hx hy hsw d hd
  have hil:i < ops.size:=(hL.mem i).1 (hs.subset (by simp))
  have hjl:j < ops.size:=(hL.mem j).1 (hs.subset (by simp))
  have hne:=Qhp hL.nodup hs
  unfold Jj7 at hfc
  rw [List.all_eq_true] at hfc
  have h1:=hfc i (List.mem_range.2 hil)
  rw [List.all_eq_true] at h1
  have h2:=h1 j (List.mem_range.2 hjl)
  simp only [hx,hy,hsw,hd,Bool.not_true,Bool.false_or,Bool.or_eq_true,beq_iff_eq,Qit,Bool.not_eq_true',Bool.or_eq_false_iff] at h2
  rcases h2 with h2 | h2 | h2
  · exact absurd h2 hne
  · refine ⟨fun hm=>?_,fun hxd=>?_⟩
    · rw [List.contains_eq_mem,decide_eq_false_iff_not] at h2;exact h2.1 hm
    · rw [hxd] at h2;simp at h2
  · exact (Qa0 hL.nodup hs (hc _ _ h2)).elim
 rw [List.all_eq_true] at hfw
 refine ⟨τ,hτ,hpσ.trans hpτ.symm,hnτ,Qrr (hfw τ hτ),hfwσ,?_⟩
 have main:∀ i j,i < j→Qo8 ds iops (ord::alts) i j=false→j < ops.size→(([i,j].Sublist σ∧([i,j].Sublist τ ∨ Qmr ds iops j i=true)) ∨ ([j,i].Sublist σ∧([j,i].Sublist τ ∨ Qmr ds iops i j=true))):=by
  intro i j hij hi hj
  have hD:=Qny.2 ⟨hij,hj,hi⟩
  cases hbit:((clo .any ops.toList []).getD j 0).testBit i with
  | true =>
    have h1:=hc j i hbit
    rw [List.all_eq_true] at hclo
    have h2:=hclo τ hτ
    rw [List.all_eq_true] at h2
    have h3:=h2 (i,j) hD
    simp only [hbit,Bool.not_true,Bool.false_or] at h3
    exact .inl ⟨h1,.inl (Qb9 h3)⟩
  | false=>exact ht i j (List.mem_filter.2 ⟨hD,by simp only [hbit,Bool.not_false]⟩)
 intro i j hi hs
 have hne:=Qhp hnτ hs
 have hil:i < ops.size:=List.mem_range.1 (hpτ.subset (hs.subset (by simp)))
 have hjl:j < ops.size:=List.mem_range.1 (hpτ.subset (hs.subset (by simp)))
 have allB:∀ i j,((ord::alts).all fun τ=>bef τ i j)=true→[i,j].Sublist τ:=fun i j h=>Qb9 (List.all_eq_true.1 h τ hτ)
 rcases Nat.lt_or_gt_of_ne hne with hlt | hlt
 · cases hf:Qo8 ds iops (ord::alts) i j with
   | true =>
     simp only [Qo8,hi,Bool.false_and,Bool.false_or,Qba] at hf
     exact (Qa0 hnτ hs (allB _ _ hf.2)).elim
   | false =>
     rcases main i j hlt hf hjl with ⟨h1,h2⟩ | ⟨h1,h2 | h2⟩
     · exact h1
     · exact (Qa0 hnτ hs h2).elim
     · rw [hi] at h2;cases h2
 · cases hf:Qo8 ds iops (ord::alts) j i with
   | true =>
     simp only [Qo8,hi,Bool.false_and,Bool.or_false,Bool.false_or,Qba] at hf
     exact (Qa0 hnτ hs (allB _ _ hf.2)).elim
   | false =>
     rcases main j i hlt hf hil with ⟨h1,h2 | h2⟩ | ⟨h1,h2⟩
     · exact (Qa0 hnτ hs h2).elim
     · rw [hi] at h2;cases h2
     · exact h1
end
end Go.Idl
namespace Go.Idl
open Go
def Qop (cx:Cx) (ops:Array Oper) (n:Nat) (keep:List Nat) (o:Oper) (i:IOp):Bool :=
 bOp cx o i.k && (match o.dst,i.dst with
  | none,none=>true
  | some d,some e=>d == e && decide (d < n) && !keep.contains d
  | _,_=>false) && (match o.guard,i.g with
  | none,none=>true
  | some (j,b),some (s,c)=>b == c && (match (ops[j]?).bind (·.dst) with
    | some t=>t == s
    | none=>false)
  | _,_=>false)
def Qd3 (iops:List IOp) (i:Nat):Cls:=match iops[i]? with
 | some o=>o.k.cls
 | none=>.oth
def Inv (cx:Cx) (w0:World) (F0:Nat→Prop) (ρ0:Rho) (fp0:Fp) (st0:St) (a0:Act) (keep:List Nat) (n:Nat) (st:St) (a:Act) (w:World):Prop :=
 ∃ F ρ fp,Rel cx w F ρ fp [] st (Qaf a)∧Ext w0 F0 ρ0 fp0 [] (exB st0) w F ρ fp []∧Qbb st0 st∧n≤a.tmps.size∧a.defers=a0.defers∧∀ s ∈ keep,Qaf a s=Qaf a0 s
section
variable {cx:Cx} {w0:World} {F0:Nat→Prop} {ρ0:Rho} {fp0:Fp} {st0:St} {a0:Act} {keep:List Nat} {n:Nat} {cf:CF} {ops:Array Oper} {iops:List IOp}
variable {w w1:World} {F F1:Nat→Prop} {ρ ρ1:Rho} {fp fp1:Fp} {st st':St} {a:Act} {v:IV} {f':List Nat}
def putI (st:St) (d:Option Nat) (v:IV):St:=match d with
 | some d=>{ st with T:=tput st.T d v }
 | none=>st
theorem Qc3 {d:Nat} {v':Value} (h:d < a.tmps.size):Qaf (a.put (some d) v')=fun s=>if s=d then v' else Qaf a s:=by
 funext s
 simp only [Qaf,Act.put]
 by_cases hs:s=d
 · subst hs;simp [h]
 · have:d ≠ s:=fun h=>hs h.symm
   simp [Array.getD_eq_getD_getElem?,Array.getElem?_setIfInBounds_ne this,hs]
theorem Qmj {d:Option Nat} {v':Value}:(a.put d v').tmps.size=a.tmps.size:=by
 cases d <;> simp [Act.put]
theorem Qgc {d:Option Nat} {v':Value}:(a.put d v').defers=a.defers:=by
 cases d <;> rfl
theorem Qgg {d:Option Nat} {v':Value} (hR:Rel cx w F ρ fp (f'++[]) st (Qaf a)) (hv:Qa3 cx w F ρ st (look st (Qaf a) ρ w) v v' f') (hE:Ext w0 F0 ρ0 fp0 [] (exB st0) w F ρ fp (f'++[])) (hS:Qbb st0 st)
 (hn:n≤a.tmps.size) (hd:a.defers=a0.defers) (hk:∀ s ∈ keep,Qaf a s=Qaf a0 s) (hdn:∀ e,d=some e→e < n∧e ∉ keep):Inv cx w0 F0 ρ0 fp0 st0 a0 keep n (putI st d v) (a.put d v') w:=by
 cases d with
 | none =>
   exact ⟨F,ρ,fp,hR.less (List.nil_sublist _),⟨hE.size,hE.keep,hE.fpn,by simp,hE.Fm,hE.Fn,hE.rho,hE.env⟩,hS,hn,hd,hk⟩
 | some e =>
   obtain ⟨h1,h2⟩:=hdn e rfl
   have hlt:e < a.tmps.size:=by omega
   have h3:=hR.put hv e
   rw [← Qc3 hlt] at h3
   refine ⟨F,ρ,Qah fp (.S e) f',h3,⟨hE.size,hE.keep,fun r b hb=>?_,by simp,hE.Fm,hE.Fn,hE.rho,hE.env⟩,⟨hS.M,hS.loc⟩,by rw [Qmj];exact hn,by rw [Qgc];exact hd,fun s hs=>?_⟩
   · unfold Qah at hb;split at hb
     · exact hE.xn b (by simp [hb])
     · exact hE.fpn r b hb
   · rw [Qc3 hlt]
     have:s ≠ e:=fun h=>h2 (h ▸ hs)
     simp only [this,if_false];exact hk s hs
theorem Qpe {lk}:Qa3 cx w F ρ st lk (.tup []) undef []:=⟨#[],rfl,.nil⟩
theorem Jao {o:Oper} {i:IOp} (hR:Rel cx w F ρ fp [] st (Qaf a)) (hg:(match o.guard,i.g with
 | none,none=>true
 | some (j,b),some (s,c)=>b == c && (match (ops[j]?).bind (·.dst) with
   | some t=>t == s
   | none=>false)
 | _,_=>false)=true) {st':St} (hev:Qar cf st i=some st') :
 (Region.wanted o (yielded ops a.tmps)=true∧∃ v st1,ev cf st i.k=some (v,st1)∧st'=putI st1 i.dst v) ∨ (Region.wanted o (yielded ops a.tmps)=false∧st'=putI st i.dst (.tup [])):=by
 unfold Qar at hev
 split at hev
 · rename_i hi
   rw [hi] at hg
   have hog:o.guard=none:=by
    cases h:o.guard with
    | none=>rfl
    | some _=>rw [h] at hg;simp at hg
   refine .inl ⟨by simp [Region.wanted,hog],?_⟩
   split at hev
   · rename_i v st1 he
     refine ⟨v,st1,he,?_⟩
     unfold putI
     split at hev <;> simp_all
   · cases hev
 · rename_i s b hi
   rw [hi] at hg
   cases hog:o.guard with
   | none=>rw [hog] at hg;simp at hg
   | some p =>
   obtain ⟨j,b'⟩:=p
   rw [hog] at hg
   simp only [Qba,beq_iff_eq] at hg
   obtain ⟨hbb,hg⟩:=hg
   subst hbb
   split at hg
   rotate_left
   · cases hg
   rename_i t ht
   have hts:t=s:=by simpa using hg
   subst hts
   have hy:∀ x,Qaf a t=x→yielded ops a.tmps j=(match x with | .bool b=>some b | _=>none) ∨ (∃ y,x=y∧∀ b,y ≠ .bool b):=by
    intro x hx
    by_cases hb:∃ b,x=.bool b
    · obtain ⟨b,rfl⟩:=hb
      left
      unfold yielded
      rw [ht]
      have:a.tmps[t]? = some (.bool b):=by
       simp only [Qaf,Array.getD_eq_getD_getElem?] at hx
       cases hq:a.tmps[t]? with
       | none=>rw [hq] at hx;simp [undef] at hx
       | some y=>rw [hq] at hx;simp at hx;rw [hx]
      simp [this]
    · right;exact ⟨x,rfl,fun b hh=>hb ⟨b,hh⟩⟩
   have hyn:(∀ b,Qaf a t ≠ .bool b)→yielded ops a.tmps j=none:=by
    intro hnb
    unfold yielded
    rw [ht]
    simp only [Option.bind_some]
    split
    · rename_i b hb
      exact absurd (by simp [Qaf,Array.getD_eq_getD_getElem?,hb]) (hnb b)
    · rfl
   have hs:=hR.slots t
   split at hev
   · rename_i b1 hT
     rw [hT] at hs
     obtain ⟨hv,-,-⟩:=Qa8 hs
     have hyy:yielded ops a.tmps j=some b1:=by
      rcases hy _ hv with h | ⟨y,h1,h2⟩
      · exact h
      · exact absurd h1.symm (h2 b1)
     split at hev
     · rename_i hbe
       refine .inl ⟨by simp [Region.wanted,hog,hyy,hbe],?_⟩
       split at hev
       · rename_i v st1 he
         refine ⟨v,st1,he,?_⟩
         unfold putI
         split at hev <;> simp_all
       · cases hev
     · rename_i hbe
       refine .inr ⟨by simp [Region.wanted,hog,hyy,hbe],?_⟩
       unfold putI
       split at hev <;> simp_all
   · rename_i hT
     rw [hT] at hs
     obtain ⟨C,hC,hc⟩:=hs
     have hyy:=hyn (fun b hb=>by rw [hC] at hb;cases hb)
     refine .inr ⟨by simp [Region.wanted,hog,hyy],?_⟩
     unfold putI
     split at hev <;> simp_all
   · cases hev
theorem Qqs {o:Oper} {i:IOp} (h:(match o.dst,i.dst with
 | none,none=>true
 | some d,some e=>d == e && decide (d < n) && !keep.contains d
 | _,_=>false)=true):o.dst=i.dst∧∀ e,i.dst=some e→e < n∧e ∉ keep:=by
 cases ho:o.dst with
 | none =>
   cases hi:i.dst with
   | none=>exact ⟨rfl,by simp⟩
   | some e=>rw [ho,hi] at h;cases h
 | some d =>
   cases hi:i.dst with
   | none=>rw [ho,hi] at h;cases h
   | some e =>
     rw [ho,hi] at h
     simp only [Qba,beq_iff_eq,decide_eq_true_eq,Bool.not_eq_true'] at h
     obtain ⟨⟨rfl,h2⟩,h3⟩:=h
     refine ⟨rfl,fun e he=>?_⟩
     cases he
     exact ⟨h2,by simpa using h3⟩
theorem Qq2 (hcf:Qb8 cx cf) (hlen:iops.length≤ops.size) :
 ∀ {l:List Nat} {st:St} {a:Act} {w:World} {st':St},(∀ i ∈ l,∀ (o:Oper) (x:IOp),ops[i]? = some o→iops[i]? = some x→Qop cx ops n keep o x=true)→(∀ i ∈ l,i < iops.length)→Inv cx w0 F0 ρ0 fp0 st0 a0 keep n st a w→Qag cf st (Qae iops l)=some st'→wpY cx.P ops (Qd3 iops) (Inv cx w0 F0 ρ0 fp0 st0 a0 keep n st') l a w
 | [],st,a,w,st',_,_,hI,hev=>by
   simp only [Qae,List.filterMap_nil,Qag,Qoi] at hev
   subst hev;exact hI
 | i::l,st,a,w,st',hck,hl,hI,hev=>by
   have hil:=hl i (by simp)
   have hx:iops[i]? = some iops[i]:=List.getElem?_eq_getElem hil
   have ho:ops[i]? = some (ops[i]'(by omega)):=Array.getElem?_eq_getElem _
   generalize iops[i]=x at hx
   generalize ops[i]'(by omega)=o at ho
   have hin:Qae iops (i::l)=x::Qae iops l:=by simp [Qae,hx]
   rw [hin] at hev
   simp only [Qag] at hev
   split at hev
   rotate_left
   · cases hev
   rename_i st1 h1
   have hc:=hck i (by simp) o x ho hx
   simp only [Qop,Qba] at hc
   obtain ⟨⟨hb,hd⟩,hg⟩:=hc
   obtain ⟨hde,hdn⟩:=Qqs hd
   have hcls:Qd3 iops i=x.k.cls:=by simp [Qd3,hx]
   have rest:∀ {a1:Act} {w1:World},Inv cx w0 F0 ρ0 fp0 st0 a0 keep n st1 a1 w1→wpY cx.P ops (Qd3 iops) (Inv cx w0 F0 ρ0 fp0 st0 a0 keep n st') l a1 w1:=fun hI1 =>
    Qq2 hcf hlen (fun j hj=>hck j (by simp [hj])) (fun j hj=>hl j (by simp [hj])) hI1 hev
   obtain ⟨F,ρ,fp,hR,hE,hS,hn,hdf,hk⟩:=hI
   refine ⟨o,ho,?_⟩
   rw [hcls]
   rcases Jao hR hg h1 with ⟨hw,v,st2,he,rfl⟩ | ⟨hw,rfl⟩
   · have hres:=Jub hcf hR hb he
     rw [← hde] at rest
     rw [← hde] at hdn
     cases hk2:x.k.cls with
     | reg =>
       rw [hk2] at hres
       obtain ⟨rfl,v',hrun,hv⟩:=hres
       exact ⟨v',.inl ⟨hw,fun w'=>hrun w' trivial⟩,rest (Qgg hR hv hE hS hn hdf hk hdn)⟩
     | ld =>
       rw [hk2] at hres
       obtain ⟨rfl,v',hrun,hv⟩:=hres
       exact ⟨v',.inl ⟨hw,hrun w (.refl w)⟩,rest (Qgg hR hv hE hS hn hdf hk hdn)⟩
     | oth =>
       rw [hk2] at hres
       simp only
       have ext:∀ {w' F' ρ' fp' f'},Ext w F ρ fp [] (exB st) w' F' ρ' fp' (f'++[])→Ext w0 F0 ρ0 fp0 [] (exB st0) w' F' ρ' fp' (f'++[]):=fun h=>hE.trans h fun l k hb=>hS.box hb
       unfold wpOp
       simp only [ho,hw,if_true]
       left
       unfold Oper.wp
       rcases hres with ⟨v',w',F',ρ',fp',f',hy,hR',hv,hE',hS'⟩ | ⟨g,args,hrun,hcalls⟩
       · have hI1:=rest (Qgg hR' hv (ext hE') (hS.trans hS') hn hdf hk hdn)
         rcases hy with hy | ⟨hy,rfl⟩
         · rw [hy];exact hI1
         · rw [hy];exact hI1
       · rw [hrun]
         simp only [Oper.upon]
         refine hcalls.mono ?_
         rintro e w' ⟨v',F',ρ',fp',f',rfl,hR',hv,hE',hS'⟩
         exact rest (Qgg hR' hv (ext hE') (hS.trans hS') hn hdf hk hdn)
   · rw [← hde] at rest
     rw [← hde] at hdn
     have hI1:=rest (Qgg (f':=[]) (by simpa using hR) Qpe (by simpa using hE) hS hn hdf hk hdn)
     cases hk2:x.k.cls with
     | reg=>exact ⟨undef,.inr ⟨hw,rfl⟩,hI1⟩
     | ld=>exact ⟨undef,.inr ⟨hw,rfl⟩,hI1⟩
     | oth =>
       simp only
       unfold wpOp
       simp only [ho,hw,Bool.false_eq_true,if_false]
       exact hI1
theorem Qst (hcf:Qb8 cx cf) (hck:∀ (i:Nat) (o:Oper) (x:IOp),ops[i]? = some o→iops[i]? = some x→Qop cx ops n keep o x=true) (hlen:iops.length≤ops.size)
 {l:List Nat} {st:St} {a:Act} {w:World} {st':St} (hl:∀ i ∈ l,i < iops.length) (hI:Inv cx w0 F0 ρ0 fp0 st0 a0 keep n st a w) (hev:Qag cf st (Qae iops l)=some st'):wpY cx.P ops (Qd3 iops) (Inv cx w0 F0 ρ0 fp0 st0 a0 keep n st') l a w :=
 Qq2 hcf hlen (fun i _=>hck i) hl hI hev
end
end Go.Idl
namespace Go.Idl
open Go
theorem Qpy (k1 k2 k:Nat):swN k1 k2 (swN k1 k2 k)=k:=by
 unfold swN;split <;> split <;> (try split) <;> omega
def Jjm (L k1 k2:Nat):Rt→Rt
 | .B l k=>.B l (if l=L then swN k1 k2 k else k)
 | r=>r
theorem Qnc (L k1 k2:Nat) (r:Rt):Jjm L k1 k2 (Jjm L k1 k2 r)=r:=by
 cases r with
 | S s=>rfl
 | B l k=>simp only [Jjm];by_cases h:l=L <;> simp [h,Qpy]
def Qsb (L k1 k2:Nat) (ρ:Rho):Rho:=fun l k=>ρ l (if l=L then swN k1 k2 k else k)
theorem Qn1 (g:IV→IV) (hg:g .un=.un):∀ (T:Tm) (s:Nat),Qak (T.map fun p=>(p.1,g p.2)) s=g (Qak T s)
 | [],s=>by simp [Qak,hg]
 | (k,v)::r,s=>by
   have:=Qn1 g hg r s
   simp only [List.map_cons,Qak]
   split
   · rfl
   · exact this
theorem Qq3 {p:IV→Bool} (hp:p .un=true):∀ {T:Tm},T.all (fun q=>p q.2)=true→∀ s,p (Qak T s)=true
 | [],_,s=>by simpa [Qak] using hp
 | (k,v)::r,h,s=>by
   simp only [List.all_cons,Qba] at h
   simp only [Qak]
   split
   · exact h.1
   · exact Qq3 hp h.2 s
section
variable {cx:Cx} {w:World} {F:Nat→Prop} {ρ:Rho} {fp:Fp} {X:List Nat} {st st':St} {tm:Nat→Value}
theorem Rel.swB (h:Rel cx w F ρ fp X st tm) {k1 k2:Nat} (hsw:st.swB k1 k2=some st') :
 Rel cx w F (Qsb st.M.length k1 k2 ρ) (fun r=>fp (Jjm st.M.length k1 k2 r)) X st' tm:=by
 unfold St.swB at hsw
 split at hsw
 rotate_left
 · cases hsw
 rename_i hc
 obtain ⟨h1,h2,hT,hloc⟩:=hc
 simp only [Qoi] at hsw
 subst hsw
 obtain ⟨L,hL⟩:∃ L,L=st.M.length:=⟨_,rfl⟩
 rw [← hL] at hloc ⊢
 have hbox:∀ l k,({ st with T:=st.T.map fun p=>(p.1,p.2.swb L k1 k2),loc:=(st.loc.set k1 (st.loc.getD k2 [])).set k2 (st.loc.getD k1 []) }:St).box l k=st.box l (if l=L then swN k1 k2 k else k):=by
  intro l k
  simp only [St.box]
  by_cases hl:l=L
  · rw [if_pos (by omega),if_pos (by omega),if_pos hl]
    unfold swN
    by_cases e1:k=k1
    · subst e1
      rw [if_pos rfl]
      by_cases e2:k2=k
      · subst e2;rw [List.getElem?_set_self (by simpa using h2),List.getD_eq_getElem?_getD,List.getElem?_eq_getElem h1];rfl
      · rw [List.getElem?_set_ne e2,List.getElem?_set_self h1,List.getD_eq_getElem?_getD,List.getElem?_eq_getElem h2];rfl
    · rw [if_neg e1]
      by_cases e2:k=k2
      · subst e2
        rw [if_pos rfl,List.getElem?_set_self (by simpa using h2),List.getD_eq_getElem?_getD,List.getElem?_eq_getElem h1];rfl
      · rw [if_neg e2,List.getElem?_set_ne (fun hh=>e2 hh.symm),List.getElem?_set_ne (fun hh=>e1 hh.symm)]
  · rw [if_neg (by omega),if_neg (by omega),if_neg hl]
 have hinj:∀ r r',Jjm L k1 k2 r=Jjm L k1 k2 r'→r=r':=fun r r' hr=>by
  rw [← Qnc L k1 k2 r,hr,Qnc]
 have hcap:∀ (x:IV) (v:Value),x.noK L k1 k2=true→(x matches .bptr .. | .fn ..)→Qju cx w F ρ st (fun _ _=>none) x v →
  Qju cx w F (Qsb L k1 k2 ρ) { st with T:=st.T.map fun p=>(p.1,p.2.swb L k1 k2),loc:=(st.loc.set k1 (st.loc.getD k2 [])).set k2 (st.loc.getD k1 []) } (fun _ _=>none) x v:=by
  have stay:∀ l k,(!(l == L && (k == k1 || k == k2)))=true→(if l=L then swN k1 k2 k else k)=k:=fun l k hn=>by
   by_cases hl:l=L
   · rw [if_pos hl]
     simp [hl] at hn
     rw [swN,if_neg hn.1,if_neg hn.2]
   · rw [if_neg hl]
  intro x v hn hx hr
  cases x with
  | bptr l k c =>
    have hs:=stay l k hn
    refine ⟨?_,?_⟩
    · rw [hr.1];simp only [Qsb,hs]
    · rw [hbox,hs];exact hr.2
  | fn f caps =>
    obtain ⟨cvs,q1,q2⟩:=hr
    refine ⟨cvs,q1,q2.mono fun z u g _ hz hm=>⟨?_,hz.2⟩⟩
    have hnz:=List.all_eq_true.1 hn z hm
    cases z with
    | bptr l k c =>
      have hs:=stay l k hnz
      refine ⟨?_,?_⟩
      · rw [hz.1.1];simp only [Qsb,hs]
      · rw [hbox,hs];exact hz.1.2
    | _=>exact hz.1.elim
  | _=>simp at hx
 refine ⟨fun s=>?_,fun l k cs hb=>?_,fun l k hb=>?_,fun r=>h.nodup _,fun r r' hr=>h.disj _ _ (fun hh=>hr (hinj _ _ hh)),fun r=>h.notF _,fun r=>h.lt _,h.Flt,h.xnodup,fun r=>h.xdisj _,h.xF,h.xlt⟩
 · have hs:=h.slots s
   have hf:=Qq3 (p:=IV.flat) rfl hT s
   rw [show Qak (st.T.map fun p=>(p.1,p.2.swb L k1 k2)) s=(Qak st.T s).swb L k1 k2 from Qn1 (IV.swb L k1 k2) rfl st.T s]
   show Qa3 cx w F _ _ _ _ _ (fp (.S s))
   cases hx:Qak st.T s with
   | bptr l k c =>
     rw [hx] at hs
     rcases hs with ⟨hs,hfp⟩ | hs
     · refine .inl ⟨⟨?_,?_⟩,hfp⟩
       · rw [hs.1]
         simp only [Qsb]
         by_cases hl:l=L
         · simp [hl,Qpy]
         · simp [hl]
       · rw [hbox]
         by_cases hl:l=L
         · simp only [hl,if_true,Qpy];rw [hl] at hs;exact hs.2
         · simp only [hl,if_false];exact hs.2
     · cases hs
   | sc v=>rw [hx] at hs;exact hs.elim (fun h=>h.1.elim) .inr
   | lst e es cl=>rw [hx] at hs;exact hs.elim (fun h=>h.1.elim) .inr
   | own e es=>rw [hx] at hs;exact hs.elim (fun h=>h.1.elim) .inr
   | un=>rw [hx] at hs;exact hs
   | _=>rw [hx] at hf;simp [IV.flat] at hf
 · rw [hbox] at hb
   obtain ⟨C,ty,f,q1,q2,q3⟩:=h.boxes l _ cs hb
   refine ⟨C,ty,f,q1,q2,q3.mono fun x v g _ hx hm=>?_⟩
   rcases hx with ⟨p1,p2,p3,p4⟩ | hx
   · refine .inl ⟨hcap x v ?_ p3 p1,p2,p3,p4⟩
     by_cases hl:l=L
     · have:cs ∈ st.loc:=by
        rw [St.box,if_pos (by omega)] at hb
        exact List.mem_of_getElem? hb
       exact List.all_eq_true.1 (List.all_eq_true.1 hloc cs this) x hm
     · have hlt:l < L:=by
        rw [St.box,if_neg (by omega)] at hb
        split at hb
        · rename_i b hM
          have:=(List.getElem?_eq_some_iff.1 hM).1;omega
        · cases hb
       cases x with
       | bptr l' k c =>
         simp only [IV.lvl,decide_eq_true_eq] at p2
         have:(l' == L)=false:=by simp;omega
         simp [IV.noK,this]
       | fn f caps =>
         simp only [IV.lvl] at p2
         refine List.all_eq_true.2 fun z hz=>?_
         have hz2:=List.all_eq_true.1 p2 z hz
         cases z with
         | bptr l' k c =>
           simp only [decide_eq_true_eq] at hz2
           have:(l' == L)=false:=by simp;omega
           simp [this]
         | _=>rfl
       | _=>rfl
   · exact .inr hx
 · rw [hbox] at hb
   exact h.nobox l _ hb
end
end Go.Idl
namespace Go.Idl
open Go
def Qrp (cx:Cx) (ops:Array Oper) (n:Nat) (keep:List Nat):List Oper→List IOp→Bool
 | [],[]=>true
 | o::os,x::xs=>Qop cx ops n keep o x && Qrp cx ops n keep os xs
 | _,_=>false
def Jq1 (cx:Cx) (n:Nat) (keep:List Nat):Code→List IOp→Opd→Nat→Bool
 | .region _ ops false,iops,x,t=>Qrp cx ops n keep (ops.toList.take iops.length) iops && ops.size == iops.length+1 && (match ops[iops.length]? with
   | some o=>o.guard.isNone && (match o.dst with | some d=>d == t | none=>false) && decide (t < n) && !keep.contains t && (match o.op with
     | .binOp .eql T a (.const v) _=>vEq v (.slice none 0 0) && Qbm cx.P T (fun _=>true) && Qc4 cx a x
     | _=>false)
   | none=>false)
 | _,_,_,_=>false
def Jvd (ops:Array Oper):Bool:=match ops[0]? with
 | some o=>match o.op with
   | .fieldAddr ..=>true
   | _=>false
 | none=>false
def Qbc (cx:Cx) (n:Nat) (keep:List Nat):IC→Code→Bool
 | i,.scope c=>Qbc cx n keep i c
 | .skip,.skip=>true
 | .skip,.label _=>true
 | .reg iops _ alts,.region _ ops draw=>Qrp cx ops n keep ops.toList iops && (!draw || Qli ops (Qd3 iops) alts)
 | .regw iops _ _ _,.region _ ops draw=>Qrp cx ops n keep ops.toList iops && (!draw || Qli ops (Qd3 iops) [])
 | .regd iops ord _ alts,.region _ ops draw=>Qrp cx ops n keep ops.toList iops && draw && Jbl ops iops ord alts
 | .regx iops ord _ ds alts,.region _ ops draw=>Qrp cx ops n keep ops.toList iops && draw && Jbs ds ops iops ord alts
 | .seq x y,.seq a b=>Qbc cx n keep x a && Qbc cx n keep y b
 | .nilc iops x t _ y,.seq a b=>Jq1 cx n keep a iops x t && Qbc cx n keep y b
 | .nilc2 iops x t _ y1 y2,.seq (.seq a1 a2) b=>Jq1 cx n keep a1 iops x t && Qbc cx n keep y1 a2 && Qbc cx n keep y2 b
 | .ubx iops0 iops1 _ y,.seq (.region _ ops0 false) (.seq (.region _ ops1 false) b)=>Qrp cx ops0 n keep ops0.toList iops0 && Qrp cx ops1 n keep ops1.toList iops1 && Jvd ops1 && Qbc cx n keep y b
 | .cond d x y,.cond c a b=>Qc4 cx c d && Qbc cx n keep x a && Qbc cx n keep y b
 | .block id' b',.block id b=>id == id' && Qbc cx n keep b' b
 | .loop b',.loop b=>Qbc cx n keep b' b
 | .exit id',.exit id=>id == id'
 | .ret,.ret=>true
 | _,_=>false
abbrev Qe1 (cx:Cx) (n:Nat) (keep:List Nat) (c:Code) (i:IC):Bool:=Qbc cx n keep i c
def exOf:Ex→Exit
 | .normal=>.normal
 | .exit id=>.exit id
 | .ret=>.ret
section
variable {cx:Cx} {w0:World} {F0:Nat→Prop} {ρ0:Rho} {fp0:Fp} {st0:St} {a0:Act} {keep:List Nat} {n:Nat} {cf:CF}
variable {w:World} {st st':St} {a:Act}
def Qwb (cx:Cx) (w0:World) (F0:Nat→Prop) (ρ0:Rho) (fp0:Fp) (st0:St) (a0:Act) (keep:List Nat) (n:Nat) (ex:Ex) (st':St):Exit→Act→World→Prop :=
 fun e a w=>e=exOf ex∧Inv cx w0 F0 ρ0 fp0 st0 a0 keep n st' a w
theorem Qc8 {ops:Array Oper}:∀ {os:List Oper} {xs:List IOp},Qrp cx ops n keep os xs=true→os.length=xs.length∧∀ (i:Nat) (o:Oper) (x:IOp),os[i]? = some o→xs[i]? = some x→Qop cx ops n keep o x=true
 | [],[],_=>⟨rfl,by simp⟩
 | o::os,x::xs,h=>by
   simp only [Qrp,Qba] at h
   obtain ⟨h1,h2⟩:=Qc8 h.2
   refine ⟨by simp [h1],fun i o' x' ho hx=>?_⟩
   cases i with
   | zero=>simp at ho hx;subst ho hx;exact h.1
   | succ i=>exact h2 i o' x' (by simpa using ho) (by simpa using hx)
 | [],_::_,h=>by cases h
 | _::_,[],h=>by cases h
theorem Qcq (l:List IOp):Qae l (List.range l.length)=l:=by
 unfold Qae
 induction l with
 | nil=>rfl
 | cons x l ih =>
   rw [List.length_cons,List.range_succ_eq_map,List.filterMap_cons]
   simp only [List.getElem?_cons_zero,List.filterMap_map]
   congr 1
theorem Qgk (h:Inv cx w0 F0 ρ0 fp0 st0 a0 keep n st a w) (k:Nat):Inv cx w0 F0 ρ0 fp0 st0 a0 keep n st a { w with drawn:=k }:=by
 obtain ⟨F,ρ,fp,hR,hE,h1⟩:=h
 obtain ⟨hR',-⟩:=hR.grow (w':={ w with drawn:=k }) (fun _ _ _=>rfl) (Nat.le_refl _) (Y:=[]) .nil (by simp)
 exact ⟨F,ρ,fp,by simpa using hR',⟨hE.size,hE.keep,hE.fpn,hE.xn,hE.Fm,hE.Fn,hE.rho,hE.env⟩,h1⟩
theorem Qgf (h:Inv cx w0 F0 ρ0 fp0 st0 a0 keep n st a w) (live:List Nat):Inv cx w0 F0 ρ0 fp0 st0 a0 keep n (st.cut live) a w:=by
 obtain ⟨F,ρ,fp,hR,hE,hS,h1⟩:=h
 obtain ⟨fp',k1,k2,k3⟩:=hR.restrict live
 exact ⟨F,ρ,fp',k3,⟨hE.size,hE.keep,fun r b hb=>hE.fpn r b (k1 r b hb),hE.xn,hE.Fm,hE.Fn,hE.rho,hE.env⟩,⟨hS.M,hS.loc⟩,h1⟩
theorem Jjb (h:Inv cx w0 F0 ρ0 fp0 st0 a0 keep n st a w) {k1 k2:Nat} (h1:st0.loc.length≤k1) (h2:st0.loc.length≤k2) (hsw:st.swB k1 k2=some st'):Inv cx w0 F0 ρ0 fp0 st0 a0 keep n st' a w:=by
 obtain ⟨F,ρ,fp,hR,hE,hS,hk⟩:=h
 have hMl:st0.M.length=st.M.length:=by have:=congrArg List.length hS.M;simpa using this.symm
 refine ⟨F,_,_,hR.swB hsw,⟨hE.size,hE.keep,fun r b hb=>hE.fpn _ b hb,hE.xn,hE.Fm,hE.Fn,fun l k hex=>?_,hE.env⟩,?_,hk⟩
 · have:=hE.rho l k hex
   rw [← this]
   simp only [Qsb]
   by_cases hl:l=st.M.length
   · rw [if_pos hl]
     have hex:(st0.box l k).isSome=true:=hex
     rw [St.box,if_pos (by omega)] at hex
     have hkl:k < st0.loc.length:=by
      cases hq:st0.loc[k]? with
      | none=>rw [hq] at hex;cases hex
      | some b=>exact (List.getElem?_eq_some_iff.1 hq).1
     rw [swN,if_neg (by omega),if_neg (by omega)]
   · rw [if_neg hl]
 · unfold St.swB at hsw
   split at hsw
   · simp only [Qoi] at hsw
     subst hsw
     exact ⟨hS.M,by simpa using hS.loc⟩
   · cases hsw
theorem Jae (h:Inv cx w0 F0 ρ0 fp0 st0 a0 keep n st a w) {s t:Nat} (hsw:st.swapS s t=some st'):Inv cx w0 F0 ρ0 fp0 st0 a0 keep n st' a w:=by
 obtain ⟨F,ρ,fp,hR,hE,hS,h1⟩:=h
 unfold St.swapS at hsw
 split at hsw
 rotate_left
 · cases hsw
 rename_i t' e0 n0 hs
 split at hsw
 rotate_left
 · cases hsw
 rename_i e es ht
 split at hsw
 rotate_left
 · cases hsw
 rename_i hc
 obtain ⟨rfl,hn,hst⟩:=hc
 simp only [Qoi] at hsw
 subst hsw
 have hsl:=hR.slots s
 rw [hs] at hsl
 have hfs:fp (.S s)=[]:=by
  rcases hsl with ⟨_,h⟩ | h
  · exact h
  · cases h
 rw [hfs] at hsl
 obtain ⟨x,e1,e2,_⟩:=Qfn hR rfl hsl (by rw [ht];rfl) hn
 obtain ⟨h2,h3⟩:=hR.drop t'
 rw [ht] at h3
 have hd:RDs w F [.own e es] [Qaf a t'] (fp (.S t')):=by
  rcases h3 with ⟨h3,_⟩ | h3
  · exact h3.elim
  · exact h3
 have e1':=Qh3 hd e1
 subst e1'
 have hds:=Qdh hd e2
 have htm:∀ q0,(fun q=>if q=q0 then Qaf a q0 else Qaf a q)=Qaf a:=fun q0=>by funext q;by_cases hq:q=q0 <;> simp [hq]
 have h4:=h2.put (v:=.own e es) (.inr hds) s
 rw [htm] at h4
 have hput:tput (dropSlot t' st.T) s (.own e es)=(s,.own e es)::dropSlot t' st.T:=by
  have h9:(Qak (dropSlot t' st.T) s).holds=false:=by
   have hne:¬ t'=s:=fun h=>hst h.symm
   simp only [dropSlot,Qak,if_neg hne,Qbd,Qai,hs]
   simp [kl,kl1,klc,IV.rooted,IV.holds]
  simp [tput,h9]
 rw [hput] at h4
 have hview:Qa3 cx w F ρ { st with T:=(s,.own e es)::dropSlot t' st.T } (look { st with T:=(s,.own e es)::dropSlot t' st.T } (Qaf a) ρ w) (.arr (.S s) 0 [] e 0 n0 false) (Qaf a t') []:=by
  obtain ⟨A,A',N,cap,r1,r2,r3⟩:=e2
  have hlk:look { st with T:=(s,.own e es)::dropSlot t' st.T } (Qaf a) ρ w (.S s) 0=some (.own e es,Qaf a s):=Qbj (by simp [Qak,IV.cells]) (by rw [r2];rfl)
  have hN:N=es.length∧N≤cap∧(0 < cap→∃ b o,A'=some ⟨b,o,none⟩):=by
   rcases hds.own_inv with ⟨h0,_,A0,h8⟩ | ⟨b,o',cap1,C,ty,fp1,h8,_,_,_,_,hnn,_⟩
   · rw [h8] at r2;simp only [Value.slice.injEq] at r2;exact ⟨by rw [h0];exact r2.2.1.symm,by omega,fun _=>by omega⟩
   · rw [h8] at r2;simp only [Value.slice.injEq] at r2
     exact ⟨r2.2.1.symm,by omega,fun _=>⟨b,o',r2.1.symm⟩⟩
  obtain ⟨hN1,hN2,hN3⟩:=hN
  refine .inl ⟨⟨.own e es,Qaf a s,es,A',N,cap,A,cap,hlk,by rw [← r2];rfl,by omega,by rw [r1,hn,hN1],by omega,by omega,by simp,fun hp=>?_,by simp⟩,rfl⟩
  obtain ⟨b,o',hA⟩:=hN3 hp
  exact ⟨b,o',hA,by rw [r3 hp,hA];simp⟩
 have h5:=(show Rel cx w F ρ (Qah (Qah fp (.S t') []) (.S s) (fp (.S t'))) ([]++[]) _ (Qaf a) from h4).put hview t'
 rw [htm] at h5
 have hput2:tput ((s,.own e es)::dropSlot t' st.T) t' (.arr (.S s) 0 [] e 0 n0 false)=(t',.arr (.S s) 0 [] e 0 n0 false)::(s,.own e es)::dropSlot t' st.T:=by
  have h9:(Qak ((s,.own e es)::dropSlot t' st.T) t').holds=false:=by
   have hne:¬ s=t':=hst
   simp [Qak,hne,dropSlot,IV.holds]
  simp [tput,h9]
 rw [hput2] at h5
 refine ⟨F,ρ,_,h5,⟨hE.size,hE.keep,fun r b hb=>?_,hE.xn,hE.Fm,hE.Fn,hE.rho,hE.env⟩,⟨hS.M,hS.loc⟩,h1⟩
 unfold Qah at hb
 split at hb
 · cases hb
 · split at hb
   · exact hE.fpn _ b hb
   · exact hE.fpn r b hb
theorem Qus (h:Inv cx w0 F0 ρ0 fp0 st0 a0 keep n st a w) {c:Operand} {d:Opd} (hc:Qat cx c d) {t:Bool} (ht:rd st.T d=.sc (.bool t)):a.eval c=.bool t:=by
 obtain ⟨F,ρ,fp,hR,-⟩:=h
 have:=Qav hR hc
 rw [ht] at this
 exact (Qa8 this).1
theorem Jh0 {P:Program} {ops:Array Oper} {cls:Nat→Cls} {K K2:Act→World→Prop} {l l2:List Nat} (hK:∀ a w,K2 a w→wpY P ops cls K l2 a w):∀ {a:Act} {w:World},wpY P ops cls K2 l a w→wpY P ops cls K (l++l2) a w:=by
 induction l with
 | nil=>intro a w h;exact hK a w h
 | cons i l ih =>
   intro a w h
   obtain ⟨o,ho,h⟩:=h
   refine ⟨o,ho,?_⟩
   split at h
   · obtain ⟨v,hy,h⟩:=h;exact ⟨v,hy,ih h⟩
   · obtain ⟨v,hy,h⟩:=h;exact ⟨v,hy,ih h⟩
   · exact wpOp_mono (fun _ _=>ih) h
theorem Qrw {x:IV} {v:Value} {b:Bool} {F:Nat→Prop} {ρ:Rho} {fp:Fp} {X:List Nat} (hR:Rel cx w F ρ fp X st (Qaf a)) (h:Qa3 cx w F ρ st (look st (Qaf a) ρ w) x v []) (hb:Qjs x=some b) :
 ∃ ad len cap,v=.slice ad len cap∧(b=false→ad.isSome=true):=by
 unfold Qjs at hb
 split at hb
 · rename_i e es c
   simp only [Qoi] at hb
   have hd:RDs w F [.lst e es c] [v] []:=by
    rcases h with ⟨h,_⟩ | h
    · exact h.elim
    · exact h
   obtain ⟨-,h1⟩:=hd.lst_inv
   rcases h1 with ⟨rfl,ad,cap,rfl,-⟩ | ⟨b1,o,cap,C,ty,fr,rfl,_⟩
   · exact ⟨ad,0,cap,rfl,fun hf=>by subst hb;simp at hf⟩
   · exact ⟨_,_,_,rfl,fun _=>rfl⟩
 · rename_i r c p e off n cl
   simp only [Qoi] at hb
   rcases h with ⟨⟨x0,v0,es,A0,N,cap0,A,cap,k1,k2,k3,hA,k5,k6,k7,k8⟩,_⟩ | h
   · refine ⟨A,n,cap,hA,fun hf=>?_⟩
     subst hb
     have hn:0 < n:=by
      rcases Nat.eq_zero_or_pos n with h | h
      · subst h;simp at hf
      · exact h
     obtain ⟨b,o1,-,rfl⟩:=k8.1 (by omega)
     rfl
   · cases h
 · cases hb
theorem Qr4 {P:Program} {T e:TypeId} (hT:P.underlying T=some (.slice e)) {ad:Option Addr} {len cap:Nat} (w:World) (d:Nat):(Op.equalIn (d+1) T (.slice ad len cap) (.slice none 0 0)).run P w=.ok ad.isNone w:=by
 cases ad <;> simp [Op.equalIn,run_underlying hT]
theorem Qwk {P:Program} {T e:TypeId} (hT:P.underlying T=some (.slice e)) {ad:Option Addr} {len cap:Nat} (w:World):(Op.equal T (.slice ad len cap) (.slice none 0 0)).run P w=.ok ad.isNone w :=
 Qr4 hT w 9999
theorem Qkk (hcf:Qb8 cx cf) {x:Code} {G:Act→World→Prop} {Q:Exit→Act→World→Prop} {iops:List IOp} {e:Opd} {t:Nat} {live:List Nat} {f:St→Option (Ex×St)} {ex:Ex} (hb:Jq1 cx n keep x iops e t=true) (hev:Qe9 (Qag cf st iops) e t live f=some (ex,st'))
 (hI:Inv cx w0 F0 ρ0 fp0 st0 a0 keep n st a w) (hy:∀ {st:St} {a:Act} {w:World},f st=some (ex,st')→Inv cx w0 F0 ρ0 fp0 st0 a0 keep n st a w→G a w) :
 x.wp cx.P (Exit.then G Q) a w:=by
 obtain ⟨id,ops,rfl⟩:∃ id ops,x=.region id ops false:=by
  unfold Jq1 at hb
  split at hb
  · exact ⟨_,_,rfl⟩
  · cases hb
 simp only [Jq1,Qba,beq_iff_eq] at hb
 obtain ⟨⟨hops,hsz⟩,hb⟩:=hb
 split at hb
 rotate_left
 · cases hb
 rename_i o ho
 simp only [Qba,decide_eq_true_eq,Bool.not_eq_true',Option.isNone_iff_eq_none] at hb
 obtain ⟨⟨⟨⟨hg,hd⟩,htn⟩,htk⟩,hop⟩:=hb
 split at hd
 rotate_left
 · cases hd
 rename_i d hdst
 have hdt:d=t:=eq_of_beq hd
 subst hdt
 split at hop
 rotate_left
 · cases hop
 rename_i T xo v yt hopk
 simp only [Qba] at hop
 obtain ⟨⟨hv,hT⟩,hx⟩:=hop
 have hv':=Qwo hv
 subst hv'
 obtain ⟨el,hel,-⟩:=Qaz hT
 obtain ⟨hlen,hck⟩:=Qc8 hops
 have hck':∀ (i:Nat) (o:Oper) (x:IOp),ops[i]? = some o→iops[i]? = some x→Qop cx ops n keep o x=true:=fun i o x ho hx=>by
  have hi:i < iops.length:=(List.getElem?_eq_some_iff.1 hx).1
  exact hck i o x (by rw [List.getElem?_take_of_lt hi];simpa using ho) hx
 unfold Qe9 at hev
 split at hev
 rotate_left
 · cases hev
 rename_i st1 h1
 obtain ⟨b,hbe,hboth⟩:∃ b,Qjs (rd st1.T e)=some b∧∀ b0,(b=false→b0=false)→f (st1.flag d b0 live)=some (ex,st'):=by
  split at hev
  · rename_i he
    exact ⟨false,he,fun b0 h0=>by rw [h0 rfl];exact hev⟩
  · rename_i he
    refine ⟨true,he,fun b0 _=>?_⟩
    split at hev
    rotate_left
    · cases hev
    rename_i r r' hr hr'
    split at hev
    rotate_left
    · cases hev
    rename_i hrr
    simp only [Qoi] at hev
    subst hrr
    cases b0
    · rw [hr',hev]
    · rw [hr,hev]
  · cases hev
 refine Qg9 (cls:=Qd3 iops) (K:=G) (fun a w h=>h) ?_
 rw [hsz,List.range_succ]
 refine Jh0 (K2:=Inv cx w0 F0 ρ0 fp0 st0 a0 keep n st1) (fun a1 w1 hI1=>?_) (Qst hcf hck' (by omega) (fun i hi=>List.mem_range.1 hi) hI (by rw [Qcq];exact h1))
 refine ⟨o,ho,?_⟩
 have hcls:Qd3 iops iops.length=.oth:=by simp [Qd3]
 rw [hcls]
 simp only
 have hI1':=hI1
 obtain ⟨F,ρ,fp,hR,hE,hS,hn,hdf,hk⟩:=hI1
 obtain ⟨ad,len,cap,hval,had⟩:=Qrw hR (Qav hR (Qac hx)) hbe
 have hw:Region.wanted o (yielded ops a1.tmps)=true:=by simp [Region.wanted,hg]
 have hrun:(execOp a1.eval o).run cx.P w1=.ok (.value (.bool ad.isNone)) w1:=by
  have he:a1.eval (.const (.slice none 0 0))=.slice none 0 0:=rfl
  simp [execOp,hopk,hval,he,eqGuard,binOp,Qwk hel]
 unfold wpOp
 simp only [ho,hw,if_true]
 left
 unfold Oper.wp
 rw [hrun,Oper.upon_value,hdst]
 simp only [wpY]
 have hb0:b=false→ad.isNone=false:=fun h=>by
  have:=had h
  cases ad <;> simp_all
 refine hy (hboth ad.isNone hb0) ?_
 have:=Qgg (cx:=cx) (w0:=w0) (F0:=F0) (ρ0:=ρ0) (fp0:=fp0) (st0:=st0) (a0:=a0) (keep:=keep) (n:=n) (d:=some d) (f':=[]) (v':=.bool ad.isNone) (v:=.sc (.bool ad.isNone)) (by simpa using hR) (Qb5 rfl) (by simpa using hE) hS hn hdf hk
  (fun e he=>by cases he;exact ⟨htn,by simpa using htk⟩)
 exact Qgf this live
theorem Qoe (x:IOp) (l:List IOp) (k:Nat):Qae (x::l) ((List.range k).map Nat.succ)=Qae l (List.range k):=by
 unfold Qae
 rw [List.filterMap_map]
 rfl
theorem Qlb (x y:IOp) (l:List IOp) (k:Nat):Qae (x::y::l) ((List.range k).map fun i=>i+2)=Qae l (List.range k):=by
 unfold Qae
 rw [List.filterMap_map]
 rfl
theorem Qyb (k:Nat):List.range (k+2)=0::1::(List.range k).map (fun i=>i+2):=by
 rw [show k+2=(k+1)+1 from rfl,List.range_succ_eq_map,List.range_succ_eq_map]
 simp only [List.map_cons,List.map_map]
 rfl
theorem Qyn {ops:Array Oper} {o:Oper} {x:IOp} {s t:Nat} (h:Qop cx ops n keep o x=true) (hx:(x.dst != some t && x.dst != some s)=true):Qop cx ops n (s::t::keep) o x=true:=by
 unfold Qop at h ⊢
 simp only [Qba] at h ⊢
 refine ⟨⟨h.1.1,?_⟩,h.2⟩
 have h2:=h.1.2
 cases ho:o.dst with
 | none=>rw [ho] at h2;cases hd:x.dst with
   | none=>rfl
   | some e=>rw [hd] at h2;cases h2
 | some d=>rw [ho] at h2;cases hd:x.dst with
   | none=>rw [hd] at h2;cases h2
   | some e =>
     rw [hd] at h2 hx
     simp only [Qba,beq_iff_eq,decide_eq_true_eq,Bool.not_eq_true',bne_iff_ne,ne_eq,Qoi] at h2 hx ⊢
     obtain ⟨⟨rfl,h3⟩,h4⟩:=h2
     refine ⟨⟨rfl,h3⟩,?_⟩
     simp only [List.contains_cons,Bool.or_eq_false_iff,beq_eq_false_iff_ne]
     exact ⟨fun q=>hx.2 q,fun q=>hx.1 q,h4⟩
theorem Qxk (hcf:Qb8 cx cf) {iops0 iops1:List IOp} {ops0 ops1:Array Oper} (hb0:Qrp cx ops0 n keep ops0.toList iops0=true) (hb1:Qrp cx ops1 n keep ops1.toList iops1=true) (hfa:Jvd ops1=true)
 (hev:Qfd cf st iops0 iops1=some st') (hI:Inv cx w0 F0 ρ0 fp0 st0 a0 keep n st a w) :
 wpY cx.P ops0 (Qd3 iops0) (fun a1 w1=>wpY cx.P ops1 (Qd3 iops1) (Inv cx w0 F0 ρ0 fp0 st0 a0 keep n st') (List.range ops1.size) a1 w1) (List.range ops0.size) a w:=by
 unfold Qfd at hev
 split at hev
 rotate_left
 · cases hev
 rename_i s t off ad d r0 r1 hsh
 split at hev
 rotate_left
 · cases hev
 rename_i st2 hev0
 split at hev
 rotate_left
 · cases hev
 rename_i xs hrd
 split at hev
 rotate_left
 · cases hev
 rename_i x hsub
 unfold Qlk at hsh
 split at hsh
 rotate_left
 · cases hsh
 rename_i t1 s1 r01 a1 off1 t1' d1 a1' r11
 split at hsh
 rotate_left
 · cases hsh
 rename_i hcond
 simp only [Qoi,Qpi] at hsh
 obtain ⟨rfl,rfl,rfl,rfl,rfl,rfl,rfl⟩:=hsh
 obtain ⟨et,ea,hst,hsa,hsd,hr0⟩:=hcond
 have et:=et.symm
 have ea:=ea.symm
 subst et ea
 obtain ⟨hl0,hck0⟩:=Qc8 hb0
 obtain ⟨hl1,hck1⟩:=Qc8 hb1
 have hsz0:ops0.size=r01.length+1:=by simpa using hl0
 have hsz1:ops1.size=r11.length+2:=by simpa using hl1
 obtain ⟨F,ρ,fp,hR,hE,hS,hn,hdf,hk⟩:=hI
 rw [hsz0,List.range_succ_eq_map]
 have ho0:ops0[0]? = some (ops0[0]'(by omega)):=Array.getElem?_eq_getElem _
 generalize ops0[0]'(by omega)=o0 at ho0
 have hc0:=hck0 0 o0 _ (by simpa using ho0) rfl
 simp only [Qop,Qba] at hc0
 obtain ⟨⟨hbk0,hd0⟩,hg0⟩:=hc0
 obtain ⟨hde0,hdn0⟩:=Qqs (o:=o0) (i:=⟨some t1,none,.box (.t s1)⟩) hd0
 obtain ⟨htn,htk⟩:=hdn0 _ rfl
 simp only at hde0
 have hgn0:o0.guard=none:=by
  cases hq:o0.guard with
  | none=>rfl
  | some _=>rw [hq] at hg0;simp at hg0
 have hw0:Region.wanted o0 (yielded ops0 a.tmps)=true:=by simp [Region.wanted,hgn0]
 simp only [bOp] at hbk0
 split at hbk0
 rotate_left
 · cases hbk0
 rename_i ty y hop0
 have hy:Qat cx y (.t s1):=Qac hbk0
 have hyv:a.eval y=Qaf a s1:=by
  cases y with
  | tmp q=>have:q=s1:=hy;subst this;rfl
  | _=>exact absurd hy (by simp [Qat])
 refine ⟨o0,ho0,?_⟩
 have hcls0:Qd3 (⟨some t1,none,.box (.t s1)⟩::r01) 0=.oth:=rfl
 rw [hcls0]
 simp only
 have hrun0:(execOp a.eval o0).run cx.P w=.ok (.value (.pointer (some ⟨w.heap.size,0,none⟩))) (w.alloc (.cells (a.eval y).cells ty)):=by
  simp [execOp,hop0,Instr.box,newVar,newRow]
 unfold wpOp
 simp only [ho0,hw0,if_true]
 left
 unfold Oper.wp
 rw [hrun0,Oper.upon_value,hde0,hyv]
 obtain ⟨w1,hw1⟩:∃ w1,w1=w.alloc (.cells (Qaf a s1).cells ty):=⟨_,rfl⟩
 have hheap:∀ b,b < w.heap.size→w1.heap[b]? = w.heap[b]?:=fun b hb=>by
  rw [hw1]
  show (w.heap.push _)[b]? = _
  rw [Array.getElem?_push,if_neg (by omega)]
 have hsize:w1.heap.size=w.heap.size+1:=by rw [hw1];show (w.heap.push _).size=_;simp
 have hnew:w1.heap[w.heap.size]? = some (.cells (Qaf a s1).cells ty (0,0)):=by
  rw [hw1]
  show (w.heap.push _)[w.heap.size]? = _
  rw [Array.getElem?_push,if_pos rfl]
 rw [← hw1]
 have hR1:Rel cx w1 F ρ fp [] st (Qaf a):=by
  obtain ⟨hR',-⟩:=hR.grow (w':=w1) (fun b hb _=>hheap b hb) (by omega) (Y:=[]) .nil (by simp)
  simpa using hR'
 have hlt:t1 < a.tmps.size:=by omega
 have hR2:=hR1.put (v:=.un) (f:=[]) (X:=[]) (v':=.pointer (some ⟨w.heap.size,0,none⟩)) (show Qa3 cx w1 F ρ st (look st (Qaf a) ρ w1) .un _ [] from rfl) t1
 rw [← Qc3 hlt] at hR2
 obtain ⟨aa,haa⟩:∃ aa,aa=a.put (some t1) (.pointer (some ⟨w.heap.size,0,none⟩)):=⟨_,rfl⟩
 rw [← haa] at hR2 ⊢
 have hInv:Inv cx w1 F ρ (Qah fp (.S t1) []) { st with T:=tput st.T t1 .un } aa (s1::t1::keep) n { st with T:=tput st.T t1 .un } aa w1 :=
  ⟨F,ρ,_,hR2,Ext.refl _ _ _ _ _ _,.refl _,by rw [haa,Qmj];exact hn,rfl,fun _ _=>rfl⟩
 have hY0:=Qq2 (ops:=ops0) (iops:=⟨some t1,none,.box (.t s1)⟩::r01) (l:=(List.range r01.length).map Nat.succ) hcf (by simp;omega) (fun i hi o x ho hx=>by
  obtain ⟨j,hj,rfl⟩:=List.mem_map.1 hi
  have hx':r01[j]? = some x:=by simpa using hx
  exact Qyn (hck0 (j+1) o x (by simpa using ho) hx) (List.all_eq_true.1 hr0 x (List.mem_of_getElem? hx'))) (fun i hi=>by
  obtain ⟨j,hj,rfl⟩:=List.mem_map.1 hi
  have:=List.mem_range.1 hj
  simp;omega) hInv (by rw [Qoe,Qcq];exact hev0)
 refine Qfm ?_ hY0
 rintro a2 w2 ⟨F2,ρ2,fp2,hR3,hE2,hS2,hn2,hdf2,hk2⟩
 have hb2:w2.heap[w.heap.size]? = some (.cells (Qaf a s1).cells ty (0,0)):=by
  rw [hE2.keep w.heap.size (by omega) (fun r hr=>?_) (by simp)]
  · exact hnew
  · have:w.heap.size ∈ fp r:=by
     unfold Qah at hr
     split at hr
     · cases hr
     · exact hr
    have:=hR.lt r _ this
    omega
 have hs2:Qaf a2 s1=Qaf a s1:=by
  rw [hk2 s1 (by simp),haa,Qc3 hlt];exact if_neg hst
 have ht2:Qaf a2 t1=.pointer (some ⟨w.heap.size,0,none⟩):=by
  rw [hk2 t1 (by simp),haa,Qc3 hlt];exact if_pos rfl
 rw [hsz1,Qyb]
 have ho1:ops1[0]? = some (ops1[0]'(by omega)):=Array.getElem?_eq_getElem _
 generalize ops1[0]'(by omega)=o1 at ho1
 have hc1:=hck1 0 o1 _ (by simpa using ho1) rfl
 simp only [Qop,Qba] at hc1
 obtain ⟨⟨hbk1,hd1'⟩,hg1⟩:=hc1
 obtain ⟨hde1,hdn1⟩:=Qqs (o:=o1) (i:=⟨some a1,none,.fadr off1 (.t t1)⟩) hd1'
 simp only at hde1
 have hgn1:o1.guard=none:=by
  cases hq:o1.guard with
  | none=>rfl
  | some _=>rw [hq] at hg1;simp at hg1
 simp only [bOp] at hbk1
 split at hbk1
 rotate_left
 · rename_i hop1
   simp [Jvd,ho1,hop1] at hfa
 · cases hbk1
 rename_i ty1 x1 i1 hop1
 simp only [Qba] at hbk1
 obtain ⟨sz,ag,⟨fields,fd,f1,f2,f3,f4,f5⟩,hsz⟩:=Qkz hbk1.1
 have hx1v:a2.eval x1=.pointer (some ⟨w.heap.size,0,none⟩):=by
  have hq:=Qac hbk1.2
  cases x1 with
  | tmp q=>have:q=t1:=hq;subst this;exact ht2
  | _=>exact absurd hq (by simp [Qat])
 have hrun1:∀ w',(execOp a2.eval o1).run cx.P w'=.ok (.value (.pointer (some ⟨w.heap.size,0+off1,none⟩))) w':=by
  intro w'
  have hne:sz ≠ 0:=by omega
  simp [execOp,hop1,hx1v,Instr.fieldAt,run_underlying f1,f2,Instr.sureAddr,fieldPlace,Qbf f4,hne,f3,Qbk]
 refine ⟨o1,ho1,?_⟩
 have hcls1:Qd3 (⟨some a1,none,.fadr off1 (.t t1)⟩::⟨some d1,none,.load false 1 (.t a1)⟩::r11) 0=.reg:=rfl
 rw [hcls1]
 simp only
 refine ⟨_,.inl ⟨by simp [Region.wanted,hgn1],fun w'=>hrun1 w'⟩,?_⟩
 rw [hde1]
 obtain ⟨han,hak⟩:=hdn1 _ rfl
 have hlt1:a1 < a2.tmps.size:=by omega
 have hR4:=hR3.put (v:=.un) (f:=[]) (X:=[]) (v':=.pointer (some ⟨w.heap.size,0+off1,none⟩)) (show Qa3 cx w2 F2 ρ2 st2 (look st2 (Qaf a2) ρ2 w2) .un _ [] from rfl) a1
 rw [← Qc3 hlt1] at hR4
 obtain ⟨a3,ha3⟩:∃ a3,a3=a2.put (some a1) (.pointer (some ⟨w.heap.size,0+off1,none⟩)):=⟨_,rfl⟩
 rw [← ha3] at hR4 ⊢
 have hs3:Qaf a3 s1=Qaf a s1:=by rw [ha3,Qc3 hlt1];exact (if_neg hsa).trans hs2
 have hp3:Qaf a3 a1=.pointer (some ⟨w.heap.size,0+off1,none⟩):=by rw [ha3,Qc3 hlt1];exact if_pos rfl
 have hrel:=Qav (o:=.tmp s1) (x:=.t s1) hR4 rfl
 rw [hrd] at hrel
 obtain ⟨C,hC,hcat⟩:=hrel
 have hC':Qaf a s1=.agg C:=by rw [← hs3];exact hC
 obtain ⟨hle,hxs⟩:=Qcv hsub
 have hcat1:=(hcat.drop (n:=off1)).take (n:=1)
 rw [← hxs] at hcat1
 have ho2:ops1[1]? = some (ops1[1]'(by omega)):=Array.getElem?_eq_getElem _
 generalize ops1[1]'(by omega)=o2 at ho2
 have hc2:=hck1 1 o2 _ (by simpa using ho2) rfl
 simp only [Qop,Qba] at hc2
 obtain ⟨⟨hbk2,hd2'⟩,hg2⟩:=hc2
 obtain ⟨hde2,hdn2⟩:=Qqs (o:=o2) (i:=⟨some d1,none,.load false 1 (.t a1)⟩) hd2'
 simp only at hde2
 have hgn2:o2.guard=none:=by
  cases hq:o2.guard with
  | none=>rfl
  | some _=>rw [hq] at hg2;simp at hg2
 simp only [bOp] at hbk2
 split at hbk2
 rotate_left
 · cases hbk2
 rename_i ty2 x2 hop2
 simp only [Qba] at hbk2
 have hag:=Qjm hbk2.1.2
 have hx2v:a3.eval x2=.pointer (some ⟨w.heap.size,0+off1,none⟩):=by
  have hq:=Qac hbk2.2
  cases x2 with
  | tmp q=>have:q=a1:=hq;subst this;exact hp3
  | _=>exact absurd hq (by simp [Qat])
 obtain ⟨u,hu,hrx⟩:∃ u,C[off1]? = some u∧Qa3 cx w2 F2 ρ2 { st2 with T:=tput st2.T a1 .un } (look { st2 with T:=tput st2.T a1 .un } (Qaf a3) ρ2 w2) x u []:=by
  have hl:=hcat1.len
  cases hv:(C.toList.drop off1).take 1 with
  | nil=>rw [hv] at hl;simp at hl
  | cons u us =>
    have hus:us=[]:=by
     have:((C.toList.drop off1).take 1).length≤1:=List.length_take_le _ _
     rw [hv] at this
     simp at this;exact this
    subst hus
    rw [hv] at hcat1
    refine ⟨u,?_,?_⟩
    · have h9:((C.toList.drop off1).take 1)[0]? = some u:=by rw [hv];rfl
      rw [List.getElem?_take_of_lt (by omega),List.getElem?_drop] at h9
      simpa using h9
    · generalize hf:([]:List Nat)=f0 at hcat1
      cases hcat1 with
      | cons hh tt =>
        have:=List.append_eq_nil_iff.1 hf.symm
        rw [this.1] at hh
        rw [← hf]
        exact Qdv hh
 have hrun2:(execOp a3.eval o2).run cx.P w2=.ok (.value u) w2:=by
  have hcell:w2.cell? ⟨w.heap.size,off1,none⟩=some u:=by
   rw [Qay hb2,hC'];exact hu
  rw [Nat.zero_add] at hx2v
  simp [execOp,hop2,hx2v,Instr.loadAt,Instr.sureAddr,loadVar,Qc7 hag,run_load,hcell]
 refine ⟨o2,ho2,?_⟩
 have hcls2:Qd3 (⟨some a1,none,.fadr off1 (.t t1)⟩::⟨some d1,none,.load false 1 (.t a1)⟩::r11) 1=.ld:=rfl
 rw [hcls2]
 simp only
 refine ⟨u,.inl ⟨by simp [Region.wanted,hgn2],hrun2⟩,?_⟩
 rw [hde2]
 obtain ⟨hdn',hdk⟩:=hdn2 _ rfl
 have hEa:Ext w0 F0 ρ0 fp0 [] (exB st0) w1 F ρ (Qah fp (.S t1) []) []:=by
  have h9:Ext w F ρ fp [] (exB st) w1 F ρ (Qah fp (.S t1) []) [] :=
   ⟨by omega,fun b hb _ _=>hheap b hb,fun r b hb=>.inl ⟨r,by unfold Qah at hb;split at hb;cases hb;exact hb⟩,by simp,fun _ h=>h,fun _ h=>.inl h,fun _ _ _=>rfl,by rw [hw1];exact ⟨rfl,rfl,rfl⟩⟩
  exact hE.trans h9 fun l k hb=>hS.box hb
 have hS1:Qbb st0 { st with T:=tput st.T t1 .un }:=⟨hS.M,hS.loc⟩
 have hEb:Ext w0 F0 ρ0 fp0 [] (exB st0) w2 F2 ρ2 fp2 []:=hEa.trans hE2 fun l k hb=>hS1.box hb
 have hEc:Ext w0 F0 ρ0 fp0 [] (exB st0) w2 F2 ρ2 (Qah fp2 (.S a1) []) [] :=
  ⟨hEb.size,hEb.keep,fun r b hb=>hEb.fpn r b (by unfold Qah at hb;split at hb;cases hb;exact hb),hEb.xn,hEb.Fm,hEb.Fn,hEb.rho,hEb.env⟩
 have hS3:Qbb st0 { st2 with T:=tput st2.T a1 .un }:=by
  have:=hS1.trans hS2
  exact ⟨this.M,this.loc⟩
 have hn3:n≤a3.tmps.size:=by rw [ha3,Qmj];exact hn2
 have hdf3:a3.defers=a0.defers:=by rw [ha3,Qgc,hdf2,haa,Qgc];exact hdf
 have hk3:∀ q ∈ keep,Qaf a3 q=Qaf a0 q:=fun q hq=>by
  have hqa:q ≠ a1:=fun h=>hak (h ▸ hq)
  have hqt:q ≠ t1:=fun h=>htk (h ▸ hq)
  rw [ha3,Qc3 hlt1]
  refine (if_neg hqa).trans ?_
  rw [hk2 q (by simp [hq]),haa,Qc3 hlt]
  exact (if_neg hqt).trans (hk q hq)
 have hInv3:=Qgg (d:=some d1) (f':=[]) (v':=u) (v:=x) (by simpa using hR4) hrx (by simpa using hEc) hS3 hn3 hdf3 hk3 (fun e he=>by cases he;exact ⟨hdn',hdk⟩)
 exact Qq2 (ops:=ops1) (iops:=⟨some a1,none,.fadr off1 (.t t1)⟩::⟨some d1,none,.load false 1 (.t a1)⟩::r11) (l:=(List.range r11.length).map fun i=>i+2) hcf (by simp;omega)
  (fun i hi o x ho hx=>hck1 i o x (by simpa using ho) hx) (fun i hi=>by
  obtain ⟨j,hj,rfl⟩:=List.mem_map.1 hi
  have:=List.mem_range.1 hj
  simp;omega) hInv3 (by rw [Qlb,Qcq];exact hev)
theorem Jca {iops0 iops1:List IOp} {live:List Nat} {y':IC} {x y:Code} (h:Qbc cx n keep (.ubx iops0 iops1 live y') (.seq x y)=true) :
 ∃ id0 ops0 id1 ops1 b,x=.region id0 ops0 false∧y=.seq (.region id1 ops1 false) b∧Qrp cx ops0 n keep ops0.toList iops0=true∧Qrp cx ops1 n keep ops1.toList iops1=true∧Jvd ops1=true∧Qbc cx n keep y' b=true:=by
 cases x <;> cases y <;> try (simp [Qbc] at h;done)
 rename_i id0 ops0 d0 y1 y2
 cases y1 <;> try (simp [Qbc] at h;done)
 rename_i id1 ops1 d1
 cases d0 <;> cases d1 <;> try (simp [Qbc] at h;done)
 simp only [Qbc,Qba] at h
 exact ⟨id0,ops0,id1,ops1,y2,rfl,rfl,h.1.1.1,h.1.1.2,h.1.2,h.2⟩
theorem Qkj (hcf:Qb8 cx cf) (hm:cx.P.follows .mixedOrders=true):∀ (N:Nat) (c:Code),SizeOf.sizeOf c < N→∀ {i:IC},Qe1 cx n keep c i=true→∀ {fuel:Nat} {st:St} {ex:Ex} {st':St} {a:Act} {w:World},
 Qco cf fuel i st=some (ex,st')→Inv cx w0 F0 ρ0 fp0 st0 a0 keep n st a w→c.wp cx.P (Qwb cx w0 F0 ρ0 fp0 st0 a0 keep n ex st') a w:=by
 intro N
 induction N with
 | zero=>intro c hN;omega
 | succ N ihN =>
 intro c hN
 cases c with
 | skip =>
   intro i hb fuel st ex st' a w hev hI
   cases i <;> simp only [Qe1,Qbc] at hb <;> try (cases hb;done)
   simp only [Qco,Qoi,Qpi] at hev
   obtain ⟨rfl,rfl⟩:=hev
   exact wp_skip ⟨rfl,hI⟩
 | label l =>
   intro i hb fuel st ex st' a w hev hI
   cases i <;> simp only [Qe1,Qbc] at hb <;> try (cases hb;done)
   simp only [Qco,Qoi,Qpi] at hev
   obtain ⟨rfl,rfl⟩:=hev
   exact wp_label ⟨rfl,hI⟩
 | scope c =>
   have ih:=fun {i:IC}=>ihN c (by simp at hN;omega) (i:=i)
   intro i hb fuel st ex st' a w hev hI
   have hb':Qe1 cx n keep c i=true:=by
    cases i <;> simpa only [Qe1,Qbc] using hb
   refine wp_scope_straight (wp_mono (ih hb' hev hI) ?_)
   rintro e a w ⟨rfl,h⟩
   cases ex <;> exact ⟨rfl,h⟩
 | region id ops draw =>
   intro i hb fuel st ex st' a w hev hI
   cases i <;> simp only [Qe1,Qbc] at hb <;> try (cases hb;done)
   rotate_left
   · rename_i iops ord live alts
     simp only [Qba] at hb
     obtain ⟨⟨hops,hdraw⟩,hdr'⟩:=hb
     subst hdraw
     obtain ⟨hlen,hck⟩:=Qc8 hops
     have hlen':ops.size=iops.length:=by simpa using hlen
     have hck':∀ (i:Nat) (o:Oper) (x:IOp),ops[i]? = some o→iops[i]? = some x→Qop cx ops n keep o x=true:=fun i o x ho hx=>hck i o x (by simpa using ho) hx
     simp only [Qco] at hev
     split at hev
     rotate_left
     · cases hev
     rename_i st1 hreg
     simp only [Qoi,Qpi] at hev
     obtain ⟨rfl,rfl⟩:=hev
     unfold Ql2 at hreg
     split at hreg
     rotate_left
     · cases hreg
     rename_i st2 hmain
     split at hreg
     rotate_left
     · cases hreg
     rename_i hcond
     obtain ⟨hnh,hok,halts⟩:=hcond
     simp only [Qoi] at hreg
     subst hreg
     · refine wp_region_draw fun t=>?_
       simp only [Region.schedule,hm,Bool.true_or,if_true]
       have hb:Qjb .any ops=true:=by
        unfold Jbl at hdr'
        simp only [Qba] at hdr'
        exact hdr'.1.1.1.1.1
       have hL:=Qu4 hb t
       obtain ⟨τ,hτ,h1,h2,h3,h4,h5⟩:=Qs8 hdr' hL
       have hlt:∀ i ∈ τ,i < iops.length:=fun i hi=>by rw [← hlen'];exact (hL.mem i).1 (h1.symm.subset hi)
       obtain ⟨sτ,k1,k2,k3⟩:∃ sτ,Qhy cf iops st τ=some sτ∧Qf0 cf st (Qae iops τ)∧(sτ.cut live).alike st.loc.length (st2.cut live):=by
        rcases List.mem_cons.1 hτ with rfl | hτ
        · exact ⟨st2,hmain,hok,.inl rfl⟩
        · obtain ⟨g1,st3,g2,g3⟩:=halts τ hτ
          exact ⟨st3,g2,g1,g3⟩
       have hF:Jfa cf iops st τ sτ:=⟨hlt,fun i hi x hx hsw d hd=>by
        have:=List.all_eq_true.1 hnh x (List.mem_of_getElem? hx)
        simpa [hsw,hd] using this,h3,k2,k1⟩
       obtain ⟨s',r1,r2⟩:=Qod h1 h2 h4 h5 hF
       have:=Qst (l:=Region.linearise .any ops t) hcf hck' (by omega) (fun i hi=>by rw [← hlen'];exact (hL.mem i).1 hi) (Qgk hI (w.drawn+1)) r1
       refine Qmn (fun a w h=>⟨rfl,?_⟩) this
       have hcut:=Qgf h live
       rw [Qub r2] at hcut
       rcases k3 with k3 | ⟨q1,q2,q3,q4,k3⟩
       · rw [← k3];exact hcut
       · exact Jjb hcut (by obtain ⟨F,ρ,fp,hR,hE,hS,h1⟩:=hI;have:=hS.loc;omega) (by obtain ⟨F,ρ,fp,hR,hE,hS,h1⟩:=hI;have:=hS.loc;omega) k3
   · rename_i iops ord live ds alts
     simp only [Qba] at hb
     obtain ⟨⟨hops,hdraw⟩,hdr'⟩:=hb
     subst hdraw
     obtain ⟨hlen,hck⟩:=Qc8 hops
     have hlen':ops.size=iops.length:=by simpa using hlen
     have hck':∀ (i:Nat) (o:Oper) (x:IOp),ops[i]? = some o→iops[i]? = some x→Qop cx ops n keep o x=true:=fun i o x ho hx=>hck i o x (by simpa using ho) hx
     simp only [Qco] at hev
     split at hev
     rotate_left
     · cases hev
     rename_i st1 hreg
     simp only [Qoi,Qpi] at hev
     obtain ⟨rfl,rfl⟩:=hev
     unfold Qk6 at hreg
     split at hreg
     rotate_left
     · cases hreg
     rename_i st2 hmain
     split at hreg
     rotate_left
     · cases hreg
     rename_i hcond
     obtain ⟨hnh,hok,halts⟩:=hcond
     simp only [Qoi] at hreg
     subst hreg
     · refine wp_region_draw fun t=>?_
       simp only [Region.schedule,hm,Bool.true_or,if_true]
       have hb:Qjb .any ops=true:=by
        unfold Jbs at hdr'
        simp only [Qba] at hdr'
        exact hdr'.1.1.1.1.1
       have hL:=Qu4 hb t
       obtain ⟨τ,hτ,h1,h2,h3,h4,h5⟩:=Qr2 hdr' hL
       have hlt:∀ i ∈ τ,i < iops.length:=fun i hi=>by rw [← hlen'];exact (hL.mem i).1 (h1.symm.subset hi)
       obtain ⟨sτ,k1,k2,k3⟩:∃ sτ,Qhy cf iops st τ=some sτ∧okX cf ds st (Qae iops τ)∧sτ.cut live=st2.cut live:=by
        rcases List.mem_cons.1 hτ with rfl | hτ
        · exact ⟨st2,hmain,hok,rfl⟩
        · obtain ⟨g1,st3,g2,g3⟩:=halts τ hτ
          exact ⟨st3,g2,g1,g3⟩
       have hF:Qpr cf ds iops st τ sτ:=⟨hlt,fun i hi x hx hsw d hd=>by
        have:=List.all_eq_true.1 hnh x (List.mem_of_getElem? hx)
        simp only [hsw,hd,Bool.not_true,Bool.false_or] at this
        generalize Qak st.T d=u at this
        cases u <;> simp [unV] at this
        rfl,h3,k2,k1⟩
       obtain ⟨s',r1,r2⟩:=Qk4 h1 h2 h4 h5 hF
       have:=Qst (l:=Region.linearise .any ops t) hcf hck' (by omega) (fun i hi=>by rw [← hlen'];exact (hL.mem i).1 hi) (Qgk hI (w.drawn+1)) r1
       refine Qmn (fun a w h=>⟨rfl,?_⟩) this
       have hcut:=Qgf h live
       rw [Qub r2] at hcut
       rw [← k3];exact hcut
   · rename_i iops s t live
     simp only [Qba,Bool.or_eq_true,Bool.not_eq_true'] at hb
     obtain ⟨hops,hdr⟩:=hb
     obtain ⟨hlen,hck⟩:=Qc8 hops
     have hlen':ops.size=iops.length:=by simpa using hlen
     have hck':∀ (i:Nat) (o:Oper) (x:IOp),ops[i]? = some o→iops[i]? = some x→Qop cx ops n keep o x=true:=fun i o x ho hx=>hck i o x (by simpa using ho) hx
     simp only [Qco] at hev
     split at hev
     rotate_left
     · cases hev
     rename_i st2 hmain
     split at hev
     rotate_left
     · cases hev
     rename_i st3 hsw
     simp only [Qoi,Qpi] at hev
     obtain ⟨rfl,rfl⟩:=hev
     have run:∀ (w1:World),Inv cx w0 F0 ρ0 fp0 st0 a0 keep n st a w1→wpY cx.P ops (Qd3 iops) (Inv cx w0 F0 ρ0 fp0 st0 a0 keep n (st3.cut live)) (List.range ops.size) a w1:=by
      intro w1 hI1
      have:=Qst (l:=List.range ops.size) hcf hck' (by omega) (fun i hi=>by rw [← hlen'];exact List.mem_range.1 hi) hI1 (st':=st2) (by rw [hlen',Qcq];exact hmain)
      exact Qfm (fun a w h=>Qgf (Jae h hsw) live) this
     cases draw with
     | false=>exact Qg9 (fun a w h=>⟨rfl,h⟩) (run w hI)
     | true =>
       have hdr':Qli ops (Qd3 iops) []=true:=by
        rcases hdr with h | h
        · cases h
        · exact h
       refine Qql hm hdr' (fun a w h=>⟨rfl,h⟩) fun τ hτ=>?_
       have hτ':τ=List.range ops.size:=by simpa using hτ
       subst hτ'
       exact run _ (Qgk hI _)
   rename_i iops live alts
   simp only [Qba,Bool.or_eq_true,Bool.not_eq_true'] at hb
   obtain ⟨hops,hdr⟩:=hb
   obtain ⟨hlen,hck⟩:=Qc8 hops
   have hlen':ops.size=iops.length:=by simpa using hlen
   have hck':∀ (i:Nat) (o:Oper) (x:IOp),ops[i]? = some o→iops[i]? = some x→Qop cx ops n keep o x=true:=fun i o x ho hx=>hck i o x (by simpa using ho) hx
   simp only [Qco] at hev
   split at hev
   rotate_left
   · cases hev
   rename_i st1 hreg
   simp only [Qoi,Qpi] at hev
   obtain ⟨rfl,rfl⟩:=hev
   unfold Qoq at hreg
   split at hreg
   rotate_left
   · cases hreg
   rename_i st2 hmain
   split at hreg
   rotate_left
   · cases hreg
   rename_i halts
   simp only [Qoi] at hreg
   subst hreg
   have run:∀ (τ:List Nat) (w1:World),Inv cx w0 F0 ρ0 fp0 st0 a0 keep n st a w1→τ ∈ List.range ops.size::alts→(∀ i ∈ τ,i < ops.size)→wpY cx.P ops (Qd3 iops) (Inv cx w0 F0 ρ0 fp0 st0 a0 keep n (st2.cut live)) τ a w1:=by
    intro τ w1 hI1 hτ hlt
    rcases List.mem_cons.1 hτ with rfl | hτ
    · have:=Qst (l:=List.range ops.size) hcf hck' (by omega) (fun i hi=>by rw [← hlen'];exact hlt i hi) hI1 (st':=st2) (by rw [hlen',Qcq];exact hmain)
      exact Qfm (fun a w h=>Qgf h live) this
    · obtain ⟨st3,h3,h4⟩:=halts τ hτ
      have:=Qst (l:=τ) hcf hck' (by omega) (fun i hi=>by rw [← hlen'];exact hlt i hi) hI1 h3
      exact Qfm (fun a w h=>by rw [← h4];exact Qgf h live) this
   cases draw with
   | false =>
     exact Qg9 (fun a w h=>⟨rfl,h⟩) (run (List.range ops.size) w hI (by simp) (fun i hi=>List.mem_range.1 hi))
   | true =>
     have hdr':Qli ops (Qd3 iops) alts=true:=by
      rcases hdr with h | h
      · cases h
      · exact h
     refine Qql hm hdr' (fun a w h=>⟨rfl,h⟩) fun τ hτ=>run τ _ (Qgk hI _) hτ fun i hi=>?_
     rcases List.mem_cons.1 hτ with rfl | hτ
     · exact List.mem_range.1 hi
     · unfold Qli at hdr'
       simp only [Qba] at hdr'
       have hp:=List.all_eq_true.1 hdr'.1.1.2 τ hτ
       exact List.mem_range.1 ((Qfo hp).subset hi)
 | seq x y =>
   have ihx:=fun {i:IC}=>ihN x (by simp at hN;omega) (i:=i)
   have ihy:=fun {i:IC}=>ihN y (by simp at hN;omega) (i:=i)
   intro i hb fuel st ex st' a w hev hI
   cases i <;> simp only [Qe1,Qbc] at hb <;> try (cases hb;done)
   rotate_left
   · rename_i iops e t live y'
     simp only [Qba] at hb
     simp only [Qco] at hev
     exact wp_seq (Qkk hcf hb.1 hev hI fun {st a w} hev hI=>ihy hb.2 hev hI)
   · rename_i iops e t live y1 y2
     cases x <;> simp only [Qe1,Qbc] at hb <;> try (cases hb;done)
     rename_i x1 x2
     simp only [Qba] at hb
     have ih2:=fun {i:IC}=>ihN x2 (by simp at hN;omega) (i:=i)
     simp only [Qco] at hev
     refine wp_seq (wp_seq (Qkk hcf hb.1.1 hev hI fun {st a w} hev hI=>?_))
     unfold Jju at hev
     cases h1:Qco cf fuel y1 st with
     | none=>simp [h1] at hev
     | some p =>
     obtain ⟨ex1,st1⟩:=p
     simp only [h1] at hev
     refine wp_mono (ih2 hb.1.2 h1 hI) ?_
     rintro e a1 w1 ⟨rfl,hI1⟩
     cases ex1 with
     | normal=>exact ihy hb.2 hev hI1
     | exit id=>simp only [Qoi,Qpi] at hev;obtain ⟨rfl,rfl⟩:=hev;exact ⟨rfl,hI1⟩
     | ret=>simp only [Qoi,Qpi] at hev;obtain ⟨rfl,rfl⟩:=hev;exact ⟨rfl,hI1⟩
   · rename_i iops0 iops1 live y'
     obtain ⟨id0,ops0,id1,ops1,b,rfl,rfl,hb0,hb1,hfa,hb2⟩:=Jca hb
     simp only [Qco] at hev
     split at hev
     rotate_left
     · cases hev
     rename_i st1 hst1
     have ih2:=fun {i:IC}=>ihN b (by simp at hN;omega) (i:=i)
     refine wp_seq (Qg9 (cls:=Qd3 iops0) (K:=fun a w=>(Code.seq (.region id1 ops1 false) b).wp cx.P (Qwb cx w0 F0 ρ0 fp0 st0 a0 keep n ex st') a w) (fun a w h=>h) ?_)
     refine Qfm (fun a1 w1 h=>?_) (Qxk hcf hb0 hb1 hfa hst1 hI)
     refine wp_seq (Qg9 (cls:=Qd3 iops1) (K:=fun a w=>b.wp cx.P (Qwb cx w0 F0 ρ0 fp0 st0 a0 keep n ex st') a w) (fun a w h=>h) ?_)
     exact Qfm (fun a2 w2 h2=>ih2 hb2 hev (Qgf h2 live)) h
   rename_i x' y'
   simp only [Qba] at hb
   simp only [Qco] at hev
   cases h1:Qco cf fuel x' st with
   | none=>simp [h1] at hev
   | some p =>
   obtain ⟨ex1,st1⟩:=p
   simp only [h1] at hev
   refine wp_seq (wp_mono (ihx hb.1 h1 hI) ?_)
   rintro e a1 w1 ⟨rfl,hI1⟩
   cases ex1 with
   | normal=>exact ihy hb.2 hev hI1
   | exit id=>simp only [Qoi,Qpi] at hev;obtain ⟨rfl,rfl⟩:=hev;exact ⟨rfl,hI1⟩
   | ret=>simp only [Qoi,Qpi] at hev;obtain ⟨rfl,rfl⟩:=hev;exact ⟨rfl,hI1⟩
 | cond c x y =>
   have ihx:=fun {i:IC}=>ihN x (by simp at hN;omega) (i:=i)
   have ihy:=fun {i:IC}=>ihN y (by simp at hN;omega) (i:=i)
   intro i hb fuel st ex st' a w hev hI
   cases i <;> simp only [Qe1,Qbc] at hb <;> try (cases hb;done)
   rename_i d x' y'
   simp only [Qba] at hb
   simp only [Qco] at hev
   split at hev
   rotate_left
   · cases hev
   rename_i t ht
   have hc:=Qus hI (Qac hb.1.1) ht
   refine wp_cond_split hc (fun h=>?_) (fun h=>?_)
   · subst h;simp only [if_true] at hev;exact ihx hb.1.2 hev hI
   · subst h;simp only [Bool.false_eq_true,if_false] at hev;exact ihy hb.2 hev hI
 | block id b =>
   have ih:=fun {i:IC}=>ihN b (by simp at hN;omega) (i:=i)
   intro i hb fuel st ex st' a w hev hI
   cases i <;> simp only [Qe1,Qbc] at hb <;> try (cases hb;done)
   rename_i id' b'
   simp only [Qba,beq_iff_eq] at hb
   obtain ⟨rfl,hb⟩:=hb
   simp only [Qco] at hev
   cases h1:Qco cf fuel b' st with
   | none=>simp [h1] at hev
   | some p =>
   obtain ⟨ex1,st1⟩:=p
   simp only [h1] at hev
   refine wp_block (wp_mono (ih hb h1 hI) ?_)
   rintro e a1 w1 ⟨rfl,hI1⟩
   cases ex1 with
   | normal=>simp only [Qoi,Qpi] at hev;obtain ⟨rfl,rfl⟩:=hev;exact ⟨rfl,hI1⟩
   | ret=>simp only [Qoi,Qpi] at hev;obtain ⟨rfl,rfl⟩:=hev;exact ⟨rfl,hI1⟩
   | exit j =>
     simp only at hev
     simp only [exOf,Exit.inBlock]
     split at hev
     · rename_i hj
       simp only [Qoi,Qpi] at hev;obtain ⟨rfl,rfl⟩:=hev
       simp only [hj,if_true];exact ⟨rfl,hI1⟩
     · rename_i hj
       simp only [Qoi,Qpi] at hev;obtain ⟨rfl,rfl⟩:=hev
       simp only [hj,if_false];exact ⟨rfl,hI1⟩
 | loop b =>
   have ih:=fun {i:IC}=>ihN b (by simp at hN;omega) (i:=i)
   intro i hb fuel st ex st' a w hev hI
   cases i <;> simp only [Qe1,Qbc] at hb <;> try (cases hb;done)
   rename_i b'
   simp only [Qco] at hev
   have key:∀ (m:Nat) (st:St) (a:Act) (w:World),Jax (Qco cf fuel b') m st=some (ex,st')→Inv cx w0 F0 ρ0 fp0 st0 a0 keep n st a w→Code.rounds cx.P b (Qwb cx w0 F0 ρ0 fp0 st0 a0 keep n ex st') m a w:=by
    intro m
    induction m with
    | zero=>intro st a w h;simp [Jax] at h
    | succ m ihm =>
      intro st a w h hI
      rw [rounds_succ]
      simp only [Jax] at h
      cases h1:Qco cf fuel b' st with
      | none=>simp [h1] at h
      | some p =>
      obtain ⟨ex1,st1⟩:=p
      simp only [h1] at h
      refine wp_mono (ih hb h1 hI) ?_
      rintro e a1 w1 ⟨rfl,hI1⟩
      cases ex1 with
      | normal=>exact ihm st1 a1 w1 h hI1
      | exit j=>simp only [Qoi,Qpi] at h;obtain ⟨rfl,rfl⟩:=h;exact ⟨rfl,hI1⟩
      | ret=>simp only [Qoi,Qpi] at h;obtain ⟨rfl,rfl⟩:=h;exact ⟨rfl,hI1⟩
   exact wp_loop_rounds fuel (key fuel st a w hev hI)
 | exit id =>
   intro i hb fuel st ex st' a w hev hI
   cases i <;> simp only [Qe1,Qbc] at hb <;> try (cases hb;done)
   simp only [beq_iff_eq] at hb
   subst hb
   simp only [Qco,Qoi,Qpi] at hev
   obtain ⟨rfl,rfl⟩:=hev
   exact wp_exit ⟨rfl,hI⟩
 | ret =>
   intro i hb fuel st ex st' a w hev hI
   cases i <;> simp only [Qe1,Qbc] at hb <;> try (cases hb;done)
   simp only [Qco,Qoi,Qpi] at hev
   obtain ⟨rfl,rfl⟩:=hev
   exact wp_ret ⟨rfl,hI⟩
 | rangeFunc f ps x y =>
   intro i hb
   cases i <;> simp [Qe1,Qbc] at hb
 | goto l =>
   intro i hb
   cases i <;> simp [Qe1,Qbc] at hb
 | refuse s =>
   intro i hb
   cases i <;> simp [Qe1,Qbc] at hb
theorem Qsa (hcf:Qb8 cx cf) (hm:cx.P.follows .mixedOrders=true) {c:Code} {i:IC} (hb:Qe1 cx n keep c i=true) {fuel:Nat} {st:St} {ex:Ex} {st':St} {a:Act} {w:World}
 (hev:Qco cf fuel i st=some (ex,st')) (hI:Inv cx w0 F0 ρ0 fp0 st0 a0 keep n st a w):c.wp cx.P (Qwb cx w0 F0 ρ0 fp0 st0 a0 keep n ex st') a w :=
 Qkj hcf hm (SizeOf.sizeOf c+1) c (Nat.lt_succ_self _) hb hev hI
end
def bRes (P:Program):ResultVar→Qy2→Bool
 | .tmp t,.t s=>t == s
 | .cell a t,.c b sz ag=>a == b && Qir P t sz && Jt9 P t ag
 | _,_=>false
def Qzh (P:Program):List ResultVar→List Qy2→Bool
 | [],[]=>true
 | x::xs,y::ys=>bRes P x y && Qzh P xs ys
 | _,_=>false
theorem Qqe {P:Program}:∀ {xs:List ResultVar} {ys:List Qy2},Qzh P xs ys=true→Qqz P xs ys
 | [],[],_=>trivial
 | x::xs,y::ys,h=>by
   simp only [Qzh,Qba] at h
   refine ⟨?_,Qqe h.2⟩
   cases x <;> cases y <;> simp only [bRes] at h
   · simpa [Jep] using h.1
   · exact absurd h.1 (by simp)
   · exact absurd h.1 (by simp)
   · simp only [Qba,beq_iff_eq] at h
     exact ⟨h.1.1.1,Qcn h.1.1.2,Qjm h.1.2⟩
 | [],_::_,h=>by cases h
 | _::_,[],h=>by cases h
def Qb3 (cx:Cx) (rf:Func) (f:Qbu):Bool:=(rf.name != "runtime.NumGoroutine") && Qzh cx.P rf.results.toList f.res && (match rf.body with
 | some c=>Qe1 cx rf.ntmps f.keep c f.body
 | none=>false)
def Qz0 (cx:Cx) (tb:Tbl):Prop:=∀ f fn,tb f=some fn→∃ rf,cx.P.funcs[cx.fid f]? = some rf∧Qb3 cx rf fn=true
theorem Qt0 (vs:List Value) (k:Nat):Qaf { tmps:=vs.toArray++Array.replicate k undef,defers:=[] }=Qik vs:=by
 funext s
 simp only [Qaf,Qik,Array.getD_eq_getD_getElem?,List.getD_eq_getElem?_getD]
 by_cases hs:s < vs.length
 · rw [Array.getElem?_append_left (by simpa using hs)];simp
 · rw [Array.getElem?_append_right (by simpa using hs),List.getElem?_eq_none (by omega)]
   by_cases h2:s - vs.length < k
   · simp [h2]
   · simp [h2]
theorem Qjp {cx:Cx} {tb:Tbl} (htb:Qz0 cx tb) (hm:cx.P.follows .mixedOrders=true):∀ n,Qb8 cx (Qcf tb n)
 | 0=>fun f lent args M r h=>by simp [Qcf] at h
 | n+1=>fun f lent args M r h=>by
   have ih:=Qjp htb hm n
   simp only [Qcf] at h
   split at h
   rotate_left
   · cases h
   rename_i fn hfn
   obtain ⟨rf,hrf,hb⟩:=htb f fn hfn
   unfold Qb3 at hb
   simp only [Qba,bne_iff_ne,ne_eq] at hb
   obtain ⟨⟨hname,hress⟩,hb⟩:=hb
   split at hb
   rotate_left
   · cases hb
   rename_i c hc
   refine ⟨⟨rf,hrf,by simpa using hname,by rw [hc];rfl⟩,?_⟩
   intro w F ρ fp vs hlen hR
   unfold Quu at h
   split at h
   · cases h
   rename_i hkeep
   have hkeep':∀ s ∈ lent,s ∈ fn.keep:=by
    simp only [Bool.not_eq_true',Bool.not_eq_false,List.all_eq_true] at hkeep
    intro s hs
    simpa using hkeep s hs
   let a0:Act:={ tmps:=vs.toArray++Array.replicate (rf.ntmps - vs.toArray.size) undef,defers:=[] }
   have hregs:Qaf a0=Qik vs:=Qt0 vs _
   have hI:Inv cx w F ρ fp (Qbv args M) a0 fn.keep rf.ntmps (Qbv args M) a0 w :=
    ⟨F,ρ,fp,by rw [hregs];exact hR,Ext.refl _ _ _ _ _ _,.refl _,by simp [a0];omega,rfl,fun _ _=>rfl⟩
   have body:∀ {ex:Ex} {st1:St},Qco (Qcf tb n) n fn.body (Qbv args M)=some (ex,st1)→(ex=.normal ∨ ex=.ret)→∀ {vals st2 back st3},st1.retvs fn.res=some (vals,st2)→st2.backs lent=some (back,st3) →
    st3.leave (Qbw vals) back=some r→Calls cx.P (cx.fid f) vs.toArray w (Qjx cx w F ρ fp M lent vs r):=by
    intro ex st1 h1 hex vals st2 back st3 h2 h3 h4
    refine calls_of_wp hrf hc ?_
    refine wp_mono (Qsa ih hm hb h1 hI) ?_
    rintro e a1 w1 ⟨rfl,F1,ρ1,fp1,hR1,hE1,hS1,-,hd1,hk1⟩
    obtain ⟨u,q1,q2⟩:=Jbn rfl hR1 hE1 hS1 (Qqe hress) (fun s hs=>by rw [hk1 s (hkeep' s hs),hregs];rfl) h2 h3 h4
    rcases hex with rfl | rfl
    · exact ⟨hd1,u,q1,q2⟩
    · exact ⟨hd1,u,q1,q2⟩
   change (match Qco (Qcf tb n) n fn.body (Qbv args M) with
    | some (.exit _,_)=>none
    | some (_,st)=>_
    | none=>none)=some r at h
   cases h1:Qco (Qcf tb n) n fn.body (Qbv args M) with
   | none=>simp [h1] at h
   | some p =>
   obtain ⟨ex,st1⟩:=p
   have rest:(match st1.retvs fn.res with
    | some (vs,st)=>match st.backs lent with
      | some (back,st)=>st.leave (Qbw vs) back
      | none=>none
    | none=>none)=some r→(ex=.normal ∨ ex=.ret)→Calls cx.P (cx.fid f) vs.toArray w (Qjx cx w F ρ fp M lent vs r):=by
    intro h hex
    split at h
    rotate_left
    · cases h
    rename_i vals st2 h2
    split at h
    rotate_left
    · cases h
    rename_i back st3 h3
    exact body h1 hex h2 h3 h
   rw [h1] at h
   cases ex with
   | exit j=>simp at h
   | normal=>exact rest h (.inl rfl)
   | ret=>exact rest h (.inr rfl)
end Go.Idl
namespace Go.Idl
open Go
def Qx9 (w:World):Nat→Prop:=fun b=>b < w.heap.size
inductive ArgR (w:World):IV→Value→Prop
 | one {x:IV} {v:Value} (h:RDs w (Qx9 w) [x] [v] []):ArgR w x v
 | agg {cs:List IV} {C:Array Value} (h:RDs w (Qx9 w) cs C.toList []):ArgR w (.agg cs) (.agg C)
inductive Ql4 (w:World):List IV→List Value→Prop
 | nil:Ql4 w [] []
 | cons {x v xs vs} (h:ArgR w x v) (t:Ql4 w xs vs):Ql4 w (x::xs) (v::vs)
theorem Ql4.len {w xs vs} (h:Ql4 w xs vs):xs.length=vs.length:=by
 induction h with
 | nil=>rfl
 | cons _ _ ih=>simp [ih]
section
variable {cx:Cx} {w:World}
theorem Qyk {F:Nat→Prop} {ρ:Rho} {st:St} {lk}:∀ {cs:List IV} {vs:List Value},RDs w F cs vs []→Cat (RC cx w F ρ st lk) cs vs []
 | [],vs,h=>by cases h;exact .nil
 | c::cs,vs,h=>by
   obtain ⟨v,us,f1,f2,rfl,hf,h1,h2⟩:=h.cons_inv
   obtain ⟨rfl,rfl⟩:=List.append_eq_nil_iff.1 hf.symm
   exact Cat.cons (f:=[]) (fp:=[]) (.inr h1) (Qyk h2)
theorem ArgR.slot {x v} (h:ArgR w x v) {ρ:Rho} {st:St} {lk}:Qa3 cx w (Qx9 w) ρ st lk x v []:=by
 cases h with
 | agg h=>exact ⟨_,rfl,Qyk h⟩
 | one h =>
   cases x with
   | tup vs=>cases h
   | agg cs=>cases h
   | un=>exact rfl
   | _=>exact .inr h
theorem Qsd {xs:List IV} (s k:Nat):Qak ((xs.zipIdx k).map fun (v,i)=>(i,v)) s=if k≤s then xs.getD (s - k) .un else .un:=by
 induction xs generalizing k with
 | nil=>simp [Qak]
 | cons x xs ih =>
   rw [List.zipIdx_cons,List.map_cons]
   simp only [Qak]
   by_cases hk:k=s
   · subst hk;simp
   · rw [if_neg hk,ih]
     by_cases h1:k≤s
     · have h2:k+1≤s:=by omega
       rw [if_pos h1,if_pos h2,show s - k=(s - (k+1))+1 by omega]
       simp
     · have h2:¬ k+1≤s:=by omega
       rw [if_neg h1,if_neg h2]
theorem Ql4.get {xs vs} (h:Ql4 w xs vs):∀ s,(xs.getD s .un=.un∧xs.length≤s) ∨ ArgR w (xs.getD s .un) (vs.getD s undef):=by
 induction h with
 | nil=>intro s;exact .inl ⟨by simp,by simp⟩
 | cons h t ih =>
   intro s
   cases s with
   | zero=>exact .inr (by simpa using h)
   | succ s =>
     rcases ih s with ⟨h1,h2⟩ | h1
     · exact .inl ⟨by simpa using h1,by simpa using h2⟩
     · exact .inr (by simpa using h1)
theorem Jty {xs vs} (h:Ql4 w xs vs) (ρ:Rho):Rel cx w (Qx9 w) ρ (fun _=>[]) [] (Qbv xs []) (Qik vs):=by
 have hbox:∀ l k,(Qbv xs []).box l k=none:=fun l k=>by simp [St.box,Qbv]
 refine ⟨fun s=>?_,fun l k cs hb=>(by rw [hbox] at hb;cases hb),fun _ _ _=>rfl,fun _=>List.nodup_nil,fun _ _ _ _ hb=>absurd hb (by simp),fun _ _ hb=>absurd hb (by simp),fun _ _ hb=>absurd hb (by simp),fun _ hb=>hb,List.nodup_nil,fun _ _ hb=>absurd hb (by simp),fun _ hb=>absurd hb (by simp),fun _ hb=>absurd hb (by simp)⟩
 have:Qak (Qbv xs []).T s=xs.getD s .un:=by
  have:=Qsd (xs:=xs) s 0
  simpa [Qbv] using this
 rw [this]
 rcases h.get s with ⟨h1,-⟩ | h1
 · rw [h1];exact Qld
 · exact h1.slot
theorem law_calls {tb:Tbl} (htb:Qz0 cx tb) (hm:cx.P.follows .mixedOrders=true) {f:Lab} {xs:List IV} {vs:List Value} (h:Ql4 w xs vs) {n:Nat} (hc:Qcf tb n f [] xs []=some ⟨.sc (.bool true),[],[],[]⟩) :
 Calls cx.P (cx.fid f) vs.toArray w (fun e w'=>e=.returned (.bool true)∧RowKit.Below w.heap.size w w'):=by
 refine ((Qjp htb hm n f [] xs [] _ hc).2 w (Qx9 w) (fun _ _=>0) (fun _=>[]) vs h.len.symm (Jty h _)).mono ?_
 rintro e w' ⟨v',F',ρ',fp',Xb,rfl,hR,hE,-⟩
 have hs:=hR.slots 0
 have hv:v'=.bool true:=(Qa8 hs).1
 subst hv
 refine ⟨rfl,⟨hE.env.1,hE.env.2.1,hE.env.2.2,hE.size,fun k hk=>hE.keep k hk (by simp) (by simp)⟩⟩
end
theorem Ju1 {w:World} {k:IntKind} {a:Option Addr} {len cap:Nat} {zs:List Int} (h:(a=none∧len=0∧cap=0∧zs=[]) ∨
 ∃ x,a=some x∧len≤cap∧zs.length=cap∧(∀ i,i < zs.length→w.cell? (x.add i)=some (.int k (zs.getD i 0)))) :
 ArgR w (.lst 1 ((zs.take len).map fun n=>[.sc (.int k n)]) false) (.slice a len cap):=by
 rcases h with ⟨rfl,rfl,rfl,rfl⟩ | ⟨x,rfl,h1,h2,h3⟩
 · exact .one (.lst0 (by simp) .nil)
 · rcases Nat.eq_zero_or_pos len with h0 | h0
   · subst h0
     simp only [List.take_zero,List.map_nil]
     exact .one (.lst0 (by simp) .nil)
   · have hx:=h3 0 (by omega)
     rw [show x.add 0=x from rfl] at hx
     obtain ⟨b,o,sp⟩:=x
     unfold World.cell? at hx
     split at hx
     rotate_left
     · cases hx
     rename_i C ty fr hb
     simp only at hb
     cases sp with
     | some _=>simp at hx
     | none =>
     have hcell:∀ i,i < zs.length→C[o+i]? = some (.int k (zs.getD i 0)):=fun i hi=>by
      have:=h3 i hi
      rw [Qbk,Qay hb] at this
      exact this
     have hlen:((zs.take len).map fun n=>[IV.sc (.int k n)]).length=len:=by simp;omega
     have hd:∀ (l:List Int) (m:Nat),(∀ i,i < l.length→C[m+i]? = some (.int k (l.getD i 0)))→RDs w (Qx9 w) (l.map fun n=>[IV.sc (.int k n)]).flatten ((C.toList.drop m).take l.length) []:=by
      intro l
      induction l with
      | nil=>intro m _;simp;exact .nil
      | cons n l ih =>
        intro m hl
        have h0:=hl 0 (by simp)
        have hm:C.toList.drop m=.int k n::C.toList.drop (m+1):=by
         rw [List.drop_eq_getElem?_toList_append]
         have:C.toList[m]? = some (.int k n):=by simpa using h0
         rw [this];rfl
        rw [hm,List.length_cons,List.take_succ_cons,List.map_cons,List.flatten_cons]
        refine .sc rfl (ih (m+1) fun i hi=>?_)
        have:=hl (i+1) (by simp;omega)
        simpa [Nat.add_assoc,Nat.add_comm 1 i] using this
     have hb':b < w.heap.size:=by
      rcases Nat.lt_or_ge b w.heap.size with h | h
      · exact h
      · rw [Array.getElem?_eq_none h] at hb;cases hb
     have hdd:=hd (zs.take len) o (fun i hi=>by
      rw [List.length_take] at hi
      rw [hcell i (by omega)]
      simp [List.getD_eq_getElem?_getD,List.getElem?_take_of_lt (show i < len by omega)])
     have hll:(zs.take len).length=len:=by rw [List.length_take];omega
     rw [hll] at hdd
     have:=RDs.lst (w:=w) (F:=Qx9 w) (e:=1) (es:=(zs.take len).map fun n=>[IV.sc (.int k n)]) (clip:=false) (b:=b) (o:=o) (cap:=cap) (xs:=[]) (vs:=[]) (fp:=[]) hb' hb
      (by rw [hlen,Nat.mul_one];exact hdd) (fun x hx=>by simp only [List.mem_map] at hx;obtain ⟨n,_,rfl⟩:=hx;rfl) (by simp) (by rw [hlen];exact h1) .nil
     rw [hlen] at this
     exact .one this
theorem Jdd {cx:Cx}:∀ {L:List (Nat×Qbu)},(∀ p ∈ L,∃ rf,cx.P.funcs[cx.fid p.1]? = some rf∧Qb3 cx rf p.2=true)→Qz0 cx (Jur L)
 | [],_,f,fn,h=>by cases h
 | (k,g)::r,hL,f,fn,h=>by
   simp only [Jur] at h
   split at h
   · rename_i hk
     subst hk
     simp only [Qoi] at h
     subst h
     exact hL (k,g) (by simp)
   · exact Jdd (fun p hp=>hL p (by simp [hp])) f fn h
end Go.Idl
