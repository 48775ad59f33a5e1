/- Part 3 of a proof by an ideal interpreter of the code: its definitions and lemmas. Conditions: none. -/
import Derived.Below
import Derived.LoopN
import Derived.Scope
import Derived.Test.YtmkagmhkjafpfaaA2
set_option linter.all false
set_option linter.unusedVariables false
set_option linter.unusedSimpArgs false
namespace Go.Idl
open Go
def Qcn:Opd→List Nat
 | .t s=>[s]
 | _=>[]
def Jbi:Option Opd→List Nat
 | some o=>Qcn o
 | none=>[]
def K.useL:K→List Nat
 | .mv x | .mvo _ x | .asg x | .asgm x | .asgf x | .clr x _ | .clrs x _ | .box x | .nilck x | .unop _ x | .conv _ x | .fadr _ x | .fld _ _ _ x | .extr x _ | .len x | .lens x | .capn x | .load _ _ x | .loadf _ _ x=>Qcn x
 | .pick a b c=>Qcn a++(Qcn b++Qcn c)
 | .alloc _ | .halt | .nilo _=>[]
 | .build _ ps=>ps.flatMap fun p=>Qcn p.2.2
 | .bsl _ _ _ ps | .bsls _ _ _ ps=>ps.flatMap fun p=>Qcn p.2
 | .store _ a x | .storef _ a x | .bin _ a x | .eqa _ _ a x | .eqb _ a x | .iadr _ a x | .idxs a x | .app _ a x | .appi _ a x | .appz _ a x | .minmax _ a x | .mksl _ _ a x=>Qcn a++Qcn x
 | .mkfn _ cs=>cs.flatMap Qcn
 | .slc _ x a b c=>Qcn x++(Jbi a++(Jbi b++Jbi c))
 | .slcs x a b | .slcb _ x a b=>Qcn x++(Jbi a++Jbi b)
 | .call _ as _ | .callq _ as | .callh _ as=>as.flatMap fun a=>Qcn a.2
 | .callp _ x=>Qcn x
 | .callm _ x k | .callz _ x k=>Qcn x++Qcn k
 | .callv f as=>Qcn f++as.flatMap fun a=>Qcn a.2
def Qd9:K→Bool
 | .alloc _ | .box _ | .callv .. | .callh .. | .callp .. | .callm .. | .callz ..=>false
 | .call _ _ p=>p
 | _=>true
structure Sim (D:Nat→Prop) (P:IV→Prop) (L:Qae) (st st':St):Prop where
 T:∀ s,¬ D s→Qan st'.T s=Qan st.T s
 Q:∀ s,D s→P (Qan st'.T s)
 H:∀ s,D s→(Qan st.T s).holds=false
 M:st'.M=st.M
 loc:st'.loc=st.loc++L
def Shp (st st':St):Prop:=st'.M.length=st.M.length∧st'.loc.length=st.loc.length
theorem Shp.refl (st:St):Shp st st:=⟨rfl,rfl⟩
theorem Shp.trans {a b c:St} (h:Shp a b) (h':Shp b c):Shp a c:=⟨h'.1.trans h.1,h'.2.trans h.2⟩
section
variable {D:Nat→Prop} {P:IV→Prop} {L:Qae} {st st' st1:St}
theorem Qux {p:IV→Bool} {x:IV} (h:x.isOwn=false):(klc p x).isOwn=false:=by
 unfold klc;split
 · rfl
 · exact h
theorem Qq8 {p:IV→Bool} {x:IV} (h:x.holds=false):(kl p x).holds=false:=by
 cases x with
 | tup vs=>simp [IV.holds] at h
 | agg cs =>
   simp only [IV.holds,kl,kl1] at h ⊢
   rw [List.any_eq_false] at h ⊢
   intro y hy
   obtain ⟨z,hz,rfl⟩:=List.mem_map.1 hy
   have:=h z hz
   simp only [Bool.not_eq_true] at this ⊢
   exact Qux this
 | own e es=>simp [IV.holds] at h
 | _=>simp only [kl,kl1,klc];split <;> rfl
theorem Sim.kill (h:Sim D P L st st') (hP:∀ q,Qai q→∀ x,P x→P (kl q x)) {q:IV→Bool} (hq:Qai q):Sim D P L { st with T:=Qas q st.T } { st' with T:=Qas q st'.T } :=
 ⟨fun s hs=>by simp only [Qak,h.T s hs],fun s hs=>by simp only [Qak];exact hP q hq _ (h.Q s hs),fun s hs=>by simp only [Qak];exact Qq8 (h.H s hs),h.M,h.loc⟩
theorem Sim.cons (h:Sim D P L st st') {s:Nat} (hs:¬ D s) (v:IV):Sim D P L { st with T:=(s,v)::st.T } { st' with T:=(s,v)::st'.T }:=by
 refine ⟨fun t ht=>?_,fun t ht=>?_,fun t ht=>?_,h.M,h.loc⟩
 · simp only [Qan];split
   · rfl
   · exact h.T t ht
 · simp only [Qan];split
   · rename_i he;exact absurd (he ▸ ht) hs
   · exact h.Q t ht
 · simp only [Qan];split
   · rename_i he;exact absurd (he ▸ ht) hs
   · exact h.H t ht
theorem Sim.dropSlot (h:Sim D P L st st') (hP:∀ q,Qai q→∀ x,P x→P (kl q x)) {s:Nat} (hs:¬ D s):Sim D P L { st with T:=dropSlot s st.T } { st' with T:=dropSlot s st'.T } :=
 (h.kill hP (.rooted (.S s))).cons hs .un
theorem Sim.tput (h:Sim D P L st st') (hP:∀ q,Qai q→∀ x,P x→P (kl q x)) {s:Nat} (hs:¬ D s) (v:IV):Sim D P L { st with T:=tput st.T s v } { st' with T:=tput st'.T s v }:=by
 unfold Idl.tput
 rw [h.T s hs]
 split
 · exact (h.kill hP (.rooted (.S s))).cons hs _
 · exact h.cons hs v
theorem Sim.putI (h:Sim D P L st st') (hP:∀ q,Qai q→∀ x,P x→P (kl q x)) {d:Option Nat} (hs:∀ s,d=some s→¬ D s) (v:IV):Sim D P L (match d with | some s=>{ st with T:=Idl.tput st.T s v } | none=>st) (match d with | some s=>{ st' with T:=Idl.tput st'.T s v } | none=>st'):=by
 cases d with
 | none=>exact h
 | some s=>exact h.tput hP (hs s rfl) v
abbrev NoU (D:Nat→Prop) (l:List Nat):Prop:=∀ s ∈ l,¬ D s
theorem Sim.rd (h:Sim D P L st st') {o:Opd} (ho:NoU D (Qcn o)):rd st'.T o=rd st.T o:=by
 cases o with
 | t s=>simp only [Idl.rd,h.T s (ho s (by simp [Qcn]))]
 | c v=>rfl
 | f l=>rfl
theorem Sim.tk (h:Sim D P L st st') (hP:∀ q,Qai q→∀ x,P x→P (kl q x)) {o:Opd} (ho:NoU D (Qcn o)) {v:IV} {T:Tm} (ht:tk st.T o=(v,T)) :
 ∃ T',Idl.tk st'.T o=(v,T')∧Sim D P L { st with T:=T } { st' with T:=T' }:=by
 cases o with
 | t s =>
   have hs:=ho s (by simp [Qcn])
   simp only [Idl.tk,h.T s hs] at ht ⊢
   split at ht
   · rename_i hh
     rw [if_pos hh]
     simp only [Qpi] at ht
     obtain ⟨rfl,rfl⟩:=ht
     exact ⟨_,rfl,h.dropSlot hP hs⟩
   · rename_i hh
     rw [if_neg hh]
     simp only [Qpi] at ht
     obtain ⟨rfl,rfl⟩:=ht
     exact ⟨_,rfl,h⟩
 | c v=>simp only [Idl.tk,Qpi] at ht ⊢;obtain ⟨rfl,rfl⟩:=ht;exact ⟨_,⟨rfl,rfl⟩,h⟩
 | f l=>simp only [Idl.tk,Qpi] at ht ⊢;obtain ⟨rfl,rfl⟩:=ht;exact ⟨_,⟨rfl,rfl⟩,h⟩
theorem Sim.box (h:Sim D P L st st') {l k:Nat} {cs:List IV} (hb:st.box l k=some cs):st'.box l k=some cs:=by
 unfold St.box at *
 rw [h.M]
 split at hb
 · rename_i hl
   rw [if_pos hl,h.loc,List.getElem?_append_left (List.getElem?_eq_some_iff.1 hb).1];exact hb
 · rename_i hl
   rw [if_neg hl];exact hb
theorem Sim.setBox (h:Sim D P L st st') {l k:Nat} {cs cs':List IV} (hb:st.box l k=some cs):Sim D P L (st.setBox l k cs') (st'.setBox l k cs')∧Shp st (st.setBox l k cs'):=by
 unfold St.box at hb
 unfold St.setBox
 rw [h.M]
 split at hb
 · rename_i hl
   have hlt:=(List.getElem?_eq_some_iff.1 hb).1
   rw [if_pos hl,if_pos hl]
   exact ⟨⟨h.T,h.Q,h.H,rfl,by simp only [h.loc];rw [List.set_append_left _ _ hlt]⟩,⟨rfl,by simp⟩⟩
 · rename_i hl
   rw [if_neg hl,if_neg hl]
   split at hb
   · exact ⟨⟨h.T,h.Q,h.H,by simp only [h.M],h.loc⟩,⟨by simp,rfl⟩⟩
   · cases hb
theorem Qoz (st:St) (l k:Nat) (cs:List IV):(st.setBox l k cs).T=st.T:=by
 unfold St.setBox;split
 · rfl
 · split <;> rfl
theorem Jkk {x:IV} {p:Qf7} {e:Nat} {es:List (List IV)} (h:fol x p=some (.own e es)):∃ e' es',x=.own e' es':=by
 cases p with
 | nil=>simp only [fol,Qoi] at h;exact ⟨_,_,h⟩
 | cons a p =>
   obtain ⟨i,j⟩:=a
   cases x <;> simp only [fol] at h <;> first | exact ⟨_,_,rfl⟩ | cases h
theorem Qwd {x:IV} {c e:Nat} {es:List (List IV)} (h:x.cells[c]? = some (.own e es)):x.holds=true:=by
 cases x with
 | agg cs =>
   simp only [IV.cells] at h
   simp only [IV.holds,List.any_eq_true]
   exact ⟨_,List.mem_of_getElem? h,rfl⟩
 | tup vs=>rfl
 | own e es=>rfl
 | _=>cases c <;> simp [IV.cells] at h
theorem Sim.plc (h:Sim D P L st st') {r:Rt} {c:Nat} {p:Qf7} {e:Nat} {es:List (List IV)} (hp:st.plc r c p=some (.own e es)):st'.plc r c p=some (.own e es)∧(∀ s,r=.S s→¬ D s)∧∃ cs x,st.rcells r=some cs∧st'.rcells r=some cs∧cs[c]? = some x∧fol x p=some (.own e es):=by
 unfold St.plc at hp
 split at hp
 rotate_left
 · cases hp
 rename_i cs hcs
 split at hp
 rotate_left
 · cases hp
 rename_i x hx
 have hD:∀ s,r=.S s→¬ D s:=by
  rintro s rfl hs
  simp only [St.rcells,Qoi] at hcs
  subst hcs
  obtain ⟨e',es',rfl⟩:=Jkk hp
  have:=h.H s hs
  rw [Qwd hx] at this
  cases this
 have hcs':st'.rcells r=some cs:=by
  cases r with
  | S s=>simp only [St.rcells,h.T s (hD s rfl)] at hcs ⊢;exact hcs
  | B l k=>exact h.box hcs
 refine ⟨?_,hD,cs,x,hcs,hcs',hx,hp⟩
 unfold St.plc
 rw [hcs'];simp only [hx];exact hp
theorem Sim.setPlc (h:Sim D P L st st') {r:Rt} {c:Nat} {p:Qf7} {e:Nat} {es:List (List IV)} (hp:st.plc r c p=some (.own e es)) {y:IV} (hs:st.setPlc r c p y=some st1) :
 ∃ st1',st'.setPlc r c p y=some st1'∧Sim D P L st1 st1'∧Shp st st1:=by
 obtain ⟨-,hD,cs,x,h1,h2,h3,h4⟩:=h.plc hp
 unfold St.setPlc at hs ⊢
 simp only [h1,h2,h3] at hs ⊢
 split at hs
 rotate_left
 · cases hs
 cases r with
 | S s =>
   simp only [Qoi] at hs ⊢
   subst hs
   rw [h.T s (hD s rfl)]
   exact ⟨_,rfl,h.cons (hD s rfl) _,.refl _⟩
 | B l k =>
   simp only [Qoi] at hs ⊢
   subst hs
   obtain ⟨q1,q2⟩:=h.setBox (cs':=cs.set c _) (show st.box l k=some cs from h1)
   exact ⟨_,rfl,q1,q2⟩
theorem Sim.absorb (h:Sim D P L st st') (hP:∀ q,Qai q→∀ x,P x→P (kl q x)) {x y:IV} (ha:st.absorb x=some (y,st1)):∃ st1',st'.absorb x=some (y,st1')∧Sim D P L st1 st1'∧Shp st st1:=by
 cases x with
 | arr r c p e off n cl =>
   simp only [St.absorb] at ha ⊢
   split at ha
   rotate_left
   · cases ha
   rename_i e1 es hpl
   rw [(h.plc hpl).1]
   simp only
   split at ha
   rotate_left
   · cases ha
   rename_i hle
   rw [if_pos hle]
   split at ha
   rotate_left
   · cases ha
   rename_i st2 hs
   simp only [Qoi,Qpi] at ha
   obtain ⟨rfl,rfl⟩:=ha
   obtain ⟨st2',q1,q2,q3⟩:=h.setPlc hpl hs
   rw [q1]
   exact ⟨_,rfl,q2.kill hP (.rooted r),q3⟩
 | eptr r c p i j=>simp [St.absorb] at ha
 | lptr e j=>simp [St.absorb] at ha
 | agg cs=>simp [St.absorb] at ha
 | tup vs=>simp [St.absorb] at ha
 | un=>simp [St.absorb] at ha
 | _ =>
   simp only [St.absorb,Qoi,Qpi] at ha ⊢
   obtain ⟨rfl,rfl⟩:=ha
   exact ⟨_,⟨rfl,rfl⟩,h,.refl _⟩
theorem Sim.absorbsK (hP:∀ q,Qai q→∀ x,P x→P (kl q x)):∀ {xs ys:List IV} {pk:IV→Bool} {st st' st1:St},Sim D P L st st'→st.absorbsK pk xs=some (ys,st1)→∃ st1',st'.absorbsK pk xs=some (ys,st1')∧Sim D P L st1 st1'∧Shp st st1
 | [],ys,pk,st,st',st1,h,ha=>by
   simp only [St.absorbsK,Qoi,Qpi] at ha ⊢
   obtain ⟨rfl,rfl⟩:=ha
   exact ⟨_,⟨rfl,rfl⟩,h,.refl _⟩
 | x::xs,ys,pk,st,st',st1,h,ha=>by
   simp only [St.absorbsK] at ha ⊢
   split at ha
   rotate_left
   · cases ha
   rename_i y st2 h1
   obtain ⟨st2',q1,q2,q3⟩:=h.absorb hP h1
   split at ha
   rotate_left
   · cases ha
   rename_i ys2 st3 h2
   simp only [Qoi,Qpi] at ha
   obtain ⟨rfl,rfl⟩:=ha
   obtain ⟨st3',r1,r2,r3⟩:=Sim.absorbsK hP q2 h2
   simp only [q1,r1]
   exact ⟨_,rfl,r2,q3.trans r3⟩
theorem Sim.absorbs (h:Sim D P L st st') (hP:∀ q,Qai q→∀ x,P x→P (kl q x)) {xs ys:List IV} (ha:st.absorbs xs=some (ys,st1)):∃ st1',st'.absorbs xs=some (ys,st1')∧Sim D P L st1 st1'∧Shp st st1 :=
 Sim.absorbsK hP h ha
theorem Sim.sview (h:Sim D P L st st') {x:IV} {r:Nat×List (List IV)} (hs:st.sview x=some r):st'.sview x=some r:=by
 cases x <;> simp only [St.sview] at hs ⊢ <;> first | exact hs | cases hs | skip
 split at hs
 rotate_left
 · cases hs
 rename_i e es hp
 rw [(h.plc hp).1];exact hs
theorem Sim.loadCells (h:Sim D P L st st') {x:IV} {sz:Nat} {cs:List IV} (hl:st.loadCells sz x=some cs):st'.loadCells sz x=some cs:=by
 cases x <;> simp only [St.loadCells] at hl ⊢ <;> first | exact hl | cases hl | skip
 · split at hl
   rotate_left
   · cases hl
   rename_i hp
   rw [(h.plc hp).1];exact hl
 · split at hl
   rotate_left
   · cases hl
   rename_i hb
   rw [h.box hb];exact hl
theorem Sim.storeCells (h:Sim D P L st st') (hP:∀ q,Qai q→∀ x,P x→P (kl q x)) {a:IV} {ys:List IV} (hs:st.storeCells a ys=some st1):∃ st1',st'.storeCells a ys=some st1'∧Sim D P L st1 st1'∧Shp st st1:=by
 unfold St.storeCells at hs ⊢
 split at hs
 · rename_i l k c
   split at hs
   rotate_left
   · cases hs
   rename_i cs hb
   simp only [h.box hb]
   split at hs
   rotate_left
   · cases hs
   rename_i old ho
   try simp only [ho]
   split at hs
   rotate_left
   · cases hs
   rename_i hl
   rw [if_pos hl]
   obtain ⟨q1,q2⟩:=h.setBox (cs':=splice cs c ys) hb
   simp only [Qoi] at hs ⊢
   subst hs
   refine ⟨_,rfl,?_,?_⟩
   · split
     · exact q1
     · exact q1.kill hP (.rooted _)
   · split
     · exact q2
     · exact q2
 · rename_i r c p i j
   split at hs
   · cases hs
   rename_i hd
   rw [if_neg hd]
   split at hs
   rotate_left
   · cases hs
   rename_i e es hp
   simp only [(h.plc hp).1]
   split at hs
   rotate_left
   · cases hs
   rename_i el hi
   try simp only [hi]
   split at hs
   rotate_left
   · cases hs
   rename_i old ho
   try simp only [ho]
   split at hs
   rotate_left
   · cases hs
   rename_i st2 h2
   obtain ⟨st2',q1,q2,q3⟩:=h.setPlc hp h2
   simp only [q1,Qoi] at hs ⊢
   subst hs
   refine ⟨_,rfl,?_,?_⟩
   · split
     · exact q2
     · exact q2.kill hP (.rooted _)
   · split
     · exact q3
     · exact q3
 · cases hs
theorem Qof:∀ {xs:List IV} {cs:List IV} {i s:Nat},Qge xs=some s→Qeg s i xs cs=true→cs.any IV.isOwn=true
 | [],cs,i,s,h,_=>by cases h
 | x::xs,[],i,s,_,h=>by unfold Qeg at h;split at h <;> simp_all
 | x::xs,c::cs,i,s,hr,h=>by
   unfold Qeg at h
   split at h
   · simp_all
   · rename_i h1 h2
     cases h1;cases h2
     simp only [Qba] at h
     have:=Qof (xs:=xs) (by simpa [Qge] using hr) h.2
     simp [this]
   · rename_i h1 h2
     cases h1;cases h2
     simp [IV.isOwn]
   · cases h
theorem Qlj (h:Sim D P L st st') {xs cs:List IV} {s:Nat} (hroot:Qge xs=some s) (hs:Qan st.T s=.agg cs) (hsh:Qeg s 0 xs cs=true):¬ D s:=fun hd=>by
 have h9:=h.H s hd
 rw [hs] at h9
 simp only [IV.holds] at h9
 rw [Qof hroot hsh] at h9
 cases h9
theorem Sim.arg1 (h:Sim D P L st st') (hP:∀ q,Qai q→∀ x,P x→P (kl q x)) {m:Mode} {o:Opd} (ho:NoU D (Qcn o)) {v:Option IV} (ha:st.arg1 m o=some (v,st1)):∃ st1',st'.arg1 m o=some (v,st1')∧Sim D P L st1 st1'∧Shp st st1:=by
 cases m with
 | val=>simp only [St.arg1,Qoi,Qpi] at ha ⊢;obtain ⟨rfl,rfl⟩:=ha;exact ⟨_,⟨rfl,rfl⟩,h,.refl _⟩
 | rv=>simp only [St.arg1,Qoi,Qpi] at ha ⊢;obtain ⟨rfl,rfl⟩:=ha;exact ⟨_,⟨rfl,rfl⟩,h,.refl _⟩
 | rd =>
   simp only [St.arg1] at ha ⊢
   cases ht:Idl.tk st.T o with
   | mk x T =>
   obtain ⟨T',q1,q2⟩:=h.tk hP ho ht
   rw [ht] at ha
   rw [q1]
   cases x <;> simp only at ha ⊢ <;> try (simp only [Qoi,Qpi] at ha ⊢;obtain ⟨rfl,rfl⟩:=ha;exact ⟨_,⟨rfl,rfl⟩,by first | exact q2 | exact h,.refl _⟩)
   split at ha
   · rename_i hp
     rw [if_pos hp]
     simp only [Qoi,Qpi] at ha ⊢;obtain ⟨rfl,rfl⟩:=ha;exact ⟨_,⟨rfl,rfl⟩,q2,.refl _⟩
   · rename_i hp
     rw [if_neg hp]
     simp only [Qoi,Qpi] at ha ⊢;obtain ⟨rfl,rfl⟩:=ha;exact ⟨_,⟨rfl,rfl⟩,h,.refl _⟩
 | tk =>
   simp only [St.arg1] at ha ⊢
   cases ht:Idl.tk st.T o with
   | mk x T =>
   obtain ⟨T',q1,q2⟩:=h.tk hP ho ht
   rw [ht] at ha
   rw [q1]
   cases x <;> simp only at ha ⊢
   case agg cs =>
    split at ha
    rotate_left
    · cases ha
    rename_i cs2 st2 h2
    obtain ⟨st2',r1,r2,r3⟩:=q2.absorbs hP h2
    simp only [r1,Qoi,Qpi] at ha ⊢
    obtain ⟨rfl,rfl⟩:=ha
    exact ⟨_,⟨rfl,rfl⟩,r2,r3⟩
   all_goals
    split at ha
    rotate_left
    · cases ha
    rename_i h2
    obtain ⟨st2',r1,r2,r3⟩:=q2.absorb hP h2
    simp only [r1,Qoi,Qpi] at ha ⊢
    obtain ⟨rfl,rfl⟩:=ha
    exact ⟨_,⟨rfl,rfl⟩,r2,r3⟩
 | ld =>
   simp only [St.arg1,h.rd ho] at ha ⊢
   split at ha
   · rename_i s c e n hr
     split at ha
     · rename_i e2 es hs
       have hD:¬ D s:=fun hd=>by have:=h.H s hd;rw [hs] at this;cases this
       simp only [h.T s hD,hs]
       split at ha
       rotate_left
       · cases ha
       rename_i hn
       rw [if_pos hn]
       simp only [Qoi,Qpi] at ha ⊢
       obtain ⟨rfl,rfl⟩:=ha
       exact ⟨_,⟨rfl,rfl⟩,h.dropSlot hP hD,.refl _⟩
     · rename_i cs hs
       split at ha
       rotate_left
       · cases ha
       rename_i e2 es hce
       have hD:¬ D s:=fun hd=>by
        have:=h.H s hd
        rw [hs] at this
        simp only [IV.holds,List.any_eq_false] at this
        exact this _ (List.mem_of_getElem? hce) rfl
       simp only [h.T s hD,hs,hce]
       split at ha
       rotate_left
       · cases ha
       rename_i hn
       rw [if_pos hn]
       simp only [Qoi,Qpi] at ha ⊢
       obtain ⟨rfl,rfl⟩:=ha
       exact ⟨_,⟨rfl,rfl⟩,(h.dropSlot hP hD).cons hD _,.refl _⟩
     · cases ha
   · rename_i xs hr
     split at ha
     rotate_left
     · cases ha
     rename_i s hroot
     split at ha
     rotate_left
     · cases ha
     rename_i cs hs
     split at ha
     rotate_left
     · cases ha
     rename_i hsh
     have hD:=Qlj h hroot hs hsh
     simp only [h.T s hD,hs]
     rw [if_pos hsh]
     simp only [Qoi,Qpi] at ha ⊢
     obtain ⟨rfl,rfl⟩:=ha
     exact ⟨_,⟨rfl,rfl⟩,h.dropSlot hP hD,.refl _⟩
   · cases ha
theorem Sim.args1 (hP:∀ q,Qai q→∀ x,P x→P (kl q x)):∀ {l:List (Mode×Opd)} {st st' st1:St} {vs:List (Option IV)} {ss:List (Nat×Nat)},Sim D P L st st'→NoU D (l.flatMap fun a=>Qcn a.2)→st.args1 l=some (vs,st1,ss) →
 ∃ st1',st'.args1 l=some (vs,st1',ss)∧Sim D P L st1 st1'∧Shp st st1∧NoU D (ss.map (·.1))
 | [],st,st',st1,vs,ss,h,_,ha=>by
   simp only [St.args1,Qoi,Qpi] at ha ⊢
   obtain ⟨rfl,rfl,rfl⟩:=ha
   exact ⟨_,⟨rfl,rfl,rfl⟩,h,.refl _,fun s hs=>by cases hs⟩
 | (m,o)::l,st,st',st1,vs,ss,h,ho,ha=>by
   have ho1:NoU D (Qcn o):=fun s hs=>ho s (by simp [hs])
   have ho2:NoU D (l.flatMap fun a=>Qcn a.2):=fun s hs=>ho s (by rw [List.flatMap_cons];simp [hs])
   simp only [St.args1] at ha ⊢
   split at ha
   rotate_left
   · cases ha
   rename_i v st2 h1
   obtain ⟨st2',q1,q2,q3⟩:=h.arg1 hP ho1 h1
   split at ha
   rotate_left
   · cases ha
   rename_i vs2 st3 ss2 h2
   obtain ⟨st3',r1,r2,r3,r4⟩:=Sim.args1 hP q2 ho2 h2
   simp only [Qoi,Qpi] at ha
   obtain ⟨rfl,rfl,rfl⟩:=ha
   have hl:Qey st'.T m o=Qey st.T m o∧NoU D ((Qey st.T m o).map (·.1)):=by
    cases m <;> try exact ⟨rfl,fun s hs=>by cases hs⟩
    simp only [St.arg1] at h1
    simp only [Qey,h.rd ho1]
    split at h1
    · rename_i s c e n hr
      simp only [hr]
      have hD:¬ D s:=fun hd=>by
       have h9:=h.H s hd
       split at h1
       · rename_i hs;rw [hs] at h9;cases h9
       · rename_i cs hs
         split at h1
         · rename_i hce
           rw [hs] at h9
           simp only [IV.holds,List.any_eq_false] at h9
           exact h9 _ (List.mem_of_getElem? hce) rfl
         · cases h1
       · cases h1
      rw [h.T s hD]
      refine ⟨rfl,fun t ht=>?_⟩
      split at ht <;> simp only [List.map_cons,List.map_nil,List.mem_singleton] at ht <;> exact ht ▸ hD
    · rename_i xs hr
      simp only [hr]
      split at h1
      rotate_left
      · cases h1
      rename_i s hroot
      try simp only [hroot]
      split at h1
      rotate_left
      · cases h1
      rename_i cs hs
      split at h1
      rotate_left
      · cases h1
      rename_i hsh
      refine ⟨by first | rfl | trivial,fun t ht=>?_⟩
      simp only [List.map_cons,List.map_nil,List.mem_singleton] at ht
      exact ht ▸ Qlj h hroot hs hsh
    · cases h1
   simp only [q1,r1,hl.1]
   refine ⟨_,rfl,r2,q3.trans r3,fun s hs=>?_⟩
   rw [List.map_append] at hs
   rcases List.mem_append.1 hs with hs | hs
   · exact hl.2 s hs
   · exact r4 s hs
theorem Sim.seen (h:Sim D P L st st') {x:IV} {r:IV×Bool} (hs:st.seen x=some r):st'.seen x=some r:=by
 unfold St.seen at *
 split at hs
 · rename_i hp;rw [if_pos hp];exact hs
 · rename_i hp;rw [if_neg hp]
   split at hs
   rotate_left
   · cases hs
   rename_i hv
   rw [h.sview hv];exact hs
theorem Sim.seens (h:Sim D P L st st'):∀ {xs:List IV} {r:List IV×Bool},st.seens xs=some r→st'.seens xs=some r
 | [],r,hs=>hs
 | x::xs,r,hs=>by
   simp only [St.seens] at hs ⊢
   split at hs
   rotate_left
   · cases hs
   rename_i h1
   rw [h.seen h1]
   simp only
   split at hs
   rotate_left
   · cases hs
   rename_i h2
   rw [h.seens h2];exact hs
theorem Sim.arg2 (h:Sim D P L st st') {m:Mode} {o:Opd} (ho:NoU D (Qcn o)) {r:IV×Bool} (ha:st.arg2 m o=some r):st'.arg2 m o=some r:=by
 cases m <;> simp only [St.arg2,h.rd ho] at ha ⊢ <;> try exact ha
 all_goals
  split at ha
  · split at ha
    rotate_left
    · cases ha
    rename_i hs
    rw [h.seens hs];exact ha
  · exact h.seen ha
theorem Sim.args2 (h:Sim D P L st st'):∀ {l:List (Mode×Opd)} {vs:List (Option IV)} {r:List IV×Bool},NoU D (l.flatMap fun a=>Qcn a.2)→st.args2 l vs=some r→st'.args2 l vs=some r
 | [],[],r,_,ha=>ha
 | [],_::_,r,_,ha=>by simp [St.args2] at ha
 | a::l,[],r,_,ha=>by simp [St.args2] at ha
 | a::l,some v::vs,r,ho,ha=>by
   have ho2:NoU D (l.flatMap fun a=>Qcn a.2):=fun s hs=>ho s (by rw [List.flatMap_cons];simp [hs])
   simp only [St.args2] at ha ⊢
   split at ha
   rotate_left
   · cases ha
   rename_i h1
   rw [h.args2 ho2 h1];exact ha
 | (m,o)::l,none::vs,r,ho,ha=>by
   have ho1:NoU D (Qcn o):=fun s hs=>ho s (by simp [hs])
   have ho2:NoU D (l.flatMap fun a=>Qcn a.2):=fun s hs=>ho s (by rw [List.flatMap_cons];simp [hs])
   simp only [St.args2] at ha ⊢
   split at ha
   rotate_left
   · cases ha
   rename_i h1
   rw [h.arg2 ho1 h1]
   simp only
   split at ha
   rotate_left
   · cases ha
   rename_i h2
   rw [h.args2 ho2 h2];exact ha
theorem Sim.args (h:Sim D P L st st') (hP:∀ q,Qai q→∀ x,P x→P (kl q x)) {l:List (Mode×Opd)} (ho:NoU D (l.flatMap fun a=>Qcn a.2)) {vs:List IV} {b:Bool} {ss:List (Nat×Nat)} (ha:st.args l=some (vs,st1,b,ss)) :
 ∃ st1',st'.args l=some (vs,st1',b,ss)∧Sim D P L st1 st1'∧Shp st st1∧NoU D (ss.map (·.1)):=by
 unfold St.args at ha ⊢
 split at ha
 rotate_left
 · cases ha
 rename_i v1 st2 ss2 h1
 obtain ⟨st2',q1,q2,q3,q4⟩:=Sim.args1 hP h ho h1
 simp only [q1]
 split at ha
 rotate_left
 · cases ha
 rename_i h2
 rw [q2.args2 ho h2]
 simp only [Qoi,Qpi] at ha ⊢
 obtain ⟨rfl,rfl,rfl,rfl⟩:=ha
 exact ⟨_,⟨rfl,rfl,rfl,rfl⟩,q2,q3,q4⟩
theorem Sim.lentBack (hP:∀ q,Qai q→∀ x,P x→P (kl q x)):∀ {ss:List (Nat×Nat)} {ys:List IV} {st st' st1:St},Sim D P L st st'→NoU D (ss.map (·.1))→st.lentBack ss ys=some st1→∃ st1',st'.lentBack ss ys=some st1'∧Sim D P L st1 st1'
 | [],[],st,st',st1,h,_,ha=>by
   simp only [St.lentBack,Qoi] at ha ⊢;subst ha;exact ⟨_,rfl,h⟩
 | [],_::_,st,st',st1,h,_,ha=>by simp [St.lentBack] at ha
 | _::_,[],st,st',st1,h,_,ha=>by simp [St.lentBack] at ha
 | (s,0)::ss,y::ys,st,st',st1,h,ho,ha=>by
   simp only [St.lentBack] at ha ⊢
   split at ha
   rotate_left
   · cases ha
   rename_i hy
   rw [if_pos hy]
   exact Sim.lentBack hP (h.tput hP (ho s (by simp)) y) (fun t ht=>ho t (by rw [List.map_cons];exact List.mem_cons_of_mem _ ht)) ha
 | (s,c+1)::ss,y::ys,st,st',st1,h,ho,ha=>by
   have hD:¬ D s:=ho s (by simp)
   simp only [St.lentBack,h.T s hD] at ha ⊢
   split at ha
   rotate_left
   · cases ha
   rename_i hy
   rw [if_pos hy]
   split at ha
   rotate_left
   · cases ha
   rename_i cs hs
   split at ha
   rotate_left
   · cases ha
   rename_i hcu
   try simp only [hcu]
   exact Sim.lentBack hP ((h.dropSlot hP hD).cons hD _) (fun t ht=>ho t (by rw [List.map_cons];exact List.mem_cons_of_mem _ ht)) ha
theorem Sim.callWith (h:Sim D P L st st') (hP:∀ q,Qai q→∀ x,P x→P (kl q x)) {cf:CF} {f:Lab} {caps:List IV} {args:List (Mode×Opd)} {p:Bool} (hp:p=true ∨ L=[]) (ho:NoU D (args.flatMap fun a=>Qcn a.2)) {v:IV}
 (hc:st.callWith cf f caps args p=some (v,st1)):∃ st1',st'.callWith cf f caps args p=some (v,st1')∧Sim D P L st1 st1'∧(p=true→Shp st st1):=by
 unfold St.callWith at hc ⊢
 split at hc
 rotate_left
 · cases hc
 rename_i vs st2 fz ss h1
 obtain ⟨st2',q1,q2,q3,q4⟩:=h.args hP ho h1
 simp only [q1]
 cases p with
 | true =>
   simp only [if_true] at hc ⊢
   split at hc
   · cases hc
   rename_i hg
   rw [if_neg hg]
   split at hc
   rotate_left
   · cases hc
   split at hc
   · rename_i hz
     simp only [hz,if_true]
     split at hc
     · rename_i hn
       rw [if_pos hn]
       simp only [Qoi,Qpi] at hc ⊢
       obtain ⟨rfl,rfl⟩:=hc
       exact ⟨_,⟨rfl,rfl⟩,q2,fun _=>q3⟩
     · cases hc
   · rename_i hz
     simp only [hz,if_false,Bool.false_eq_true]
     simp only [Qoi,Qpi] at hc ⊢
     obtain ⟨rfl,rfl⟩:=hc
     exact ⟨_,⟨rfl,rfl⟩,q2,fun _=>q3⟩
 | false =>
   have hL:L=[]:=by rcases hp with hp | hp;cases hp;exact hp
   subst hL
   have hloc:st2'.loc=st2.loc:=by rw [q2.loc,List.append_nil]
   simp only [Bool.false_eq_true,if_false,q2.M,hloc] at hc ⊢
   split at hc
   · cases hc
   rename_i hz
   simp only [hz,Bool.false_eq_true,if_false]
   split at hc
   rotate_left
   · cases hc
   rename_i rv back M exp hcf
   split at hc
   rotate_left
   · cases hc
   rename_i lo hlo
   try simp only [hlo]
   split at hc
   rotate_left
   · cases hc
   rename_i hM
   rw [if_pos hM]
   split at hc
   rotate_left
   · cases hc
   rename_i st3 hlb
   have hs:Sim D P [] { T:=Qda st2.T,loc:=lo++exp,M:=M.dropLast } { T:=Qda st2'.T,loc:=lo++exp,M:=M.dropLast }:=by
    have:=q2.kill hP .rootB
    exact ⟨this.T,this.Q,this.H,rfl,by simp⟩
   obtain ⟨st3',r1,r2⟩:=Sim.lentBack hP hs q4 hlb
   simp only [r1]
   split at hc
   · simp only [Qoi,Qpi] at hc ⊢
     obtain ⟨rfl,rfl⟩:=hc
     exact ⟨_,⟨rfl,rfl⟩,r2,fun hh=>by cases hh⟩
   · split at hc
     rotate_left
     · cases hc
     rename_i hl
     rw [if_pos hl]
     simp only [Qoi,Qpi] at hc ⊢
     obtain ⟨rfl,rfl⟩:=hc
     exact ⟨_,⟨rfl,rfl⟩,r2,fun hh=>by cases hh⟩
   · cases hc
theorem Sim.callWithH (h:Sim D P L st st') (hP:∀ q,Qai q→∀ x,P x→P (kl q x)) {cf:CF} {f:Lab} {args:List (Mode×Opd)} (hL:L=[]) (ho:NoU D (args.flatMap fun a=>Qcn a.2)) {v:IV}
 (hc:st.callWithH cf f args=some (v,st1)):∃ st1',st'.callWithH cf f args=some (v,st1')∧Sim D P L st1 st1':=by
 unfold St.callWithH at hc ⊢
 split at hc
 rotate_left
 · cases hc
 rename_i vs st2 fz ss h1
 obtain ⟨st2',q1,q2,q3,q4⟩:=h.args hP ho h1
 simp only [q1]
 subst hL
 have hloc:st2'.loc=st2.loc:=by rw [q2.loc,List.append_nil]
 simp only [q2.M,hloc] at hc ⊢
 split at hc
 · cases hc
 rename_i hz
 simp only [hz,Bool.false_eq_true,if_false]
 split at hc
 rotate_left
 · cases hc
 rename_i hlv
 simp only [hlv,if_true]
 split at hc
 rotate_left
 · cases hc
 rename_i rv back M exp hcf
 split at hc
 rotate_left
 · cases hc
 rename_i hlo
 try simp only [hlo]
 split at hc
 rotate_left
 · cases hc
 rename_i hM
 rw [if_pos hM]
 split at hc
 rotate_left
 · cases hc
 rename_i st3 hlb
 have hs:Sim D P [] { T:=Qas (IV.rootL st2.M.length) st2.T,loc:=st2.loc++exp,M:=M.dropLast } { T:=Qas (IV.rootL st2.M.length) st2'.T,loc:=st2.loc++exp,M:=M.dropLast }:=by
  have:=q2.kill hP (.rootL st2.M.length)
  exact ⟨this.T,this.Q,this.H,rfl,by simp⟩
 obtain ⟨st3',r1,r2⟩:=Sim.lentBack hP hs q4 hlb
 simp only [r1]
 split at hc
 · simp only [Qoi,Qpi] at hc ⊢
   obtain ⟨rfl,rfl⟩:=hc
   exact ⟨_,⟨rfl,rfl⟩,r2⟩
 · split at hc
   rotate_left
   · cases hc
   rename_i hl
   rw [if_pos hl]
   simp only [Qoi,Qpi] at hc ⊢
   obtain ⟨rfl,rfl⟩:=hc
   exact ⟨_,⟨rfl,rfl⟩,r2⟩
 · cases hc
end
end Go.Idl
namespace Go.Idl
open Go
def evq (st:St):K→Option IV
 | .mv x=>some (rd st.T x)
 | .nilo e=>some (.own e [])
 | .pick c a b=>match rd st.T c with
   | .sc (.bool t)=>some (rd st.T (if t then a else b))
   | _=>none
 | .bsls esz zero len parts=>match Qf9 st.T (Qap zero len) esz parts with
   | some es=>some (.own esz es)
   | none=>none
 | .load agg sz a=>match st.loadCells sz (rd st.T a) with
   | some cs=>Jc8 agg cs
   | none=>none
 | .nilck x=>match rd st.T x with
   | .bptr l k c=>some (.bptr l k c)
   | .eptr r c p i j=>some (.eptr r c p i j)
   | .lptr e j=>some (.lptr e j)
   | _=>none
 | .bin op x y=>Jel op (rd st.T x) (rd st.T y)
 | .eqa neg n x y=>match rd st.T x,rd st.T y with
   | .agg xs,.agg ys=>if xs.length=n then match Qdr xs ys with
      | some b=>some (.sc (.bool (if neg then !b else b)))
      | none=>none
     else none
   | _,_=>none
 | .eqb neg x y=>match rd st.T x,rd st.T y with
   | .sc (.bool a),.sc (.bool b)=>some (.sc (.bool (if neg then !(a == b) else a == b)))
   | _,_=>none
 | .unop op x=>match rd st.T x with
   | .sc v=>match Qd4 (Op.unary op v) with
     | some v=>if Idl.isSc v then some (.sc v) else none
     | none=>none
   | _=>none
 | .conv k x=>match rd st.T x with
   | .sc (.int _ n)=>some (.sc (.int k (k.wrap n)))
   | _=>none
 | .mkfn f caps=>if (caps.map (rd st.T)).all IV.isBptr then some (.fn f (caps.map (rd st.T))) else none
 | .mksl esz zero len cap=>match Qb8 (rd st.T len),Qb8 (rd st.T cap) with
   | some l,some c=>if l≤c∧c≤lim then some (.own esz (Qap zero l)) else none
   | _,_=>none
 | .slc esz x lo hi mx=>match Jcl (rd st.T x) with
   | some n=>match bound 0 st.T lo,bound n st.T hi with
     | some l,some h=>match mx with
       | none=>Qv6 esz (rd st.T x) l h none
       | some m=>match Qb8 (rd st.T m) with
         | some m=>Qv6 esz (rd st.T x) l h (some m)
         | none=>none
     | _,_=>none
   | none=>none
 | .slcs x lo hi=>match rd st.T x with
   | .sc (.string s)=>match bound 0 st.T lo,bound s.size st.T hi with
     | some l,some h=>if l≤h∧h≤s.size then some (.sc (.string (s.extract l h))) else none
     | _,_=>none
   | _=>none
 | .fadr off x=>match rd st.T x with
   | .bptr l k c=>some (.bptr l k (c+off))
   | .eptr r c p i j=>some (.eptr r c p i (j+off))
   | .lptr e j=>some (.lptr e (j+off))
   | _=>none
 | .fld agg off sz x=>match rd st.T x with
   | .agg cs=>match sub cs off sz with
     | some cs=>Jc8 agg cs
     | none=>none
   | _=>none
 | .iadr esz x i=>match Qb8 (rd st.T i) with
   | some i=>match rd st.T x with
     | .lst e es _=>if e=esz then match es[i]? with
        | some e=>some (.lptr e 0)
        | none=>none
       else none
     | .arr r c p e off n _=>if e=esz∧i < n then some (.eptr r c p (off+i) 0) else none
     | _=>none
   | none=>none
 | .idxs x i=>match rd st.T x,Qb8 (rd st.T i) with
   | .sc (.string s),some i=>match s[i]? with
     | some b=>some (.sc (.int .u8 b.toNat))
     | none=>none
   | _,_=>none
 | .len x=>match Jcl (rd st.T x) with
   | some n=>some (.sc (.int .i64 n))
   | none=>none
 | .capn x=>match rd st.T x with
   | .lst _ es true=>some (.sc (.int .i64 es.length))
   | _=>none
 | .lens x=>match rd st.T x with
   | .sc (.string s)=>some (.sc (.int .i64 s.size))
   | _=>none
 | .minmax mn x y=>match rd st.T x,rd st.T y with
   | .sc (.int k a),.sc (.int _ b)=>some (.sc (.int k (if mn then (if b < a then b else a) else (if a < b then b else a))))
   | _,_=>none
 | _=>none
theorem Ql0 {cf:CF} {st:St} {k:K} (hk:Qev k=true):ev cf st k=(evq st k).map fun v=>(v,st):=by
 cases k <;> simp only [Qev,Bool.false_eq_true] at hk <;> simp only [ev,evq]
 case nilck x=>generalize rd st.T x=y;cases y <;> rfl
 case fadr off x=>generalize rd st.T x=y;cases y <;> rfl
 case iadr e x i =>
  cases Qb8 (rd st.T i) with
  | none=>rfl
  | some n =>
    generalize rd st.T x=y
    cases y <;> simp only <;> first
     | rfl
     | (split <;> first
         | rfl
         | (split <;> simp_all))
 all_goals first
  | rfl
  | (split <;> rfl)
  | (split
     · split <;> first | rfl | simp_all
     · first | rfl | simp_all)
  | (repeat' split) <;> first | rfl | simp_all
section
variable {D:Nat→Prop} {P:IV→Prop} {L:Qae} {st st' st1:St} {cf:CF}
theorem Sim.bound (h:Sim D P L st st') {d:Nat} {o:Option Opd} (ho:NoU D (Jbi o)):bound d st'.T o=bound d st.T o:=by
 cases o with
 | none=>rfl
 | some o=>simp only [Idl.bound];rw [h.rd (o:=o) ho]
theorem Qfc {T T':Tm} {e:Nat}:∀ {ps:List (Nat×Opd)} {es:List (List IV)},(∀ p ∈ ps,rd T' p.2=rd T p.2)→Qf9 T' es e ps=Qf9 T es e ps
 | [],es,_=>rfl
 | (i,o)::r,es,h=>by
   have h1:=h (i,o) (by simp)
   simp only at h1
   simp only [Qf9,h1]
   rw [Qfc fun p hp=>h p (by simp [hp])]
theorem Sim.evq (h:Sim D P L st st') {k:K} (ho:NoU D k.useL) {v:IV} (he:evq st k=some v):evq st' k=some v:=by
 have sub:∀ {x:Opd} {l:List Nat},(∀ s ∈ Qcn x,s ∈ l)→NoU D l→Idl.rd st'.T x=Idl.rd st.T x:=fun hs hl=>h.rd fun s hh=>hl s (hs s hh)
 cases k <;> simp only [K.useL] at ho <;> simp only [Idl.evq] at he ⊢ <;> try exact he
 case mv x=>rw [h.rd ho];exact he
 case pick c a b =>
  rw [sub (x:=c) (by intro s hs;simp [hs]) ho]
  split at he
  · rename_i t _
    rw [h.rd (o:=if t=true then a else b) (by intro s hs;refine ho s ?_;cases t <;> simp_all)];exact he
  · cases he
 case load ag sz a =>
  rw [h.rd ho]
  split at he
  · rename_i cs hc
    rw [h.loadCells hc];exact he
  · cases he
 case bsls e z n ps =>
  rw [Qfc (T:=st.T) fun p hp=>h.rd fun s hs=>ho s (List.mem_flatMap.2 ⟨p,hp,hs⟩)];exact he
 case nilck x=>rw [h.rd ho];exact he
 case bin op x y=>rw [sub (x:=x) (by intro s hs;simp [hs]) ho,sub (x:=y) (by intro s hs;simp [hs]) ho];exact he
 case eqa n q x y=>rw [sub (x:=x) (by intro s hs;simp [hs]) ho,sub (x:=y) (by intro s hs;simp [hs]) ho];exact he
 case eqb n x y=>rw [sub (x:=x) (by intro s hs;simp [hs]) ho,sub (x:=y) (by intro s hs;simp [hs]) ho];exact he
 case unop op x=>rw [h.rd ho];exact he
 case conv q x=>rw [h.rd ho];exact he
 case mkfn f caps =>
  have:caps.map (Idl.rd st'.T)=caps.map (Idl.rd st.T):=List.map_congr_left fun o hm=>h.rd fun s hs=>ho s (List.mem_flatMap.2 ⟨o,hm,hs⟩)
  rw [this];exact he
 case mksl e z x y=>rw [sub (x:=x) (by intro s hs;simp [hs]) ho,sub (x:=y) (by intro s hs;simp [hs]) ho];exact he
 case slc e x lo hi mx =>
  rw [sub (x:=x) (by intro s hs;simp [hs]) ho]
  simp only [h.bound (o:=lo) (fun s hs=>ho s (by simp [hs])),h.bound (o:=hi) (fun s hs=>ho s (by simp [hs]))]
  cases mx with
  | none=>exact he
  | some m=>simp only;rw [sub (x:=m) (by intro s hs;simp [Jbi,hs]) ho];exact he
 case slcs x lo hi =>
  rw [sub (x:=x) (by intro s hs;simp [hs]) ho]
  simp only [h.bound (o:=lo) (fun s hs=>ho s (by simp [hs])),h.bound (o:=hi) (fun s hs=>ho s (by simp [hs]))]
  exact he
 case fadr off x=>rw [h.rd ho];exact he
 case fld ag off sz x=>rw [h.rd ho];exact he
 case iadr e x i=>rw [sub (x:=x) (by intro s hs;simp [hs]) ho,sub (x:=i) (by intro s hs;simp [hs]) ho];exact he
 case idxs x i=>rw [sub (x:=x) (by intro s hs;simp [hs]) ho,sub (x:=i) (by intro s hs;simp [hs]) ho];exact he
 case len x=>rw [h.rd ho];exact he
 case capn x=>rw [h.rd ho];exact he
 case lens x=>rw [h.rd ho];exact he
 case minmax mn x y=>rw [sub (x:=x) (by intro s hs;simp [hs]) ho,sub (x:=y) (by intro s hs;simp [hs]) ho];exact he
theorem Sim.fillCells (hP:∀ q,Qai q→∀ x,P x→P (kl q x)):∀ {ps:List (Nat×Nat×Opd)} {cs cs2:List IV} {st st':St} {T:Tm},Sim D P L st st'→NoU D (ps.flatMap fun p=>Qcn p.2.2)→fillCells st.T cs ps=some (cs2,T) →
 ∃ T',fillCells st'.T cs ps=some (cs2,T')∧Sim D P L { st with T:=T } { st' with T:=T' }
 | [],cs,cs2,st,st',T,h,_,he=>by
   simp only [Idl.fillCells,Qoi,Qpi] at he ⊢
   obtain ⟨rfl,rfl⟩:=he
   exact ⟨_,⟨rfl,rfl⟩,h⟩
 | (off,sz,o)::ps,cs,cs2,st,st',T,h,ho,he=>by
   have ho1:NoU D (Qcn o):=fun s hs=>ho s (by rw [List.flatMap_cons];simp [hs])
   have ho2:NoU D (ps.flatMap fun p=>Qcn p.2.2):=fun s hs=>ho s (by rw [List.flatMap_cons];simp [hs])
   simp only [Idl.fillCells] at he ⊢
   cases ht:Idl.tk st.T o with
   | mk v T1 =>
   obtain ⟨T1',q1,q2⟩:=h.tk hP ho1 ht
   rw [ht] at he
   rw [q1]
   simp only at he ⊢
   split at he
   rotate_left
   · cases he
   rename_i hc
   rw [if_pos hc]
   exact Sim.fillCells hP q2 ho2 he
theorem Sim.fillElems (hP:∀ q,Qai q→∀ x,P x→P (kl q x)) {e:Nat}:∀ {ps:List (Nat×Opd)} {es es2:List (List IV)} {st st' st1:St},Sim D P L st st'→NoU D (ps.flatMap fun p=>Qcn p.2)→st.fillElems es e ps=some (es2,st1) →
 ∃ st1',st'.fillElems es e ps=some (es2,st1')∧Sim D P L st1 st1'∧Shp st st1
 | [],es,es2,st,st',st1,h,_,he=>by
   simp only [St.fillElems,Qoi,Qpi] at he ⊢
   obtain ⟨rfl,rfl⟩:=he
   exact ⟨_,⟨rfl,rfl⟩,h,.refl _⟩
 | (i,o)::ps,es,es2,st,st',st1,h,ho,he=>by
   have ho1:NoU D (Qcn o):=fun s hs=>ho s (by rw [List.flatMap_cons];simp [hs])
   have ho2:NoU D (ps.flatMap fun p=>Qcn p.2):=fun s hs=>ho s (by rw [List.flatMap_cons];simp [hs])
   simp only [St.fillElems] at he ⊢
   cases ht:Idl.tk st.T o with
   | mk v T1 =>
   obtain ⟨T1',q1,q2⟩:=h.tk hP ho1 ht
   rw [ht] at he
   rw [q1]
   simp only at he ⊢
   split at he
   rotate_left
   · cases he
   rename_i cs st2 h2
   obtain ⟨st2',r1,r2,r3⟩:=q2.absorbs hP h2
   simp only [r1]
   split at he
   rotate_left
   · cases he
   rename_i hc
   rw [if_pos hc]
   obtain ⟨st3',k1,k2,k3⟩:=Sim.fillElems hP r2 ho2 he
   exact ⟨st3',k1,k2,Shp.trans (show Shp st st2 from r3) k3⟩
theorem Sim.news (h:Sim D P L st st') (hP:∀ q,Qai q→∀ x,P x→P (kl q x)) {e:Nat} {o:Opd} (ho:NoU D (Qcn o)) {es:List (List IV)} (he:st.news e o=some (es,st1)):∃ st1',st'.news e o=some (es,st1')∧Sim D P L st1 st1'∧Shp st st1:=by
 unfold St.news at he ⊢
 cases ht:Idl.tk st.T o with
 | mk v T1 =>
 obtain ⟨T1',q1,q2⟩:=h.tk hP ho ht
 rw [ht] at he
 rw [q1]
 have other:∀ {r:Option (List (List IV)×St)} ,(match st.sview (Idl.rd st.T o) with
  | some (e2,es)=>if ((e2 == e || es.isEmpty) && es.all fun x=>x.all IV.plain1)=true then some (es,st) else none
  | none=>none)=some (es,st1)→∃ st1',(match st'.sview (Idl.rd st'.T o) with
  | some (e2,es)=>if ((e2 == e || es.isEmpty) && es.all fun x=>x.all IV.plain1)=true then some (es,st') else none
  | none=>none)=some (es,st1')∧Sim D P L st1 st1'∧Shp st st1:=by
  intro _ hh
  rw [h.rd ho]
  split at hh
  rotate_left
  · cases hh
  rename_i hs
  rw [h.sview hs]
  simp only
  split at hh
  · rename_i hc
    rw [if_pos hc]
    simp only [Qoi,Qpi] at hh ⊢
    obtain ⟨rfl,rfl⟩:=hh
    exact ⟨_,⟨rfl,rfl⟩,h,.refl _⟩
  · cases hh
 cases v <;> simp only at he ⊢ <;> try exact other (r:=none) he
 split at he
 · rename_i hc
   rw [if_pos hc]
   simp only [Qoi,Qpi] at he ⊢
   obtain ⟨rfl,rfl⟩:=he
   exact ⟨_,⟨rfl,rfl⟩,q2,.refl _⟩
 · cases he
theorem Sim.append (h:Sim D P L st st') (hP:∀ q,Qai q→∀ x,P x→P (kl q x)) {e:Nat} {o:Opd} (ho:NoU D (Qcn o)) {ys:List (List IV)} {v:IV} (he:st.append e o ys=some (v,st1)):∃ st1',st'.append e o ys=some (v,st1')∧Sim D P L st1 st1'∧Shp st st1:=by
 unfold St.append at he ⊢
 cases ht:Idl.tk st.T o with
 | mk x T1 =>
 obtain ⟨T1',q1,q2⟩:=h.tk hP ho ht
 rw [ht] at he
 rw [q1]
 have other:∀ (x:IV),(match ({ st with T:=T1 }:St).absorb x with
  | some (.own e2 es,st)=>if e2=e∧es.length+ys.length≤lim then some (IV.own e (es++ys),st) else none
  | _=>none)=some (v,st1)→∃ st1',(match ({ st' with T:=T1' }:St).absorb x with
  | some (.own e2 es,st)=>if e2=e∧es.length+ys.length≤lim then some (IV.own e (es++ys),st) else none
  | _=>none)=some (v,st1')∧Sim D P L st1 st1'∧Shp st st1:=by
  intro x hh
  split at hh
  rotate_left
  · cases hh
  rename_i e2 es st2 ha
  obtain ⟨st2',r1,r2,r3⟩:=q2.absorb hP ha
  simp only [r1]
  split at hh
  rotate_left
  · cases hh
  rename_i hc
  rw [if_pos hc]
  simp only [Qoi,Qpi] at hh ⊢
  obtain ⟨rfl,rfl⟩:=hh
  exact ⟨_,⟨rfl,rfl⟩,r2,r3⟩
 cases x <;> try (first | exact other (.sc _) he | exact other (.own _ _) he | exact other (.eptr _ _ _ _ _) he | exact other (.lptr _ _) he | exact other (.bptr _ _ _) he | exact other (.fn _ _) he | exact other (.agg _) he | exact other (.tup _) he | exact other .un he)
 case lst e2 es cl =>
  cases cl with
  | false=>exact other (.lst e2 es false) he
  | true =>
    simp only at he ⊢
    split at he
    · rename_i hc
      rw [if_pos hc]
      simp only [Qoi,Qpi] at he ⊢
      obtain ⟨rfl,rfl⟩:=he
      exact ⟨_,⟨rfl,rfl⟩,h,.refl _⟩
    · cases he
 case arr r c p e2 off n cl =>
  cases cl with
  | false=>exact other (.arr r c p e2 off n false) he
  | true =>
    simp only at he ⊢
    split at he
    · rename_i hc
      rw [if_pos hc]
      simp only [Qoi,Qpi] at he ⊢
      obtain ⟨rfl,rfl⟩:=he
      exact ⟨_,⟨rfl,rfl⟩,q2,.refl _⟩
    · cases he
theorem Sim.freezeBox (h:Sim D P L st st') (hP:∀ q,Qai q→∀ x,P x→P (kl q x)) {l k c sz:Nat} {st1:St} (hs:st.freezeBox l k c sz=some st1):∃ st1',st'.freezeBox l k c sz=some st1'∧Sim D P L st1 st1'∧Shp st st1:=by
 unfold St.freezeBox at hs ⊢
 split at hs
 rotate_left
 · cases hs
 rename_i cs hb
 simp only [h.box hb]
 split at hs
 rotate_left
 · cases hs
 rename_i xs hx
 split at hs
 rotate_left
 · cases hs
 rename_i hc
 rw [if_pos hc]
 simp only [Qoi] at hs ⊢
 subst hs
 have hk:Qai (IV.rooted (.B l k)):=.rooted _
 obtain ⟨a1,a2⟩:=h.setBox (cs':=splice cs c (List.replicate sz .un)) hb
 have a3:=a1.kill hP hk
 simp only [Qoz] at a3
 obtain ⟨b1,b2⟩:=a3.setBox (l:=l) (k:=k) (cs:=splice cs c (List.replicate sz .un)) (cs':=splice (splice cs c (List.replicate sz .un)) c (Qc2 xs)) (by
  rw [Qg7,Qed (by rw [hb];rfl),if_pos ⟨rfl,rfl⟩])
 refine ⟨_,rfl,?_,Shp.trans (show Shp st _ from a2) b2⟩
 have:=b1.kill hP hk
 simpa only [Qoz,Qbg] using this
theorem Js1 (h:Sim D P L st st') (hP:∀ q,Qai q→∀ x,P x→P (kl q x)) {k:K} (hk:Qd9 k=true ∨ L=[]) (ho:NoU D k.useL) {v:IV} (he:ev cf st k=some (v,st1)) :
 ∃ st1',ev cf st' k=some (v,st1')∧Sim D P L st1 st1'∧(Qd9 k=true→Shp st st1):=by
 by_cases hp:Qev k=true
 · rw [Ql0 hp] at he ⊢
   rw [Option.map_eq_some_iff] at he
   obtain ⟨v',h1,h2⟩:=he
   simp only [Qpi] at h2
   obtain ⟨rfl,rfl⟩:=h2
   rw [h.evq ho h1]
   exact ⟨st',rfl,h,fun _=>.refl _⟩
 cases k <;> simp only [Qev,not_true_eq_false] at hp <;> simp only [K.useL] at ho <;> simp only [ev] at he ⊢
 case mvo e x =>
  rw [h.rd ho]
  simp only [Qoi,Qpi] at he ⊢
  obtain ⟨rfl,rfl⟩:=he
  exact ⟨_,⟨rfl,rfl⟩,h,fun _=>.refl _⟩
 case asg x =>
  cases ht:Idl.tk st.T x with
  | mk u T1 =>
  obtain ⟨T1',q1,q2⟩:=h.tk hP ho ht
  rw [ht] at he
  rw [q1]
  simp only [Qoi,Qpi] at he ⊢
  obtain ⟨rfl,rfl⟩:=he
  exact ⟨_,⟨rfl,rfl⟩,q2,fun _=>.refl _⟩
 case asgf x =>
  cases ht:Idl.tk st.T x with
  | mk u T1 =>
  obtain ⟨T1',q1,q2⟩:=h.tk hP ho ht
  rw [ht] at he
  rw [q1]
  cases u
  case agg cs=>simp at he
  all_goals
   simp only at he ⊢
   split at he
   rotate_left
   · cases he
   rename_i u2 st2 h2
   obtain ⟨st2',r1,r2,r3⟩:=q2.absorb hP h2
   simp only [r1]
   split at he
   rotate_left
   · cases he
   rename_i hl
   rw [if_pos hl]
   simp only [Qoi,Qpi] at he ⊢
   obtain ⟨rfl,rfl⟩:=he
   exact ⟨_,⟨rfl,rfl⟩,r2,fun _=>r3⟩
 case asgm x =>
  cases ht:Idl.tk st.T x with
  | mk u T1 =>
  obtain ⟨T1',q1,q2⟩:=h.tk hP ho ht
  rw [ht] at he
  rw [q1]
  cases u <;> simp only at he ⊢
  case agg cs =>
   split at he
   rotate_left
   · cases he
   rename_i cs2 st2 h2
   obtain ⟨st2',r1,r2,r3⟩:=q2.absorbs hP h2
   simp only [r1,Qoi,Qpi] at he ⊢
   obtain ⟨rfl,rfl⟩:=he
   exact ⟨_,⟨rfl,rfl⟩,r2,fun _=>r3⟩
  all_goals
   split at he
   rotate_left
   · cases he
   rename_i u2 st2 h2
   obtain ⟨st2',r1,r2,r3⟩:=q2.absorb hP h2
   simp only [r1,Qoi,Qpi] at he ⊢
   obtain ⟨rfl,rfl⟩:=he
   exact ⟨_,⟨rfl,rfl⟩,r2,fun _=>r3⟩
 case clr x z =>
  rw [h.rd ho]
  split at he
  rotate_left
  · cases he
  split at he
  rotate_left
  · cases he
  rename_i hp1
  simp only [(h.plc hp1).1]
  split at he
  rotate_left
  · cases he
  rename_i hc
  rw [if_pos hc]
  split at he
  rotate_left
  · cases he
  rename_i st2 h2
  obtain ⟨st2',q1,q2,q3⟩:=h.setPlc hp1 h2
  simp only [q1,Qoi,Qpi] at he ⊢
  obtain ⟨rfl,rfl⟩:=he
  exact ⟨_,⟨rfl,rfl⟩,q2.kill hP (.rooted _),fun _=>q3⟩
 case clrs x z =>
  rw [h.rd ho]
  split at he
  rotate_left
  · cases he
  split at he
  rotate_left
  · cases he
  rename_i hp1
  simp only [(h.plc hp1).1]
  split at he
  rotate_left
  · cases he
  rename_i hc
  rw [if_pos hc]
  split at he
  · rename_i hn
    rw [if_pos hn]
    simp only [Qoi,Qpi] at he ⊢
    obtain ⟨rfl,rfl⟩:=he
    exact ⟨_,⟨rfl,rfl⟩,h,fun _=>.refl _⟩
  rename_i hn
  rw [if_neg hn]
  split at he
  rotate_left
  · cases he
  rename_i st2 h2
  obtain ⟨st2',q1,q2,q3⟩:=h.setPlc hp1 h2
  simp only [q1,Qoi,Qpi] at he ⊢
  obtain ⟨rfl,rfl⟩:=he
  exact ⟨_,⟨rfl,rfl⟩,q2,fun _=>q3⟩
 case slcb e x lo hi =>
  rw [h.rd (o:=x) (by intro s hs;exact ho s (by simp [hs]))]
  simp only [h.bound (o:=lo) (fun s hs=>ho s (by simp [hs])),h.bound (o:=hi) (fun s hs=>ho s (by simp [hs]))]
  split at he
  rotate_left
  · cases he
  split at he
  rotate_left
  · cases he
  rename_i hp1
  simp only [(h.plc hp1).1]
  split at he
  rotate_left
  · cases he
  rename_i hb1 hb2
  try simp only [hb1,hb2]
  split at he
  rotate_left
  · cases he
  rename_i hc
  rw [if_pos hc]
  simp only [Qoi,Qpi] at he ⊢
  obtain ⟨rfl,rfl⟩:=he
  exact ⟨_,⟨rfl,rfl⟩,h,fun _=>.refl _⟩
 case appz z x y =>
  rw [h.rd (o:=x) (by intro s hs;exact ho s (by simp [hs])),h.rd (o:=y) (by intro s hs;exact ho s (by simp [hs]))]
  split at he
  rotate_left
  · cases he
  rename_i hx1 hy1
  try simp only [hx1,hy1]
  split at he
  rotate_left
  · cases he
  rename_i hc
  rw [if_pos hc]
  simp only [Qoi,Qpi] at he ⊢
  obtain ⟨rfl,rfl⟩:=he
  exact ⟨_,⟨rfl,rfl⟩,h,fun _=>.refl _⟩
 case appi e x y =>
  rw [h.rd (o:=x) (by intro s hs;exact ho s (by simp [hs])),h.rd (o:=y) (by intro s hs;exact ho s (by simp [hs]))]
  split at he
  rotate_left
  · cases he
  split at he
  rotate_left
  · cases he
  rename_i hsv
  rw [h.sview hsv]
  simp only
  split at he
  rotate_left
  · cases he
  rename_i hp1
  simp only [(h.plc hp1).1]
  split at he
  rotate_left
  · cases he
  rename_i hc
  rw [if_pos hc]
  split at he
  · rename_i hn
    rw [if_pos hn]
    simp only [Qoi,Qpi] at he ⊢
    obtain ⟨rfl,rfl⟩:=he
    exact ⟨_,⟨rfl,rfl⟩,h,fun _=>.refl _⟩
  rename_i hn
  rw [if_neg hn]
  split at he
  rotate_left
  · cases he
  rename_i st2 h2
  obtain ⟨st2',q1,q2,q3⟩:=h.setPlc hp1 h2
  simp only [q1,Qoi,Qpi] at he ⊢
  obtain ⟨rfl,rfl⟩:=he
  exact ⟨_,⟨rfl,rfl⟩,q2,fun _=>q3⟩
 case alloc z =>
  have hL:L=[]:=by rcases hk with hk | hk;simp [Qd9] at hk;exact hk
  subst hL
  have hloc:st'.loc=st.loc:=by rw [h.loc,List.append_nil]
  simp only [Qoi,Qpi] at he ⊢
  obtain ⟨rfl,rfl⟩:=he
  refine ⟨_,⟨by rw [h.M,hloc],rfl⟩,⟨h.T,h.Q,h.H,h.M,by simp [hloc]⟩,by simp [Qd9]⟩
 case box x =>
  have hL:L=[]:=by rcases hk with hk | hk;simp [Qd9] at hk;exact hk
  subst hL
  cases ht:Idl.tk st.T x with
  | mk u T1 =>
  obtain ⟨T1',q1,q2⟩:=h.tk hP ho ht
  rw [ht] at he
  rw [q1]
  simp only at he ⊢
  split at he
  rotate_left
  · cases he
  rename_i cs st2 h2
  obtain ⟨st2',r1,r2,r3⟩:=q2.absorbs hP h2
  have hloc:st2'.loc=st2.loc:=by rw [r2.loc,List.append_nil]
  simp only [r1,Qoi,Qpi] at he ⊢
  obtain ⟨rfl,rfl⟩:=he
  exact ⟨_,⟨by rw [r2.M,hloc],rfl⟩,⟨r2.T,r2.Q,r2.H,r2.M,by simp [hloc]⟩,by simp [Qd9]⟩
 case build z ps =>
  split at he
  rotate_left
  · cases he
  rename_i cs T1 h1
  obtain ⟨T1',q1,q2⟩:=Sim.fillCells hP h ho h1
  simp only [q1,Qoi,Qpi] at he ⊢
  obtain ⟨rfl,rfl⟩:=he
  exact ⟨_,⟨rfl,rfl⟩,q2,fun _=>.refl _⟩
 case bsl e z n ps =>
  split at he
  rotate_left
  · cases he
  rename_i es st2 h1
  obtain ⟨st2',q1,q2,q3⟩:=Sim.fillElems hP h ho h1
  simp only [q1,Qoi,Qpi] at he ⊢
  obtain ⟨rfl,rfl⟩:=he
  exact ⟨_,⟨rfl,rfl⟩,q2,fun _=>q3⟩
 case store sz a x =>
  cases ht:Idl.tk st.T x with
  | mk u T1 =>
  obtain ⟨T1',q1,q2⟩:=h.tk hP (fun s hs=>ho s (by simp [hs])) ht
  rw [ht] at he
  rw [q1]
  simp only at he ⊢
  split at he
  rotate_left
  · cases he
  rename_i cs st2 h2
  obtain ⟨st2',r1,r2,r3⟩:=q2.absorbs hP h2
  simp only [r1,r2.rd (o:=a) (fun s hs=>ho s (by simp [hs]))]
  split at he
  rotate_left
  · cases he
  rename_i hl
  rw [if_pos hl]
  split at he
  rotate_left
  · cases he
  rename_i st3 h3
  obtain ⟨st3',k1,k2,k3⟩:=r2.storeCells hP h3
  simp only [k1,Qoi,Qpi] at he ⊢
  obtain ⟨rfl,rfl⟩:=he
  exact ⟨_,⟨rfl,rfl⟩,k2,fun _=>Shp.trans (show Shp st st2 from r3) k3⟩
 case loadf ag sz a =>
  rw [h.rd ho]
  split at he
  rotate_left
  · cases he
  rename_i l k c hrd
  split at he
  rotate_left
  · cases he
  rename_i st2 h2
  obtain ⟨st2',r1,r2,r3⟩:=h.freezeBox hP h2
  simp only [r1,r2.rd ho]
  split at he
  rotate_left
  · cases he
  rename_i cs hc
  rw [r2.loadCells hc]
  simp only
  split at he
  rotate_left
  · cases he
  rename_i v1 hp
  simp only [Qoi,Qpi] at he ⊢
  obtain ⟨rfl,rfl⟩:=he
  exact ⟨_,⟨rfl,rfl⟩,r2,fun _=>r3⟩
 case storef sz a x =>
  cases ht:Idl.tk st.T x with
  | mk u T1 =>
  obtain ⟨T1',q1,q2⟩:=h.tk hP (fun s hs=>ho s (by simp [hs])) ht
  rw [ht] at he
  rw [q1]
  simp only at he ⊢
  split at he
  rotate_left
  · cases he
  rename_i cs st2 h2
  obtain ⟨st2',r1,r2,r3⟩:=q2.absorbs hP h2
  simp only [r1,r2.rd (o:=a) (fun s hs=>ho s (by simp [hs]))]
  split at he
  rotate_left
  · cases he
  rename_i hl
  rw [if_pos hl]
  split at he
  rotate_left
  · cases he
  split at he
  rotate_left
  · cases he
  rename_i st3 h3
  obtain ⟨st3',k1,k2,k3⟩:=r2.storeCells hP h3
  simp only [k1,Qoi,Qpi] at he ⊢
  obtain ⟨rfl,rfl⟩:=he
  exact ⟨_,⟨rfl,rfl⟩,k2,fun _=>Shp.trans (show Shp st st2 from r3) k3⟩
 case extr x i =>
  cases x <;> simp only at he ⊢ <;> try (cases he;done)
  rename_i s
  have hs:=ho s (by simp [Qcn])
  rw [h.T s hs]
  split at he
  rotate_left
  · cases he
  split at he
  rotate_left
  · cases he
  rename_i hv
  try simp only [hv]
  simp only [Qoi,Qpi] at he ⊢
  obtain ⟨rfl,rfl⟩:=he
  exact ⟨_,⟨rfl,rfl⟩,(h.dropSlot hP hs).tput hP hs _,fun _=>.refl _⟩
 case call f args p =>
  exact h.callWith hP (by rcases hk with hk | hk;exact .inl hk;exact .inr hk) ho he
 case callq f args =>
  obtain ⟨s1,q1,q2,q3⟩:=h.callWith hP (.inl rfl) ho he
  exact ⟨s1,q1,q2,fun _=>q3 rfl⟩
 case callh f args =>
  have hL:L=[]:=by rcases hk with hk | hk;simp [Qd9] at hk;exact hk
  obtain ⟨st1',q1,q2⟩:=h.callWithH hP hL ho he
  exact ⟨st1',q1,q2,by simp [Qd9]⟩
 case callp f x =>
  unfold St.callP at he ⊢
  rw [h.rd ho]
  split at he
  rotate_left
  · cases he
  split at he
  rotate_left
  · cases he
  rename_i hp1
  simp only [(h.plc hp1).1]
  split at he
  rotate_left
  · cases he
  rename_i hc
  rw [if_pos hc]
  split at he
  rotate_left
  · cases he
  rename_i hcf
  try simp only [hcf]
  split at he
  rotate_left
  · cases he
  rename_i hs3
  rw [if_pos hs3]
  split at he
  rotate_left
  · cases he
  rename_i st2 h2
  obtain ⟨st2',q1,q2,q3⟩:=h.setPlc hp1 h2
  simp only [q1,Qoi,Qpi] at he ⊢
  obtain ⟨rfl,rfl⟩:=he
  exact ⟨_,⟨rfl,rfl⟩,q2.kill hP (.rooted _),by simp [Qd9]⟩
 case callz f x k =>
  have hL:L=[]:=by rcases hk with hk | hk;simp [Qd9] at hk;exact hk
  have hrx:=h.rd (o:=x) (fun s hs=>ho s (by simp [hs]))
  simp only [hrx]
  split at he
  · obtain ⟨s1,q1,q2,q3⟩:=h.callWith hP (.inr hL) (by intro s hs;exact ho s (by simpa using hs)) he
    exact ⟨s1,q1,q2,by simp [Qd9]⟩
  · obtain ⟨s1,q1,q2,q3⟩:=h.callWith hP (.inl rfl) (by intro s hs;exact ho s (by simpa using hs)) he
    exact ⟨s1,q1,q2,by simp [Qd9]⟩
 case callm f x k =>
  have hrx:=h.rd (o:=x) (fun s hs=>ho s (by simp [hs]))
  simp only [hrx]
  split at he
  rotate_left
  · obtain ⟨s1,q1,q2,q3⟩:=h.callWith hP (.inl rfl) (by intro s hs;exact ho s (by simpa using hs)) he
    exact ⟨s1,q1,q2,fun _=>q3 rfl⟩
  rename_i hlo
  unfold St.callM at he ⊢
  rw [h.rd (o:=k) (fun s hs=>ho s (by simp [hs]))]
  split at he
  rotate_left
  · cases he
  rw [h.rd (o:=x) (fun s hs=>ho s (by simp [hs]))]
  split at he
  rotate_left
  · cases he
  split at he
  rotate_left
  · cases he
  rename_i hp1
  simp only [(h.plc hp1).1]
  split at he
  rotate_left
  · cases he
  rename_i hc
  rw [if_pos hc]
  split at he
  rotate_left
  · cases he
  rename_i hcf
  try simp only [hcf]
  split at he
  rotate_left
  · cases he
  rename_i hun
  try simp only [hun]
  split at he
  rotate_left
  · cases he
  rename_i hs3
  rw [if_pos hs3]
  split at he
  rotate_left
  · cases he
  rename_i st2 h2
  obtain ⟨st2',q1,q2,q3⟩:=h.setPlc hp1 h2
  simp only [q1,Qoi,Qpi] at he ⊢
  obtain ⟨rfl,rfl⟩:=he
  exact ⟨_,⟨rfl,rfl⟩,q2.kill hP (.rooted _),by simp [Qd9]⟩
 case callv x args =>
  have hL:L=[]:=by rcases hk with hk | hk;simp [Qd9] at hk;exact hk
  rw [h.rd (o:=x) (fun s hs=>ho s (by simp [hs]))]
  split at he
  rotate_left
  · cases he
  obtain ⟨st1',q1,q2,-⟩:=h.callWith hP (.inr hL) (fun s hs=>ho s (by simp [hs])) he
  exact ⟨st1',q1,q2,by simp [Qd9]⟩
 case app e x y =>
  split at he
  rotate_left
  · cases he
  rename_i ys st2 h2
  obtain ⟨st2',q1,q2,q3⟩:=h.news hP (fun s hs=>ho s (by simp [hs])) h2
  simp only [q1]
  split at he
  rotate_left
  · cases he
  rename_i u st3 h3
  obtain ⟨st3',r1,r2,r3⟩:=q2.append hP (fun s hs=>ho s (by simp [hs])) h3
  simp only [r1,Qoi,Qpi] at he ⊢
  obtain ⟨rfl,rfl⟩:=he
  exact ⟨_,⟨rfl,rfl⟩,r2,fun _=>q3.trans r3⟩
 case halt=>cases he
end
end Go.Idl
namespace Go.Idl
open Go
def gU:Option (Nat×Bool)→List Nat
 | some (s,_)=>[s]
 | none=>[]
def IOp.use (x:IOp):List Nat:=gU x.g++x.k.useL
def Qir (d:Option Nat) (l:List Nat):Bool:=match d with
 | some d=>l.contains d
 | none=>false
def Qr1 (x y:IOp):Bool:=!Qir x.dst y.use && !Qir y.dst x.use && (match x.dst,y.dst with
 | some d,some e=>d != e
 | _,_=>true)
def Qov (iops:List IOp) (i j:Nat):Bool:=match iops[i]?,iops[j]? with
 | some x,some y=>Qr1 x y && ((Qdw x.k && Qci y.k) || (Qd9 x.k && Qzp y.k && y.g.isNone && y.dst.isSome))
 | _,_=>false
theorem Qll {cf:CF} {st st1:St} {k:K} {v:IV} (hk:Qci k=true) (he:ev cf st k=some (v,st1)):st1=st:=by
 by_cases hp:Qev k=true
 · rw [Ql0 hp,Option.map_eq_some_iff] at he
   obtain ⟨_,_,h2⟩:=he
   simp only [Qpi] at h2
   exact h2.2.symm
 · have key:∀ f args,(args.all fun a=>a.1 == Mode.val || a.1 == Mode.rv)=true→st.callWith cf f [] args true=some (v,st1)→st1=st:=by
    intro f args hk hc
    simp only [St.callWith] at hc
    split at hc
    rotate_left
    · cases hc
    rename_i vs st2 fz ss h1
    have hs:st2=st:=by
     unfold St.args at h1
     split at h1
     rotate_left
     · cases h1
     rename_i v1 st3 ss3 h3
     split at h1
     rotate_left
     · cases h1
     simp only [Qoi,Qpi] at h1
     obtain ⟨-,rfl,-,-⟩:=h1
     have key:∀ (l:List (Mode×Opd)) (st st2:St) vs ss,(l.all fun a=>a.1 == .val || a.1 == .rv)=true→st.args1 l=some (vs,st2,ss)→st2=st:=by
      intro l
      induction l with
      | nil=>intro st st2 vs ss _ h;simp only [St.args1,Qoi,Qpi] at h;exact h.2.1.symm
      | cons a l ih =>
        intro st st2 vs ss hl h
        obtain ⟨m,o⟩:=a
        simp only [List.all_cons,Qba,Bool.or_eq_true,beq_iff_eq] at hl
        have h1:st.arg1 m o=some (none,st):=by rcases hl.1 with rfl | rfl <;> rfl
        simp only [St.args1,h1] at h
        split at h
        rotate_left
        · cases h
        rename_i h2
        simp only [Qoi,Qpi] at h
        obtain ⟨-,rfl,-⟩:=h
        exact ih _ _ _ _ hl.2 h2
     exact key _ _ _ _ _ hk h3
    subst hs
    try simp only [if_true] at hc
    split at hc
    · cases hc
    split at hc
    rotate_left
    · cases hc
    split at hc
    · split at hc
      · simp only [Qoi,Qpi] at hc;exact hc.2.symm
      · cases hc
    · simp only [Qoi,Qpi] at hc;exact hc.2.symm
   cases k <;> simp only [Qci,Qev,Bool.false_eq_true,not_true_eq_false] at hk hp
   · rename_i f args p
     cases p with
     | false=>simp [Qci,Qev] at hk
     | true=>exact key f args (by simpa [Qci] using hk) he
   · rename_i f args
     exact key f args hk he
abbrev SEq (st st':St):Prop:=Sim (fun _=>False) (fun _=>True) [] st st'
theorem SEq.refl (st:St):SEq st st:=⟨fun _ _=>rfl,fun _ h=>h.elim,fun _ h=>h.elim,rfl,by simp⟩
theorem SEq.trans {a b c:St} (h:SEq a b) (h':SEq b c):SEq a c :=
 ⟨fun s hs=>(h'.T s hs).trans (h.T s hs),fun _ h=>h.elim,fun _ h=>h.elim,h'.M.trans h.M,by rw [h'.loc,h.loc,List.append_assoc,List.append_nil]⟩
theorem Qxi {st st':St} (h:SEq st st') (live:List Nat):st'.cut live=st.cut live:=by
 unfold St.cut restrict
 have e1:=h.M
 have e2:st'.loc=st.loc:=by rw [h.loc,List.append_nil]
 have e3:(live.map fun s=>(s,kl (rootOut live) (Qan st'.T s)))=live.map fun s=>(s,kl (rootOut live) (Qan st.T s)):=List.map_congr_left fun s _=>by rw [h.T s (fun h=>h)]
 cases st;cases st'
 simp only at e1 e2 e3 ⊢
 rw [e1,e2,e3]
section
variable {D:Nat→Prop} {P:IV→Prop} {L:Qae} {st st' st1:St} {cf:CF}
theorem noT:∀ q,Qai q→∀ x:IV,(fun _=>True) x→(fun _:IV=>True) (kl q x):=fun _ _ _ _=>trivial
theorem Qf3 (h:Sim D P L st st') (hP:∀ q,Qai q→∀ x,P x→P (kl q x)) {x:IOp} (hk:Qd9 x.k=true ∨ L=[]) (ho:NoU D x.use) (hd:∀ s,x.dst=some s→¬ D s) (he:Qar cf st x=some st1) :
 ∃ st1',Qar cf st' x=some st1'∧Sim D P L st1 st1'∧(Qd9 x.k=true→Shp st st1):=by
 have ho2:NoU D x.k.useL:=fun s hs=>ho s (by simp [IOp.use,hs])
 have shT:∀ {st:St} {T:Tm},Shp st { st with T:=T }:=fun {st T}=>⟨rfl,rfl⟩
 have run:∀ {st1:St},(match ev cf st x.k with
  | some (v,st')=>match x.dst with
    | some d=>some { st' with T:=tput st'.T d v }
    | none=>some st'
  | none=>none)=some st1→∃ st1',(match ev cf st' x.k with
  | some (v,st')=>match x.dst with
    | some d=>some { st' with T:=tput st'.T d v }
    | none=>some st'
  | none=>none)=some st1'∧Sim D P L st1 st1'∧(Qd9 x.k=true→Shp st st1):=by
  intro st1 hh
  split at hh
  rotate_left
  · cases hh
  rename_i v st2 h2
  obtain ⟨st2',q1,q2,q3⟩:=Js1 h hP hk ho2 h2
  simp only [q1]
  cases hx:x.dst with
  | none =>
    simp only [hx,Qoi] at hh ⊢
    subst hh
    exact ⟨_,rfl,q2,q3⟩
  | some d =>
    simp only [hx,Qoi] at hh ⊢
    subst hh
    exact ⟨_,rfl,q2.tput hP (hd d hx) v,fun hm=>(q3 hm).trans shT⟩
 have skip:∀ {st1:St},(match x.dst with
  | some d=>some { st with T:=tput st.T d (.tup []) }
  | none=>some st)=some st1→∃ st1',(match x.dst with
  | some d=>some { st' with T:=tput st'.T d (.tup []) }
  | none=>some st')=some st1'∧Sim D P L st1 st1'∧(Qd9 x.k=true→Shp st st1):=by
  intro st1 hh
  cases hx:x.dst with
  | none =>
    simp only [hx,Qoi] at hh ⊢
    subst hh
    exact ⟨_,rfl,h,fun _=>.refl _⟩
  | some d =>
    simp only [hx,Qoi] at hh ⊢
    subst hh
    exact ⟨_,rfl,h.tput hP (hd d hx) _,fun _=>shT⟩
 unfold Qar at he ⊢
 cases hg:x.g with
 | none=>simp only [hg] at he ⊢;exact run he
 | some p =>
   obtain ⟨s,b⟩:=p
   have hs:¬ D s:=ho s (by simp [IOp.use,hg,gU])
   simp only [hg,h.T s hs] at he ⊢
   split at he
   · split at he
     · rename_i hb;rw [if_pos hb];exact run he
     · rename_i hb;rw [if_neg hb];exact skip he
   · exact skip he
   · cases he
theorem Qp6:∀ {l:List IOp} {st st' st1:St},SEq st st'→Qag cf st l=some st1→∃ st1',Qag cf st' l=some st1'∧SEq st1 st1'
 | [],st,st',st1,h,he=>by
   simp only [Qag,Qoi] at he ⊢;subst he;exact ⟨_,rfl,h⟩
 | x::l,st,st',st1,h,he=>by
   simp only [Qag] at he ⊢
   split at he
   rotate_left
   · cases he
   rename_i st2 h2
   obtain ⟨st2',q1,q2,-⟩:=Qf3 h noT (.inr rfl) (fun _ _ h=>h) (fun _ _ h=>h) h2
   simp only [q1]
   exact Qp6 q2 he
theorem Jy2 {x:IOp} {d:Nat} (hd:x.dst ≠ some d) (hn:(Qan st.T d).holds=false) (hu:d ∉ x.use) (he:Qar cf st x=some st1):(Qan st1.T d).holds=false:=by
 have h:Sim (fun s=>s=d) (fun _=>True) [] st st:=⟨fun _ _=>rfl,fun _ _=>trivial,fun s hs=>by rw [hs];exact hn,rfl,by simp⟩
 obtain ⟨st1',-,q2,-⟩:=Qf3 h noT (.inr rfl) (x:=x) (fun s hs hh=>hu (hh ▸ hs)) (fun s hs hh=>hd (hh ▸ hs)) he
 exact q2.H d rfl
def Qeu (st:St) (d:Option Nat) (v:IV):St:=match d with
 | some d=>{ st with T:=tput st.T d v }
 | none=>st
theorem Qi3 {x:IOp} (hq:Qci x.k=true) (he:Qar cf st x=some st1):∃ v,st1=Qeu st x.dst v:=by
 have run:∀ {st1:St},(match ev cf st x.k with
  | some (v,st')=>match x.dst with
    | some d=>some { st' with T:=tput st'.T d v }
    | none=>some st'
  | none=>none)=some st1→∃ v,st1=Qeu st x.dst v:=by
  intro st1 hh
  split at hh
  rotate_left
  · cases hh
  rename_i v st2 h2
  have:=Qll hq h2
  subst this
  refine ⟨v,?_⟩
  unfold Qeu
  split at hh <;> simp_all
 have skip:∀ {st1:St},(match x.dst with
  | some d=>some { st with T:=tput st.T d (.tup []) }
  | none=>some st)=some st1→∃ v,st1=Qeu st x.dst v:=by
  intro st1 hh
  refine ⟨.tup [],?_⟩
  unfold Qeu
  split at hh <;> simp_all
 unfold Qar at he
 split at he
 · exact run he
 · split at he
   · split at he
     · exact run he
     · exact skip he
   · exact skip he
   · cases he
theorem Qaw {st:St} {d:Option Nat} {v:IV} (hn:∀ e,d=some e→(Qan st.T e).holds=false) (s:Nat):Qan (Qeu st d v).T s=if d=some s then v else Qan st.T s:=by
 cases d with
 | none=>simp [Qeu]
 | some e =>
   simp only [Qeu,tput,hn e rfl,Bool.false_eq_true,if_false,Qan]
   by_cases h:e=s
   · subst h;simp
   · simp [h]
theorem Qby {st:St} {d:Option Nat} {v:IV}:(Qeu st d v).M=st.M:=by cases d <;> rfl
theorem Qa2 {st:St} {d:Option Nat} {v:IV}:(Qeu st d v).loc=st.loc:=by cases d <;> rfl
theorem Qos {x y:IOp} (h:Qr1 x y=true):(∀ s,x.dst=some s→s ∉ y.use)∧(∀ s,y.dst=some s→s ∉ x.use)∧(∀ s,x.dst=some s→y.dst ≠ some s):=by
 unfold Qr1 at h
 simp only [Qba,Bool.not_eq_true'] at h
 obtain ⟨⟨h1,h2⟩,h3⟩:=h
 refine ⟨fun s hs=>?_,fun s hs=>?_,fun s hs hy=>?_⟩
 · rw [hs] at h1;simpa [Qir] using h1
 · rw [hs] at h2;simpa [Qir] using h2
 · rw [hs,hy] at h3;simp at h3
theorem Jgv {iops:List IOp} {i j:Nat} {x y:IOp} (hx:iops[i]? = some x) (hy:iops[j]? = some y) (hi:Qov iops i j=true) (hnx:swK x.k=true→∀ d,x.dst=some d→(Qan st.T d).holds=false) (hny:∀ d,y.dst=some d→(Qan st.T d).holds=false)
 {st2:St} (h1:Qar cf st x=some st1) (h2:Qar cf st1 y=some st2) (hox:Qdw x.k=true→∀ d,x.dst=some d→(Qan st1.T d).holds=false):∃ st1' st2',Qar cf st y=some st1'∧Qar cf st1' x=some st2'∧SEq st2 st2' ∧
  (∀ d,y.dst=some d→Qan st1'.T d=Qan st2.T d)∧(∀ d,x.dst=some d→Qan st2'.T d=Qan st1.T d):=by
 unfold Qov at hi
 simp only [hx,hy,Qba,Bool.or_eq_true] at hi
 obtain ⟨hap,hi⟩:=hi
 obtain ⟨a1,a2,a3⟩:=Qos hap
 rcases hi with ⟨hqx,hqy⟩ | ⟨⟨⟨hmx,hay⟩,hgy⟩,hdy⟩
 ·
  have hox:=hox hqx
  have hqx:Qci x.k=true:=by simp only [Qdw,Qba] at hqx;exact hqx.1
  have hnx:=hnx (by simp [swK,hqx])
  obtain ⟨vx,rfl⟩:=Qi3 hqx h1
  have hny1:∀ e,y.dst=some e→(Qan (Qeu st x.dst vx).T e).holds=false:=fun e he=>by
   rw [Qaw hnx,if_neg (fun h=>a3 e h he)];exact hny e he
  obtain ⟨vy,rfl⟩:=Qi3 hqy h2
  have sy:Sim (fun s=>x.dst=some s) (fun _=>True) [] (Qeu st x.dst vx) st:=by
   refine ⟨fun s hs=>?_,fun _ _=>trivial,fun s hs=>hox s hs,by rw [Qby],by rw [Qa2,List.append_nil]⟩
   rw [Qaw hnx,if_neg hs]
  obtain ⟨s1,q1,q2,-⟩:=Qf3 sy noT (.inr rfl) (x:=y) (fun s hs hh=>a1 s hh hs) (fun s hs hh=>a3 s hh hs) h2
  obtain ⟨vy',rfl⟩:=Qi3 hqy q1
  have hvy:∀ e,y.dst=some e→vy'=vy:=fun e he=>by
   have:=q2.T e (fun hh=>a3 e hh he)
   rw [Qaw hny,Qaw hny1,if_pos he,if_pos he] at this
   exact this
  have hpy:Qeu st y.dst vy'=Qeu st y.dst vy:=by
   cases hd:y.dst with
   | none=>rfl
   | some e=>rw [hvy e hd]
  rw [hpy] at q1 q2
  have sx:Sim (fun s=>y.dst=some s) (fun _=>True) [] st (Qeu st y.dst vy):=by
   refine ⟨fun s hs=>?_,fun _ _=>trivial,fun s hs=>hny s hs,by rw [Qby],by rw [Qa2,List.append_nil]⟩
   rw [Qaw hny,if_neg hs]
  obtain ⟨s2,r1,r2,-⟩:=Qf3 sx noT (.inr rfl) (x:=x) (fun s hs hh=>a2 s hh hs) (fun s hs hh=>a3 s hs hh) h1
  obtain ⟨vx',rfl⟩:=Qi3 hqx r1
  have hnx1:∀ e,x.dst=some e→(Qan (Qeu st y.dst vy).T e).holds=false:=fun e he=>by
   rw [Qaw hny,if_neg (fun h=>a3 e he h)];exact hnx e he
  refine ⟨_,_,q1,r1,⟨fun s _=>?_,fun _ h=>h.elim,fun _ h=>h.elim,by rw [Qby,Qby,Qby,Qby],by rw [Qa2,Qa2,Qa2,Qa2,List.append_nil]⟩,fun d hd=>?_,fun d hd=>?_⟩
  · by_cases hs:y.dst=some s
    · rw [Qaw hny1,if_pos hs,Qaw hnx1,if_neg (fun h=>a3 s h hs),Qaw hny,if_pos hs]
    · rw [r2.T s hs,Qaw hny1,if_neg hs]
  · rw [Qaw hny,Qaw hny1,if_pos hd,if_pos hd]
  · exact r2.T d (fun hh=>a3 d hd hh)
 ·
  obtain ⟨e,he⟩:=Option.isSome_iff_exists.1 hdy
  have hqy:∃ z,y.k=.alloc z:=by cases hk:y.k <;> simp [Qzp,hk] at hay;exact ⟨_,rfl⟩
  obtain ⟨z,hz⟩:=hqy
  have hgn:y.g=none:=by simpa using hgy
  have hne:=hny e he
  have ex:∀ s:St,(Qan s.T e).holds=false→Qar cf s y=some { s with T:=(e,.bptr s.M.length s.loc.length 0)::s.T,loc:=s.loc++[z.map cv1] }:=by
   intro s hs
   simp only [Qar,hgn,hz,ev,he,tput,hs,Bool.false_eq_true,if_false]
  have hP:∀ q,Qai q→∀ x:IV,(x=.bptr st.M.length st.loc.length 0)→kl q x=.bptr st.M.length st.loc.length 0:=by
   rintro q hq x rfl
   simp only [kl,kl1,klc]
   split
   · rename_i hh
     have:=hq _ hh
     simp [IV.isR] at this
   · rfl
  have s0:Sim (fun s=>s=e) (fun x=>x=.bptr st.M.length st.loc.length 0) [z.map cv1] st { st with T:=(e,.bptr st.M.length st.loc.length 0)::st.T,loc:=st.loc++[z.map cv1] }:=by
   refine ⟨fun s hs=>?_,fun s hs=>?_,fun s hs=>by rw [hs];exact hne,rfl,rfl⟩
   · simp only [Qan];rw [if_neg (fun h=>hs h.symm)]
   · simp only [Qan];rw [if_pos hs.symm]
  obtain ⟨s2,q1,q2,q3⟩:=Qf3 s0 hP (.inl hmx) (x:=x) (fun s hs hh=>a2 s (by rw [hh];exact he) hs) (fun s hs hh=>a3 s hs (by rw [hh];exact he)) h1
  have q3:=q3 hmx
  rw [ex st1 (q2.H e rfl)] at h2
  simp only [Qoi] at h2
  subst h2
  refine ⟨_,s2,ex st hne,q1,⟨fun s _=>?_,fun _ h=>h.elim,fun _ h=>h.elim,q2.M,by rw [q2.loc,List.append_nil]⟩,fun d hd=>?_,fun d hd=>?_⟩
  · simp only [Qan]
    split
    · rename_i hs
      rw [q2.Q s hs.symm,q3.1,q3.2]
    · rename_i hs
      exact q2.T s (fun h=>hs h.symm)
  · rw [he] at hd;cases hd
    simp only [Qan,if_true,q3.1,q3.2]
  · exact q2.T d (fun hh=>a3 d hd (by rw [hh];exact he))
theorem Qoq:∀ {l:List IOp} {st st':St},SEq st st'→Qf1 cf st l→(∃ s,Qag cf st l=some s)→Qf1 cf st' l
 | [],_,_,_,_,_=>trivial
 | x::l,st,st',h,hk,⟨s,hs⟩=>by
   intro st1' h1'
   simp only [Qag] at hs
   split at hs
   rotate_left
   · cases hs
   rename_i st1 h1
   obtain ⟨s1,q1,q2,-⟩:=Qf3 h noT (.inr rfl) (x:=x) (fun _ _ h=>h) (fun _ _ h=>h) h1
   rw [q1] at h1'
   cases h1'
   obtain ⟨k1,k2⟩:=hk st1 h1
   exact ⟨fun hq d hd=>by rw [q2.T d (fun h=>h)];exact k1 hq d hd,Qoq q2 k2 ⟨s,hs⟩⟩
def NHl (iops:List IOp) (st:St) (l:List Nat):Prop:=∀ i ∈ l,∀ x,iops[i]? = some x→swK x.k=true→∀ d,x.dst=some d→(Qan st.T d).holds=false
def fwd (iops:List IOp):List Nat→Prop
 | []=>True
 | i::l=>(∀ j ∈ l,∀ x y,iops[i]? = some x→iops[j]? = some y→swK y.k=true→∀ d,y.dst=some d→d ∉ x.use∧x.dst ≠ some d)∧fwd iops l
def Qh9 (cf:CF) (iops:List IOp) (st:St) (l:List Nat):Option St:=Qag cf st (Qaf iops l)
theorem Qc0 {iops:List IOp} {i:Nat} {l:List Nat} {x:IOp} (hx:iops[i]? = some x):Qh9 cf iops st (i::l)=match Qar cf st x with
 | some st=>Qh9 cf iops st l
 | none=>none:=by
 simp only [Qh9,Qaf,List.filterMap_cons,hx,Qag]
 cases Qar cf st x <;> rfl
theorem Qlq {iops:List IOp} {i:Nat} {l:List Nat} {x:IOp} (hx:iops[i]? = some x):Qf1 cf st (Qaf iops (i::l))=Qf1 cf st (x::Qaf iops l):=by
 simp only [Qaf,List.filterMap_cons,hx]
theorem Qop {iops:List IOp} {i:Nat} {l:List Nat} {x:IOp} {s:St} (hx:iops[i]? = some x) (h:Qh9 cf iops st (i::l)=some s):∃ st1,Qar cf st x=some st1∧Qh9 cf iops st1 l=some s:=by
 rw [Qc0 hx] at h
 split at h
 · exact ⟨_,‹_›,h⟩
 · cases h
theorem Jfc {iops:List IOp} {i:Nat} {l:List Nat} {x:IOp} (hx:iops[i]? = some x) (hf:fwd iops (i::l)) (hn:NHl iops st (i::l)) (h:Qar cf st x=some st1):NHl iops st1 l:=by
 intro j hj y hy hsw d hd
 obtain ⟨h1,h2⟩:=hf.1 j hj x y hx hy hsw d hd
 exact Jy2 h2 (hn j (by simp [hj]) y hy hsw d hd) h1 h
structure Jj2 (cf:CF) (iops:List IOp) (st:St) (l:List Nat) (s:St):Prop where
 lt:∀ i ∈ l,i < iops.length
 nh:NHl iops st l
 fw:fwd iops l
 ok:Qf1 cf st (Qaf iops l)
 run:Qh9 cf iops st l=some s
theorem Jj2.step {iops:List IOp} {i:Nat} {l:List Nat} {s:St} (h:Jj2 cf iops st (i::l) s):∃ x st1,iops[i]? = some x∧Qar cf st x=some st1∧Jj2 cf iops st1 l s∧(Qdw x.k=true→∀ d,x.dst=some d→(Qan st1.T d).holds=false):=by
 have hi:=h.lt i (by simp)
 have hx:iops[i]? = some iops[i]:=List.getElem?_eq_getElem hi
 obtain ⟨st1,q1,q2⟩:=Qop hx h.run
 have hok:=h.ok
 rw [Qlq hx] at hok
 obtain ⟨k1,k2⟩:=hok st1 q1
 exact ⟨_,st1,hx,q1,⟨fun j hj=>h.lt j (by simp [hj]),Jfc hx h.fw h.nh q1,h.fw.2,k2,q2⟩,k1⟩
theorem Qlf {iops:List IOp} {i:Nat} {l2:List Nat}:∀ {l1:List Nat} {st s:St},(∀ y ∈ l1,Qov iops y i=true)→fwd iops (i::(l1++l2))→Jj2 cf iops st (l1++i::l2) s→∃ s',Jj2 cf iops st (i::(l1++l2)) s'∧SEq s s'
 | [],st,s,_,_,h=>⟨s,h,.refl _⟩
 | y::l1,st,s,hall,hfw,h=>by
   obtain ⟨xy,st1,hy,h1,hF,hqy⟩:=h.step
   have hfw1:fwd iops (i::(l1++l2)):=⟨fun j hj=>hfw.1 j (by simp at hj ⊢;rcases hj with hj | hj <;> simp [hj]),hfw.2.2⟩
   obtain ⟨s1,hF1,e1⟩:=Qlf (fun z hz=>hall z (by simp [hz])) hfw1 hF
   obtain ⟨xi,st2,hi,h2,hF2,hqi⟩:=hF1.step
   have hind:=hall y (by simp)
   have hni:∀ d,xi.dst=some d→swK xi.k=true→(Qan st.T d).holds=false:=fun d hd hsw=>h.nh i (by simp) xi hi hsw d hd
   have hsi:swK xi.k=true:=by
    unfold Qov at hind
    simp only [hy,hi,Qba,Bool.or_eq_true] at hind
    rcases hind.2 with ⟨-,h⟩ | ⟨⟨⟨-,h⟩,-⟩,-⟩ <;> simp [swK,h]
   obtain ⟨t1,t2,q1,q2,q3,q4,q5⟩:=Jgv hy hi hind (fun hsw d hd=>h.nh y (by simp) xy hy hsw d hd) (fun d hd=>hni d hd hsi) h1 h2 hqy
   obtain ⟨s2,r1,r2⟩:=Qp6 q3 (show Qag cf st2 (Qaf iops (l1++l2))=some s1 from hF2.run)
   refine ⟨s2,⟨fun j hj=>h.lt j (by simp at hj ⊢;rcases hj with hj | hj | hj | hj <;> simp [hj]),fun j hj=>h.nh j (by simp at hj ⊢;rcases hj with hj | hj | hj | hj <;> simp [hj]),hfw,?_,?_⟩,e1.trans r2⟩
   · rw [Qlq hi]
     intro a ha
     rw [q1] at ha
     cases ha
     refine ⟨fun hq d hd=>by rw [q4 d hd];exact hqi hq d hd,?_⟩
     show Qf1 cf t1 (Qaf iops (y::(l1++l2)))
     rw [Qlq hy]
     intro b hb
     rw [q2] at hb
     cases hb
     exact ⟨fun hq d hd=>by rw [q5 d hd];exact hqy hq d hd,Qoq q3 hF2.ok ⟨_,hF2.run⟩⟩
   · rw [Qc0 hi,q1]
     show Qh9 cf iops t1 (y::(l1++l2))=_
     rw [Qc0 hy,q2]
     exact r1
theorem Qoe {iops:List IOp}:∀ {σ τ:List Nat} {st s:St},σ.Perm τ→τ.Nodup→fwd iops σ→(∀ i j,Qov iops i j=false→[i,j].Sublist τ→[i,j].Sublist σ)→Jj2 cf iops st τ s→∃ s',Qh9 cf iops st σ=some s'∧SEq s s'
 | [],τ,st,s,hp,_,_,_,h=>by
   have:τ=[]:=hp.symm.eq_nil
   subst this;exact ⟨s,h.run,.refl _⟩
 | x::σ,τ,st,s,hp,hn,hfw,hd,h=>by
   have hx:x ∈ τ:=hp.subset (by simp)
   obtain ⟨l1,l2,rfl⟩:=List.append_of_mem hx
   have hσn:(x::σ).Nodup:=hp.nodup_iff.2 hn
   have hxσ:x ∉ σ:=(List.nodup_cons.1 hσn).1
   have hp':σ.Perm (l1++l2):=(hp.trans List.perm_middle).cons_inv
   have hsub:(l1++l2).Sublist (l1++x::l2):=List.Sublist.append (List.Sublist.refl _) (List.sublist_cons_self _ _)
   have hn':(l1++l2).Nodup:=List.Sublist.nodup hsub hn
   have hind:∀ y ∈ l1,Qov iops y x=true:=by
    intro y hy
    cases hi:Qov iops y x with
    | true=>rfl
    | false =>
      exfalso
      have hs:[y,x].Sublist (l1++x::l2):=by
       have h1:[y].Sublist l1:=List.singleton_sublist.2 hy
       have h2:[x].Sublist (x::l2):=List.singleton_sublist.2 (by simp)
       exact h1.append h2
      have:=hd y x hi hs
      cases this with
      | cons _ hh=>exact hxσ (hh.subset (by simp))
      | cons_cons _ hh=>exact hxσ (hh.subset (by simp))
   have hfw2:fwd iops (x::(l1++l2)):=by
    have key:∀ (l:List Nat),fwd iops l ↔ l.Pairwise fun i j=>∀ x y,iops[i]? = some x→iops[j]? = some y→swK y.k=true→∀ d,y.dst=some d→d ∉ x.use∧x.dst ≠ some d:=by
     intro l
     induction l with
     | nil=>simp [fwd]
     | cons a l ih=>rw [List.pairwise_cons,← ih];rfl
    refine ⟨fun j hj=>hfw.1 j (hp'.symm.subset hj),?_⟩
    have h1:=(key _).1 h.fw
    exact (key _).2 (h1.sublist hsub)
   obtain ⟨s1,hF,e1⟩:=Qlf hind hfw2 h
   obtain ⟨xi,st1,hi,h1,hF1,-⟩:=hF.step
   obtain ⟨s2,q1,q2⟩:=Qoe hp' hn' hfw.2 (fun i j hi hs=>by
    have:=hd i j hi (hs.trans hsub)
    cases this with
    | cons _ hh=>exact hh
    | cons_cons _ hh =>
      exfalso
      have:x ∈ l1++l2:=hs.subset (by simp)
      exact hxσ (hp'.symm.subset this)) hF1
   refine ⟨s2,?_,e1.trans q2⟩
   rw [Qc0 hi,h1];exact q1
end
end Go.Idl
namespace Go.Idl
open Go
def Jx8 (iops:List IOp):List Nat→Bool
 | []=>true
 | i::l=>(l.all fun j=>match iops[i]?,iops[j]? with
    | some x,some y=>!swK y.k || !(Qir y.dst x.use || (match x.dst,y.dst with
      | some d,some e=>d == e
      | _,_=>false))
    | _,_=>true) && Jx8 iops l
theorem Qv8 {iops:List IOp}:∀ {l:List Nat},Jx8 iops l=true→fwd iops l
 | [],_=>trivial
 | i::l,h=>by
   simp only [Jx8,Qba,List.all_eq_true] at h
   refine ⟨fun j hj x y hx hy hsw d hd=>?_,Qv8 h.2⟩
   have:=h.1 j hj
   simp only [hx,hy,hsw,hd,Bool.not_true,Bool.false_or,Bool.not_eq_true',Bool.or_eq_false_iff,Qir] at this
   refine ⟨fun hm=>?_,fun hxd=>?_⟩
   · rw [List.contains_eq_mem,decide_eq_false_iff_not] at this;exact this.1 hm
   · rw [hxd] at this;simp at this
def Qpj (iops:List IOp) (cs:List (List Nat)) (i j:Nat):Bool:=(Qov iops i j && (Qov iops j i || cs.all fun τ=>bef τ i j)) || (Qov iops j i && cs.all fun τ=>bef τ j i)
def Jkh (iops:List IOp) (cs:List (List Nat)) (n:Nat):List (Nat×Nat) :=
 (List.range n).flatMap fun j=>(List.range j).filterMap fun i=>if Qpj iops cs i j then none else some (i,j)
theorem Qo5 {iops:List IOp} {cs:List (List Nat)} {n i j:Nat}:(i,j) ∈ Jkh iops cs n ↔ i < j∧j < n∧Qpj iops cs i j=false:=by
 unfold Jkh
 rw [List.mem_flatMap]
 constructor
 · rintro ⟨j',hj',hm⟩
   rw [List.mem_filterMap] at hm
   obtain ⟨i',hi',he⟩:=hm
   split at he
   · cases he
   · rename_i hf
     simp only [Qoi,Qpi] at he
     obtain ⟨rfl,rfl⟩:=he
     exact ⟨List.mem_range.1 hi',List.mem_range.1 hj',by simpa using hf⟩
 · rintro ⟨h1,h2,h3⟩
   exact ⟨j,List.mem_range.2 h2,List.mem_filterMap.2 ⟨i,List.mem_range.2 h1,by simp [h3]⟩⟩
def fwdC (c:List Nat) (iops:List IOp) (n:Nat):Bool:=(List.range n).all fun i=>(List.range n).all fun j=>i == j || (match iops[i]?,iops[j]? with
 | some x,some y=>!swK y.k || !(Qir y.dst x.use || (match x.dst,y.dst with
    | some d,some e=>d == e
    | _,_=>false)) || (c.getD i 0).testBit j
 | _,_=>true)
def Jk2 (iops:List IOp) (c:List Nat):List (Nat×Nat)→List (Nat×Nat)→List (List Nat)→Bool
 | [],_,cs=>!cs.isEmpty
 | (i,j)::r,E,cs=>(forced c E j i || Jk2 iops c r ((i,j)::E) (cs.filter fun τ=>bef τ i j || Qov iops j i)) && (forced c E i j || Jk2 iops c r ((j,i)::E) (cs.filter fun τ=>bef τ j i || Qov iops i j))
theorem Qjl {iops:List IOp} {σ:List Nat} (hn:σ.Nodup) {c:List Nat} (hc:∀ k i,(c.getD k 0).testBit i=true→[i,k].Sublist σ):∀ {A E:List (Nat×Nat)} {cs:List (List Nat)},(∀ i j,(i,j) ∈ A→i ∈ σ∧j ∈ σ∧i ≠ j) →
 (∀ i j,(i,j) ∈ E→[i,j].Sublist σ)→Jk2 iops c A E cs=true →
 ∃ τ ∈ cs,∀ i j,(i,j) ∈ A→(([i,j].Sublist σ∧([i,j].Sublist τ ∨ Qov iops j i=true)) ∨ ([j,i].Sublist σ∧([j,i].Sublist τ ∨ Qov iops i j=true)))
 | [],E,cs,_,_,h=>by
   cases cs with
   | nil=>simp [Jk2] at h
   | cons τ cs=>exact ⟨τ,by simp,by simp⟩
 | (i,j)::A,E,cs,hA,hE,h=>by
   simp only [Jk2,Qba,Bool.or_eq_true] at h
   obtain ⟨h1,h2,h3⟩:=hA i j (by simp)
   have hA':∀ i j,(i,j) ∈ A→i ∈ σ∧j ∈ σ∧i ≠ j:=fun i j hm=>hA i j (by simp [hm])
   rcases Qh2 h1 h2 h3 with hs | hs
   · have hcv:=h.1.resolve_left (fun hf=>Qa0 hn hs (Qcy hn hc hE hf))
     obtain ⟨τ,hτ,ht⟩:=Qjl hn hc hA' (fun a b hm=>by
      rcases List.mem_cons.1 hm with he | hm
      · cases he;exact hs
      · exact hE a b hm) hcv
     rw [List.mem_filter,Bool.or_eq_true] at hτ
     refine ⟨τ,hτ.1,fun a b hm=>?_⟩
     rcases List.mem_cons.1 hm with he | hm
     · cases he;exact .inl ⟨hs,hτ.2.imp Qcd id⟩
     · exact ht a b hm
   · have hcv:=h.2.resolve_left (fun hf=>Qa0 hn hs (Qcy hn hc hE hf))
     obtain ⟨τ,hτ,ht⟩:=Qjl hn hc hA' (fun a b hm=>by
      rcases List.mem_cons.1 hm with he | hm
      · cases he;exact hs
      · exact hE a b hm) hcv
     rw [List.mem_filter,Bool.or_eq_true] at hτ
     refine ⟨τ,hτ.1,fun a b hm=>?_⟩
     rcases List.mem_cons.1 hm with he | hm
     · cases he;exact .inr ⟨hs,hτ.2.imp Qcd id⟩
     · exact ht a b hm
def Ja4 (ops:Array Oper) (iops:List IOp) (ord:List Nat) (alts:List (List Nat)):Bool :=
 let c:=clo .any ops.toList []
 let cs:=ord::alts
 let D:=Jkh iops cs ops.size
 let A:=D.filter fun p=>!(c.getD p.2 0).testBit p.1
 Qke .any ops && (cs.all fun τ=>Qzt τ ops.size) && (cs.all fun τ=>D.all fun p=>!(c.getD p.2 0).testBit p.1 || bef τ p.1 p.2) && Jk2 iops c A [] cs && (cs.all fun τ=>Jx8 iops τ) && fwdC c iops ops.size
theorem Qs5 {ops:Array Oper} {iops:List IOp} {ord:List Nat} {alts:List (List Nat)} (h:Ja4 ops iops ord alts=true) {σ:List Nat} (hL:Lin .any ops σ) :
 ∃ τ ∈ ord::alts,σ.Perm τ∧τ.Nodup∧fwd iops τ∧fwd iops σ∧∀ i j,Qov iops i j=false→[i,j].Sublist τ→[i,j].Sublist σ:=by
 unfold Ja4 at h
 simp only [Qba] at h
 obtain ⟨⟨⟨⟨⟨hb,hperm⟩,hclo⟩,hcov⟩,hfw⟩,hfc⟩:=h
 have hc:=Qjb hL ops.toList [] (fun k o hk=>by simpa using hk) (fun k i hi=>by simp at hi)
 obtain ⟨τ,hτ,ht⟩:=Qjl hL.nodup hc (fun i j hm=>by
  rw [List.mem_filter] at hm
  obtain ⟨h1,h2,h3⟩:=Qo5.1 hm.1
  exact ⟨(hL.mem i).2 (by omega),(hL.mem j).2 h2,by omega⟩) (by simp) hcov
 have hpτ:τ.Perm (List.range ops.size):=by
  rw [List.all_eq_true] at hperm
  exact Qft (hperm τ hτ)
 have hpσ:σ.Perm (List.range ops.size):=by
  rw [List.perm_ext_iff_of_nodup hL.nodup List.nodup_range]
  intro i;rw [hL.mem,List.mem_range]
 have hnτ:τ.Nodup:=hpτ.nodup_iff.2 List.nodup_range
 have hfwσ:fwd iops σ:=by
  have key:∀ (l:List Nat),fwd iops l ↔ l.Pairwise fun i j=>∀ x y,iops[i]? = some x→iops[j]? = some y→swK y.k=true→∀ d,y.dst=some d→d ∉ x.use∧x.dst ≠ some d:=by
   intro l
   induction l with
   | nil=>simp [fwd]
   | cons a l ih=>rw [List.pairwise_cons,← ih];rfl
  rw [key,List.pairwise_iff_forall_sublist]
  intro i j hs x y hx hy hsw d hd
  have hil:i < ops.size:=(hL.mem i).1 (hs.subset (by simp))
  have hjl:j < ops.size:=(hL.mem j).1 (hs.subset (by simp))
  have hne:=Qhk hL.nodup hs
  unfold fwdC at hfc
  rw [List.all_eq_true] at hfc
  have h1:=hfc i (List.mem_range.2 hil)
  rw [List.all_eq_true] at h1
  have h2:=h1 j (List.mem_range.2 hjl)
  simp only [hx,hy,hsw,hd,Bool.not_true,Bool.false_or,Bool.or_eq_true,beq_iff_eq,Qir,Bool.not_eq_true',Bool.or_eq_false_iff] at h2
  rcases h2 with h2 | h2 | h2
  · exact absurd h2 hne
  · refine ⟨fun hm=>?_,fun hxd=>?_⟩
    · rw [List.contains_eq_mem,decide_eq_false_iff_not] at h2;exact h2.1 hm
    · rw [hxd] at h2;simp at h2
  · exact (Qa0 hL.nodup hs (hc _ _ h2)).elim
 rw [List.all_eq_true] at hfw
 refine ⟨τ,hτ,hpσ.trans hpτ.symm,hnτ,Qv8 (hfw τ hτ),hfwσ,?_⟩
 have main:∀ i j,i < j→Qpj iops (ord::alts) i j=false→j < ops.size→(([i,j].Sublist σ∧([i,j].Sublist τ ∨ Qov iops j i=true)) ∨ ([j,i].Sublist σ∧([j,i].Sublist τ ∨ Qov iops i j=true))):=by
  intro i j hij hi hj
  have hD:=Qo5.2 ⟨hij,hj,hi⟩
  cases hbit:((clo .any ops.toList []).getD j 0).testBit i with
  | true =>
    have h1:=hc j i hbit
    rw [List.all_eq_true] at hclo
    have h2:=hclo τ hτ
    rw [List.all_eq_true] at h2
    have h3:=h2 (i,j) hD
    simp only [hbit,Bool.not_true,Bool.false_or] at h3
    exact .inl ⟨h1,.inl (Qcd h3)⟩
  | false=>exact ht i j (List.mem_filter.2 ⟨hD,by simp only [hbit,Bool.not_false]⟩)
 intro i j hi hs
 have hne:=Qhk hnτ hs
 have hil:i < ops.size:=List.mem_range.1 (hpτ.subset (hs.subset (by simp)))
 have hjl:j < ops.size:=List.mem_range.1 (hpτ.subset (hs.subset (by simp)))
 have allB:∀ i j,((ord::alts).all fun τ=>bef τ i j)=true→[i,j].Sublist τ:=fun i j h=>Qcd (List.all_eq_true.1 h τ hτ)
 rcases Nat.lt_or_gt_of_ne hne with hlt | hlt
 · cases hf:Qpj iops (ord::alts) i j with
   | true =>
     simp only [Qpj,hi,Bool.false_and,Bool.false_or,Qba] at hf
     exact (Qa0 hnτ hs (allB _ _ hf.2)).elim
   | false =>
     rcases main i j hlt hf hjl with ⟨h1,h2⟩ | ⟨h1,h2 | h2⟩
     · exact h1
     · exact (Qa0 hnτ hs h2).elim
     · rw [hi] at h2;cases h2
 · cases hf:Qpj iops (ord::alts) j i with
   | true =>
     simp only [Qpj,hi,Bool.false_and,Bool.or_false,Bool.false_or,Qba] at hf
     exact (Qa0 hnτ hs (allB _ _ hf.2)).elim
   | false =>
     rcases main j i hlt hf hil with ⟨h1,h2 | h2⟩ | ⟨h1,h2⟩
     · exact (Qa0 hnτ hs h2).elim
     · rw [hi] at h2;cases h2
     · exact h1
end Go.Idl
namespace Go.Idl
open Go
def Qjn (D:Nat→Prop):IV→Prop
 | .arr (.S s) _ _ _ _ _ _ | .eptr (.S s) _ _ _ _=>¬ D s
 | _=>True
def nrD (D:Nat→Prop):IV→Prop
 | .agg cs=>∀ x ∈ cs,Qjn D x
 | x=>Qjn D x
structure Qe2 (D:Nat→Prop) (st st':St):Prop where
 T:∀ s,¬ D s→Qan st'.T s=Qan st.T s
 N:∀ s,¬ D s→nrD D (Qan st.T s)
 M:st'.M=st.M
 loc:st'.loc=st.loc
section
variable {D:Nat→Prop} {st st' st1 st2:St} {cf:CF}
theorem Qxc (v:Value):Qjn D (cv1 v):=by
 unfold cv1;split <;> trivial
theorem Qil {s:Nat} (hs:¬ D s) {mk:Nat→Nat×Qf7}:∀ {cs:List IV} {i:Nat},(∀ x ∈ cs,Qjn D x)→∀ x ∈ Qdh (.S s) mk i cs,Qjn D x
 | [],_,_,x,hx=>by cases hx
 | c::cs,i,h,x,hx=>by
   have ih:=Qil hs (mk:=mk) (cs:=cs) (i:=i+1) fun y hy=>h y (by simp [hy])
   have hc:=h c (by simp)
   cases c <;> simp only [Qdh,List.mem_cons] at hx <;> rcases hx with rfl | hx <;> first | exact ih x hx | exact hc | exact hs
theorem Qe2.rd (h:Qe2 D st st') {o:Opd} (ho:NoU D (Qcn o)):rd st'.T o=rd st.T o:=by
 cases o with
 | t s=>simp only [Idl.rd];rw [h.T s (ho s (by simp [Qcn]))]
 | c v=>rfl
 | f l=>rfl
theorem Qe2.rdN (h:Qe2 D st st') {o:Opd} (ho:NoU D (Qcn o)):nrD D (Idl.rd st.T o):=by
 cases o with
 | c v =>
   have one:∀ u,nrD D (cv1 u):=fun u=>by unfold cv1;split <;> trivial
   cases v with
   | agg cs=>intro x hx;obtain ⟨u,_,rfl⟩:=List.mem_map.1 hx;exact Qxc u
   | _=>simp only [Idl.rd,cv];exact one _
 | f l=>trivial
 | t s =>
   have hs:=ho s (by simp [Qcn])
   have hn:=h.N s hs
   simp only [Idl.rd]
   cases hx:Qan st.T s with
   | own e es=>exact hs
   | agg cs=>rw [hx] at hn;exact Qil hs hn
   | tup vs=>cases vs <;> trivial
   | _=>rw [hx] at hn;exact hn
theorem Qe2.box (h:Qe2 D st st') (l k:Nat):st'.box l k=st.box l k:=by
 unfold St.box;rw [h.M,h.loc]
theorem Qe2.plc (h:Qe2 D st st') {r:Rt} {c:Nat} {p:Qf7} (hr:∀ s,r=.S s→¬ D s):st'.plc r c p=st.plc r c p:=by
 have:st'.rcells r=st.rcells r:=by
  cases r with
  | S s=>simp only [St.rcells];rw [h.T s (hr s rfl)]
  | B l k=>exact h.box l k
 unfold St.plc;rw [this]
theorem Qe2.sview (h:Qe2 D st st') {x:IV} (hx:Qjn D x):st'.sview x=st.sview x:=by
 cases x with
 | arr r c p e off n cl =>
   simp only [St.sview]
   rw [h.plc (r:=r) fun s hs=>by subst hs;exact hx]
 | _=>rfl
theorem Qe2.loadCells (h:Qe2 D st st') {x:IV} {sz:Nat} (hx:Qjn D x):st'.loadCells sz x=st.loadCells sz x:=by
 cases x with
 | bptr l k c=>simp only [St.loadCells,h.box]
 | eptr r c p i j =>
   simp only [St.loadCells]
   rw [h.plc (r:=r) fun s hs=>by subst hs;exact hx]
 | _=>rfl
theorem Qe2.bound (h:Qe2 D st st') {d:Nat} {o:Option Opd} (ho:NoU D (Jbi o)):Idl.bound d st'.T o=Idl.bound d st.T o:=by
 cases o with
 | none=>rfl
 | some o=>simp only [Idl.bound];rw [h.rd (o:=o) ho]
theorem Qq9 {x:IV} (h:nrD D x) (hx:∀ cs,x ≠ .agg cs):Qjn D x:=by
 cases x <;> first | exact h | exact absurd rfl (hx _)
theorem Qe2.evq (h:Qe2 D st st') {k:K} (ho:NoU D k.useL):Idl.evq st' k=Idl.evq st k:=by
 have sub:∀ {x:Opd} {l:List Nat},(∀ s ∈ Qcn x,s ∈ l)→NoU D l→Idl.rd st'.T x=Idl.rd st.T x:=fun hs hl=>h.rd fun s hh=>hl s (hs s hh)
 cases k <;> simp only [K.useL] at ho <;> simp only [Idl.evq]
 case mv x=>rw [h.rd ho]
 case pick c a b =>
  rw [sub (x:=c) (by intro s hs;simp [hs]) ho]
  split
  · rename_i t _
    rw [h.rd (o:=if t=true then a else b) (by intro s hs;refine ho s ?_;cases t <;> simp_all)]
  · rfl
 case load ag sz a =>
  rw [h.rd ho]
  have hn:=h.rdN ho
  generalize Idl.rd st.T a=y at *
  cases y with
  | agg cs=>rfl
  | _=>rw [h.loadCells (Qq9 hn (fun _ hh=>by cases hh))]
 case bsls e z n ps=>rw [Qfc (T:=st.T) fun p hp=>h.rd fun s hs=>ho s (List.mem_flatMap.2 ⟨p,hp,hs⟩)]
 case nilck x=>rw [h.rd ho]
 case bin op x y=>rw [sub (x:=x) (by intro s hs;simp [hs]) ho,sub (x:=y) (by intro s hs;simp [hs]) ho]
 case eqa n q x y=>rw [sub (x:=x) (by intro s hs;simp [hs]) ho,sub (x:=y) (by intro s hs;simp [hs]) ho]
 case eqb n x y=>rw [sub (x:=x) (by intro s hs;simp [hs]) ho,sub (x:=y) (by intro s hs;simp [hs]) ho]
 case unop op x=>rw [h.rd ho]
 case conv q x=>rw [h.rd ho]
 case mkfn f caps =>
  have:caps.map (Idl.rd st'.T)=caps.map (Idl.rd st.T):=List.map_congr_left fun o hm=>h.rd fun s hs=>ho s (List.mem_flatMap.2 ⟨o,hm,hs⟩)
  rw [this]
 case mksl e z x y=>rw [sub (x:=x) (by intro s hs;simp [hs]) ho,sub (x:=y) (by intro s hs;simp [hs]) ho]
 case slc e x lo hi mx =>
  rw [sub (x:=x) (by intro s hs;simp [hs]) ho]
  simp only [h.bound (o:=lo) (fun s hs=>ho s (by simp [hs])),h.bound (o:=hi) (fun s hs=>ho s (by simp [hs]))]
  cases mx with
  | none=>rfl
  | some m=>simp only;rw [sub (x:=m) (by intro s hs;simp [Jbi,hs]) ho]
 case slcs x lo hi =>
  rw [sub (x:=x) (by intro s hs;simp [hs]) ho]
  simp only [h.bound (o:=lo) (fun s hs=>ho s (by simp [hs])),h.bound (o:=hi) (fun s hs=>ho s (by simp [hs]))]
 case fadr off x=>rw [h.rd ho]
 case fld ag off sz x=>rw [h.rd ho]
 case iadr e x i=>rw [sub (x:=x) (by intro s hs;simp [hs]) ho,sub (x:=i) (by intro s hs;simp [hs]) ho]
 case idxs x i=>rw [sub (x:=x) (by intro s hs;simp [hs]) ho,sub (x:=i) (by intro s hs;simp [hs]) ho]
 case len x=>rw [h.rd ho]
 case capn x=>rw [h.rd ho]
 case lens x=>rw [h.rd ho]
 case minmax mn x y=>rw [sub (x:=x) (by intro s hs;simp [hs]) ho,sub (x:=y) (by intro s hs;simp [hs]) ho]
theorem Qe2.seen (h:Qe2 D st st') {x:IV} (hx:Qjn D x):st'.seen x=st.seen x:=by
 unfold St.seen;rw [h.sview hx]
theorem Qe2.seens (h:Qe2 D st st'):∀ {xs:List IV},(∀ x ∈ xs,Qjn D x)→st'.seens xs=st.seens xs
 | [],_=>rfl
 | x::xs,hx=>by
   simp only [St.seens,h.seen (hx x (by simp)),h.seens (xs:=xs) fun y hy=>hx y (List.mem_cons_of_mem _ hy)]
theorem Qe2.arg2 (h:Qe2 D st st') {m:Mode} {o:Opd} (hm:(m == .val || m == .rv)=true) (ho:NoU D (Qcn o)):st'.arg2 m o=st.arg2 m o:=by
 have hn:=h.rdN ho
 cases m <;> simp only [Bool.or_eq_true,beq_iff_eq,reduceCtorEq,or_self,or_false,false_or] at hm <;> simp only [St.arg2,h.rd ho]
 generalize Idl.rd st.T o=y at *
 cases y with
 | agg cs=>simp only;rw [h.seens hn]
 | _=>exact h.seen (Qq9 hn (fun _ hh=>by cases hh))
theorem Qe2.args2 (h:Qe2 D st st'):∀ {l:List (Mode×Opd)} {vs:List (Option IV)},(l.all fun a=>a.1 == .val || a.1 == .rv)=true→NoU D (l.flatMap fun a=>Qcn a.2)→st'.args2 l vs=st.args2 l vs
 | [],[],_,_=>rfl
 | [],_::_,_,_=>rfl
 | a::l,[],_,_=>rfl
 | a::l,some v::vs,hm,ho=>by
   simp only [List.all_cons,Qba] at hm
   simp only [St.args2]
   rw [h.args2 hm.2 fun s hs=>ho s (by rw [List.flatMap_cons];simp [hs])]
 | (m,o)::l,none::vs,hm,ho=>by
   simp only [List.all_cons,Qba] at hm
   simp only [St.args2]
   rw [h.arg2 hm.1 fun s hs=>ho s (by simp [hs]),h.args2 hm.2 fun s hs=>ho s (by rw [List.flatMap_cons];simp [hs])]
theorem Qu9:∀ {l:List (Mode×Opd)} (st:St),(l.all fun a=>a.1 == .val || a.1 == .rv)=true→∃ vs ss,st.args1 l=some (vs,st,ss)∧∀ st':St,∃ ss',st'.args1 l=some (vs,st',ss')
 | [],st,_=>⟨[],[],rfl,fun st'=>⟨[],rfl⟩⟩
 | (m,o)::l,st,h=>by
   simp only [List.all_cons,Qba,Bool.or_eq_true,beq_iff_eq] at h
   have h1:∀ st:St,st.arg1 m o=some (none,st):=fun st=>by rcases h.1 with rfl | rfl <;> rfl
   obtain ⟨vs,ss,q1,q2⟩:=Qu9 (l:=l) st h.2
   refine ⟨none::vs,Qey st.T m o++ss,by simp only [St.args1,h1,q1],fun st'=>?_⟩
   obtain ⟨ss',q3⟩:=q2 st'
   exact ⟨Qey st'.T m o++ss',by simp only [St.args1,h1,q3]⟩
theorem Qe2.callq (h:Qe2 D st st') {f:Lab} {l:List (Mode×Opd)} {v:IV} {st1:St} (hm:(l.all fun a=>a.1 == .val || a.1 == .rv)=true) (ho:NoU D (l.flatMap fun a=>Qcn a.2)) (hc:st.callWith cf f [] l true=some (v,st1)) :
 st1=st∧st'.callWith cf f [] l true=some (v,st'):=by
 obtain ⟨vs,ss,q1,q2⟩:=Qu9 st hm
 obtain ⟨ss',q3⟩:=q2 st'
 unfold St.callWith St.args at hc ⊢
 simp only [q1] at hc
 simp only [q3,h.args2 hm ho]
 split at hc
 rotate_left
 · cases hc
 rename_i w1 w2 w3 w4 w5 hw
 split at hw
 rotate_left
 · cases hw
 rename_i ys b hy
 simp only [Qoi,Qpi] at hw
 obtain ⟨rfl,rfl,rfl,rfl⟩:=hw
 simp only [hy,if_true] at hc ⊢
 split at hc
 · cases hc
 rename_i hg
 rw [if_neg hg]
 split at hc
 rotate_left
 · cases hc
 split at hc
 · rename_i hz
   simp only [hz,if_true]
   split at hc
   · rename_i hn
     rw [if_pos hn]
     simp only [Qoi,Qpi] at hc ⊢
     exact ⟨hc.2.symm,hc.1,trivial⟩
   · cases hc
 · rename_i hz
   simp only [hz,if_false,Bool.false_eq_true]
   simp only [Qoi,Qpi] at hc ⊢
   exact ⟨hc.2.symm,hc.1,trivial⟩
theorem Qe2.ev (h:Qe2 D st st') {k:K} (hq:Qci k=true) (ho:NoU D k.useL) {v:IV} {st1:St} (he:ev cf st k=some (v,st1)):ev cf st' k=some (v,st'):=by
 by_cases hp:Qev k=true
 · rw [Ql0 hp] at he ⊢
   rw [h.evq ho]
   rw [Option.map_eq_some_iff] at he ⊢
   obtain ⟨u,h1,h2⟩:=he
   simp only [Qpi] at h2
   exact ⟨u,h1,by rw [h2.1]⟩
 · cases k <;> simp only [Qci,Qev,Bool.false_eq_true,not_true_eq_false] at hq hp
   · rename_i f args p
     cases p with
     | false=>simp [Qci,Qev] at hq
     | true=>exact (h.callq (by simpa [Qci] using hq) ho he).2
   · rename_i f args
     exact (h.callq hq ho he).2
theorem Qq6 {x:IOp} (hq:Qci x.k=true) (he:Qar cf st x=some st1):∃ v,st1=Qeu st x.dst v∧∀ (D:Nat→Prop) st',Qe2 D st st'→NoU D x.use→Qar cf st' x=some (Qeu st' x.dst v):=by
 have hu:∀ {D:Nat→Prop},NoU D x.use→NoU D x.k.useL:=fun ho s hs=>ho s (by simp [IOp.use,hs])
 have put:∀ (st:St) (v:IV),(match x.dst with
  | some d=>some { st with T:=tput st.T d v }
  | none=>some st)=some (Qeu st x.dst v):=fun st v=>by unfold Qeu;cases x.dst <;> rfl
 have run:∀ {st1:St},(match ev cf st x.k with
  | some (v,st')=>match x.dst with
    | some d=>some { st' with T:=tput st'.T d v }
    | none=>some st'
  | none=>none)=some st1→∃ v,st1=Qeu st x.dst v∧∀ (D:Nat→Prop) st',Qe2 D st st'→NoU D x.use→(match ev cf st' x.k with
  | some (v,st')=>match x.dst with
    | some d=>some { st' with T:=tput st'.T d v }
    | none=>some st'
  | none=>none)=some (Qeu st' x.dst v):=by
  intro st1 hh
  split at hh
  rotate_left
  · cases hh
  rename_i v st2 h2
  have:=Qll hq h2
  subst this
  rw [put] at hh
  simp only [Qoi] at hh
  refine ⟨v,hh.symm,fun D st' hs ho=>?_⟩
  rw [hs.ev hq (hu ho) h2]
  exact put _ _
 have skip:∀ {st1:St},(match x.dst with
  | some d=>some { st with T:=tput st.T d (.tup []) }
  | none=>some st)=some st1→∃ v,st1=Qeu st x.dst v∧∀ (D:Nat→Prop) st',Qe2 D st st'→NoU D x.use→(match x.dst with
  | some d=>some { st' with T:=tput st'.T d (.tup []) }
  | none=>some st')=some (Qeu st' x.dst v):=by
  intro st1 hh
  rw [put] at hh
  simp only [Qoi] at hh
  exact ⟨.tup [],hh.symm,fun D st' _ _=>put _ _⟩
 unfold Qar at he
 unfold Qar
 cases hg:x.g with
 | none=>rw [hg] at he;exact run he
 | some sb =>
   obtain ⟨s,b⟩:=sb
   rw [hg] at he
   have hsu:∀ {D:Nat→Prop} {st':St},Qe2 D st st'→NoU D x.use→Qan st'.T s=Qan st.T s:=fun hs ho=>hs.T s (ho s (by simp [IOp.use,hg,gU]))
   simp only at he ⊢
   split at he
   · rename_i t ht
     split at he
     · rename_i htb
       obtain ⟨v,h1,h2⟩:=run he
       refine ⟨v,h1,fun D st' hs ho=>?_⟩
       rw [hsu hs ho,ht]
       simp only
       rw [if_pos htb]
       exact h2 D st' hs ho
     · rename_i htb
       obtain ⟨v,h1,h2⟩:=skip he
       refine ⟨v,h1,fun D st' hs ho=>?_⟩
       rw [hsu hs ho,ht]
       simp only
       rw [if_neg htb]
       exact h2 D st' hs ho
   · rename_i ht
     obtain ⟨v,h1,h2⟩:=skip he
     refine ⟨v,h1,fun D st' hs ho=>?_⟩
     rw [hsu hs ho,ht]
     exact h2 D st' hs ho
   · cases he
def Qd6 (ss:List Nat) (T:Tm):Tm:=ss.foldl (fun T s=>dropSlot s T) T
theorem Qkl (a b:List Nat) (T:Tm):Qd6 (a++b) T=Qd6 b (Qd6 a T):=by simp [Qd6]
theorem Qgj {d:Nat}:∀ {ss:List Nat} {T:Tm},(Qan T d).holds=false→(Qan (Qd6 ss T) d).holds=false
 | [],_,h=>h
 | t::ss,T,h=>by
   refine Qgj (ss:=ss) (T:=dropSlot t T) ?_
   simp only [dropSlot,Qan]
   split
   · rfl
   · unfold Qbg;rw [Qak];exact Qq8 h
theorem Qrp {q:IV→Bool} {x:IV} (h:Qhz x=true):Qhz (kl q x)=true:=by
 have h1:∀ c,Qee c=true→Qee (klc q c)=true:=fun c hc=>by
  unfold klc;split
  · rfl
  · exact hc
 cases x with
 | agg cs =>
   simp only [Qhz,kl,kl1,List.all_eq_true,List.mem_map] at h ⊢
   rintro y ⟨c,hc,rfl⟩
   exact h1 c (h c hc)
 | tup vs=>simp [Qhz] at h
 | _=>first | (simp only [kl,kl1,klc];split <;> first | rfl | exact h)
theorem Qsv {s t:Nat} {T:Tm} (h:Qhz (Qan T s)=true):Qhz (Qan (dropSlot t T) s)=true:=by
 simp only [dropSlot,Qan]
 split
 · rfl
 · unfold Qbg;rw [Qak];exact Qrp h
theorem Qj5 {s:Nat}:∀ {ss:List Nat} {T:Tm},Qhz (Qan T s)=true→Qhz (Qan (Qd6 ss T) s)=true
 | [],_,h=>h
 | t::ss,T,h=>Qj5 (ss:=ss) (Qsv h)
theorem Qie {o:Opd} {ss:List Nat} {T:Tm} (h:Qew T o=true):Qew (Qd6 ss T) o=true:=by
 cases o with
 | t s=>exact Qj5 h
 | _=>rfl
theorem Qi7 {T T':Tm} {o:Opd} {v:IV} (h:tk T o=(v,T')):∃ ss,(∀ s ∈ ss,s ∈ Qcn o)∧T'=Qd6 ss T:=by
 cases o with
 | t s =>
   simp only [tk] at h
   split at h
   · simp only [Qpi] at h;exact ⟨[s],by simp [Qcn],h.2.symm⟩
   · simp only [Qpi] at h;exact ⟨[],by simp,h.2.symm⟩
 | c u=>simp only [tk,Qpi] at h;exact ⟨[],by simp,h.2.symm⟩
 | f l=>simp only [tk,Qpi] at h;exact ⟨[],by simp,h.2.symm⟩
theorem Ja3 {T T':Tm} {o:Opd} {v:IV} (h:tk T o=(v,T')) (hn:Qew T o=true):Qhz v=true ∨ (∃ u,o=.c u):=by
 cases o with
 | t s =>
   simp only [tk] at h
   split at h
   · simp only [Qpi] at h;rw [← h.1];exact .inl (Qrp hn)
   · simp only [Qpi] at h;rw [← h.1];exact .inl hn
 | c u=>exact .inr ⟨u,rfl⟩
 | f l=>simp only [tk,Qpi] at h;rw [← h.1];exact .inl rfl
theorem Qs0 (v:Value):Qee (cv1 v)=true:=by
 unfold cv1;split <;> rfl
theorem Qru {T T':Tm} {o:Opd} {v:IV} (h:tk T o=(v,T')) (hn:Qew T o=true):∀ x ∈ v.wcells,Qee x=true:=by
 rcases Ja3 h hn with hv | ⟨u,rfl⟩
 · cases v with
   | agg cs=>simp only [Qhz,List.all_eq_true] at hv;exact hv
   | tup vs=>simp [Qhz] at hv
   | _=>intro x hx;simp only [IV.wcells,List.mem_singleton] at hx;subst hx;exact hv
 · simp only [tk,Qpi] at h
   rw [← h.1]
   cases u with
   | agg cs=>intro x hx;simp only [cv,IV.wcells,List.mem_map] at hx;obtain ⟨c,_,rfl⟩:=hx;exact Qs0 c
   | _=>intro x hx;simp only [cv] at hx;unfold cv1 at hx;split at hx <;> simp only [IV.wcells,List.mem_singleton] at hx <;> subst hx <;> rfl
theorem Qik {x y:IV} (hx:Qee x=true) (h:st.absorb x=some (y,st1)):st1=st:=by
 cases x <;> simp only [St.absorb,reduceCtorEq,Qoi,Qpi] at h <;> first | exact h.2.symm | simp [Qee] at hx
theorem Qtd {q:IV→Bool} {x:IV} (h:Qee x=true):Qee (klc q x)=true:=by
 unfold klc;split
 · rfl
 · exact h
theorem Qf4:∀ {xs ys:List IV} {pk:IV→Bool} {st st1:St},(∀ x ∈ xs,Qee x=true)→st.absorbsK pk xs=some (ys,st1)→st1=st
 | [],ys,pk,st,st1,_,h=>by simp only [St.absorbsK,Qoi,Qpi] at h;exact h.2.symm
 | x::xs,ys,pk,st,st1,hx,h=>by
   simp only [St.absorbsK] at h
   split at h
   rotate_left
   · cases h
   rename_i y st2 h1
   split at h
   rotate_left
   · cases h
   rename_i ys2 st3 h2
   simp only [Qoi,Qpi] at h
   have e1:=Qik (Qtd (hx x (by simp))) h1
   have e2:=Qf4 (fun z hz=>hx z (by simp [hz])) h2
   rw [← h.2,e2,e1]
theorem Qfl:∀ {ps:List (Nat×Nat×Opd)} {cs cs2:List IV} {T T':Tm},fillCells T cs ps=some (cs2,T')→∃ ss,(∀ s ∈ ss,s ∈ ps.flatMap fun p=>Qcn p.2.2)∧T'=Qd6 ss T
 | [],cs,cs2,T,T',h=>by simp only [fillCells,Qoi,Qpi] at h;exact ⟨[],by simp,h.2.symm⟩
 | (off,sz,o)::r,cs,cs2,T,T',h=>by
   simp only [fillCells] at h
   cases ht:tk T o with
   | mk v T1 =>
   rw [ht] at h
   simp only at h
   split at h
   rotate_left
   · cases h
   obtain ⟨s1,a1,rfl⟩:=Qi7 ht
   obtain ⟨s2,b1,rfl⟩:=Qfl h
   refine ⟨s1++s2,fun s hs=>?_,by rw [Qkl]⟩
   rw [List.flatMap_cons]
   rcases List.mem_append.1 hs with hs | hs
   · simp [a1 s hs]
   · exact List.mem_append.2 (.inr (b1 s hs))
theorem Qfm:∀ {ps:List (Nat×Opd)} {es es2:List (List IV)} {e:Nat} {st st1:St},(∀ p ∈ ps,Qew st.T p.2=true)→st.fillElems es e ps=some (es2,st1) →
 st1.M=st.M∧st1.loc=st.loc∧∃ ss,(∀ s ∈ ss,s ∈ ps.flatMap fun p=>Qcn p.2)∧st1.T=Qd6 ss st.T
 | [],es,es2,e,st,st1,_,h=>by
   simp only [St.fillElems,Qoi,Qpi] at h
   rw [← h.2];exact ⟨rfl,rfl,[],by simp,rfl⟩
 | (i,o)::r,es,es2,e,st,st1,hn,h=>by
   simp only [St.fillElems] at h
   cases ht:tk st.T o with
   | mk v T1 =>
   rw [ht] at h
   simp only at h
   split at h
   rotate_left
   · cases h
   rename_i cs st2 h2
   split at h
   rotate_left
   · cases h
   obtain ⟨s1,a1,rfl⟩:=Qi7 ht
   have e2:=Qf4 (Qru ht (hn (i,o) (by simp))) h2
   subst e2
   obtain ⟨b1,b2,s2,b3,b4⟩:=Qfm (fun p hp=>Qie (hn p (by simp [hp]))) h
   refine ⟨b1,b2,s1++s2,fun s hs=>?_,by rw [b4,Qkl]⟩
   rw [List.flatMap_cons]
   rcases List.mem_append.1 hs with hs | hs
   · simp [a1 s hs]
   · exact List.mem_append.2 (.inr (b3 s hs))
theorem Qva {k:K} (hk:Jaj k=true) (ho:Qe7 st.T k=true) {v:IV} (he:ev cf st k=some (v,st1)) :
 st1.M=st.M∧st1.loc=st.loc∧∃ ss,(∀ s ∈ ss,s ∈ k.useL)∧st1.T=Qd6 ss st.T:=by
 cases k <;> simp only [Jaj,Bool.false_eq_true] at hk
 case build zero parts =>
  simp only [ev] at he
  split at he
  · rename_i cs T h1
    simp only [Qoi,Qpi] at he
    obtain ⟨ss,a1,rfl⟩:=Qfl h1
    rw [← he.2]
    exact ⟨rfl,rfl,ss,a1,rfl⟩
  · cases he
 case bsl e z n ps =>
  simp only [ev] at he
  split at he
  · rename_i es st2 h1
    simp only [Qoi,Qpi] at he
    rw [← he.2]
    simp only [Qe7,List.all_eq_true] at ho
    exact Qfm ho h1
  · cases he
 case app e x y =>
  simp only [Qe7] at ho
  simp only [ev] at he
  split at he
  rotate_left
  · cases he
  rename_i ys st2 h1
  split at he
  rotate_left
  · cases he
  rename_i u st3 h2
  simp only [Qoi,Qpi] at he
  obtain ⟨-,rfl⟩:=he
  have hy:st2.M=st.M∧st2.loc=st.loc∧∃ ss,(∀ s ∈ ss,s ∈ Qcn y)∧st2.T=Qd6 ss st.T:=by
   unfold St.news at h1
   split at h1
   · rename_i e2 es T1 ht
     split at h1
     · simp only [Qoi,Qpi] at h1
       obtain ⟨ss,a1,rfl⟩:=Qi7 ht
       rw [← h1.2];exact ⟨rfl,rfl,ss,a1,rfl⟩
     · cases h1
   · split at h1
     · split at h1
       · simp only [Qoi,Qpi] at h1
         rw [← h1.2];exact ⟨rfl,rfl,[],by simp,rfl⟩
       · cases h1
     · cases h1
  obtain ⟨m1,m2,s1,a1,hT⟩:=hy
  have hno:Qew st2.T x=true:=by rw [hT];exact Qie ho
  have hx:st3.M=st2.M∧st3.loc=st2.loc∧∃ ss,(∀ s ∈ ss,s ∈ Qcn x)∧st3.T=Qd6 ss st2.T:=by
   unfold St.append at h2
   cases ht:tk st2.T x with
   | mk w T1 =>
   have hc:=Qru ht hno
   obtain ⟨ss,a2,hT1⟩:=Qi7 ht
   rw [ht] at h2
   have fin:∀ {q:Option (IV×St)},q=({ st2 with T:=T1 }:St).absorb w→(match q with
    | some (.own e2 es,st)=>if e2=e∧es.length+ys.length≤lim then some (IV.own e (es++ys),st) else none
    | _=>none)=some (u,st3)→(w.wcells=[w])→st3.M=st2.M∧st3.loc=st2.loc∧∃ ss,(∀ s ∈ ss,s ∈ Qcn x)∧st3.T=Qd6 ss st2.T:=by
    intro q hq hm hw
    split at hm
    · rename_i e2 es st4
      split at hm
      · simp only [Qoi,Qpi] at hm
        obtain ⟨-,rfl⟩:=hm
        have:=Qik (hc w (by rw [hw];simp)) hq.symm
        subst this
        exact ⟨rfl,rfl,ss,a2,hT1⟩
      · cases hm
    · cases hm
   have same:∀ {b:Prop} [Decidable b] {r:IV},(if b then some (r,st2) else none)=some (u,st3)→st3.M=st2.M∧st3.loc=st2.loc∧∃ ss,(∀ s ∈ ss,s ∈ Qcn x)∧st3.T=Qd6 ss st2.T:=by
    intro b _ r hm
    split at hm
    · simp only [Qoi,Qpi] at hm
      obtain ⟨-,rfl⟩:=hm
      exact ⟨rfl,rfl,[],by simp,rfl⟩
    · cases hm
   cases w with
   | lst e2 es c =>
     cases c with
     | true=>exact same h2
     | false=>exact fin rfl h2 rfl
   | arr r c p e2 off n cl=>have:=hc _ (List.mem_singleton.2 rfl);simp [Qee] at this
   | agg cs=>simp [St.absorb] at h2
   | tup vs=>simp [St.absorb] at h2
   | _=>exact fin rfl h2 rfl
  obtain ⟨n1,n2,s2,b1,hT2⟩:=hx
  refine ⟨n1.trans m1,n2.trans m2,s1++s2,fun s hs=>?_,by rw [hT2,hT,Qkl]⟩
  simp only [K.useL]
  rcases List.mem_append.1 hs with hs | hs
  · exact List.mem_append.2 (.inr (a1 s hs))
  · exact List.mem_append.2 (.inl (b1 s hs))
theorem Qrh {x:IOp} (hk:Jaj x.k=true) (ho:Qe7 st.T x.k=true) (he:Qar cf st x=some st1) :
 ∃ ss v st2,(∀ s ∈ ss,s ∈ x.use)∧st2.M=st.M∧st2.loc=st.loc∧st2.T=Qd6 ss st.T∧st1=Qeu st2 x.dst v:=by
 have put:∀ (st:St) (v:IV) {r:St},(match x.dst with
  | some d=>some { st with T:=tput st.T d v }
  | none=>some st)=some r→r=Qeu st x.dst v:=fun st v r h=>by
  unfold Qeu;cases hd:x.dst <;> simp_all
 have run:(match ev cf st x.k with
  | some (v,st')=>match x.dst with
    | some d=>some { st' with T:=tput st'.T d v }
    | none=>some st'
  | none=>none)=some st1→∃ ss v st2,(∀ s ∈ ss,s ∈ x.use)∧st2.M=st.M∧st2.loc=st.loc∧st2.T=Qd6 ss st.T∧st1=Qeu st2 x.dst v:=by
  intro hh
  split at hh
  rotate_left
  · cases hh
  rename_i v st2 h2
  obtain ⟨a1,a2,ss,a3,a4⟩:=Qva hk ho h2
  exact ⟨ss,v,st2,fun s hs=>by simp [IOp.use,a3 s hs],a1,a2,a4,put st2 v hh⟩
 have skip:(match x.dst with
  | some d=>some { st with T:=tput st.T d (.tup []) }
  | none=>some st)=some st1→∃ ss v st2,(∀ s ∈ ss,s ∈ x.use)∧st2.M=st.M∧st2.loc=st.loc∧st2.T=Qd6 ss st.T∧st1=Qeu st2 x.dst v :=
  fun hh=>⟨[],.tup [],st,by simp,rfl,rfl,rfl,put st _ hh⟩
 unfold Qar at he
 split at he
 · exact run he
 · split at he
   · split at he
     · exact run he
     · exact skip he
   · exact skip he
   · cases he
theorem Qsb {ds:List Nat} (hD:∀ s,D s→s ∈ ds) {x:IV} (h:nrV ds x=true):nrD D x:=by
 have h1:∀ c,nr1 ds c=true→Qjn D c:=fun c hc=>by
  cases c with
  | arr r a p e o n cl=>cases r with
    | S s=>intro hs;simp [nr1,hD s hs] at hc
    | B l k=>trivial
  | eptr r a p i j=>cases r with
    | S s=>intro hs;simp [nr1,hD s hs] at hc
    | B l k=>trivial
  | _=>trivial
 cases x with
 | agg cs=>intro y hy;simp only [nrV,nrA,List.all_eq_true] at h;exact h1 y (h y hy)
 | tup vs=>trivial
 | _=>exact h1 _ (by simpa only [nrV,nrA] using h)
theorem kl_nr {ds:List Nat} {s:Nat} (hs:s ∈ ds) {x:IV} (h:nrV ds x=true):kl (IV.rooted (.S s)) x=x:=by
 have h1:∀ c,nr1 ds c=true→klc (IV.rooted (.S s)) c=c:=fun c hc=>by
  unfold klc
  split
  · rename_i hr
    cases c with
    | arr r a p e o n cl =>
      simp only [IV.rooted,decide_eq_true_eq] at hr
      subst hr
      simp [nr1,hs] at hc
    | eptr r a p i j =>
      simp only [IV.rooted,decide_eq_true_eq] at hr
      subst hr
      simp [nr1,hs] at hc
    | _=>simp [IV.rooted] at hr
  · rfl
 have h2:∀ c,nrA ds c=true→kl1 (IV.rooted (.S s)) c=c:=fun c hc=>by
  cases c with
  | agg cs =>
    simp only [nrA,List.all_eq_true] at hc
    simp only [kl1]
    congr 1
    conv=>rhs;rw [← List.map_id cs]
    exact List.map_congr_left fun y hy=>h1 y (hc y hy)
  | _=>exact h1 _ hc
 cases x with
 | tup vs =>
   simp only [nrV,List.all_eq_true] at h
   simp only [kl]
   congr 1
   conv=>rhs;rw [← List.map_id vs]
   exact List.map_congr_left fun y hy=>h2 y (h y hy)
 | _=>exact h2 _ (by simpa only [nrV] using h)
theorem Qdl {ds:List Nat} {s:Nat}:∀ {ss:List Nat} {T:Tm},s ∉ ss→(∀ t ∈ ss,t ∈ ds)→nrV ds (Qan T s)=true→Qan (Qd6 ss T) s=Qan T s
 | [],T,_,_,_=>rfl
 | t::ss,T,hs,hd,hn=>by
   have h1:Qan (dropSlot t T) s=Qan T s:=by
    simp only [dropSlot,Qan]
    rw [if_neg (fun h=>hs (by simp [h])),show Qbg (.S t) T=Qas (IV.rooted (.S t)) T from rfl,Qak]
    exact kl_nr (hd t (by simp)) hn
   show Qan (Qd6 ss (dropSlot t T)) s=_
   rw [Qdl (fun h=>hs (by simp [h])) (fun u hu=>hd u (by simp [hu])) (by rw [h1];exact hn),h1]
def Jz4 (a b:List Nat):Bool:=a.all fun s=>!b.contains s
def Jjd (ds:List Nat) (x:IOp):Bool:=(match x.dst with
 | some d=>ds.contains d
 | none=>true) && (!Jaj x.k || x.use.all fun s=>ds.contains s)
def Qnj (ds:List Nat) (iops:List IOp) (i j:Nat):Bool:=match iops[i]?,iops[j]? with
 | some x,some y=>Qr1 x y && Jjd ds x && Jjd ds y && ((Qci x.k && Qci y.k) || (Jz4 x.use y.use && ((Qdw x.k && Jaj y.k) || (Jaj x.k && Qci y.k))))
 | _,_=>false
theorem Qcg {T T':Tm} {k:K} (h:∀ s ∈ k.useL,Qan T' s=Qan T s):Qe7 T' k=Qe7 T k:=by
 have one:∀ o,(∀ s ∈ Qcn o,s ∈ k.useL)→Qew T' o=Qew T o:=fun o ho=>by
  cases o with
  | t s=>simp only [Qew];rw [h s (ho s (by simp [Qcn]))]
  | _=>rfl
 cases k with
 | app e x y=>exact one x fun s hs=>by simp [K.useL,hs]
 | bsl e z n ps =>
   simp only [Qe7]
   rw [Bool.eq_iff_iff,List.all_eq_true,List.all_eq_true]
   exact forall_congr' fun p=>⟨fun hh hp=>by rw [← one p.2 fun s hs=>List.mem_flatMap.2 ⟨p,hp,hs⟩];exact hh hp,fun hh hp=>by rw [one p.2 fun s hs=>List.mem_flatMap.2 ⟨p,hp,hs⟩];exact hh hp⟩
 | _=>rfl
theorem Qlc {k:K} (h:Qdw k=true):Qci k=true:=by simp only [Qdw,Qba] at h;exact h.1
theorem Jzr {x:IOp} {d:Nat} (hd:x.dst ≠ some d) (hn:Qan st.T d=.un) (hu:d ∉ x.use) (he:Qar cf st x=some st1):Qan st1.T d=.un:=by
 have h:Sim (fun s=>s=d) (fun x=>x=.un) [] st st:=⟨fun _ _=>rfl,fun s hs=>by rw [hs];exact hn,fun s hs=>by rw [hs,hn];rfl,rfl,by simp⟩
 obtain ⟨st1',q1,q2,-⟩:=Qf3 h (by rintro q - x rfl;simp [kl,kl1,klc]) (.inr rfl) (x:=x) (fun s hs hh=>hu (hh ▸ hs)) (fun s hs hh=>hd (hh ▸ hs)) he
 rw [he] at q1
 cases q1
 exact q2.Q d rfl
theorem Jz0 {ds:List Nat} {iops:List IOp} {i j:Nat} {x y:IOp} (hx:iops[i]? = some x) (hy:iops[j]? = some y) (hi:Qnj ds iops i j=true)
 (hfx:∀ d,x.dst=some d→Qan st.T d=.un) (hfy:∀ d,y.dst=some d→Qan st.T d=.un)
 (n0:∀ s,nrV ds (Qan st.T s)=true) (n1:∀ s,nrV ds (Qan st1.T s)=true) (n2:∀ s,nrV ds (Qan st2.T s)=true) (e0:Qe7 st.T x.k=true) (e1:Qe7 st1.T y.k=true)
 (h1:Qar cf st x=some st1) (h2:Qar cf st1 y=some st2) (q1:Qdw x.k=true→∀ d,x.dst=some d→(Qan st1.T d).holds=false) :
 ∃ st1' st2',Qar cf st y=some st1'∧Qar cf st1' x=some st2'∧SEq st2 st2'∧(∀ s,nrV ds (Qan st1'.T s)=true)∧Qe7 st.T y.k=true∧Qe7 st1'.T x.k=true ∧
   (∀ d,y.dst=some d→Qan st1'.T d=Qan st2.T d)∧(∀ d,x.dst=some d→Qan st2'.T d=Qan st1.T d):=by
 unfold Qnj at hi
 simp only [hx,hy,Qba,Bool.or_eq_true] at hi
 obtain ⟨⟨⟨hap,hdx⟩,hdy⟩,hi⟩:=hi
 obtain ⟨a1,a2,a3⟩:=Qos hap
 simp only [Jjd,Qba,Bool.or_eq_true,Bool.not_eq_true'] at hdx hdy
 have dx:∀ d,x.dst=some d→d ∈ ds:=fun d hd=>by have:=hdx.1;rw [hd] at this;simpa using this
 have dy:∀ d,y.dst=some d→d ∈ ds:=fun d hd=>by have:=hdy.1;rw [hd] at this;simpa using this
 have nhx:∀ d,x.dst=some d→(Qan st.T d).holds=false:=fun d hd=>by rw [hfx d hd];rfl
 have nhy:∀ d,y.dst=some d→(Qan st.T d).holds=false:=fun d hd=>by rw [hfy d hd];rfl
 have ueff:∀ z:IOp,(Jaj z.k=false ∨ (z.use.all fun s=>ds.contains s)=true)→Jaj z.k=true→∀ s ∈ z.use,s ∈ ds:=fun z hz hk s hs=>by
  rcases hz with hz | hz
  · rw [hz] at hk;cases hk
  · have:=List.all_eq_true.1 hz s hs;simpa using this
 rcases hi with ⟨hqx,hqy⟩ | ⟨hdj,hi⟩
 ·
  obtain ⟨vx,rfl,kx⟩:=Qq6 hqx h1
  have nhy1:∀ d,y.dst=some d→(Qan (Qeu st x.dst vx).T d).holds=false:=fun d hd=>by
   rw [Qaw nhx,if_neg (fun h=>a3 d h hd)];exact nhy d hd
  obtain ⟨vy,rfl,ky⟩:=Qq6 hqy h2
  have s1:Qe2 (fun s=>x.dst=some s) (Qeu st x.dst vx) st:=⟨fun s hs=>by rw [Qaw nhx,if_neg hs],fun s hs=>Qsb dx (n1 s),Qby.symm,Qa2.symm⟩
  have q1:=ky _ _ s1 (fun s hs hh=>a1 s hh hs)
  have s2:Qe2 (fun s=>y.dst=some s) st (Qeu st y.dst vy):=⟨fun s hs=>by rw [Qaw nhy,if_neg hs],fun s hs=>Qsb dy (n0 s),Qby,Qa2⟩
  have q2:=kx _ _ s2 (fun s hs hh=>a2 s hh hs)
  have nhx1:∀ d,x.dst=some d→(Qan (Qeu st y.dst vy).T d).holds=false:=fun d hd=>by
   rw [Qaw nhy,if_neg (fun h=>a3 d hd h)];exact nhx d hd
  refine ⟨_,_,q1,q2,⟨fun s _=>?_,fun _ h=>h.elim,fun _ h=>h.elim,by rw [Qby,Qby,Qby,Qby],by rw [Qa2,Qa2,Qa2,Qa2,List.append_nil]⟩,fun s=>?_,?_,?_,fun d hd=>?_,fun d hd=>?_⟩
  · rw [Qaw nhx1,Qaw nhy,Qaw nhy1,Qaw nhx]
    by_cases k1:x.dst=some s
    · rw [if_pos k1,if_neg (fun h=>a3 s k1 h),if_pos k1]
    · rw [if_neg k1,if_neg k1]
  · rw [Qaw nhy]
    split
    · rename_i hs
      have:=n2 s
      rw [Qaw nhy1,if_pos hs] at this
      exact this
    · exact n0 s
  · rw [← e1];exact (Qcg fun s hs=>by rw [Qaw nhx,if_neg (fun h=>a1 s h (by simp [IOp.use,hs]))]).symm
  · rw [← e0];exact Qcg fun s hs=>by rw [Qaw nhy,if_neg (fun h=>a2 s h (by simp [IOp.use,hs]))]
  · rw [Qaw nhy,Qaw nhy1,if_pos hd,if_pos hd]
  · rw [Qaw nhx1,Qaw nhx,if_pos hd,if_pos hd]
 have dj:∀ s,s ∈ x.use→s ∉ y.use:=fun s hs=>by
  have:=List.all_eq_true.1 hdj s hs
  simpa using this
 rcases hi with ⟨hqx,hey⟩ | ⟨hex,hqy⟩
 ·
  have uy:=ueff y hdy.2 hey
  have hq1:=q1 hqx
  obtain ⟨vx,rfl,kx⟩:=Qq6 (Qlc hqx) h1
  have e1':Qe7 st.T y.k=true:=by
   rw [← e1];exact (Qcg fun s hs=>by rw [Qaw nhx,if_neg (fun h=>a1 s h (by simp [IOp.use,hs]))]).symm
  have sm:Sim (fun s=>x.dst=some s) (fun _=>True) [] (Qeu st x.dst vx) st:=⟨fun s hs=>by rw [Qaw nhx,if_neg hs],fun _ _=>trivial,fun s hs=>hq1 s hs,Qby.symm,by rw [Qa2,List.append_nil]⟩
  obtain ⟨st1',r1,r2,-⟩:=Qf3 sm noT (.inr rfl) (x:=y) (fun s hs hh=>a1 s hh hs) (fun s hs hh=>a3 s hh hs) h2
  obtain ⟨ss,v,st3,b1,b2,b3,b4,b5⟩:=Qrh hey e1' r1
  obtain ⟨ss2,v2,st4,c1,c2,c3,c4,c5⟩:=Qrh hey e1 h2
  have out:∀ s,s ∉ y.use→y.dst ≠ some s→Qan st1'.T s=Qan st.T s:=fun s h3 h4=>by
   have hd:=Qdl (fun h=>h3 (b1 s h)) (fun t ht=>uy t (b1 t ht)) (n0 s)
   have nh3:∀ d,y.dst=some d→(Qan st3.T d).holds=false:=fun d hd=>by
    by_cases hdu:d ∈ y.use
    · rw [b4]
      exact Qgj (nhy d hd)
    · rw [b4,Qdl (fun h=>hdu (b1 d h)) (fun t ht=>uy t (b1 t ht)) (n0 d)];exact nhy d hd
   rw [b5,Qaw nh3,if_neg h4,b4,hd]
  have out2:∀ s,s ∉ y.use→y.dst ≠ some s→Qan st2.T s=Qan (Qeu st x.dst vx).T s:=fun s h3 h4=>by
   have hd:=Qdl (fun h=>h3 (c1 s h)) (fun t ht=>uy t (c1 t ht)) (n1 s)
   have nh3:∀ d,y.dst=some d→(Qan st4.T d).holds=false:=fun d hd=>by
    rw [c4]
    exact Qgj (by rw [Qaw nhx,if_neg (fun h=>a3 d h hd)];exact nhy d hd)
   rw [c5,Qaw nh3,if_neg h4,c4,hd]
  have s2:Qe2 (fun s=>s ∈ y.use ∨ y.dst=some s) st st1':=by
   refine ⟨fun s hs=>out s (fun h=>hs (.inl h)) (fun h=>hs (.inr h)),fun s hs=>Qsb (fun t ht=>ht.elim (uy t) (dy t)) (n0 s),?_,?_⟩
   · rw [b5,Qby,b2]
   · rw [b5,Qa2,b3]
  have q2:=kx _ _ s2 (fun s hs hh=>hh.elim (fun h=>dj s hs h) (fun h=>a2 s h hs))
  have nhx1:∀ d,x.dst=some d→(Qan st1'.T d).holds=false:=fun d hd=>by
   rw [out d (fun h=>a1 d hd h) (fun h=>a3 d hd h)];exact nhx d hd
  refine ⟨_,_,r1,q2,⟨fun s _=>?_,fun _ h=>h.elim,fun _ h=>h.elim,?_,?_⟩,fun s=>?_,e1',?_,fun d hd=>?_,fun d hd=>?_⟩
  · rw [Qaw nhx1]
    split
    · rename_i hs
      rw [out2 s (fun h=>a1 s hs h) (fun h=>a3 s hs h),Qaw nhx,if_pos hs]
    · rename_i hs
      exact r2.T s hs
  · rw [Qby,b5,Qby,b2,c5,Qby,c2,Qby]
  · rw [Qa2,b5,Qa2,b3,c5,Qa2,c3,Qa2,List.append_nil]
  · by_cases hs:x.dst=some s
    · rw [out s (fun h=>a1 s hs h) (fun h=>a3 s hs h)];exact n0 s
    · rw [r2.T s hs];exact n2 s
  · rw [← e0];exact Qcg fun s hs=>out s (dj s (by simp [IOp.use,hs])) (fun h=>a2 s h (by simp [IOp.use,hs]))
  · exact r2.T d (fun h=>a3 d h hd)
  · rw [Qaw nhx1,Qaw nhx,if_pos hd,if_pos hd]
 ·
  have ux:=ueff x hdx.2 hex
  obtain ⟨ss,v,st3,b1,b2,b3,b4,b5⟩:=Qrh hex e0 h1
  have nh3:∀ d,x.dst=some d→(Qan st3.T d).holds=false:=fun d hd=>by rw [b4];exact Qgj (nhx d hd)
  have out:∀ s,s ∉ x.use→x.dst ≠ some s→Qan st1.T s=Qan st.T s:=fun s h3 h4=>by
   have hd:=Qdl (fun h=>h3 (b1 s h)) (fun t ht=>ux t (b1 t ht)) (n0 s)
   rw [b5,Qaw nh3,if_neg h4,b4,hd]
  have nhy1:∀ d,y.dst=some d→(Qan st1.T d).holds=false:=fun d hd=>by
   rw [out d (fun h=>a2 d hd h) (fun h=>a3 d h hd)];exact nhy d hd
  obtain ⟨vy,rfl,ky⟩:=Qq6 hqy h2
  have s1:Qe2 (fun s=>s ∈ x.use ∨ x.dst=some s) st1 st:=by
   refine ⟨fun s hs=>(out s (fun h=>hs (.inl h)) (fun h=>hs (.inr h))).symm,fun s hs=>Qsb (fun t ht=>ht.elim (ux t) (dx t)) (n1 s),?_,?_⟩
   · rw [b5,Qby,b2]
   · rw [b5,Qa2,b3]
  have r1:=ky _ _ s1 (fun s hs hh=>hh.elim (fun h=>dj s h hs) (fun h=>a1 s h hs))
  have e0':Qe7 (Qeu st y.dst vy).T x.k=true:=by
   rw [← e0];exact Qcg fun s hs=>by rw [Qaw nhy,if_neg (fun h=>a2 s h (by simp [IOp.use,hs]))]
  have sm:Sim (fun s=>y.dst=some s) (fun _=>True) [] st (Qeu st y.dst vy):=⟨fun s hs=>by rw [Qaw nhy,if_neg hs],fun _ _=>trivial,fun s hs=>nhy s hs,Qby,by rw [Qa2,List.append_nil]⟩
  obtain ⟨st2',r2,r3,-⟩:=Qf3 sm noT (.inr rfl) (x:=x) (fun s hs hh=>a2 s hh hs) (fun s hs hh=>a3 s hs hh) h1
  have nP:∀ s,nrV ds (Qan (Qeu st y.dst vy).T s)=true:=fun s=>by
   rw [Qaw nhy]
   split
   · rename_i hs
     have:=n2 s
     rw [Qaw nhy1,if_pos hs] at this
     exact this
   · exact n0 s
  obtain ⟨ss2,v2,st4,c1,c2,c3,c4,c5⟩:=Qrh hex e0' r2
  have nh4:∀ d,x.dst=some d→(Qan st4.T d).holds=false:=fun d hd=>by
   rw [c4];exact Qgj (by rw [Qaw nhy,if_neg (fun h=>a3 d hd h)];exact nhx d hd)
  refine ⟨_,_,r1,r2,⟨fun s _=>?_,fun _ h=>h.elim,fun _ h=>h.elim,?_,?_⟩,nP,?_,e0',fun d hd=>?_,fun d hd=>?_⟩
  · by_cases hs:y.dst=some s
    · have hsx:x.dst ≠ some s:=fun h=>a3 s h hs
      have hsu:s ∉ x.use:=fun h=>a2 s hs h
      rw [c5,Qaw nh4,if_neg hsx,c4,Qdl (fun h=>hsu (c1 s h)) (fun t ht=>ux t (c1 t ht)) (nP s),Qaw nhy,if_pos hs,Qaw nhy1,if_pos hs]
    · rw [r3.T s hs,Qaw nhy1,if_neg hs]
  · rw [c5,Qby,c2,Qby,Qby,b5,Qby,b2]
  · rw [c5,Qa2,c3,Qa2,Qa2,b5,Qa2,b3,List.append_nil]
  · rw [← e1];exact (Qcg fun s hs=>out s (fun h=>dj s h (by simp [IOp.use,hs])) (fun h=>a1 s h (by simp [IOp.use,hs]))).symm
  · rw [Qaw nhy,Qaw nhy1,if_pos hd,if_pos hd]
  · exact r3.T d (fun h=>a3 d hd h)
end
end Go.Idl
namespace Go.Idl
open Go
section
variable {D:Nat→Prop} {st st' st1 st2:St} {cf:CF} {ds:List Nat}
theorem Qsa {T:Tm} {x:IOp} (hd:Jjd ds x=true) (he:Qmf ds T x=true):Qe7 T x.k=true:=by
 unfold Qmf at he
 unfold Jjd at hd
 rw [Qba] at hd
 cases hx:x.dst with
 | none=>rw [hx] at he;simpa using he
 | some d =>
   rw [hx] at he hd
   have h1:=hd.1
   simp only at h1 he
   rw [h1] at he
   simpa using he
theorem Qri {T:Tm} {x:IOp} (he:Qe7 T x.k=true):Qmf ds T x=true:=by unfold Qmf;rw [he];rfl
theorem Qz9:∀ {l:List IOp} {st st':St},SEq st st'→okX cf ds st l→(∃ s,Qag cf st l=some s)→okX cf ds st' l
 | [],_,_,h,hk,_=>fun s=>by rw [h.T s (fun h=>h)];exact hk s
 | x::l,st,st',h,hk,⟨s,hs⟩=>by
   obtain ⟨hn,he,hk⟩:=hk
   refine ⟨fun s=>by rw [h.T s (fun h=>h)];exact hn s,by unfold Qmf at he ⊢;rw [Qcg fun s _=>h.T s (fun h=>h)];exact he,fun st1' h1'=>?_⟩
   simp only [Qag] at hs
   split at hs
   rotate_left
   · cases hs
   rename_i st1 h1
   obtain ⟨st2',q1,q2,-⟩:=Qf3 h noT (.inr rfl) (x:=x) (fun s _ hh=>hh) (fun s _ hh=>hh) h1
   rw [q1] at h1'
   cases h1'
   obtain ⟨k1,k2⟩:=hk st1 h1
   exact ⟨fun hq d hd=>by rw [q2.T d (fun h=>h)];exact k1 hq d hd,Qz9 q2 k2 ⟨s,hs⟩⟩
def FRl (iops:List IOp) (st:St) (l:List Nat):Prop:=∀ i ∈ l,∀ x,iops[i]? = some x→qX x.k=true→∀ d,x.dst=some d→Qan st.T d=.un
def Qpw (iops:List IOp):List Nat→Prop
 | []=>True
 | i::l=>(∀ j ∈ l,∀ x y,iops[i]? = some x→iops[j]? = some y→qX y.k=true→∀ d,y.dst=some d→d ∉ x.use∧x.dst ≠ some d)∧Qpw iops l
theorem Jgl {iops:List IOp} {i:Nat} {l:List Nat} {x:IOp} (hx:iops[i]? = some x) (hf:Qpw iops (i::l)) (hn:FRl iops st (i::l)) (h:Qar cf st x=some st1):FRl iops st1 l:=by
 intro j hj y hy hsw d hd
 obtain ⟨h1,h2⟩:=hf.1 j hj x y hx hy hsw d hd
 exact Jzr h2 (hn j (by simp [hj]) y hy hsw d hd) h1 h
structure Qqz (cf:CF) (ds:List Nat) (iops:List IOp) (st:St) (l:List Nat) (s:St):Prop where
 lt:∀ i ∈ l,i < iops.length
 fr:FRl iops st l
 fw:Qpw iops l
 ok:okX cf ds st (Qaf iops l)
 run:Qh9 cf iops st l=some s
theorem Qkj {iops:List IOp} {i:Nat} {l:List Nat} {x:IOp} (hx:iops[i]? = some x):okX cf ds st (Qaf iops (i::l))=okX cf ds st (x::Qaf iops l):=by
 simp only [Qaf,List.filterMap_cons,hx]
theorem Qrw:∀ {l:List IOp} {st:St},okX cf ds st l→∀ s,nrV ds (Qan st.T s)=true
 | [],_,h=>h
 | _::_,_,h=>h.1
theorem Qqz.step {iops:List IOp} {i:Nat} {l:List Nat} {s:St} (h:Qqz cf ds iops st (i::l) s):∃ x st1,iops[i]? = some x∧Qar cf st x=some st1∧Qqz cf ds iops st1 l s∧(Qdw x.k=true→∀ d,x.dst=some d→(Qan st1.T d).holds=false) ∧
 Qmf ds st.T x=true:=by
 have hi:=h.lt i (by simp)
 have hx:iops[i]? = some iops[i]:=List.getElem?_eq_getElem hi
 obtain ⟨st1,q1,q2⟩:=Qop hx h.run
 have hok:=h.ok
 rw [Qkj hx] at hok
 obtain ⟨k0,k00,k⟩:=hok
 obtain ⟨k1,k2⟩:=k st1 q1
 exact ⟨_,st1,hx,q1,⟨fun j hj=>h.lt j (by simp [hj]),Jgl hx h.fw h.fr q1,h.fw.2,k2,q2⟩,k1,k00⟩
theorem Qj4 {iops:List IOp} {i:Nat} {l2:List Nat}:∀ {l1:List Nat} {st s:St},(∀ y ∈ l1,Qnj ds iops y i=true)→Qpw iops (i::(l1++l2))→Qqz cf ds iops st (l1++i::l2) s→∃ s',Qqz cf ds iops st (i::(l1++l2)) s'∧SEq s s'
 | [],st,s,_,_,h=>⟨s,h,.refl _⟩
 | y::l1,st,s,hall,hfw,h=>by
   obtain ⟨xy,st1,hy,h1,hF,hqy,hey⟩:=h.step
   have hfw1:Qpw iops (i::(l1++l2)):=⟨fun j hj=>hfw.1 j (by simp at hj ⊢;rcases hj with hj | hj <;> simp [hj]),hfw.2.2⟩
   obtain ⟨s1,hF1,e1⟩:=Qj4 (fun z hz=>hall z (by simp [hz])) hfw1 hF
   obtain ⟨xi,st2,hi,h2,hF2,hqi,hei⟩:=hF1.step
   have hind:=hall y (by simp)
   have hsw:qX xy.k=true∧qX xi.k=true:=by
    unfold Qnj at hind
    simp only [hy,hi,Qba,Bool.or_eq_true] at hind
    rcases hind.2 with ⟨h1,h2⟩ | ⟨-,⟨h1,h2⟩ | ⟨h1,h2⟩⟩
    · simp [qX,h1,h2]
    · simp [qX,Qlc h1,h2]
    · simp [qX,h1,h2]
   have hdd:Jjd ds xy=true∧Jjd ds xi=true:=by
    unfold Qnj at hind
    simp only [hy,hi,Qba] at hind
    exact ⟨hind.1.1.2,hind.1.2⟩
   have hey:=Qsa hdd.1 hey
   have hei:=Qsa hdd.2 hei
   obtain ⟨t1,t2,q1,q2,q3,q4,q5,q6,q7,q8⟩:=Jz0 hy hi hind (fun d hd=>h.fr y (by simp) xy hy hsw.1 d hd) (fun d hd=>h.fr i (by simp) xi hi hsw.2 d hd) (Qrw h.ok) (Qrw hF.ok) (Qrw hF2.ok) hey hei h1 h2 hqy
   obtain ⟨s2,r1,r2⟩:=Qp6 q3 (show Qag cf st2 (Qaf iops (l1++l2))=some s1 from hF2.run)
   refine ⟨s2,⟨fun j hj=>h.lt j (by simp at hj ⊢;rcases hj with hj | hj | hj | hj <;> simp [hj]),fun j hj=>h.fr j (by simp at hj ⊢;rcases hj with hj | hj | hj | hj <;> simp [hj]),hfw,?_,?_⟩,e1.trans r2⟩
   · rw [Qkj hi]
     refine ⟨Qrw h.ok,Qri q5,fun a ha=>?_⟩
     rw [q1] at ha
     cases ha
     refine ⟨fun hq d hd=>by rw [q7 d hd];exact hqi hq d hd,?_⟩
     show okX cf ds t1 (Qaf iops (y::(l1++l2)))
     rw [Qkj hy]
     refine ⟨q4,Qri q6,fun b hb=>?_⟩
     rw [q2] at hb
     cases hb
     exact ⟨fun hq d hd=>by rw [q8 d hd];exact hqy hq d hd,Qz9 q3 hF2.ok ⟨_,hF2.run⟩⟩
   · rw [Qc0 hi,q1]
     show Qh9 cf iops t1 (y::(l1++l2))=_
     rw [Qc0 hy,q2]
     exact r1
theorem Qk7 {iops:List IOp}:∀ {σ τ:List Nat} {st s:St},σ.Perm τ→τ.Nodup→Qpw iops σ→(∀ i j,Qnj ds iops i j=false→[i,j].Sublist τ→[i,j].Sublist σ)→Qqz cf ds iops st τ s→∃ s',Qh9 cf iops st σ=some s'∧SEq s s'
 | [],τ,st,s,hp,_,_,_,h=>by
   have:τ=[]:=hp.symm.eq_nil
   subst this;exact ⟨s,h.run,.refl _⟩
 | x::σ,τ,st,s,hp,hn,hfw,hd,h=>by
   have hx:x ∈ τ:=hp.subset (by simp)
   obtain ⟨l1,l2,rfl⟩:=List.append_of_mem hx
   have hσn:(x::σ).Nodup:=hp.nodup_iff.2 hn
   have hxσ:x ∉ σ:=(List.nodup_cons.1 hσn).1
   have hp':σ.Perm (l1++l2):=(hp.trans List.perm_middle).cons_inv
   have hsub:(l1++l2).Sublist (l1++x::l2):=List.Sublist.append (List.Sublist.refl _) (List.sublist_cons_self _ _)
   have hn':(l1++l2).Nodup:=List.Sublist.nodup hsub hn
   have hind:∀ y ∈ l1,Qnj ds iops y x=true:=by
    intro y hy
    cases hi:Qnj ds iops y x with
    | true=>rfl
    | false =>
      exfalso
      have hs:[y,x].Sublist (l1++x::l2):=by
       have h1:[y].Sublist l1:=List.singleton_sublist.2 hy
       have h2:[x].Sublist (x::l2):=List.singleton_sublist.2 (by simp)
       exact h1.append h2
      have:=hd y x hi hs
      cases this with
      | cons _ hh=>exact hxσ (hh.subset (by simp))
      | cons_cons _ hh=>exact hxσ (hh.subset (by simp))
   have hfw2:Qpw iops (x::(l1++l2)):=by
    have key:∀ (l:List Nat),Qpw iops l ↔ l.Pairwise fun i j=>∀ x y,iops[i]? = some x→iops[j]? = some y→qX y.k=true→∀ d,y.dst=some d→d ∉ x.use∧x.dst ≠ some d:=by
     intro l
     induction l with
     | nil=>simp [Qpw]
     | cons a l ih=>rw [List.pairwise_cons,← ih];rfl
    refine ⟨fun j hj=>hfw.1 j (hp'.symm.subset hj),?_⟩
    have h1:=(key _).1 h.fw
    exact (key _).2 (h1.sublist hsub)
   obtain ⟨s1,hF,e1⟩:=Qj4 hind hfw2 h
   obtain ⟨xi,st1,hi,h1,hF1,-,-⟩:=hF.step
   obtain ⟨s2,q1,q2⟩:=Qk7 hp' hn' hfw.2 (fun i j hi hs=>by
    have:=hd i j hi (hs.trans hsub)
    cases this with
    | cons _ hh=>exact hh
    | cons_cons _ hh =>
      exfalso
      have:x ∈ l1++l2:=hs.subset (by simp)
      exact hxσ (hp'.symm.subset this)) hF1
   refine ⟨s2,?_,e1.trans q2⟩
   rw [Qc0 hi,h1];exact q1
end
section
variable {ds:List Nat}
def Jcw (iops:List IOp):List Nat→Bool
 | []=>true
 | i::l=>(l.all fun j=>match iops[i]?,iops[j]? with
    | some x,some y=>!qX y.k || !(Qir y.dst x.use || (match x.dst,y.dst with
      | some d,some e=>d == e
      | _,_=>false))
    | _,_=>true) && Jcw iops l
theorem Qso {iops:List IOp}:∀ {l:List Nat},Jcw iops l=true→Qpw iops l
 | [],_=>trivial
 | i::l,h=>by
   simp only [Jcw,Qba,List.all_eq_true] at h
   refine ⟨fun j hj x y hx hy hsw d hd=>?_,Qso h.2⟩
   have:=h.1 j hj
   simp only [hx,hy,hsw,hd,Bool.not_true,Bool.false_or,Bool.not_eq_true',Bool.or_eq_false_iff,Qir] at this
   refine ⟨fun hm=>?_,fun hxd=>?_⟩
   · rw [List.contains_eq_mem,decide_eq_false_iff_not] at this;exact this.1 hm
   · rw [hxd] at this;simp at this
def Qpx (ds:List Nat) (iops:List IOp) (cs:List (List Nat)) (i j:Nat):Bool:=(Qnj ds iops i j && (Qnj ds iops j i || cs.all fun τ=>bef τ i j)) || (Qnj ds iops j i && cs.all fun τ=>bef τ j i)
def Jfm (ds:List Nat) (iops:List IOp) (cs:List (List Nat)) (n:Nat):List (Nat×Nat) :=
 (List.range n).flatMap fun j=>(List.range j).filterMap fun i=>if Qpx ds iops cs i j then none else some (i,j)
theorem Qpg {iops:List IOp} {cs:List (List Nat)} {n i j:Nat}:(i,j) ∈ Jfm ds iops cs n ↔ i < j∧j < n∧Qpx ds iops cs i j=false:=by
 unfold Jfm
 rw [List.mem_flatMap]
 constructor
 · rintro ⟨j',hj',hm⟩
   rw [List.mem_filterMap] at hm
   obtain ⟨i',hi',he⟩:=hm
   split at he
   · cases he
   · rename_i hf
     simp only [Qoi,Qpi] at he
     obtain ⟨rfl,rfl⟩:=he
     exact ⟨List.mem_range.1 hi',List.mem_range.1 hj',by simpa using hf⟩
 · rintro ⟨h1,h2,h3⟩
   exact ⟨j,List.mem_range.2 h2,List.mem_filterMap.2 ⟨i,List.mem_range.2 h1,by simp [h3]⟩⟩
def Joe (c:List Nat) (iops:List IOp) (n:Nat):Bool:=(List.range n).all fun i=>(List.range n).all fun j=>i == j || (match iops[i]?,iops[j]? with
 | some x,some y=>!qX y.k || !(Qir y.dst x.use || (match x.dst,y.dst with
    | some d,some e=>d == e
    | _,_=>false)) || (c.getD i 0).testBit j
 | _,_=>true)
def Jku (ds:List Nat) (iops:List IOp) (c:List Nat):List (Nat×Nat)→List (Nat×Nat)→List (List Nat)→Bool
 | [],_,cs=>!cs.isEmpty
 | (i,j)::r,E,cs=>(forced c E j i || Jku ds iops c r ((i,j)::E) (cs.filter fun τ=>bef τ i j || Qnj ds iops j i)) && (forced c E i j || Jku ds iops c r ((j,i)::E) (cs.filter fun τ=>bef τ j i || Qnj ds iops i j))
theorem Qkk {iops:List IOp} {σ:List Nat} (hn:σ.Nodup) {c:List Nat} (hc:∀ k i,(c.getD k 0).testBit i=true→[i,k].Sublist σ):∀ {A E:List (Nat×Nat)} {cs:List (List Nat)},(∀ i j,(i,j) ∈ A→i ∈ σ∧j ∈ σ∧i ≠ j) →
 (∀ i j,(i,j) ∈ E→[i,j].Sublist σ)→Jku ds iops c A E cs=true →
 ∃ τ ∈ cs,∀ i j,(i,j) ∈ A→(([i,j].Sublist σ∧([i,j].Sublist τ ∨ Qnj ds iops j i=true)) ∨ ([j,i].Sublist σ∧([j,i].Sublist τ ∨ Qnj ds iops i j=true)))
 | [],E,cs,_,_,h=>by
   cases cs with
   | nil=>simp [Jku] at h
   | cons τ cs=>exact ⟨τ,by simp,by simp⟩
 | (i,j)::A,E,cs,hA,hE,h=>by
   simp only [Jku,Qba,Bool.or_eq_true] at h
   obtain ⟨h1,h2,h3⟩:=hA i j (by simp)
   have hA':∀ i j,(i,j) ∈ A→i ∈ σ∧j ∈ σ∧i ≠ j:=fun i j hm=>hA i j (by simp [hm])
   rcases Qh2 h1 h2 h3 with hs | hs
   · have hcv:=h.1.resolve_left (fun hf=>Qa0 hn hs (Qcy hn hc hE hf))
     obtain ⟨τ,hτ,ht⟩:=Qkk hn hc hA' (fun a b hm=>by
      rcases List.mem_cons.1 hm with he | hm
      · cases he;exact hs
      · exact hE a b hm) hcv
     rw [List.mem_filter,Bool.or_eq_true] at hτ
     refine ⟨τ,hτ.1,fun a b hm=>?_⟩
     rcases List.mem_cons.1 hm with he | hm
     · cases he;exact .inl ⟨hs,hτ.2.imp Qcd id⟩
     · exact ht a b hm
   · have hcv:=h.2.resolve_left (fun hf=>Qa0 hn hs (Qcy hn hc hE hf))
     obtain ⟨τ,hτ,ht⟩:=Qkk hn hc hA' (fun a b hm=>by
      rcases List.mem_cons.1 hm with he | hm
      · cases he;exact hs
      · exact hE a b hm) hcv
     rw [List.mem_filter,Bool.or_eq_true] at hτ
     refine ⟨τ,hτ.1,fun a b hm=>?_⟩
     rcases List.mem_cons.1 hm with he | hm
     · cases he;exact .inr ⟨hs,hτ.2.imp Qcd id⟩
     · exact ht a b hm
def Jcd (ds:List Nat) (ops:Array Oper) (iops:List IOp) (ord:List Nat) (alts:List (List Nat)):Bool :=
 let c:=clo .any ops.toList []
 let cs:=ord::alts
 let D:=Jfm ds iops cs ops.size
 let A:=D.filter fun p=>!(c.getD p.2 0).testBit p.1
 Qke .any ops && (cs.all fun τ=>Qzt τ ops.size) && (cs.all fun τ=>D.all fun p=>!(c.getD p.2 0).testBit p.1 || bef τ p.1 p.2) && Jku ds iops c A [] cs && (cs.all fun τ=>Jcw iops τ) && Joe c iops ops.size
theorem Qt9 {ops:Array Oper} {iops:List IOp} {ord:List Nat} {alts:List (List Nat)} (h:Jcd ds ops iops ord alts=true) {σ:List Nat} (hL:Lin .any ops σ) :
 ∃ τ ∈ ord::alts,σ.Perm τ∧τ.Nodup∧Qpw iops τ∧Qpw iops σ∧∀ i j,Qnj ds iops i j=false→[i,j].Sublist τ→[i,j].Sublist σ:=by
 unfold Jcd at h
 simp only [Qba] at h
 obtain ⟨⟨⟨⟨⟨hb,hperm⟩,hclo⟩,hcov⟩,hfw⟩,hfc⟩:=h
 have hc:=Qjb hL ops.toList [] (fun k o hk=>by simpa using hk) (fun k i hi=>by simp at hi)
 obtain ⟨τ,hτ,ht⟩:=Qkk hL.nodup hc (fun i j hm=>by
  rw [List.mem_filter] at hm
  obtain ⟨h1,h2,h3⟩:=Qpg.1 hm.1
  exact ⟨(hL.mem i).2 (by omega),(hL.mem j).2 h2,by omega⟩) (by simp) hcov
 have hpτ:τ.Perm (List.range ops.size):=by
  rw [List.all_eq_true] at hperm
  exact Qft (hperm τ hτ)
 have hpσ:σ.Perm (List.range ops.size):=by
  rw [List.perm_ext_iff_of_nodup hL.nodup List.nodup_range]
  intro i;rw [hL.mem,List.mem_range]
 have hnτ:τ.Nodup:=hpτ.nodup_iff.2 List.nodup_range
 have hfwσ:Qpw iops σ:=by
  have key:∀ (l:List Nat),Qpw iops l ↔ l.Pairwise fun i j=>∀ x y,iops[i]? = some x→iops[j]? = some y→qX y.k=true→∀ d,y.dst=some d→d ∉ x.use∧x.dst ≠ some d:=by
   intro l
   induction l with
   | nil=>simp [Qpw]
   | cons a l ih=>rw [List.pairwise_cons,← ih];rfl
  rw [key,List.pairwise_iff_forall_sublist]
  intro i j hs x y hx hy hsw d hd
  have hil:i < ops.size:=(hL.mem i).1 (hs.subset (by simp))
  have hjl:j < ops.size:=(hL.mem j).1 (hs.subset (by simp))
  have hne:=Qhk hL.nodup hs
  unfold Joe at hfc
  rw [List.all_eq_true] at hfc
  have h1:=hfc i (List.mem_range.2 hil)
  rw [List.all_eq_true] at h1
  have h2:=h1 j (List.mem_range.2 hjl)
  simp only [hx,hy,hsw,hd,Bool.not_true,Bool.false_or,Bool.or_eq_true,beq_iff_eq,Qir,Bool.not_eq_true',Bool.or_eq_false_iff] at h2
  rcases h2 with h2 | h2 | h2
  · exact absurd h2 hne
  · refine ⟨fun hm=>?_,fun hxd=>?_⟩
    · rw [List.contains_eq_mem,decide_eq_false_iff_not] at h2;exact h2.1 hm
    · rw [hxd] at h2;simp at h2
  · exact (Qa0 hL.nodup hs (hc _ _ h2)).elim
 rw [List.all_eq_true] at hfw
 refine ⟨τ,hτ,hpσ.trans hpτ.symm,hnτ,Qso (hfw τ hτ),hfwσ,?_⟩
 have main:∀ i j,i < j→Qpx ds iops (ord::alts) i j=false→j < ops.size→(([i,j].Sublist σ∧([i,j].Sublist τ ∨ Qnj ds iops j i=true)) ∨ ([j,i].Sublist σ∧([j,i].Sublist τ ∨ Qnj ds iops i j=true))):=by
  intro i j hij hi hj
  have hD:=Qpg.2 ⟨hij,hj,hi⟩
  cases hbit:((clo .any ops.toList []).getD j 0).testBit i with
  | true =>
    have h1:=hc j i hbit
    rw [List.all_eq_true] at hclo
    have h2:=hclo τ hτ
    rw [List.all_eq_true] at h2
    have h3:=h2 (i,j) hD
    simp only [hbit,Bool.not_true,Bool.false_or] at h3
    exact .inl ⟨h1,.inl (Qcd h3)⟩
  | false=>exact ht i j (List.mem_filter.2 ⟨hD,by simp only [hbit,Bool.not_false]⟩)
 intro i j hi hs
 have hne:=Qhk hnτ hs
 have hil:i < ops.size:=List.mem_range.1 (hpτ.subset (hs.subset (by simp)))
 have hjl:j < ops.size:=List.mem_range.1 (hpτ.subset (hs.subset (by simp)))
 have allB:∀ i j,((ord::alts).all fun τ=>bef τ i j)=true→[i,j].Sublist τ:=fun i j h=>Qcd (List.all_eq_true.1 h τ hτ)
 rcases Nat.lt_or_gt_of_ne hne with hlt | hlt
 · cases hf:Qpx ds iops (ord::alts) i j with
   | true =>
     simp only [Qpx,hi,Bool.false_and,Bool.false_or,Qba] at hf
     exact (Qa0 hnτ hs (allB _ _ hf.2)).elim
   | false =>
     rcases main i j hlt hf hjl with ⟨h1,h2⟩ | ⟨h1,h2 | h2⟩
     · exact h1
     · exact (Qa0 hnτ hs h2).elim
     · rw [hi] at h2;cases h2
 · cases hf:Qpx ds iops (ord::alts) j i with
   | true =>
     simp only [Qpx,hi,Bool.false_and,Bool.or_false,Bool.false_or,Qba] at hf
     exact (Qa0 hnτ hs (allB _ _ hf.2)).elim
   | false =>
     rcases main j i hlt hf hil with ⟨h1,h2 | h2⟩ | ⟨h1,h2⟩
     · exact (Qa0 hnτ hs h2).elim
     · rw [hi] at h2;cases h2
     · exact h1
end
end Go.Idl
namespace Go.Idl
open Go
def Jdr (cx:Cx) (ops:Array Oper) (n:Nat) (keep:List Nat) (o:Oper) (i:IOp):Bool :=
 bOp cx o i.k && (match o.dst,i.dst with
  | none,none=>true
  | some d,some e=>d == e && decide (d < n) && !keep.contains d
  | _,_=>false) && (match o.guard,i.g with
  | none,none=>true
  | some (j,b),some (s,c)=>b == c && (match (ops[j]?).bind (·.dst) with
    | some t=>t == s
    | none=>false)
  | _,_=>false)
def Qjv (iops:List IOp) (i:Nat):Cls:=match iops[i]? with
 | some o=>o.k.cls
 | none=>.oth
def Inv (cx:Cx) (w0:World) (F0:Nat→Prop) (ρ0:Rho) (fp0:Fp) (st0:St) (a0:Act) (keep:List Nat) (n:Nat) (st:St) (a:Act) (w:World):Prop :=
 ∃ F ρ fp,Rel cx w F ρ fp [] st (Qah a)∧Ext w0 F0 ρ0 fp0 [] (exB st0) w F ρ fp []∧Qbd st0 st∧n≤a.tmps.size∧a.defers=a0.defers∧∀ s ∈ keep,Qah a s=Qah a0 s
section
variable {cx:Cx} {w0:World} {F0:Nat→Prop} {ρ0:Rho} {fp0:Fp} {st0:St} {a0:Act} {keep:List Nat} {n:Nat} {cf:CF} {ops:Array Oper} {iops:List IOp}
variable {w w1:World} {F F1:Nat→Prop} {ρ ρ1:Rho} {fp fp1:Fp} {st st':St} {a:Act} {v:IV} {f':List Nat}
def putI (st:St) (d:Option Nat) (v:IV):St:=match d with
 | some d=>{ st with T:=tput st.T d v }
 | none=>st
theorem Qry {d:Nat} {v':Value} (h:d < a.tmps.size):Qah (a.put (some d) v')=fun s=>if s=d then v' else Qah a s:=by
 funext s
 simp only [Qah,Act.put]
 by_cases hs:s=d
 · subst hs;simp [h]
 · have:d ≠ s:=fun h=>hs h.symm
   simp [Array.getD_eq_getD_getElem?,Array.getElem?_setIfInBounds_ne this,hs]
theorem Jcx {d:Option Nat} {v':Value}:(a.put d v').tmps.size=a.tmps.size:=by
 cases d <;> simp [Act.put]
theorem Qq0 {d:Option Nat} {v':Value}:(a.put d v').defers=a.defers:=by
 cases d <;> rfl
theorem Qhs {d:Option Nat} {v':Value} (hR:Rel cx w F ρ fp (f'++[]) st (Qah a)) (hv:Qa4 cx w F ρ st (look st (Qah a) ρ w) v v' f') (hE:Ext w0 F0 ρ0 fp0 [] (exB st0) w F ρ fp (f'++[])) (hS:Qbd st0 st)
 (hn:n≤a.tmps.size) (hd:a.defers=a0.defers) (hk:∀ s ∈ keep,Qah a s=Qah a0 s) (hdn:∀ e,d=some e→e < n∧e ∉ keep):Inv cx w0 F0 ρ0 fp0 st0 a0 keep n (putI st d v) (a.put d v') w:=by
 cases d with
 | none =>
   exact ⟨F,ρ,fp,hR.less (List.nil_sublist _),⟨hE.size,hE.keep,hE.fpn,by simp,hE.Fm,hE.Fn,hE.rho,hE.env⟩,hS,hn,hd,hk⟩
 | some e =>
   obtain ⟨h1,h2⟩:=hdn e rfl
   have hlt:e < a.tmps.size:=by omega
   have h3:=hR.put hv e
   rw [← Qry hlt] at h3
   refine ⟨F,ρ,Qam fp (.S e) f',h3,⟨hE.size,hE.keep,fun r b hb=>?_,by simp,hE.Fm,hE.Fn,hE.rho,hE.env⟩,⟨hS.M,hS.loc⟩,by rw [Jcx];exact hn,by rw [Qq0];exact hd,fun s hs=>?_⟩
   · unfold Qam at hb;split at hb
     · exact hE.xn b (by simp [hb])
     · exact hE.fpn r b hb
   · rw [Qry hlt]
     have:s ≠ e:=fun h=>h2 (h ▸ hs)
     simp only [this,if_false];exact hk s hs
theorem Qpt {lk}:Qa4 cx w F ρ st lk (.tup []) undef []:=⟨#[],rfl,.nil⟩
theorem Jcc {o:Oper} {i:IOp} (hR:Rel cx w F ρ fp [] st (Qah a)) (hg:(match o.guard,i.g with
 | none,none=>true
 | some (j,b),some (s,c)=>b == c && (match (ops[j]?).bind (·.dst) with
   | some t=>t == s
   | none=>false)
 | _,_=>false)=true) {st':St} (hev:Qar cf st i=some st') :
 (Region.wanted o (yielded ops a.tmps)=true∧∃ v st1,ev cf st i.k=some (v,st1)∧st'=putI st1 i.dst v) ∨ (Region.wanted o (yielded ops a.tmps)=false∧st'=putI st i.dst (.tup [])):=by
 unfold Qar at hev
 split at hev
 · rename_i hi
   rw [hi] at hg
   have hog:o.guard=none:=by
    cases h:o.guard with
    | none=>rfl
    | some _=>rw [h] at hg;simp at hg
   refine .inl ⟨by simp [Region.wanted,hog],?_⟩
   split at hev
   · rename_i v st1 he
     refine ⟨v,st1,he,?_⟩
     unfold putI
     split at hev <;> simp_all
   · cases hev
 · rename_i s b hi
   rw [hi] at hg
   cases hog:o.guard with
   | none=>rw [hog] at hg;simp at hg
   | some p =>
   obtain ⟨j,b'⟩:=p
   rw [hog] at hg
   simp only [Qba,beq_iff_eq] at hg
   obtain ⟨hbb,hg⟩:=hg
   subst hbb
   split at hg
   rotate_left
   · cases hg
   rename_i t ht
   have hts:t=s:=by simpa using hg
   subst hts
   have hy:∀ x,Qah a t=x→yielded ops a.tmps j=(match x with | .bool b=>some b | _=>none) ∨ (∃ y,x=y∧∀ b,y ≠ .bool b):=by
    intro x hx
    by_cases hb:∃ b,x=.bool b
    · obtain ⟨b,rfl⟩:=hb
      left
      unfold yielded
      rw [ht]
      have:a.tmps[t]? = some (.bool b):=by
       simp only [Qah,Array.getD_eq_getD_getElem?] at hx
       cases hq:a.tmps[t]? with
       | none=>rw [hq] at hx;simp [undef] at hx
       | some y=>rw [hq] at hx;simp at hx;rw [hx]
      simp [this]
    · right;exact ⟨x,rfl,fun b hh=>hb ⟨b,hh⟩⟩
   have hyn:(∀ b,Qah a t ≠ .bool b)→yielded ops a.tmps j=none:=by
    intro hnb
    unfold yielded
    rw [ht]
    simp only [Option.bind_some]
    split
    · rename_i b hb
      exact absurd (by simp [Qah,Array.getD_eq_getD_getElem?,hb]) (hnb b)
    · rfl
   have hs:=hR.slots t
   split at hev
   · rename_i b1 hT
     rw [hT] at hs
     obtain ⟨hv,-,-⟩:=Qa6 hs
     have hyy:yielded ops a.tmps j=some b1:=by
      rcases hy _ hv with h | ⟨y,h1,h2⟩
      · exact h
      · exact absurd h1.symm (h2 b1)
     split at hev
     · rename_i hbe
       refine .inl ⟨by simp [Region.wanted,hog,hyy,hbe],?_⟩
       split at hev
       · rename_i v st1 he
         refine ⟨v,st1,he,?_⟩
         unfold putI
         split at hev <;> simp_all
       · cases hev
     · rename_i hbe
       refine .inr ⟨by simp [Region.wanted,hog,hyy,hbe],?_⟩
       unfold putI
       split at hev <;> simp_all
   · rename_i hT
     rw [hT] at hs
     obtain ⟨C,hC,hc⟩:=hs
     have hyy:=hyn (fun b hb=>by rw [hC] at hb;cases hb)
     refine .inr ⟨by simp [Region.wanted,hog,hyy],?_⟩
     unfold putI
     split at hev <;> simp_all
   · cases hev
theorem Jml {o:Oper} {i:IOp} (h:(match o.dst,i.dst with
 | none,none=>true
 | some d,some e=>d == e && decide (d < n) && !keep.contains d
 | _,_=>false)=true):o.dst=i.dst∧∀ e,i.dst=some e→e < n∧e ∉ keep:=by
 cases ho:o.dst with
 | none =>
   cases hi:i.dst with
   | none=>exact ⟨rfl,by simp⟩
   | some e=>rw [ho,hi] at h;cases h
 | some d =>
   cases hi:i.dst with
   | none=>rw [ho,hi] at h;cases h
   | some e =>
     rw [ho,hi] at h
     simp only [Qba,beq_iff_eq,decide_eq_true_eq,Bool.not_eq_true'] at h
     obtain ⟨⟨rfl,h2⟩,h3⟩:=h
     refine ⟨rfl,fun e he=>?_⟩
     cases he
     exact ⟨h2,by simpa using h3⟩
theorem Jek (hcf:Qb9 cx cf) (hlen:iops.length≤ops.size) :
 ∀ {l:List Nat} {st:St} {a:Act} {w:World} {st':St},(∀ i ∈ l,∀ (o:Oper) (x:IOp),ops[i]? = some o→iops[i]? = some x→Jdr cx ops n keep o x=true)→(∀ i ∈ l,i < iops.length)→Inv cx w0 F0 ρ0 fp0 st0 a0 keep n st a w→Qag cf st (Qaf iops l)=some st'→wpY cx.P ops (Qjv iops) (Inv cx w0 F0 ρ0 fp0 st0 a0 keep n st') l a w
 | [],st,a,w,st',_,_,hI,hev=>by
   simp only [Qaf,List.filterMap_nil,Qag,Qoi] at hev
   subst hev;exact hI
 | i::l,st,a,w,st',hck,hl,hI,hev=>by
   have hil:=hl i (by simp)
   have hx:iops[i]? = some iops[i]:=List.getElem?_eq_getElem hil
   have ho:ops[i]? = some (ops[i]'(by omega)):=Array.getElem?_eq_getElem _
   generalize iops[i]=x at hx
   generalize ops[i]'(by omega)=o at ho
   have hin:Qaf iops (i::l)=x::Qaf iops l:=by simp [Qaf,hx]
   rw [hin] at hev
   simp only [Qag] at hev
   split at hev
   rotate_left
   · cases hev
   rename_i st1 h1
   have hc:=hck i (by simp) o x ho hx
   simp only [Jdr,Qba] at hc
   obtain ⟨⟨hb,hd⟩,hg⟩:=hc
   obtain ⟨hde,hdn⟩:=Jml hd
   have hcls:Qjv iops i=x.k.cls:=by simp [Qjv,hx]
   have rest:∀ {a1:Act} {w1:World},Inv cx w0 F0 ρ0 fp0 st0 a0 keep n st1 a1 w1→wpY cx.P ops (Qjv iops) (Inv cx w0 F0 ρ0 fp0 st0 a0 keep n st') l a1 w1:=fun hI1 =>
    Jek hcf hlen (fun j hj=>hck j (by simp [hj])) (fun j hj=>hl j (by simp [hj])) hI1 hev
   obtain ⟨F,ρ,fp,hR,hE,hS,hn,hdf,hk⟩:=hI
   refine ⟨o,ho,?_⟩
   rw [hcls]
   rcases Jcc hR hg h1 with ⟨hw,v,st2,he,rfl⟩ | ⟨hw,rfl⟩
   · have hres:=Jlz hcf hR hb he
     rw [← hde] at rest
     rw [← hde] at hdn
     cases hk2:x.k.cls with
     | reg =>
       rw [hk2] at hres
       obtain ⟨rfl,v',hrun,hv⟩:=hres
       exact ⟨v',.inl ⟨hw,fun w'=>hrun w' trivial⟩,rest (Qhs hR hv hE hS hn hdf hk hdn)⟩
     | ld =>
       rw [hk2] at hres
       obtain ⟨rfl,v',hrun,hv⟩:=hres
       exact ⟨v',.inl ⟨hw,hrun w (.refl w)⟩,rest (Qhs hR hv hE hS hn hdf hk hdn)⟩
     | oth =>
       rw [hk2] at hres
       simp only
       have ext:∀ {w' F' ρ' fp' f'},Ext w F ρ fp [] (exB st) w' F' ρ' fp' (f'++[])→Ext w0 F0 ρ0 fp0 [] (exB st0) w' F' ρ' fp' (f'++[]):=fun h=>hE.trans h fun l k hb=>hS.box hb
       unfold wpOp
       simp only [ho,hw,if_true]
       left
       unfold Oper.wp
       rcases hres with ⟨v',w',F',ρ',fp',f',hy,hR',hv,hE',hS'⟩ | ⟨g,args,hrun,hcalls⟩
       · have hI1:=rest (Qhs hR' hv (ext hE') (hS.trans hS') hn hdf hk hdn)
         rcases hy with hy | ⟨hy,rfl⟩
         · rw [hy];exact hI1
         · rw [hy];exact hI1
       · rw [hrun]
         simp only [Oper.upon]
         refine hcalls.mono ?_
         rintro e w' ⟨v',F',ρ',fp',f',rfl,hR',hv,hE',hS'⟩
         exact rest (Qhs hR' hv (ext hE') (hS.trans hS') hn hdf hk hdn)
   · rw [← hde] at rest
     rw [← hde] at hdn
     have hI1:=rest (Qhs (f':=[]) (by simpa using hR) Qpt (by simpa using hE) hS hn hdf hk hdn)
     cases hk2:x.k.cls with
     | reg=>exact ⟨undef,.inr ⟨hw,rfl⟩,hI1⟩
     | ld=>exact ⟨undef,.inr ⟨hw,rfl⟩,hI1⟩
     | oth =>
       simp only
       unfold wpOp
       simp only [ho,hw,Bool.false_eq_true,if_false]
       exact hI1
theorem Qyx (hcf:Qb9 cx cf) (hck:∀ (i:Nat) (o:Oper) (x:IOp),ops[i]? = some o→iops[i]? = some x→Jdr cx ops n keep o x=true) (hlen:iops.length≤ops.size)
 {l:List Nat} {st:St} {a:Act} {w:World} {st':St} (hl:∀ i ∈ l,i < iops.length) (hI:Inv cx w0 F0 ρ0 fp0 st0 a0 keep n st a w) (hev:Qag cf st (Qaf iops l)=some st'):wpY cx.P ops (Qjv iops) (Inv cx w0 F0 ρ0 fp0 st0 a0 keep n st') l a w :=
 Jek hcf hlen (fun i _=>hck i) hl hI hev
end
end Go.Idl
namespace Go.Idl
open Go
theorem Qpv (k1 k2 k:Nat):swN k1 k2 (swN k1 k2 k)=k:=by
 unfold swN;split <;> split <;> (try split) <;> omega
def Jk3 (L k1 k2:Nat):Rt→Rt
 | .B l k=>.B l (if l=L then swN k1 k2 k else k)
 | r=>r
theorem Qnk (L k1 k2:Nat) (r:Rt):Jk3 L k1 k2 (Jk3 L k1 k2 r)=r:=by
 cases r with
 | S s=>rfl
 | B l k=>simp only [Jk3];by_cases h:l=L <;> simp [h,Qpv]
def Qt5 (L k1 k2:Nat) (ρ:Rho):Rho:=fun l k=>ρ l (if l=L then swN k1 k2 k else k)
theorem Qoa (g:IV→IV) (hg:g .un=.un):∀ (T:Tm) (s:Nat),Qan (T.map fun p=>(p.1,g p.2)) s=g (Qan T s)
 | [],s=>by simp [Qan,hg]
 | (k,v)::r,s=>by
   have:=Qoa g hg r s
   simp only [List.map_cons,Qan]
   split
   · rfl
   · exact this
theorem Qro {p:IV→Bool} (hp:p .un=true):∀ {T:Tm},T.all (fun q=>p q.2)=true→∀ s,p (Qan T s)=true
 | [],_,s=>by simpa [Qan] using hp
 | (k,v)::r,h,s=>by
   simp only [List.all_cons,Qba] at h
   simp only [Qan]
   split
   · exact h.1
   · exact Qro hp h.2 s
section
variable {cx:Cx} {w:World} {F:Nat→Prop} {ρ:Rho} {fp:Fp} {X:List Nat} {st st':St} {tm:Nat→Value}
theorem Rel.swB (h:Rel cx w F ρ fp X st tm) {k1 k2:Nat} (hsw:st.swB k1 k2=some st') :
 Rel cx w F (Qt5 st.M.length k1 k2 ρ) (fun r=>fp (Jk3 st.M.length k1 k2 r)) X st' tm:=by
 unfold St.swB at hsw
 split at hsw
 rotate_left
 · cases hsw
 rename_i hc
 obtain ⟨h1,h2,hT,hloc⟩:=hc
 simp only [Qoi] at hsw
 subst hsw
 obtain ⟨L,hL⟩:∃ L,L=st.M.length:=⟨_,rfl⟩
 rw [← hL] at hloc ⊢
 have hbox:∀ l k,({ st with T:=st.T.map fun p=>(p.1,p.2.swb L k1 k2),loc:=(st.loc.set k1 (st.loc.getD k2 [])).set k2 (st.loc.getD k1 []) }:St).box l k=st.box l (if l=L then swN k1 k2 k else k):=by
  intro l k
  simp only [St.box]
  by_cases hl:l=L
  · rw [if_pos (by omega),if_pos (by omega),if_pos hl]
    unfold swN
    by_cases e1:k=k1
    · subst e1
      rw [if_pos rfl]
      by_cases e2:k2=k
      · subst e2;rw [List.getElem?_set_self (by simpa using h2),List.getD_eq_getElem?_getD,List.getElem?_eq_getElem h1];rfl
      · rw [List.getElem?_set_ne e2,List.getElem?_set_self h1,List.getD_eq_getElem?_getD,List.getElem?_eq_getElem h2];rfl
    · rw [if_neg e1]
      by_cases e2:k=k2
      · subst e2
        rw [if_pos rfl,List.getElem?_set_self (by simpa using h2),List.getD_eq_getElem?_getD,List.getElem?_eq_getElem h1];rfl
      · rw [if_neg e2,List.getElem?_set_ne (fun hh=>e2 hh.symm),List.getElem?_set_ne (fun hh=>e1 hh.symm)]
  · rw [if_neg (by omega),if_neg (by omega),if_neg hl]
 have hinj:∀ r r',Jk3 L k1 k2 r=Jk3 L k1 k2 r'→r=r':=fun r r' hr=>by
  rw [← Qnk L k1 k2 r,hr,Qnk]
 have hcap:∀ (x:IV) (v:Value),x.noK L k1 k2=true→(x matches .bptr .. | .fn ..)→Qkg cx w F ρ st (fun _ _=>none) x v →
  Qkg cx w F (Qt5 L k1 k2 ρ) { st with T:=st.T.map fun p=>(p.1,p.2.swb L k1 k2),loc:=(st.loc.set k1 (st.loc.getD k2 [])).set k2 (st.loc.getD k1 []) } (fun _ _=>none) x v:=by
  have stay:∀ l k,(!(l == L && (k == k1 || k == k2)))=true→(if l=L then swN k1 k2 k else k)=k:=fun l k hn=>by
   by_cases hl:l=L
   · rw [if_pos hl]
     simp [hl] at hn
     rw [swN,if_neg hn.1,if_neg hn.2]
   · rw [if_neg hl]
  intro x v hn hx hr
  cases x with
  | bptr l k c =>
    have hs:=stay l k hn
    refine ⟨?_,?_⟩
    · rw [hr.1];simp only [Qt5,hs]
    · rw [hbox,hs];exact hr.2
  | fn f caps =>
    obtain ⟨cvs,q1,q2⟩:=hr
    refine ⟨cvs,q1,q2.mono fun z u g _ hz hm=>⟨?_,hz.2⟩⟩
    have hnz:=List.all_eq_true.1 hn z hm
    cases z with
    | bptr l k c =>
      have hs:=stay l k hnz
      refine ⟨?_,?_⟩
      · rw [hz.1.1];simp only [Qt5,hs]
      · rw [hbox,hs];exact hz.1.2
    | _=>exact hz.1.elim
  | _=>simp at hx
 refine ⟨fun s=>?_,fun l k cs hb=>?_,fun l k hb=>?_,fun r=>h.nodup _,fun r r' hr=>h.disj _ _ (fun hh=>hr (hinj _ _ hh)),fun r=>h.notF _,fun r=>h.lt _,h.Flt,h.xnodup,fun r=>h.xdisj _,h.xF,h.xlt⟩
 · have hs:=h.slots s
   have hf:=Qro (p:=IV.flat) rfl hT s
   rw [show Qan (st.T.map fun p=>(p.1,p.2.swb L k1 k2)) s=(Qan st.T s).swb L k1 k2 from Qoa (IV.swb L k1 k2) rfl st.T s]
   show Qa4 cx w F _ _ _ _ _ (fp (.S s))
   cases hx:Qan st.T s with
   | bptr l k c =>
     rw [hx] at hs
     rcases hs with ⟨hs,hfp⟩ | hs
     · refine .inl ⟨⟨?_,?_⟩,hfp⟩
       · rw [hs.1]
         simp only [Qt5]
         by_cases hl:l=L
         · simp [hl,Qpv]
         · simp [hl]
       · rw [hbox]
         by_cases hl:l=L
         · simp only [hl,if_true,Qpv];rw [hl] at hs;exact hs.2
         · simp only [hl,if_false];exact hs.2
     · cases hs
   | sc v=>rw [hx] at hs;exact hs.elim (fun h=>h.1.elim) .inr
   | lst e es cl=>rw [hx] at hs;exact hs.elim (fun h=>h.1.elim) .inr
   | own e es=>rw [hx] at hs;exact hs.elim (fun h=>h.1.elim) .inr
   | un=>rw [hx] at hs;exact hs
   | _=>rw [hx] at hf;simp [IV.flat] at hf
 · rw [hbox] at hb
   obtain ⟨C,ty,f,q1,q2,q3⟩:=h.boxes l _ cs hb
   refine ⟨C,ty,f,q1,q2,q3.mono fun x v g _ hx hm=>?_⟩
   rcases hx with ⟨p1,p2,p3,p4⟩ | hx
   · refine .inl ⟨hcap x v ?_ p3 p1,p2,p3,p4⟩
     by_cases hl:l=L
     · have:cs ∈ st.loc:=by
        rw [St.box,if_pos (by omega)] at hb
        exact List.mem_of_getElem? hb
       exact List.all_eq_true.1 (List.all_eq_true.1 hloc cs this) x hm
     · have hlt:l < L:=by
        rw [St.box,if_neg (by omega)] at hb
        split at hb
        · rename_i b hM
          have:=(List.getElem?_eq_some_iff.1 hM).1;omega
        · cases hb
       cases x with
       | bptr l' k c =>
         simp only [IV.lvl,decide_eq_true_eq] at p2
         have:(l' == L)=false:=by simp;omega
         simp [IV.noK,this]
       | fn f caps =>
         simp only [IV.lvl] at p2
         refine List.all_eq_true.2 fun z hz=>?_
         have hz2:=List.all_eq_true.1 p2 z hz
         cases z with
         | bptr l' k c =>
           simp only [decide_eq_true_eq] at hz2
           have:(l' == L)=false:=by simp;omega
           simp [this]
         | _=>rfl
       | _=>rfl
   · exact .inr hx
 · rw [hbox] at hb
   exact h.nobox l _ hb
end
end Go.Idl
namespace Go.Idl
open Go
def Jid (cx:Cx) (ops:Array Oper) (n:Nat) (keep:List Nat):List Oper→List IOp→Bool
 | [],[]=>true
 | o::os,x::xs=>Jdr cx ops n keep o x && Jid cx ops n keep os xs
 | _,_=>false
def Jld (cx:Cx) (n:Nat) (keep:List Nat):Code→List IOp→Opd→Nat→Bool
 | .region _ ops false,iops,x,t=>Jid cx ops n keep (ops.toList.take iops.length) iops && ops.size == iops.length+1 && (match ops[iops.length]? with
   | some o=>o.guard.isNone && (match o.dst with | some d=>d == t | none=>false) && decide (t < n) && !keep.contains t && (match o.op with
     | .binOp .eql T a (.const v) _=>vEq v (.slice none 0 0) && Qbj cx.P T (fun _=>true) && Qcx cx a x
     | _=>false)
   | none=>false)
 | _,_,_,_=>false
def Qbv (cx:Cx) (n:Nat) (keep:List Nat):IC→Code→Bool
 | i,.scope c=>Qbv cx n keep i c
 | .skip,.skip=>true
 | .skip,.label _=>true
 | .reg iops _ alts,.region _ ops draw=>Jid cx ops n keep ops.toList iops && (!draw || Qp0 ops (Qjv iops) alts)
 | .regd iops ord _ alts,.region _ ops draw=>Jid cx ops n keep ops.toList iops && draw && Ja4 ops iops ord alts
 | .regx iops ord _ ds alts,.region _ ops draw=>Jid cx ops n keep ops.toList iops && draw && Jcd ds ops iops ord alts
 | .seq x y,.seq a b=>Qbv cx n keep x a && Qbv cx n keep y b
 | .nilc iops x t _ y,.seq a b=>Jld cx n keep a iops x t && Qbv cx n keep y b
 | .nilc2 iops x t _ y1 y2,.seq (.seq a1 a2) b=>Jld cx n keep a1 iops x t && Qbv cx n keep y1 a2 && Qbv cx n keep y2 b
 | .cond d x y,.cond c a b=>Qcx cx c d && Qbv cx n keep x a && Qbv cx n keep y b
 | .block id' b',.block id b=>id == id' && Qbv cx n keep b' b
 | .loop b',.loop b=>Qbv cx n keep b' b
 | .exit id',.exit id=>id == id'
 | .ret,.ret=>true
 | .hole,_=>true
 | _,_=>false
abbrev Qe0 (cx:Cx) (n:Nat) (keep:List Nat) (c:Code) (i:IC):Bool:=Qbv cx n keep i c
def exOf:Ex→Exit
 | .normal=>.normal
 | .exit id=>.exit id
 | .ret=>.ret
section
variable {cx:Cx} {w0:World} {F0:Nat→Prop} {ρ0:Rho} {fp0:Fp} {st0:St} {a0:Act} {keep:List Nat} {n:Nat} {cf:CF}
variable {w:World} {st st':St} {a:Act}
def Jhp (cx:Cx) (w0:World) (F0:Nat→Prop) (ρ0:Rho) (fp0:Fp) (st0:St) (a0:Act) (keep:List Nat) (n:Nat) (ex:Ex) (st':St):Exit→Act→World→Prop :=
 fun e a w=>e=exOf ex∧Inv cx w0 F0 ρ0 fp0 st0 a0 keep n st' a w
theorem Qfg {ops:Array Oper}:∀ {os:List Oper} {xs:List IOp},Jid cx ops n keep os xs=true→os.length=xs.length∧∀ (i:Nat) (o:Oper) (x:IOp),os[i]? = some o→xs[i]? = some x→Jdr cx ops n keep o x=true
 | [],[],_=>⟨rfl,by simp⟩
 | o::os,x::xs,h=>by
   simp only [Jid,Qba] at h
   obtain ⟨h1,h2⟩:=Qfg h.2
   refine ⟨by simp [h1],fun i o' x' ho hx=>?_⟩
   cases i with
   | zero=>simp at ho hx;subst ho hx;exact h.1
   | succ i=>exact h2 i o' x' (by simpa using ho) (by simpa using hx)
 | [],_::_,h=>by cases h
 | _::_,[],h=>by cases h
theorem Qhc (l:List IOp):Qaf l (List.range l.length)=l:=by
 unfold Qaf
 induction l with
 | nil=>rfl
 | cons x l ih =>
   rw [List.length_cons,List.range_succ_eq_map,List.filterMap_cons]
   simp only [List.getElem?_cons_zero,List.filterMap_map]
   congr 1
theorem Qj2 (h:Inv cx w0 F0 ρ0 fp0 st0 a0 keep n st a w) (k:Nat):Inv cx w0 F0 ρ0 fp0 st0 a0 keep n st a { w with drawn:=k }:=by
 obtain ⟨F,ρ,fp,hR,hE,h1⟩:=h
 obtain ⟨hR',-⟩:=hR.grow (w':={ w with drawn:=k }) (fun _ _ _=>rfl) (Nat.le_refl _) (Y:=[]) .nil (by simp)
 exact ⟨F,ρ,fp,by simpa using hR',⟨hE.size,hE.keep,hE.fpn,hE.xn,hE.Fm,hE.Fn,hE.rho,hE.env⟩,h1⟩
theorem Qj6 (h:Inv cx w0 F0 ρ0 fp0 st0 a0 keep n st a w) (live:List Nat):Inv cx w0 F0 ρ0 fp0 st0 a0 keep n (st.cut live) a w:=by
 obtain ⟨F,ρ,fp,hR,hE,hS,h1⟩:=h
 obtain ⟨fp',k1,k2,k3⟩:=hR.restrict live
 exact ⟨F,ρ,fp',k3,⟨hE.size,hE.keep,fun r b hb=>hE.fpn r b (k1 r b hb),hE.xn,hE.Fm,hE.Fn,hE.rho,hE.env⟩,⟨hS.M,hS.loc⟩,h1⟩
theorem Jji (h:Inv cx w0 F0 ρ0 fp0 st0 a0 keep n st a w) {k1 k2:Nat} (h1:st0.loc.length≤k1) (h2:st0.loc.length≤k2) (hsw:st.swB k1 k2=some st'):Inv cx w0 F0 ρ0 fp0 st0 a0 keep n st' a w:=by
 obtain ⟨F,ρ,fp,hR,hE,hS,hk⟩:=h
 have hMl:st0.M.length=st.M.length:=by have:=congrArg List.length hS.M;simpa using this.symm
 refine ⟨F,_,_,hR.swB hsw,⟨hE.size,hE.keep,fun r b hb=>hE.fpn _ b hb,hE.xn,hE.Fm,hE.Fn,fun l k hex=>?_,hE.env⟩,?_,hk⟩
 · have:=hE.rho l k hex
   rw [← this]
   simp only [Qt5]
   by_cases hl:l=st.M.length
   · rw [if_pos hl]
     have hex:(st0.box l k).isSome=true:=hex
     rw [St.box,if_pos (by omega)] at hex
     have hkl:k < st0.loc.length:=by
      cases hq:st0.loc[k]? with
      | none=>rw [hq] at hex;cases hex
      | some b=>exact (List.getElem?_eq_some_iff.1 hq).1
     rw [swN,if_neg (by omega),if_neg (by omega)]
   · rw [if_neg hl]
 · unfold St.swB at hsw
   split at hsw
   · simp only [Qoi] at hsw
     subst hsw
     exact ⟨hS.M,by simpa using hS.loc⟩
   · cases hsw
theorem Qw3 (h:Inv cx w0 F0 ρ0 fp0 st0 a0 keep n st a w) {c:Operand} {d:Opd} (hc:Qav cx c d) {t:Bool} (ht:rd st.T d=.sc (.bool t)):a.eval c=.bool t:=by
 obtain ⟨F,ρ,fp,hR,-⟩:=h
 have:=Qat hR hc
 rw [ht] at this
 exact (Qa6 this).1
theorem Ji3 {P:Program} {ops:Array Oper} {cls:Nat→Cls} {K K2:Act→World→Prop} {l l2:List Nat} (hK:∀ a w,K2 a w→wpY P ops cls K l2 a w):∀ {a:Act} {w:World},wpY P ops cls K2 l a w→wpY P ops cls K (l++l2) a w:=by
 induction l with
 | nil=>intro a w h;exact hK a w h
 | cons i l ih =>
   intro a w h
   obtain ⟨o,ho,h⟩:=h
   refine ⟨o,ho,?_⟩
   split at h
   · obtain ⟨v,hy,h⟩:=h;exact ⟨v,hy,ih h⟩
   · obtain ⟨v,hy,h⟩:=h;exact ⟨v,hy,ih h⟩
   · exact wpOp_mono (fun _ _=>ih) h
theorem Qs9 {x:IV} {v:Value} {b:Bool} {F:Nat→Prop} {ρ:Rho} {fp:Fp} {X:List Nat} (hR:Rel cx w F ρ fp X st (Qah a)) (h:Qa4 cx w F ρ st (look st (Qah a) ρ w) x v []) (hb:Qjg x=some b) :
 ∃ ad len cap,v=.slice ad len cap∧(b=false→ad.isSome=true):=by
 unfold Qjg at hb
 split at hb
 · rename_i e es c
   simp only [Qoi] at hb
   have hd:RDs w F [.lst e es c] [v] []:=by
    rcases h with ⟨h,_⟩ | h
    · exact h.elim
    · exact h
   obtain ⟨-,h1⟩:=hd.lst_inv
   rcases h1 with ⟨rfl,ad,cap,rfl,-⟩ | ⟨b1,o,cap,C,ty,fr,rfl,_⟩
   · exact ⟨ad,0,cap,rfl,fun hf=>by subst hb;simp at hf⟩
   · exact ⟨_,_,_,rfl,fun _=>rfl⟩
 · rename_i r c p e off n cl
   simp only [Qoi] at hb
   rcases h with ⟨⟨x0,v0,es,A0,N,cap0,A,cap,k1,k2,k3,hA,k5,k6,k7,k8⟩,_⟩ | h
   · refine ⟨A,n,cap,hA,fun hf=>?_⟩
     subst hb
     have hn:0 < n:=by
      rcases Nat.eq_zero_or_pos n with h | h
      · subst h;simp at hf
      · exact h
     obtain ⟨b,o1,-,rfl⟩:=k8.1 (by omega)
     rfl
   · cases h
 · cases hb
theorem Qth {P:Program} {T e:TypeId} (hT:P.underlying T=some (.slice e)) {ad:Option Addr} {len cap:Nat} (w:World) (d:Nat):(Op.equalIn (d+1) T (.slice ad len cap) (.slice none 0 0)).run P w=.ok ad.isNone w:=by
 cases ad <;> simp [Op.equalIn,run_underlying hT]
theorem Qz2 {P:Program} {T e:TypeId} (hT:P.underlying T=some (.slice e)) {ad:Option Addr} {len cap:Nat} (w:World):(Op.equal T (.slice ad len cap) (.slice none 0 0)).run P w=.ok ad.isNone w :=
 Qth hT w 9999
theorem Qk4 (hcf:Qb9 cx cf) {x:Code} {G:Act→World→Prop} {Q:Exit→Act→World→Prop} {iops:List IOp} {e:Opd} {t:Nat} {live:List Nat} {f:St→Option (Ex×St)} {ex:Ex} (hb:Jld cx n keep x iops e t=true) (hev:Qfk (Qag cf st iops) e t live f=some (ex,st'))
 (hI:Inv cx w0 F0 ρ0 fp0 st0 a0 keep n st a w) (hy:∀ {st:St} {a:Act} {w:World},f st=some (ex,st')→Inv cx w0 F0 ρ0 fp0 st0 a0 keep n st a w→G a w) :
 x.wp cx.P (Exit.then G Q) a w:=by
 obtain ⟨id,ops,rfl⟩:∃ id ops,x=.region id ops false:=by
  unfold Jld at hb
  split at hb
  · exact ⟨_,_,rfl⟩
  · cases hb
 simp only [Jld,Qba,beq_iff_eq] at hb
 obtain ⟨⟨hops,hsz⟩,hb⟩:=hb
 split at hb
 rotate_left
 · cases hb
 rename_i o ho
 simp only [Qba,decide_eq_true_eq,Bool.not_eq_true',Option.isNone_iff_eq_none] at hb
 obtain ⟨⟨⟨⟨hg,hd⟩,htn⟩,htk⟩,hop⟩:=hb
 split at hd
 rotate_left
 · cases hd
 rename_i d hdst
 have hdt:d=t:=eq_of_beq hd
 subst hdt
 split at hop
 rotate_left
 · cases hop
 rename_i T xo v yt hopk
 simp only [Qba] at hop
 obtain ⟨⟨hv,hT⟩,hx⟩:=hop
 have hv':=Qyb hv
 subst hv'
 obtain ⟨el,hel,-⟩:=Qax hT
 obtain ⟨hlen,hck⟩:=Qfg hops
 have hck':∀ (i:Nat) (o:Oper) (x:IOp),ops[i]? = some o→iops[i]? = some x→Jdr cx ops n keep o x=true:=fun i o x ho hx=>by
  have hi:i < iops.length:=(List.getElem?_eq_some_iff.1 hx).1
  exact hck i o x (by rw [List.getElem?_take_of_lt hi];simpa using ho) hx
 unfold Qfk at hev
 split at hev
 rotate_left
 · cases hev
 rename_i st1 h1
 obtain ⟨b,hbe,hboth⟩:∃ b,Qjg (rd st1.T e)=some b∧∀ b0,(b=false→b0=false)→f (st1.flag d b0 live)=some (ex,st'):=by
  split at hev
  · rename_i he
    exact ⟨false,he,fun b0 h0=>by rw [h0 rfl];exact hev⟩
  · rename_i he
    refine ⟨true,he,fun b0 _=>?_⟩
    split at hev
    rotate_left
    · cases hev
    rename_i r r' hr hr'
    split at hev
    rotate_left
    · cases hev
    rename_i hrr
    simp only [Qoi] at hev
    subst hrr
    cases b0
    · rw [hr',hev]
    · rw [hr,hev]
  · cases hev
 refine Qq5 (cls:=Qjv iops) (K:=G) (fun a w h=>h) ?_
 rw [hsz,List.range_succ]
 refine Ji3 (K2:=Inv cx w0 F0 ρ0 fp0 st0 a0 keep n st1) (fun a1 w1 hI1=>?_) (Qyx hcf hck' (by omega) (fun i hi=>List.mem_range.1 hi) hI (by rw [Qhc];exact h1))
 refine ⟨o,ho,?_⟩
 have hcls:Qjv iops iops.length=.oth:=by simp [Qjv]
 rw [hcls]
 simp only
 have hI1':=hI1
 obtain ⟨F,ρ,fp,hR,hE,hS,hn,hdf,hk⟩:=hI1
 obtain ⟨ad,len,cap,hval,had⟩:=Qs9 hR (Qat hR (Qad hx)) hbe
 have hw:Region.wanted o (yielded ops a1.tmps)=true:=by simp [Region.wanted,hg]
 have hrun:(execOp a1.eval o).run cx.P w1=.ok (.value (.bool ad.isNone)) w1:=by
  have he:a1.eval (.const (.slice none 0 0))=.slice none 0 0:=rfl
  simp [execOp,hopk,hval,he,eqGuard,binOp,Qz2 hel]
 unfold wpOp
 simp only [ho,hw,if_true]
 left
 unfold Oper.wp
 rw [hrun,Oper.upon_value,hdst]
 simp only [wpY]
 have hb0:b=false→ad.isNone=false:=fun h=>by
  have:=had h
  cases ad <;> simp_all
 refine hy (hboth ad.isNone hb0) ?_
 have:=Qhs (cx:=cx) (w0:=w0) (F0:=F0) (ρ0:=ρ0) (fp0:=fp0) (st0:=st0) (a0:=a0) (keep:=keep) (n:=n) (d:=some d) (f':=[]) (v':=.bool ad.isNone) (v:=.sc (.bool ad.isNone)) (by simpa using hR) (Qb7 rfl) (by simpa using hE) hS hn hdf hk
  (fun e he=>by cases he;exact ⟨htn,by simpa using htk⟩)
 exact Qj6 this live
theorem Qk1 (hcf:Qb9 cx cf) (hm:cx.P.follows .mixedOrders=true):∀ (N:Nat) (c:Code),SizeOf.sizeOf c < N→∀ {i:IC},Qe0 cx n keep c i=true→∀ {fuel:Nat} {st:St} {ex:Ex} {st':St} {a:Act} {w:World},
 Qb0 cf fuel i st=some (ex,st')→Inv cx w0 F0 ρ0 fp0 st0 a0 keep n st a w→c.wp cx.P (Jhp cx w0 F0 ρ0 fp0 st0 a0 keep n ex st') a w:=by
 intro N
 induction N with
 | zero=>intro c hN;omega
 | succ N ihN =>
 intro c hN
 cases c with
 | skip =>
   intro i hb fuel st ex st' a w hev hI
   cases i <;> simp only [Qe0,Qbv] at hb <;> try (first | (cases hb;done) | (simp only [Qb0] at hev;cases hev;done))
   simp only [Qb0,Qoi,Qpi] at hev
   obtain ⟨rfl,rfl⟩:=hev
   exact wp_skip ⟨rfl,hI⟩
 | label l =>
   intro i hb fuel st ex st' a w hev hI
   cases i <;> simp only [Qe0,Qbv] at hb <;> try (first | (cases hb;done) | (simp only [Qb0] at hev;cases hev;done))
   simp only [Qb0,Qoi,Qpi] at hev
   obtain ⟨rfl,rfl⟩:=hev
   exact wp_label ⟨rfl,hI⟩
 | scope c =>
   have ih:=fun {i:IC}=>ihN c (by simp at hN;omega) (i:=i)
   intro i hb fuel st ex st' a w hev hI
   have hb':Qe0 cx n keep c i=true:=by
    cases i <;> simpa only [Qe0,Qbv] using hb
   refine wp_scope_straight (wp_mono (ih hb' hev hI) ?_)
   rintro e a w ⟨rfl,h⟩
   cases ex <;> exact ⟨rfl,h⟩
 | region id ops draw =>
   intro i hb fuel st ex st' a w hev hI
   cases i <;> simp only [Qe0,Qbv] at hb <;> try (first | (cases hb;done) | (simp only [Qb0] at hev;cases hev;done))
   rotate_left
   · rename_i iops ord live alts
     simp only [Qba] at hb
     obtain ⟨⟨hops,hdraw⟩,hdr'⟩:=hb
     subst hdraw
     obtain ⟨hlen,hck⟩:=Qfg hops
     have hlen':ops.size=iops.length:=by simpa using hlen
     have hck':∀ (i:Nat) (o:Oper) (x:IOp),ops[i]? = some o→iops[i]? = some x→Jdr cx ops n keep o x=true:=fun i o x ho hx=>hck i o x (by simpa using ho) hx
     simp only [Qb0] at hev
     split at hev
     rotate_left
     · cases hev
     rename_i st1 hreg
     simp only [Qoi,Qpi] at hev
     obtain ⟨rfl,rfl⟩:=hev
     unfold Ql7 at hreg
     split at hreg
     rotate_left
     · cases hreg
     rename_i st2 hmain
     split at hreg
     rotate_left
     · cases hreg
     rename_i hcond
     obtain ⟨hnh,hok,halts⟩:=hcond
     simp only [Qoi] at hreg
     subst hreg
     · refine wp_region_draw fun t=>?_
       simp only [Region.schedule,hm,Bool.true_or,if_true]
       have hb:Qke .any ops=true:=by
        unfold Ja4 at hdr'
        simp only [Qba] at hdr'
        exact hdr'.1.1.1.1.1
       have hL:=Qvv hb t
       obtain ⟨τ,hτ,h1,h2,h3,h4,h5⟩:=Qs5 hdr' hL
       have hlt:∀ i ∈ τ,i < iops.length:=fun i hi=>by rw [← hlen'];exact (hL.mem i).1 (h1.symm.subset hi)
       obtain ⟨sτ,k1,k2,k3⟩:∃ sτ,Qh9 cf iops st τ=some sτ∧Qf1 cf st (Qaf iops τ)∧(sτ.cut live).alike st.loc.length (st2.cut live):=by
        rcases List.mem_cons.1 hτ with rfl | hτ
        · exact ⟨st2,hmain,hok,.inl rfl⟩
        · obtain ⟨g1,st3,g2,g3⟩:=halts τ hτ
          exact ⟨st3,g2,g1,g3⟩
       have hF:Jj2 cf iops st τ sτ:=⟨hlt,fun i hi x hx hsw d hd=>by
        have:=List.all_eq_true.1 hnh x (List.mem_of_getElem? hx)
        simpa [hsw,hd] using this,h3,k2,k1⟩
       obtain ⟨s',r1,r2⟩:=Qoe h1 h2 h4 h5 hF
       have:=Qyx (l:=Region.linearise .any ops t) hcf hck' (by omega) (fun i hi=>by rw [← hlen'];exact (hL.mem i).1 hi) (Qj2 hI (w.drawn+1)) r1
       refine Qmc (fun a w h=>⟨rfl,?_⟩) this
       have hcut:=Qj6 h live
       rw [Qxi r2] at hcut
       rcases k3 with k3 | ⟨q1,q2,q3,q4,k3⟩
       · rw [← k3];exact hcut
       · exact Jji hcut (by obtain ⟨F,ρ,fp,hR,hE,hS,h1⟩:=hI;have:=hS.loc;omega) (by obtain ⟨F,ρ,fp,hR,hE,hS,h1⟩:=hI;have:=hS.loc;omega) k3
   · rename_i iops ord live ds alts
     simp only [Qba] at hb
     obtain ⟨⟨hops,hdraw⟩,hdr'⟩:=hb
     subst hdraw
     obtain ⟨hlen,hck⟩:=Qfg hops
     have hlen':ops.size=iops.length:=by simpa using hlen
     have hck':∀ (i:Nat) (o:Oper) (x:IOp),ops[i]? = some o→iops[i]? = some x→Jdr cx ops n keep o x=true:=fun i o x ho hx=>hck i o x (by simpa using ho) hx
     simp only [Qb0] at hev
     split at hev
     rotate_left
     · cases hev
     rename_i st1 hreg
     simp only [Qoi,Qpi] at hev
     obtain ⟨rfl,rfl⟩:=hev
     unfold Ql6 at hreg
     split at hreg
     rotate_left
     · cases hreg
     rename_i st2 hmain
     split at hreg
     rotate_left
     · cases hreg
     rename_i hcond
     obtain ⟨hnh,hok,halts⟩:=hcond
     simp only [Qoi] at hreg
     subst hreg
     · refine wp_region_draw fun t=>?_
       simp only [Region.schedule,hm,Bool.true_or,if_true]
       have hb:Qke .any ops=true:=by
        unfold Jcd at hdr'
        simp only [Qba] at hdr'
        exact hdr'.1.1.1.1.1
       have hL:=Qvv hb t
       obtain ⟨τ,hτ,h1,h2,h3,h4,h5⟩:=Qt9 hdr' hL
       have hlt:∀ i ∈ τ,i < iops.length:=fun i hi=>by rw [← hlen'];exact (hL.mem i).1 (h1.symm.subset hi)
       obtain ⟨sτ,k1,k2,k3⟩:∃ sτ,Qh9 cf iops st τ=some sτ∧okX cf ds st (Qaf iops τ)∧sτ.cut live=st2.cut live:=by
        rcases List.mem_cons.1 hτ with rfl | hτ
        · exact ⟨st2,hmain,hok,rfl⟩
        · obtain ⟨g1,st3,g2,g3⟩:=halts τ hτ
          exact ⟨st3,g2,g1,g3⟩
       have hF:Qqz cf ds iops st τ sτ:=⟨hlt,fun i hi x hx hsw d hd=>by
        have:=List.all_eq_true.1 hnh x (List.mem_of_getElem? hx)
        simp only [hsw,hd,Bool.not_true,Bool.false_or] at this
        generalize Qan st.T d=u at this
        cases u <;> simp [unV] at this
        rfl,h3,k2,k1⟩
       obtain ⟨s',r1,r2⟩:=Qk7 h1 h2 h4 h5 hF
       have:=Qyx (l:=Region.linearise .any ops t) hcf hck' (by omega) (fun i hi=>by rw [← hlen'];exact (hL.mem i).1 hi) (Qj2 hI (w.drawn+1)) r1
       refine Qmc (fun a w h=>⟨rfl,?_⟩) this
       have hcut:=Qj6 h live
       rw [Qxi r2] at hcut
       rw [← k3];exact hcut
   rename_i iops live alts
   simp only [Qba,Bool.or_eq_true,Bool.not_eq_true'] at hb
   obtain ⟨hops,hdr⟩:=hb
   obtain ⟨hlen,hck⟩:=Qfg hops
   have hlen':ops.size=iops.length:=by simpa using hlen
   have hck':∀ (i:Nat) (o:Oper) (x:IOp),ops[i]? = some o→iops[i]? = some x→Jdr cx ops n keep o x=true:=fun i o x ho hx=>hck i o x (by simpa using ho) hx
   simp only [Qb0] at hev
   split at hev
   rotate_left
   · cases hev
   rename_i st1 hreg
   simp only [Qoi,Qpi] at hev
   obtain ⟨rfl,rfl⟩:=hev
   unfold Qqj at hreg
   split at hreg
   rotate_left
   · cases hreg
   rename_i st2 hmain
   split at hreg
   rotate_left
   · cases hreg
   rename_i halts
   simp only [Qoi] at hreg
   subst hreg
   have run:∀ (τ:List Nat) (w1:World),Inv cx w0 F0 ρ0 fp0 st0 a0 keep n st a w1→τ ∈ List.range ops.size::alts→(∀ i ∈ τ,i < ops.size)→wpY cx.P ops (Qjv iops) (Inv cx w0 F0 ρ0 fp0 st0 a0 keep n (st2.cut live)) τ a w1:=by
    intro τ w1 hI1 hτ hlt
    rcases List.mem_cons.1 hτ with rfl | hτ
    · have:=Qyx (l:=List.range ops.size) hcf hck' (by omega) (fun i hi=>by rw [← hlen'];exact hlt i hi) hI1 (st':=st2) (by rw [hlen',Qhc];exact hmain)
      exact Qsg (fun a w h=>Qj6 h live) this
    · obtain ⟨st3,h3,h4⟩:=halts τ hτ
      have:=Qyx (l:=τ) hcf hck' (by omega) (fun i hi=>by rw [← hlen'];exact hlt i hi) hI1 h3
      exact Qsg (fun a w h=>by rw [← h4];exact Qj6 h live) this
   cases draw with
   | false =>
     exact Qq5 (fun a w h=>⟨rfl,h⟩) (run (List.range ops.size) w hI (by simp) (fun i hi=>List.mem_range.1 hi))
   | true =>
     have hdr':Qp0 ops (Qjv iops) alts=true:=by
      rcases hdr with h | h
      · cases h
      · exact h
     refine Jbe hm hdr' (fun a w h=>⟨rfl,h⟩) fun τ hτ=>run τ _ (Qj2 hI _) hτ fun i hi=>?_
     rcases List.mem_cons.1 hτ with rfl | hτ
     · exact List.mem_range.1 hi
     · unfold Qp0 at hdr'
       simp only [Qba] at hdr'
       have hp:=List.all_eq_true.1 hdr'.1.1.2 τ hτ
       exact List.mem_range.1 ((Qft hp).subset hi)
 | seq x y =>
   have ihx:=fun {i:IC}=>ihN x (by simp at hN;omega) (i:=i)
   have ihy:=fun {i:IC}=>ihN y (by simp at hN;omega) (i:=i)
   intro i hb fuel st ex st' a w hev hI
   cases i <;> simp only [Qe0,Qbv] at hb <;> try (first | (cases hb;done) | (simp only [Qb0] at hev;cases hev;done))
   rotate_left
   · rename_i iops e t live y'
     simp only [Qba] at hb
     simp only [Qb0] at hev
     exact wp_seq (Qk4 hcf hb.1 hev hI fun {st a w} hev hI=>ihy hb.2 hev hI)
   · rename_i iops e t live y1 y2
     cases x <;> simp only [Qe0,Qbv] at hb <;> try (first | (cases hb;done) | (simp only [Qb0] at hev;cases hev;done))
     rename_i x1 x2
     simp only [Qba] at hb
     have ih2:=fun {i:IC}=>ihN x2 (by simp at hN;omega) (i:=i)
     simp only [Qb0] at hev
     refine wp_seq (wp_seq (Qk4 hcf hb.1.1 hev hI fun {st a w} hev hI=>?_))
     unfold Jkv at hev
     cases h1:Qb0 cf fuel y1 st with
     | none=>simp [h1] at hev
     | some p =>
     obtain ⟨ex1,st1⟩:=p
     simp only [h1] at hev
     refine wp_mono (ih2 hb.1.2 h1 hI) ?_
     rintro e a1 w1 ⟨rfl,hI1⟩
     cases ex1 with
     | normal=>exact ihy hb.2 hev hI1
     | exit id=>simp only [Qoi,Qpi] at hev;obtain ⟨rfl,rfl⟩:=hev;exact ⟨rfl,hI1⟩
     | ret=>simp only [Qoi,Qpi] at hev;obtain ⟨rfl,rfl⟩:=hev;exact ⟨rfl,hI1⟩
   rename_i x' y'
   simp only [Qba] at hb
   simp only [Qb0] at hev
   cases h1:Qb0 cf fuel x' st with
   | none=>simp [h1] at hev
   | some p =>
   obtain ⟨ex1,st1⟩:=p
   simp only [h1] at hev
   refine wp_seq (wp_mono (ihx hb.1 h1 hI) ?_)
   rintro e a1 w1 ⟨rfl,hI1⟩
   cases ex1 with
   | normal=>exact ihy hb.2 hev hI1
   | exit id=>simp only [Qoi,Qpi] at hev;obtain ⟨rfl,rfl⟩:=hev;exact ⟨rfl,hI1⟩
   | ret=>simp only [Qoi,Qpi] at hev;obtain ⟨rfl,rfl⟩:=hev;exact ⟨rfl,hI1⟩
 | cond c x y =>
   have ihx:=fun {i:IC}=>ihN x (by simp at hN;omega) (i:=i)
   have ihy:=fun {i:IC}=>ihN y (by simp at hN;omega) (i:=i)
   intro i hb fuel st ex st' a w hev hI
   cases i <;> simp only [Qe0,Qbv] at hb <;> try (first | (cases hb;done) | (simp only [Qb0] at hev;cases hev;done))
   rename_i d x' y'
   simp only [Qba] at hb
   simp only [Qb0] at hev
   split at hev
   rotate_left
   · cases hev
   rename_i t ht
   have hc:=Qw3 hI (Qad hb.1.1) ht
   refine wp_cond_split hc (fun h=>?_) (fun h=>?_)
   · subst h;simp only [if_true] at hev;exact ihx hb.1.2 hev hI
   · subst h;simp only [Bool.false_eq_true,if_false] at hev;exact ihy hb.2 hev hI
 | block id b =>
   have ih:=fun {i:IC}=>ihN b (by simp at hN;omega) (i:=i)
   intro i hb fuel st ex st' a w hev hI
   cases i <;> simp only [Qe0,Qbv] at hb <;> try (first | (cases hb;done) | (simp only [Qb0] at hev;cases hev;done))
   rename_i id' b'
   simp only [Qba,beq_iff_eq] at hb
   obtain ⟨rfl,hb⟩:=hb
   simp only [Qb0] at hev
   cases h1:Qb0 cf fuel b' st with
   | none=>simp [h1] at hev
   | some p =>
   obtain ⟨ex1,st1⟩:=p
   simp only [h1] at hev
   refine wp_block (wp_mono (ih hb h1 hI) ?_)
   rintro e a1 w1 ⟨rfl,hI1⟩
   cases ex1 with
   | normal=>simp only [Qoi,Qpi] at hev;obtain ⟨rfl,rfl⟩:=hev;exact ⟨rfl,hI1⟩
   | ret=>simp only [Qoi,Qpi] at hev;obtain ⟨rfl,rfl⟩:=hev;exact ⟨rfl,hI1⟩
   | exit j =>
     simp only at hev
     simp only [exOf,Exit.inBlock]
     split at hev
     · rename_i hj
       simp only [Qoi,Qpi] at hev;obtain ⟨rfl,rfl⟩:=hev
       simp only [hj,if_true];exact ⟨rfl,hI1⟩
     · rename_i hj
       simp only [Qoi,Qpi] at hev;obtain ⟨rfl,rfl⟩:=hev
       simp only [hj,if_false];exact ⟨rfl,hI1⟩
 | loop b =>
   have ih:=fun {i:IC}=>ihN b (by simp at hN;omega) (i:=i)
   intro i hb fuel st ex st' a w hev hI
   cases i <;> simp only [Qe0,Qbv] at hb <;> try (first | (cases hb;done) | (simp only [Qb0] at hev;cases hev;done))
   rename_i b'
   simp only [Qb0] at hev
   have key:∀ (m:Nat) (st:St) (a:Act) (w:World),Jaq (Qb0 cf fuel b') m st=some (ex,st')→Inv cx w0 F0 ρ0 fp0 st0 a0 keep n st a w→Code.rounds cx.P b (Jhp cx w0 F0 ρ0 fp0 st0 a0 keep n ex st') m a w:=by
    intro m
    induction m with
    | zero=>intro st a w h;simp [Jaq] at h
    | succ m ihm =>
      intro st a w h hI
      rw [rounds_succ]
      simp only [Jaq] at h
      cases h1:Qb0 cf fuel b' st with
      | none=>simp [h1] at h
      | some p =>
      obtain ⟨ex1,st1⟩:=p
      simp only [h1] at h
      refine wp_mono (ih hb h1 hI) ?_
      rintro e a1 w1 ⟨rfl,hI1⟩
      cases ex1 with
      | normal=>exact ihm st1 a1 w1 h hI1
      | exit j=>simp only [Qoi,Qpi] at h;obtain ⟨rfl,rfl⟩:=h;exact ⟨rfl,hI1⟩
      | ret=>simp only [Qoi,Qpi] at h;obtain ⟨rfl,rfl⟩:=h;exact ⟨rfl,hI1⟩
   exact wp_loop_rounds fuel (key fuel st a w hev hI)
 | exit id =>
   intro i hb fuel st ex st' a w hev hI
   cases i <;> simp only [Qe0,Qbv] at hb <;> try (first | (cases hb;done) | (simp only [Qb0] at hev;cases hev;done))
   simp only [beq_iff_eq] at hb
   subst hb
   simp only [Qb0,Qoi,Qpi] at hev
   obtain ⟨rfl,rfl⟩:=hev
   exact wp_exit ⟨rfl,hI⟩
 | ret =>
   intro i hb fuel st ex st' a w hev hI
   cases i <;> simp only [Qe0,Qbv] at hb <;> try (first | (cases hb;done) | (simp only [Qb0] at hev;cases hev;done))
   simp only [Qb0,Qoi,Qpi] at hev
   obtain ⟨rfl,rfl⟩:=hev
   exact wp_ret ⟨rfl,hI⟩
 | rangeFunc f ps x y =>
   intro i hb fuel st ex st' a w hev hI
   cases i <;> first | (simp [Qe0,Qbv] at hb;done) | (simp only [Qb0] at hev;cases hev;done)
 | goto l =>
   intro i hb fuel st ex st' a w hev hI
   cases i <;> first | (simp [Qe0,Qbv] at hb;done) | (simp only [Qb0] at hev;cases hev;done)
 | refuse s =>
   intro i hb fuel st ex st' a w hev hI
   cases i <;> first | (simp [Qe0,Qbv] at hb;done) | (simp only [Qb0] at hev;cases hev;done)
theorem Qtv (hcf:Qb9 cx cf) (hm:cx.P.follows .mixedOrders=true) {c:Code} {i:IC} (hb:Qe0 cx n keep c i=true) {fuel:Nat} {st:St} {ex:Ex} {st':St} {a:Act} {w:World}
 (hev:Qb0 cf fuel i st=some (ex,st')) (hI:Inv cx w0 F0 ρ0 fp0 st0 a0 keep n st a w):c.wp cx.P (Jhp cx w0 F0 ρ0 fp0 st0 a0 keep n ex st') a w :=
 Qk1 hcf hm (SizeOf.sizeOf c+1) c (Nat.lt_succ_self _) hb hev hI
end
def bRes (P:Program):ResultVar→Jai→Bool
 | .tmp t,.t s=>t == s
 | .cell a t,.c b sz ag=>a == b && Qi1 P t sz && Jvj P t ag
 | _,_=>false
def Jbx (P:Program):List ResultVar→List Jai→Bool
 | [],[]=>true
 | x::xs,y::ys=>bRes P x y && Jbx P xs ys
 | _,_=>false
theorem Qsl {P:Program}:∀ {xs:List ResultVar} {ys:List Jai},Jbx P xs ys=true→Qq2 P xs ys
 | [],[],_=>trivial
 | x::xs,y::ys,h=>by
   simp only [Jbx,Qba] at h
   refine ⟨?_,Qsl h.2⟩
   cases x <;> cases y <;> simp only [bRes] at h
   · simpa [Jgi] using h.1
   · exact absurd h.1 (by simp)
   · exact absurd h.1 (by simp)
   · simp only [Qba,beq_iff_eq] at h
     exact ⟨h.1.1.1,Qcs h.1.1.2,Qmt h.1.2⟩
 | [],_::_,h=>by cases h
 | _::_,[],h=>by cases h
def Qbw (cx:Cx) (rf:Func) (f:Qbl):Bool:=(rf.name != "runtime.NumGoroutine") && Jbx cx.P rf.results.toList f.res && (match rf.body with
 | some c=>Qe0 cx rf.ntmps f.keep c f.body
 | none=>false)
def Jeq (v:IV) (M:List Qae):Option Ret:=match ({ T:=[(0,v)],loc:=[],M:=M }:St).retvs [.t 0] with
 | some (vs,st)=>match st.backs [] with
   | some (back,st)=>st.leave (Qbo vs) back
   | none=>none
 | none=>none
def Jni (cx:Cx) (f:Lab) (fn:Qbl):Prop:=∃ g,fn=⟨[.t 0],[],.ext g⟩∧Qme cx.P (cx.fid f)∧∀ args v,g args=some v →
 (∀ M,Jeq v M=some ⟨v,[],M,[]⟩) ∧
 ∀ M w F ρ fp vs,vs.length=args.length→Rel cx w F ρ fp [] (Qbu args M) (Qht vs)→Calls cx.P (cx.fid f) vs.toArray w (Qho cx w F ρ fp M [] vs ⟨v,[],M,[]⟩)
def Qvt (cx:Cx) (tb:Tbl):Prop:=∀ f fn,tb f=some fn→(∃ rf,cx.P.funcs[cx.fid f]? = some rf∧Qbw cx rf fn=true) ∨ Jni cx f fn
theorem Qze (vs:List Value) (k:Nat):Qah { tmps:=vs.toArray++Array.replicate k undef,defers:=[] }=Qht vs:=by
 funext s
 simp only [Qah,Qht,Array.getD_eq_getD_getElem?,List.getD_eq_getElem?_getD]
 by_cases hs:s < vs.length
 · rw [Array.getElem?_append_left (by simpa using hs)];simp
 · rw [Array.getElem?_append_right (by simpa using hs),List.getElem?_eq_none (by omega)]
   by_cases h2:s - vs.length < k
   · simp [h2]
   · simp [h2]
theorem Qjm {cx:Cx} {tb:Tbl} (htb:Qvt cx tb) (hm:cx.P.follows .mixedOrders=true):∀ n,Qb9 cx (Qch tb n)
 | 0=>fun f lent args M r h=>by simp [Qch] at h
 | n+1=>fun f lent args M r h=>by
   have ih:=Qjm htb hm n
   simp only [Qch] at h
   split at h
   rotate_left
   · cases h
   rename_i fn hfn
   rcases htb f fn hfn with ⟨rf,hrf,hb⟩ | ⟨g,rfl,hent,hg⟩
   rotate_left
   · refine ⟨hent,?_⟩
     intro w F ρ fp vs hlen hR
     unfold Qr3 at h
     split at h
     · cases h
     rename_i hkeep
     have hl0:lent=[]:=by
      cases lent with
      | nil=>rfl
      | cons a l=>simp at hkeep
     subst hl0
     have hT:((args.zipIdx.map fun (v,i)=>(i,v)):Tm).map (·.2)=args:=by
      rw [List.map_map]
      exact (List.map_congr_left fun _ _=>rfl).trans (List.zipIdx_map_fst 0 args)
     simp only [Qb0,hT] at h
     cases hq:g args with
     | none=>simp only [hq] at h;cases h
     | some v =>
     obtain ⟨k1,k2⟩:=hg args v hq
     simp only [hq] at h
     have h:Jeq v M=some r:=h
     rw [k1 M] at h
     simp only [Qoi] at h
     subst h
     exact k2 M w F ρ fp vs hlen hR
   unfold Qbw at hb
   simp only [Qba,bne_iff_ne,ne_eq] at hb
   obtain ⟨⟨hname,hress⟩,hb⟩:=hb
   split at hb
   rotate_left
   · cases hb
   rename_i c hc
   refine ⟨⟨rf,hrf,by simpa using hname,by rw [hc];rfl⟩,?_⟩
   intro w F ρ fp vs hlen hR
   unfold Qr3 at h
   split at h
   · cases h
   rename_i hkeep
   have hkeep':∀ s ∈ lent,s ∈ fn.keep:=by
    simp only [Bool.not_eq_true',Bool.not_eq_false,List.all_eq_true] at hkeep
    intro s hs
    simpa using hkeep s hs
   let a0:Act:={ tmps:=vs.toArray++Array.replicate (rf.ntmps - vs.toArray.size) undef,defers:=[] }
   have hregs:Qah a0=Qht vs:=Qze vs _
   have hI:Inv cx w F ρ fp (Qbu args M) a0 fn.keep rf.ntmps (Qbu args M) a0 w :=
    ⟨F,ρ,fp,by rw [hregs];exact hR,Ext.refl _ _ _ _ _ _,.refl _,by simp [a0];omega,rfl,fun _ _=>rfl⟩
   have body:∀ {ex:Ex} {st1:St},Qb0 (Qch tb n) n fn.body (Qbu args M)=some (ex,st1)→(ex=.normal ∨ ex=.ret)→∀ {vals st2 back st3},st1.retvs fn.res=some (vals,st2)→st2.backs lent=some (back,st3) →
    st3.leave (Qbo vals) back=some r→Calls cx.P (cx.fid f) vs.toArray w (Qho cx w F ρ fp M lent vs r):=by
    intro ex st1 h1 hex vals st2 back st3 h2 h3 h4
    refine calls_of_wp hrf hc ?_
    refine wp_mono (Qtv ih hm hb h1 hI) ?_
    rintro e a1 w1 ⟨rfl,F1,ρ1,fp1,hR1,hE1,hS1,-,hd1,hk1⟩
    obtain ⟨u,q1,q2⟩:=Jb5 rfl hR1 hE1 hS1 (Qsl hress) (fun s hs=>by rw [hk1 s (hkeep' s hs),hregs];rfl) h2 h3 h4
    rcases hex with rfl | rfl
    · exact ⟨hd1,u,q1,q2⟩
    · exact ⟨hd1,u,q1,q2⟩
   change (match Qb0 (Qch tb n) n fn.body (Qbu args M) with
    | some (.exit _,_)=>none
    | some (_,st)=>_
    | none=>none)=some r at h
   cases h1:Qb0 (Qch tb n) n fn.body (Qbu args M) with
   | none=>simp [h1] at h
   | some p =>
   obtain ⟨ex,st1⟩:=p
   have rest:(match st1.retvs fn.res with
    | some (vs,st)=>match st.backs lent with
      | some (back,st)=>st.leave (Qbo vs) back
      | none=>none
    | none=>none)=some r→(ex=.normal ∨ ex=.ret)→Calls cx.P (cx.fid f) vs.toArray w (Qho cx w F ρ fp M lent vs r):=by
    intro h hex
    split at h
    rotate_left
    · cases h
    rename_i vals st2 h2
    split at h
    rotate_left
    · cases h
    rename_i back st3 h3
    exact body h1 hex h2 h3 h
   rw [h1] at h
   cases ex with
   | exit j=>simp at h
   | normal=>exact rest h (.inl rfl)
   | ret=>exact rest h (.inr rfl)
end Go.Idl
namespace Go.Idl
open Go
def Jj7 (w:World):Nat→Prop:=fun b=>b < w.heap.size
inductive ArgR (w:World):IV→Value→Prop
 | one {x:IV} {v:Value} (h:RDs w (Jj7 w) [x] [v] []):ArgR w x v
 | agg {cs:List IV} {C:Array Value} (h:RDs w (Jj7 w) cs C.toList []):ArgR w (.agg cs) (.agg C)
inductive Qmk (w:World):List IV→List Value→Prop
 | nil:Qmk w [] []
 | cons {x v xs vs} (h:ArgR w x v) (t:Qmk w xs vs):Qmk w (x::xs) (v::vs)
theorem Qmk.len {w xs vs} (h:Qmk w xs vs):xs.length=vs.length:=by
 induction h with
 | nil=>rfl
 | cons _ _ ih=>simp [ih]
section
variable {cx:Cx} {w:World}
theorem Quv {F:Nat→Prop} {ρ:Rho} {st:St} {lk}:∀ {cs:List IV} {vs:List Value},RDs w F cs vs []→Cat (RC cx w F ρ st lk) cs vs []
 | [],vs,h=>by cases h;exact .nil
 | c::cs,vs,h=>by
   obtain ⟨v,us,f1,f2,rfl,hf,h1,h2⟩:=h.cons_inv
   obtain ⟨rfl,rfl⟩:=List.append_eq_nil_iff.1 hf.symm
   exact Cat.cons (f:=[]) (fp:=[]) (.inr h1) (Quv h2)
theorem ArgR.slot {x v} (h:ArgR w x v) {ρ:Rho} {st:St} {lk}:Qa4 cx w (Jj7 w) ρ st lk x v []:=by
 cases h with
 | agg h=>exact ⟨_,rfl,Quv h⟩
 | one h =>
   cases x with
   | tup vs=>cases h
   | agg cs=>cases h
   | un=>exact rfl
   | _=>exact .inr h
theorem Qtj {xs:List IV} (s k:Nat):Qan ((xs.zipIdx k).map fun (v,i)=>(i,v)) s=if k≤s then xs.getD (s - k) .un else .un:=by
 induction xs generalizing k with
 | nil=>simp [Qan]
 | cons x xs ih =>
   rw [List.zipIdx_cons,List.map_cons]
   simp only [Qan]
   by_cases hk:k=s
   · subst hk;simp
   · rw [if_neg hk,ih]
     by_cases h1:k≤s
     · have h2:k+1≤s:=by omega
       rw [if_pos h1,if_pos h2,show s - k=(s - (k+1))+1 by omega]
       simp
     · have h2:¬ k+1≤s:=by omega
       rw [if_neg h1,if_neg h2]
theorem Qmk.get {xs vs} (h:Qmk w xs vs):∀ s,(xs.getD s .un=.un∧xs.length≤s) ∨ ArgR w (xs.getD s .un) (vs.getD s undef):=by
 induction h with
 | nil=>intro s;exact .inl ⟨by simp,by simp⟩
 | cons h t ih =>
   intro s
   cases s with
   | zero=>exact .inr (by simpa using h)
   | succ s =>
     rcases ih s with ⟨h1,h2⟩ | h1
     · exact .inl ⟨by simpa using h1,by simpa using h2⟩
     · exact .inr (by simpa using h1)
theorem Jo4 {xs vs} (h:Qmk w xs vs) (ρ:Rho):Rel cx w (Jj7 w) ρ (fun _=>[]) [] (Qbu xs []) (Qht vs):=by
 have hbox:∀ l k,(Qbu xs []).box l k=none:=fun l k=>by simp [St.box,Qbu]
 refine ⟨fun s=>?_,fun l k cs hb=>(by rw [hbox] at hb;cases hb),fun _ _ _=>rfl,fun _=>List.nodup_nil,fun _ _ _ _ hb=>absurd hb (by simp),fun _ _ hb=>absurd hb (by simp),fun _ _ hb=>absurd hb (by simp),fun _ hb=>hb,List.nodup_nil,fun _ _ hb=>absurd hb (by simp),fun _ hb=>absurd hb (by simp),fun _ hb=>absurd hb (by simp)⟩
 have:Qan (Qbu xs []).T s=xs.getD s .un:=by
  have:=Qtj (xs:=xs) s 0
  simpa [Qbu] using this
 rw [this]
 rcases h.get s with ⟨h1,-⟩ | h1
 · rw [h1];exact Qm9
 · exact h1.slot
theorem law_calls {tb:Tbl} (htb:Qvt cx tb) (hm:cx.P.follows .mixedOrders=true) {f:Lab} {xs:List IV} {vs:List Value} (h:Qmk w xs vs) {n:Nat} (hc:Qch tb n f [] xs []=some ⟨.sc (.bool true),[],[],[]⟩) :
 Calls cx.P (cx.fid f) vs.toArray w (fun e w'=>e=.returned (.bool true)∧RowKit.Below w.heap.size w w'):=by
 refine ((Qjm htb hm n f [] xs [] _ hc).2 w (Jj7 w) (fun _ _=>0) (fun _=>[]) vs h.len.symm (Jo4 h _)).mono ?_
 rintro e w' ⟨v',F',ρ',fp',Xb,rfl,hR,hE,-⟩
 have hs:=hR.slots 0
 have hv:v'=.bool true:=(Qa6 hs).1
 subst hv
 refine ⟨rfl,⟨hE.env.1,hE.env.2.1,hE.env.2.2,hE.size,fun k hk=>hE.keep k hk (by simp) (by simp)⟩⟩
end
theorem arg_ints {w:World} {k:IntKind} {a:Option Addr} {len cap:Nat} {zs:List Int} (h:(a=none∧len=0∧cap=0∧zs=[]) ∨
 ∃ x,a=some x∧len≤cap∧zs.length=cap∧(∀ i,i < zs.length→w.cell? (x.add i)=some (.int k (zs.getD i 0)))) :
 ArgR w (.lst 1 ((zs.take len).map fun n=>[.sc (.int k n)]) false) (.slice a len cap):=by
 rcases h with ⟨rfl,rfl,rfl,rfl⟩ | ⟨x,rfl,h1,h2,h3⟩
 · exact .one (.lst0 (by simp) .nil)
 · rcases Nat.eq_zero_or_pos len with h0 | h0
   · subst h0
     simp only [List.take_zero,List.map_nil]
     exact .one (.lst0 (by simp) .nil)
   · have hx:=h3 0 (by omega)
     rw [show x.add 0=x from rfl] at hx
     obtain ⟨b,o,sp⟩:=x
     unfold World.cell? at hx
     split at hx
     rotate_left
     · cases hx
     rename_i C ty fr hb
     simp only at hb
     cases sp with
     | some _=>simp at hx
     | none =>
     have hcell:∀ i,i < zs.length→C[o+i]? = some (.int k (zs.getD i 0)):=fun i hi=>by
      have:=h3 i hi
      rw [Qbq,Qa1 hb] at this
      exact this
     have hlen:((zs.take len).map fun n=>[IV.sc (.int k n)]).length=len:=by simp;omega
     have hd:∀ (l:List Int) (m:Nat),(∀ i,i < l.length→C[m+i]? = some (.int k (l.getD i 0)))→RDs w (Jj7 w) (l.map fun n=>[IV.sc (.int k n)]).flatten ((C.toList.drop m).take l.length) []:=by
      intro l
      induction l with
      | nil=>intro m _;simp;exact .nil
      | cons n l ih =>
        intro m hl
        have h0:=hl 0 (by simp)
        have hm:C.toList.drop m=.int k n::C.toList.drop (m+1):=by
         rw [List.drop_eq_getElem?_toList_append]
         have:C.toList[m]? = some (.int k n):=by simpa using h0
         rw [this];rfl
        rw [hm,List.length_cons,List.take_succ_cons,List.map_cons,List.flatten_cons]
        refine .sc rfl (ih (m+1) fun i hi=>?_)
        have:=hl (i+1) (by simp;omega)
        simpa [Nat.add_assoc,Nat.add_comm 1 i] using this
     have hb':b < w.heap.size:=by
      rcases Nat.lt_or_ge b w.heap.size with h | h
      · exact h
      · rw [Array.getElem?_eq_none h] at hb;cases hb
     have hdd:=hd (zs.take len) o (fun i hi=>by
      rw [List.length_take] at hi
      rw [hcell i (by omega)]
      simp [List.getD_eq_getElem?_getD,List.getElem?_take_of_lt (show i < len by omega)])
     have hll:(zs.take len).length=len:=by rw [List.length_take];omega
     rw [hll] at hdd
     have:=RDs.lst (w:=w) (F:=Jj7 w) (e:=1) (es:=(zs.take len).map fun n=>[IV.sc (.int k n)]) (clip:=false) (b:=b) (o:=o) (cap:=cap) (xs:=[]) (vs:=[]) (fp:=[]) hb' hb
      (by rw [hlen,Nat.mul_one];exact hdd) (fun x hx=>by simp only [List.mem_map] at hx;obtain ⟨n,_,rfl⟩:=hx;rfl) (by simp) (by rw [hlen];exact h1) .nil
     rw [hlen] at this
     exact .one this
theorem Qu0 {cx:Cx}:∀ {L:List (Nat×Qbl)},(∀ p ∈ L,(∃ rf,cx.P.funcs[cx.fid p.1]? = some rf∧Qbw cx rf p.2=true) ∨ Jni cx p.1 p.2)→Qvt cx (Jub L)
 | [],_,f,fn,h=>by cases h
 | (k,g)::r,hL,f,fn,h=>by
   simp only [Jub] at h
   split at h
   · rename_i hk
     subst hk
     simp only [Qoi] at h
     subst h
     exact hL (k,g) (by simp)
   · exact Qu0 (fun p hp=>hL p (by simp [hp])) f fn h
theorem Jpo {cx:Cx} {L:List (Nat×Qbl)} (h:∀ p ∈ L,∃ rf,cx.P.funcs[cx.fid p.1]? = some rf∧Qbw cx rf p.2=true):Qvt cx (Jub L):=Qu0 fun p hp=>.inl (h p hp)
end Go.Idl
