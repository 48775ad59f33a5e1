/- Part 1 of a proof by an ideal interpreter of the code: its definitions and lemmas. Conditions: none. -/
import Derived.Laws.AppendOwn
import Derived.Laws.BytesArg
import Derived.Laws.CopyRow
import Derived.Laws.MakeOwn
import Derived.Laws.StructEq
import Derived.Laws.Tables
import Derived.Test.YtglgfefngeknhaaGreatDoorA0
set_option linter.all false
set_option linter.unusedVariables false
set_option linter.unusedSimpArgs false
namespace Go.Idl
open Go
section
variable {cx:Cx} {w w':World} {F F':Nat->Prop} {ρ ρ':Rho} {fp fp':Fp} {X f f':List Nat} {st st':St} {a:Act} {o:Oper} {tm:Nat->Value}
theorem Rel.trGrow (h:Rel cx w F ρ fp X st tm) (hk:∀ b,b < w.heap.size->b ∉ X->w'.heap[b]? = w.heap[b]?) (hT:st'.T=st.T)
 (hb:∀ l k,(st.box l k).isSome=true->st'.box l k=st.box l k/\ρ' l k=ρ l k) :
 Tr w F ρ st (look st tm ρ w) w' F ρ' st' (look st' tm ρ' w') (fun _ _ _=>True):=by
 refine ⟨fun r c p _ x0 v0 e es A n cap hl hf=>?_,fun b hb=>hk b (h.Flt b hb) (fun hx=>h.xF b hx hb),fun _ h=>h,fun l k hlk=>⟨(hb l k hlk).2,by rw [(hb l k hlk).1];exact hlk⟩⟩;have hag:∀ b ∈ fp r,w'.heap[b]? = w.heap[b]?:=fun b hb=>hk b (h.lt r b hb) (h.xdisj r b hb);refine ⟨x0,es,?_,h.tr_other hl hf hag,Kam _⟩;cases r with
 | S s=>obtain ⟨h1,h2⟩:=Qer hl;exact Qb3 (by rw [hT];exact h1) h2
 | B l k =>
   simp only [look] at hl |-;cases hbx:st.box l k with
   | none=>simp [hbx] at hl
   | some cs =>
     obtain ⟨k1,k2⟩:=hb l k (by rw [hbx];rfl);rw [k1,k2,hbx];simp only [hbx] at hl |-;obtain ⟨C,ty,f0,h1,h2,h3⟩:=h.boxes l k cs hbx;have h2':w'.heap[ρ l k]? = some (.cells C ty (0,0)):=(hag _ (by rw [h1];simp)).trans h2;simp only [Qau h2] at hl;simp only [Qau h2'];exact hl
theorem Rel.grow (h:Rel cx w F ρ fp X st tm) (hk:∀ b,b < w.heap.size->b ∉ X->w'.heap[b]? = w.heap[b]?) (hs:w.heap.size<=w'.heap.size) {Y:List Nat} (hY:Y.Nodup) (hn:∀ b ∈ Y,w.heap.size<=b/\b < w'.heap.size) :
 Rel cx w' F ρ fp (Y++X) st tm/\Tr w F ρ st (look st tm ρ w) w' F ρ st (look st tm ρ w') (fun _ _ _=>True):=by
 have tr:Tr w F ρ st (look st tm ρ w) w' F ρ st (look st tm ρ w') (fun _ _ _=>True):=h.trGrow hk rfl (fun _ _ _=>⟨rfl,rfl⟩);refine ⟨⟨fun s=>?_,fun l k cs hb=>?_,h.nobox,h.nodup,h.disj,h.notF,fun r b hb=>Kcd (h.lt r b hb) hs,fun b hb=>Kcd (h.Flt b hb) hs,?_,?_,?_,?_⟩,tr⟩
 . have:=(h.slots s).trk tr .none (fun _ _ _ _ _ _=>trivial) (fun b hb=>hk b (h.lt _ b hb) (h.xdisj _ b hb));rw [Qmp] at this;exact this
 . obtain ⟨C,ty,f0,h1,h2,h3⟩:=h.boxes l k cs hb;have hag:∀ b ∈ fp (.B l k),w'.heap[b]? = w.heap[b]?:=fun b hb=>hk b (h.lt _ b hb) (h.xdisj _ b hb);exact ⟨C,ty,f0,h1,(hag _ (by rw [h1];simp)).trans h2,h3.mono fun x v f hf hx _=>hx.tr tr (fun b hb=>hag b (by rw [h1];simp [hf b hb]))⟩
 . rw [Kan];refine ⟨hY,h.xnodup,fun a ha b hb hab=>?_⟩;subst hab;have:=(hn a ha).1;have:=h.xlt a hb;omega
 . intro r b hb hx;simp only [Kah] at hx;rcases hx with hx | hx
   . have:=(hn b hx).1;have:=h.lt r b hb;omega
   . exact h.xdisj r b hb hx
 . intro b hb hF;simp only [Kah] at hb;rcases hb with hx | hx
   . have:=(hn b hx).1;have:=h.Flt b hF;omega
   . exact h.xF b hx hF
 . intro b hb;simp only [Kah] at hb;rcases hb with hx | hx
   . exact (hn b hx).2
   . exact Kcd (h.xlt b hx) hs
theorem Qxz {o:Obj} {b:Nat} (hw:w'.heap=w.heap.push o) (hb:b < w.heap.size):w'.heap[b]? = w.heap[b]?:=by
 rw [hw,Array.getElem?_push];simp [Nat.ne_of_lt hb]
theorem Qxy {o:Obj} (hw:w'.heap=w.heap.push o):w'.heap[w.heap.size]? = some o:=by
 rw [hw,Array.getElem?_push];simp
theorem Qs5 {o:Obj} (hw:w'.heap=w.heap.push o):w'.heap.size=w.heap.size+1:=by rw [hw];simp
theorem RC.rbox {lk x v} (h:RC cx w F ρ st lk x v f) (hd:x.isD=true \/ x=.un):Qj7 cx w F ρ st st.M.length x v f:=by
 have lv:∀ l k,(st.box l k).isSome=true->l < st.M.length+1:=fun l k hb=>by
  rw [Qh0] at hb;rcases hb with ⟨h,_⟩ | ⟨_,n,hn,_⟩
  . omega
  . have:=(Kak.1 hn).1;simp at this;omega
 rcases h with ⟨h,rfl⟩ | h
 . cases x with
   | bptr l k c=>exact .inl ⟨h,by simp [IV.lvl,lv l k h.2],rfl,rfl⟩
   | fn g caps =>
     refine .inl ⟨h,?_,rfl,rfl⟩;obtain ⟨cvs,h1,h2⟩:=h;simp only [IV.lvl,Kaj];intro y hy;have:∀ {xs:List IV} {vs:List Value} {ff:List Nat},Cat (fun x v f=>Jcm ρ st x v/\f=[]) xs vs ff->∀ y ∈ xs,∃ v,Jcm ρ st y v:=by
      intro xs vs ff hc
      induction hc with
      | nil=>simp
      | cons h t ih =>
        intro y hy;rcases Kaf.1 hy with rfl | hy
        . exact ⟨_,h.1⟩
        . exact ih y hy
     obtain ⟨v,hv⟩:=this h2 y hy;cases y with
     | bptr l k c=>simpa using lv l k hv.2
     | _=>exact hv.elim
   | _=>first | exact h.elim | simp [IV.isD] at hd
 . exact .inr h
theorem Rel.newBox (h:Rel cx w F ρ fp (f++X) st tm) {cs:List IV} {C:Array Value} {ty:TypeId} (hc:Cat (RC cx w F ρ st (look st tm ρ w)) cs C.toList f) (hd:∀ c ∈ cs,c.isD=true \/ c=.un) (hw:w'.heap=w.heap.push (.cells C ty (0,0))) (henv:Env w w') :
 Rel cx w' F (fun l k=>if l=st.M.length/\k=st.loc.length then w.heap.size else ρ l k) (Qao fp (.B st.M.length st.loc.length) (w.heap.size::f)) X { st with loc:=st.loc++[cs] } tm /\
  Ext w F ρ fp (f++X) (exB st) w' F (fun l k=>if l=st.M.length/\k=st.loc.length then w.heap.size else ρ l k) (Qao fp (.B st.M.length st.loc.length) (w.heap.size::f)) X /\
  Qbf st { st with loc:=st.loc++[cs] }/\(({ st with loc:=st.loc++[cs] }:St).box st.M.length st.loc.length)=some cs:=by
 have hk:∀ b,b < w.heap.size->w'.heap[b]? = w.heap[b]?:=fun b hb=>Qxz hw hb;have hsz:=Qs5 hw;have hnone:st.box st.M.length st.loc.length=none:=by simp [St.box]
 have hbox:∀ l k,({ st with loc:=st.loc++[cs] }:St).box l k=if l=st.M.length/\k=st.loc.length then some cs else st.box l k:=by
  intro l k;unfold St.box;by_cases hl:l=st.M.length
  . subst hl;simp only [if_true,Kfe];by_cases hk:k=st.loc.length
    . subst hk;simp
    . rw [if_neg hk];rcases Kbw k st.loc.length with h1 | h1
      . rw [Kba h1]
      . rw [Kar (by simp;omega),Kar h1]
  . simp [hl]
 have hold:∀ l k,(st.box l k).isSome=true->¬ (l=st.M.length/\k=st.loc.length):=fun l k hb hc=>by
  rw [hc.1,hc.2,hnone] at hb;cases hb
 have tr:=h.trGrow (w':=w') (st':={ st with loc:=st.loc++[cs] }) (ρ':=fun l k=>if l=st.M.length/\k=st.loc.length then w.heap.size else ρ l k) (fun b hb _=>hk b hb) rfl
  (fun l k hb=>⟨by rw [hbox,if_neg (hold l k hb)],if_neg (hold l k hb)⟩)
 have hnd:=Kan.1 h.xnodup;have hfX:∀ b ∈ f,b ∈ f++X:=fun b hb=>by simp [hb]
 have hXX:∀ b ∈ X,b ∈ f++X:=fun b hb=>by simp [hb]
 have hne:∀ s,(Rt.S s:Rt) ≠ .B st.M.length st.loc.length:=fun s hc=>by cases hc
 refine ⟨⟨fun s=>?_,fun l k cs' hb=>?_,fun l k hb=>?_,fun r=>?_,fun r r' hr b hb hb'=>?_,fun r b hb=>?_,fun r b hb=>?_,fun b hb=>?_,hnd.2.1,fun r b hb hx=>?_,fun b hb=>h.xF b (hXX b hb),
  fun b hb=>?_⟩,⟨by omega,fun b hb _ _=>hk b hb,fun r b hb=>?_,fun b hb=>.inr (.inl (hXX b hb)),fun _ h=>h,fun _ h=>.inl h,fun l k hlk=>if_neg (hold l k hlk),henv⟩,⟨rfl,by simp⟩,by rw [hbox];simp⟩
 . rw [show Qao fp (.B st.M.length st.loc.length) (w.heap.size::f) (.S s)=fp (.S s) from if_neg (hne s)];have:=(h.slots s).trk tr .none (fun _ _ _ _ _ _=>trivial) (fun b hb=>hk b (h.lt _ b hb));rw [Qmp] at this;exact this
 . rw [hbox] at hb;by_cases hc':l=st.M.length/\k=st.loc.length
   . rw [if_pos hc'] at hb;simp only [Kaa] at hb;subst hb;obtain ⟨rfl,rfl⟩:=hc';refine ⟨C,ty,f,by simp [Qao],?_,?_⟩
     . simp only [and_self,if_true];exact Qxy hw
     . have:Cat (Qj7 cx w F ρ st st.M.length) cs C.toList f:=hc.mono fun x v f _ hx hm=>RC.rbox hx (hd x hm);exact this.mono fun x v f' hf' hx _=>hx.tr tr (fun b hb=>hk b (h.xlt b (hfX b (hf' b hb))))
   . rw [if_neg hc'] at hb;obtain ⟨C',ty',f0,h1,h2,h3⟩:=h.boxes l k cs' hb;have hag:∀ b ∈ fp (.B l k),w'.heap[b]? = w.heap[b]?:=fun b hb=>hk b (h.lt _ b hb);have hne':(Rt.B l k:Rt) ≠ .B st.M.length st.loc.length:=fun hc=>hc' (by cases hc;exact ⟨rfl,rfl⟩);refine ⟨C',ty',f0,?_,?_,h3.mono fun x v f hf hx _=>hx.tr tr (fun b hb=>hag b (by rw [h1];simp [hf b hb]))⟩
     . rw [show Qao fp (.B st.M.length st.loc.length) (w.heap.size::f) (.B l k)=fp (.B l k) from if_neg hne'];simp only [if_neg hc'];exact h1
     . simp only [if_neg hc'];exact (hag _ (by rw [h1];simp)).trans h2
 . rw [hbox] at hb;by_cases hc':l=st.M.length/\k=st.loc.length
   . rw [if_pos hc'] at hb;cases hb
   . rw [if_neg hc'] at hb;rw [show Qao fp (.B st.M.length st.loc.length) (w.heap.size::f) (.B l k)=fp (.B l k) from if_neg (fun hc=>hc' (by cases hc;exact ⟨rfl,rfl⟩))];exact h.nobox l k hb
 . unfold Qao;split
   . refine Kbq.2 ⟨fun hm=>?_,hnd.1⟩;have:=h.xlt _ (hfX _ hm);omega
   . exact h.nodup r
 . unfold Qao at hb hb';split at hb <;> split at hb'
   . rename_i h1 h2;exact hr (h1.trans h2.symm)
   . rcases Kaf.1 hb with rfl | hb
     . have:=h.lt _ _ hb';omega
     . exact h.xdisj r' b hb' (hfX b hb)
   . rcases Kaf.1 hb' with rfl | hb'
     . have:=h.lt _ _ hb;omega
     . exact h.xdisj r b hb (hfX b hb')
   . exact h.disj r r' hr b hb hb'
 . unfold Qao at hb;split at hb
   . rcases Kaf.1 hb with rfl | hb
     . intro hF;have:=h.Flt _ hF;omega
     . exact h.xF b (hfX b hb)
   . exact h.notF r b hb
 . unfold Qao at hb;split at hb
   . rcases Kaf.1 hb with rfl | hb
     . omega
     . have:=h.xlt b (hfX b hb);omega
   . have:=h.lt r b hb;omega
 . have:=h.Flt b hb;omega
 . unfold Qao at hb;split at hb
   . rcases Kaf.1 hb with rfl | hb
     . have:=h.xlt _ (hXX _ hx);omega
     . exact hnd.2.2 b hb b hx rfl
   . exact h.xdisj r b hb (hXX b hx)
 . have:=h.xlt b (hXX b hb);omega
 . unfold Qao at hb;split at hb
   . rcases Kaf.1 hb with rfl | hb
     . exact .inr (.inr (Kam _))
     . exact .inr (.inl (hfX b hb))
   . exact .inl ⟨r,hb⟩
def Qj5 (P:Program) (t:TypeId) (z:List Value):Prop:=∃ i v,P.info? t=some i/\i.zero=some v/\v.cells.toList=z
theorem Qdd {P:Program} {t:TypeId} {z:List Value} (h:Qj5 P t z) (w:World):∃ v,(zeroValue t).run P w=.ok v w/\v.cells.toList=z:=by
 obtain ⟨i,v,h1,h2,h3⟩:=h;exact ⟨v,by simp [zeroValue,typeInfo,h1,h2],h3⟩
end
end Go.Idl
namespace Go.Idl
open Go
theorem Jac {α:Type} (l:List α) (k:Nat) (v:α) (rest:List α) (h:k+1+rest.length<=l.length):splice (l.set k v) (k+1) rest=splice l k (v::rest):=by
 unfold splice;have h1:(l.set k v).take (k+1)=l.take k++[v]:=by
  rw [List.take_add_one,List.take_set_of_le (Kam _)];simp [show k < l.length by omega]
 have h2:(l.set k v).drop (k+1+rest.length)=l.drop (k+(v::rest).length):=by
  rw [List.drop_set_of_lt (by omega),Kbc,show k+1+rest.length=k+(rest.length+1) by omega]
 rw [h1,h2];simp
theorem Jab {α:Type} (l:List α) (k:Nat):splice l k []=l:=by simp [splice]
theorem Qw7 (off:Nat):∀ (vs:List Value) (k:Nat) (cs:Array Value),off+k+vs.length<=cs.size ->
 ((vs.zipIdx k).foldl (fun cs (c,j)=>cs.setIfInBounds (off+j) c) cs).toList=splice cs.toList (off+k) vs
 | [],k,cs,_=>by simp [Jab]
 | v::vs,k,cs,h=>by
   simp only [Kbc] at h;rw [List.zipIdx_cons,Kdv,Qw7 off vs (k+1) _ (by simp;omega)];simp only [Array.toList_setIfInBounds];rw [show off+(k+1)=off+k+1 by omega,Jac _ _ _ _ (by simp;omega)]
theorem Qw4 (place:Nat->Option (Nat×Nat)) (cells:Array Value) (i:Nat) (v:Value) (rest:List (Nat×Value)) {off sz:Nat} (hp:place i=some (off,sz)) (hs:v.cells.size=sz) (hb:off+sz<=cells.size) :
 Instr.fill place cells ((i,v)::rest)=Instr.fill place (splice cells.toList off v.cells.toList).toArray rest:=by
 have:v.cells.zipIdx.foldl (fun cs (x:Value×Nat)=>cs.setIfInBounds (off+x.2) x.1) cells=(splice cells.toList off v.cells.toList).toArray:=by
  apply Array.ext';have:=Qw7 off v.cells.toList 0 cells (by simp;omega);simp only [Keh] at this;rw [<- Array.foldl_toList,Array.toList_zipIdx];exact this
 rw [Instr.fill,hp];simp only;rw [if_neg (by simp [hs];omega)];exact congrArg (fun z=>Instr.fill place z rest) this
section
variable {cx:Cx} {w w':World} {F F':Nat->Prop} {ρ ρ':Rho} {fp fp':Fp} {X f f':List Nat} {st st':St} {a:Act} {o:Oper} {tm:Nat->Value}
theorem Cat.app {R xs vs fq ys us fr} (h:Cat R xs vs fq) (h':Cat R ys us fr):Cat R (xs++ys) (vs++us) (fq++fr):=by
 induction h with
 | nil=>exact h'
 | cons h t ih=>have:=Cat.cons h ih;simpa [Kal] using this
theorem Cat.split {R xs ys vs fq} (h:Cat R (xs++ys) vs fq):∃ us vs' f1 f2,vs=us++vs'/\fq=f1++f2/\Cat R xs us f1/\Cat R ys vs' f2:=by
 induction xs generalizing vs fq with
 | nil=>exact ⟨[],vs,[],fq,rfl,rfl,.nil,h⟩
 | cons x xs ih =>
   generalize hx:(x::xs++ys)=l at h;cases h with
   | nil=>cases hx
   | @cons x' v f1 xs' vs' f2 h t =>
     cases hx;obtain ⟨us',vs'',g1,g2,rfl,rfl,h3,h4⟩:=ih t;exact ⟨v::us',vs'',f1++g1,g2,rfl,by simp,.cons h h3,h4⟩
theorem Cat.splice {R cs vs fq ys us fr c} (h:Cat R cs vs fq) (h':Cat R ys us fr) (hl:c+ys.length<=cs.length) :
 ∃ f1 g f2,fq=f1++(g++f2)/\Cat R (Idl.splice cs c ys) (Idl.splice vs c us) (f1++(fr++f2)):=by
 have e:cs=cs.take c++((cs.drop c).take ys.length++cs.drop (c+ys.length)):=by
  rw [<- Kdo,Kcg,Kcg]
 rw [e] at h;obtain ⟨u1,v1,f1,g1,rfl,rfl,h1,h2⟩:=h.split;obtain ⟨u2,v2,f2,g2,rfl,rfl,h3,h4⟩:=h2.split;have l1:u1.length=c:=by rw [<- h1.len,Kas];omega
 have l2:u2.length=ys.length:=by rw [<- h3.len,Kas,Kco];omega
 have l3:=h'.len;refine ⟨f1,f2,g2,rfl,?_⟩;have e1:Idl.splice (u1++(u2++v2)) c us=u1++(us++v2):=by
  unfold Idl.splice;rw [<- l1,List.take_left,<- l3,<- l2,show u1.length+u2.length=(u1++u2).length by simp,<- Kal u1 u2,List.drop_left];simp
 rw [e1];have e2:Idl.splice cs c ys=cs.take c++(ys++cs.drop (c+ys.length)):=by simp [Idl.splice]
 rw [e2];exact h1.app (h'.app h4)
theorem Qaj.tkKill (x:Opd):Qaj (tkKill x):=by
 cases x with
 | t s=>exact .rooted _
 | _=>exact .none
theorem tk_tr (h:Rel cx w F ρ fp X st (Qah a)) (x:Opd) :
 Tr w F ρ st (look st (Qah a) ρ w) w F ρ { st with T:=(tk st.T x).2 } (look { st with T:=(tk st.T x).2 } (Qah a) ρ w) (fun r c q=>∃ z:IV,Qby z r c q/\tkKill x z=false):=by
 have refl:∀ (lv:Rt->Nat->Qg8->Prop),Tr w F ρ st (look st (Qah a) ρ w) w F ρ st (look st (Qah a) ρ w) lv :=
  fun lv=>⟨fun _ _ _ _ x0 v0 e es A n cap hl hf=>by obtain ⟨e0,es0,rfl⟩:=Qbk hf;exact ⟨_,es,hl,hf,Kam _⟩,fun _ _=>rfl,fun _ h=>h,fun _ _ h=>⟨rfl,h⟩⟩
 cases x with
 | t s =>
   simp only [tk];split
   . have tr:=Qqu h s .un (Qah a s) (IV.rooted (.S s)) (.rooted _) (.inl fun _ h=>h);have htm:(fun q=>if q=s then Qah a s else Qah a q)=Qah a:=by funext q;by_cases hq:q=s <;> simp [hq]
     rw [htm] at tr;exact tr
   . exact refl _
 | c v=>exact refl _
 | f l=>exact refl _
end
end Go.Idl
namespace Go.Idl
open Go
section
variable {cx:Cx} {w w':World} {F F':Nat->Prop} {ρ ρ':Rho} {fp fp':Fp} {X f f':List Nat} {st st':St} {a:Act} {o:Oper} {tm:Nat->Value}
def Qje (cx:Cx) (place:Nat->Option (Nat×Nat)):List (Nat×Operand)->List (Nat×Nat×Opd)->Prop
 | [],[]=>True
 | (i,o)::r,(off,sz,x)::s=>place i=some (off,sz)/\Qaz cx o x/\Qje cx place r s
 | _,_=>False
theorem Jfr {α:Type} (g1 g g2 X:List α):(g1++(g2++X)).Sublist (g1++(g++g2)++X):=by
 rw [Kal,Kal];exact List.Sublist.append_left (List.sublist_append_right g _) g1
theorem Qpv {place:Nat->Option (Nat×Nat)}:∀ {parts:List (Nat×Nat×Opd)} {rparts:List (Nat×Operand)} {cs cs':List IV} {C:Array Value} {st:St} {T':Tm} {fp:Fp} {f:List Nat},
 Rel cx w F ρ fp (f++X) st (Qah a)->Cat (RC cx w F ρ st (look st (Qah a) ρ w)) cs C.toList f->Qje cx place rparts parts->fillCells st.T cs parts=some (cs',T') ->
 ∃ (C':Array Value) (fp':Fp) (f':List Nat),Instr.fill place C (rparts.map fun (i,x)=>(i,a.eval x))=some C'/\Rel cx w F ρ fp' (f'++X) { st with T:=T' } (Qah a) /\
   Cat (RC cx w F ρ { st with T:=T' } (look { st with T:=T' } (Qah a) ρ w)) cs' C'.toList f'/\(∀ b ∈ f',b ∈ f \/ ∃ r,b ∈ fp r)/\∀ r,∀ b ∈ fp' r,b ∈ fp r
 | [],[],cs,cs',C,st,T',fp,f,h,hc,_,hf=>by
   simp only [fillCells,Kaa,Kab] at hf;obtain ⟨rfl,rfl⟩:=hf;exact ⟨C,fp,f,rfl,h,hc,fun b hb=>.inl hb,fun _ _ hb=>hb⟩
 | [],(i,o)::r,_,_,_,_,_,_,_,_,_,hp,_=>hp.elim
 | (off,sz,x)::r,[],_,_,_,_,_,_,_,_,_,hp,_=>hp.elim
 | (off,sz,x)::parts,(i,o)::rparts,cs,cs',C,st,T',fp,f,h,hc,hp,hf=>by
   obtain ⟨hpl,hox,hpr⟩:=hp;simp only [fillCells] at hf;split at hf
   . rename_i hcond;obtain ⟨h1,h2,h3⟩:=hcond;obtain ⟨fp1,f1,k1,k2,k3,k4⟩:=Qj2 h hox;have tr:=tk_tr h x;have hcells:=Qrh k2 h3;have hin:Cat (RC cx w F ρ { st with T:=(tk st.T x).2 } (look { st with T:=(tk st.T x).2 } (Qah a) ρ w)) (cs.map (klc (tkKill x))) C.toList f:=by
      have:Cat (fun z v f=>RC cx w F ρ { st with T:=(tk st.T x).2 } (look { st with T:=(tk st.T x).2 } (Qah a) ρ w) (klc (tkKill x) z) v f) cs C.toList f :=
       hc.mono fun z v f _ hz _=>hz.trk tr (Qaj.tkKill x) (fun r c q hq hk=>⟨z,hq,hk⟩) (fun _ _=>rfl)
      exact this.map_kl
     obtain ⟨g1,g,g2,hfe,hsp⟩:=hin.splice hcells (c:=off) (by rw [Kcu,h1];exact h2);have hsz:(a.eval o).cells.size=sz:=by have:=hcells.len;rw [h1] at this;simpa using this.symm
     have hCl:cs.length=C.size:=by have:=hc.len;simpa using this
     have hrel:Rel cx w F ρ fp1 ((g1++(f1++g2))++X) { st with T:=(tk st.T x).2 } (Qah a):=by
      have k1':Rel cx w F ρ fp1 (f1++(g1++(g2++X))) { st with T:=(tk st.T x).2 } (Qah a):=k1.less (by
       rw [hfe];exact List.Sublist.append_left (Jfr g1 g g2 X) f1)
      exact k1'.perm (by
       rw [<- Kal];have:(f1++g1++(g2++X)).Perm (g1++f1++(g2++X)):=Kcn _ Kcm;simpa [Kal] using this)
     obtain ⟨C',fp',f',e1,e2,e3,e4,e5⟩:=Qpv (C:=(splice C.toList off (a.eval o).cells.toList).toArray) hrel (by simpa using hsp) hpr hf;refine ⟨C',fp',f',?_,e2,e3,fun b hb=>?_,fun r b hb=>k4 r b (e5 r b hb)⟩
     . rw [Kbd,Qw4 place C i (a.eval o) _ hpl hsz (by omega)];exact e1
     . rcases e4 b hb with h5 | ⟨r,h5⟩
       . simp only [Kah] at h5;rcases h5 with h5 | h5 | h5
         . exact .inl (by rw [hfe];simp [h5])
         . exact .inr (k3 b h5)
         . exact .inl (by rw [hfe];simp [h5])
       . exact .inr ⟨r,k4 r b h5⟩
   . cases hf
theorem RDs.cats {xs vs fq} (h:RDs w F xs vs fq):Cat (fun x v f=>RDs w F [x] [v] f) xs vs fq:=by
 induction xs generalizing vs fq with
 | nil=>cases h;exact .nil
 | cons x xs ih=>obtain ⟨v,us,f1,f2,rfl,rfl,h1,h2⟩:=h.cons_inv;exact .cons h1 (ih h2)
theorem Cat.rds {xs vs fq} (h:Cat (fun x v f=>RDs w F [x] [v] f) xs vs fq):RDs w F xs vs fq:=by
 induction h with
 | nil=>exact .nil
 | cons h t ih=>exact h.cons ih
theorem RDs.of_data {lk xs vs fq} (h:Cat (RC cx w F ρ st lk) xs vs fq) (hd:xs.all IV.isData=true):RDs w F xs vs fq:=by
 refine Cat.rds (h.mono fun x v f _ hx hm=>?_);have:=Kaj.1 hd x hm;rcases hx with ⟨hx,_⟩ | hx
 . cases x <;> first | exact hx.elim | simp [IV.isData] at this
 . exact hx
theorem Qfz {es:List (List IV)} {e i:Nat} {cs:List IV} (he:∀ x ∈ es,x.length=e) (hi:i < es.length) (hc:cs.length=e):(es.set i cs).flatten=splice es.flatten (i * e) cs:=by
 induction es generalizing i with
 | nil=>simp at hi
 | cons x xs ih =>
   have hx:=he x (by simp);cases i with
   | zero =>
     simp only [List.set_cons_zero,Kca,Nat.zero_mul,splice,Kcz,Kaq,Nat.zero_add];rw [hc,<- hx,List.drop_left]
   | succ i =>
     simp only [List.set_cons_succ,Kca,ih (fun y hy=>he y (by simp [hy])) (by simpa using hi),splice,Kbz];rw [show i * e+e=x.length+i * e by omega,List.take_append,List.drop_append];simp only [Nat.add_sub_cancel_left,Kae (show x.length<=x.length+i * e by omega),show x.length+i * e+cs.length - x.length=i * e+cs.length by omega,
      Kew (show x.length<=x.length+i * e+cs.length by omega)]
     simp
def Qk0 (cx:Cx):List (Nat×Operand)->List (Nat×Opd)->Prop
 | [],[]=>True
 | (i,o)::r,(j,x)::s=>i=j/\Qaz cx o x/\Qk0 cx r s
 | _,_=>False
theorem Qsc {e:Nat}:∀ {parts:List (Nat×Opd)} {rparts:List (Nat×Operand)} {es es':List (List IV)} {C:Array Value} {st st':St} {fp:Fp} {f:List Nat},
 Rel cx w F ρ fp (f++X) st (Qah a)->RDs w F es.flatten C.toList f->(∀ x ∈ es,x.length=e)->Qk0 cx rparts parts->st.fillElems es e parts=some (es',st') ->
 ∃ (C':Array Value) (fp':Fp) (f':List Nat),Instr.fill (fun i=>some (i * e,e)) C (rparts.map fun (i,x)=>(i,a.eval x))=some C'/\Rel cx w F ρ fp' (f'++X) st' (Qah a) /\
   RDs w F es'.flatten C'.toList f'/\(∀ x ∈ es',x.length=e)/\es'.length=es.length/\(∀ b ∈ f',b ∈ f \/ ∃ r,b ∈ fp r)/\(∀ r,∀ b ∈ fp' r,b ∈ fp r)/\Qbf st st'
 | [],[],es,es',C,st,st',fp,f,h,hc,he,_,hf=>by
   simp only [St.fillElems,Kaa,Kab] at hf;obtain ⟨rfl,rfl⟩:=hf;exact ⟨C,fp,f,rfl,h,hc,he,rfl,fun b hb=>.inl hb,fun _ _ hb=>hb,.refl _⟩
 | [],(i,o)::r,_,_,_,_,_,_,_,_,_,_,hp,_=>hp.elim
 | (j,x)::r,[],_,_,_,_,_,_,_,_,_,_,hp,_=>hp.elim
 | (j,x)::parts,(i,o)::rparts,es,es',C,st,st',fp,f,h,hc,he,hp,hf=>by
   obtain ⟨rfl,hox,hpr⟩:=hp;simp only [St.fillElems] at hf;split at hf
   . rename_i cs st1 ha;split at hf
     . rename_i hcond;obtain ⟨h1,h2,h3⟩:=hcond;obtain ⟨fp1,f1,k1,k2,k3,k4,k5,k6⟩:=Qfb h hox ha;have hR:=RDs.of_data k2 h3;obtain ⟨g1,g,g2,hfe,hsp⟩:=hc.cats.splice hR.cats (c:=i * e) (by
        rw [h1,Qbn he];have:(i+1) * e<=es.length * e:=Kbh _ h2;rw [Kbz] at this;exact this)
       have hsz:(a.eval o).cells.size=e:=by have:=hR.len;rw [h1] at this;simpa using this.symm
       have hCl:es.length * e=C.size:=by have:=hc.len;rw [Qbn he] at this;simpa using this
       have hrel:Rel cx w F ρ fp1 ((g1++(f1++g2))++X) st1 (Qah a):=by
        have k1':Rel cx w F ρ fp1 (f1++(g1++(g2++X))) st1 (Qah a):=k1.less (by
         rw [hfe];exact List.Sublist.append_left (Jfr g1 g g2 X) f1)
        exact k1'.perm (by
         rw [<- Kal];have:(f1++g1++(g2++X)).Perm (g1++f1++(g2++X)):=Kcn _ Kcm;simpa [Kal] using this)
       have hsp':=hsp.rds;rw [<- Qfz he h2 h1] at hsp';obtain ⟨C',fp',f',e1,e2,e3,e4,e5,e6,e7,e8⟩:=Qsc (C:=(splice C.toList (i * e) (a.eval o).cells.toList).toArray) hrel (by simpa using hsp') (Qvf he h1) hpr hf;refine ⟨C',fp',f',?_,e2,e3,e4,by rw [e5];simp,fun b hb=>?_,fun r b hb=>k5 r b (e7 r b hb),k6.trans e8⟩
       . rw [Kbd,Qw4 _ C i (a.eval o) _ rfl hsz (by
          have:(i+1) * e<=es.length * e:=Kbh _ h2;rw [Kbz] at this;omega)];exact e1
       . rcases e6 b hb with h5 | ⟨r,h5⟩
         . simp only [Kah] at h5;rcases h5 with h5 | h5 | h5
           . exact .inl (by rw [hfe];simp [h5])
           . exact .inr (k4 b h5)
           . exact .inl (by rw [hfe];simp [h5])
         . exact .inr ⟨r,k5 r b h5⟩
     . cases hf
   . cases hf
theorem Rel.newOwn (h:Rel cx w F ρ fp (f++X) st tm) {e cap:Nat} {es:List (List IV)} {C:Array Value} {ty:TypeId} (hd:RDs w F es.flatten (C.toList.take (es.length * e)) f) (he:∀ x ∈ es,x.length=e)
 (hn:es.length<=cap) (hC:cap * e<=C.size) (hw:w'.heap=w.heap.push (.cells C ty (0,0))) (henv:Env w w') :
 ∃ f',Rel cx w' F ρ fp (f'++X) st tm/\RDs w' F [.own e es] [.slice (some ⟨w.heap.size,0,none⟩) es.length cap] f'/\(∀ b ∈ f',b ∈ f \/ b=w.heap.size) /\
   (∀ ex,Ext w F ρ fp (f++X) ex w' F ρ fp (f'++X))/\Tr w F ρ st (look st tm ρ w) w' F ρ st (look st tm ρ w') (fun _ _ _=>True):=by
 have hk:∀ b,b < w.heap.size->w'.heap[b]? = w.heap[b]?:=fun b hb=>Qxz hw hb;have hsz:=Qs5 hw;obtain ⟨h1,tr⟩:=h.grow (fun b hb _=>hk b hb) (by omega) (Y:=[w.heap.size]) (by simp) (by simp [hsz]);have ext:∀ f',(∀ b ∈ f',b ∈ f \/ b=w.heap.size)->∀ ex,Ext w F ρ fp (f++X) ex w' F ρ fp (f'++X):=fun f' hf' ex =>
  ⟨by omega,fun b hb _ _=>hk b hb,fun r b hb=>.inl ⟨r,hb⟩,fun b hb=>by
    simp only [Kah] at hb |-;rcases hb with hb | hb
    . rcases hf' b hb with h5 | h5
      . exact .inr (.inl (.inl h5))
      . exact .inr (.inr (by omega))
    . exact .inr (.inl (.inr hb)),fun _ h=>h,fun _ h=>.inl h,fun _ _ _=>rfl,henv⟩
 rcases Kdj cap with hc | hc
 . have:es=[]:=Kav.1 (by omega);subst this hc;refine ⟨[],h1.less ?_,.own0 .nil,by simp,ext [] (by simp),tr⟩;simp only [Kaq];rw [<- Kal];exact List.sublist_append_right _ _
 . refine ⟨w.heap.size::f,?_,?_,?_,ext _ ?_,tr⟩
   . simpa using h1
   . have:=RDs.own (w:=w') (F:=F) (xs:=[]) (vs:=[]) (fp:=[]) (o:=0) (Qxy hw) (fp1:=f) (by
      simpa using hd.frame (F':=F) (w':=w') (fun b hb=>hk b (h.xlt b (by simp [hb]))) (fun b hb=>hk b (h.Flt b hb)) (fun _ h=>h)) he ⟨hn,hc⟩ (by omega) .nil
     simpa using this
   . intro b hb;rcases Kaf.1 hb with h5 | h5
     . exact .inr h5
     . exact .inl h5
   . intro b hb;rcases Kaf.1 hb with h5 | h5
     . exact .inr h5
     . exact .inl h5
theorem Qst (z:Array Value) (n:Nat):(madeCells z (n * z.size)).toList=(List.replicate n z.toList).flatten:=by
 unfold madeCells;rw [Array.toList_map,Array.toList_range]
 induction n with
 | zero=>simp
 | succ n ih =>
   rw [Kbz,List.range_add,Kct,ih,List.replicate_succ',Kdg];congr 1;apply Kdc;intro j;simp only [List.map_map,Kdx,Kca,List.flatten_nil,Kbb];rcases Kbw j z.size with hj | hj
   . rw [Kfh hj];simp [Nat.mod_eq_of_lt hj,hj]
   . rw [Kar (by simpa using hj),Kar (by simpa using hj)];rfl
theorem Qrs {F:Nat->Prop} (z:List Value) (n:Nat):RDs w F (Qae z n).flatten (List.replicate n z).flatten []:=by
 have one:∀ z:List Value,RDs w F (z.map cv1) z []:=by
  intro z
  induction z with
  | nil=>exact .nil
  | cons v z ih =>
    rw [Kbd];generalize hx:cv1 v=x;unfold cv1 at hx;split at hx <;> subst hx
    . exact .lst0 (by simp) ih
    . exact .sc rfl ih
    . exact .sc rfl ih
    . exact .sc rfl ih
    . exact .sc rfl ih
    . exact .un ih
 induction n with
 | zero=>exact .nil
 | succ n ih =>
   simp only [Qae,List.replicate_succ,Kca];have:=(one z).append ih;simpa [Qae] using this
theorem Qrr (z:List Value) (n:Nat):∀ x ∈ Qae z n,x.length=z.length:=by
 intro x hx;rw [Qae,List.mem_replicate] at hx;rw [hx.2];simp
end
end Go.Idl
namespace Go.Idl
open Go
section
variable {cx:Cx} {w w':World} {F F':Nat->Prop} {ρ ρ':Rho} {fp fp':Fp} {X f f':List Nat} {st st':St} {a:Act} {o:Oper} {tm:Nat->Value} {v:IV}
theorem Qme {ex} (h1:∀ r,∀ b ∈ fp' r,b ∈ fp r) (h2:∀ b ∈ f,∃ r,b ∈ fp r) {w1 F1 ρ1 fp1 X1} (h:Ext w F ρ fp' (f++X) ex w1 F1 ρ1 fp1 X1):Ext w F ρ fp X ex w1 F1 ρ1 fp1 X1 :=
 (Ext.sub (X:=X) (F:=F) (w:=w) (ρ:=ρ) (fun r b hb=>⟨r,h1 r b hb⟩) h2).trans h (fun _ _ h=>h)
theorem Jeg (h:Rel cx w F ρ fp X st (Qah a)) {t:TypeId} {z:List Value} (hz:Qj5 cx.P t z) (ho:o.op=.alloc t) {cf} (hev:ev cf st (.alloc z)=some (v,st')):Qb8 cx w F ρ fp X st a o v st':=by
 simp only [ev,Kaa,Kab] at hev;obtain ⟨rfl,rfl⟩:=hev;obtain ⟨zv,hz1,hz2⟩:=Qdd hz w;have hrun:(execOp a.eval o).run cx.P w=.ok (.value (.pointer (some ⟨w.heap.size,0,none⟩))) (w.alloc (.cells zv.cells t)):=by
  simp [execOp,ho,Instr.alloc,hz1,newVar,newRow]
 have hc:Cat (RC cx w F ρ st (look st (Qah a) ρ w)) (z.map cv1) zv.cells.toList []:=by rw [hz2];exact Qln z
 have hd:∀ c ∈ z.map cv1,c.isD=true \/ c=.un:=by
  intro c hc;obtain ⟨u,_,rfl⟩:=Kck.1 hc;unfold cv1;split <;> simp [IV.isD]
 obtain ⟨h1,h2,h3,h4⟩:=Rel.newBox (f:=[]) (X:=X) (w':=w.alloc (.cells zv.cells t)) h hc hd rfl ⟨rfl,rfl,rfl⟩;refine ⟨_,_,F,_,_,[],.inl hrun,h1,.inl ⟨⟨?_,?_⟩,rfl⟩,h2,h3⟩
 . simp
 . rw [h4];rfl
theorem Js1 (h:Rel cx w F ρ fp X st (Qah a)) {x:Opd} {y:Operand} {t:TypeId} (hx:Qaz cx y x) (ho:o.op=.box t y) {cf} (hev:ev cf st (.box x)=some (v,st')):Qb8 cx w F ρ fp X st a o v st':=by
 simp only [ev] at hev;split at hev
 . rename_i cs st1 ha;simp only [Kaa,Kab] at hev;obtain ⟨rfl,rfl⟩:=hev;obtain ⟨fp1,f1,k1,k2,k3,k4,k5,k6⟩:=Qfb h hx ha;have hrun:(execOp a.eval o).run cx.P w=.ok (.value (.pointer (some ⟨w.heap.size,0,none⟩))) (w.alloc (.cells (a.eval y).cells t)):=by
    simp [execOp,ho,Instr.box,newVar,newRow]
   obtain ⟨h1,h2,h3,h4⟩:=Rel.newBox (f:=f1) (X:=X) (w':=w.alloc (.cells (a.eval y).cells t)) k1 k2 (fun c hc=>.inl (k3 c hc)) rfl ⟨rfl,rfl,rfl⟩;have hex:∀ l k,exB st l k->exB st1 l k:=fun l k hb=>k6.box hb;have e1:=Qme (ex:=exB st) k5 k4 ⟨h2.size,h2.keep,h2.fpn,h2.xn,h2.Fm,h2.Fn,fun l k hlk=>h2.rho l k (hex l k hlk),h2.env⟩;refine ⟨_,_,F,_,_,[],.inl hrun,h1,.inl ⟨⟨?_,?_⟩,rfl⟩,e1,k6.trans h3⟩
   . simp
   . rw [h4];rfl
 . cases hev
theorem Jei (h:Rel cx w F ρ fp X st (Qah a)) {t:TypeId} {z:List Value} {parts:List (Nat×Nat×Opd)} {rparts:Array (Nat×Operand)} {fields:Array Field} {places:List (Nat×Nat)} (hz:Qj5 cx.P t z)
 (hu:cx.P.underlying t=some (.struct fields)) (hpl:fields.toList.mapM (fun f=>(cx.P.info? f.type).map fun i=>(f.offset,i.size))=some places)
 (hp:Qje cx (places.toArray[·]?) rparts.toList parts) (ho:o.op=.build t rparts) {cf} (hev:ev cf st (.build z parts)=some (v,st')):Qb8 cx w F ρ fp X st a o v st':=by
 simp only [ev] at hev;split at hev
 . rename_i cs T hf;simp only [Kaa,Kab] at hev;obtain ⟨rfl,rfl⟩:=hev;obtain ⟨i,zv,hi,hiz,hzc⟩:=hz;have hc:Cat (RC cx w F ρ st (look st (Qah a) ρ w)) (z.map cv1) zv.cells.toList []:=by rw [hzc];exact Qln z
   obtain ⟨C',fp',f',e1,e2,e3,e4,e5⟩:=Qpv (f:=[]) (X:=X) h hc hp hf;have hb:cx.P.built t (rparts.map fun (i,x)=>(i,a.eval x)).toList=some C':=by
    unfold Program.built;simp only [hi,hu,hiz,hpl,Array.toList_map];exact e1
   refine ⟨.agg C',w,F,ρ,fp',f',.inl ?_,e2,⟨C',rfl,e3⟩,Ext.sub (fun r b hb=>⟨r,e5 r b hb⟩) (fun b hb=>?_),⟨rfl,Kam _⟩⟩
   . simp only [execOp,ho,Sem.run_bind,run_build w t _ C' hb,Result.andThen_ok,Sem.run_pure]
   . rcases e4 b hb with h5 | h5
     . cases h5
     . exact h5
 . cases hev
theorem Qzy (h:Rel cx w F ρ fp X st (Qah a)) {t el:TypeId} {n size:Nat} {z:List Value} {parts:List (Nat×Nat×Opd)} {rparts:Array (Nat×Operand)} (hz:Qj5 cx.P t z)
 (hu:cx.P.underlying t=some (.array n el)) (hs:Qdu cx.P el size)
 (hp:Qje cx (fun i=>some (i * size,size)) rparts.toList parts) (ho:o.op=.build t rparts) {cf} (hev:ev cf st (.build z parts)=some (v,st')):Qb8 cx w F ρ fp X st a o v st':=by
 simp only [ev] at hev;split at hev
 . rename_i cs T hf;simp only [Kaa,Kab] at hev;obtain ⟨rfl,rfl⟩:=hev;obtain ⟨zv0,hz1,hz2⟩:=Qdd hz w;obtain ⟨i,zv,hi,hiz,hzc⟩:=hz;have hc:Cat (RC cx w F ρ st (look st (Qah a) ρ w)) (z.map cv1) zv0.cells.toList []:=by rw [hz2];exact Qln z
   obtain ⟨C',fp',f',e1,e2,e3,e4,e5⟩:=Qpv (f:=[]) (X:=X) h hc hp hf;refine ⟨.agg C',w,F,ρ,fp',f',.inl ?_,e2,⟨C',rfl,e3⟩,Ext.sub (fun r b hb=>⟨r,e5 r b hb⟩) (fun b hb=>?_),⟨rfl,Kam _⟩⟩
   . have hfill:Instr.fill (fun i=>some (i * size,size)) zv0.cells (rparts.map fun (i,x)=>(i,a.eval x)).toList=some C':=by rw [Array.toList_map];exact e1
     simp only [execOp,ho,Instr.build,Sem.run_bind,hz1,Result.andThen_ok,run_underlying hu,Qbu hs,hfill,Sem.run_pure]
   . rcases e4 b hb with h5 | h5
     . cases h5
     . exact h5
 . cases hev
theorem Js2 (h:Rel cx w F ρ fp X st (Qah a)) {t elem:TypeId} {z:List Value} {e len:Nat} {parts:List (Nat×Opd)} {rparts:Array (Nat×Operand)} (hz:Qj5 cx.P elem z) (he:Qdu cx.P elem e) (hze:z.length=e)
 (hu:cx.P.underlying t=some (.slice elem)) (hlim:len * e<=16777216) (hp:Qk0 cx rparts.toList parts) (ho:o.op=.buildSlice t len rparts) {cf} (hev:ev cf st (.bsl e z len parts)=some (v,st')):Qb8 cx w F ρ fp X st a o v st':=by
 simp only [ev] at hev;split at hev
 . rename_i es st1 hf;simp only [Kaa,Kab] at hev;obtain ⟨rfl,rfl⟩:=hev;obtain ⟨zv,hz1,hz2⟩:=Qdd hz w;have hzs:zv.cells.size=e:=by rw [<- hze,<- hz2];simp
   have hrow:∀ z':Array Value,(len * e=0 \/ z'=zv.cells)->((Array.range (len * e)).map (z'[· % z'.size]!)).toList=(List.replicate len z).flatten:=by
    intro z' hz';rcases hz' with h0 | rfl
    . rw [h0];have:(List.replicate len z).flatten.length=0:=by simp [hze,h0]
      rw [Kav.1 this];simp
    . have:=Qst zv.cells len;rw [hz2,hzs] at this;rw [<- this];unfold madeCells;rw [hzs]
   generalize hC0:(Array.range (len * e)).map ((if len * e=0 then (#[]:Array Value) else zv.cells)[· % (if len * e=0 then (#[]:Array Value) else zv.cells).size]!)=C0;have hC0l:C0.toList=(List.replicate len z).flatten:=by
    rw [<- hC0];exact hrow _ (by split <;> simp [*])
   have hd:RDs w F (Qae z len).flatten C0.toList []:=by rw [hC0l];exact Qrs z len
   obtain ⟨C',fp',f',e1,e2,e3,e4,e5,e6,e7,e8⟩:=Qsc (f:=[]) (X:=X) h hd (by rw [<- hze];exact Qrr z len) hp hf;have hlen:es.length=len:=by rw [e5];simp [Qae]
   have hrun:(execOp a.eval o).run cx.P w=.ok (.value (.slice (some ⟨w.heap.size,0,none⟩) len len)) (w.alloc (.cells C' elem)):=by
    have hl:¬ (2 ^ 24 < len * e):=by omega
    have e1':Instr.fill (fun i=>some (i * e,e)) C0 (rparts.map fun (i,x)=>(i,a.eval x)).toList=some C':=by rw [Array.toList_map];exact e1
    by_cases h0:len * e=0
    . rw [if_pos h0] at hC0;simp only [execOp,ho,Instr.buildSlice,Sem.run_bind,run_underlying hu,Result.andThen_ok,Qbu he,gt_iff_lt,if_neg hl,if_pos h0,Sem.run_pure,hC0,e1',newRow];rfl
    . rw [if_neg h0] at hC0;simp only [execOp,ho,Instr.buildSlice,Sem.run_bind,run_underlying hu,Result.andThen_ok,Qbu he,gt_iff_lt,if_neg hl,if_neg h0,hz1,Sem.run_pure,hC0,e1',newRow];rfl
   have hsz:C'.size=len * e:=by have:=e3.len;rw [Qbn e4,hlen] at this;simpa using this.symm
   obtain ⟨f2,g1,g2,g3,g4,g5⟩:=Rel.newOwn (C:=C') (ty:=elem) (cap:=len) (w':=w.alloc (.cells C' elem)) (e:=e) (es:=es) e2 (by
    rw [hlen,Kae (by simp [hsz])];exact e3) e4 (by omega) (by omega) rfl ⟨rfl,rfl,rfl⟩
   rw [hlen] at g2;refine ⟨_,_,F,ρ,fp',f2,.inl hrun,g1,.inr g2,Qme e7 (fun b hb=>?_) (g4 _),e8⟩;rcases e6 b hb with h5 | h5
   . cases h5
   . exact h5
 . cases hev
theorem Jmc (h:Rel cx w F ρ fp X st (Qah a)) {t elem:TypeId} {z:List Value} {e:Nat} {l c:Opd} {l' c':Operand} {i:TypeInfo} (hz:Qj5 cx.P elem z) (he:Qdu cx.P elem e) (hze:z.length=e)
 (hu:cx.P.underlying t=some (.slice elem)) (hi:cx.P.info? elem=some i) (hb:i.bytes<=1024) (hl:Qaz cx l' l) (hc:Qaz cx c' c) (ho:o.op=.makeSlice t l' c') {cf} (hev:ev cf st (.mksl e z l c)=some (v,st')):Qb8 cx w F ρ fp X st a o v st':=by
 simp only [ev] at hev;split at hev
 . rename_i ln cn hln hcn;split at hev
   . rename_i hcond;simp only [Kaa,Kab] at hev;obtain ⟨rfl,rfl⟩:=hev;obtain ⟨kl,zl,h1,h2,h3,-⟩:=Qes hln (Qa0 h hl);obtain ⟨kc,zc,h4,h5,h6,-⟩:=Qes hcn (Qa0 h hc);obtain ⟨i',zv,hi',hiz,hzc⟩:=hz;rw [hi] at hi';cases hi';obtain ⟨i'',hi'',hsz⟩:=he;rw [hi] at hi'';cases hi'';have hlim:(cn:Int)<=274877906944:=by have:=hcond.2;unfold lim at this;omega
     have hzc':zc=(cn:Int):=by omega
     have hzl':zl=(ln:Int):=by omega
     have hrun:=run_make (P:=cx.P) w t elem i zv hu hi hiz kl kc zl zc h2 (by omega) (by
      have:(i.bytes:Int) * zc<=1024 * 274877906944:=Int.mul_le_mul (by omega) (by omega) h5 (by omega);omega) (by omega)
     have hzs:zv.cells.size=i.size:=by rw [hsz,<- hze,<- hzc];simp
     rw [hzc',hzl',Kax,Kax,<- hzs] at hrun;have hml:=Qst zv.cells cn;rw [hzc] at hml;have hzs2:zv.cells.size=e:=by omega
     obtain ⟨f2,g1,g2,g3,g4,g5⟩:=Rel.newOwn (f:=[]) (X:=X) (C:=madeCells zv.cells (cn * zv.cells.size)) (ty:=elem) (cap:=cn) (w':=w.alloc (.cells (madeCells zv.cells (cn * zv.cells.size)) elem)) (e:=e) (es:=Qae z ln) h (by
      have hll:(Qae z ln).length=ln:=by simp [Qae]
      rw [hll,hml];have:(List.replicate cn z).flatten.take (ln * e)=(List.replicate ln z).flatten:=by
       rw [show cn=ln+(cn - ln) by omega,<- List.replicate_append_replicate,Kdg];have:(List.replicate ln z).flatten.length=ln * e:=by simp [hze]
       rw [<- this,List.take_left]
      rw [this];exact Qrs z ln) (by rw [<- hze];exact Qrr z ln) (by simp [Qae];exact hcond.1) (by rw [size_madeCells,hzs2];exact Kam _) rfl ⟨rfl,rfl,rfl⟩
     have hll:(Qae z ln).length=ln:=by simp [Qae]
     rw [hll] at g2;refine ⟨_,_,F,ρ,fp,f2,.inl ?_,g1,.inr g2,by simpa using g4 _,.refl _⟩;simp only [execOp,ho,h1,h4,hzc',hzl',Sem.run_bind,hrun,Result.andThen_ok,Sem.run_pure]
   . cases hev
 . cases hev
end
end Go.Idl
namespace Go.Idl
open Go
section
variable {cx:Cx} {w w':World} {F F':Nat->Prop} {ρ ρ':Rho} {fp fp':Fp} {X f f':List Nat} {st st':St} {a:Act} {o:Oper} {tm:Nat->Value} {v:IV}
theorem Qdi {lk x v f} (h:Qdk cx w F ρ st lk x v f):Qa6 cx w F ρ st lk x v f:=by
 cases x with
 | tup vs =>
   rcases h with ⟨h,_⟩ | h
   . exact h.elim
   . cases h
 | _=>exact h
theorem Jl5 (h:Rel cx w F ρ fp X st (Qah a)) {x:Opd} {x':Operand} {i:Nat} (hx:Qaz cx x' x) (ho:o.op=.extract x' i) {cf} (hev:ev cf st (.extr x i)=some (v,st')):Qb8 cx w F ρ fp X st a o v st':=by
 simp only [ev] at hev;split at hev;rotate_left
 . cases hev
 rename_i s;split at hev;rotate_left
 . cases hev
 rename_i vs hT;split at hev;rotate_left
 . cases hev
 rename_i u hu;simp only [Kaa,Kab] at hev;obtain ⟨rfl,rfl⟩:=hev;cases x' with
 | const c=>exact hx.elim
 | func c=>exact hx.elim
 | global c=>exact hx.elim
 | tmp t =>
 have hts:t=s:=hx;subst hts;obtain ⟨h1,h2⟩:=h.drop t;rw [hT] at h2;obtain ⟨C,hC,hcat⟩:=h2;have hget:(vs.map (kl1 (IV.rooted (.S t))))[i]? = some (kl1 (IV.rooted (.S t)) u):=by simp [hu]
 obtain ⟨uv,f1,g,f2,k1,k2,k3,k4⟩:=hcat.at_ hget
 have hback:=k4 (Qdk cx w F ρ { st with T:=dropSlot t st.T } (look { st with T:=dropSlot t st.T } (Qah a) ρ w)) .un uv [] (fun _ _ _ _ h=>h) rfl;have hset:C.toList.set i uv=C.toList:=by
  apply Kdc;intro j;by_cases hj:i=j
  . subst hj;rw [Kbl (by
     rcases Kbw i C.toList.length with hh | hh
     . exact hh
     . rw [Kar hh] at k1;cases k1),k1]
  . rw [Kbi hj]
 rw [hset] at hback;have hm:(vs.map (kl1 (IV.rooted (.S t)))).set i .un=(vs.set i .un).map (kl1 (IV.rooted (.S t))):=by
  rw [Ker];simp [kl1,klc]
 rw [hm] at hback;have hslot:Qa6 cx w F ρ { st with T:=dropSlot t st.T } (look { st with T:=dropSlot t st.T } (Qah a) ρ w) (.tup ((vs.set i .un).map (kl1 (IV.rooted (.S t))))) (Qah a t) (f1++([]++f2)):=⟨C,hC,hback⟩;have hrel:Rel cx w F ρ (Qao fp (.S t) []) ((f1++([]++f2))++(g++X)) { st with T:=dropSlot t st.T } (Qah a):=by
  have h1':Rel cx w F ρ (Qao fp (.S t) []) (f1++(g++f2)++X) { st with T:=dropSlot t st.T } (Qah a):=by rw [<- k2];exact h1
  refine h1'.perm ?_;simp only [Kaq,Kal];refine Kek f1 ?_;rw [<- Kal,<- Kal];exact Kcn X Kcm
 have hput:=hrel.put hslot t;have htm:(fun q=>if q=t then Qah a t else Qah a q)=Qah a:=by funext q;by_cases hq:q=t <;> simp [hq]
 rw [htm] at hput;have tr:=Qqu h1 t (.tup ((vs.set i .un).map (kl1 (IV.rooted (.S t))))) (Qah a t) (fun _=>false) .none (.inr (by simp [dropSlot,Qav,IV.holds]));rw [htm,Qhj] at tr;refine ⟨uv,w,F,ρ,_,g,.inl ?_,hput,?_,Ext.sub (fun r b hb=>?_) (fun b hb=>⟨.S t,by rw [k2];simp [hb]⟩),⟨rfl,Kam _⟩⟩
 . have:a.eval (.tmp t)=.tuple C:=hC;have k1':C[i]? = some uv:=by simpa using k1
   simp [execOp,ho,this,Instr.extract,k1']
 . have h5:=k3.trk tr .none (Qp2 _) (fun _ _=>rfl);rw [Qp0] at h5;have e5:tput (dropSlot t st.T) t (.tup ((vs.set i .un).map (kl1 (IV.rooted (.S t)))))=(t,.tup ((vs.set i .un).map (kl1 (IV.rooted (.S t)))))::dropSlot t st.T:=by
    unfold tput;rw [if_neg (by simp [dropSlot,Qav,IV.holds])]
   rw [e5];exact Qdi h5
 . unfold Qao at hb;split at hb
   . rename_i hr;subst hr;refine ⟨.S t,?_⟩;rw [k2];simp only [Kaq,Kah] at hb |-;rcases hb with hb | hb <;> simp [hb]
   . exact ⟨r,by rename_i hr;simpa [hr] using hb⟩
end
end Go.Idl
namespace Go.Idl
open Go
theorem Qcd {α:Type} {cs ys:List α} {c j:Nat} (h:c+ys.length<=cs.length) (hj:j < c \/ c+ys.length<=j):(splice cs c ys)[j]? = cs[j]?:=by
 unfold splice;rcases hj with hj | hj
 . rw [Kal,Kba (by rw [Kas];omega),Kbg hj]
 . rw [Kat (by rw [Kbu,Kas];omega),Kbp];congr 1;rw [Kbu,Kas];omega
theorem Qdj {α:Type} {cs ys:List α} {c:Nat} (h:c+ys.length<=cs.length):(splice cs c ys).length=cs.length:=by
 unfold splice;simp;omega
section
variable {cx:Cx} {w w':World} {F F':Nat->Prop} {ρ ρ':Rho} {fp fp':Fp} {X f f' fy:List Nat} {st st':St} {a:Act} {o:Oper} {tm:Nat->Value} {v:IV}
theorem RC.rbox' {lk x v l} (h:RC cx w F ρ st lk x v f) (hd:x.isD=true) (hl:x.lvl (l+1)=true):Qj7 cx w F ρ st l x v f:=by
 rcases h with ⟨h,rfl⟩ | h
 . cases x with
   | bptr l' k c=>exact .inl ⟨h,hl,rfl,rfl⟩
   | fn g caps=>exact .inl ⟨h,hl,rfl,rfl⟩
   | _=>first | exact h.elim | simp [IV.isD] at hd
 . exact .inr h
theorem Rel.storeBox (h:Rel cx w F ρ fp (fy++X) st tm) {l k c:Nat} {cs old ys:List IV} {us:List Value} (hb:st.box l k=some cs) (hs:sub cs c ys.length=some old)
 (hc:Cat (RC cx w F ρ st (look st tm ρ w)) ys us fy) (hd:∀ y ∈ ys,y.isD=true) (hl:∀ y ∈ ys,y.lvl (l+1)=true) {pk:IV->Bool} (hpk:Qaj pk)
 (hkeep:(∀ y:IV,y.rooted (.B l k)=true->pk y=true) \/ old.all IV.isSc=true) {C:Array Value} {ty:TypeId} (hC:w.heap[ρ l k]? = some (.cells C ty (0,0)))
 (hw1:w'.heap[ρ l k]? = some (.cells (splice C.toList c us).toArray ty (0,0))) (hw2:∀ b,b ≠ ρ l k->w'.heap[b]? = w.heap[b]?) (hw3:w'.heap.size=w.heap.size) :
 ∃ fp',Rel cx w' F ρ fp' X { st.setBox l k (splice cs c ys) with T:=Qa3 pk st.T } tm/\Qbf st { st.setBox l k (splice cs c ys) with T:=Qa3 pk st.T }/\(∀ r,∀ b ∈ fp' r,b ∈ fp r \/ b ∈ fy)/\(∃ r,ρ l k ∈ fp r):=by
 obtain ⟨C',ty',f0,hfp,hheap,hcat⟩:=h.boxes l k cs hb;rw [hC] at hheap;simp only [Kaa,Obj.cells.injEq,and_true] at hheap;obtain ⟨rfl,rfl⟩:=hheap;obtain ⟨hle,rfl⟩:=Qed hs;have hys:Cat (Qj7 cx w F ρ st l) ys us fy:=hc.mono fun x v f _ hx hm=>hx.rbox' (hd x hm) (hl x hm);have hysl:=hys.len;have hcl:cs.length=C.toList.length:=hcat.len;obtain ⟨f1,g,f2,hfe,hsp⟩:=hcat.splice hys hle;have hsome:(st.box l k).isSome=true:=by rw [hb];rfl
 have hbs:=fun l' k'=>Qi1 (cs':=splice cs c ys) hsome l' k';have shp:=Qgt st l k (splice cs c ys);have hin:ρ l k ∈ fp (.B l k):=by rw [hfp];simp
 have hnd:=h.nodup (.B l k);rw [hfp] at hnd;obtain ⟨hnin,hnd0⟩:=Kbq.1 hnd;have hagr:∀ r,r ≠ .B l k->∀ b ∈ fp r,w'.heap[b]? = w.heap[b]?:=fun r hr b hb=>hw2 b (fun he=>h.disj r (.B l k) hr b hb (he ▸ hin));have hagF:∀ b,F b->w'.heap[b]? = w.heap[b]?:=fun b hb=>hw2 b (fun he=>h.notF (.B l k) b (he ▸ hin) hb);have hagX:∀ b,b ∈ fy++X->w'.heap[b]? = w.heap[b]?:=fun b hb=>hw2 b (fun he=>h.xdisj (.B l k) b (he ▸ hin) hb);have hag0:∀ b ∈ f0,w'.heap[b]? = w.heap[b]?:=fun b hb=>hw2 b (fun he=>hnin (he ▸ hb));have tr:Tr w F ρ st (look st tm ρ w) w' F ρ { st.setBox l k (splice cs c ys) with T:=Qa3 pk st.T }
  (look { st.setBox l k (splice cs c ys) with T:=Qa3 pk st.T } tm ρ w') (fun r c q=>∃ x:IV,Qby x r c q/\pk x=false):=by
  refine ⟨fun r c2 q hlive x1 v1 e2 es2 A hn hcap hlk hfo=>?_,hagF,fun _ h=>h,fun l' k' hb=>⟨rfl,shp.box hb⟩⟩;obtain ⟨e1,es1,rfl⟩:=Qbk hfo;by_cases hr:r=.B l k
  . subst hr;rcases hkeep with hk | hsc
    . obtain ⟨x,hx1,hx2⟩:=hlive;have:x.rooted (.B l k)=true:=Qc1 hx1;rw [hk x this] at hx2;cases hx2
    . simp only [look,hb] at hlk;cases hc2:cs[c2]? with
      | none=>simp [hc2] at hlk
      | some y2 =>
      simp only [hc2,Qau hC] at hlk;cases hv2:C[c2]? with
      | none=>simp [hv2] at hlk
      | some v2 =>
      simp only [hv2,Kaa,Kab] at hlk;obtain ⟨rfl,rfl⟩:=hlk;have hout:c2 < c \/ c+ys.length<=c2:=by
       rcases Kbw c2 c with h1 | h1
       . exact .inl h1
       . rcases Kbw c2 (c+ys.length) with h2 | h2
         . exfalso;have:(IV.own e1 es1) ∈ (cs.drop c).take ys.length:=by
            refine Kbn (i:=c2 - c) ?_;rw [Kbg (by omega),Kbp,show c+(c2 - c)=c2 by omega,hc2]
           have:=Kaj.1 hsc _ this;simp [IV.isSc] at this
         . exact .inr h2
      obtain ⟨v3,q1,qf,q2,hv3,hqe,hRq,-⟩:=hcat.at_ hc2
      have hv23:v3=v2:=by
       have:C.toList[c2]? = some v2:=by simpa using hv2
       rw [this] at hv3;exact (Kda hv3).symm
      subst hv23;have hRq':RDs w F [.own e1 es1] [v3] qf:=by
       rcases hRq with ⟨hh,_⟩ | hRq
       . exact hh.elim
       . exact hRq
      refine ⟨.own e1 es1,es2,?_,Qco hRq' (fun b hb=>hag0 b (by rw [hqe];simp [hb])) hfo,Kam _⟩;simp only [look,Qj8,hbs,and_self,if_true];rw [Qcd hle hout,hc2,Qau hw1];have:(splice C.toList c us).toArray[c2]? = some v3:=by
       rw [List.getElem?_toArray,Qcd (by rw [<- hysl,<- hcl];exact hle) (by rw [<- hysl];exact hout)];simpa using hv2
      rw [this]
  . refine ⟨.own e1 es1,es2,?_,h.tr_other hlk hfo (hagr r hr),Kam _⟩;cases r with
    | S s' =>
      obtain ⟨h1,h2⟩:=Qer hlk;refine Qb3 ?_ h2;rw [Qap];exact Qe0 hpk h1
    | B l' k' =>
      have hne:¬ (l'=l/\k'=k):=fun hc=>hr (by rw [hc.1,hc.2]);have hb1:({ st.setBox l k (splice cs c ys) with T:=Qa3 pk st.T }:St).box l' k'=st.box l' k':=by
       rw [Qj8,hbs,if_neg hne]
      have:=Qf2 (st':=st) h hlk (hagr _ hr);simp only [look,hb1];simp only [look] at this;exact this
 have hX:=Kan.1 h.xnodup;have hyX:∀ b ∈ fy,b ∈ fy++X:=fun b hb=>by simp [hb]
 have hXX:∀ b ∈ X,b ∈ fy++X:=fun b hb=>by simp [hb]
 have hsub:∀ q,∀ b ∈ Qao fp (.B l k) (ρ l k::(f1++(fy++f2))) q,b ∈ fp q \/ (q=.B l k/\b ∈ fy):=fun q b hb=>by
  unfold Qao at hb;split at hb
  . rename_i hq;subst hq;rw [hfp,hfe];simp only [Kaf,Kah] at hb |-;rcases hb with hb | hb | hb | hb
    . exact .inl (.inl hb)
    . exact .inl (.inr (.inl hb))
    . exact .inr ⟨trivial,hb⟩
    . exact .inl (.inr (.inr (.inr hb)))
  . exact .inl hb
 refine ⟨Qao fp (.B l k) (ρ l k::(f1++(fy++f2))),⟨fun s'=>?_,fun l' k' cs' hb'=>?_,fun l' k' hb'=>?_,fun r=>?_,fun r r' hr b hb hb'=>?_,fun r b hb=>?_,fun r b hb=>?_,fun b hb=>?_,hX.2.1,fun r b hb hx=>?_,fun b hb=>h.xF b (hXX b hb),
  fun b hb=>?_⟩,⟨shp.M,shp.loc⟩,fun r b hb=>?_,⟨.B l k,hin⟩⟩
 . rw [Qap];have hne:(Rt.S s':Rt) ≠ .B l k:=fun hc=>by cases hc
   rw [show Qao fp (.B l k) (ρ l k::(f1++(fy++f2))) (.S s')=fp (.S s') from if_neg hne];exact (h.slots s').trk tr hpk (Qp2 pk) (hagr _ hne)
 . rw [Qj8,hbs] at hb';by_cases hlk:l'=l/\k'=k
   . obtain ⟨rfl,rfl⟩:=hlk;simp only [and_self,if_true,Kaa] at hb';subst hb';refine ⟨_,ty,f1++(fy++f2),if_pos rfl,hw1,?_⟩;simp only;refine hsp.mono fun x v f' hf' hx _=>hx.tr tr (fun b hb=>?_);have:=hf' b hb;simp only [Kah] at this;rcases this with h1 | h1 | h1
     . exact hag0 b (by rw [hfe];simp [h1])
     . exact hagX b (hyX b h1)
     . exact hag0 b (by rw [hfe];simp [h1])
   . rw [if_neg hlk] at hb';obtain ⟨C',ty',f',k1,k2,k3⟩:=h.boxes l' k' cs' hb';have hne:(Rt.B l' k':Rt) ≠ .B l k:=fun hc=>hlk (by cases hc;exact ⟨rfl,rfl⟩);refine ⟨C',ty',f',by rw [show Qao fp (.B l k) (ρ l k::(f1++(fy++f2))) (.B l' k')=fp (.B l' k') from if_neg hne];exact k1,(hagr _ hne _ (by rw [k1];simp)).trans k2,?_⟩;exact k3.mono fun x v f hf hx _=>hx.tr tr (fun b hb=>hagr _ hne b (by rw [k1];simp [hf b hb]))
 . rw [Qj8,hbs] at hb';by_cases hlk:l'=l/\k'=k
   . rw [if_pos hlk] at hb';cases hb'
   . rw [if_neg hlk] at hb';have hne:(Rt.B l' k':Rt) ≠ .B l k:=fun hc=>hlk (by cases hc;exact ⟨rfl,rfl⟩);rw [show Qao fp (.B l k) (ρ l k::(f1++(fy++f2))) (.B l' k')=fp (.B l' k') from if_neg hne];exact h.nobox l' k' hb'
 . unfold Qao;split
   . refine Kbq.2 ⟨fun hm=>?_,Qjd (hfe ▸ hnd0) (fun b hb=>?_) hX.1⟩
     . simp only [Kah] at hm;rcases hm with hm | hm | hm
       . exact hnin (by rw [hfe];simp [hm])
       . exact h.xdisj (.B l k) _ hin (hyX _ hm)
       . exact hnin (by rw [hfe];simp [hm])
     . have hx:b ∉ f0:=fun hc=>h.xdisj (.B l k) b (by rw [hfp];simp [hc]) (hyX b hb);exact ⟨fun hc=>hx (by rw [hfe];simp [hc]),fun hc=>hx (by rw [hfe];simp [hc])⟩
   . exact h.nodup r
 . rcases hsub r b hb with h1 | ⟨rfl,h1⟩
   . rcases hsub r' b hb' with h2 | ⟨rfl,h2⟩
     . exact h.disj r r' hr b h1 h2
     . exact h.xdisj r b h1 (hyX b h2)
   . rcases hsub r' b hb' with h2 | ⟨rfl,h2⟩
     . exact h.xdisj r' b h2 (hyX b h1)
     . exact hr rfl
 . rcases hsub r b hb with h1 | ⟨_,h1⟩
   . exact h.notF r b h1
   . exact h.xF b (hyX b h1)
 . rw [hw3];rcases hsub r b hb with h1 | ⟨_,h1⟩
   . exact h.lt r b h1
   . exact h.xlt b (hyX b h1)
 . rw [hw3];exact h.Flt b hb
 . rcases hsub r b hb with h1 | ⟨_,h1⟩
   . exact h.xdisj r b h1 (hXX b hx)
   . exact hX.2.2 b h1 b hx rfl
 . rw [hw3];exact h.xlt b (hXX b hb)
 . rcases hsub r b hb with h1 | ⟨_,h1⟩
   . exact .inl h1
   . exact .inr h1
end
end Go.Idl
namespace Go.Idl
open Go
theorem Qot {α:Type} {C us:List α} {o n k:Nat} (hk:k+us.length<=n) (hn:o+n<=C.length):((splice C (o+k) us).drop o).take n=splice ((C.drop o).take n) k us:=by
 unfold splice;apply Kdc;intro q;by_cases hq:q < n
 . rw [Kbg hq,Kbp];by_cases h1:q < k
   . rw [Kal,Kba (by rw [Kas];omega),Kbg (by omega)];rw [Kal,Kba (by simp;omega),Kbg h1,Kbg hq,Kbp]
   . by_cases h2:q < k+us.length
     . rw [Kal,Kat (by rw [Kas];omega),Kba (by rw [Kas];omega)];rw [Kal,Kat (by simp;omega),Kba (by simp;omega)];congr 1;simp;omega
     . rw [Kat (by simp;omega),Kbp];rw [Kat (by simp;omega),Kbp,Kbg (by simp;omega),Kbp];congr 1;simp;omega
 . rw [Kar (by rw [Kas];omega),Kar (by simp;omega)]
theorem Qqn {α:Type} {L ys:List α} {m e j:Nat} (hL:m+e<=L.length) (hj:j+ys.length<=e):splice L m (splice ((L.drop m).take e) j ys)=splice L (m+j) ys:=by
 have hl:(splice ((L.drop m).take e) j ys).length=e:=by rw [Qdj (by simp;omega)];simp;omega
 apply Kdc;intro q;by_cases h1:m<=q/\q < m+e
 . have e1:(splice L m (splice ((L.drop m).take e) j ys))[q]? = (splice ((L.drop m).take e) j ys)[q - m]?:=by
    conv=>lhs;unfold splice
    rw [Kal,Kat (by rw [Kas];omega),Kas,Nat.min_eq_left (by omega)];rw [Kba (by have:=hl;unfold splice at this;omega)];rfl
   rw [e1];by_cases h2:j<=q - m/\q - m < j+ys.length
   . have e2:∀ (K:List α) (c:Nat),c<=K.length->c<=q - m+c - j->(splice K c ys)[q - m+c - j]? = ys[q - m - j]?:=by
      intro K c hc _;unfold splice;rw [Kal,Kat (by rw [Kas];omega),Kas,Nat.min_eq_left hc,Kba (by omega)];congr 1;omega
     have a1:=e2 ((L.drop m).take e) j (by simp;omega) (by omega);have a2:=e2 L (m+j) (by omega) (by omega);rw [show q - m+j - j=q - m by omega] at a1;rw [show q - m+(m+j) - j=q by omega] at a2;rw [a1,a2]
   . rw [Qcd (by simp;omega) (by omega),Qcd (by omega) (by omega),Kbg (by omega),Kbp];congr 1;omega
 . rw [Qcd (by omega) (by omega),Qcd (by omega) (by omega)]
theorem Quv {es:List (List IV)} {e i:Nat} {el:List IV} (he:∀ x ∈ es,x.length=e) (hi:es[i]? = some el):(es.flatten.drop (i * e)).take e=el/\i * e+e<=es.flatten.length:=by
 have hil:i < es.length:=(Kak.1 hi).1;have hell:el.length=e:=he _ (Kbn hi);have hb:(i+1) * e<=es.length * e:=Kbh _ hil;rw [Kbz] at hb;refine ⟨?_,by rw [Qbn he];exact hb⟩;apply Kdc;intro q;by_cases hq:q < e
 . rw [Kbg hq,Kbp];have:∃ y,el[q]? = some y:=⟨el[q]'(by omega),by simp⟩;obtain ⟨y,hy⟩:=this;rw [(Qdg he hi hy).1,hy]
 . rw [Kar (by rw [Kas];omega),Kar (by omega)]
theorem Qnz {es:List (List IV)} {e i j:Nat} {el ys:List IV} (he:∀ x ∈ es,x.length=e) (hi:es[i]? = some el) (hj:j+ys.length<=el.length) :
 (es.set i (splice el j ys)).flatten=splice es.flatten (i * e+j) ys:=by
 have hil:i < es.length:=(Kak.1 hi).1;have hell:el.length=e:=he _ (Kbn hi);obtain ⟨h1,h2⟩:=Quv he hi;rw [Qfz he hil (by rw [Qdj hj];exact hell),<- Qqn h2 (by omega),h1]
section
variable {cx:Cx} {w w':World} {F F':Nat->Prop} {ρ ρ':Rho} {fp fp':Fp} {X f f' fy:List Nat} {st st':St} {a:Act} {o:Oper} {tm:Nat->Value} {v:IV}
theorem Rel.storeElem (h:Rel cx w F ρ fp (fy++X) st tm) {r:Rt} {c:Nat} {p:Qg8} {i j:Nat} {x0:IV} {v0:Value} {e:Nat} {es:List (List IV)} {b o N cap:Nat} {el old ys:List IV} {us:List Value}
 (hl:look st tm ρ w r c=some (x0,v0)) (hf:Qci w x0 v0 p=some (.own e es,.slice (some ⟨b,o,none⟩) N cap)) (hi:es[i]? = some el) (hs:sub el j ys.length=some old)
 (hc:RDs w F ys us fy) (hsc:old.all IV.isSc=true \/ True) {pk:IV->Bool} (hpk:Qaj pk) (hkeep:(∀ y:IV,y.rooted r=true->pk y=true) \/ old.all IV.isSc=true) :
 ∃ C ty st' fp',w.heap[b]? = some (.cells C ty (0,0))/\o+i * e+j+us.length<=C.size/\(∃ r,b ∈ fp r)/\st.setPlc r c p (.own e (es.set i (splice el j ys)))=some st'/\Qbf st st' /\
   (∀ w',w'.heap[b]? = some (.cells (splice C.toList (o+i * e+j) us).toArray ty (0,0))->(∀ k,k ≠ b->w'.heap[k]? = w.heap[k]?)->w'.heap.size=w.heap.size ->
     Rel cx w' F ρ fp' X { st' with T:=Qa3 pk st'.T } tm)/\(∀ r,∀ b ∈ fp' r,b ∈ fp r \/ b ∈ fy):=by
 obtain ⟨hle,rfl⟩:=Qed hs;obtain ⟨pre,g,post,hfp,hRn,hup⟩:=h.upd hl hf;rcases hRn.own_inv with ⟨h0,_⟩ | ⟨b1,o2,cap1,C,ty,fp1,h8,hg,hb,hd,he,hnn,ho⟩
 . subst h0;simp at hi
 simp only [Value.slice.injEq,Kaa,Addr.mk.injEq,and_true] at h8;obtain ⟨⟨rfl,rfl⟩,rfl,rfl⟩:=h8;have hil:i < es.length:=(Kak.1 hi).1;have hell:el.length=e:=he _ (Kbn hi);have hbnd:(i+1) * e<=es.length * e:=Kbh _ hil;rw [Kbz] at hbnd;have husl:=hc.len;have hcap:es.length * e<=cap * e:=Kbh _ hnn.1;have hCl:C.toList.length=C.size:=Keq;have hgf:∀ k ∈ g,k ∈ fp r:=fun k hk=>by rw [hfp];simp [hk]
 have hgn:g.Nodup:=by
  have:=h.nodup r;rw [hfp] at this;exact (Kan.1 (Kan.1 this).2.1).1
 rw [hg] at hgn;obtain ⟨hbn,hfn⟩:=Kbq.1 hgn;obtain ⟨f1,g0,f2,hfe,hsp⟩:=hd.cats.splice hc.cats (c:=i * e+j) (by rw [Qbn he];omega);have hX:=Kan.1 h.xnodup;have hyX:∀ k ∈ fy,k ∈ fy++X:=fun k hk=>by simp [hk]
 have hXX:∀ k ∈ X,k ∈ fy++X:=fun k hk=>by simp [hk]
 have hbr:b ∈ fp r:=hgf b (by rw [hg];simp);have hby:b ∉ fy:=fun hk=>h.xdisj r b hbr (hyX b hk);have hbX:b ∉ X:=fun hk=>h.xdisj r b hbr (hXX b hk);have key:∀ w',w'.heap[b]? = some (.cells (splice C.toList (o+i * e+j) us).toArray ty (0,0))->(∀ k,k ≠ b->w'.heap[k]? = w.heap[k]?)->w'.heap.size=w.heap.size ->
  Upd w F g (fy++X) w' F (.own e (es.set i (splice el j ys))) (.slice (some ⟨b,o,none⟩) es.length cap) (b::(f1++(fy++f2))) X /\
  Qkm w w' g r pk (.own e es) (.own e (es.set i (splice el j ys))) (.slice (some ⟨b,o,none⟩) es.length cap):=by
  intro w' hw1 hw2 hw3;have hag1:∀ k ∈ fp1,w'.heap[k]? = w.heap[k]?:=fun k hk=>hw2 k (fun hc=>hbn (hc ▸ hk));refine ⟨⟨by omega,fun k _ hk=>hw2 k (fun hc=>hk (by rw [hg];simp [hc])),fun _ h=>h,fun _ h=>.inl h,?_,fun k hk=>?_,?_,fun k hk=>?_,hX.2.1,fun k hk=>⟨.inl (hXX k hk),fun hm=>?_⟩,fun k hk=>h.xF k (hXX k hk)⟩,?_⟩
  . have hfl:=Qnz (ys:=ys) he hi hle;have h1:RDs w' F (es.set i (splice el j ys)).flatten (((splice C.toList (o+i * e+j) us).drop o).take (es.length * e)) (f1++(fy++f2)):=by
     rw [hfl,show o+i * e+j=o+(i * e+j) by omega,Qot (by omega) (by omega)];refine (hsp.rds).frame (fun k hk=>?_) (fun k hk=>hw2 k (fun hc=>h.notF r b hbr (hc ▸ hk))) (fun _ h=>h);simp only [Kah] at hk;rcases hk with hk | hk | hk
     . exact hag1 k (by rw [hfe];simp [hk])
     . exact hw2 k (fun hc=>hby (hc ▸ hk))
     . exact hag1 k (by rw [hfe];simp [hk])
    have hl':(es.set i (splice el j ys)).length=es.length:=by simp
    have:=RDs.own (w:=w') (F:=F) (e:=e) (es:=es.set i (splice el j ys)) (xs:=[]) (vs:=[]) (fp:=[]) (cap:=cap) (o:=o) hw1 (fp1:=f1++(fy++f2)) (by rw [hl'];simpa using h1)
     (Qvf he (by rw [Qdj hle];exact hell)) (by rw [hl'];exact hnn) (by
       have:(splice C.toList (o+i * e+j) us).length=C.toList.length:=Qdj (by omega);simp only [List.size_toArray];omega) .nil
    rw [hl'] at this;simpa using this
  . rcases Kaf.1 hk with rfl | hk
    . exact .inl (by rw [hg];simp)
    . simp only [Kah] at hk;rcases hk with hk | hk | hk
      . exact .inl (by rw [hg,hfe];simp [hk])
      . exact .inr (hyX k hk)
      . exact .inl (by rw [hg,hfe];simp [hk])
  . refine Kbq.2 ⟨fun hm=>?_,Qjd (hfe ▸ hfn) (fun k hk=>?_) hX.1⟩
    . simp only [Kah] at hm;rcases hm with hm | hm | hm
      . exact hbn (by rw [hfe];simp [hm])
      . exact hby hm
      . exact hbn (by rw [hfe];simp [hm])
    . have hx:k ∉ fp1:=fun hc=>h.xdisj r k (hgf k (by rw [hg];simp [hc])) (hyX k hk);exact ⟨fun hc=>hx (by rw [hfe];simp [hc]),fun hc=>hx (by rw [hfe];simp [hc])⟩
  . rcases Kaf.1 hk with rfl | hk
    . exact h.notF r k hbr
    . simp only [Kah] at hk;rcases hk with hk | hk | hk
      . exact h.notF r k (hgf k (by rw [hg,hfe];simp [hk]))
      . exact h.xF k (hyX k hk)
      . exact h.notF r k (hgf k (by rw [hg,hfe];simp [hk]))
  . rcases Kaf.1 hm with rfl | hm
    . exact hbX hk
    . simp only [Kah] at hm;rcases hm with hm | hm | hm
      . exact h.xdisj r k (hgf k (by rw [hg,hfe];simp [hm])) (hXX k hk)
      . exact hX.2.2 k hm k hk rfl
      . exact h.xdisj r k (hgf k (by rw [hg,hfe];simp [hm])) (hXX k hk)
  . rcases hkeep with hk | hsc'
    . exact .inl hk
    . refine .inr ⟨b,by rw [hg];simp,hw2,fun q e2 es2 hh hq=>?_⟩;cases q with
      | nil =>
        simp only [Qci,Kaa,Kab,IV.own.injEq] at hq;obtain ⟨⟨rfl,rfl⟩,rfl⟩:=hq;exact ⟨_,rfl,by simp⟩
      | cons ij q =>
        obtain ⟨i2,j2⟩:=ij;simp only [Qci] at hq;cases hi2:es[i2]? with
        | none=>simp [hi2] at hq
        | some el2 =>
        cases hj2:el2[j2]? with
        | none=>simp [hi2,hj2] at hq
        | some z2 =>
        simp only [hi2,hj2] at hq;obtain ⟨hfl2,hil2,hje2⟩:=Qdg he hi2 hj2;have hbnd2:(i2+1) * e<=es.length * e:=Kbh _ hil2;rw [Kbz] at hbnd2;obtain ⟨u2,a1,g2,a2,hu2,hge2,hR2,-⟩:=hd.at_ hfl2
        rw [Qam (by omega)] at hu2;have hcell2:w.cell? ⟨b,o+i2 * e+j2,none⟩=some u2:=by rw [Qau hb,<- hu2,Kcq]
        simp only [hcell2] at hq;obtain ⟨e3,es3,rfl⟩:=Qbk hq;have hout:i2 ≠ i \/ (j2 < j \/ j+ys.length<=j2):=by
         by_cases hii:i2=i
         . subst hii;rw [hi] at hi2;cases hi2;right;rcases Kbw j2 j with h1 | h1
           . exact .inl h1
           . rcases Kbw j2 (j+ys.length) with h2 | h2
             . exfalso;have:(IV.own e3 es3) ∈ (el.drop j).take ys.length:=by
                refine Kbn (i:=j2 - j) ?_;rw [Kbg (by omega),Kbp,show j+(j2 - j)=j2 by omega,hj2]
               have:=Kaj.1 hsc' _ this;simp [IV.isSc] at this
             . exact .inr h2
         . exact .inl hii
        have hpos:o+i2 * e+j2 < o+i * e+j \/ o+i * e+j+us.length<=o+i2 * e+j2:=by
         rcases hout with h1 | h1
         . rcases Nat.lt_or_gt_of_ne h1 with h2 | h2
           . have:(i2+1) * e<=i * e:=Kbh _ h2;rw [Kbz] at this;omega
           . have:(i+1) * e<=i2 * e:=Kbh _ h2;rw [Kbz] at this;omega
         . by_cases hii:i2=i
           . subst hii;omega
           . rcases Nat.lt_or_gt_of_ne hii with h2 | h2
             . have:(i2+1) * e<=i * e:=Kbh _ h2;rw [Kbz] at this;omega
             . have:(i+1) * e<=i2 * e:=Kbh _ h2;rw [Kbz] at this;omega
        have hcell2':w'.cell? ⟨b,o+i2 * e+j2,none⟩=some u2:=by
         rw [Qau hw1,List.getElem?_toArray,Qcd (by omega) hpos];rw [Kcq];simpa using hu2
        have hr:=Qco (w':=w') hR2 (fun k hk=>hag1 k (by rw [hge2];simp [hk])) hq;refine ⟨es2,?_,Kam _⟩;have hget:∃ el3,(es.set i (splice el j ys))[i2]? = some el3/\el3[j2]? = some (.own e3 es3):=by
         by_cases hii:i=i2
         . subst hii;rw [hi] at hi2;cases hi2;refine ⟨_,Kbl hil,?_⟩;rw [Qcd hle (by rcases hout with h1 | h1;exact absurd rfl h1;exact h1)];exact hj2
         . exact ⟨el2,by rw [Kbi hii];exact hi2,hj2⟩
        obtain ⟨el3,k1,k2⟩:=hget;simp only [Qci,k1,k2,hcell2',hr]
 let w0:World:=w.setRow b (splice C.toList (o+i * e+j) us).toArray
 have q1:w0.heap[b]? = some (.cells (splice C.toList (o+i * e+j) us).toArray ty (0,0)):=setRow_heap w b C _ ty _ hb;have q2:∀ k,k ≠ b->w0.heap[k]? = w.heap[k]?:=fun k hk=>setRow_other w b k _ hk;have q3:w0.heap.size=w.heap.size:=setRow_size _ _ _;obtain ⟨u0,k0⟩:=key w0 q1 q2 q3;obtain ⟨st1,hset,hshp,-,-⟩:=hup u0 hpk (.inl ⟨_,_,rfl⟩) k0;refine ⟨C,ty,st1,Qao fp r (pre++(b::(f1++(fy++f2))++post)),hb,by omega,⟨r,hbr⟩,hset,hshp,fun w' hw1 hw2 hw3=>?_,fun q k hk=>?_⟩
 . obtain ⟨u1,k1⟩:=key w' hw1 hw2 hw3;obtain ⟨st2,hset2,-,hrel,-⟩:=hup u1 hpk (.inl ⟨_,_,rfl⟩) k1;rw [hset] at hset2;cases hset2;exact hrel
 . unfold Qao at hk;split at hk
   . rename_i hq;subst hq;rw [hfp];simp only [Kah,Kaf] at hk |-;rcases hk with hk | (hk | hk | hk | hk) | hk
     . exact .inl (.inl hk)
     . exact .inl (.inr (.inl (by rw [hg];simp [hk])))
     . exact .inl (.inr (.inl (by rw [hg,hfe];simp [hk])))
     . exact .inr hk
     . exact .inl (.inr (.inl (by rw [hg,hfe];simp [hk])))
     . exact .inl (.inr (.inr hk))
   . exact .inl hk
end
end Go.Idl
namespace Go.Idl
open Go
section
variable {cx:Cx} {w w':World} {F F':Nat->Prop} {ρ ρ':Rho} {fp fp':Fp} {X f f' fy:List Nat} {st st':St} {a:Act} {o:Oper} {tm:Nat->Value} {v:IV}
theorem RC.oneCell {lk x v} (h:RC cx w F ρ st lk x v f) (hd:x.isD=true):v.oneCell'=true:=by
 rcases h with ⟨h,_⟩ | h
 . cases x with
   | bptr l k c=>rw [h.1];rfl
   | fn g caps=>obtain ⟨_,h1,_⟩:=h;rw [h1];rfl
   | _=>first | exact h.elim | simp [IV.isD] at hd
 . cases x with
   | sc u =>
     cases h;rename_i h1 h2;cases h2;rcases Qeq h1 with ⟨_,_,rfl⟩ | ⟨_,rfl⟩ | ⟨_,rfl⟩ | rfl <;> rfl
   | lst e es c=>rcases h.lst_inv.2 with ⟨_,_,_,h1,_⟩ | ⟨_,_,_,_,_,_,h1,_⟩ <;> rw [h1] <;> rfl
   | own e es=>rcases h.own_inv with ⟨_,_,_,h1⟩ | ⟨_,_,_,_,_,_,h1,_⟩ <;> rw [h1] <;> rfl
   | bptr l k c=>cases h
   | fn g caps=>cases h
   | _=>simp [IV.isD] at hd
theorem Cat.oneCell {lk xs vs fq} (h:Cat (RC cx w F ρ st lk) xs vs fq) (hd:∀ x ∈ xs,x.isD=true):∀ v ∈ vs,v.oneCell'=true:=by
 induction h with
 | nil=>simp
 | cons h t ih =>
   intro v hv;rcases Kaf.1 hv with rfl | hv
   . exact h.oneCell (hd _ (by simp))
   . exact ih (fun x hx=>hd x (by simp [hx])) v hv
theorem Qjb (st:St):({ st with T:=Qa3 (fun _=>false) st.T }:St)=st:=by rw [Qhj]
theorem Jek (h:Rel cx w F ρ fp X st (Qah a)) {t:TypeId} {sz:Nat} {ad x:Opd} {ad' x':Operand} (hsz:Qdu cx.P t sz) (ha:Qaz cx ad' ad) (hx:Qaz cx x' x) (ho:o.op=.store t ad' x') {cf}
 (hev:ev cf st (.store sz ad x)=some (v,st')):Qb8 cx w F ρ fp X st a o v st':=by
 simp only [ev] at hev;split at hev;rotate_left
 . cases hev
 rename_i cs st1 hab;split at hev;rotate_left
 . cases hev
 rename_i hlen;split at hev;rotate_left
 . cases hev
 rename_i st2 hst;simp only [Kaa,Kab] at hev;obtain ⟨rfl,rfl⟩:=hev;obtain ⟨fp1,fy,k1,k2,k3,k4,k5,k6⟩:=Qfb h hx hab;have hus:=k2.len;have h1c:=k2.oneCell k3;have hr:=Qa0 k1 ha;have fin:∀ (b o':Nat) (C:Array Value) (ty:TypeId) (fp2:Fp),a.eval ad'=.pointer (some ⟨b,o',none⟩)->w.heap[b]? = some (.cells C ty (0,0))->o'+(a.eval x').cells.toList.length<=C.size ->
  (∃ r,b ∈ fp1 r)->Rel cx (w.setRow b (splice C.toList o' (a.eval x').cells.toList).toArray) F ρ fp2 X st2 (Qah a)->(∀ r,∀ b ∈ fp2 r,b ∈ fp1 r \/ b ∈ fy)->Qbf st1 st2 ->
  Qb8 cx w F ρ fp X st a o .un st2:=by
  intro b o' C ty fp2 e1 e2 e3 e4 e5 e6 e7;have hrun:=run_storeCells_at cx.P b o' ty (a.eval x').cells.toList 0 C w e2 (by omega) h1c;have hvs:(a.eval x').cells.size=sz:=by rw [<- hlen,hus];simp
  refine ⟨undef,_,F,ρ,fp2,[],.inr ⟨?_,rfl⟩,e5,rfl,?_,k6.trans e7⟩
  . simp only [execOp,ho,Instr.storeAt,Instr.sureAddr,e1,Sem.run_bind,Sem.run_pure,Result.andThen_ok,storeVar,Qbu hsz,hvs,ne_eq,not_true_eq_false,Kbs];rw [hrun];simp only [Result.andThen_ok,Keh,splice]
  . refine Qme (ex:=exB st) k5 k4 ⟨by simp,fun q hq hr hx=>?_,fun r q hq=>?_,fun q hq=>.inr (.inl (by simp at hq |-;exact .inr hq)),fun _ h=>h,fun _ h=>.inl h,fun _ _ _=>rfl,⟨rfl,rfl,rfl⟩⟩
    . obtain ⟨r,hbr⟩:=e4;exact setRow_other w b q _ (fun hc=>hr r (hc ▸ hbr))
    . rcases e6 r q hq with h5 | h5
      . exact .inl ⟨r,h5⟩
      . exact .inr (.inl (by simp [h5]))
 unfold St.storeCells at hst;split at hst
 ·
  rename_i l k c hrd;rw [hrd] at hr;have hptr:a.eval ad'=.pointer (some ⟨ρ l k,c,none⟩):=by
   rcases hr with ⟨hr,_⟩ | hr
   . exact hr.1
   . cases hr
  split at hst;rotate_left
  . cases hst
  rename_i bs hb;split at hst;rotate_left
  . cases hst
  rename_i old hs;split at hst;rotate_left
  . cases hst
  rename_i hlv;simp only [Kaa] at hst;obtain ⟨C,ty,f0,hfp,hheap,hcat⟩:=k1.boxes l k bs hb;have hle:=(Qed hs).1;have hC:c+(a.eval x').cells.toList.length<=C.size:=by have:=hcat.len;rw [<- hus];simp at this;omega
  have go:∀ pk,Qaj pk->((∀ y:IV,y.rooted (.B l k)=true->pk y=true) \/ old.all IV.isSc=true)->st2={ st1.setBox l k (splice bs c cs) with T:=Qa3 pk st1.T }->Qb8 cx w F ρ fp X st a o .un st2:=by
   intro pk hpk hkeep hst2;subst hst2;obtain ⟨fp2,g1,g2,g3,g4⟩:=Rel.storeBox (w':=w.setRow (ρ l k) (splice C.toList c (a.eval x').cells.toList).toArray) k1 hb hs k2 k3 (fun y hy=>Kaj.1 hlv y hy) hpk hkeep hheap
    (setRow_heap w _ C _ ty _ hheap) (fun b hb=>setRow_other w _ b _ hb) (by simp)
   exact fin _ _ C ty fp2 hptr hheap hC g4 g1 g3 g2
  by_cases hsc:(old.all IV.isSc && cs.all IV.isSc)=true
  . rw [if_pos hsc] at hst;refine go (fun _=>false) .none (.inr (by simp only [Kac] at hsc;exact hsc.1)) ?_;rw [<- Qit st1 l k (splice bs c cs),Qjb,hst]
  . rw [if_neg hsc,Qit] at hst;exact go (IV.rooted (.B l k)) (.rooted _) (.inl fun _ h=>h) hst.symm
 ·
  rename_i r c p i j hrd;rw [hrd] at hr;split at hst
  . cases hst
  rename_i hdata;have hdata':cs.all IV.isData=true:=by simpa using hdata
  split at hst;rotate_left
  . cases hst
  rename_i e es hplc;split at hst;rotate_left
  . cases hst
  rename_i el hi;split at hst;rotate_left
  . cases hst
  rename_i old hs;split at hst;rotate_left
  . cases hst
  rename_i st3 hset;simp only [Kaa] at hst;rcases hr with ⟨hr,_⟩ | hr;rotate_left
  . cases hr
  obtain ⟨x0,v0,e',es',b,o1,N,cap,hlk,hfo,hii,hptr⟩:=hr;have:=Qe6 k1 hlk hfo;rw [hplc] at this;cases this;have hR:=RDs.of_data k2 hdata';have go:∀ pk,Qaj pk->((∀ y:IV,y.rooted r=true->pk y=true) \/ old.all IV.isSc=true)->st2={ st3 with T:=Qa3 pk st3.T }->Qb8 cx w F ρ fp X st a o .un st2:=by
   intro pk hpk hkeep hst2;obtain ⟨C,ty,st4,fp2,g1,g2,g3,g4,g5,g6,g7⟩:=Rel.storeElem k1 hlk hfo hi hs hR (.inr trivial) hpk hkeep;rw [hset] at g4;cases g4;have:=g6 (w.setRow b (splice C.toList (o1+i * e+j) (a.eval x').cells.toList).toArray) (setRow_heap w _ C _ ty _ g1) (fun k hk=>setRow_other w _ k _ hk) (by simp);rw [<- hst2] at this;exact fin b _ C ty fp2 hptr g1 g2 g3 this g7 (by rw [hst2];exact ⟨g5.M,g5.loc⟩)
  by_cases hsc:(old.all IV.isSc && cs.all IV.isSc)=true
  . rw [if_pos hsc] at hst;refine go (fun _=>false) .none (.inr (by simp only [Kac] at hsc;exact hsc.1)) ?_;rw [Qjb,hst]
  . rw [if_neg hsc] at hst;exact go (IV.rooted r) (.rooted _) (.inl fun _ h=>h) hst.symm
 . cases hst
end
end Go.Idl
namespace Go.Idl
open Go
def Qid (P:Program):List Field->Nat->Prop
 | [],_=>True
 | f::fs,i=>f.name ≠ "_"/\f.offset=i/\(∃ k,P.underlying f.type=some (.int k))/\Qid P fs (i+1)
def Qg3:List Value->List Value->Option Bool
 | [],[]=>some true
 | .int k a::xs,.int k' b::ys=>if k=k' then match Qg3 xs ys with
    | some r=>some (a == b && r)
    | none=>none
   else none
 | _,_=>none
theorem Qj1 {P:Program} {w:World} {d:Nat}:∀ {fs:List Field} {i:Nat} {C D:Array Value} {us vs:List Value} {b:Bool},Qid P fs i->C.toList.drop i=us->D.toList.drop i=vs->us.length=fs.length->Qg3 us vs=some b ->
 (Op.eqFields (d+1) C D fs).run P w=.ok b w
 | [],i,C,D,us,vs,b,_,_,_,hl,he=>by
   have:us=[]:=Kav.1 (by simpa using hl);subst this;cases vs with
   | nil=>simp [Qg3] at he;subst he;rfl
   | cons v vs=>simp [Qg3] at he
 | f::fs,i,C,D,us,vs,b,hf,hC,hD,hl,he=>by
   obtain ⟨h1,h2,⟨k,h3⟩,h4⟩:=hf;cases us with
   | nil=>simp at hl
   | cons u us =>
   cases vs with
   | nil=>cases u <;> simp [Qg3] at he
   | cons v vs =>
   cases u <;> cases v <;> simp only [Qg3] at he <;> try cases he
   rename_i k1 a k2 b2;split at he;rotate_left
   . cases he
   rename_i hk;subst hk;cases hr:Qg3 us vs with
   | none=>simp [hr] at he
   | some r =>
     simp only [hr,Kaa] at he;have e1:C[i]? = some (.int k1 a):=by
      have:(C.toList.drop i)[0]? = some (.int k1 a):=by rw [hC];rfl
      rw [Kbp] at this;simpa using this
     have e2:D[i]? = some (.int k1 b2):=by
      have:(D.toList.drop i)[0]? = some (.int k1 b2):=by rw [hD];rfl
      rw [Kbp] at this;simpa using this
     have p1:∀ (A:Array Value) v,A[i]? = some v->(part f.type A f.offset).run P w=.ok v w:=by
      intro A v hA;rw [h2];simp only [part,Sem.run_bind,Qgb (show Qyr P f.type false from ⟨_,h3,rfl⟩),Result.andThen_ok,Kap,Kbs,hA,Sem.run_pure]
     have ih:=Qj1 (w:=w) (d:=d) (i:=i+1) (C:=C) (D:=D) (us:=us) (vs:=vs) h4 (by rw [<- List.tail_drop,hC];rfl) (by rw [<- List.tail_drop,hD];rfl) (by simpa using hl) hr;simp only [Op.eqFields,h1,ne_eq,not_false_eq_true,if_true,Sem.run_bind,p1 C _ e1,p1 D _ e2,Result.andThen_ok,run_equalIn_int w d f.type k1 k a b2 h3];by_cases hab:(a == b2)=true
     . simp only [hab,Kdy,Kap,Kbs];rw [ih];simp [hab] at he;rw [he]
     . simp only [hab,Bool.not_false,if_true,Sem.run_pure];simp [hab] at he;rw [<- he]
section
variable {cx:Cx} {w w':World} {F F':Nat->Prop} {ρ ρ':Rho} {fp fp':Fp} {X f f' fy:List Nat} {st st':St} {a:Act} {o:Oper} {tm:Nat->Value} {v:IV}
theorem Qrt {lk xs us fq ys vs fr b} (h:Cat (RC cx w F ρ st lk) xs us fq) (h':Cat (RC cx w F ρ st lk) ys vs fr) (he:Qdn xs ys=some b):Qg3 us vs=some b:=by
 induction h generalizing ys vs fr b with
 | nil =>
   cases h' with
   | nil=>simp [Qdn] at he;subst he;rfl
   | cons _ _=>simp [Qdn] at he
 | @cons x v f xs us fq hx t ih =>
   cases h' with
   | nil=>cases x <;> simp [Qdn] at he
   | @cons y u g ys vs fr hy t' =>
     have hform:∃ k n k' n',x=.sc (.int k n)/\y=.sc (.int k' n'):=by
      unfold Qdn at he;split at he
      . rename_i h1 _;cases h1
      . rename_i h1 h2;cases h1;cases h2;exact ⟨_,_,_,_,rfl,rfl⟩
      . cases he
     obtain ⟨k,n,k',n',rfl,rfl⟩:=hform;simp only [Qdn] at he;obtain ⟨rfl,-,-⟩:=Qbd (Qk4 hx);obtain ⟨rfl,-,-⟩:=Qbd (Qk4 hy);simp only [Qg3];split at he
     . rename_i hk;rw [if_pos hk];cases hr:Qdn xs ys with
       | none=>simp [hr] at he
       | some r=>rw [ih t' hr];simpa [hr] using he
     . cases he
def Jsa (P:Program) (t:TypeId) (n:Nat):Prop:=∃ fs:Array Field,P.underlying t=some (.struct fs)/\Qid P fs.toList 0/\fs.size=n/\P.stoodInHeld t=false/\P.eqGuardType P.depth t=false
theorem Jto {P:Program} {t:TypeId} {n:Nat} (ht:Jsa P t n) {C D:Array Value} (hl:C.size=n) {b:Bool} (he:Qg3 C.toList D.toList=some b) (w:World):(Op.equal t (.agg C) (.agg D)).run P w=.ok b w:=by
 obtain ⟨fs,h1,h2,h3,h4,h5⟩:=ht;have hf:P.fieldsOf t=fs:=by simp [Program.fieldsOf,h1]
 unfold Op.equal;rw [show Op.maxDepth=9998+1+1 from rfl,run_equalIn_struct w (9998+1) t C D (by rw [hf];exact h1) h4,hf];exact Qj1 h2 (by simp) (by simp) (by simp [hl,h3]) he
theorem Js4 (h:Rel cx w F ρ fp X st (Qah a)) {x y:Opd} {x' y':Operand} {t yt} {neg:Bool} {n:Nat} (hx:Qaz cx x' x) (hy:Qaz cx y' y) (ho:o.op=.binOp (if neg then .neq else .eql) t x' y' yt)
 (ht:Jsa cx.P t n) {cf} (hev:ev cf st (.eqa neg n x y)=some (v,st')):OpQ cx w F ρ fp X st a o v st':=by
 have h1:=Qa0 h hx;have h2:=Qa0 h hy;simp only [ev] at hev;split at hev;rotate_left
 . cases hev
 rename_i xs ys hxs hys;rw [hxs] at h1;rw [hys] at h2;split at hev;rotate_left
 . cases hev
 rename_i hlen;split at hev;rotate_left
 . cases hev
 rename_i b hb;simp only [Kaa,Kab] at hev;obtain ⟨rfl,rfl⟩:=hev;obtain ⟨C,hC,c1⟩:=h1;obtain ⟨D,hD,c2⟩:=h2;have hv:=Qrt c1 c2 hb;have hCs:C.size=n:=by have:=c1.len;rw [hlen] at this;simpa using this.symm
 have hrun:=fun w'=>Jto ht hCs hv w';refine OpQ.pure h (v':=.bool (if neg then !b else b)) ?_ (Qcy rfl);have hb1:binOp .eql t (.agg C) (.agg D)=(do let r <- Op.equal t (.agg C) (.agg D);pure (.bool r)):=rfl;have hb2:binOp .neq t (.agg C) (.agg D)=(do let r <- Op.equal t (.agg C) (.agg D);pure (.bool (!r))):=rfl;obtain ⟨fs,_,_,_,_,h5⟩:=ht;cases neg
 . intro w' _;simp only [execOp,ho,hC,hD,Kap,Kbs,Sem.run_bind,run_eqGuard_agg w' .eql t x' y' C D h5,Result.andThen_ok,hb1,hrun,Sem.run_pure]
 . intro w' _;simp only [execOp,ho,hC,hD,if_true,Sem.run_bind,run_eqGuard_agg w' .neq t x' y' C D h5,Result.andThen_ok,hb2,hrun,Sem.run_pure]
end
end Go.Idl
namespace Go.Idl
open Go
section
variable {P:Program} {w:World}
def Qcm (w:World) (A:Option Addr) (n:Nat) (news:List Value):Prop:=0 < n->∃ ad,A=some ad/\∀ j v,news[j]? = some v->w.cell? (ad.add j)=some v
theorem Qis {size n c:Nat} {A:Option Addr} {news:List Value} (hl:news.length=n * size) (h:Qcm w A n news):(Builtin.firstCells size n (.slice A n c)).run P w=.ok news.toArray w:=by
 cases A with
 | none =>
   have:n=0:=by
    rcases Kdj n with h0 | h0
    . exact h0
    . obtain ⟨ad,h1,_⟩:=h h0;cases h1
   subst this;have:news=[]:=Kav.1 (by simpa using hl);subst this;exact run_firstCells_none w size 0 0 c
 | some ad =>
   rcases Kdj n with h0 | h0
   . subst h0;have:news=[]:=Kav.1 (by simpa using hl);subst this;exact run_firstCells_some w size 0 ad 0 c [] (by simp) (by simp)
   . obtain ⟨ad',h1,h2⟩:=h h0;cases h1;exact run_firstCells_some w size n ad n c news hl h2
theorem Qjl {w':World} {A n news} (h:Qcm w A n news) (hh:w'.heap=w.heap):Qcm w' A n news:=fun h0=>by
 obtain ⟨ad,h1,h2⟩:=h h0;exact ⟨ad,h1,fun j v hv=>by rw [<- h2 j v hv];simp [World.cell?,hh]⟩
structure Jre (P:Program) (t t' e:TypeId) (i:TypeInfo) (z:Value):Prop where
 ht:P.underlying t=some (.slice e)
 ht':∃ e2,P.underlying t'=some (.slice e2)
 hi:P.info? e=some i
 hz:i.zero=some z
 hb:i.bytes<=256
 hzs:z.cells.size=i.size
variable {t t' e ty:TypeId} {i:TypeInfo} {z:Value}
theorem Qtb (hT:Jre P t t' e i z) {base A:Option Addr} {sLen sCap c:Nat} (hn:sLen<=sCap):(Builtin.append_ #[t,t'] ty #[.slice base sLen sCap,.slice A 0 c]).run P w=.ok (.slice base sLen sCap) w:=by
 obtain ⟨e2,ht'⟩:=hT.ht';have hf:(Builtin.firstCells i.size 0 (.slice A 0 c)).run P w=.ok #[] w:=Qis (news:=[]) (by simp) (fun h=>absurd h (Nat.lt_irrefl 0));cases base <;> simp [Builtin.append_,run_underlying hT.ht,run_underlying ht',sizeOf,typeInfo,hT.hi,Builtin.lenOf,hn,hf,storeCells]
theorem Qtc (hT:Jre P t t' e i z) {A:Option Addr} {b o sLen sCap n c:Nat} {C:Array Value} {ty2:TypeId} (hC:w.heap[b]? = some (.cells C ty2 (0,0))) {news:List Value} (hl:news.length=n * i.size) (hnews:Qcm w A n news)
 (h1:∀ u ∈ news,u.oneCell'=true) (hroom:sLen+n<=sCap) (hfit:o+sLen * i.size+news.length<=C.size) :
 (Builtin.append_ #[t,t'] ty #[.slice (some ⟨b,o,none⟩) sLen sCap,.slice A n c]).run P w=.ok (.slice (some ⟨b,o,none⟩) (sLen+n) sCap) (w.setRow b (splice C.toList (o+sLen * i.size) news).toArray):=by
 obtain ⟨e2,ht'⟩:=hT.ht';have hf:=Qis (P:=P) (w:=w) (c:=c) hl hnews;have hst:=run_storeCells_at P b (o+sLen * i.size) ty2 news 0 C w hC (by omega) h1;simp only [Keh] at hst;simp [Builtin.append_,run_underlying hT.ht,run_underlying ht',sizeOf,typeInfo,hT.hi,Builtin.lenOf,hroom,hf,Addr.add_lit,hst,splice]
theorem Qta (hT:Jre P t t' e i z) {base A:Option Addr} {sLen sCap n c:Nat} {olds news:List Value} (hlo:olds.length=sLen * i.size) (hols:Qcm w base sLen olds) (hl:news.length=n * i.size) (hnews:Qcm w A n news)
 (hg:sCap < sLen+n) (hlim:sLen+n<=lim) :
 ∃ w' cap,(Builtin.append_ #[t,t'] ty #[.slice base sLen sCap,.slice A n c]).run P w=.ok (.slice (some ⟨w.heap.size,0,none⟩) (sLen+n) cap) w' /\
   w'.heap=w.heap.push (.cells (olds.toArray++news.toArray++Builtin.zeroCells z.cells (cap - (sLen+n))) e (0,0))/\sLen+n<=cap/\Env w w':=by
 obtain ⟨e2,ht'⟩:=hT.ht';unfold lim at hlim;have hn:¬ (sLen+n<=sCap):=by omega
 have h63':¬ (9223372036854775807 < ((sLen:Int)+(n:Int))):=by omega
 have hcapb:Builtin.nextslicecap (sLen+n) sCap * i.bytes<=281474976710656:=by
  have h1:Builtin.nextslicecap (sLen+n) sCap * i.bytes<=2 * (sLen+n) * 256:=Nat.mul_le_mul (nextslicecap_le hg) hT.hb;omega
 have h48':¬ (281474976710656 < Builtin.nextslicecap (sLen+n) sCap * i.bytes):=by omega
 have hf:=Qis (P:=P) (w:=w.drew) (c:=c) hl (Qjl hnews rfl);have hfo:=Qis (P:=P) (w:=w.drew) (c:=sCap) hlo (Qjl hols rfl);refine ⟨w.drew.alloc (.cells (olds.toArray++news.toArray++Builtin.zeroCells z.cells (grownCap w (sLen+n) sCap e - (sLen+n))) e),grownCap w (sLen+n) sCap e,?_,rfl,grownCap_ge _ _ _ _,⟨rfl,rfl,rfl⟩⟩;simp [Builtin.append_,run_underlying hT.ht,run_underlying ht',sizeOf,typeInfo,zeroValue,hT.hi,hT.hz,Builtin.lenOf,hn,h63',h48',Question.forced,hf,hfo,newRow,grownCap];congr 2;apply Array.ext';simp [Kal]
end
end Go.Idl
namespace Go.Idl
open Go
theorem Qvg {α:Type} {C us:List α} {o L:Nat} (h:o+L+us.length<=C.length):((splice C (o+L) us).drop o).take (L+us.length)=(C.drop o).take L++us:=by
 apply Kdc;intro q;by_cases h1:q < L
 . rw [Kbg (by omega),Kbp,Qcd (by omega) (by omega),Kba (by simp;omega),Kbg h1,Kbp]
 . by_cases h2:q < L+us.length
   . rw [Kbg h2,Kbp,Kat (by simp;omega)];unfold splice;rw [Kal,Kat (by rw [Kas];omega),Kba (by rw [Kas];omega)];congr 1;simp;omega
   . rw [Kar (by rw [Kas];omega),Kar (by simp;omega)]
section
variable {cx:Cx} {w w':World} {F F':Nat->Prop} {ρ ρ':Rho} {fp fp':Fp} {X f f' f1 f2 fp1:List Nat} {st st':St} {a:Act} {o:Oper} {tm:Nat->Value} {v:IV}
variable {t t' e ty:TypeId} {i:TypeInfo} {z:Value} {esz:Nat} {es ys:List (List IV)} {A base:Option Addr} {sLen sCap c:Nat} {news olds:List Value}
def Qq9 (cx:Cx) (w:World) (F:Nat->Prop) (ρ:Rho) (fp:Fp) (X Y:List Nat) (st:St) (tm:Nat->Value) (r:Result Value) (esz:Nat) (es:List (List IV)):Prop :=
 ∃ w' v' f',r=.ok v' w'/\Rel cx w' F ρ fp (f'++X) st tm/\RDs w' F [.own esz es] [v'] f'/\(∀ ex,Ext w F ρ fp (Y++X) ex w' F ρ fp (f'++X))
theorem Jcb (he:∀ x ∈ es,x.length=esz) (hy:∀ y ∈ ys,y.length=esz):∀ x ∈ es++ys,x.length=esz:=by
 intro x hx;rcases Kah.1 hx with h | h
 . exact he x h
 . exact hy x h
theorem Qo1 (hT:Jre cx.P t t' e i z) (h:Rel cx w F ρ fp ((fp1++f2)++X) st tm) (hsz:i.size=esz) (ho:RDs w F es.flatten olds fp1) (he:∀ x ∈ es,x.length=esz) (hols:Qcm w base es.length olds)
 (hy:RDs w F ys.flatten news f2) (hyl:∀ y ∈ ys,y.length=esz) (hnews:Qcm w A ys.length news) (hg:sCap < es.length+ys.length) (hlim:es.length+ys.length<=lim) :
 Qq9 cx w F ρ fp X (fp1++f2) st tm ((Builtin.append_ #[t,t'] ty #[.slice base es.length sCap,.slice A ys.length c]).run cx.P w) esz (es++ys):=by
 subst hsz;have hlo:olds.length=es.length * i.size:=by rw [<- ho.len,Qbn he]
 have hln:news.length=ys.length * i.size:=by rw [<- hy.len,Qbn hyl]
 obtain ⟨w',cap,hrun,hw,hcap,henv⟩:=Qta (ty:=ty) (c:=c) hT hlo hols hln hnews hg hlim;have hl:(es++ys).length=es.length+ys.length:=by simp
 obtain ⟨f',g1,g2,g3,g4,g5⟩:=Rel.newOwn (w':=w') (e:=i.size) (es:=es++ys) (cap:=cap) h (by
  have:(olds.toArray++news.toArray++Builtin.zeroCells z.cells (cap - (es.length+ys.length))).toList.take ((es++ys).length * i.size)=olds++news:=by
   rw [hl,Kdk,<- hlo,<- hln,<- Kbu];simp only [Array.toList_append,List.take_left]
  rw [this,Kdg];exact ho.append hy) (Jcb he hyl) (by rw [hl];exact hcap) (by
  simp only [Array.size_append,List.size_toArray,size_zeroCells,hlo,hln,hT.hzs];rw [<- Kdk,<- Kdk];exact Kbh _ (by omega)) hw henv
 rw [hl] at g2;exact ⟨w',_,f',hrun,g1,g2,g4⟩
theorem Qo2 (hT:Jre cx.P t t' e i z) (h:Rel cx w F ρ fp ((f1++f2)++X) st tm) (hsz:i.size=esz) (hs:RDs w F [.own esz es] [.slice base sLen sCap] f1)
 (hy:RDs w F ys.flatten news f2) (hyl:∀ y ∈ ys,y.length=esz) (hnews:Qcm w A ys.length news) (h1:∀ u ∈ news,u.oneCell'=true) (hlim:es.length+ys.length<=lim) :
 Qq9 cx w F ρ fp X (f1++f2) st tm ((Builtin.append_ #[t,t'] ty #[.slice base sLen sCap,.slice A ys.length c]).run cx.P w) esz (es++ys):=by
 have same:ys=[]->sLen<=sCap->Qq9 cx w F ρ fp X (f1++f2) st tm ((Builtin.append_ #[t,t'] ty #[.slice base sLen sCap,.slice A ys.length c]).run cx.P w) esz (es++ys):=by
  intro h0 hle;subst h0;have hf2:f2=[]:=by
   simp only [List.flatten_nil] at hy;cases hy;rfl
  subst hf2;rw [Kbb] at h;rw [Kbb,Kbb];exact ⟨w,_,f1,Qtb hT hle,h,hs,fun ex=>Ext.refl _ _ _ _ _ _⟩
 rcases hs.own_inv with ⟨rfl,rfl,A0,h8⟩ | ⟨b,o,cap,C,ty2,fp1,h8,rfl,hb,hd,he,hn,hoc⟩
 . simp only [Value.slice.injEq] at h8;obtain ⟨rfl,rfl,rfl⟩:=h8;cases ys with
   | nil=>exact same rfl (Kam _)
   | cons y ys =>
     have:=Qo1 (ty:=ty) (c:=c) (sCap:=0) (base:=base) (es:=[]) (fp1:=[]) (olds:=[]) hT h hsz .nil (by simp) (fun h0=>absurd h0 (Nat.lt_irrefl 0)) hy hyl hnews (by simp) (by simpa using hlim);simpa using this
 . simp only [Value.slice.injEq] at h8;obtain ⟨rfl,rfl,rfl⟩:=h8;subst hsz;have hln:news.length=ys.length * i.size:=by rw [<- hy.len,Qbn hyl]
   have hX:=Kan.1 h.xnodup;have hff:=Kan.1 hX.1;have hbf:=(Kbq.1 hff.1).1;by_cases hroom:es.length+ys.length<=sCap
   . cases hys:ys with
     | nil=>rw [<- hys];exact same hys hn.1
     | cons y0 ys0 =>
     rw [<- hys];have hcl:C.toList.length=C.size:=Keq;have hfit:o+es.length * i.size+news.length<=C.size:=by
      have:(es.length+ys.length) * i.size<=sCap * i.size:=Kbh _ hroom;rw [Kdk] at this;omega
     have hrun:=Qtc (P:=cx.P) (w:=w) (ty:=ty) (c:=c) hT hb hln hnews h1 hroom hfit;have hw1:=setRow_heap w b C (splice C.toList (o+es.length * i.size) news).toArray ty2 (0,0) hb;have hw2:=fun k (hk:k ≠ b)=>setRow_other w b k (splice C.toList (o+es.length * i.size) news).toArray hk;have hbF:¬ F b:=h.xF b (by simp);obtain ⟨r1,tr⟩:=h.grow (w':=w.setRow b (splice C.toList (o+es.length * i.size) news).toArray) (fun k _ hk=>hw2 k (fun hc=>hk (by simp [hc]))) (by simp) (Y:=[]) .nil (by simp);refine ⟨_,_,(b::fp1)++f2,hrun,by simpa using r1,?_,fun ex=>⟨by simp,fun k _ _ hk=>hw2 k (fun hc=>hk (by simp [hc])),fun r k hk=>.inl ⟨r,hk⟩,fun k hk=>.inr (.inl hk),fun _ h=>h,fun _ h=>.inl h,fun _ _ _=>rfl,⟨rfl,rfl,rfl⟩⟩⟩;have hl:(es++ys).length=es.length+ys.length:=by simp
     have hfr:RDs (w.setRow b (splice C.toList (o+es.length * i.size) news).toArray) F (es++ys).flatten (((splice C.toList (o+es.length * i.size) news).drop o).take ((es++ys).length * i.size)) (fp1++f2):=by
      rw [hl,Kdk,<- hln,Qvg (by omega),Kdg];refine (hd.append hy).frame (fun k hk=>hw2 k (fun hc=>?_)) (fun k hk=>hw2 k (fun hc=>hbF (hc ▸ hk))) (fun _ h=>h);subst hc;rcases Kah.1 hk with hk | hk
      . exact hbf hk
      . exact hff.2.2 k (by simp) k hk rfl
     have:=RDs.own (w:=w.setRow b (splice C.toList (o+es.length * i.size) news).toArray) (F:=F) (e:=i.size) (es:=es++ys) (xs:=[]) (vs:=[]) (fp:=[]) (cap:=sCap) (o:=o) hw1 (fp1:=fp1++f2) (by simpa using hfr)
      (Jcb he hyl) (by rw [hl];exact ⟨hroom,hn.2⟩) (by
        have:(splice C.toList (o+es.length * i.size) news).length=C.toList.length:=Qdj (by omega);simp only [List.size_toArray];omega) .nil
     rw [hl] at this;simpa using this
   . have hcols:Qcm w (some ⟨b,o,none⟩) es.length ((C.toList.drop o).take (es.length * i.size)):=fun _=>⟨_,rfl,fun j v hv=>by
      have hj:j < es.length * i.size:=by
       rcases Kbw j (es.length * i.size) with hh | hh
       . exact hh
       . rw [Kar (by rw [Kas];omega)] at hv;cases hv
      rw [Qam hj] at hv;rw [Qb0,Qau hb,hv]⟩
     have h':Rel cx w F ρ fp ((fp1++f2)++X) st tm:=h.less (by simp);obtain ⟨w',v',f',g1,g2,g3,g4⟩:=Qo1 (ty:=ty) (c:=c) (sCap:=sCap) hT h' rfl hd he hcols hy hyl hnews (by omega) hlim;refine ⟨w',v',f',g1,g2,g3,fun ex=>?_⟩;have g5:=g4 ex;refine ⟨g5.size,fun k hk hr hx=>g5.keep k hk hr (fun hc=>hx (by simp at hc |-;exact .inr hc)),fun r k hk=>?_,fun k hk=>?_,g5.Fm,fun k hk=>?_,g5.rho,g5.env⟩
     . rcases g5.fpn r k hk with h5 | h5 | h5
       . exact .inl h5
       . exact .inr (.inl (by simp at h5 |-;exact .inr h5))
       . exact .inr (.inr h5)
     . rcases g5.xn k hk with h5 | h5 | h5
       . exact .inl h5
       . exact .inr (.inl (by simp at h5 |-;exact .inr h5))
       . exact .inr (.inr h5)
     . rcases g5.Fn k hk with h5 | h5 | h5 | h5
       . exact .inl h5
       . exact .inr (.inl h5)
       . exact .inr (.inr (.inl (by simp at h5 |-;exact .inr h5)))
       . exact .inr (.inr (.inr h5))
theorem Jkp (hT:Jre cx.P t t' e i z) (h:Rel cx w F ρ fp (f2++X) st tm) (hsz:i.size=esz) {e0:Nat} (hs:RDs w F [.lst e0 es true] [.slice base sLen sCap] []) (hes:e0=esz \/ es=[]) (hne:es=[] \/ ys ≠ [])
 (hy:RDs w F ys.flatten news f2) (hyl:∀ y ∈ ys,y.length=esz) (hnews:Qcm w A ys.length news) (h1:∀ u ∈ news,u.oneCell'=true) (hlim:es.length+ys.length<=lim) :
 Qq9 cx w F ρ fp X f2 st tm ((Builtin.append_ #[t,t'] ty #[.slice base sLen sCap,.slice A ys.length c]).run cx.P w) esz (es++ys):=by
 rcases hs.lst_inv.2 with ⟨rfl,A0,cap,h8,hc⟩ | ⟨b,o,cap,C,ty2,fr,h8,hF,hb,hd,he,hc,hn⟩
 . simp only [Value.slice.injEq] at h8;obtain ⟨rfl,rfl,rfl⟩:=h8;have:=hc rfl;subst this;have:=Qo2 (ty:=ty) (c:=c) (base:=base) (f1:=[]) hT h hsz (.own0 .nil) hy hyl hnews h1 hlim;simpa using this
 . simp only [Value.slice.injEq] at h8;obtain ⟨rfl,rfl,rfl⟩:=h8;by_cases hes0:es=[]
   . subst hes0;have:=hc rfl;simp only [Kci] at this;subst this;have:=Qo2 (ty:=ty) (c:=c) (base:=some ⟨b,o,none⟩) (f1:=[]) (es:=[]) hT h hsz (.own0 .nil) hy hyl hnews h1 hlim;simpa using this
   . have he0:e0=esz:=hes.resolve_right hes0;subst he0;have hcols:Qcm w (some ⟨b,o,none⟩) es.length ((C.toList.drop o).take (es.length * e0)):=fun _=>⟨_,rfl,fun j v hv=>by
      have hj:j < es.length * e0:=by
       rcases Kbw j (es.length * e0) with hh | hh
       . exact hh
       . rw [Kar (by rw [Kas];omega)] at hv;cases hv
      rw [Qam hj] at hv;rw [Qb0,Qau hb,hv]⟩
     have hyn:0 < ys.length:=by
      rcases hne with h5 | h5
      . exact absurd h5 hes0
      . exact List.length_pos_iff.2 h5
     have hcc:=hc rfl;have:=Qo1 (ty:=ty) (c:=c) (sCap:=sCap) (fp1:=[]) hT h hsz hd he hcols hy hyl hnews (by omega) hlim;simpa using this
end
end Go.Idl
namespace Go.Idl
open Go
section
variable {cx:Cx} {w w':World} {F F':Nat->Prop} {ρ ρ':Rho} {fp fp':Fp} {X f f' f1 f2 fp1:List Nat} {st st':St} {a:Act} {o:Oper} {tm:Nat->Value} {v:IV}
theorem RDs.plain {xs vs fq} (h:RDs w F xs vs fq) (hp:xs.all IV.plain1=true):fq=[]:=by
 induction h with
 | nil=>rfl
 | sc h t ih=>exact ih (by simpa [IV.plain1] using hp)
 | un t ih=>simp [IV.plain1] at hp
 | lst0 h t ih=>exact ih (by simpa [IV.plain1] using hp)
 | lst hF1 hb hd he hc hn t _ iht=>exact iht (by simpa [IV.plain1] using hp)
 | own0 t ih=>simp [IV.plain1] at hp
 | own hb hd he hn ho t _ iht=>simp [IV.plain1] at hp
theorem RDs.oneCells {xs vs fq} (h:RDs w F xs vs fq) (hp:∀ x ∈ xs,x ≠ .un):∀ v ∈ vs,v.oneCell'=true:=by
 induction h with
 | nil=>simp
 | @sc v xs vs fp h t ih =>
   intro u hu;rcases Kaf.1 hu with rfl | hu
   . rcases Qeq h with ⟨_,_,rfl⟩ | ⟨_,rfl⟩ | ⟨_,rfl⟩ | rfl <;> rfl
   . exact ih (fun x hx=>hp x (by simp [hx])) u hu
 | un t ih=>exact absurd rfl (hp .un (by simp))
 | lst0 h t ih =>
   intro u hu;rcases Kaf.1 hu with rfl | hu
   . rfl
   . exact ih (fun x hx=>hp x (by simp [hx])) u hu
 | lst hF1 hb hd he hc hn t _ iht =>
   intro u hu;rcases Kaf.1 hu with rfl | hu
   . rfl
   . exact iht (fun x hx=>hp x (by simp [hx])) u hu
 | own0 t ih =>
   intro u hu;rcases Kaf.1 hu with rfl | hu
   . rfl
   . exact ih (fun x hx=>hp x (by simp [hx])) u hu
 | own hb hd he hn ho t _ iht =>
   intro u hu;rcases Kaf.1 hu with rfl | hu
   . rfl
   . exact iht (fun x hx=>hp x (by simp [hx])) u hu
theorem Qha {p:IV->Bool} {es:List (List IV)} (h:es.all (·.all p)=true):es.flatten.all p=true:=by
 simp only [Kaj] at h |-;intro x hx;obtain ⟨l,h1,h2⟩:=List.mem_flatten.1 hx;exact h l h1 x h2
theorem Qlh {b o n:Nat} {C:Array Value} {ty fr} (hb:w.heap[b]? = some (.cells C ty fr)) (m:Nat):Qcm w (some ⟨b,o,none⟩) m ((C.toList.drop o).take n):=fun _=>⟨_,rfl,fun j v hv=>by
 have hj:j < n:=by
  rcases Kbw j n with hh | hh
  . exact hh
  . rw [Kar (by rw [Kas];omega)] at hv;cases hv
 rw [Qam hj] at hv;rw [Qb0,Qau hb,hv]⟩
theorem Qti (h:Rel cx w F ρ fp X st tm) {x:IV} {v:Value} (hx:Qa6 cx w F ρ st (look st tm ρ w) x v []) {e:Nat} {es:List (List IV)} (hs:st.sview x=some (e,es)) :
 ∃ A c news g,v=.slice A es.length c/\RDs w F es.flatten news g/\(∀ y ∈ es,y.length=e)/\Qcm w A es.length news:=by
 unfold St.sview at hs;split at hs
 . rename_i e0 es0 c0;simp only [Kaa,Kab] at hs;obtain ⟨rfl,rfl⟩:=hs;rcases hx with ⟨hx,_⟩ | hx
   . exact hx.elim
   rcases hx.lst_inv.2 with ⟨rfl,A0,cap,h8,hc⟩ | ⟨b,o,cap,C,ty2,fr,h8,hF,hb,hd,he,hc,hn⟩
   . exact ⟨A0,cap,[],[],h8,.nil,by simp,fun h=>absurd h (Nat.lt_irrefl 0)⟩
   . exact ⟨_,cap,_,[],h8,hd,he,Qlh hb _⟩
 . rename_i r c p e0 off n clip;split at hs;rotate_left
   . cases hs
   rename_i e1 es1 hp;split at hs;rotate_left
   . cases hs
   rename_i hoff;simp only [Kaa,Kab] at hs;obtain ⟨rfl,rfl⟩:=hs;rcases hx with ⟨hx,_⟩ | hx;rotate_left
   . cases hx
   obtain ⟨x0,v0,es2,A,N,cap,A',cap',k1,k2,k3,k4,k5,k6,k7,k8⟩:=hx;have hp':=Qe6 h k1 k2;rw [hp] at hp';cases hp';have hl:((es1.drop off).take n).length=n:=by rw [Kas,Kco];omega
   obtain ⟨f0,g1,g2,g3⟩:=h.data (e:=((Qbk k2).choose)) (es:=(Qbk k2).choose_spec.choose) (by rw [k1];exact congrArg (fun z=>some (z,v0)) (Qbk k2).choose_spec.choose_spec) (Qct k2);have g3':RDs w F [x0] [v0] f0:=by rw [(Qbk k2).choose_spec.choose_spec];exact g3
   obtain ⟨u,a1,g,a2,hfu,_,hRn,_⟩:=g3'.fol (Qdc k2);rw [k2] at hfu;simp only [Kaa,Kab,Kfe] at hfu;subst hfu;rcases hRn.own_inv with ⟨rfl,_,A0,h8⟩ | ⟨b,o,cap1,C,ty2,fp1,h8,_,hb,hd,he,hnn,hoc⟩
   . refine ⟨A',cap',[],[],by rw [hl];exact k4,by simp;exact .nil,by simp,fun h0=>?_⟩;simp at h0
   . simp only [Value.slice.injEq] at h8;obtain ⟨rfl,rfl,rfl⟩:=h8;obtain ⟨q1,q2,q3,_,hq⟩:=hd.subs he hoff;refine ⟨A',cap',_,q2,by rw [hl];exact k4,hq,fun y hy=>he y (Kdl (Kbv hy)),fun h0=>?_⟩;rw [hl] at h0;obtain ⟨b',o',e1',e2'⟩:=k8.1 (by omega);simp only [Kaa,Addr.mk.injEq,and_true] at e1';obtain ⟨rfl,rfl⟩:=e1';refine ⟨_,e2',fun j v hv=>?_⟩;have hj:j < n * e0:=by
      rcases Kbw j (n * e0) with hh | hh
      . exact hh
      . rw [Kar (by rw [Kas];omega)] at hv;cases hv
     rw [Kbg hj,Kbp] at hv;have hj2:off * e0+j < es1.length * e0:=by
      have:(off+n) * e0<=es1.length * e0:=Kbh _ hoff;rw [Kdk] at this;omega
     rw [Qam hj2] at hv;rw [Qb0,Qau hb,<- hv,Kcq]
 . cases hs
theorem Jly (h:Rel cx w F ρ fp X st (Qah a)) {y:Opd} {y':Operand} (hy:Qaz cx y' y) {esz:Nat} {ys:List (List IV)} (hn:st.news esz y=some (ys,st')) :
 ∃ A c news f2 fp1,a.eval y'=.slice A ys.length c/\Rel cx w F ρ fp1 (f2++X) st' (Qah a)/\RDs w F ys.flatten news f2/\(∀ y ∈ ys,y.length=esz)/\Qcm w A ys.length news/\(∀ u ∈ news,u.oneCell'=true) /\
   (∀ b ∈ f2,∃ r,b ∈ fp r)/\(∀ r,∀ b ∈ fp1 r,b ∈ fp r)/\Qbf st st':=by
 unfold St.news at hn;split at hn
 . rename_i e es T hT;split at hn;rotate_left
   . cases hn
   rename_i hcond;obtain ⟨rfl,hdata⟩:=hcond;simp only [Kaa,Kab] at hn;obtain ⟨rfl,rfl⟩:=hn;obtain ⟨fp',f,k1,k2,k3,k4⟩:=Qj2 h hy;rw [hT] at k1 k2;have hR:RDs w F [.own e es] [a.eval y'] f:=by
    rcases k2 with ⟨k2,_⟩ | k2
    . exact k2.elim
    . exact k2
   have hall:=Qha hdata;rcases hR.own_inv with ⟨rfl,rfl,A0,h8⟩ | ⟨b,o,cap,C,ty2,fp1,h8,rfl,hb,hd,he,hn,hoc⟩
   . exact ⟨A0,0,[],[],fp',h8,k1,.nil,by simp,fun h=>absurd h (Nat.lt_irrefl 0),by simp,by simp,k4,⟨rfl,Kam _⟩⟩
   . refine ⟨_,cap,_,fp1,fp',h8,k1.less (by simp),hd,he,Qlh hb _,hd.oneCells (fun x hx hc=>?_),fun c hc=>k3 c (by simp [hc]),k4,⟨rfl,Kam _⟩⟩;have:=Kaj.1 hall x hx;rw [hc] at this;simp [IV.isData] at this
 . split at hn;rotate_left
   . cases hn
   rename_i e es hs;split at hn;rotate_left
   . cases hn
   rename_i hcond;simp only [Kaa,Kab] at hn;obtain ⟨rfl,rfl⟩:=hn;simp only [Kac] at hcond;obtain ⟨A,c,news,g,e1,e2,e3,e4⟩:=Qti h (Qa0 h hy) hs;have hg:=e2.plain (Qha hcond.2);subst hg;refine ⟨A,c,news,[],fp,e1,h,e2,fun z hz=>?_,e4,e2.oneCells (fun x hx hc=>?_),by simp,fun _ _ hb=>hb,.refl _⟩
   . have h1:=hcond.1;simp only [Kbj,Kbt,List.isEmpty_iff] at h1;rcases h1 with h1 | h1
     . rw [<- h1];exact e3 z hz
     . rw [h1] at hz;cases hz
   . have:=Kaj.1 (Qha hcond.2) x hx;rw [hc] at this;simp [IV.plain1] at this
theorem Jsz (h:Rel cx w F ρ fp X st (Qah a)) {x y:Opd} {x' y':Operand} {t t' e ty:TypeId} {i:TypeInfo} {z:Value} {esz:Nat} (hT:Jre cx.P t t' e i z) (hsz:i.size=esz) (hx:Qaz cx x' x) (hy:Qaz cx y' y)
 (ho:o.op=.call { callee:=.builtin .append,args:=#[x',y'],argTypes:=#[t,t'] }) {cf} (hev:ev cf st (.app esz x y)=some (v,st')):Qb8 cx w F ρ fp X st a o v st':=by
 simp only [ev] at hev;split at hev;rotate_left
 . cases hev
 rename_i ys st1 hn;split at hev;rotate_left
 . cases hev
 rename_i v1 st2 happ;simp only [Kaa,Kab] at hev;obtain ⟨rfl,rfl⟩:=hev;obtain ⟨A,c,news,f2,fp1,e1,e2,e3,e4,e5,e6,e7,e8,e9⟩:=Jly h hy hn;have fin:∀ {es:List (List IV)} {st3:St} {fp3:Fp} {f3:List Nat},Qq9 cx w F ρ fp3 X (f3++f2) st3 (Qah a) ((Builtin.append_ #[t,t'] o.type #[a.eval x',.slice A ys.length c]).run cx.P w) esz es ->
  (∀ b ∈ f3,∃ r,b ∈ fp r)->(∀ r,∀ b ∈ fp3 r,b ∈ fp r)->Qbf st st3->Qb8 cx w F ρ fp X st a o (.own esz es) st3:=by
  intro es st3 fp3 f3 ⟨w',v',f',g1,g2,g3,g4⟩ q1 q2 q3;refine ⟨v',w',F,ρ,fp3,f',.inl ?_,g2,.inr g3,Qme q2 (fun b hb=>?_) (g4 (exB st)),q3⟩
  . simp only [execOp,ho,resolve,e1];simp [invoke,builtin,e1,g1]
  . rcases Kah.1 hb with hb | hb
    . exact q1 b hb
    . exact e7 b hb
 obtain ⟨fp2,f,k1,k2,k3,k4⟩:=Qj2 e2 hx;unfold St.append at happ;split at happ
 . rename_i e0 es T hT2;split at happ;rotate_left
   . cases happ
   rename_i hcond;simp only [Kaa,Kab] at happ;obtain ⟨rfl,rfl⟩:=happ;rw [hT2] at k2;have hR:RDs w F [.lst e0 es true] [a.eval x'] f:=by
    rcases k2 with ⟨k2,_⟩ | k2
    . exact k2.elim
    . exact k2
   have hf0:=hR.lst_inv.1;subst hf0;have hform:∃ base sLen sCap,a.eval x'=.slice base sLen sCap:=by
    rcases hR.lst_inv.2 with ⟨_,_,_,h8,_⟩ | ⟨_,_,_,_,_,_,h8,_⟩ <;> exact ⟨_,_,_,h8⟩
   obtain ⟨base,sLen,sCap,hf⟩:=hform;have hR':RDs w F [.lst e0 es true] [.slice base sLen sCap] []:=by rw [<- hf];exact hR
   simp only [Kac,Kbj,Kbt,List.isEmpty_iff,Kby,List.isEmpty_eq_false_iff] at hcond;have:=Jkp (ty:=o.type) (c:=c) hT e2 hsz hR' hcond.1.1 hcond.1.2 e3 e4 e5 e6 hcond.2;rw [<- hf] at this;exact fin (f3:=[]) this (by simp) e8 e9
 . rename_i r c0 p e0 off n T hT2;split at happ;rotate_left
   . cases happ
   rename_i hcond;obtain ⟨rfl,hlim⟩:=hcond;simp only [Kaa,Kab] at happ;obtain ⟨rfl,rfl⟩:=happ;rw [hT2] at k1 k2;have hv:∃ A0,a.eval x'=.slice A0 0 0/\f=[]:=by
    rcases k2 with ⟨⟨x0,v0,es,A0,N,cap0,A1,cap,q1,q2,q3,q4,q5,q6,q7,q8⟩,q9⟩ | k2
    . have:=q7 rfl;subst this;exact ⟨_,q4,q9⟩
    . cases k2
   obtain ⟨A0,hv,rfl⟩:=hv;have:=Qo2 (ty:=o.type) (c:=c) (base:=A0) (f1:=[]) (es:=[]) hT (by simpa using k1) hsz (.own0 .nil) e3 e4 e5 e6 (by simpa using hlim);rw [<- hv] at this;simp only [Kaq] at this;exact fin (f3:=[]) this (by simp) (fun r b hb=>e8 r b (k4 r b hb)) ⟨e9.M,e9.loc⟩
 . rename_i v2 T hT2 _ _;rw [‹tk st1.T x=(v2,T)›] at k1 k2;split at happ;rotate_left
   . cases happ
   rename_i e0 es st3 hab;split at happ;rotate_left
   . cases happ
   rename_i hcond;obtain ⟨rfl,hlim⟩:=hcond;simp only [Kaa,Kab] at happ;obtain ⟨rfl,rfl⟩:=happ;have hrc:=Qir k2 (fun cs hc=>by simp only at hc;rw [hc] at hab;simp [St.absorb] at hab) (fun vs hc=>by simp only at hc;rw [hc] at hab;simp [St.absorb] at hab) (fun hc=>by simp only at hc;rw [hc] at hab;simp [St.absorb] at hab);obtain ⟨fp3,f3,q1,q2,q3,q4,q5,q6,q7⟩:=k1.absorb hrc hab;have hR:RDs w F [.own e0 es] [a.eval x'] f3:=by
    rcases q2 with ⟨q2,_⟩ | q2
    . exact q2.elim
    . exact q2
   have hform:∃ base sLen sCap,a.eval x'=.slice base sLen sCap:=by
    rcases hR.own_inv with ⟨_,_,_,h8⟩ | ⟨_,_,_,_,_,_,h8,_⟩ <;> exact ⟨_,_,_,h8⟩
   obtain ⟨base,sLen,sCap,hf⟩:=hform;rw [hf] at hR;have:=Qo2 (ty:=o.type) (c:=c) hT (by simpa [Kal] using q1) hsz hR e3 e4 e5 e6 hlim;rw [<- hf] at this;refine fin this (fun b hb=>?_) (fun r b hb=>e8 r b (k4 r b (q5 r b hb))) (e9.trans ⟨q6.M,q6.loc⟩);rcases q4 b hb with h5 | ⟨r,h5⟩
   . obtain ⟨r,h6⟩:=k3 b h5;exact ⟨r,e8 r b h6⟩
   . exact ⟨r,e8 r b (k4 r b h5)⟩
theorem Qu5:∀ {es:List (List IV)} {xs:List Int},Qea es=some xs->es.flatten=xs.map (fun n=>.sc (.int .u8 n))/\es.length=xs.length:=by
 intro es
 induction es with
 | nil=>intro xs h;simp only [Qea,Kaa] at h;subst h;exact ⟨rfl,rfl⟩
 | cons e r ih =>
   intro xs h;unfold Qea at h;split at h
   . rename_i h0;cases h0
   . rename_i n r' h0;cases h0;split at h
     . rename_i ys hy;simp only [Kaa] at h;subst h;obtain ⟨h1,h2⟩:=ih hy;exact ⟨by simp [h1],by simp [h2]⟩
     . cases h
   . cases h
theorem Qx0 {F:Nat->Prop}:∀ {xs:List Int} {vs:List Value} {g:List Nat},RDs w F (xs.map fun n=>IV.sc (.int .u8 n)) vs g->vs=xs.map fun n=>.int .u8 n
 | [],vs,g,h=>by cases h;rfl
 | x::xs,vs,g,h=>by
   rw [Kbd] at h;cases h with
   | sc h t=>rw [Qx0 t];rfl
theorem Jmf (h:Rel cx w F ρ fp X st (Qah a)) {x:Opd} {x':Operand} {s d e:TypeId} (hx:Qaz cx x' x) (hs:cx.P.underlying s=some (.slice e)) (he:cx.P.underlying e=some (.int .u8)) (hd:cx.P.underlying d=some .string)
 (ho:o.op=.convert s d x') {v:IV} {st':St} {cf} (hev:ev cf st (.strb x)=some (v,st')):OpL cx w F ρ fp X st a o v st':=by
 simp only [ev] at hev;split at hev;rotate_left
 . cases hev
 rename_i e0 ys hview;split at hev;rotate_left
 . cases hev
 split at hev;rotate_left
 . cases hev
 rename_i xs hxs;simp only [Kaa,Kab] at hev;obtain ⟨rfl,rfl⟩:=hev;obtain ⟨A,c,news,g,hv,hd1,hlen,hcells⟩:=Qti h (Qa0 h hx) hview;obtain ⟨hfl,hl⟩:=Qu5 hxs;rw [hfl] at hd1;have hnews:=Qx0 hd1;subst hnews;refine OpL.pure h (v':=.string (strOfNums xs)) (fun w' hg=>?_) (.inr (.sc rfl .nil));have hrun:(execOp a.eval o).run cx.P w'=(do pure (Next.value (<- convert s d (a.eval x'))):Sem Next).run cx.P w':=by
  simp only [execOp,ho]
 have hconv:(convert s d (a.eval x')).run cx.P w'=.ok (.string (strOfNums xs)) w':=by
  rw [hv];cases A with
  | none =>
    have hz:xs=[]:=by
     rcases Kdj ys.length with h0 | h0
     . exact Kav.1 (by omega)
     . obtain ⟨ad,h1,-⟩:=hcells h0;cases h1
    subst hz;rw [run_convert_bytes_nil w' s e hs he _ _ d hd];rfl
  | some ad =>
    rcases Kdj ys.length with h0 | h0
    . have hz:xs=[]:=Kav.1 (by omega);subst hz;rw [h0];rw [run_convert_bytes_string w' s d e _ _ _ hs he hd,run_bytesToString w' ad 0 c [] (by simpa using run_loadCells_list (P:=cx.P) w' ad [] (by simp))];rfl
    . obtain ⟨ad',h1,h2⟩:=hcells h0;cases h1;rw [run_convert_bytes_string w' s d e _ _ _ hs he hd,run_bytesToString w' ad ys.length c xs,foldl_push_bytes]
      . simp [strOfNums,ByteArray.empty,ByteArray.emptyWithCapacity];rfl
      . have:=run_loadCells_list (P:=cx.P) w' ad (xs.map (Value.int .u8)) (fun j v hj=>hg.cell (h2 j v hj));simpa [hl] using this
 rw [hrun];simp only [Sem.run_bind,hconv,Result.andThen_ok,Sem.run_pure]
end
end Go.Idl
namespace Go.Idl
open Go
theorem Qmk:∀ (xs ys:List IV),Qe4 (xs++ys)=Qe4 xs++Qe4 ys
 | [],ys=>rfl
 | x::xs,ys=>by simp only [Kbk,Qe4,Qmk xs ys]
theorem Qif:∀ (es:List (List IV)),(Qdq es).flatten=Qe4 es.flatten
 | []=>rfl
 | e::es=>by simp only [Qdq,Kca,Qmk,Qif es]
theorem Qhh:∀ (xs:List IV),(Qe4 xs).length=xs.length
 | []=>rfl
 | x::xs=>by simp only [Qe4,Kbc,Qhh xs]
theorem Qd8:∀ (es:List (List IV)),(Qdq es).length=es.length
 | []=>rfl
 | e::es=>by simp only [Qdq,Kbc,Qd8 es]
theorem Qsk {e:Nat}:∀ {es:List (List IV)},(∀ x ∈ es,x.length=e)->∀ x ∈ Qdq es,x.length=e
 | [],_=>by simp [Qdq]
 | y::es,h=>by
   intro x hx;simp only [Qdq,Kaf] at hx;rcases hx with rfl | hx
   . rw [Qhh];exact h y (by simp)
   . exact Qsk (fun z hz=>h z (by simp [hz])) x hx
theorem Qil:∀ (xs ys:List IV),Qbl (xs++ys)=(Qbl xs && Qbl ys)
 | [],ys=>by simp [Qbl]
 | x::xs,ys=>by simp only [Kbk,Qbl,Qil xs ys,Bool.and_assoc]
theorem Qf5:∀ (es:List (List IV)),Qb7 es=Qbl es.flatten
 | []=>rfl
 | e::es=>by simp only [Qb7,Kca,Qil,Qf5 es]
section
variable {cx:Cx} {w w':World} {F F':Nat->Prop} {ρ ρ':Rho} {fp fp':Fp} {X X' f f' f1 f2 fp1:List Nat} {st st':St} {a:Act} {o:Oper} {tm:Nat->Value} {v:IV}
theorem RDs.freeze {xs vs fq} (h:RDs w F xs vs fq):RDs w (fun b=>F b \/ b ∈ fq) (Qe4 xs) vs []:=by
 induction h with
 | nil=>exact .nil
 | sc h t ih=>simp only [Qe4,Qol];exact .sc h ih
 | un t ih=>simp only [Qe4,Qol];exact .un ih
 | lst0 h t ih=>simp only [Qe4,Qol];exact .lst0 h ih
 | @lst e es clip b o cap C ty fr xs vs fp hF1 hb hd he hc hn t _ iht =>
   simp only [Qe4,Qol];exact .lst (.inl hF1) hb (hd.frame (fun _ _=>rfl) (fun _ _=>rfl) (fun _ h=>.inl h)) he hc hn iht
 | own0 t ih=>simp only [Qe4,Qol,Qdq];exact .lst0 (by simp) ih
 | @own e es b o cap C ty fp1 xs vs fp hb hd he hn ho t ihd iht =>
   simp only [Qe4,Qol];have h1:RDs w (fun c=>F c \/ c ∈ b::(fp1++fp)) (Qe4 xs) vs []:=iht.frame (fun _ _=>rfl) (fun _ _=>rfl) (fun c hc=>hc.imp id (fun hc=>by simp [hc]));have h2:RDs w (fun c=>F c \/ c ∈ b::(fp1++fp)) (Qe4 es.flatten) ((C.toList.drop o).take (es.length * e)) []:=ihd.frame (fun _ _=>rfl) (fun _ _=>rfl) (fun c hc=>hc.imp id (fun hc=>by simp [hc]));have:=RDs.lst (F:=fun c=>F c \/ c ∈ b::(fp1++fp)) (es:=Qdq es) (e:=e) (clip:=false) (cap:=cap) (o:=o) (.inr (by simp)) hb (by rw [Qif,Qd8];exact h2) (Qsk he) (by simp) (by rw [Qd8];exact hn.1) h1;rw [Qd8] at this;exact this
theorem RDs.noLst {xs vs fq} (h:RDs w F xs vs fq) (hn:Qbl xs=true):RDs w F' xs vs fq:=by
 induction h with
 | nil=>exact .nil
 | sc h t ih=>simp only [Qbl,Kac] at hn;exact .sc h (ih hn.2)
 | un t ih=>simp [Qbl,Qcr] at hn
 | lst0 h t ih=>simp only [Qbl,Kac] at hn;exact .lst0 h (ih hn.2)
 | @lst e es clip b o cap C ty fr xs vs fp hF1 hb hd he hc hn' t _ iht =>
   simp only [Qbl,Qcr,Kac,List.isEmpty_iff] at hn;obtain ⟨h1,h2⟩:=hn;subst h1;exact .lst0 (fun hcl=>by simpa using hc hcl) (iht h2)
 | own0 t ih=>simp only [Qbl,Kac] at hn;exact .own0 (ih hn.2)
 | own hb hd he hn' ho t ihd iht =>
   simp only [Qbl,Qcr,Kac,Qf5] at hn;exact .own hb (ihd hn.1) he hn' ho (iht hn.2)
def IV.isA:IV->Bool
 | .agg cs=>cs.all IV.isD
 | x=>x.isD
def Qsy:Rt->Nat->Option (IV×Value):=fun _ _=>none
def RA (cx:Cx) (w:World) (F:Nat->Prop) (ρ:Rho) (st:St) (x:IV) (v:Value) (f:List Nat):Prop:=Qdk cx w F ρ st Qsy x v f/\x.isA=true
theorem RA.frame {u:Value} (h:RA cx w F ρ st v u f) (hfp:∀ b ∈ f,w'.heap[b]? = w.heap[b]?) (hF:∀ b,F b->w'.heap[b]? = w.heap[b]?) (hFF:∀ b,F b->F' b)
 (hb:∀ l k,(st.box l k).isSome=true->ρ' l k=ρ l k/\(st'.box l k).isSome=true) {lk}:Qdk cx w' F' ρ' st' lk v u f:=by
 have ht:Tr w F ρ st Qsy w' F' ρ' st' lk (fun _ _ _=>False):=⟨fun _ _ _ h=>h.elim,hF,hFF,hb⟩;obtain ⟨h1,h2⟩:=h;cases v with
 | agg cs =>
   obtain ⟨C,rfl,hc⟩:=h1;refine ⟨C,rfl,hc.mono fun x v f hf hx hm=>hx.tr ht (fun r c p hr=>?_) (fun b hb=>hfp b (hf b hb))⟩;have:=Kaj.1 h2 x hm;cases x <;> simp_all [Qby,IV.isD]
 | sc u=>exact RC.tr (x:=.sc u) ht h1 (fun r c p hr=>by simp [Qby] at hr) hfp
 | lst e es c=>exact RC.tr (x:=.lst e es c) ht h1 (fun r c p hr=>by simp [Qby] at hr) hfp
 | own e es=>exact RC.tr (x:=.own e es) ht h1 (fun r c p hr=>by simp [Qby] at hr) hfp
 | bptr l k c=>exact RC.tr (x:=.bptr l k c) ht h1 (fun r c p hr=>by simp [Qby] at hr) hfp
 | fn g cs=>exact RC.tr (x:=.fn g cs) ht h1 (fun r c p hr=>by simp [Qby] at hr) hfp
 | _=>simp [IV.isA,IV.isD] at h2
theorem Rel.reX (h:Rel cx w F ρ fp X st tm) (hF:∀ b,F b->F' b) (h1:∀ r,∀ b ∈ fp r,¬ F' b) (h2:∀ b,F' b->b < w.heap.size) (h3:X'.Nodup) (h4:∀ r,∀ b ∈ fp r,b ∉ X') (h5:∀ b ∈ X',¬ F' b)
 (h6:∀ b ∈ X',b < w.heap.size):Rel cx w F' ρ fp X' st tm:=by
 have tr:Tr w F ρ st (look st tm ρ w) w F' ρ st (look st tm ρ w) (fun _ _ _=>True) :=
  ⟨fun _ _ _ _ x0 v0 e es A n cap hl hf=>⟨_,es,hl,hf,Kam _⟩,fun _ _=>rfl,hF,fun _ _ h=>⟨rfl,h⟩⟩
 refine ⟨fun s=>?_,fun l k cs hb=>?_,h.nobox,h.nodup,h.disj,h1,h.lt,h2,h3,h4,h5,h6⟩
 . have:=(h.slots s).trk tr .none (fun _ _ _ _ _ _=>trivial) (fun b hb=>rfl);rw [Qmp] at this;exact this
 . obtain ⟨C,ty,f0,k1,k2,k3⟩:=h.boxes l k cs hb;exact ⟨C,ty,f0,k1,k2,k3.mono fun x v f hf hx _=>hx.tr tr (fun _ _=>rfl)⟩
theorem Rel.frzX (h:Rel cx w F ρ fp (f++X) st tm):Rel cx w (fun b=>F b \/ b ∈ f) ρ fp X st tm:=by
 have hX:=Kan.1 h.xnodup;refine h.reX (fun _ h=>.inl h) (fun r b hb hF=>?_) (fun b hb=>?_) hX.2.1 (fun r b hb hx=>h.xdisj r b hb (by simp [hx])) (fun b hb hF=>?_) (fun b hb=>h.xlt b (by simp [hb]))
 . rcases hF with hF | hF
   . exact h.notF r b hb hF
   . exact h.xdisj r b hb (by simp [hF])
 . rcases hb with hb | hb
   . exact h.Flt b hb
   . exact h.xlt b (by simp [hb])
 . rcases hF with hF | hF
   . exact h.xF b (by simp [hb]) hF
   . exact hX.2.2 b hF b hb rfl
end
end Go.Idl
namespace Go.Idl
open Go
section
variable {cx:Cx} {w w':World} {F F' F1:Nat->Prop} {ρ ρ':Rho} {fp fp' fp1:Fp} {X X' f f' f1 f2 fa:List Nat} {st st' st1:St} {a:Act} {o:Oper} {tm:Nat->Value} {v:IV}
theorem RC.toNo {lk x u} (h:RC cx w F ρ st lk x u f) (hd:x.isD=true):RC cx w F ρ st Qsy x u f:=h.isD hd (fun _ _ h=>h)
def Qne (cx:Cx) (w:World) (F:Nat->Prop) (ρ:Rho) (st:St) (a:Act):List (Option IV)->List Operand->List Nat->Prop
 | [],[],f=>f=[]
 | some v::vs,o::os,f=>∃ f1 f2,f=f1++f2/\RA cx w F ρ st v (a.eval o) f1/\Qne cx w F ρ st a vs os f2
 | none::vs,_::os,f=>Qne cx w F ρ st a vs os f
 | _,_,_=>False
theorem Qne.mono (hFF:∀ b,F b->F1 b) (hb:∀ l k,(st.box l k).isSome=true->(st'.box l k).isSome=true):∀ {vs:List (Option IV)} {os:List Operand} {f:List Nat},Qne cx w F ρ st a vs os f->Qne cx w F1 ρ st' a vs os f
 | [],[],_,h=>h
 | some v::vs,o::os,_,⟨f1,f2,h1,h2,h3⟩=>⟨f1,f2,h1,⟨h2.frame (fun _ _=>rfl) (fun _ _=>rfl) hFF (fun l k h=>⟨rfl,hb l k h⟩),h2.2⟩,Qne.mono hFF hb h3⟩
 | none::vs,_::os,_,h=>Qne.mono (vs:=vs) (os:=os) hFF hb h
 | [],_::_,_,h=>h.elim
 | some _::_,[],_,h=>h.elim
 | none::_,[],_,h=>h.elim
def Qty (cx:Cx) (w:World) (F:Nat->Prop) (ρ:Rho) (fp:Fp) (X:List Nat) (st:St) (a:Act) (o:Operand) (v:Option IV) (st':St):Prop :=
 ∃ F1 fp1 fa,Rel cx w F1 ρ fp1 (fa++X) st' (Qah a)/\(match v with | some v=>RA cx w F1 ρ st' v (a.eval o) fa | none=>fa=[])/\(∀ b,F b->F1 b)/\(∀ b,F1 b->F b \/ ∃ r,b ∈ fp r) /\
   (∀ b ∈ fa,∃ r,b ∈ fp r)/\(∀ r,∀ b ∈ fp1 r,b ∈ fp r)/\Qbf st st'
theorem Qty.none (h:Rel cx w F ρ fp X st (Qah a)) (o:Operand):Qty cx w F ρ fp X st a o .none st :=
 ⟨F,fp,[],h,rfl,fun _ h=>h,fun _ h=>.inl h,by simp,fun _ _ h=>h,.refl _⟩
theorem Qsl {lk cs C} (h:Cat (RC cx w F ρ st lk) cs C f) (hp:(Qe4 cs).all IV.plain1=true):Cat (RC cx w (fun b=>F b \/ b ∈ f) ρ st Qsy) (Qe4 cs) C []/\∀ x ∈ Qe4 cs,x.isD=true:=by
 have one:∀ {x u g},RC cx w F ρ st lk x u g->(Qol x).plain1=true->RC cx w (fun b=>F b \/ b ∈ g) ρ st Qsy (Qol x) u []/\(Qol x).isD=true:=by
  intro x u g hx hp;cases x with
  | own e es =>
    rcases hx with ⟨hx,_⟩ | hx
    . exact hx.elim
    . have:=hx.freeze;simp only [Qe4] at this;exact ⟨.inr this,rfl⟩
  | sc v1 =>
    have h0:=hx.noown rfl;subst h0;exact ⟨(hx.toNo rfl).tr ⟨fun _ _ _ h=>h.elim,fun _ _=>rfl,fun _ h=>.inl h,fun _ _ h=>⟨rfl,h⟩⟩ (live:=fun _ _ _=>False) (fun r c p hr=>by simp [Qby,Qol] at hr) (fun _ _=>rfl),rfl⟩
  | lst e es c =>
    have h0:=hx.noown rfl;subst h0;exact ⟨(hx.toNo rfl).tr ⟨fun _ _ _ h=>h.elim,fun _ _=>rfl,fun _ h=>.inl h,fun _ _ h=>⟨rfl,h⟩⟩ (live:=fun _ _ _=>False) (fun r c p hr=>by simp [Qby,Qol] at hr) (fun _ _=>rfl),rfl⟩
  | bptr l k c =>
    have h0:=hx.noown rfl;subst h0;exact ⟨(hx.toNo rfl).tr ⟨fun _ _ _ h=>h.elim,fun _ _=>rfl,fun _ h=>.inl h,fun _ _ h=>⟨rfl,h⟩⟩ (live:=fun _ _ _=>False) (fun r c p hr=>by simp [Qby,Qol] at hr) (fun _ _=>rfl),rfl⟩
  | fn g cs =>
    have h0:=hx.noown rfl;subst h0;exact ⟨(hx.toNo rfl).tr ⟨fun _ _ _ h=>h.elim,fun _ _=>rfl,fun _ h=>.inl h,fun _ _ h=>⟨rfl,h⟩⟩ (live:=fun _ _ _=>False) (fun r c p hr=>by simp [Qby,Qol] at hr) (fun _ _=>rfl),rfl⟩
  | _=>simp [Qol,IV.plain1] at hp
 induction h with
 | nil=>exact ⟨.nil,by simp [Qe4]⟩
 | @cons x u g xs us gs hx t ih =>
   simp only [Qe4,Kcj,Kac] at hp;obtain ⟨i1,i2⟩:=ih hp.2;obtain ⟨o1,o2⟩:=one hx hp.1;have ext:∀ {g':List Nat} {xs:List IV} {us:List Value},Cat (RC cx w (fun b=>F b \/ b ∈ g') ρ st Qsy) xs us []->(∀ b ∈ g',b ∈ g++gs)->Cat (RC cx w (fun b=>F b \/ b ∈ g++gs) ρ st Qsy) xs us []:=fun hc hs =>
    hc.mono fun z v f hf hz _=>hz.tr (live:=fun _ _ _=>True) ⟨fun _ _ _ _ _ _ _ _ _ _ _ h=>by simp [Qsy] at h,fun _ _=>rfl,fun b hb=>hb.imp id (hs b),fun _ _ h=>⟨rfl,h⟩⟩ (fun _ _ _ _=>trivial) (fun _ _=>rfl)
   refine ⟨?_,fun z hz=>?_⟩
   . have c1:=ext (Cat.cons o1 .nil) (fun b hb=>by simp [hb]);have c2:=ext i1 (fun b hb=>by simp [hb]);have:=c1.app c2;simpa [Qe4] using this
   . rcases Kaf.1 hz with rfl | hz
     . exact o2
     . exact i2 z hz
theorem Qqc {e es A A' N cap g} (h:RDs w F [.own e es] [.slice A N cap] g) (ha:0 < cap->A=A'):RDs w F [.own e es] [.slice A' N cap] g:=by
 rcases h.own_inv with ⟨rfl,rfl,A0,h8⟩ | ⟨b,o,cap1,C,ty,fp1,h8,rfl,hb,hd,he,hn,hoc⟩
 . simp only [Value.slice.injEq] at h8;obtain ⟨_,rfl,rfl⟩:=h8;exact .own0 .nil
 . simp only [Value.slice.injEq] at h8;obtain ⟨_,_,rfl⟩:=h8;rw [<- ha hn.2];exact h
def Qrb (v u:Value):Prop:=∃ A A' N cap,v=.slice A N cap/\u=.slice A' N cap/\(0 < cap->A=A')
inductive Qng:List Value->List Value->Prop
 | nil:Qng [] []
 | cons {v u vs us} (h:v=u \/ Qrb v u) (t:Qng vs us):Qng (v::vs) (u::us)
def LentV (v u:Value):Nat->Prop
 | 0=>Qrb v u \/ ∃ C D:Array Value,v=.agg C/\u=.agg D/\Qng C.toList D.toList
 | c+1=>∃ (C:Array Value) (x:Value),v=.agg C/\C.toList[c]? = some x/\Qrb x u
theorem Qrb.symm {v u:Value} (h:Qrb v u):Qrb u v:=by
 obtain ⟨A,A',N,cap,h1,h2,h3⟩:=h;exact ⟨A',A,N,cap,h2,h1,fun hp=>(h3 hp).symm⟩
theorem Qk1 {e es v u g} (h:RDs w F [.own e es] [v] g) (hs:Qrb v u):RDs w F [.own e es] [u] g:=by
 obtain ⟨A,A',N,cap,rfl,rfl,h3⟩:=hs;exact Qqc h h3
theorem Qor {e es v x g} (h:RDs w F [.own e es] [v] g) (hx:(Qa5 v)[0]? = some x):v=x:=by
 rcases h.own_inv with ⟨_,_,A0,rfl⟩ | ⟨b,o',cap1,C,ty,fp1,rfl,_⟩ <;> simpa [Qa5] using hx
theorem Qii {α} {l:List α} {i:Nat} {x:α} (h:l[i]? = some x):l.set i x=l:=by
 apply Kdc;intro k;by_cases hk:i=k
 . subst hk;rw [Kbl (Kak.1 h).1,h]
 . rw [Kbi hk]
theorem Qip (h:Rel cx w F ρ fp X st tm) {s c e0 n e:Nat} {es:List (List IV)} {u:Value} {lk} (hlk:lk=look st tm ρ w) (hr:RC cx w F ρ st lk (.arr (.S s) c [] e0 0 n false) u []) (hT:(Qav st.T s).cells[c]? = some (.own e es)) (hn:n=es.length) :
 ∃ x,(Qa5 (tm s))[c]? = some x/\Qrb x u/\∃ g,RDs w F [.own e es] [x] g:=by
 subst hlk;rcases hr with ⟨⟨x0,v0,es2,A,N,cap,a',cap',k1,k2,k3,k4,k5,k6,k7,k8⟩,_⟩ | hr;rotate_left
 . cases hr
 obtain ⟨q1,q2⟩:=Qer k1;simp only [Qci,Kaa,Kab] at k2;obtain ⟨rfl,rfl⟩:=k2;rw [hT] at q1;simp only [Kaa,IV.own.injEq] at q1;obtain ⟨rfl,rfl⟩:=q1;obtain ⟨f0,g1,g2,g3⟩:=h.data k1 ⟨_,_,_,rfl⟩;have hN:N=es.length:=by
  rcases g3.own_inv with ⟨h0,_,A0,h8⟩ | ⟨b,o',cap1,C,ty,fp1,h8,_⟩
  . simp only [Value.slice.injEq] at h8;rw [h0];exact h8.2.1
  . simp only [Value.slice.injEq] at h8;exact h8.2.1
 have hcap:=k8.2 rfl;have hc:cap'=cap:=by omega
 subst hc;refine ⟨_,q2,⟨A,a',N,cap',rfl,by rw [k4,hn,hN],fun hp=>?_⟩,_,g3⟩;obtain ⟨b,o',g1,g2⟩:=k8.1 hp;rw [g1,g2];simp
theorem Qli {s:Nat} {cs:List IV} (h:Rel cx w F ρ fp X st tm) (hT:Qav st.T s=.agg cs):∃ C:Array Value,tm s=.agg C/\Cat (RC cx w F ρ st (look st tm ρ w)) cs C.toList (fp (.S s)):=by
 have hs:=h.slots s;rw [hT] at hs;exact hs
theorem Jtq {u v:Value} (h:scEq u v=true):u=v:=by
 cases u <;> cases v <;> simp_all [scEq]
theorem Qjh {s:Nat}:∀ {i:Nat} {xs cs:List IV},Qe9 s i xs cs=true->cs.map (klc (IV.rooted (.S s)))=cs/\(∀ x ∈ cs,x.isD=true)
 | _,[],[],_=>⟨rfl,by simp⟩
 | i,x::xs,[],h=>by unfold Qe9 at h;split at h <;> simp_all
 | i,[],c::cs,h=>by simp [Qe9] at h
 | i,x::xs,c::cs,h=>by
   unfold Qe9 at h;split at h
   . simp_all
   . rename_i h1 h2;cases h1;cases h2;simp only [Kac] at h;obtain ⟨k1,k2⟩:=Qjh h.2;refine ⟨by simp only [Kbd,k1];simp [klc,IV.rooted],fun x hx=>?_⟩;rcases Kaf.1 hx with rfl | hx
     . rfl
     . exact k2 x hx
   . rename_i h1 h2;cases h1;cases h2;simp only [Kac] at h;obtain ⟨k1,k2⟩:=Qjh h.2;refine ⟨by simp only [Kbd,k1];simp [klc,IV.rooted],fun x hx=>?_⟩;rcases Kaf.1 hx with rfl | hx
     . rfl
     . exact k2 x hx
   . cases h
theorem Qgs (h:Rel cx w F ρ fp X st tm) {s:Nat} {ds:List IV} (hT:Qav st.T s=.agg ds):∀ {i:Nat} {xs cs:List IV} {us vs:List Value} {f:List Nat},Qe9 s i xs cs=true ->
 Cat (RC cx w F ρ st (look st tm ρ w)) xs us []->Cat (RC cx w F ρ st (look st tm ρ w)) cs vs f->(∀ q,cs[q]? = ds[i+q]?)->(∀ q,vs[q]? = (Qa5 (tm s))[i+q]?)->Qng vs us
 | _,[],[],us,vs,f,_,hx,hc,_,_=>by
   obtain ⟨rfl,_⟩:=hx.nil_inv;obtain ⟨rfl,_⟩:=hc.nil_inv;exact .nil
 | i,x::xs,[],us,vs,f,h',_,_,_,_=>by unfold Qe9 at h';split at h' <;> simp_all
 | i,[],c::cs,us,vs,f,h',_,_,_,_=>by simp [Qe9] at h'
 | i,x::xs,c::cs,us,vs,f,h',hx,hc,h1,h2=>by
   generalize hf:([]:List Nat)=f0 at hx;cases hx with
   | @cons _ u g1 _ us g2 hxu hxt =>
   simp only [List.nil_eq,Keg] at hf;obtain ⟨rfl,rfl⟩:=hf;cases hc with
   | @cons _ v g1 _ vs g2 hcv hct =>
   have r1:∀ q,cs[q]? = ds[i+1+q]?:=fun q=>by
    have:=h1 (q+1);rw [show i+(q+1)=i+1+q by omega] at this;simpa using this
   have r2:∀ q,vs[q]? = (Qa5 (tm s))[i+1+q]?:=fun q=>by
    have:=h2 (q+1);rw [show i+(q+1)=i+1+q by omega] at this;simpa using this
   have h10:=h1 0;have h20:=h2 0;simp only [Kcs,Keh] at h10 h20;unfold Qe9 at h';split at h'
   . simp_all
   . rename_i e1 e2;cases e1;cases e2;simp only [Kac] at h';have he:=Jtq h'.1;subst he;refine .cons (.inl ?_) (Qgs h hT h'.2 hxt hct r1 r2);have o1:∀ {y z:Value} {g},RC cx w F ρ st (look st tm ρ w) (.sc y) z g->z=y:=by
      intro y z g hz;rcases hz with ⟨hz,_⟩ | hz
      . exact hz.elim
      . cases hz;rfl
     rw [o1 hcv,o1 hxu]
   . rename_i e1 e2;cases e1;cases e2;simp only [Kac,Kbt] at h';obtain ⟨⟨⟨rfl,rfl⟩,hn⟩,h'⟩:=h';obtain ⟨x,k1,k2,_⟩:=Qip h rfl hxu (by rw [hT];exact h10.symm) hn;rw [k1] at h20;cases h20;exact .cons (.inr k2) (Qgs h hT h' hxt hct r1 r2)
   . cases h'
theorem Jk3 {lk cs vs us} (hc:Cat (RC cx w F ρ st lk) cs vs f) (hd:∀ x ∈ cs,x.isD=true) (hs:Qng vs us) (ho:∀ x ∈ cs,∀ e es c,x ≠ .lst e es c):Cat (RC cx w F ρ st lk) cs us f:=by
 induction hs generalizing cs f with
 | nil=>exact hc
 | @cons v u vs us h t ih =>
   cases hc with
   | @cons x _ g1 xs _ g2 h1 h2 =>
   have ht:=ih h2 (fun x hx=>hd x (by simp [hx])) (fun x hx=>ho x (by simp [hx]));rcases h with rfl | h
   . exact .cons h1 ht
   . refine .cons ?_ ht;obtain ⟨A,A',N,cap,rfl,rfl,h3⟩:=h;have hdx:=hd x (by simp);have hox:=ho x (by simp);rcases h1 with ⟨h1,rfl⟩ | h1
     . cases x with
       | bptr l k c=>exact absurd h1.1 (by simp)
       | fn f caps=>obtain ⟨cvs,h1,_⟩:=h1;cases h1
       | _=>first | exact h1.elim | simp [IV.isD] at hdx
     . cases x with
       | own e es=>exact .inr (Qqc h1 h3)
       | lst e es c=>exact (hox _ _ _ rfl).elim
       | sc v=>cases h1 with | sc h _=>simp [Idl.isSc] at h
       | un=>simp [IV.isD] at hdx
       | _=>cases h1
theorem Qhn {s:Nat}:∀ {i:Nat} {xs cs:List IV},Qe9 s i xs cs=true->∀ x ∈ cs,∀ e es c,x ≠ .lst e es c
 | _,[],[],_=>by simp
 | i,x::xs,[],h=>by simp
 | i,[],c::cs,h=>by simp [Qe9] at h
 | i,x::xs,c::cs,h=>by
   unfold Qe9 at h;split at h
   . simp_all
   . rename_i h1 h2;cases h1;cases h2;simp only [Kac] at h;intro x hx;rcases Kaf.1 hx with rfl | hx
     . intro _ _ _ hh;cases hh
     . exact Qhn h.2 x hx
   . rename_i h1 h2;cases h1;cases h2;simp only [Kac] at h;intro x hx;rcases Kaf.1 hx with rfl | hx
     . intro _ _ _ hh;cases hh
     . exact Qhn h.2 x hx
   . cases h
theorem Jkq (h:Rel cx w F ρ fp X st (Qah a)) {m:Mode} {x:Opd} {o:Operand} (hx:Qaz cx o x) {v:Option IV} (ha:st.arg1 m x=some (v,st')):Qty cx w F ρ fp X st a o v st':=by
 cases m with
 | val =>
   simp only [St.arg1,Kaa,Kab] at ha;obtain ⟨rfl,rfl⟩:=ha;exact .none h o
 | rv =>
   simp only [St.arg1,Kaa,Kab] at ha;obtain ⟨rfl,rfl⟩:=ha;exact .none h o
 | rd =>
   simp only [St.arg1] at ha;obtain ⟨fp1,f1,k1,k2,k3,k4⟩:=Qj2 h hx;split at ha
   . rename_i e es T hT;simp only [Kaa,Kab] at ha;obtain ⟨rfl,rfl⟩:=ha;rw [hT] at k1 k2;have hR:RDs w F [.own e es] [a.eval o] f1:=by
      rcases k2 with ⟨k2,_⟩ | k2
      . exact k2.elim
      . exact k2
     have h2:=hR.freeze;simp only [Qe4,Qol] at h2;exact ⟨_,fp1,[],k1.frzX,⟨.inr h2,rfl⟩,fun _ h=>.inl h,fun b hb=>hb.imp id (k3 b),by simp,k4,⟨rfl,Kam _⟩⟩
   . rename_i cs T hT;split at ha
     . rename_i hp;simp only [Kaa,Kab] at ha;obtain ⟨rfl,rfl⟩:=ha;rw [hT] at k1 k2;obtain ⟨C,hC,hc⟩:=k2;obtain ⟨c1,c2⟩:=Qsl hc hp;exact ⟨_,fp1,[],k1.frzX,⟨⟨C,hC,c1⟩,Kaj.2 c2⟩,fun _ h=>.inl h,fun b hb=>hb.imp id (k3 b),by simp,k4,⟨rfl,Kam _⟩⟩
     . simp only [Kaa,Kab] at ha;obtain ⟨rfl,rfl⟩:=ha;exact .none h o
   . simp only [Kaa,Kab] at ha;obtain ⟨rfl,rfl⟩:=ha;exact .none h o
 | tk =>
   simp only [St.arg1] at ha;obtain ⟨fp1,f1,k1,k2,k3,k4⟩:=Qj2 h hx;split at ha
   . rename_i cs T hT;split at ha
     . rename_i cs' st2 hab;simp only [Kaa,Kab] at ha;obtain ⟨rfl,rfl⟩:=ha;rw [hT] at k1 k2;obtain ⟨C,hC,hc⟩:=k2;obtain ⟨fp2,fy,q1,q2,q3,q4,q5,q6⟩:=k1.absorbs hc hab;refine ⟨F,fp2,fy,q1,⟨⟨C,hC,q2.mono fun z v f _ hz hm=>hz.toNo (q3 z hm)⟩,Kaj.2 q3⟩,fun _ h=>h,fun _ h=>.inl h,fun b hb=>?_,fun r b hb=>k4 r b (q5 r b hb),⟨q6.M,q6.loc⟩⟩;rcases q4 b hb with h9 | ⟨r,h9⟩
       . exact k3 b h9
       . exact ⟨r,k4 r b h9⟩
     . cases ha
   . rename_i v0 T hne hT;split at ha
     . rename_i v1 st2 hab;simp only [Kaa,Kab] at ha;obtain ⟨rfl,rfl⟩:=ha;rw [hT] at k1 k2;have hrc:=Qir k2 (fun cs hc=>hne cs hc) (fun vs hc=>by simp only at hc;rw [hc] at hab;simp [St.absorb] at hab) (fun hc=>by simp only at hc;rw [hc] at hab;simp [St.absorb] at hab);obtain ⟨fp2,fy,q1,q2,q3,q4,q5,q6,q7⟩:=k1.absorb hrc hab;refine ⟨F,fp2,fy,q1,?_,fun _ h=>h,fun _ h=>.inl h,fun b hb=>?_,fun r b hb=>k4 r b (q5 r b hb),⟨q6.M,q6.loc⟩⟩
       . have h5:=q2.toNo q3;cases v1 with
         | agg cs=>simp [IV.isD] at q3
         | un=>simp [IV.isD] at q3
         | _=>exact ⟨h5,q3⟩
       . rcases q4 b hb with h9 | ⟨r,h9⟩
         . exact k3 b h9
         . exact ⟨r,k4 r b h9⟩
     . cases ha
 | ld =>
   simp only [St.arg1] at ha;have hr:=Qa0 h hx;split at ha
   . rename_i s c e0 n hrd;rw [hrd] at hr;split at ha
     . rename_i e es hT;split at ha;rotate_left
       . cases ha
       rename_i hn;obtain ⟨hn,rfl⟩:=hn;simp only [Kaa,Kab] at ha;obtain ⟨rfl,rfl⟩:=ha;obtain ⟨h1,h2⟩:=h.drop s;rw [hT] at h2;have hkl:kl (IV.rooted (.S s)) (.own e es)=.own e es:=by simp [kl,kl1,Qf1 (Qaj.rooted _)]
       rw [hkl] at h2;have hR:RDs w F [.own e es] [Qah a s] (fp (.S s)):=by
        rcases h2 with ⟨h2,_⟩ | h2
        . exact h2.elim
        . exact h2
       obtain ⟨x,e1,e2,_⟩:=Qip h rfl hr (by rw [hT];rfl) hn;have e1':=Qor hR e1;subst e1';refine ⟨F,_,_,h1,⟨.inr (Qk1 hR e2),rfl⟩,fun _ h=>h,fun _ h=>.inl h,fun b hb=>⟨_,hb⟩,fun r b hb=>?_,⟨rfl,Kam _⟩⟩;unfold Qao at hb;split at hb
       . cases hb
       . exact hb
     . rename_i cs hT;split at ha;rotate_left
       . cases ha
       rename_i e es hce;split at ha;rotate_left
       . cases ha
       rename_i hn;simp only [Kaa,Kab] at ha;obtain ⟨rfl,rfl⟩:=ha;obtain ⟨x,e1,e2,_⟩:=Qip h rfl hr (by rw [hT];exact hce) hn;obtain ⟨h1,h2⟩:=h.drop s;rw [hT] at h2;obtain ⟨C,hC,hcat⟩:=h2;have hce':(cs.map (klc (IV.rooted (.S s))))[c]? = some (.own e es):=by
        rw [Kdx,hce];simp [Qf1 (Qaj.rooted _)]
       obtain ⟨v,f1,g,f2,hv,hf,hx0,hput⟩:=hcat.at_ hce'
       rw [hC] at e1;simp only [Qa5] at e1;rw [hv] at e1;have hvx:v=x:=by simpa using e1
       subst hvx;have hR:RDs w F [.own e es] [v] g:=by
        rcases hx0 with ⟨hx0,_⟩ | hx0
        . exact hx0.elim
        . exact hx0
       have hset:=hput (RC cx w F ρ { st with T:=dropSlot s st.T } (look { st with T:=dropSlot s st.T } (Qah a) ρ w)) .un v [] (fun _ _ _ _ h=>h) (.inr (.un .nil));rw [Qii hv] at hset;have hX:List.Perm ((f1++([]++f2))++(g++X)) (fp (.S s)++X):=by
        rw [hf,Kaq];have e5:f1++(g++f2)++X=f1++(g++(f2++X)):=by simp
        have e6:f1++f2++(g++X)=f1++(f2++(g++X)):=by simp
        rw [e5,e6];refine Kek f1 ?_;rw [<- Kal,<- Kal];exact Kcn X Kcm
       have hp:=(h1.perm hX.symm).put (v:=.agg ((cs.map (klc (IV.rooted (.S s)))).set c .un)) (v':=.agg C) ⟨C,rfl,hset⟩ s;have htm:(fun q=>if q=s then Value.agg C else Qah a q)=Qah a:=by funext q;by_cases hq:q=s <;> simp [hq,hC]
       rw [htm] at hp;have htp:tput (dropSlot s st.T) s (.agg ((cs.map (klc (IV.rooted (.S s)))).set c .un))=(s,.agg ((cs.map (klc (IV.rooted (.S s)))).set c .un))::dropSlot s st.T:=by
        simp [tput,dropSlot,Qav,IV.holds]
       rw [htp] at hp;refine ⟨F,_,g,hp,⟨.inr (Qk1 hR e2),rfl⟩,fun _ h=>h,fun _ h=>.inl h,fun b hb=>⟨.S s,by rw [hf];simp [hb]⟩,fun r b hb=>?_,⟨rfl,Kam _⟩⟩;unfold Qao at hb;split at hb
       . rename_i hrs;rw [hrs,hf];simp only [Kaq,Kah] at hb |-;rcases hb with hb | hb <;> simp [hb]
       . exact hb
     . cases ha
   . rename_i xs hrd;rw [hrd] at hr;split at ha;rotate_left
     . cases ha
     rename_i s hroot;split at ha;rotate_left
     . cases ha
     rename_i cs hT;split at ha;rotate_left
     . cases ha
     rename_i hsh;simp only [Kaa,Kab] at ha;obtain ⟨rfl,rfl⟩:=ha;obtain ⟨D,hD,hcx⟩:=hr;obtain ⟨C,hC,hcs⟩:=Qli h hT;have hsame:=Qgs h hT (i:=0) hsh hcx hcs (fun q=>by simp) (fun q=>by rw [hC];simp [Qa5]);obtain ⟨h1,h2⟩:=h.drop s;rw [hT] at h2;obtain ⟨C2,hC2,hcat⟩:=h2;rw [hC] at hC2;cases hC2;obtain ⟨d1,d2⟩:=Qjh hsh;simp only [d1] at hcat;refine ⟨F,_,_,h1,⟨⟨D,hD,Jk3 (hcat.mono fun z v f _ hz hm=>hz.toNo (d2 z hm)) d2 hsame (Qhn hsh)⟩,Kaj.2 d2⟩,fun _ h=>h,fun _ h=>.inl h,fun b hb=>⟨_,hb⟩,fun r b hb=>?_,⟨rfl,Kam _⟩⟩;unfold Qao at hb;split at hb
     . cases hb
     . exact hb
   . cases ha
theorem Jcd (h:Rel cx w F ρ fp X st (Qah a)) {x:Opd} {o:Operand} (hx:Qaz cx o x) {v:Option IV} (ha:st.arg1 .ld x=some (v,st')):∃ s c,Qfe st.T .ld x=[(s,c)]/\LentV (Qah a s) (a.eval o) c:=by
 simp only [St.arg1] at ha;have hr:=Qa0 h hx;split at ha
 . rename_i s c e0 n hrd;rw [hrd] at hr;split at ha
   . rename_i e es hT;split at ha;rotate_left
     . cases ha
     rename_i hn;obtain ⟨hn,rfl⟩:=hn;obtain ⟨x,e1,e2,g,e3⟩:=Qip h rfl hr (by rw [hT];rfl) hn;have hs:=h.slots s;rw [hT] at hs;have hR:RDs w F [.own e es] [Qah a s] (fp (.S s)):=by
      rcases hs with ⟨hs,_⟩ | hs
      . exact hs.elim
      . exact hs
     have e1':=Qor hR e1;subst e1';exact ⟨s,0,by simp [Qfe,hrd,hT],.inl e2⟩
   . rename_i cs hT;split at ha;rotate_left
     . cases ha
     rename_i e es hce;split at ha;rotate_left
     . cases ha
     rename_i hn;obtain ⟨x,e1,e2,_⟩:=Qip h rfl hr (by rw [hT];exact hce) hn;obtain ⟨C,hC,hcs⟩:=Qli h hT;rw [hC] at e1;exact ⟨s,c+1,by simp [Qfe,hrd,hT],C,x,hC,by simpa [Qa5] using e1,e2⟩
   . cases ha
 . rename_i xs hrd;rw [hrd] at hr;split at ha;rotate_left
   . cases ha
   rename_i s hroot;split at ha;rotate_left
   . cases ha
   rename_i cs hT;split at ha;rotate_left
   . cases ha
   rename_i hsh;obtain ⟨D,hD,hcx⟩:=hr;obtain ⟨C,hC,hcs⟩:=Qli h hT;have hsame:=Qgs h hT (i:=0) hsh hcx hcs (fun q=>by simp) (fun q=>by rw [hC];simp [Qa5]);exact ⟨s,0,by simp [Qfe,hrd,hroot],.inr ⟨C,D,hC,hD,hsame⟩⟩
 . cases ha
end
end Go.Idl
namespace Go.Idl
open Go
def Qmu (cx:Cx):List (Mode×Opd)->List Operand->Prop
 | [],[]=>True
 | (_,x)::r,o::os=>Qaz cx o x/\Qmu cx r os
 | _,_=>False
def Qra (a:Act):List (Mode×Opd)->List Operand->List (Nat×Nat)->Prop
 | [],[],ss=>ss=[]
 | (.ld,_)::r,o::os,ss=>∃ s c ss',ss=(s,c)::ss'/\LentV (Qah a s) (a.eval o) c/\Qra a r os ss'
 | (.val,_)::r,_::os,ss=>Qra a r os ss
 | (.rd,_)::r,_::os,ss=>Qra a r os ss
 | (.rv,_)::r,_::os,ss=>Qra a r os ss
 | (.tk,_)::r,_::os,ss=>Qra a r os ss
 | _,_,_=>False
section
variable {cx:Cx} {w w':World} {F F' F1:Nat->Prop} {ρ ρ':Rho} {fp fp' fp1:Fp} {X X' f f' f1 f2 fa:List Nat} {st st' st1:St} {a:Act} {o:Oper} {tm:Nat->Value} {v:IV}
theorem Qld:∀ {args:List (Mode×Opd)} {os:List Operand} {F:Nat->Prop} {fp:Fp} {X:List Nat} {st st':St} {vs:List (Option IV)} {ss:List (Nat×Nat)},Rel cx w F ρ fp X st (Qah a)->Qmu cx args os->st.args1 args=some (vs,st',ss) ->
 ∃ F1 fp1 fa,Rel cx w F1 ρ fp1 (fa++X) st' (Qah a)/\Qne cx w F1 ρ st' a vs os fa/\(∀ b,F b->F1 b)/\(∀ b,F1 b->F b \/ ∃ r,b ∈ fp r)/\(∀ b ∈ fa,∃ r,b ∈ fp r)/\(∀ r,∀ b ∈ fp1 r,b ∈ fp r)/\Qbf st st'/\Qra a args os ss
 | [],[],F,fp,X,st,st',vs,ss,h,_,ha=>by
   simp only [St.args1,Kaa,Kab] at ha;obtain ⟨rfl,rfl,rfl⟩:=ha;exact ⟨F,fp,[],h,rfl,fun _ h=>h,fun _ h=>.inl h,by simp,fun _ _ h=>h,.refl _,rfl⟩
 | [],_::_,_,_,_,_,_,_,_,_,hk,_=>hk.elim
 | (_,_)::_,[],_,_,_,_,_,_,_,_,hk,_=>hk.elim
 | (m,x)::r,o::os,F,fp,X,st,st',vs,ss,h,hk,ha=>by
   obtain ⟨hx,hr⟩:=hk;simp only [St.args1] at ha;cases h1:st.arg1 m x with
   | none=>simp [h1] at ha
   | some p1 =>
   obtain ⟨v,st1⟩:=p1;simp only [h1] at ha;cases h2:st1.args1 r with
   | none=>simp [h2] at ha
   | some p2 =>
   obtain ⟨vs2,st2,ss2⟩:=p2;simp only [h2,Kaa,Kab] at ha;obtain ⟨rfl,rfl,rfl⟩:=ha;obtain ⟨F1,fp1,fa,k1,k2,k3,k4,k5,k6,k7⟩:=Jkq h hx h1;obtain ⟨F2,fp2,fb,q1,q2,q3,q4,q5,q6,q7,q8⟩:=Qld k1 hr h2;refine ⟨F2,fp2,fa++fb,q1.perm ?_,?_,fun b hb=>q3 b (k3 b hb),fun b hb=>?_,fun b hb=>?_,fun r b hb=>k6 r b (q6 r b hb),k7.trans q7,?_⟩
   . rw [<- Kal];exact Kcn X Kcm
   . cases v with
     | none =>
       have:fa=[]:=k2;subst this;exact q2
     | some v =>
       exact ⟨fa,fb,rfl,⟨RA.frame k2 (fun _ _=>rfl) (fun _ _=>rfl) q3 (fun l k hb=>⟨rfl,q7.box hb⟩),k2.2⟩,q2⟩
   . rcases q4 b hb with h5 | ⟨r,h5⟩
     . exact k4 b h5
     . exact .inr ⟨r,k6 r b h5⟩
   . rcases Kah.1 hb with h5 | h5
     . exact k5 b h5
     . obtain ⟨r,h6⟩:=q5 b h5;exact ⟨r,k6 r b h6⟩
   . cases m with
     | val=>exact q8
     | rd=>exact q8
     | rv=>exact q8
     | tk=>exact q8
     | ld =>
       obtain ⟨s,c,l1,l2⟩:=Jcd h hx h1;exact ⟨s,c,ss2,by rw [l1];rfl,l2,q8⟩
def Qeg (F:Nat->Prop) (fp:Fp) (b:Bool):Nat->Prop:=fun c=>F c \/ (b=true/\∃ r,c ∈ fp r)
theorem Qx9 (h:Rel cx w F ρ fp X st tm) {x y:IV} {u:Value} {b:Bool} (hx:RC cx w F ρ st (look st tm ρ w) x u []) (hs:st.seen x=some (y,b)) :
 RC cx w (Qeg F fp b) ρ st Qsy y u []/\y.isD=true:=by
 unfold St.seen at hs;split at hs
 . rename_i hp;simp only [Kaa,Kab] at hs;obtain ⟨rfl,rfl⟩:=hs;have hd:x.isD=true:=by cases x <;> simp_all [IV.plain1,IV.isD]
   exact ⟨(hx.toNo hd).tr (live:=fun _ _ _=>True) ⟨fun _ _ _ _ _ _ _ _ _ _ _ h=>by simp [Qsy] at h,fun _ _=>rfl,fun b hb=>.inl hb,fun _ _ h=>⟨rfl,h⟩⟩ (fun _ _ _ _=>trivial) (fun _ _=>rfl),hd⟩
 . rename_i hnp;split at hs;rotate_left
   . cases hs
   rename_i e es hv;simp only [Kaa,Kab] at hs;obtain ⟨rfl,rfl⟩:=hs;refine ⟨.inr ?_,rfl⟩;unfold St.sview at hv;split at hv
   . simp [IV.plain1] at hnp
   . rename_i r c p e0 off n clip;split at hv;rotate_left
     . cases hv
     rename_i e1 es1 hp;split at hv;rotate_left
     . cases hv
     rename_i hoff;simp only [Kaa,Kab] at hv;obtain ⟨rfl,rfl⟩:=hv;rcases hx with ⟨hx,_⟩ | hx;rotate_left
     . cases hx
     obtain ⟨x0,v0,es2,A,N,cap,A',cap',k1,k2,k3,rfl,k5,k6,k7,k8⟩:=hx;have hp':=Qe6 h k1 k2;rw [hp] at hp';cases hp';obtain ⟨e3,es3,rfl⟩:=Qbk k2;obtain ⟨f0,g1,g2,g3⟩:=h.data k1 (Qct k2);obtain ⟨u0,a1,g,a2,hfu,hfe,hRn,_⟩:=g3.fol (Qdc k2);rw [k2] at hfu;simp only [Kaa,Kab,Kfe] at hfu;subst hfu;obtain ⟨g',hR',hsub,hnd⟩:=Jel hRn k3 k5 k6 k8.1;have hfz:=hR'.freeze;simp only [Qe4,Qol] at hfz;exact hfz.frame (fun _ _=>rfl) (fun _ _=>rfl) (fun b hb=>hb.imp id (fun hb=>⟨rfl,r,g1 b (by rw [hfe];simp [hsub b hb])⟩))
   . cases hv
end
end Go.Idl
namespace Go.Idl
open Go
section
variable {cx:Cx} {w w':World} {F F' F1:Nat->Prop} {ρ ρ':Rho} {fp fp' fp1:Fp} {X X' f f' f1 f2 fa:List Nat} {st st' st1:St} {a:Act} {o:Oper} {tm:Nat->Value} {v:IV}
theorem RC.more {x u} (h:RC cx w F ρ st Qsy x u f) (hFF:∀ b,F b->F' b):RC cx w F' ρ st Qsy x u f :=
 h.tr (live:=fun _ _ _=>True) ⟨fun _ _ _ _ _ _ _ _ _ _ _ h=>by simp [Qsy] at h,fun _ _=>rfl,hFF,fun _ _ h=>⟨rfl,h⟩⟩ (fun _ _ _ _=>trivial) (fun _ _=>rfl)
theorem RA.more {x u} (h:RA cx w F ρ st x u f) (hFF:∀ b,F b->F' b):RA cx w F' ρ st x u f :=
 ⟨h.frame (fun _ _=>rfl) (fun _ _=>rfl) hFF (fun _ _ h=>⟨rfl,h⟩),h.2⟩
theorem Qeg.or {b c:Bool} {k} (h:Qeg F fp b k):Qeg F fp (b || c) k:=h.imp id (fun h=>⟨by simp [h.1],h.2⟩)
theorem Qeg.or' {b c:Bool} {k} (h:Qeg F fp c k):Qeg F fp (b || c) k:=h.imp id (fun h=>⟨by simp [h.1],h.2⟩)
theorem Qm3 (h:Rel cx w F ρ fp X st tm):∀ {xs ys:List IV} {us:List Value} {b:Bool} {g:List Nat},Cat (RC cx w F ρ st (look st tm ρ w)) xs us g->g=[]->st.seens xs=some (ys,b) ->
 Cat (RC cx w (Qeg F fp b) ρ st Qsy) ys us []/\ys.all IV.isD=true
 | [],ys,us,b,g,hc,_,hs=>by
   simp only [St.seens,Kaa,Kab] at hs;obtain ⟨rfl,rfl⟩:=hs;rw [hc.nil_inv.1];exact ⟨.nil,rfl⟩
 | x::xs,ys,us,b,g,hc,hg,hs=>by
   simp only [St.seens] at hs;cases h1:st.seen x with
   | none=>simp [h1] at hs
   | some p1 =>
   obtain ⟨y,b1⟩:=p1;simp only [h1] at hs;cases h2:st.seens xs with
   | none=>simp [h2] at hs
   | some p2 =>
   obtain ⟨ys2,b2⟩:=p2;simp only [h2,Kaa,Kab] at hs;obtain ⟨rfl,rfl⟩:=hs;cases hc with
   | @cons _ u g1 _ us g2 hx t =>
   obtain ⟨rfl,rfl⟩:=Keg.1 hg;obtain ⟨k1,k2⟩:=Qx9 h hx h1;obtain ⟨q1,q2⟩:=Qm3 h t rfl h2;refine ⟨Cat.cons (f:=[]) (fp:=[]) (k1.more fun _ h=>Qeg.or h) (q1.mono fun z v f _ hz _=>hz.more fun _ h=>Qeg.or' h),by simp [k2,q2]⟩
theorem Jkr (h:Rel cx w F ρ fp X st (Qah a)) {m:Mode} {x:Opd} {o:Operand} (hx:Qaz cx o x) {y:IV} {b:Bool} (ha:st.arg2 m x=some (y,b)):RA cx w (Qeg F fp b) ρ st y (a.eval o) []:=by
 have hr:=Qa0 h hx;have one:∀ z,rd st.T x=z->(∀ cs,z ≠ .agg cs)->st.seen z=some (y,b)->RA cx w (Qeg F fp b) ρ st y (a.eval o) []:=by
  intro z hz hna hs;rw [hz] at hr;have hrc:RC cx w F ρ st (look st (Qah a) ρ w) z (a.eval o) []:=Qir hr hna (fun vs hc=>by rw [hc] at hs;simp [St.seen,IV.plain1,St.sview] at hs) (fun hc=>by rw [hc] at hs;simp [St.seen,IV.plain1,St.sview] at hs);obtain ⟨k1,k2⟩:=Qx9 h hrc hs;refine ⟨?_,?_⟩
  . cases y with
    | agg cs=>simp [IV.isD] at k2
    | un=>simp [IV.isD] at k2
    | _=>exact k1
  . cases y with
    | agg cs=>simp [IV.isD] at k2
    | _=>exact k2
 cases m with
 | val =>
   simp only [St.arg2] at ha;split at ha;rotate_left
   . cases ha
   rename_i hp;simp only [Kaa,Kab] at ha;obtain ⟨rfl,rfl⟩:=ha;cases hz:rd st.T x with
   | agg cs =>
     rw [hz] at hr hp;obtain ⟨C,hC,hc⟩:=hr;have hd:∀ z ∈ cs,z.isD=true:=fun z hzm=>by
      have:=Kaj.1 hp z hzm;cases z <;> simp_all [IV.plain1,IV.isD]
     exact ⟨⟨C,hC,hc.mono fun z v f _ hz hm=>(hz.toNo (hd z hm)).more fun _ h=>.inl h⟩,Kaj.2 hd⟩
   | _ =>
     have hs:st.seen (rd st.T x)=some (rd st.T x,false):=by
      rw [hz] at hp |-;unfold St.seen;rw [if_pos (by simpa [IV.plain] using hp)]
     rw [<- hz];exact one _ rfl (fun cs hc=>by rw [hz] at hc;cases hc) hs
 | rd =>
   simp only [St.arg2] at ha;split at ha
   . rename_i cs hz;split at ha;rotate_left
     . cases ha
     rename_i cs2 b2 hs;simp only [Kaa,Kab] at ha;obtain ⟨rfl,rfl⟩:=ha;rw [hz] at hr;obtain ⟨C,hC,hc⟩:=hr;obtain ⟨q1,q2⟩:=Qm3 h hc rfl hs;exact ⟨⟨C,hC,q1⟩,q2⟩
   . rename_i z hna;exact one _ rfl (fun cs hc=>hna cs hc) ha
 | rv =>
   simp only [St.arg2] at ha;split at ha
   . rename_i cs hz;split at ha;rotate_left
     . cases ha
     rename_i cs2 b2 hs;simp only [Kaa,Kab] at ha;obtain ⟨rfl,rfl⟩:=ha;rw [hz] at hr;obtain ⟨C,hC,hc⟩:=hr;obtain ⟨q1,q2⟩:=Qm3 h hc rfl hs;exact ⟨⟨C,hC,q1⟩,q2⟩
   . rename_i z hna;exact one _ rfl (fun cs hc=>hna cs hc) ha
 | tk=>simp [St.arg2] at ha
 | ld=>simp [St.arg2] at ha
theorem Qhw (h:Rel cx w F ρ fp X st (Qah a)):∀ {args:List (Mode×Opd)} {os:List Operand} {vs:List (Option IV)} {fa:List Nat} {ys:List IV} {b:Bool},Qmu cx args os->Qne cx w F ρ st a vs os fa->st.args2 args vs=some (ys,b) ->
 Cat (RA cx w (Qeg F fp b) ρ st) ys (os.map a.eval) fa
 | [],os,vs,fa,ys,b,hk,h1,ha=>by
   cases os with
   | cons _ _=>exact hk.elim
   | nil =>
   cases vs with
   | cons v _=>cases v <;> exact h1.elim
   | nil =>
   simp only [St.args2,Kaa,Kab] at ha;obtain ⟨rfl,rfl⟩:=ha;have:fa=[]:=h1;subst this;exact .nil
 | (m,x)::r,os,vs,fa,ys,b,hk,h1,ha=>by
   cases os with
   | nil=>exact hk.elim
   | cons o os =>
   obtain ⟨hx,hr⟩:=hk;cases vs with
   | nil=>exact h1.elim
   | cons v vs =>
   cases v with
   | some v =>
     obtain ⟨g1,g2,rfl,k1,k2⟩:=h1;simp only [St.args2] at ha;cases h2:st.args2 r vs with
     | none=>simp [h2] at ha
     | some p =>
     obtain ⟨ys2,b2⟩:=p;simp only [h2,Kaa,Kab] at ha;obtain ⟨rfl,rfl⟩:=ha;exact .cons (k1.more fun _ h=>.inl h) (Qhw h hr k2 h2)
   | none =>
     have k2:Qne cx w F ρ st a vs os fa:=h1;simp only [St.args2] at ha;cases h3:st.arg2 m x with
     | none=>simp [h3] at ha
     | some p3 =>
     obtain ⟨y,b1⟩:=p3;simp only [h3] at ha;cases h2:st.args2 r vs with
     | none=>simp [h2] at ha
     | some p =>
     obtain ⟨ys2,b2⟩:=p;simp only [h2,Kaa,Kab] at ha;obtain ⟨rfl,rfl⟩:=ha;have q:=Qhw h hr k2 h2;exact Cat.cons (f:=[]) ((Jkr h hx h3).more fun _ h=>Qeg.or h) (q.mono fun z v f _ hz _=>hz.more fun _ h=>Qeg.or' h)
def Qbp (args:List IV) (M:List Qad):St:={ T:=args.zipIdx.map fun (v,i)=>(i,v),loc:=[],M:=M }
def Qeh (vs:List Value):Nat->Value:=fun s=>vs.getD s undef
theorem Jfu (args:List IV) (M:List Qad) (s:Nat):Qav (Qbp args M).T s=(args[s]?).getD .un:=by
 unfold Qbp
 suffices ∀ (l:List IV) (k:Nat),Qav ((l.zipIdx k).map fun (v,i)=>(i,v)) s=if k<=s then (l[s - k]?).getD .un else .un by
  have:=this args 0;simpa using this
 intro l
 induction l with
 | nil=>intro k;simp [Qav]
 | cons x l ih =>
   intro k;simp only [List.zipIdx_cons,Kbd,Qav,ih];by_cases hk:k=s
   . subst hk;simp
   . rw [if_neg hk];by_cases h1:k+1<=s
     . rw [if_pos h1,if_pos (by omega),show s - k=(s - (k+1))+1 by omega];simp
     . rw [if_neg h1,if_neg (by omega)]
end
end Go.Idl
namespace Go.Idl
open Go
theorem Cat.fps {R:IV->Value->List Nat->Prop} {xs vs fq} (h:Cat R xs vs fq):∃ φ:Nat->List Nat,(∀ (i:Nat) (x:IV) (v:Value),xs[i]? = some x->vs[i]? = some v->R x v (φ i))/\(∀ i,xs.length<=i->φ i=[])/\(∀ i,∀ b ∈ φ i,b ∈ fq) /\
 (fq.Nodup->(∀ i,(φ i).Nodup)/\∀ i j,i ≠ j->∀ b ∈ φ i,b ∉ φ j):=by
 induction h with
 | nil=>exact ⟨fun _=>[],by simp,by simp,by simp,fun _=>⟨by simp,by simp⟩⟩
 | @cons x v f xs vs fp h t ih =>
   obtain ⟨φ,h1,h2,h3,h4⟩:=ih;refine ⟨fun i=>match i with | 0=>f | i+1=>φ i,fun i y u hy hu=>?_,fun i hi=>?_,fun i b hb=>?_,fun hn=>?_⟩
   . cases i with
     | zero=>simp at hy hu;subst hy hu;exact h
     | succ i=>exact h1 i y u (by simpa using hy) (by simpa using hu)
   . cases i with
     | zero=>simp at hi
     | succ i=>exact h2 i (by simpa using hi)
   . cases i with
     | zero=>simp only at hb;simp [hb]
     | succ i=>have:=h3 i b hb;simp [this]
   . obtain ⟨n1,n2,n3⟩:=Kan.1 hn;obtain ⟨k1,k2⟩:=h4 n2;refine ⟨fun i=>?_,fun i j hij b hb hb'=>?_⟩
     . cases i with
       | zero=>exact n1
       | succ i=>exact k1 i
     . cases i with
       | zero =>
         cases j with
         | zero=>exact hij rfl
         | succ j=>exact n3 b hb b (h3 j b hb') rfl
       | succ i =>
         cases j with
         | zero=>exact n3 b hb' b (h3 i b hb) rfl
         | succ j=>exact k2 i j (fun h=>hij (by rw [h])) b hb hb'
section
variable {cx:Cx} {w w':World} {F F' F0 F1:Nat->Prop} {ρ ρ':Rho} {fp fp' fp1:Fp} {X X' f f' f1 f2 fa:List Nat} {st st' st1:St} {a:Act} {o:Oper} {tm:Nat->Value} {v:IV}
theorem RA.freed {x u} (h:RA cx w F ρ st x u f) (hx:x.free=true) {lk}:Qdk cx w F ρ' st' lk x u f:=by
 have one:∀ {x u f},RC cx w F ρ st Qsy x u f->x.free1=true->x.isD=true->RC cx w F ρ' st' lk x u f:=by
  intro x u f hx hf hd;rcases hx with ⟨hx,rfl⟩ | hx
  . cases x with
    | fn g caps =>
      have:caps=[]:=by simpa [IV.free1] using hf
      subst this;obtain ⟨cvs,h1,h2⟩:=hx;obtain ⟨rfl,_⟩:=h2.nil_inv;exact .inl ⟨⟨[],h1,.nil⟩,rfl⟩
    | bptr l k c=>simp [IV.free1] at hf
    | _=>first | exact hx.elim | simp [IV.isD] at hd
  . exact .inr hx
 obtain ⟨h1,h2⟩:=h;cases x with
 | agg cs =>
   obtain ⟨C,rfl,hc⟩:=h1;exact ⟨C,rfl,hc.mono fun z v f _ hz hm=>one hz (Kaj.1 hx z hm) (Kaj.1 h2 z hm)⟩
 | sc u=>exact one h1 hx h2
 | lst e es c=>exact one h1 hx h2
 | own e es=>exact one h1 hx h2
 | bptr l k c=>exact one h1 hx h2
 | fn g cs=>exact one h1 hx h2
 | _=>simp [IV.isA,IV.isD] at h2
theorem Qk5 {lk u}:Qa6 cx w F ρ st lk .un u []:=rfl
theorem Qn8 {ys:List IV} {us:List Value} {R:IV->Value->List Nat->Prop} (hc:Cat R ys us fa) {M:List Qad} (hR:∀ x v f,R x v f->Qa6 cx w F0 ρ' (Qbp ys M) (look (Qbp ys M) (Qeh us) ρ' w) x v f) :
 ∃ φ:Nat->List Nat,(∀ s,Qa6 cx w F0 ρ' (Qbp ys M) (look (Qbp ys M) (Qeh us) ρ' w) (Qav (Qbp ys M).T s) (Qeh us s) (φ s))/\(∀ i,∀ b ∈ φ i,b ∈ fa)/\(fa.Nodup->(∀ i,(φ i).Nodup)/\∀ i j,i ≠ j->∀ b ∈ φ i,b ∉ φ j):=by
 obtain ⟨φ,h1,h2,h3,h4⟩:=hc.fps;refine ⟨φ,fun s=>?_,h3,h4⟩;rw [Jfu];have hl:=hc.len;rcases Kbw s ys.length with hs | hs
 . have e1:ys[s]? = some ys[s]:=Kag hs;have hs':s < us.length:=by omega
   have e2:us[s]? = some us[s]:=Kag hs';have:=hR _ _ _ (h1 s _ _ e1 e2);rw [e1];simp only [Kdf,Qeh,Kad,e2];exact this
 . rw [Kar hs,h2 s hs];exact Qk5
theorem Rel.enterP (h:Rel cx w F ρ fp (fa++X) st tm) {b:Bool} {ys:List IV} {us:List Value} (hc:Cat (RA cx w (Qeg F fp b) ρ st) ys us fa) (hf:ys.all IV.free=true) :
 ∃ fp0:Fp,Rel cx w (Qeg F fp b) ρ fp0 [] (Qbp ys []) (Qeh us)/\∀ r,∀ k ∈ fp0 r,k ∈ fa:=by
 have hX:=Kan.1 h.xnodup;have hc':Cat (fun x v f=>RA cx w (Qeg F fp b) ρ st x v f/\x.free=true) ys us fa:=hc.mono fun x v f _ hx hm=>⟨hx,Kaj.1 hf x hm⟩;obtain ⟨φ,k1,k2,k3⟩:=Qn8 (cx:=cx) (w:=w) (F0:=Qeg F fp b) (ρ':=ρ) (M:=[]) hc' (fun x v f hx=>Qdi (hx.1.freed hx.2));obtain ⟨k4,k5⟩:=k3 hX.1;have hbox:∀ l k,(Qbp ys []).box l k=none:=fun l k=>by simp [St.box,Qbp]
 have hfa:∀ k ∈ fa,k ∈ fa++X:=fun k hk=>by simp [hk]
 refine ⟨(fun r=>match r with | .S s=>φ s | .B ..=>[]),⟨k1,fun l k cs hb=>(by rw [hbox] at hb;cases hb),fun _ _ _=>rfl,fun r=>?_,fun r r' hr k hk hk'=>?_,fun r k hk=>?_,fun r k hk=>?_,fun k hk=>?_,.nil,fun _ _ _=>(by simp),fun _ h=>(by simp at h),fun _ h=>(by simp at h)⟩,fun r k hk=>?_⟩
 . cases r with
   | S s=>exact k4 s
   | B l k=>exact .nil
 . cases r with
   | B l k=>cases hk
   | S s =>
     cases r' with
     | B l k=>cases hk'
     | S s'=>exact k5 s s' (fun hc=>hr (by rw [hc])) k hk hk'
 . cases r with
   | B l k=>cases hk
   | S s =>
     intro hF;rcases hF with hF | ⟨_,r,hr⟩
     . exact h.xF k (hfa k (k2 s k hk)) hF
     . exact h.xdisj r k hr (hfa k (k2 s k hk))
 . cases r with
   | B l k=>cases hk
   | S s=>exact h.xlt k (hfa k (k2 s k hk))
 . rcases hk with hk | ⟨_,r,hr⟩
   . exact h.Flt k hk
   . exact h.lt r k hr
 . cases r with
   | B l k=>cases hk
   | S s=>exact k2 s k hk
end
end Go.Idl
namespace Go.Idl
open Go
def IV.isRet:IV->Bool
 | .tup vs=>vs.all IV.isA
 | x=>x.isA
def BackV (w:World) (F:Nat->Prop) (v:Value):IV->List Nat->Prop
 | .agg cs,f=>∃ C:Array Value,v=.agg C/\RDs w F cs C.toList f
 | y,f=>RDs w F [y] [v] f
def Qtz (w:World) (F:Nat->Prop) (vs:List Value):List Nat->List IV->List Nat->Prop
 | [],[],f=>f=[]
 | i::ls,y::ys,f=>∃ f1 f2,f=f1++f2/\BackV w F (vs.getD i undef) y f1/\Qtz w F vs ls ys f2
 | _,_,_=>False
def Qb4 (r:Ret):St:={ T:=[(0,r.v)],loc:=r.exp,M:=r.M }
def Qqf (v':Value):Nat->Value:=fun s=>if s=0 then v' else undef
def Qfp (cx:Cx) (w:World) (F:Nat->Prop) (ρ:Rho) (fp:Fp) (M:List Qad) (lent:List Nat) (vs:List Value) (r:Ret) (e:Ending) (w':World):Prop :=
 ∃ v' F' ρ' fp' Xb,e=.returned v'/\Rel cx w' F' ρ' fp' Xb (Qb4 r) (Qqf v')/\Ext w F ρ fp [] (fun l k=>(({ T:=[],loc:=[],M:=M }:St).box l k).isSome=true) w' F' ρ' fp' Xb /\
   r.M.map List.length=M.map List.length/\Qtz w' F' vs lent r.back Xb/\r.v.isRet=true/\r.exp.all (·.all IV.isData)=true
def Qef (P:Program) (f:FuncId):Prop:=∃ fn,P.funcs[f]? = some fn/\(fn.name == "runtime.NumGoroutine")=false/\fn.body.isNone=false
def Qcn (cx:Cx) (cf:CF):Prop:=∀ f lent args M r,cf f lent args M=some r->Qef cx.P (cx.fid f)/\∀ w F ρ fp vs,vs.length=args.length->Rel cx w F ρ fp [] (Qbp args M) (Qeh vs) ->
 Calls cx.P (cx.fid f) vs.toArray w (Qfp cx w F ρ fp M lent vs r)
section
variable {cx:Cx} {w w':World} {F F' F0 F1:Nat->Prop} {ρ ρ':Rho} {fp fp' fp1:Fp} {X X' f f' f1 f2 fa:List Nat} {st st' st1:St} {a:Act} {o:Oper} {tm:Nat->Value} {v:IV}
theorem RC.nobox {lk lk' x u} (h:RC cx w F ρ st lk x u f) (hb:∀ l k,st.box l k=none) (hd:x.isD=true) (hF:(∀ b,F b->F' b) \/ Qbl [x]=true):RC cx w F' ρ' st' lk' x u f:=by
 rcases h with ⟨h,rfl⟩ | h
 . cases x with
   | bptr l k c=>have:=h.2;rw [hb] at this;cases this
   | fn g caps =>
     obtain ⟨cvs,h1,h2⟩:=h;cases caps with
     | nil=>obtain ⟨rfl,_⟩:=h2.nil_inv;exact .inl ⟨⟨[],h1,.nil⟩,rfl⟩
     | cons c cs =>
       generalize hq:([]:List Nat)=q at h2;cases h2 with
       | cons hc t =>
         obtain ⟨hc,_⟩:=hc;cases c with
         | bptr l k c=>have:=hc.2;rw [hb] at this;cases this
         | _=>exact hc.elim
   | _=>first | exact h.elim | simp [IV.isD] at hd
 . rcases hF with hF | hF
   . exact .inr (h.frame (fun _ _=>rfl) (fun _ _=>rfl) hF)
   . exact .inr (h.noLst hF)
theorem Qdk.nobox {lk lk' x u} (h:Qdk cx w F ρ st lk x u f) (hb:∀ l k,st.box l k=none) (hd:x.isA=true) (hF:(∀ b,F b->F' b) \/ Qcr x=true):Qdk cx w F' ρ' st' lk' x u f:=by
 have one:∀ {z:IV},Qcr z=true->Qbl [z]=true:=fun hz=>by simp [Qbl,hz]
 cases x with
 | agg cs =>
   obtain ⟨C,rfl,hc⟩:=h;refine ⟨C,rfl,hc.mono fun z v f _ hz hm=>hz.nobox hb (Kaj.1 hd z hm) (hF.imp id fun hn=>one ?_)⟩;have:∀ {l:List IV},Qbl l=true->∀ z ∈ l,Qcr z=true:=by
    intro l
    induction l with
    | nil=>simp
    | cons y l ih =>
      intro hl z hz;simp only [Qbl,Kac] at hl;rcases Kaf.1 hz with rfl | hz
      . exact hl.1
      . exact ih hl.2 z hz
   exact this (by simpa [Qcr] using hn) z hm
 | sc u=>exact RC.nobox (x:=.sc u) h hb hd (hF.imp id one)
 | lst e es c=>exact RC.nobox (x:=.lst e es c) h hb hd (hF.imp id one)
 | own e es=>exact RC.nobox (x:=.own e es) h hb hd (hF.imp id one)
 | bptr l k c=>exact RC.nobox (x:=.bptr l k c) h hb hd (hF.imp id one)
 | fn g cs=>exact RC.nobox (x:=.fn g cs) h hb hd (hF.imp id one)
 | _=>simp [IV.isA,IV.isD] at hd
theorem Qa6.nobox {lk lk' x u} (h:Qa6 cx w F ρ st lk x u f) (hb:∀ l k,st.box l k=none) (hd:x.isRet=true) (hF:(∀ b,F b->F' b) \/ Qcr x=true):Qa6 cx w F' ρ' st' lk' x u f:=by
 cases x with
 | tup vs =>
   obtain ⟨C,rfl,hc⟩:=h;refine ⟨C,rfl,hc.mono fun z v f _ hz hm=>hz.nobox hb (Kaj.1 hd z hm) (hF.imp id fun hn=>?_)⟩;have:∀ {l:List IV},Qbl l=true->∀ z ∈ l,Qcr z=true:=by
    intro l
    induction l with
    | nil=>simp
    | cons y l ih =>
      intro hl z hz;simp only [Qbl,Kac] at hl;rcases Kaf.1 hz with rfl | hz
      . exact hl.1
      . exact ih hl.2 z hz
   exact this (by simpa [Qcr] using hn) z hm
 | un=>simp [IV.isRet,IV.isA,IV.isD] at hd
 | _=>exact Qdi (Qdk.nobox h hb hd hF)
theorem Jcl {cf:CF} (hcf:Qcn cx cf) (h:Rel cx w F ρ fp (fa++X) st tm) {b:Bool} {ys:List IV} {us:List Value} (hc:Cat (RA cx w (Qeg F fp b) ρ st) ys us fa) (hf:ys.all IV.free=true) {g:Lab}
 (hr:cf g [] ys []=some ⟨v,[],[],[]⟩) (hb:b=true->Qcr v=true) :
 Calls cx.P (cx.fid g) us.toArray w (fun e w'=>∃ v' F' fv,e=.returned v'/\Rel cx w' F' ρ fp (fv++X) st tm/\Qa6 cx w' F' ρ st (look st tm ρ w') v v' fv/\v.isRet=true /\
  (∀ ex,Ext w F ρ fp (fa++X) ex w' F' ρ fp (fv++X))/\Tr w F ρ st (look st tm ρ w) w' F' ρ st (look st tm ρ w') (fun _ _ _=>True)):=by
 obtain ⟨fp0,h0,hfp0⟩:=h.enterP hc hf;refine ((hcf g [] ys [] _ hr).2 w _ ρ fp0 us hc.len.symm h0).mono ?_;rintro e w' ⟨v',F',ρ',fp',Xb,rfl,q1,q2,q3,q4,q5,-⟩;have hXb:Xb=[]:=q4;subst hXb;have hX:=Kan.1 h.xnodup;have hfaX:∀ k ∈ fa,k ∈ fa++X:=fun k hk=>by simp [hk]
 have hXX:∀ k ∈ X,k ∈ fa++X:=fun k hk=>by simp [hk]
 have hkeep:∀ k,k < w.heap.size->k ∉ fa++X->w'.heap[k]? = w.heap[k]?:=fun k hk hn=>q2.keep k hk (fun r hr=>hn (hfaX k (hfp0 r k hr))) (by simp);obtain ⟨g1,gtr⟩:=h.grow hkeep q2.size (Y:=[]) .nil (by simp);have hFF:∀ k,F k->F' k:=fun k hk=>q2.Fm k (.inl hk)
 let F'':Nat->Prop:=fun k=>F k \/ (b=false/\F' k)
 have hF''F':∀ k,F'' k->F' k:=fun k hk=>hk.elim (hFF k) (·.2);have hFn:∀ k,b=false->F' k->F k \/ k ∈ fa \/ w.heap.size<=k:=fun k hb0 hk=>by
  rcases q2.Fn k hk with h1 | ⟨r,h1⟩ | h1 | h1
  . rcases h1 with h1 | ⟨h1,_⟩
    . exact .inl h1
    . rw [hb0] at h1;cases h1
  . exact .inr (.inl (hfp0 r k h1))
  . cases h1
  . exact .inr (.inr h1)
 have hfv:∀ k ∈ fp' (.S 0),k ∈ fa \/ w.heap.size<=k:=fun k hk=>by
  rcases q2.fpn _ k hk with ⟨r,h1⟩ | h1 | h1
  . exact .inl (hfp0 r k h1)
  . cases h1
  . exact .inr h1
 have g2:Rel cx w' F'' ρ fp (fp' (.S 0)++X) st tm:=by
  refine g1.reX (fun _ h=>.inl h) (fun r k hk hF=>?_) (fun k hk=>q1.Flt k (hF''F' k hk)) ?_ (fun r k hk hx=>?_) (fun k hk hF=>?_) (fun k hk=>?_)
  . rcases hF with hF | ⟨hb0,hF⟩
    . exact h.notF r k hk hF
    . rcases hFn k hb0 hF with h1 | h1 | h1
      . exact h.notF r k hk h1
      . exact h.xdisj r k hk (hfaX k h1)
      . have:=h.lt r k hk;omega
  . rw [Kan];refine ⟨q1.nodup _,hX.2.1,fun x hx y hy hxy=>?_⟩;subst hxy;rcases hfv x hx with h1 | h1
    . exact hX.2.2 x h1 x hy rfl
    . have:=h.xlt x (hXX x hy);omega
  . rcases Kah.1 hx with hx | hx
    . rcases hfv k hx with h1 | h1
      . exact h.xdisj r k hk (hfaX k h1)
      . have:=h.lt r k hk;omega
    . exact h.xdisj r k hk (hXX k hx)
  . rcases Kah.1 hk with hk | hk
    . exact q1.notF _ k hk (hF''F' k hF)
    . rcases hF with hF | ⟨hb0,hF⟩
      . exact h.xF k (hXX k hk) hF
      . rcases hFn k hb0 hF with h1 | h1 | h1
        . exact h.xF k (hXX k hk) h1
        . exact hX.2.2 k h1 k hk rfl
        . have:=h.xlt k (hXX k hk);omega
  . rcases Kah.1 hk with hk | hk
    . exact q1.lt _ k hk
    . have:=h.xlt k (hXX k hk);have:=q2.size;omega
 have hbox:∀ l k,(Qb4 ⟨v,[],[],[]⟩).box l k=none:=fun l k=>by
  simp [St.box,Qb4]
 have hs:=q1.slots 0;have hs':Qa6 cx w' F' ρ' (Qb4 ⟨v,[],[],[]⟩) (look (Qb4 ⟨v,[],[],[]⟩) (Qqf v') ρ' w') v v' (fp' (.S 0)):=hs;refine ⟨v',F'',fp' (.S 0),rfl,g2,hs'.nobox hbox q5 ?_,q5,fun ex=>⟨q2.size,fun k hk hr hx=>hkeep k hk hx,fun r k hk=>.inl ⟨r,hk⟩,fun k hk=>?_,fun k hk=>.inl hk,fun k hk=>?_,fun _ _ _=>rfl,q2.env⟩,?_⟩
 . cases hb0:b with
   | true=>exact .inr (hb hb0)
   | false=>exact .inl (fun k hk=>.inr ⟨hb0,hk⟩)
 . rcases Kah.1 hk with hk | hk
   . rcases hfv k hk with h1 | h1
     . exact .inr (.inl (hfaX k h1))
     . exact .inr (.inr h1)
   . exact .inr (.inl (hXX k hk))
 . rcases hk with hk | ⟨hb0,hk⟩
   . exact .inl hk
   . rcases hFn k hb0 hk with h1 | h1 | h1
     . exact .inl h1
     . exact .inr (.inr (.inl (hfaX k h1)))
     . exact .inr (.inr (.inr h1))
 . exact ⟨gtr.ref,gtr.fz,fun k hk=>.inl hk,gtr.bx⟩
end
end Go.Idl
namespace Go.Idl
open Go
theorem Qle (st:St) (ys:List IV) (l k:Nat):(Qbp ys (st.M++[st.loc])).box l k=st.box l k:=by
 unfold St.box Qbp;simp only [Kbu,Kbc,Kci,Nat.zero_add];by_cases h1:l=st.M.length
 . subst h1;rw [if_neg (by omega),if_pos rfl];simp
 . rw [if_neg h1];by_cases h2:l=st.M.length+1
   . subst h2;rw [if_pos rfl];rw [Kar (show st.M.length<=st.M.length+1 by omega)];simp
   . rw [if_neg h2];rcases Kbw l st.M.length with h3 | h3
     . rw [Kba h3]
     . rw [Kar (by simp;omega),Kar h3]
section
variable {cx:Cx} {w w':World} {F F' F0 F1:Nat->Prop} {ρ ρ':Rho} {fp fp' fp1:Fp} {X X' f f' f1 f2 fa:List Nat} {st st' st1:St} {a:Act} {o:Oper} {tm:Nat->Value} {v:IV}
theorem Rel.enterB (h:Rel cx w F ρ fp (fa++X) st tm) {ys:List IV} {us:List Value} (hc:Cat (RA cx w F ρ st) ys us fa) :
 ∃ fp0:Fp,Rel cx w F ρ fp0 [] (Qbp ys (st.M++[st.loc])) (Qeh us)/\(∀ s,∀ k ∈ fp0 (.S s),k ∈ fa)/\(∀ l k,fp0 (.B l k)=fp (.B l k)):=by
 have hX:=Kan.1 h.xnodup;have hbx:=Qle st ys;obtain ⟨φ,k1,k2,k3⟩:=Qn8 (cx:=cx) (w:=w) (F0:=F) (ρ':=ρ) (M:=st.M++[st.loc]) hc (fun x v f hx=>Qdi (hx.frame (fun _ _=>rfl) (fun _ _=>rfl) (fun _ h=>h) (fun l k hb=>⟨rfl,by rw [hbx];exact hb⟩)));obtain ⟨k4,k5⟩:=k3 hX.1;have hfa:∀ k ∈ fa,k ∈ fa++X:=fun k hk=>by simp [hk]
 have tr:Tr w F ρ st (look st tm ρ w) w F ρ (Qbp ys (st.M++[st.loc])) (fun _ _=>none) (fun _ _ _=>False):=⟨fun _ _ _ h=>h.elim,fun _ _=>rfl,fun _ h=>h,fun l k hb=>⟨rfl,by rw [hbx];exact hb⟩⟩;refine ⟨(fun r=>match r with | .S s=>φ s | .B l k=>fp (.B l k)),⟨k1,fun l k cs hb=>?_,fun l k hb=>?_,fun r=>?_,fun r r' hr k hk hk'=>?_,fun r k hk=>?_,fun r k hk=>?_,h.Flt,.nil,fun _ _ _=>(by simp),fun _ h=>(by simp at h),fun _ h=>(by simp at h)⟩,fun s k hk=>k2 s k hk,fun _ _=>rfl⟩
 . rw [hbx] at hb;obtain ⟨C,ty,f0,q1,q2,q3⟩:=h.boxes l k cs hb;refine ⟨C,ty,f0,q1,q2,q3.mono fun x v f _ hx _=>hx.tr tr (fun _ _=>rfl)⟩
 . rw [hbx] at hb;exact h.nobox l k hb
 . cases r with
   | S s=>exact k4 s
   | B l k=>exact h.nodup _
 . cases r with
   | B l q =>
     cases r' with
     | B l' q'=>exact h.disj _ _ hr k hk hk'
     | S s'=>exact h.xdisj _ k hk (hfa k (k2 s' k hk'))
   | S s =>
     cases r' with
     | B l q=>exact h.xdisj _ k hk' (hfa k (k2 s k hk))
     | S s'=>exact k5 s s' (fun hc=>hr (by rw [hc])) k hk hk'
 . cases r with
   | B l q=>exact h.notF _ k hk
   | S s=>exact h.xF k (hfa k (k2 s k hk))
 . cases r with
   | B l q=>exact h.lt _ k hk
   | S s=>exact h.xlt k (hfa k (k2 s k hk))
def Qm1 (L n:Nat) (l k:Nat):Nat×Nat:=if l=L/\n<=k then (L+1,k - n) else (l,k)
theorem Jcj {r:Ret} {L:Nat} {loc:Qad} (hM:r.M.getLast? = some loc) (hl:r.M.length=L+1) (l k:Nat) (T:Tm) :
 ({ T:=T,loc:=loc++r.exp,M:=r.M.dropLast }:St).box l k=if l<=L then (Qb4 r).box (Qm1 L loc.length l k).1 (Qm1 L loc.length l k).2 else none:=by
 have hdl:r.M.dropLast.length=L:=by simp [hl]
 have hMe:r.M=r.M.dropLast++[loc]:=by
  have hne:r.M ≠ []:=by intro h;rw [h] at hl;simp at hl
  have:=Kdm hne;rw [List.getLast?_eq_some_getLast hne] at hM;simp only [Kaa] at hM;rw [hM] at this;exact this.symm
 unfold St.box Qb4 Qm1;simp only [hdl,hl];by_cases h1:l=L
 . subst h1;simp only [if_true,Kam,Kfe];by_cases h2:loc.length<=k
   . rw [if_pos h2];simp only [if_true];rw [Kat h2]
   . rw [if_neg h2];simp only;rw [if_neg (by omega),Kba (by omega)];have:r.M[l]? = some loc:=by
      rw [hMe,Kat (by omega)];simp [hdl]
     rw [this]
 . have h1':¬ (l=L/\loc.length<=k):=fun h=>h1 h.1;simp only [if_neg h1,if_neg h1'];by_cases h3:l<=L
   . rw [if_pos h3,if_neg (by omega)];have:r.M[l]? = r.M.dropLast[l]?:=by
      conv=>lhs;rw [hMe]
      rw [Kba (by omega)]
     rw [this]
   . rw [if_neg h3,Kar (by omega)]
end
end Go.Idl
namespace Go.Idl
open Go
def Jmq (L n:Nat):Qad->IV->Option IV
 | [],v=>some v
 | [_],.bptr l 0 c=>if l=L+1 then some (.bptr L n c) else none
 | _,_=>none
section
variable {cx:Cx} {w w':World} {F F' F0 F1:Nat->Prop} {ρ ρ':Rho} {fp fp' fp1:Fp} {X X' f f' f1 f2 fa:List Nat} {st st' st1:St} {a:Act} {o:Oper} {tm:Nat->Value} {v:IV}
theorem Qa6.ret {lk lk' x u} (h:Qa6 cx w F ρ st lk x u f) (hd:x.isRet=true) (hb:∀ l k,(st.box l k).isSome=true->ρ' l k=ρ l k/\(st'.box l k).isSome=true):Qa6 cx w F ρ' st' lk' x u f:=by
 have ht:Tr w F ρ st lk w F ρ' st' lk' (fun _ _ _=>False):=⟨fun _ _ _ h=>h.elim,fun _ _=>rfl,fun _ h=>h,hb⟩;have comp:∀ {z u g},Qdk cx w F ρ st lk z u g->z.isA=true->Qdk cx w F ρ' st' lk' z u g:=by
  intro z u g hz hd;cases z with
  | agg cs =>
    obtain ⟨C,rfl,hc⟩:=hz;refine ⟨C,rfl,hc.mono fun y v f _ hy hm=>hy.tr ht (fun r c p hr=>?_) (fun _ _=>rfl)⟩;have:=Kaj.1 hd y hm;cases y <;> simp_all [Qby,IV.isD]
  | sc u=>exact RC.tr (x:=.sc u) ht hz (fun r c p hr=>by simp [Qby] at hr) (fun _ _=>rfl)
  | lst e es c=>exact RC.tr (x:=.lst e es c) ht hz (fun r c p hr=>by simp [Qby] at hr) (fun _ _=>rfl)
  | own e es=>exact RC.tr (x:=.own e es) ht hz (fun r c p hr=>by simp [Qby] at hr) (fun _ _=>rfl)
  | bptr l k c=>exact RC.tr (x:=.bptr l k c) ht hz (fun r c p hr=>by simp [Qby] at hr) (fun _ _=>rfl)
  | fn g cs=>exact RC.tr (x:=.fn g cs) ht hz (fun r c p hr=>by simp [Qby] at hr) (fun _ _=>rfl)
  | _=>simp [IV.isA,IV.isD] at hd
 cases x with
 | tup vs =>
   obtain ⟨C,rfl,hc⟩:=h;exact ⟨C,rfl,hc.mono fun z v f _ hz hm=>comp hz (Kaj.1 hd z hm)⟩
 | un=>simp [IV.isRet,IV.isA,IV.isD] at hd
 | _=>exact Qdi (comp h hd)
theorem Qj7.lv {l x u} (h:Qj7 cx w F ρ st l x u f) (hb:∀ l' k',l'<=l->(st.box l' k').isSome=true->ρ' l' k'=ρ l' k'/\(st'.box l' k').isSome=true):Qj7 cx w F ρ' st' l x u f:=by
 rcases h with ⟨h,h2,h3,h4⟩ | h
 . refine .inl ⟨?_,h2,h3,h4⟩;cases x with
   | bptr l' k c =>
     obtain ⟨h5,h6⟩:=h;have hl:l'<=l:=by simp [IV.lvl] at h2;omega
     obtain ⟨k1,k2⟩:=hb l' k hl h6;exact ⟨by rw [k1];exact h5,k2⟩
   | fn g caps =>
     obtain ⟨cvs,h5,h6⟩:=h;refine ⟨cvs,h5,h6.mono fun z v f _ hz hm=>⟨?_,hz.2⟩⟩;have hz2:=Kaj.1 h2 z hm;cases z with
     | bptr l' k c =>
       obtain ⟨⟨h5,h6⟩,_⟩:=hz;have hl:l'<=l:=by simp at hz2;omega
       obtain ⟨k1,k2⟩:=hb l' k hl h6;exact ⟨by rw [k1];exact h5,k2⟩
     | _=>exact hz.1.elim
   | _=>simp at h3
 . exact .inr h
theorem Qj7.data {l l' x u} (h:Qj7 cx w F ρ st l x u f) (hx:x.isData=true):Qj7 cx w F ρ' st' l' x u f:=by
 rcases h with ⟨h,_⟩ | h
 . cases x <;> first | (simp [IV.isData] at hx;done) | exact h.elim
 . exact .inr h
end
end Go.Idl
namespace Go.Idl
open Go
section
variable {cx:Cx} {w w':World} {F F' F0 F1:Nat->Prop} {ρ ρ':Rho} {fp fp' fp1:Fp} {X X' f f' f1 f2 fa:List Nat} {st st' st1:St} {a:Act} {o:Oper} {tm:Nat->Value} {v:IV}
def Qcz (st:St) (r:Ret) (loc:Qad):St:={ T:=Qc0 st.T,loc:=loc++r.exp,M:=r.M.dropLast }
theorem Jk0 {cf:CF} (hcf:Qcn cx cf) (h:Rel cx w F ρ fp (fa++X) st tm) {ys:List IV} {us:List Value} (hc:Cat (RA cx w F ρ st) ys us fa) {g:Lab} {lent:List Nat} {r:Ret} {loc:Qad} {v2:IV}
 (hr:cf g lent ys (st.M++[st.loc])=some r) (hgl:r.M.getLast? = some loc) (hlen:r.M.length=st.M.length+1) (hv:Jmq st.M.length loc.length r.exp r.v=some v2) :
 Calls cx.P (cx.fid g) us.toArray w (fun e w'=>∃ v' F' ρ2 fp2 Xb fv,e=.returned v'/\Rel cx w' F' ρ2 fp2 (fv++(Xb++X)) (Qcz st r loc) tm/\(∀ s,fp2 (.S s)=fp (.S s)) /\
  Qa6 cx w' F' ρ2 (Qcz st r loc) (look (Qcz st r loc) tm ρ2 w') v2 v' fv/\v2.isRet=true/\Qtz w' F' us lent r.back Xb/\Ext w F ρ fp (fa++X) (exB st) w' F' ρ2 fp2 (fv++(Xb++X))/\Qbf st (Qcz st r loc)):=by
 obtain ⟨fp0,h0,hfp0,hfp0B⟩:=h.enterB hc;refine ((hcf g lent ys _ _ hr).2 w _ ρ fp0 us hc.len.symm h0).mono ?_;rintro e w' ⟨v',F',ρ',fp',Xb,rfl,q1,q2,q3,q4,q5,q6⟩;have hX:=Kan.1 h.xnodup;have hfaX:∀ k ∈ fa,k ∈ fa++X:=fun k hk=>by simp [hk]
 have hXX:∀ k ∈ X,k ∈ fa++X:=fun k hk=>by simp [hk]
 have hM2:r.M=r.M.dropLast++[loc]:=by
  have hne:r.M ≠ []:=by intro h;rw [h] at hlen;simp at hlen
  have:=Kdm hne;rw [List.getLast?_eq_some_getLast hne] at hgl;simp only [Kaa] at hgl;rw [hgl] at this;exact this.symm
 have hdl:r.M.dropLast.length=st.M.length:=by simp [hlen]
 have hshape:r.M.dropLast.map List.length=st.M.map List.length/\loc.length=st.loc.length:=by
  rw [hM2,Kct,Kct] at q3;have:=List.append_inj q3 (by rw [Kcu,Kcu,hdl]);exact ⟨this.1,by simpa using this.2⟩
 have shp:Qbf st (Qcz st r loc):=⟨hshape.1,by simp [Qcz,hshape.2]⟩;have shp':Qbf (Qbp ys (st.M++[st.loc])) (Qb4 r):=⟨q3,by simp [Qbp,Qb4]⟩;have hbl:=fun l k=>Jcj hgl hlen l k (Qc0 st.T);have hbl':∀ l k,(Qcz st r loc).box l k=if l<=st.M.length then (Qb4 r).box (Qm1 st.M.length loc.length l k).1 (Qm1 st.M.length loc.length l k).2 else none:=hbl
 have hold:∀ l k,(st.box l k).isSome=true->Qm1 st.M.length loc.length l k=(l,k)/\l<=st.M.length/\((Qb4 r).box l k).isSome=true:=fun l k hb=>by
  have hb2:((Qb4 r).box l k).isSome=true:=shp'.box (by rw [Qle];exact hb);rw [Qh0] at hb;rcases hb with ⟨h1,h2⟩ | ⟨h1,m,h2,h3⟩
  . exact ⟨by unfold Qm1;rw [if_neg (by omega)],by omega,hb2⟩
  . have:=(Kak.1 h2).1;simp at this;exact ⟨by unfold Qm1;rw [if_neg (by omega)],by omega,hb2⟩
 let ρ2:Rho:=fun l k=>ρ' (Qm1 st.M.length loc.length l k).1 (Qm1 st.M.length loc.length l k).2
 let fp2:Fp:=fun q=>match q with
  | .S s=>fp (.S s)
  | .B l k=>if l<=st.M.length then fp' (.B (Qm1 st.M.length loc.length l k).1 (Qm1 st.M.length loc.length l k).2) else []
 have hlow:∀ l k,l<=st.M.length->((Qb4 r).box l k).isSome=true->ρ2 l k=ρ' l k/\((Qcz st r loc).box l k).isSome=true:=fun l k hl hb=>by
  have hren:Qm1 st.M.length loc.length l k=(l,k):=by
   unfold Qm1;by_cases hc:l=st.M.length/\loc.length<=k
   . exfalso;rw [hc.1] at hb;unfold St.box Qb4 at hb;simp only [hlen] at hb;rw [if_neg (by omega),hM2,Kat (by omega)] at hb;simp [hdl,Kar hc.2] at hb
   . rw [if_neg hc]
  exact ⟨by simp only [ρ2,hren],by rw [hbl',if_pos hl,hren];exact hb⟩
 have hkeep:∀ k,k < w.heap.size->k ∉ fa->(∀ l q,k ∉ fp (.B l q))->w'.heap[k]? = w.heap[k]?:=fun k hk h1 h2=>q2.keep k hk (fun q hq=>by
  cases q with
  | S s=>exact h1 (hfp0 s k hq)
  | B l q=>rw [hfp0B] at hq;exact h2 l q hq) (by simp)
 have hkS:∀ s,∀ k ∈ fp (.S s),w'.heap[k]? = w.heap[k]?:=fun s k hk=>hkeep k (h.lt _ k hk) (fun h1=>h.xdisj _ k hk (hfaX k h1)) (fun l q h1=>h.disj (.S s) (.B l q) (by intro hc;cases hc) k hk h1);have hkF:∀ k,F k->w'.heap[k]? = w.heap[k]?:=fun k hk=>hkeep k (h.Flt k hk) (fun h1=>h.xF k (hfaX k h1) hk) (fun l q h1=>h.notF _ k h1 hk);have hnew:∀ q,∀ k ∈ fp' q,k ∈ fa \/ (∃ l m,k ∈ fp (.B l m)) \/ w.heap.size<=k:=fun q k hk=>by
  rcases q2.fpn q k hk with ⟨r',h1⟩ | h1 | h1
  . cases r' with
    | S s=>exact .inl (hfp0 s k h1)
    | B l m=>rw [hfp0B] at h1;exact .inr (.inl ⟨l,m,h1⟩)
  . cases h1
  . exact .inr (.inr h1)
 have hnewX:∀ k ∈ Xb,k ∈ fa \/ (∃ l m,k ∈ fp (.B l m)) \/ w.heap.size<=k:=fun k hk=>by
  rcases q2.xn k hk with ⟨r',h1⟩ | h1 | h1
  . cases r' with
    | S s=>exact .inl (hfp0 s k h1)
    | B l m=>rw [hfp0B] at h1;exact .inr (.inl ⟨l,m,h1⟩)
  . cases h1
  . exact .inr (.inr h1)
 have hFn:∀ k,F' k->F k \/ k ∈ fa \/ (∃ l m,k ∈ fp (.B l m)) \/ w.heap.size<=k:=fun k hk=>by
  rcases q2.Fn k hk with h1 | ⟨r',h1⟩ | h1 | h1
  . exact .inl h1
  . cases r' with
    | S s=>exact .inr (.inl (hfp0 s k h1))
    | B l m=>rw [hfp0B] at h1;exact .inr (.inr (.inl ⟨l,m,h1⟩))
  . cases h1
  . exact .inr (.inr (.inr h1))
 have apS:∀ s,∀ k ∈ fp (.S s),¬ (k ∈ fa \/ (∃ l m,k ∈ fp (.B l m)) \/ w.heap.size<=k):=fun s k hk hh=>by
  rcases hh with h1 | ⟨l,m,h1⟩ | h1
  . exact h.xdisj _ k hk (hfaX k h1)
  . exact h.disj (.S s) (.B l m) (by intro hc;cases hc) k hk h1
  . have:=h.lt _ k hk;omega
 have apX:∀ k ∈ X,¬ (k ∈ fa \/ (∃ l m,k ∈ fp (.B l m)) \/ w.heap.size<=k):=fun k hk hh=>by
  rcases hh with h1 | ⟨l,m,h1⟩ | h1
  . exact hX.2.2 k h1 k hk rfl
  . exact h.xdisj _ k h1 (hXX k hk)
  . have:=h.xlt k (hXX k hk);omega
 have tr:Tr w F ρ st (look st tm ρ w) w' F' ρ2 (Qcz st r loc) (look (Qcz st r loc) tm ρ2 w') (fun r c q=>∃ x:IV,Qby x r c q/\IV.rootB x=false):=by
  refine ⟨fun q c p hlive x0 v0 e es A n cap hl hf=>?_,hkF,q2.Fm,fun l k hb=>?_⟩
  . cases q with
    | B l k =>
      obtain ⟨x,hx1,hx2⟩:=hlive;cases x <;> simp only [Qby] at hx1
      all_goals
       obtain ⟨rfl,_⟩:=hx1;simp [IV.rootB] at hx2
    | S s =>
      obtain ⟨e0,es0,rfl⟩:=Qbk hf;obtain ⟨h1,h2⟩:=Qer hl;refine ⟨_,es,Qb3 ?_ h2,h.tr_other hl hf (hkS s),Kam _⟩;simp only [Qcz,Qc0];rw [Qap];exact Qe0 Qaj.rootB h1
  . obtain ⟨k1,k2,k3⟩:=hold l k hb;have:=hlow l k k2 k3;exact ⟨this.1.trans (q2.rho l k (by show (({ T:=[],loc:=[],M:=st.M++[st.loc] }:St).box l k).isSome=true;exact (Qle st [] l k) ▸ hb)),this.2⟩
 have hval:∀ k,k ∈ fp' (.S 0)->∀ q,k ∉ fp2 q:=fun k hk q hq=>by
  cases q with
  | S s=>exact apS s k hq (hnew _ k hk)
  | B l m =>
    simp only [fp2] at hq;split at hq
    . exact q1.disj (.S 0) (.B _ _) (by intro hc;cases hc) k hk hq
    . cases hq
 have hrel:Rel cx w' F' ρ2 fp2 (fp' (.S 0)++(Xb++X)) (Qcz st r loc) tm:=by
  refine ⟨fun s=>?_,fun l k cs hb=>?_,fun l k hb=>?_,fun q=>?_,fun q q' hq k hk hk'=>?_,fun q k hk=>?_,fun q k hk=>?_,q1.Flt,?_,fun q k hk hx=>?_,fun k hk=>?_,fun k hk=>?_⟩
  . simp only [Qcz,Qc0];rw [Qap];exact (h.slots s).trk tr Qaj.rootB (Qp2 _) (hkS s)
  . rw [hbl'] at hb;split at hb;rotate_left
    . cases hb
    rename_i hl;obtain ⟨C,ty,f0,k1,k2,k3⟩:=q1.boxes _ _ cs hb;refine ⟨C,ty,f0,by simp only [fp2,if_pos hl,ρ2];exact k1,by simp only [ρ2];exact k2,k3.mono fun x v f _ hx hm=>?_⟩;by_cases hc:l=st.M.length/\loc.length<=k
    ·
     have:(Qm1 st.M.length loc.length l k)=(st.M.length+1,k - loc.length):=by unfold Qm1;rw [if_pos hc]
     rw [this] at hb;have hcs:cs ∈ r.exp:=by
      unfold St.box Qb4 at hb;simp only [hlen,if_true] at hb;exact Kbn hb
     exact hx.data (Kaj.1 (Kaj.1 q6 cs hcs) x hm)
    . have:(Qm1 st.M.length loc.length l k)=(l,k):=by unfold Qm1;rw [if_neg hc]
      rw [this] at hx;exact hx.lv (fun l' k' hl' hb'=>hlow l' k' (by omega) hb')
  . rw [hbl'] at hb;simp only [fp2];split at hb
    . rename_i hl;rw [if_pos hl];exact q1.nobox _ _ hb
    . rename_i hl;rw [if_neg hl]
  . cases q with
    | S s=>exact h.nodup _
    | B l k=>simp only [fp2];split
             . exact q1.nodup _
             . exact .nil
  . cases q with
    | S s =>
      cases q' with
      | S s'=>exact h.disj _ _ hq k hk hk'
      | B l m =>
        simp only [fp2] at hk';split at hk'
        . exact apS s k hk (hnew _ k hk')
        . cases hk'
    | B l m =>
      simp only [fp2] at hk;split at hk;rotate_left
      . cases hk
      rename_i hl;cases q' with
      | S s'=>exact apS s' k hk' (hnew _ k hk)
      | B l' m' =>
        simp only [fp2] at hk';split at hk';rotate_left
        . cases hk'
        rename_i hl';refine q1.disj _ _ (fun hc=>hq ?_) k hk hk';have e:Qm1 st.M.length loc.length l m=Qm1 st.M.length loc.length l' m':=by
         simp only [Rt.B.injEq] at hc;exact Prod.ext hc.1 hc.2
        unfold Qm1 at e;split at e <;> split at e <;> simp only [Kab] at e
        . rename_i a1 a2;rw [a1.1,a2.1,show m=m' by omega]
        . omega
        . omega
        . rw [e.1,e.2]
  . cases q with
    | S s =>
      intro hF;rcases hFn k hF with h1 | h1
      . exact h.notF _ k hk h1
      . exact apS s k hk h1
    | B l m =>
      simp only [fp2] at hk;split at hk
      . exact q1.notF _ k hk
      . cases hk
  . cases q with
    | S s=>exact Kcd (h.lt _ k hk) q2.size
    | B l m =>
      simp only [fp2] at hk;split at hk
      . exact q1.lt _ k hk
      . cases hk
  . rw [Kan];refine ⟨q1.nodup _,?_,fun x hx y hy hxy=>?_⟩
    . rw [Kan];refine ⟨q1.xnodup,hX.2.1,fun x hx y hy hxy=>?_⟩;subst hxy;exact apX x hy (hnewX x hx)
    . subst hxy;rcases Kah.1 hy with hy | hy
      . exact q1.xdisj _ x hx hy
      . exact apX x hy (hnew _ x hx)
  . rcases Kah.1 hx with hx | hx
    . exact hval k hx q hk
    . rcases Kah.1 hx with hx | hx
      . cases q with
        | S s=>exact apS s k hk (hnewX k hx)
        | B l m =>
          simp only [fp2] at hk;split at hk
          . exact q1.xdisj _ k hk hx
          . cases hk
      . cases q with
        | S s=>exact h.xdisj _ k hk (hXX k hx)
        | B l m =>
          simp only [fp2] at hk;split at hk
          . exact apX k hx (hnew _ k hk)
          . cases hk
  . rcases Kah.1 hk with hk | hk
    . exact q1.notF _ k hk
    . rcases Kah.1 hk with hk | hk
      . exact q1.xF k hk
      . intro hF;rcases hFn k hF with h1 | h1
        . exact h.xF k (hXX k hk) h1
        . exact apX k hk h1
  . rcases Kah.1 hk with hk | hk
    . exact q1.lt _ k hk
    . rcases Kah.1 hk with hk | hk
      . exact q1.xlt k hk
      . exact Kcd (h.xlt k (hXX k hk)) q2.size
 have hsl:Qa6 cx w' F' ρ' (Qb4 r) (look (Qb4 r) (Qqf v') ρ' w') r.v v' (fp' (.S 0)):=q1.slots 0;have hvr:Qa6 cx w' F' ρ2 (Qcz st r loc) (look (Qcz st r loc) tm ρ2 w') v2 v' (fp' (.S 0))/\v2.isRet=true:=by
  cases hex:r.exp with
  | nil =>
    rw [hex] at hv;simp only [Jmq,Kaa] at hv;subst hv;refine ⟨hsl.ret q5 (fun l k hb=>hlow l k ?_ hb),q5⟩;have:=hb;rw [Qh0] at this;simp only [Qb4,hex,Kci,hlen] at this;rcases this with ⟨_,h2⟩ | ⟨h1,m,h2,_⟩
    . omega
    . have:=(Kak.1 h2).1;simp [hlen] at this;omega
  | cons c0 ex =>
    rw [hex] at hv;cases ex with
    | cons _ _=>simp [Jmq] at hv
    | nil =>
      cases hrv:r.v with
      | bptr l k c =>
        rw [hrv] at hv;cases k with
        | succ k=>simp [Jmq] at hv
        | zero =>
          simp only [Jmq] at hv;split at hv;rotate_left
          . cases hv
          rename_i hl;simp only [Kaa] at hv;subst hv;rw [hrv] at hsl;rcases hsl with ⟨⟨h1,h2⟩,h3⟩ | hsl;rotate_left
          . cases hsl
          have hren:Qm1 st.M.length loc.length st.M.length loc.length=(st.M.length+1,0):=by unfold Qm1;simp
          refine ⟨.inl ⟨⟨?_,?_⟩,h3⟩,rfl⟩
          . simp only [ρ2,hren];rw [h1,hl]
          . rw [hbl',if_pos (Kam _),hren,<- hl];exact h2
      | _=>rw [hrv] at hv;simp [Jmq] at hv
 refine ⟨v',F',ρ2,fp2,Xb,fp' (.S 0),rfl,hrel,fun _=>rfl,hvr.1,hvr.2,q4,⟨q2.size,fun k hk hr hx=>hkeep k hk (fun h1=>hx (hfaX k h1)) (fun l q h1=>hr _ h1),fun q k hk=>?_,fun k hk=>?_,q2.Fm,fun k hk=>?_,fun l k hb=>(tr.bx l k hb).1,q2.env⟩,shp⟩
 . have conv:(k ∈ fa \/ (∃ l m,k ∈ fp (.B l m)) \/ w.heap.size<=k)->(∃ r',k ∈ fp r') \/ k ∈ fa++X \/ w.heap.size<=k:=fun hh=>by
    rcases hh with h1 | ⟨l,m,h1⟩ | h1
    . exact .inr (.inl (hfaX k h1))
    . exact .inl ⟨_,h1⟩
    . exact .inr (.inr h1)
   cases q with
   | S s=>exact .inl ⟨_,hk⟩
   | B l m =>
     simp only [fp2] at hk;split at hk
     . exact conv (hnew _ k hk)
     . cases hk
 . have conv:(k ∈ fa \/ (∃ l m,k ∈ fp (.B l m)) \/ w.heap.size<=k)->(∃ r',k ∈ fp r') \/ k ∈ fa++X \/ w.heap.size<=k:=fun hh=>by
    rcases hh with h1 | ⟨l,m,h1⟩ | h1
    . exact .inr (.inl (hfaX k h1))
    . exact .inl ⟨_,h1⟩
    . exact .inr (.inr h1)
   rcases Kah.1 hk with hk | hk
   . exact conv (hnew _ k hk)
   . rcases Kah.1 hk with hk | hk
     . exact conv (hnewX k hk)
     . exact .inr (.inl (hXX k hk))
 . rcases hFn k hk with h1 | h1 | ⟨l,m,h1⟩ | h1
   . exact .inl h1
   . exact .inr (.inr (.inl (hfaX k h1)))
   . exact .inr (.inl ⟨_,h1⟩)
   . exact .inr (.inr (.inr h1))
end
end Go.Idl
namespace Go.Idl
open Go
section
variable {cx:Cx} {w w':World} {F F' F0 F1:Nat->Prop} {ρ ρ':Rho} {fp fp' fp1:Fp} {X X' f f' f1 f2 fa:List Nat} {st st' st1:St} {a:Act} {o:Oper} {tm:Nat->Value} {v:IV}
theorem Qng.symm {vs us:List Value} (h:Qng vs us):Qng us vs:=by
 induction h with
 | nil=>exact .nil
 | cons h t ih=>exact .cons (h.elim (fun h=>.inl h.symm) (fun h=>.inr h.symm)) ih
theorem Jmo {cs vs us} (h:RDs w F cs vs f) (hs:Qng vs us):RDs w F cs us f:=by
 induction cs generalizing vs us f with
 | nil=>cases h;cases hs;exact .nil
 | cons x xs ih =>
   obtain ⟨v,vs,f1,f2,rfl,rfl,h1,h2⟩:=h.cons_inv;cases hs with
   | cons hv ht =>
   refine RDs.cons ?_ (ih h2 ht);rcases hv with rfl | hv
   . exact h1
   . obtain ⟨A,A',N,cap,rfl,rfl,h3⟩:=hv;cases x with
     | own e es=>exact Qqc h1 h3
     | lst e es c =>
       obtain ⟨rfl,h4 | ⟨b,o,cap1,C,ty,fr,h8,hF,hb,hd,he,hc,hn⟩⟩:=h1.lst_inv
       . obtain ⟨rfl,A0,cap0,h5,h6⟩:=h4;cases h5;exact .lst0 h6 .nil
       . cases h8;by_cases hp:0 < cap
         . have:=h3 hp;subst this;exact h1
         . have h9:es=[]:=Kfc (by omega);subst h9;exact .lst0 (fun _=>by omega) .nil
     | sc v=>cases h1 with | sc h _=>simp [Idl.isSc] at h
     | un=>exact (by have:=h1.un_nil;subst this;exact .un .nil)
     | _=>cases h1
theorem Qmq {us:List Value}:∀ {args:List (Mode×Opd)} {os:List Operand} {k:Nat} {ss:List (Nat×Nat)} {back:List IV} {Xb:List Nat} {fp:Fp} {st st2:St},(∀ i o,os[i]? = some o->us.getD (k+i) undef=a.eval o) ->
 Qmu cx args os->Qra a args os ss->Qtz w F us (Qss args k) back Xb->Rel cx w F ρ fp (Xb++X) st (Qah a)->st.lentBack ss back=some st2 ->
 ∃ fp2,Rel cx w F ρ fp2 X st2 (Qah a)/\(∀ r,∀ b ∈ fp2 r,b ∈ fp r \/ b ∈ Xb)/\st2.loc=st.loc/\st2.M=st.M
 | [],os,k,ss,back,Xb,fp,st,st2,hu,hk,hl,hb,h,hlb=>by
   cases os with
   | cons _ _=>exact hk.elim
   | nil =>
   have hss:ss=[]:=hl;subst hss;cases back with
   | cons _ _=>exact hb.elim
   | nil =>
   have hX:Xb=[]:=hb;subst hX;simp only [St.lentBack,Kaa] at hlb;subst hlb;exact ⟨fp,h,fun r b hb=>.inl hb,rfl,rfl⟩
 | (m,x)::r,os,k,ss,back,Xb,fp,st,st2,hu,hk,hl,hb,h,hlb=>by
   cases os with
   | nil=>exact hk.elim
   | cons o os =>
   have hu':∀ i o,os[i]? = some o->us.getD (k+1+i) undef=a.eval o:=fun i o2 ho=>by
    have:=hu (i+1) o2 (by simpa using ho);rw [<- this];congr 1;omega
   have skip:Qra a r os ss->Qtz w F us (Qss r (k+1)) back Xb->∃ fp2,Rel cx w F ρ fp2 X st2 (Qah a)/\(∀ r,∀ b ∈ fp2 r,b ∈ fp r \/ b ∈ Xb)/\st2.loc=st.loc/\st2.M=st.M :=
    fun hl hb=>Qmq hu' hk.2 hl hb h hlb
   cases m with
   | val=>exact skip hl hb
   | rd=>exact skip hl hb
   | rv=>exact skip hl hb
   | tk=>exact skip hl hb
   | ld =>
     obtain ⟨s,c,ss',rfl,hV,hl'⟩:=hl;cases back with
     | nil=>exact hb.elim
     | cons y ys =>
     obtain ⟨g1,g2,rfl,hR,hb'⟩:=hb;have h0:=hu 0 o (by simp);rw [Keh] at h0;rw [h0] at hR;have hXp:g1++g2++X=g1++(g2++X):=Kal ..;have fin:∀ {fpN:Fp} {st1:St},Rel cx w F ρ fpN (g2++X) st1 (Qah a)->st1.lentBack ss' ys=some st2->(∀ r,∀ b ∈ fpN r,b ∈ fp r \/ b ∈ g1)->st1.loc=st.loc->st1.M=st.M ->
      ∃ fp2,Rel cx w F ρ fp2 X st2 (Qah a)/\(∀ r,∀ b ∈ fp2 r,b ∈ fp r \/ b ∈ g1++g2)/\st2.loc=st.loc/\st2.M=st.M:=by
      intro fpN st1 hp hlb hf e1 e2;obtain ⟨fp2,q1,q2,q3,q4⟩:=Qmq hu' hk.2 hl' hb' hp hlb;refine ⟨fp2,q1,fun r b hb=>?_,q3.trans e1,q4.trans e2⟩;rcases q2 r b hb with h5 | h5
      . rcases hf r b h5 with h6 | h6
        . exact .inl h6
        . exact .inr (by simp [h6])
      . exact .inr (by simp [h5])
     have htm:∀ v,Qah a s=v->(fun q=>if q=s then v else Qah a q)=Qah a:=fun v hv=>by funext q;by_cases hq:q=s <;> simp [hq,hv]
     have hupd:∀ r,∀ b ∈ Qao fp (.S s) g1 r,b ∈ fp r \/ b ∈ g1:=fun r b hb=>by
      unfold Qao at hb;split at hb
      . exact .inr hb
      . exact .inl hb
     cases c with
     | zero =>
       simp only [St.lentBack] at hlb;split at hlb;rotate_left
       . cases hlb
       rename_i hy;have hslot:Qa6 cx w F ρ st (look st (Qah a) ρ w) y (Qah a s) g1:=by
        cases y with
        | own e es =>
          rcases hV with hV | ⟨C,D,hC,hD,hS⟩
          . exact .inr (Qk1 hR hV.symm)
          . have hR:RDs w F [.own e es] [a.eval o] g1:=hR;rw [hD] at hR;cases hR
        | agg cs =>
          obtain ⟨D,hD,hRd⟩:=hR;rcases hV with ⟨A,A',N,cap,e1,e2,e3⟩ | ⟨C,D',hC,hD',hS⟩
          . rw [hD] at e2;cases e2
          . rw [hD] at hD';cases hD';refine ⟨C,hC,(Jmo hRd hS.symm).cat⟩
        | _=>simp [IV.isBack] at hy
       have hp:=(hXp ▸ h:Rel cx w F ρ fp (g1++(g2++X)) st (Qah a)).put hslot s;rw [htm _ rfl] at hp;exact fin hp hlb hupd rfl rfl
     | succ c =>
       simp only [St.lentBack] at hlb;split at hlb;rotate_left
       . cases hlb
       rename_i hy;split at hlb;rotate_left
       . cases hlb
       rename_i cs hT;split at hlb;rotate_left
       . cases hlb
       rename_i hcu;obtain ⟨C,x,hC,hx,hS⟩:=hV;cases y with
       | own e es =>
         have hR2:RDs w F [.own e es] [x] g1:=Qk1 hR hS.symm;obtain ⟨h1,h2⟩:=h.drop s;rw [hT] at h2;obtain ⟨C2,hC2,hcat⟩:=h2;rw [hC] at hC2;cases hC2;have hcu':(cs.map (klc (IV.rooted (.S s))))[c]? = some .un:=by
          rw [Kdx,hcu];simp [klc,IV.rooted]
         obtain ⟨v,f1,g,f2,hv,hf,hx0,hput⟩:=hcat.at_ hcu'
         rw [hx] at hv;have hvx:x=v:=by simpa using hv
         subst hvx;have hg:g=[]:=by
          rcases hx0 with ⟨hx0,_⟩ | hx0
          . exact hx0.elim
          . exact hx0.un_nil
         subst hg;have hset:=hput (RC cx w F ρ { st with T:=dropSlot s st.T } (look { st with T:=dropSlot s st.T } (Qah a) ρ w)) (.own e es) x g1 (fun _ _ _ _ h=>h) (.inr hR2);rw [Qii hx] at hset;have hX:List.Perm ((f1++(g1++f2))++(g2++X)) (fp (.S s)++(g1++g2++X)):=by
          rw [hf,Kaq];have e5:f1++(g1++f2)++(g2++X)=f1++((g1++f2)++(g2++X)):=by simp
          have e6:f1++f2++(g1++g2++X)=f1++((f2++g1)++(g2++X)):=by simp
          rw [e5,e6];exact Kek f1 (Kcn _ Kcm)
         have hp:=(h1.perm hX.symm).put (v:=.agg ((cs.map (klc (IV.rooted (.S s)))).set c (.own e es))) (v':=.agg C) ⟨C,rfl,hset⟩ s;rw [htm _ hC] at hp;have htp:tput (dropSlot s st.T) s (.agg ((cs.map (klc (IV.rooted (.S s)))).set c (.own e es)))=(s,.agg ((cs.map (klc (IV.rooted (.S s)))).set c (.own e es)))::dropSlot s st.T:=by
          simp [tput,dropSlot,Qav,IV.holds]
         rw [htp] at hp;refine fin hp hlb (fun r b hb=>?_) rfl rfl;unfold Qao at hb;split at hb
         . rename_i hrs;rw [hrs,hf];simp only [Kaq,Kah] at hb |-;rcases hb with hb | hb | hb <;> simp [hb]
         . exact .inl hb
       | _=>simp [IV.isOwn] at hy
end
end Go.Idl
namespace Go.Idl
open Go
def Qla (cx:Cx) (w:World) (F:Nat->Prop) (ρ:Rho) (fp:Fp) (X:List Nat) (st:St) (a:Act) (o:Oper) (v:IV) (st':St):Prop :=
 ∃ f args,(execOp a.eval o).run cx.P w=.ok (.enter f args) w/\Calls cx.P f args w (fun e w'=>∃ v' F' ρ' fp' f',e=.returned v'/\Rel cx w' F' ρ' fp' (f'++X) st' (Qah a) /\
   Qa6 cx w' F' ρ' st' (look st' (Qah a) ρ' w') v v' f'/\Ext w F ρ fp X (exB st) w' F' ρ' fp' (f'++X)/\Qbf st st')
theorem Qtd {P:Program} {f:FuncId} (h:Qef P f) (args:Array Value) (w:World):(callFunc f args).run P w=.ok (.enter f args) w:=by
 obtain ⟨fn,h1,h2,h3⟩:=h;simp only [callFunc,Sem.run_bind,run_program,Result.andThen_ok,h1,h2,h3,Kap,Kbs,Sem.run_pure]
theorem Qqk {P:Program} {a:Act} {o:Oper} {c:Call} {y:Operand} {f:FuncId} {cvs:List Value} (h:Qef P f) (ho:o.op=.call c) (hc:c.callee=.value y) (hy:a.eval y=.func (.func f) #[] cvs.toArray) (w:World) :
 (execOp a.eval o).run P w=.ok (.enter f ((c.args.toList.map a.eval)++cvs).toArray) w:=by
 simp only [execOp,ho,resolve,hc,hy,Deferred.ofValue,Sem.run_bind,Sem.run_pure,Result.andThen_ok,invoke];rw [Qtd h];congr 2;apply Array.ext';simp
end Go.Idl
namespace Go.Idl
open Go
section
variable {cx:Cx} {w w':World} {F F' F0 F1:Nat->Prop} {ρ ρ':Rho} {fp fp' fp1:Fp} {X X' f f' f1 f2 fa:List Nat} {st st' st1:St} {a:Act} {o:Oper} {tm:Nat->Value} {v:IV}
theorem Calls.and {P:Program} {f:FuncId} {args:Array Value} {w:World} {R:Ending->World->Prop} (h:Calls P f args w R) {R':Ending->World->Prop} (hr:∀ e w,R e w->R' e w):Calls P f args w R':=h.mono hr
theorem Qqb {cf:CF} (hcf:Qcn cx cf) (h:Rel cx w F ρ fp X st (Qah a)) {c:Call} {y:Operand} {g:Lab} {args:List (Mode×Opd)} {os:List Operand} (hk:Qmu cx args os) (ho:o.op=.call c) (hc:c.callee=.value y)
 (hargs:c.args.toList=os) (hy:a.eval y=.func (.func (cx.fid g)) #[] #[]) (hev:st.callWith cf g [] args true=some (v,st')):Qla cx w F ρ fp X st a o v st':=by
 unfold St.callWith at hev;cases hA:st.args args with
 | none=>simp [hA] at hev
 | some p =>
 obtain ⟨vs,st1,fz,ss⟩:=p;simp only [hA,if_true] at hev;split at hev
 . cases hev
 rename_i hcond;simp only [List.isEmpty_nil,Bool.and_true,Kbj,Kby,not_or,Bool.not_eq_false] at hcond;obtain ⟨hnold,hfree⟩:=hcond;unfold St.args at hA;cases hA1:st.args1 args with
 | none=>simp [hA1] at hA
 | some p1 =>
 obtain ⟨mv,st2,ss2⟩:=p1;simp only [hA1] at hA;cases hA2:st2.args2 args mv with
 | none=>simp [hA2] at hA
 | some p2 =>
 obtain ⟨ys,b⟩:=p2;simp only [hA2,Kaa,Kab] at hA;obtain ⟨rfl,rfl,rfl,rfl⟩:=hA;obtain ⟨F1,fp1,fa,k1,k2,k3,k4,k5,k6,k7,k8⟩:=Qld h hk hA1;have hcat:=Qhw k1 hk k2 hA2;cases hcall:cf g [] ys [] with
 | none=>simp [hcall] at hev
 | some r =>
 obtain ⟨rv,rb,rM,re⟩:=r;have hform:rb=[]/\rM=[]/\re=[]/\v=rv/\st'=st2/\(b=true->Qcr rv=true):=by
  simp only [hcall] at hev;cases rb with
  | cons _ _=>simp at hev
  | nil =>
  cases rM with
  | cons _ _=>simp at hev
  | nil =>
  cases re with
  | cons _ _=>simp at hev
  | nil =>
  simp only at hev;cases b with
  | false=>simp at hev;exact ⟨rfl,rfl,rfl,hev.1.symm,hev.2.symm,by simp⟩
  | true =>
    simp only [if_true] at hev;split at hev
    . rename_i hn;simp only [Kaa,Kab] at hev;exact ⟨rfl,rfl,rfl,hev.1.symm,hev.2.symm,fun _=>hn⟩
    . cases hev
 obtain ⟨rfl,rfl,rfl,rfl,rfl,hnl⟩:=hform;have hent:=(hcf g [] ys [] _ hcall).1;refine ⟨cx.fid g,_,Qqk (cvs:=[]) hent ho hc hy w,?_⟩;rw [hargs,Kbb];refine (Jcl hcf k1 hcat hfree hcall hnl).mono ?_;rintro e w' ⟨v',F',fv,rfl,q1,q2,q3,q4,q5⟩;refine ⟨v',F',ρ,fp1,fv,rfl,q1,q2,?_,k7⟩;have e1:=q4 (exB st);refine ⟨e1.size,fun k hk hr hx=>e1.keep k hk (fun r h1=>hr r (k6 r k h1)) (fun h1=>?_),fun r k h1=>?_,fun k h1=>?_,fun k hk=>e1.Fm k (k3 k hk),fun k hk=>?_,e1.rho,e1.env⟩
 . rcases Kah.1 h1 with h1 | h1
   . obtain ⟨r,h2⟩:=k5 k h1;exact hr r h2
   . exact hx h1
 . exact .inl ⟨r,k6 r k h1⟩
 . rcases e1.xn k h1 with ⟨r,h2⟩ | h2 | h2
   . exact .inl ⟨r,k6 r k h2⟩
   . rcases Kah.1 h2 with h2 | h2
     . exact .inl (k5 k h2)
     . exact .inr (.inl h2)
   . exact .inr (.inr h2)
 . rcases e1.Fn k hk with h2 | ⟨r,h2⟩ | h2 | h2
   . rcases k4 k h2 with h3 | h3
     . exact .inl h3
     . exact .inr (.inl h3)
   . exact .inr (.inl ⟨r,k6 r k h2⟩)
   . rcases Kah.1 h2 with h2 | h2
     . exact .inr (.inl (k5 k h2))
     . exact .inr (.inr (.inl h2))
   . exact .inr (.inr (.inr h2))
end
end Go.Idl
namespace Go.Idl
open Go
section
variable {cx:Cx} {w w':World} {F F' F0 F1:Nat->Prop} {ρ ρ':Rho} {fp fp' fp1:Fp} {X X' f f' f1 f2 fa:List Nat} {st st' st1:St} {a:Act} {o:Oper} {tm:Nat->Value} {v:IV}
theorem Qjx {cf:CF} (hcf:Qcn cx cf) (h:Rel cx w F ρ fp X st (Qah a)) {c:Call} {y:Operand} {g:Lab} {args:List (Mode×Opd)} {os:List Operand} {caps:List IV} {cvs:List Value} (hk:Qmu cx args os) (ho:o.op=.call c)
 (hc:c.callee=.value y) (hargs:c.args.toList=os) (hy:a.eval y=.func (.func (cx.fid g)) #[] cvs.toArray) (hcaps:Cat (fun x v f=>Jcm ρ st x v/\f=[]) caps cvs [])
 (hev:st.callWith cf g caps args false=some (v,st')):Qla cx w F ρ fp X st a o v st':=by
 unfold St.callWith at hev;cases hA:st.args args with
 | none=>simp [hA] at hev
 | some p =>
 obtain ⟨vs,st1,fz,ss⟩:=p;simp only [hA,Kap,Kbs] at hev;cases fz with
 | true=>simp at hev
 | false =>
 simp only [Kap,Kbs] at hev;unfold St.args at hA;cases hA1:st.args1 args with
 | none=>simp [hA1] at hA
 | some p1 =>
 obtain ⟨mv,st2,ss2⟩:=p1;simp only [hA1] at hA;cases hA2:st2.args2 args mv with
 | none=>simp [hA2] at hA
 | some p2 =>
 obtain ⟨ys,b⟩:=p2;simp only [hA2,Kaa,Kab] at hA;obtain ⟨rfl,rfl,rfl,rfl⟩:=hA;obtain ⟨F1,fp1,fa,k1,k2,k3,k4,k5,k6,k7,k8⟩:=Qld h hk hA1;have hcat0:=Qhw k1 hk k2 hA2;have hst:∀ k,Qeg F1 fp1 false k->F1 k:=fun k hk=>hk.elim id (fun h=>by cases h.1);have hcat1:Cat (RA cx w F1 ρ st2) ys (os.map a.eval) fa:=hcat0.mono fun z v f _ hz _=>hz.more hst;have hcapR:Cat (RA cx w F1 ρ st2) caps cvs []:=hcaps.mono fun x u q _ hx _=>by
  obtain ⟨hx,rfl⟩:=hx;cases x with
  | bptr l k c=>exact ⟨.inl ⟨⟨hx.1,k7.box hx.2⟩,rfl⟩,rfl⟩
  | _=>exact hx.elim
 have hcat:=hcat1.app hcapR;rw [Kbb] at hcat;cases hcall:cf g (Qss args 0) (ys++caps) (st2.M++[st2.loc]) with
 | none=>simp [hcall] at hev
 | some r =>
 obtain ⟨rv,rb,rM,re⟩:=r;simp only [hcall] at hev;cases hgl:rM.getLast? with
 | none=>simp [hgl] at hev
 | some loc =>
 simp only [hgl] at hev;split at hev;rotate_left
 . cases hev
 rename_i hlen;split at hev;rotate_left
 . cases hev
 rename_i st3 hlb;have hv:Jmq st2.M.length loc.length re rv=some v/\st'=st3:=by
  cases re with
  | nil =>
    simp only [Kaa,Kab] at hev;exact ⟨by simp [Jmq,hev.1],hev.2.symm⟩
  | cons c0 re =>
    cases re with
    | cons _ _=>simp at hev
    | nil =>
      cases rv with
      | bptr l k c =>
        cases k with
        | succ k=>simp at hev
        | zero =>
          simp only at hev;split at hev
          . rename_i hl;simp only [Kaa,Kab] at hev;exact ⟨by simp [Jmq,hl,hev.1],hev.2.symm⟩
          . cases hev
      | _=>simp at hev
 obtain ⟨hv,rfl⟩:=hv;have hent:=(hcf g _ (ys++caps) _ _ hcall).1;refine ⟨cx.fid g,_,Qqk hent ho hc hy w,?_⟩;rw [hargs];refine (Jk0 hcf k1 hcat hcall hgl hlen hv).mono ?_;rintro e w' ⟨v',F',ρ2,fp2,Xb,fv,rfl,q1,q2,q3,q4,q5,q6,q7⟩;have hos:∀ i o2,os[i]? = some o2->(os.map a.eval++cvs).getD (0+i) undef=a.eval o2:=fun i o2 hi=>by
  have hlt:i < os.length:=(Kak.1 hi).1;rw [Nat.zero_add,Kad,Kba (by simpa using hlt)];simp [hi]
 have q1':Rel cx w' F' ρ2 fp2 (Xb++(fv++X)) (Qcz st2 ⟨rv,rb,rM,re⟩ loc) (Qah a):=q1.perm (by
  rw [<- Kal,<- Kal];exact Kcn X Kcm)
 obtain ⟨fp3,p1,p2,p3,p4⟩:=Qmq hos hk k8 q5 q1' hlb;have hbx:∀ l k,st'.box l k=(Qcz st2 ⟨rv,rb,rM,re⟩ loc).box l k:=fun l k=>by unfold St.box;rw [p3,p4]
 refine ⟨v',F',ρ2,fp3,fv,rfl,p1,q3.ret q4 (fun l k hb=>⟨rfl,by rw [hbx];exact hb⟩),?_,?_⟩
 . refine ⟨q6.size,fun k hk hr hx=>q6.keep k hk (fun r h1=>hr r (k6 r k h1)) (fun h1=>?_),fun r k h1=>?_,fun k h1=>?_,fun k hk=>q6.Fm k (k3 k hk),fun k hk=>?_,fun l k hb=>q6.rho l k (k7.box hb),q6.env⟩
   . rcases Kah.1 h1 with h1 | h1
     . obtain ⟨r,h2⟩:=k5 k h1;exact hr r h2
     . exact hx h1
   . have conv:((∃ r',k ∈ fp1 r') \/ k ∈ fa++X \/ w.heap.size<=k)->(∃ r',k ∈ fp r') \/ k ∈ X \/ w.heap.size<=k:=fun hh=>by
      rcases hh with ⟨r,h2⟩ | h2 | h2
      . exact .inl ⟨r,k6 r k h2⟩
      . rcases Kah.1 h2 with h2 | h2
        . exact .inl (k5 k h2)
        . exact .inr (.inl h2)
      . exact .inr (.inr h2)
     rcases p2 r k h1 with h2 | h2
     . exact conv (q6.fpn r k h2)
     . exact conv (q6.xn k (by simp [h2]))
   . have conv:((∃ r',k ∈ fp1 r') \/ k ∈ fa++X \/ w.heap.size<=k)->(∃ r',k ∈ fp r') \/ k ∈ X \/ w.heap.size<=k:=fun hh=>by
      rcases hh with ⟨r,h2⟩ | h2 | h2
      . exact .inl ⟨r,k6 r k h2⟩
      . rcases Kah.1 h2 with h2 | h2
        . exact .inl (k5 k h2)
        . exact .inr (.inl h2)
      . exact .inr (.inr h2)
     exact conv (q6.xn k (by
      rcases Kah.1 h1 with h1 | h1
      . simp [h1]
      . simp [h1]))
   . rcases q6.Fn k hk with h2 | ⟨r,h2⟩ | h2 | h2
     . rcases k4 k h2 with h3 | h3
       . exact .inl h3
       . exact .inr (.inl h3)
     . exact .inr (.inl ⟨r,k6 r k h2⟩)
     . rcases Kah.1 h2 with h2 | h2
       . exact .inr (.inl (k5 k h2))
       . exact .inr (.inr (.inl h2))
     . exact .inr (.inr (.inr h2))
 . refine k7.trans (q7.trans ⟨by rw [p4],by rw [p3];exact Kam _⟩)
end
end Go.Idl
namespace Go.Idl
open Go
section
variable {cx:Cx} {w w':World} {F F' F0 F1:Nat->Prop} {ρ ρ':Rho} {fp fp' fp1:Fp} {X X' f f' f1 f2 fa:List Nat} {st st' st1:St} {a:Act} {o:Oper} {tm:Nat->Value} {v:IV}
theorem Qgo {lk} {x:IV} {u:Value} (h:RC cx w F ρ st lk x u f) (hd:x.isData=true):RDs w F [x] [u] f:=by
 rcases h with ⟨h,_⟩ | h
 . cases x <;> first | (simp [IV.isData] at hd;done) | exact h.elim
 . exact h
theorem RA.lv {L:Nat} {lk} {x:IV} {u:Value} (h:RA cx w F ρ st x u f) (hx:x.okLvl L=true) (hb:∀ l k,l < L->(st.box l k).isSome=true->ρ' l k=ρ l k/\(st'.box l k).isSome=true):Qdk cx w F ρ' st' lk x u f:=by
 obtain ⟨h,hA⟩:=h;cases x with
 | agg cs =>
   obtain ⟨C,rfl,hc⟩:=h;refine ⟨C,rfl,hc.mono fun x v f _ hz hm=>.inr (Qgo hz ?_)⟩;exact Kaj.1 hx x hm
 | sc u=>exact .inr (Qgo h rfl)
 | lst e es c=>exact .inr (Qgo h rfl)
 | own e es=>exact .inr (Qgo h rfl)
 | bptr l k c =>
   rcases h with ⟨⟨h1,h2⟩,h3⟩ | h
   . have hl:l < L:=by simpa [IV.okLvl,IV.lvl] using hx
     obtain ⟨k1,k2⟩:=hb l k hl h2;exact .inl ⟨⟨by rw [k1];exact h1,k2⟩,h3⟩
   . cases h
 | fn g caps =>
   rcases h with ⟨⟨cvs,h1,h2⟩,h3⟩ | h
   . refine .inl ⟨⟨cvs,h1,h2.mono fun z v f _ hz hm=>⟨?_,hz.2⟩⟩,h3⟩;have hz2:=Kaj.1 hx z hm;cases z with
     | bptr l' k c =>
       obtain ⟨⟨h5,h6⟩,_⟩:=hz;have hl:l' < L:=by simpa using hz2
       obtain ⟨k1,k2⟩:=hb l' k hl h6;exact ⟨by rw [k1];exact h5,k2⟩
     | _=>exact hz.1.elim
   . cases h
 | _=>simp [IV.isA,IV.isD] at hA
end
end Go.Idl
namespace Go.Idl
open Go
section
variable {cx:Cx} {w w':World} {F F' F0 F1:Nat->Prop} {ρ ρ':Rho} {fp fp' fp1:Fp} {X X' f f' f1 f2 fa:List Nat} {st st' st1:St} {a:Act} {o:Oper} {tm:Nat->Value} {v:IV}
end
end Go.Idl
namespace Go.Idl
open Go
def vEq1:Value->Value->Bool
 | .int k n,.int k' n'=>decide (k=k') && decide (n=n')
 | .bool b,.bool b'=>b == b'
 | .string s,.string s'=>decide (s.data.toList=s'.data.toList)
 | .nilFunc,.nilFunc=>true
 | .slice none a b,.slice none a' b'=>decide (a=a') && decide (b=b')
 | .pointer none,.pointer none=>true
 | _,_=>false
theorem Jfx {u v:Value} (h:vEq1 u v=true):u=v:=by
 unfold vEq1 at h;split at h
 . simp only [Kac,Kai] at h;rw [h.1,h.2]
 . simp only [Kbt] at h;rw [h]
 . simp only [Kai] at h;rename_i s s';congr 1;obtain ⟨⟨a⟩⟩:=s;obtain ⟨⟨b⟩⟩:=s';simp only at h;rw [h]
 . rfl
 . simp only [Kac,Kai] at h;rw [h.1,h.2]
 . rfl
 . cases h
def vEqs:List Value->List Value->Bool
 | [],[]=>true
 | u::us,v::vs=>vEq1 u v && vEqs us vs
 | _,_=>false
theorem Qqv:∀ {us vs:List Value},vEqs us vs=true->us=vs
 | [],[],_=>rfl
 | u::us,v::vs,h=>by
   simp only [vEqs,Kac] at h;rw [Jfx h.1,Qqv h.2]
 | [],_::_,h=>by cases h
 | _::_,[],h=>by cases h
def vEq:Value->Value->Bool
 | .agg C,.agg D=>vEqs C.toList D.toList
 | .tuple C,.tuple D=>vEqs C.toList D.toList
 | u,v=>vEq1 u v
theorem Jfy {u v:Value} (h:vEq u v=true):u=v:=by
 unfold vEq at h;split at h
 . rw [Array.toList_inj.1 (Qqv h)]
 . rw [Array.toList_inj.1 (Qqv h)]
 . exact Jfx h
def Qc9 (cx:Cx):Operand->Opd->Bool
 | .tmp t,.t s=>t == s
 | .const v,.c u=>vEq v u
 | .func f,.f l=>cx.fid l == f
 | _,_=>false
theorem Qag {cx:Cx} {o:Operand} {x:Opd} (h:Qc9 cx o x=true):Qaz cx o x:=by
 unfold Qc9 at h;split at h
 . simpa [Qaz] using h
 . exact Jfy h
 . simpa [Qaz] using h
 . cases h
end Go.Idl
namespace Go.Idl
open Go
def Qnh (P:Program) (t:TypeId) (e:Nat):Bool:=match P.info? t with | some i=>i.size == e | none=>false
theorem Qd1 {P t e} (h:Qnh P t e=true):Qdu P t e:=by
 unfold Qnh at h;split at h
 . exact ⟨_,‹_›,by simpa using h⟩
 . cases h
def Qt3 (P:Program) (t:TypeId) (z:List Value):Bool:=match P.info? t with
 | some i=>match i.zero with
   | some v=>vEqs v.cells.toList z
   | none=>false
 | none=>false
theorem Qgj {P t z} (h:Qt3 P t z=true):Qj5 P t z:=by
 unfold Qt3 at h;split at h
 . split at h
   . exact ⟨_,_,‹_›,‹_›,Qqv h⟩
   . cases h
 . cases h
def isAggD:TypeDesc->Bool
 | .struct _ | .array _ _=>true
 | _=>false
def bAgg (P:Program) (t:TypeId) (b:Bool):Bool:=match P.underlying t with | some d=>isAggD d == b | none=>false
theorem Jch {P t b} (h:bAgg P t b=true):Qyr P t b:=by
 unfold bAgg at h;split at h
 . rename_i d hd;refine ⟨d,hd,?_⟩;simp only [Kbt] at h;rw [<- h];cases d <;> rfl
 . cases h
def Qt2 (cx:Cx):Option Operand->Option Opd->Bool
 | none,none=>true
 | some o,some x=>Qc9 cx o x
 | _,_=>false
theorem Qhy {cx:Cx} {o:Option Operand} {x:Option Opd} (h:Qt2 cx o x=true):Qg4 cx o x:=by
 cases o <;> cases x <;> simp only [Qt2] at h
 . trivial
 . cases h
 . cases h
 . exact Qag h
def Jci (cx:Cx):List (Mode×Opd)->List Operand->Bool
 | [],[]=>true
 | (_,x)::r,o::os=>Qc9 cx o x && Jci cx r os
 | _,_=>false
theorem Qkp {cx:Cx}:∀ {l:List (Mode×Opd)} {os:List Operand},Jci cx l os=true->Qmu cx l os
 | [],[],_=>trivial
 | (_,x)::r,o::os,h=>by
   simp only [Jci,Kac] at h;exact ⟨Qag h.1,Qkp h.2⟩
 | [],_::_,h=>by cases h
 | _::_,[],h=>by cases h
def Qo3 (cx:Cx):List (Nat×Operand)->List (Nat×Opd)->Bool
 | [],[]=>true
 | (i,o)::r,(j,x)::s=>i == j && Qc9 cx o x && Qo3 cx r s
 | _,_=>false
theorem Qn9 {cx:Cx}:∀ {l:List (Nat×Operand)} {s:List (Nat×Opd)},Qo3 cx l s=true->Qk0 cx l s
 | [],[],_=>trivial
 | (i,o)::r,(j,x)::s,h=>by
   simp only [Qo3,Kac,Kbt] at h;exact ⟨h.1.1,Qag h.1.2,Qn9 h.2⟩
 | [],_::_,h=>by cases h
 | _::_,[],h=>by cases h
def Qwk (cx:Cx) (places:List (Nat×Nat)):List (Nat×Operand)->List (Nat×Nat×Opd)->Bool
 | [],[]=>true
 | (i,o)::r,(off,sz,x)::s=>decide (places[i]? = some (off,sz)) && Qc9 cx o x && Qwk cx places r s
 | _,_=>false
theorem Qre {cx:Cx} {places:List (Nat×Nat)}:∀ {l:List (Nat×Operand)} {s:List (Nat×Nat×Opd)},Qwk cx places l s=true->Qje cx (places.toArray[·]?) l s
 | [],[],_=>trivial
 | (i,o)::r,(off,sz,x)::s,h=>by
   simp only [Qwk,Kac,Kai] at h;exact ⟨by simpa using h.1.1,Qag h.1.2,Qre h.2⟩
 | [],_::_,h=>by cases h
 | _::_,[],h=>by cases h
def Jky (cx:Cx):List Operand->List Opd->Bool
 | [],[]=>true
 | o::os,x::xs=>Qc9 cx o x && Jky cx os xs
 | _,_=>false
theorem Qwj {cx:Cx}:∀ {os:List Operand} {xs:List Opd},Jky cx os xs=true->xs.length=os.length/\∀ (i:Nat) (x:Opd) (y:Operand),xs[i]? = some x->os[i]? = some y->Qaz cx y x
 | [],[],_=>⟨rfl,by simp⟩
 | o::os,x::xs,h=>by
   simp only [Jky,Kac] at h;obtain ⟨h1,h2⟩:=Qwj h.2;refine ⟨by simp [h1],fun i x' y hx hy=>?_⟩;cases i with
   | zero=>simp at hx hy;subst hx hy;exact Qag h.1
   | succ i=>exact h2 i x' y (by simpa using hx) (by simpa using hy)
 | [],_::_,h=>by cases h
 | _::_,[],h=>by cases h
end Go.Idl
namespace Go.Idl
open Go
def Qo4 (cx:Cx) (size:Nat):List (Nat×Operand)->List (Nat×Nat×Opd)->Bool
 | [],[]=>true
 | (i,o)::r,(off,sz,x)::s=>off == i * size && sz == size && Qc9 cx o x && Qo4 cx size r s
 | _,_=>false
theorem Qoa {cx:Cx} {size:Nat}:∀ {l:List (Nat×Operand)} {s:List (Nat×Nat×Opd)},Qo4 cx size l s=true->Qje cx (fun i=>some (i * size,size)) l s
 | [],[],_=>trivial
 | (i,o)::r,(off,sz,x)::s,h=>by
   simp only [Qo4,Kac,Kbt] at h;obtain ⟨⟨⟨h1,h2⟩,h3⟩,h4⟩:=h;subst h1 h2;exact ⟨rfl,Qag h3,Qoa h4⟩
 | [],_::_,h=>by cases h
 | _::_,[],h=>by cases h
def Jpd (cx:Cx) (t:TypeId) (z:List Value) (rp:Array (Nat×Operand)) (parts:List (Nat×Nat×Opd)):Bool:=Qt3 cx.P t z && match cx.P.underlying t with
 | some (.struct fields)=>match fields.toList.mapM (fun f=>(cx.P.info? f.type).map fun i=>(f.offset,i.size)) with
   | some places=>Qwk cx places rp.toList parts
   | none=>false
 | some (.array _ el)=>match cx.P.info? el with
   | some inf=>Qo4 cx inf.size rp.toList parts
   | none=>false
 | _=>false
def Qt1 (P:Program) (t:TypeId) (i off:Nat):Bool:=match P.underlying t with
 | some (.struct fields)=>match fields[i]? with
   | some fd=>match P.info? fd.type with
     | some inf=>fd.offset == off && decide (0 < inf.size) && (P.underlying fd.type).isSome
     | none=>false
   | none=>false
 | _=>false
theorem Qys {P t i off} (h:Qt1 P t i off=true):∃ sz ag,Jdj P t i off sz ag/\0 < sz:=by
 unfold Qt1 at h;split at h
 . split at h
   . split at h
     . rename_i inf hinf;simp only [Kac,Kbt,Kai] at h;obtain ⟨d,hd⟩:=Option.isSome_iff_exists.1 h.2;exact ⟨inf.size,_,⟨_,_,‹_›,‹_›,h.1.1,⟨inf,hinf,rfl⟩,⟨d,hd,rfl⟩⟩,h.1.2⟩
     . cases h
   . cases h
 . cases h
def Jrn (P:Program) (t:TypeId) (i:Int) (off:Nat):Bool:=match P.underlying t with
 | some (.array n el)=>match P.info? el with
   | some inf=>decide (0<=i) && decide (i < n) && off == i.toNat * inf.size
   | none=>false
 | _=>false
theorem Jkw {P t i off} (h:Jrn P t i off=true):∃ n el sz,P.underlying t=some (.array n el)/\Qdu P el sz/\0<=i/\i < (n:Int)/\off=i.toNat * sz:=by
 unfold Jrn at h;split at h
 . split at h
   . rename_i inf hinf;simp only [Kac,Kbt,Kai] at h;exact ⟨_,_,inf.size,‹_›,⟨inf,hinf,rfl⟩,h.1.1,h.1.2,h.2⟩
   . cases h
 . cases h
end Go.Idl
namespace Go.Idl
open Go
def Qgi (P:Program):List Field->Nat->Bool
 | [],_=>true
 | f::fs,i=>f.name != "_" && f.offset == i && (match P.underlying f.type with | some (.int _)=>true | _=>false) && Qgi P fs (i+1)
theorem Qhx {P:Program}:∀ {fs:List Field} {i:Nat},Qgi P fs i=true->Qid P fs i
 | [],_,_=>trivial
 | f::fs,i,h=>by
   simp only [Qgi,Kac,bne_iff_ne,ne_eq,Kbt] at h;obtain ⟨⟨⟨h1,h2⟩,h3⟩,h4⟩:=h;refine ⟨h1,h2,?_,Qhx h4⟩;split at h3
   . exact ⟨_,‹_›⟩
   . cases h3
def bEqa (P:Program) (t:TypeId) (n:Nat):Bool:=(match P.underlying t with
 | some (.struct fs)=>Qgi P fs.toList 0 && fs.size == n
 | _=>false) && !P.stoodInHeld t && !P.eqGuardType P.depth t
theorem Jro {P t n} (h:bEqa P t n=true):Jsa P t n:=by
 unfold bEqa at h;simp only [Kac,Kby] at h;obtain ⟨⟨h1,h2⟩,h3⟩:=h;split at h1
 . simp only [Kac,Kbt] at h1;exact ⟨_,‹_›,Qhx h1.1,h1.2,h2,h3⟩
 . cases h1
end Go.Idl
