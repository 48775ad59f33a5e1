/- Part 2 of a proof by an ideal interpreter of the code: its definitions and lemmas. Conditions: none. -/
import Derived.Orders
import Derived.Test.YtglgfefngeknhaaGreatDoorA1
set_option linter.all false
set_option linter.unusedVariables false
set_option linter.unusedSimpArgs false
namespace Go.Idl
open Go
def Qb2 (P:Program) (t:TypeId) (k:TypeId->Bool):Bool:=match P.underlying t with
 | some (.slice e)=>k e
 | _=>false
def Qzn (P:Program) (t:TypeId):Bool:=match P.underlying t with
 | some .string=>true
 | _=>false
def bOp (cx:Cx) (o:Oper):K->Bool
 | .mv x | .mvo _ x | .asg x | .asgm x=>match o.op with
   | .move y | .assign y=>Qc9 cx y x
   | _=>false
 | .nilo _=>match o.op with
   | .move (.const v) | .assign (.const v)=>vEq v (.slice none 0 0)
   | _=>false
 | .clr x z=>match o.op with
   | .call ⟨.builtin .clear,⟨[x']⟩,⟨[t]⟩⟩=>(Qb2 cx.P t fun el=>Qt3 cx.P el z) && Qc9 cx x' x
   | _=>false
 | .pick c a b=>match o.op with
   | .pick c' a' b'=>Qc9 cx c' c && Qc9 cx a' a && Qc9 cx b' b
   | _=>false
 | .alloc z=>match o.op with
   | .alloc t=>Qt3 cx.P t z
   | _=>false
 | .box x=>match o.op with
   | .box _ y=>Qc9 cx y x
   | _=>false
 | .build z parts=>match o.op with
   | .build t rp=>Jpd cx t z rp parts
   | _=>false
 | .bsl e z len parts=>match o.op with
   | .buildSlice t len' rp=>len == len' && Qb2 cx.P t fun el=>Qt3 cx.P el z && Qnh cx.P el e && z.length == e && decide (len * e<=16777216) && Qo3 cx rp.toList parts
   | _=>false
 | .load ag sz a=>match o.op with
   | .load t y=>Qnh cx.P t sz && bAgg cx.P t ag && Qc9 cx y a
   | _=>false
 | .storef sz a x=>match o.op with
   | .store t a' x'=>Qnh cx.P t sz && Qc9 cx a' a && Qc9 cx x' x
   | _=>false
 | .store sz a x=>match o.op with
   | .store t a' x'=>Qnh cx.P t sz && Qc9 cx a' a && Qc9 cx x' x
   | _=>false
 | .nilck x=>match o.op with
   | .nilCheck y=>Qc9 cx y x
   | _=>false
 | .bin op x y=>match o.op with
   | .binOp op' _ x' y' _=>decide (op=op') && Qc9 cx x' x && Qc9 cx y' y
   | _=>false
 | .eqa neg n x y=>match o.op with
   | .binOp op' t x' y' _=>decide (op'=if neg then .neq else .eql) && bEqa cx.P t n && Qc9 cx x' x && Qc9 cx y' y
   | _=>false
 | .unop op x=>match o.op with
   | .unOp op' _ x'=>decide (op=op') && Qc9 cx x' x
   | _=>false
 | .strb x=>match o.op with
   | .convert s d x'=>(Qb2 cx.P s fun el=>match cx.P.underlying el with | some (.int .u8)=>true | _=>false) && Qzn cx.P d && Qc9 cx x' x
   | _=>false
 | .conv k x=>match o.op with
   | .convert s d x'=>(cx.P.underlying s).isSome && (match cx.P.underlying d with | some (.int k')=>decide (k=k') | _=>false) && Qc9 cx x' x
   | _=>false
 | .mkfn f caps=>match o.op with
   | .makeFunc (.func g) first caps'=>cx.fid f == g && first.isEmpty && Jky cx caps'.toList caps
   | _=>false
 | .mksl e z l c=>match o.op with
   | .makeSlice t l' c'=>(Qb2 cx.P t fun el=>Qt3 cx.P el z && Qnh cx.P el e && z.length == e && (match cx.P.info? el with | some i=>decide (i.bytes<=1024) | none=>false)) && Qc9 cx l' l && Qc9 cx c' c
   | _=>false
 | .slc e x lo hi mx=>match o.op with
   | .slice t x' lo' hi' mx'=>(Qb2 cx.P t fun el=>Qnh cx.P el e) && Qc9 cx x' x && Qt2 cx lo' lo && Qt2 cx hi' hi && Qt2 cx mx' mx && (!mx.isSome || hi.isSome)
   | _=>false
 | .slcs x lo hi=>match o.op with
   | .slice t x' lo' hi' none=>Qzn cx.P t && Qc9 cx x' x && Qt2 cx lo' lo && Qt2 cx hi' hi
   | _=>false
 | .fadr off x=>match o.op with
   | .fieldAddr t x' i=>Qt1 cx.P t i off && Qc9 cx x' x
   | .indexAddr t x' (.const (.int _ i))=>Jrn cx.P t i off && Qc9 cx x' x
   | _=>false
 | .iadr e x i=>match o.op with
   | .indexAddr t x' i'=>(Qb2 cx.P t fun el=>Qnh cx.P el e) && Qc9 cx x' x && Qc9 cx i' i
   | _=>false
 | .idxs x i=>match o.op with
   | .index t x' i'=>Qzn cx.P t && Qc9 cx x' x && Qc9 cx i' i
   | _=>false
 | .extr x i=>match o.op with
   | .extract x' j=>i == j && Qc9 cx x' x
   | _=>false
 | .call f args _=>match o.op with
   | .call c=>match c.callee with
     | .value (.func g)=>cx.fid f == g && Jci cx args c.args.toList
     | _=>false
   | _=>false
 | .callv f args=>match o.op with
   | .call c=>match c.callee with
     | .value y=>Qc9 cx y f && Jci cx args c.args.toList
     | _=>false
   | _=>false
 | .len x=>match o.op with
   | .call ⟨.builtin .len,⟨[x']⟩,⟨[t]⟩⟩=>(Qb2 cx.P t fun _=>true) && Qc9 cx x' x
   | _=>false
 | .lens x=>match o.op with
   | .call ⟨.builtin .len,⟨[x']⟩,⟨[t]⟩⟩=>Qzn cx.P t && Qc9 cx x' x
   | _=>false
 | .app e x y=>match o.op with
   | .call ⟨.builtin .append,⟨[x',y']⟩,⟨[t,t']⟩⟩=>(Qb2 cx.P t fun el=>match cx.P.info? el with
      | some i=>i.size == e && decide (i.bytes<=256) && (match i.zero with | some z=>z.cells.size == i.size | none=>false)
      | none=>false) && (Qb2 cx.P t' fun _=>true) && Qc9 cx x' x && Qc9 cx y' y
   | _=>false
 | .minmax mn x y=>match o.op with
   | .call ⟨.builtin b,⟨[x',y']⟩,_⟩=>(match mn,b with | true,.min=>true | false,.max=>true | _,_=>false) && Qc9 cx x' x && Qc9 cx y' y
   | _=>false
 | .halt=>true
end Go.Idl
namespace Go.Idl
open Go
inductive Cls where
 | reg | ld | oth
 deriving DecidableEq
def K.cls:K->Cls
 | .mv _ | .nilo _ | .pick .. | .nilck _ | .bin .. | .eqa .. | .unop .. | .conv .. | .mkfn .. | .slc .. | .slcs .. | .fadr .. | .iadr .. | .idxs .. | .len _ | .lens _ | .minmax ..=>.reg
 | .load .. | .strb _=>.ld
 | _=>.oth
def OpRes (cx:Cx) (w:World) (F:Nat->Prop) (ρ:Rho) (fp:Fp) (X:List Nat) (st:St) (a:Act) (o:Oper) (v:IV) (st':St):Cls->Prop
 | .reg=>OpQ cx w F ρ fp X st a o v st'
 | .ld=>OpL cx w F ρ fp X st a o v st'
 | .oth=>Qb8 cx w F ρ fp X st a o v st' \/ Qla cx w F ρ fp X st a o v st'
section
variable {cx:Cx} {w:World} {F:Nat->Prop} {ρ:Rho} {fp:Fp} {X:List Nat} {st st':St} {a:Act} {o:Oper} {v:IV} {cf:CF}
theorem Qbe {P:Program} {t:TypeId} {k:TypeId->Bool} (h:Qb2 P t k=true):∃ e,P.underlying t=some (.slice e)/\k e=true:=by
 unfold Qb2 at h;split at h
 . exact ⟨_,‹_›,h⟩
 . cases h
theorem Qkx {P:Program} {t:TypeId} (h:Qzn P t=true):P.underlying t=some .string:=by
 unfold Qzn at h;split at h
 . assumption
 . cases h
theorem res_mv (h:Rel cx w F ρ fp X st (Qah a)) {x:Opd} (hb:bOp cx o (.mv x)=true) (hev:ev cf st (.mv x)=some (v,st')):OpQ cx w F ρ fp X st a o v st':=by
 simp only [ev,Kaa,Kab] at hev;obtain ⟨rfl,rfl⟩:=hev;simp only [bOp] at hb;split at hb
 . exact Jpq h (Qag hb) (.inl ‹_›)
 . exact Jpq h (Qag hb) (.inr ‹_›)
 . cases hb
theorem Jm2 (h:Rel cx w F ρ fp X st (Qah a)) {e:Nat} (hb:bOp cx o (.nilo e)=true) (hev:ev cf st (.nilo e)=some (v,st')):OpQ cx w F ρ fp X st a o v st':=by
 simp only [ev,Kaa,Kab] at hev;obtain ⟨rfl,rfl⟩:=hev;have key:∀ u,vEq u (.slice none 0 0)=true->(o.op=.move (.const u) \/ o.op=.assign (.const u))->OpQ cx w F ρ fp X st a o (.own e []) st:=by
  intro u hu ho;have:=Jfy hu;subst this;refine OpQ.pure h (v':=.slice none 0 0) ?_ (.inr (.own0 .nil));intro w' _;rcases ho with ho | ho <;> simp [execOp,ho,Act.eval]
 simp only [bOp] at hb;split at hb
 . exact key _ hb (.inl ‹_›)
 . exact key _ hb (.inr ‹_›)
 . cases hb
theorem Jtl (h:Rel cx w F ρ fp X st (Qah a)) {e:Nat} {x:Opd} (hb:bOp cx o (.mvo e x)=true) (hev:ev cf st (.mvo e x)=some (v,st')):Qb8 cx w F ρ fp X st a o v st':=by
 simp only [ev,Kaa,Kab] at hev;obtain ⟨rfl,rfl⟩:=hev;have key:∀ y,Qaz cx y x->(o.op=.move y \/ o.op=.assign y)->Qb8 cx w F ρ fp X st a o (ownZ e (rd st.T x)) st:=by
  intro y hx ho;have hr:=Qa0 h hx;refine OpQ.out h (OpQ.pure h (v':=a.eval y) (fun w' _=>by rcases ho with ho | ho <;> simp [execOp,ho]) ?_);unfold ownZ;split
  . rename_i e0 hq;rw [hq] at hr;rcases hr with ⟨hr,_⟩ | hr
    . exact hr.elim
    . obtain ⟨-,h1 | ⟨b,o',cap,C,ty,fr,h8,hF,hb,hd,he,hc,hn⟩⟩:=hr.lst_inv
      . obtain ⟨-,A,cap,h2,h3⟩:=h1;rw [h2,h3 rfl];exact .inr (.own0 .nil)
      . have:=hc rfl;simp only [Kci] at this h8;rw [h8,this];exact .inr (.own0 .nil)
  . exact hr
 simp only [bOp] at hb;split at hb
 . exact key _ (Qag hb) (.inl ‹_›)
 . exact key _ (Qag hb) (.inr ‹_›)
 . cases hb
theorem Jte (h:Rel cx w F ρ fp X st (Qah a)) {x:Opd} (hb:bOp cx o (.asg x)=true) (hev:ev cf st (.asg x)=some (v,st')):Qb8 cx w F ρ fp X st a o v st':=by
 simp only [ev,Kaa,Kab] at hev;obtain ⟨rfl,rfl⟩:=hev;simp only [bOp] at hb;split at hb
 . exact Jeh h (Qag hb) (.inl ‹_›)
 . exact Jeh h (Qag hb) (.inr ‹_›)
 . cases hb
theorem Jmr (h:Rel cx w F ρ fp X st (Qah a)) {x:Opd} (hb:bOp cx o (.asgm x)=true) (hev:ev cf st (.asgm x)=some (v,st')):Qb8 cx w F ρ fp X st a o v st':=by
 simp only [bOp] at hb;split at hb
 . exact Qxv h (Qag hb) (.inl ‹_›) hev
 . exact Qxv h (Qag hb) (.inr ‹_›) hev
 . cases hb
theorem Jm3 (h:Rel cx w F ρ fp X st (Qah a)) {c x y:Opd} (hb:bOp cx o (.pick c x y)=true) (hev:ev cf st (.pick c x y)=some (v,st')):OpQ cx w F ρ fp X st a o v st':=by
 simp only [ev] at hev;split at hev
 . rename_i t ht;simp only [Kaa,Kab] at hev;obtain ⟨rfl,rfl⟩:=hev;simp only [bOp] at hb;split at hb
   . simp only [Kac] at hb;exact Jmd h (Qag hb.1.1) (Qag hb.1.2) (Qag hb.2) ‹_› ht
   . cases hb
 . cases hev
theorem Je7 (h:Rel cx w F ρ fp X st (Qah a)) {x:Opd} (hb:bOp cx o (.nilck x)=true) (hev:ev cf st (.nilck x)=some (v,st')):OpQ cx w F ρ fp X st a o v st':=by
 simp only [bOp] at hb;split at hb
 . rename_i y ho;simp only [ev] at hev;split at hev
   . rename_i hX;simp only [Kaa,Kab] at hev;obtain ⟨rfl,rfl⟩:=hev;rw [<- hX];exact Qmx h (Qag hb) ho (.inl ⟨_,_,_,hX⟩)
   . rename_i hX;simp only [Kaa,Kab] at hev;obtain ⟨rfl,rfl⟩:=hev;rw [<- hX];exact Qmx h (Qag hb) ho (.inr (.inl ⟨_,_,_,_,_,hX⟩))
   . rename_i hX;simp only [Kaa,Kab] at hev;obtain ⟨rfl,rfl⟩:=hev;rw [<- hX];exact Qmx h (Qag hb) ho (.inr (.inr ⟨_,_,hX⟩))
   . cases hev
 . cases hb
theorem Jtf (h:Rel cx w F ρ fp X st (Qah a)) {op:BinOp} {x y:Opd} (hb:bOp cx o (.bin op x y)=true) (hev:ev cf st (.bin op x y)=some (v,st')):OpQ cx w F ρ fp X st a o v st':=by
 simp only [bOp] at hb;split at hb
 . simp only [Kac,Kai] at hb;obtain ⟨⟨rfl,h1⟩,h2⟩:=hb;simp only [ev] at hev;split at hev
   . simp only [Kaa,Kab] at hev;obtain ⟨rfl,rfl⟩:=hev;exact Js0 h (Qag h1) (Qag h2) ‹_› ‹_›
   . cases hev
 . cases hb
theorem Jtj (h:Rel cx w F ρ fp X st (Qah a)) {neg:Bool} {n:Nat} {x y:Opd} (hb:bOp cx o (.eqa neg n x y)=true) (hev:ev cf st (.eqa neg n x y)=some (v,st')):OpQ cx w F ρ fp X st a o v st':=by
 simp only [bOp] at hb;split at hb
 . simp only [Kac,Kai] at hb;obtain ⟨⟨⟨rfl,ht⟩,h1⟩,h2⟩:=hb;exact Js4 h (Qag h1) (Qag h2) ‹_› (Jro ht) hev
 . cases hb
theorem Jm6 (h:Rel cx w F ρ fp X st (Qah a)) {op:UnOp} {x:Opd} (hb:bOp cx o (.unop op x)=true) (hev:ev cf st (.unop op x)=some (v,st')):OpQ cx w F ρ fp X st a o v st':=by
 simp only [bOp] at hb;split at hb
 . simp only [Kac,Kai] at hb;obtain ⟨rfl,h1⟩:=hb;simp only [ev] at hev;split at hev
   . rename_i u hu;split at hev
     . rename_i z hz;split at hev
       . rename_i hs;simp only [Kaa,Kab] at hev;obtain ⟨rfl,rfl⟩:=hev;exact Jmg h (Qag h1) ‹_› hu hz hs
       . cases hev
     . cases hev
   . cases hev
 . cases hb
theorem Jmt (h:Rel cx w F ρ fp X st (Qah a)) {k:IntKind} {x:Opd} (hb:bOp cx o (.conv k x)=true) (hev:ev cf st (.conv k x)=some (v,st')):OpQ cx w F ρ fp X st a o v st':=by
 simp only [bOp] at hb;split at hb
 . simp only [Kac] at hb;obtain ⟨⟨h0,h1⟩,h2⟩:=hb;simp only [ev] at hev;split at hev
   . rename_i hn;simp only [Kaa,Kab] at hev;obtain ⟨rfl,rfl⟩:=hev;split at h1
     . rename_i k' hk;simp only [Kai] at h1;subst h1;exact Jl4 h (Qag h2) ‹_› h0 hk hn
     . cases h1
   . cases hev
 . cases hb
theorem Jm0 (h:Rel cx w F ρ fp X st (Qah a)) {f:Lab} {caps:List Opd} (hb:bOp cx o (.mkfn f caps)=true) (hev:ev cf st (.mkfn f caps)=some (v,st')):OpQ cx w F ρ fp X st a o v st':=by
 simp only [bOp] at hb;split at hb
 . rename_i g first caps' ho
   simp only [Kac,Kbt] at hb;obtain ⟨⟨hg,hf⟩,hc⟩:=hb;subst hg;have hf':first=#[]:=by simpa using hf
   subst hf';obtain ⟨h1,h2⟩:=Qwj hc;exact Jmb h ⟨by simpa using h1,fun i x y hx hy=>h2 i x y hx (by simpa using hy)⟩ ho hev
 . cases hb
theorem Jtm (h:Rel cx w F ρ fp X st (Qah a)) {e:Nat} {x:Opd} {lo hi mx:Option Opd} (hb:bOp cx o (.slc e x lo hi mx)=true) (hev:ev cf st (.slc e x lo hi mx)=some (v,st')):OpQ cx w F ρ fp X st a o v st':=by
 simp only [bOp] at hb;split at hb
 . simp only [Kac,Kbj,Kby] at hb;obtain ⟨⟨⟨⟨⟨ht,h1⟩,h2⟩,h3⟩,h4⟩,h5⟩:=hb;obtain ⟨el,hel,hsz⟩:=Qbe ht;exact Js6 h (Qag h1) (Qhy h2) (Qhy h3) (Qhy h4) hel (Qd1 hsz) (fun hm=>h5.elim (fun h=>by rw [hm] at h;cases h) id) ‹_› hev
 . cases hb
theorem Jm4 (h:Rel cx w F ρ fp X st (Qah a)) {x:Opd} {lo hi:Option Opd} (hb:bOp cx o (.slcs x lo hi)=true) (hev:ev cf st (.slcs x lo hi)=some (v,st')):OpQ cx w F ρ fp X st a o v st':=by
 simp only [bOp] at hb;split at hb
 . simp only [Kac] at hb;obtain ⟨⟨⟨ht,h1⟩,h2⟩,h3⟩:=hb;exact Jme h (Qag h1) (Qhy h2) (Qhy h3) (Qkx ht) ‹_› hev
 . cases hb
theorem Jmv (h:Rel cx w F ρ fp X st (Qah a)) {off:Nat} {x:Opd} (hb:bOp cx o (.fadr off x)=true) (hev:ev cf st (.fadr off x)=some (v,st')):OpQ cx w F ρ fp X st a o v st':=by
 simp only [bOp] at hb;split at hb
 . simp only [Kac] at hb;obtain ⟨sz,ag,hf,hsz⟩:=Qys hb.1;exact Jl6 h (Qag hb.2) hf hsz ‹_› hev
 . simp only [Kac] at hb;obtain ⟨n,el,sz,h1,h2,h3,h4,h5⟩:=Jkw hb.1;exact Jej h (Qag hb.2) h1 h2 h3 h4 h5 ‹_› hev
 . cases hb
theorem Jmw (h:Rel cx w F ρ fp X st (Qah a)) {e:Nat} {x i:Opd} (hb:bOp cx o (.iadr e x i)=true) (hev:ev cf st (.iadr e x i)=some (v,st')):OpQ cx w F ρ fp X st a o v st':=by
 simp only [bOp] at hb;split at hb
 . simp only [Kac] at hb;obtain ⟨⟨ht,h1⟩,h2⟩:=hb;obtain ⟨el,hel,hsz⟩:=Qbe ht;exact Jl7 h (Qag h1) (Qag h2) hel (Qd1 hsz) ‹_› hev
 . cases hb
theorem Jmx (h:Rel cx w F ρ fp X st (Qah a)) {x i:Opd} (hb:bOp cx o (.idxs x i)=true) (hev:ev cf st (.idxs x i)=some (v,st')):OpQ cx w F ρ fp X st a o v st':=by
 simp only [bOp] at hb;split at hb
 . simp only [Kac] at hb;obtain ⟨⟨ht,h1⟩,h2⟩:=hb;exact Jl8 h (Qag h1) (Qag h2) (Qkx ht) ‹_› hev
 . cases hb
theorem Jmz (h:Rel cx w F ρ fp X st (Qah a)) {ag:Bool} {sz:Nat} {x:Opd} (hb:bOp cx o (.load ag sz x)=true) (hev:ev cf st (.load ag sz x)=some (v,st')):OpL cx w F ρ fp X st a o v st':=by
 simp only [bOp] at hb;split at hb
 . simp only [Kac] at hb;exact Jma h (Qag hb.2) (Qd1 hb.1.1) (Jch hb.1.2) ‹_› hev
 . cases hb
theorem Jtk (h:Rel cx w F ρ fp X st (Qah a)) {x:Opd} (hb:bOp cx o (.len x)=true) (hev:ev cf st (.len x)=some (v,st')):OpQ cx w F ρ fp X st a o v st':=by
 simp only [bOp] at hb;split at hb
 . simp only [Kac] at hb;obtain ⟨el,hel,-⟩:=Qbe hb.1;exact Js5 h (Qag hb.2) hel ‹_› hev
 . cases hb
theorem Jmy (h:Rel cx w F ρ fp X st (Qah a)) {x:Opd} (hb:bOp cx o (.lens x)=true) (hev:ev cf st (.lens x)=some (v,st')):OpQ cx w F ρ fp X st a o v st':=by
 simp only [bOp] at hb;split at hb
 . simp only [Kac] at hb;exact Jl9 h (Qag hb.2) (Qkx hb.1) ‹_› hev
 . cases hb
theorem Qz5 (h:Rel cx w F ρ fp X st (Qah a)) {mn:Bool} {x y:Opd} (hb:bOp cx o (.minmax mn x y)=true) (hev:ev cf st (.minmax mn x y)=some (v,st')):OpQ cx w F ρ fp X st a o v st':=by
 simp only [bOp] at hb;split at hb
 . rename_i b x' y' ts ho;simp only [Kac] at hb;obtain ⟨⟨hm,h1⟩,h2⟩:=hb;refine Qzz (ts:=ts) h (Qag h1) (Qag h2) ?_ hev;rw [ho];split at hm
   . rfl
   . rfl
   . cases hm
 . cases hb
end
end Go.Idl
namespace Go.Idl
open Go
theorem Qsf {e:Nat}:∀ {es:List (List IV)} (_:∀ x ∈ es,x.length=e) (k:Nat),(es.take k).flatten=es.flatten.take (k * e)
 | [],_,k=>by simp
 | x::r,h,0=>by simp
 | x::r,h,k+1=>by
   have hx:=h x (by simp);have h1:=List.take_length_add_append (l₁:=x) (l₂:=r.flatten) (k * e);rw [hx] at h1;rw [Kfg,Kca,Kca,Qsf (fun y hy=>h y (by simp [hy])) k,show (k+1) * e=e+k * e by rw [Kbz];omega,h1]
theorem Qse {e:Nat}:∀ {es:List (List IV)} (_:∀ x ∈ es,x.length=e) (k:Nat),(es.drop k).flatten=es.flatten.drop (k * e)
 | [],_,k=>by simp
 | x::r,h,0=>by simp
 | x::r,h,k+1=>by
   have hx:=h x (by simp);have h1:=List.drop_length_add_append (l₁:=x) (l₂:=r.flatten) (k * e);rw [hx] at h1;rw [List.drop_succ_cons,Kca,Qse (fun y hy=>h y (by simp [hy])) k,show (k+1) * e=e+k * e by rw [Kbz];omega,h1]
theorem Jpt {w:World} {F:Nat->Prop}:∀ {xs:List IV} {vs:List Value} {f:List Nat},RDs w F xs vs f->(xs.all IV.isSc)=true->f=[]/\xs=vs.map .sc/\vs.all Idl.isSc=true
 | [],vs,f,h,_=>by cases h;exact ⟨rfl,rfl,rfl⟩
 | x::xs,vs,f,h,hs=>by
   simp only [Kcj,Kac] at hs;obtain ⟨ha,hb⟩:=hs;cases x <;> simp [IV.isSc] at ha;cases h with
   | sc h1 t =>
     obtain ⟨r1,r2,r3⟩:=Jpt t hb;exact ⟨r1,by rw [r2];rfl,by simp [h1,r3]⟩
theorem Jpw {w:World} {F:Nat->Prop}:∀ {vs:List Value},vs.all Idl.isSc=true->RDs w F (vs.map .sc) vs []
 | [],_=>.nil
 | v::vs,h=>by
   simp only [Kcj,Kac] at h;exact .sc h.1 (Jpw h.2)
theorem Qn5 (z:Array Value) (n:Nat):(Builtin.zeroCells z n).toList=(List.replicate n z.toList).flatten:=by
 unfold Builtin.zeroCells;rw [Array.toList_map,Array.toList_range]
 induction n with
 | zero=>simp
 | succ n ih =>
   rw [List.replicate_succ',Kdg,<- ih,Kbz,List.range_add,Kct];congr 1;rw [List.map_map];refine List.ext_getElem (by simp) fun i h1 h2=>?_;simp only [Kcu,List.length_range] at h1;simp [Nat.mul_comm n,Nat.mul_add_mod,Nat.mod_eq_of_lt h1,h1]
theorem Jko {p:IV->Bool} {es:List (List IV)}:es.flatten.all p=es.all (·.all p):=by
 induction es with
 | nil=>rfl
 | cons x r ih=>rw [Kca,List.all_append,Kcj,ih]
section
variable {cx:Cx} {w w':World} {F F':Nat->Prop} {ρ ρ':Rho} {fp fp':Fp} {X f f' fy:List Nat} {st st':St} {a:Act} {o:Oper} {tm:Nat->Value} {v:IV}
theorem Js3 (h:Rel cx w F ρ fp X st (Qah a)) {t elem:TypeId} {z:List Value} {x:Opd} {x':Operand} (hz:Qj5 cx.P elem z) (ht:cx.P.underlying t=some (.slice elem)) (hx:Qaz cx x' x)
 (ho:o.op=.call { callee:=.builtin .clear,args:=#[x'],argTypes:=#[t] }) {cf} (hev:ev cf st (.clr x z)=some (v,st')):Qb8 cx w F ρ fp X st a o v st':=by
 simp only [ev] at hev;split at hev;rotate_left
 . cases hev
 rename_i r c p e0 off n cl hrd;split at hev;rotate_left
 . cases hev
 rename_i esz es hplc;split at hev;rotate_left
 . cases hev
 rename_i hcond;obtain ⟨hoff,hzl,hall,hzs⟩:=hcond;split at hev;rotate_left
 . cases hev
 rename_i st2 hset;simp only [Kaa,Kab] at hev;obtain ⟨rfl,rfl⟩:=hev;have hr:=Qa0 h hx;rw [hrd] at hr;rcases hr with ⟨hr,_⟩ | hr;rotate_left
 . cases hr
 obtain ⟨x0,v0,es',A,N,cap,A',cap',hlk,hfo,hon,hval,hn',hcc,hcl,haddr,_⟩:=hr;have:=Qe6 h hlk hfo;rw [hplc] at this;cases this;obtain ⟨pre,g,post,hfp,hRn,hup⟩:=h.upd hlk hfo;obtain ⟨zv,hz1,hz2⟩:=Qdd hz w;have fin:∀ (w2:World) (fp2:Fp),(Builtin.clear_ #[t] o.type #[a.eval x']).run cx.P w=.ok (.tuple #[]) w2->Rel cx w2 F ρ fp2 X { st2 with T:=Qce r st2.T } (Qah a)->Qbf st st2 ->
  (∀ r,∀ b ∈ fp2 r,b ∈ fp r)->w.heap.size<=w2.heap.size->(∀ b,(∀ r,b ∉ fp r)->w2.heap[b]? = w.heap[b]?)->Env w w2->Qb8 cx w F ρ fp X st a o (.tup []) { st2 with T:=Qce r st2.T }:=by
  intro w2 fp2 hrun hR hS hsub hsz hkeep henv;refine ⟨.tuple #[],w2,F,ρ,fp2,[],.inl ?_,hR,⟨#[],rfl,.nil⟩,⟨hsz,fun b _ hb _=>hkeep b hb,fun r b hb=>.inl ⟨r,hsub r b hb⟩,fun b hb=>.inr (.inl (by simpa using hb)),fun _ h=>h,fun _ h=>.inl h,fun _ _ _=>rfl,henv⟩,⟨hS.M,hS.loc⟩⟩;simp only [execOp,ho,resolve];simp [invoke,builtin,hrun]
 have hpk:Qaj (IV.rooted r):=.rooted r;have hgX:∀ b ∈ g,b ∉ X:=fun b hb=>h.xdisj r b (by rw [hfp];simp [hb]);have hgF:∀ b ∈ g,¬ F b:=fun b hb=>h.notF r b (by rw [hfp];simp [hb]);have hgn:g.Nodup:=by
  have:=h.nodup r;rw [hfp] at this;exact (Kan.1 (Kan.1 this).2.1).1
 have hfp2:∀ q,∀ b ∈ Qao fp r (pre++(g++post)) q,b ∈ fp q:=fun q b hb=>by
  unfold Qao at hb;split at hb
  . rename_i hq;rw [hq,hfp];exact hb
  . exact hb
 rcases Kdj n with h0 | h0
 ·
  subst h0;have hsame:es.take off++Qae z 0++es.drop (off+0)=es:=by simp [Qae,Kcg]
  rw [hsame] at hset;obtain ⟨st3,k1,k2,k3,-⟩:=hup (w':=w) (F':=F) (y:=.own e0 es) (g':=g) (X':=X) (pk:=IV.rooted r) ⟨Kam _,fun _ _ _=>rfl,fun _ h=>h,fun _ h=>.inl h,hRn,fun b hb=>.inl hb,hgn,hgF,h.xnodup,fun b hb=>⟨.inl hb,fun hm=>hgX b hm hb⟩,h.xF⟩ hpk (.inl ⟨_,_,rfl⟩) (.inl fun _ h=>h);rw [hset] at k1;cases k1;refine fin w _ ?_ k3 k2 hfp2 (Kam _) (fun _ _=>rfl) (.refl w);rw [hval];cases A' <;> simp [Builtin.clear_,run_underlying ht]
 . have hcp:0 < cap':=by omega
   obtain ⟨b,o1,rfl,rfl⟩:=haddr hcp;rcases hRn.own_inv with ⟨h8,_⟩ | ⟨b1,o2,cap1,C,ty,fp1,h8,hg,hb,hd,he,hnn,hoC⟩
   . subst h8;simp at hoff;omega
   simp only [Value.slice.injEq,Kaa,Addr.mk.injEq,and_true] at h8;obtain ⟨⟨rfl,rfl⟩,rfl,rfl⟩:=h8;obtain ⟨hf1,hfl,hvs⟩:=Jpt hd (by rw [Jko];exact hall);subst hf1;have hCl:C.toList.length=C.size:=Keq;have hcap:es.length * e0<=cap * e0:=Kbh _ hnn.1;have hoe:off * e0+n * e0<=es.length * e0:=by rw [<- Kdk];exact Kbh _ hoff
   obtain ⟨Z,hZ⟩:∃ Z,Z=(List.replicate n z).flatten:=⟨_,rfl⟩;have hZl:Z.length=n * e0:=by rw [hZ];simp [hzl]
   have hZs:Z.all Idl.isSc=true:=by
    rw [Kaj];intro u hu;rw [hZ,List.mem_flatten] at hu;obtain ⟨l,hl,hu⟩:=hu;rw [List.eq_of_mem_replicate hl] at hu;exact Kaj.1 hzs u hu
   have hz2':zv.cells.toList=z:=hz2;have hZc:(Builtin.zeroCells zv.cells n).toList=Z:=by rw [Qn5,hz2',hZ]
   have h1c:∀ u ∈ Z,u.oneCell'=true:=fun u hu=>by
    have:=Kaj.1 hZs u hu;rcases Qeq this with ⟨_,_,rfl⟩ | ⟨_,rfl⟩ | ⟨_,rfl⟩ | rfl <;> rfl
   have hrun:=run_storeCells_at cx.P b (o1+off * e0) ty Z 0 C w hb (by omega) h1c;obtain ⟨w2,hw2⟩:∃ w2,w2=w.setRow b (splice C.toList (o1+off * e0) Z).toArray:=⟨_,rfl⟩;have q1:w2.heap[b]? = some (.cells (splice C.toList (o1+off * e0) Z).toArray ty (0,0)):=by rw [hw2];exact setRow_heap w _ C _ ty _ hb
   have q2:∀ k,k ≠ b->w2.heap[k]? = w.heap[k]?:=fun k hk=>by rw [hw2];exact setRow_other w _ k _ hk
   have q3:w2.heap.size=w.heap.size:=by rw [hw2];simp
   have hesl:(es.take off++Qae z n++es.drop (off+n)).length=es.length:=by simp [Qae];omega
   have he2:∀ y ∈ es.take off++Qae z n++es.drop (off+n),y.length=e0:=by
    intro y hy;simp only [Kah] at hy;rcases hy with (hy | hy) | hy
    . exact he y (Kbv hy)
    . rw [List.eq_of_mem_replicate hy];simp [hzl]
    . exact he y (Kdl hy)
   have hzsc:z.map cv1=z.map .sc:=Kdr fun u hu=>by
    have:=Kaj.1 hzs u hu;rcases Qeq this with ⟨_,_,rfl⟩ | ⟨_,rfl⟩ | ⟨_,rfl⟩ | rfl <;> rfl
   have hfz:(Qae z n).flatten=Z.map .sc:=by
    rw [Qae,hzsc,hZ,List.map_flatten,List.map_replicate]
   have hVl:((C.toList.drop o1).take (es.length * e0)).length=es.length * e0:=by simp;omega
   have hflat:(es.take off++Qae z n++es.drop (off+n)).flatten=(splice ((C.toList.drop o1).take (es.length * e0)) (off * e0) Z).map .sc:=by
    rw [Kdg,Kdg,Qsf he,Qse he,hfz,hfl];unfold splice;simp only [Kct,List.map_take,List.map_drop,hZl,Kdk]
   have hsp:((splice C.toList (o1+off * e0) Z).drop o1).take (es.length * e0)=splice ((C.toList.drop o1).take (es.length * e0)) (off * e0) Z:=Qot (by omega) (by omega);have hnew:RDs w2 F [.own e0 (es.take off++Qae z n++es.drop (off+n))] [.slice (some ⟨b,o1,none⟩) es.length cap] [b]:=by
    have h1:RDs w2 F (es.take off++Qae z n++es.drop (off+n)).flatten (((splice C.toList (o1+off * e0) Z).toArray.toList.drop o1).take ((es.take off++Qae z n++es.drop (off+n)).length * e0)) []:=by
     rw [hesl];simp only [];rw [hsp,hflat];refine Jpw ?_;rw [Kaj];intro u hu;unfold splice at hu;simp only [Kah] at hu;rcases hu with (hu | hu) | hu
     . exact Kaj.1 hvs u (Kbv hu)
     . exact Kaj.1 hZs u hu
     . exact Kaj.1 hvs u (Kdl hu)
    have:=RDs.own (w:=w2) (F:=F) (xs:=[]) (vs:=[]) (fp:=[]) (cap:=cap) (o:=o1) q1 h1 he2 (by rw [hesl];exact hnn) (by
     have:(splice C.toList (o1+off * e0) Z).length=C.toList.length:=Qdj (by omega);simp only [List.size_toArray];omega) .nil
    rw [hesl] at this;simpa using this
   obtain ⟨st3,k1,k2,k3,-⟩:=hup (w':=w2) (F':=F) (g':=[b]) (X':=X) (pk:=IV.rooted r) ⟨by omega,fun k _ hk=>q2 k (fun hc=>hk (by rw [hg];simp [hc])),fun _ h=>h,fun _ h=>.inl h,hnew,fun k hk=>.inl (by rw [hg];exact hk),by simp,fun k hk=>hgF k (by rw [hg];exact hk),h.xnodup,fun k hk=>⟨.inl hk,fun hm=>hgX k (by rw [hg];exact hm) hk⟩,h.xF⟩ hpk (.inl ⟨_,_,rfl⟩) (.inl fun _ h=>h);rw [hset] at k1;cases k1;have hg':g=[b]:=hg;rw [<- hg'] at k3;refine fin w2 _ ?_ k3 k2 hfp2 (by omega) (fun k hk=>q2 k (fun hc=>hk r (by rw [hfp,hg,hc];simp))) (by rw [hw2];exact ⟨rfl,rfl,rfl⟩);rw [hval];have hn0:n ≠ 0:=by omega
   obtain ⟨m,rfl⟩:∃ m,n=m+1:=⟨n - 1,by omega⟩;simp only [Builtin.clear_];simp [run_underlying ht,hz1];rw [hZc,hrun];simp [hw2,splice]
end
end Go.Idl
namespace Go.Idl
open Go
section
variable {cx:Cx} {w w':World} {F F':Nat->Prop} {ρ ρ':Rho} {fp fp':Fp} {X f f' fy:List Nat} {st st':St} {a:Act} {o:Oper} {tm:Nat->Value} {v:IV}
end
end Go.Idl
namespace Go.Idl
open Go
section
variable {cx:Cx} {w w':World} {F F' F0 F1:Nat->Prop} {ρ ρ':Rho} {fp fp' fp1:Fp} {X X' f f' f1 f2 fa:List Nat} {st st' st1:St} {a:Act} {o:Oper} {tm:Nat->Value} {v:IV}
end
end Go.Idl
namespace Go.Idl
open Go
section
variable {cx:Cx} {w w':World} {F F' F0 F1:Nat->Prop} {ρ ρ':Rho} {fp fp' fp1:Fp} {X X' f f' f1 f2 fa:List Nat} {st st' st1:St} {a:Act} {o:Oper} {tm:Nat->Value} {v:IV}
end
end Go.Idl
namespace Go.Idl
open Go
section
variable {cx:Cx} {w w':World} {F F':Nat->Prop} {ρ ρ':Rho} {fp fp':Fp} {X f f' fy:List Nat} {st st':St} {a:Act} {o:Oper} {tm:Nat->Value} {v:IV}
theorem Qz0 (h:Rel cx w F ρ fp X st (Qah a)) {t:TypeId} {sz:Nat} {ad x:Opd} {ad' x':Operand} (hsz:Qdu cx.P t sz) (ha:Qaz cx ad' ad) (hx:Qaz cx x' x) (ho:o.op=.store t ad' x') {cf}
 (hev:ev cf st (.storef sz ad x)=some (v,st')):Qb8 cx w F ρ fp X st a o v st':=by
 simp only [ev] at hev;split at hev;rotate_left
 . cases hev
 rename_i cs st1 hab;split at hev;rotate_left
 . cases hev
 rename_i hlen;obtain ⟨hlen,hpl⟩:=hlen;split at hev;rotate_left
 . cases hev
 rename_i l k c hrd;split at hev;rotate_left
 . cases hev
 rename_i st2 hst;simp only [Kaa,Kab] at hev;obtain ⟨rfl,rfl⟩:=hev;obtain ⟨fp1,fy,k1,k2,k3,k4,k5,k6⟩:=Qfb h hx hab;have hus:=k2.len;have h1c:=k2.oneCell k3;obtain ⟨c1,c2⟩:=Qsl k2 hpl;have k1':=k1.frzX;have c1':Cat (RC cx w (fun b=>F b \/ b ∈ fy) ρ st1 (look st1 (Qah a) ρ w)) (Qe4 cs) (a.eval x').cells.toList [] :=
  c1.mono fun x v f _ hx hm=>hx.isD (c2 x hm) (fun _ _ h=>h)
 have hr:=Qa0 k1' ha;have hfl:(Qe4 cs).length=cs.length:=Qhh cs;have fin:∀ (b o':Nat) (C:Array Value) (ty:TypeId) (fp2:Fp),a.eval ad'=.pointer (some ⟨b,o',none⟩)->w.heap[b]? = some (.cells C ty (0,0))->o'+(a.eval x').cells.toList.length<=C.size ->
  (∃ r,b ∈ fp1 r)->Rel cx (w.setRow b (splice C.toList o' (a.eval x').cells.toList).toArray) (fun b=>F b \/ b ∈ fy) ρ fp2 X st2 (Qah a)->(∀ r,∀ b ∈ fp2 r,b ∈ fp1 r)->Qbf st1 st2 ->
  Qb8 cx w F ρ fp X st a o .un st2:=by
  intro b o' C ty fp2 e1 e2 e3 e4 e5 e6 e7;have hrun:=run_storeCells_at cx.P b o' ty (a.eval x').cells.toList 0 C w e2 (by omega) h1c;have hvs:(a.eval x').cells.size=sz:=by rw [<- hlen,hus];simp
  refine ⟨undef,_,_,ρ,fp2,[],.inr ⟨?_,rfl⟩,e5,rfl,?_,k6.trans e7⟩
  . simp only [execOp,ho,Instr.storeAt,Instr.sureAddr,e1,Sem.run_bind,Sem.run_pure,Result.andThen_ok,storeVar,Qbu hsz,hvs,ne_eq,not_true_eq_false,Kbs];rw [hrun];simp only [Result.andThen_ok,Keh,splice]
  . refine Qme (ex:=exB st) k5 k4 ⟨by simp,fun q hq hr hx=>?_,fun r q hq=>.inl ⟨r,e6 r q hq⟩,fun q hq=>.inr (.inl (by simp at hq |-;exact .inr hq)),fun _ h=>.inl h,fun q hq=>?_,fun _ _ _=>rfl,⟨rfl,rfl,rfl⟩⟩
    . obtain ⟨r,hbr⟩:=e4;exact setRow_other w b q _ (fun hc=>hr r (hc ▸ hbr))
    . rcases hq with hq | hq
      . exact .inl hq
      . exact .inr (.inr (.inl (by simp [hq])))
 unfold St.storeCells at hst;simp only at hst;rw [hrd] at hr;have hptr:a.eval ad'=.pointer (some ⟨ρ l k,c,none⟩):=by
  rcases hr with ⟨hr,_⟩ | hr
  . exact hr.1
  . cases hr
 split at hst;rotate_left
 . cases hst
 rename_i bs hb;split at hst;rotate_left
 . cases hst
 rename_i old hs;split at hst;rotate_left
 . cases hst
 rename_i hlv;simp only [Kaa] at hst;obtain ⟨C,ty,f0,hfp,hheap,hcat⟩:=k1'.boxes l k bs hb;have hle:=(Qed hs).1;have hC:c+(a.eval x').cells.toList.length<=C.size:=by have:=hcat.len;rw [hfl] at hle;rw [<- hus];simp at this;omega
 have go:∀ pk,Qaj pk->((∀ y:IV,y.rooted (.B l k)=true->pk y=true) \/ old.all IV.isSc=true)->st2={ st1.setBox l k (splice bs c (Qe4 cs)) with T:=Qa3 pk st1.T }->Qb8 cx w F ρ fp X st a o .un st2:=by
  intro pk hpk hkeep hst2;subst hst2;obtain ⟨fp2,g1,g2,g3,g4⟩:=Rel.storeBox (fy:=[]) (w':=w.setRow (ρ l k) (splice C.toList c (a.eval x').cells.toList).toArray) k1' hb hs c1' c2 (fun y hy=>Kaj.1 hlv y hy) hpk hkeep hheap
   (setRow_heap w _ C _ ty _ hheap) (fun b hb=>setRow_other w _ b _ hb) (by simp)
  exact fin _ _ C ty fp2 hptr hheap hC g4 g1 (fun r b hb=>by rcases g3 r b hb with h | h;exact h;cases h) g2
 by_cases hsc:(old.all IV.isSc && (Qe4 cs).all IV.isSc)=true
 . rw [if_pos hsc] at hst;refine go (fun _=>false) .none (.inr (by simp only [Kac] at hsc;exact hsc.1)) ?_;rw [<- Qit st1 l k (splice bs c (Qe4 cs)),Qjb,hst]
 . rw [if_neg hsc,Qit] at hst;exact go (IV.rooted (.B l k)) (.rooted _) (.inl fun _ h=>h) hst.symm
theorem Cat.one {R:IV->Value->List Nat->Prop} {x:IV} {v:Value} {f:List Nat} (h:Cat R [x] [v] f):R x v f:=by
 cases h with
 | cons h t=>cases t;simpa using h
end
end Go.Idl
namespace Go.Idl
open Go
section
variable {cx:Cx} {w w':World} {F F':Nat->Prop} {ρ ρ':Rho} {fp fp':Fp} {X f f' fy:List Nat} {st st':St} {a:Act} {o:Oper} {tm:Nat->Value} {v:IV}
theorem Cat.uns {R:IV->Value->List Nat->Prop} (hR:∀ v,R .un v []):∀ (us:List Value),Cat R (List.replicate us.length .un) us []
 | []=>.nil
 | u::us=>by
   rw [Kbc,List.replicate_succ];exact Cat.cons (f:=[]) (fp:=[]) (hR u) (Cat.uns hR us)
theorem Rel.takeBox (h:Rel cx w F ρ fp X st tm) {l k c sz:Nat} {cs xs:List IV} (hb:st.box l k=some cs) (hs:sub cs c sz=some xs) :
 ∃ fp' fx us C ty,Rel cx w F ρ fp' (fx++X) { st.setBox l k (splice cs c (List.replicate sz .un)) with T:=Qce (.B l k) st.T } tm/\Cat (Qj7 cx w F ρ st l) xs us fx /\
   w.heap[ρ l k]? = some (.cells C ty (0,0))/\us=(C.toList.drop c).take sz/\c+sz<=C.size/\(∀ b ∈ fx,∃ r,b ∈ fp r)/\(∀ r,∀ b ∈ fp' r,b ∈ fp r) /\
   Qbf st { st.setBox l k (splice cs c (List.replicate sz .un)) with T:=Qce (.B l k) st.T }:=by
 obtain ⟨C,ty,f0,hfp,hC,hcat⟩:=h.boxes l k cs hb;obtain ⟨hle,rfl⟩:=Qed hs;have hcl:cs.length=C.toList.length:=hcat.len;have hdec:cs=cs.take c++((cs.drop c).take sz++cs.drop (c+sz)):=by
  rw [<- Kdo,Kcg,Kcg]
 rw [hdec] at hcat;obtain ⟨u1,u2,f1,g0,hu,hfe,h1,h2⟩:=hcat.split;obtain ⟨us,u3,g,f2,hu2,hg0,hx,h3⟩:=h2.split;subst hu2;subst hg0;have hl1:u1.length=c:=by rw [<- h1.len];simp;omega
 have hl2:us.length=sz:=by rw [<- hx.len];simp;omega
 have hus:us=(C.toList.drop c).take sz:=by rw [hu,List.drop_append,hl1];simp [<- hl1,<- hl2]
 have hCs:C.toList.length=C.size:=Keq;have hnew:Cat (Qj7 cx w F ρ st l) (splice cs c (List.replicate sz .un)) C.toList (f1++f2):=by
  have e1:splice cs c (List.replicate sz .un)=cs.take c++(List.replicate us.length .un++cs.drop (c+sz)):=by
   simp [splice,hl2]
  rw [e1,hu];have:=h1.app ((Cat.uns (R:=Qj7 cx w F ρ st l) (fun v=>.inr (RDs.un (v:=v) .nil)) us).app h3);simpa using this
 have hsome:(st.box l k).isSome=true:=by rw [hb];rfl
 have hbs:=fun l' k'=>Qi1 (cs':=splice cs c (List.replicate sz .un)) hsome l' k';have shp:=Qgt st l k (splice cs c (List.replicate sz .un));have hin:ρ l k ∈ fp (.B l k):=by rw [hfp];simp
 have hpk:Qaj (IV.rooted (.B l k)):=.rooted _;have hmem:∀ b,b ∈ f1++f2->b ∈ f0:=fun b hb=>by rw [hfe];simp at hb |-;rcases hb with h | h <;> simp [h]
 have hgmem:∀ b,b ∈ g->b ∈ f0:=fun b hb=>by rw [hfe];simp [hb]
 have hnd:=h.nodup (.B l k);rw [hfp] at hnd;obtain ⟨hnin,hnd0⟩:=Kbq.1 hnd;rw [hfe] at hnd0;have hn1:=Kan.1 hnd0;have hn2:=Kan.1 hn1.2.1;have hdisj:∀ b,b ∈ g->b ∉ f1++f2:=fun b hb hb'=>by
  rcases Kah.1 hb' with h' | h'
  . exact hn1.2.2 b h' b (by simp [hb]) rfl
  . exact hn2.2.2 b hb b h' rfl
 have tr:Tr w F ρ st (look st tm ρ w) w F ρ { st.setBox l k (splice cs c (List.replicate sz .un)) with T:=Qce (.B l k) st.T }
  (look { st.setBox l k (splice cs c (List.replicate sz .un)) with T:=Qce (.B l k) st.T } tm ρ w) (fun r c q=>∃ x:IV,Qby x r c q/\IV.rooted (.B l k) x=false):=by
  refine ⟨fun r c2 q hlive x1 v1 e2 es2 A hn hcap hlk hfo=>?_,fun _ _=>rfl,fun _ h=>h,fun l' k' hb=>⟨rfl,shp.box hb⟩⟩;obtain ⟨e1,es1,rfl⟩:=Qbk hfo;by_cases hr:r=.B l k
  . subst hr;obtain ⟨x,hx1,hx2⟩:=hlive;have:x.rooted (.B l k)=true:=Qc1 hx1;rw [this] at hx2;cases hx2
  . refine ⟨.own e1 es1,es2,?_,hfo,Kam _⟩;cases r with
    | S s' =>
      obtain ⟨h1,h2⟩:=Qer hlk;refine Qb3 ?_ h2;unfold Qce;rw [Qap];exact Qe0 hpk h1
    | B l' k' =>
      have hne:¬ (l'=l/\k'=k):=fun hc=>hr (by rw [hc.1,hc.2]);have hb1:({ st.setBox l k (splice cs c (List.replicate sz .un)) with T:=Qce (.B l k) st.T }:St).box l' k'=st.box l' k':=by
       rw [Qj8,hbs,if_neg hne]
      simp only [look,hb1];simp only [look] at hlk;exact hlk
 have hsub:∀ q,∀ b ∈ Qao fp (.B l k) (ρ l k::(f1++f2)) q,b ∈ fp q:=fun q b hb=>by
  unfold Qao at hb;split at hb
  . rename_i hq;subst hq;rw [hfp];rcases Kaf.1 hb with rfl | hb
    . simp
    . exact Kdu _ (hmem b hb)
  . exact hb
 have hgB:∀ b ∈ g,b ∈ fp (.B l k):=fun b hb=>by rw [hfp];exact Kdu _ (hgmem b hb)
 have hgnot:∀ q,∀ b ∈ Qao fp (.B l k) (ρ l k::(f1++f2)) q,b ∉ g:=fun q b hb hbg=>by
  by_cases hq:q=.B l k
  . subst hq;rw [show Qao fp (.B l k) (ρ l k::(f1++f2)) (.B l k)=ρ l k::(f1++f2) from if_pos rfl] at hb;rcases Kaf.1 hb with rfl | hb
    . exact hnin (hgmem _ hbg)
    . exact hdisj b hbg hb
  . exact h.disj q (.B l k) hq b (hsub q b hb) (hgB b hbg)
 refine ⟨Qao fp (.B l k) (ρ l k::(f1++f2)),g,us,C,ty,⟨fun s'=>?_,fun l' k' cs' hb'=>?_,fun l' k' hb'=>?_,fun r=>?_,fun r r' hr b hb hb'=>?_,fun r b hb=>h.notF r b (hsub r b hb),fun r b hb=>h.lt r b (hsub r b hb),h.Flt,?_,fun r b hb hx=>?_,fun b hb=>?_,
  fun b hb=>?_⟩,hx,hC,hus,by rw [<- hCs,<- hcl];exact hle,fun b hb=>⟨_,hgB b hb⟩,hsub,⟨shp.M,shp.loc⟩⟩
 . unfold Qce;rw [Qap];have hne:(Rt.S s':Rt) ≠ .B l k:=fun hc=>by cases hc
   rw [show Qao fp (.B l k) (ρ l k::(f1++f2)) (.S s')=fp (.S s') from if_neg hne];exact (h.slots s').trk tr hpk (Qp2 _) (fun _ _=>rfl)
 . rw [Qj8,hbs] at hb';by_cases hlk:l'=l/\k'=k
   . obtain ⟨rfl,rfl⟩:=hlk;simp only [and_self,if_true,Kaa] at hb';subst hb';exact ⟨C,ty,f1++f2,if_pos rfl,hC,hnew.mono fun x v f' hf' hx _=>hx.tr tr (fun _ _=>rfl)⟩
   . rw [if_neg hlk] at hb';obtain ⟨C',ty',f',k1,k2,k3⟩:=h.boxes l' k' cs' hb';have hne:(Rt.B l' k':Rt) ≠ .B l k:=fun hc=>hlk (by cases hc;exact ⟨rfl,rfl⟩);refine ⟨C',ty',f',by rw [show Qao fp (.B l k) (ρ l k::(f1++f2)) (.B l' k')=fp (.B l' k') from if_neg hne];exact k1,k2,?_⟩;exact k3.mono fun x v f hf hx _=>hx.tr tr (fun _ _=>rfl)
 . rw [Qj8,hbs] at hb';by_cases hlk:l'=l/\k'=k
   . rw [if_pos hlk] at hb';cases hb'
   . rw [if_neg hlk] at hb';have hne:(Rt.B l' k':Rt) ≠ .B l k:=fun hc=>hlk (by cases hc;exact ⟨rfl,rfl⟩);rw [show Qao fp (.B l k) (ρ l k::(f1++f2)) (.B l' k')=fp (.B l' k') from if_neg hne];exact h.nobox l' k' hb'
 . unfold Qao;split
   . refine Kbq.2 ⟨fun hm=>hnin (hmem _ hm),?_⟩;rw [Kan];exact ⟨hn1.1,hn2.2.1,fun x hx y hy=>hn1.2.2 x hx y (by simp [hy])⟩
   . exact h.nodup r
 . exact h.disj r r' hr b (hsub r b hb) (hsub r' b hb')
 . rw [Kan];exact ⟨hn2.1,h.xnodup,fun x hx y hy hxy=>h.xdisj (.B l k) x (hgB x hx) (hxy ▸ hy)⟩
 . rcases Kah.1 hx with hx | hx
   . exact hgnot r b hb hx
   . exact h.xdisj r b (hsub r b hb) hx
 . rcases Kah.1 hb with hb | hb
   . exact h.notF _ b (hgB b hb)
   . exact h.xF b hb
 . rcases Kah.1 hb with hb | hb
   . exact h.lt _ b (hgB b hb)
   . exact h.xlt b hb
theorem Qom {x:IV} (h:x.isData=true):x.isD=true:=by
 cases x <;> simp_all [IV.isData,IV.isD]
theorem Qj7.isData_rc {l:Nat} {x:IV} {u:Value} {lk} (h:Qj7 cx w F ρ st l x u f) (hd:x.isData=true):RC cx w F ρ st lk x u f:=by
 rcases h with ⟨h,_⟩ | h
 . cases x <;> first | (simp [IV.isData] at hd;done) | exact h.elim
 . exact .inr h
end
end Go.Idl
namespace Go.Idl
open Go
section
variable {P:Program} {w:World} {t t' e ty:TypeId} {i:TypeInfo} {z:Value}
end
section
variable {cx:Cx} {w w':World} {F F':Nat->Prop} {ρ ρ':Rho} {fp fp':Fp} {X:List Nat} {st st':St} {a:Act} {o:Oper} {v:IV}
end
end Go.Idl
namespace Go.Idl
open Go
section
variable {cx:Cx} {w:World} {F:Nat->Prop} {ρ:Rho} {fp:Fp} {X:List Nat} {st st':St} {a:Act} {o:Oper} {v:IV} {cf:CF}
theorem Jmu (h:Rel cx w F ρ fp X st (Qah a)) {x:Opd} {i:Nat} (hb:bOp cx o (.extr x i)=true) (hev:ev cf st (.extr x i)=some (v,st')):Qb8 cx w F ρ fp X st a o v st':=by
 simp only [bOp] at hb;split at hb
 . simp only [Kac,Kbt] at hb;obtain ⟨rfl,h1⟩:=hb;exact Jl5 h (Qag h1) ‹_› hev
 . cases hb
theorem Je4 (h:Rel cx w F ρ fp X st (Qah a)) {z:List Value} (hb:bOp cx o (.alloc z)=true) (hev:ev cf st (.alloc z)=some (v,st')):Qb8 cx w F ρ fp X st a o v st':=by
 simp only [bOp] at hb;split at hb
 . exact Jeg h (Qgj hb) ‹_› hev
 . cases hb
theorem Jtg (h:Rel cx w F ρ fp X st (Qah a)) {x:Opd} (hb:bOp cx o (.box x)=true) (hev:ev cf st (.box x)=some (v,st')):Qb8 cx w F ρ fp X st a o v st':=by
 simp only [bOp] at hb;split at hb
 . exact Js1 h (Qag hb) ‹_› hev
 . cases hb
theorem Je5 (h:Rel cx w F ρ fp X st (Qah a)) {z:List Value} {parts:List (Nat×Nat×Opd)} (hb:bOp cx o (.build z parts)=true) (hev:ev cf st (.build z parts)=some (v,st')):Qb8 cx w F ρ fp X st a o v st':=by
 simp only [bOp] at hb;split at hb
 . unfold Jpd at hb;simp only [Kac] at hb;obtain ⟨h0,hb⟩:=hb;split at hb
   . split at hb
     . exact Jei h (Qgj h0) ‹_› ‹_› (Qre hb) ‹_› hev
     . cases hb
   . split at hb
     . rename_i inf hinf;exact Qzy h (Qgj h0) ‹_› ⟨inf,hinf,rfl⟩ (Qoa hb) ‹_› hev
     . cases hb
   . cases hb
 . cases hb
theorem Jth (h:Rel cx w F ρ fp X st (Qah a)) {e:Nat} {z:List Value} {len:Nat} {parts:List (Nat×Opd)} (hb:bOp cx o (.bsl e z len parts)=true) (hev:ev cf st (.bsl e z len parts)=some (v,st')) :
 Qb8 cx w F ρ fp X st a o v st':=by
 simp only [bOp] at hb;split at hb
 . simp only [Kac,Kbt] at hb;obtain ⟨rfl,ht⟩:=hb;obtain ⟨el,hel,hk⟩:=Qbe ht;simp only [Kac,Kbt,Kai] at hk;obtain ⟨⟨⟨⟨h1,h2⟩,h3⟩,h4⟩,h5⟩:=hk;exact Js2 h (Qgj h1) (Qd1 h2) h3 hel h4 (Qn9 h5) ‹_› hev
 . cases hb
theorem Jm1 (h:Rel cx w F ρ fp X st (Qah a)) {e:Nat} {z:List Value} {l c:Opd} (hb:bOp cx o (.mksl e z l c)=true) (hev:ev cf st (.mksl e z l c)=some (v,st')):Qb8 cx w F ρ fp X st a o v st':=by
 simp only [bOp] at hb;split at hb
 . simp only [Kac] at hb;obtain ⟨⟨ht,hl⟩,hc⟩:=hb;obtain ⟨el,hel,hk⟩:=Qbe ht;simp only [Kac,Kbt] at hk;obtain ⟨⟨⟨h1,h2⟩,h3⟩,h4⟩:=hk;split at h4
   . simp only [Kai] at h4;exact Jmc h (Qgj h1) (Qd1 h2) h3 hel ‹_› h4 (Qag hl) (Qag hc) ‹_› hev
   . cases h4
 . cases hb
theorem Je8 (h:Rel cx w F ρ fp X st (Qah a)) {sz:Nat} {ad x:Opd} (hb:bOp cx o (.store sz ad x)=true) (hev:ev cf st (.store sz ad x)=some (v,st')):Qb8 cx w F ρ fp X st a o v st':=by
 simp only [bOp] at hb;split at hb
 . simp only [Kac] at hb;exact Jek h (Qd1 hb.1.1) (Qag hb.1.2) (Qag hb.2) ‹_› hev
 . cases hb
theorem Qz6 (h:Rel cx w F ρ fp X st (Qah a)) {sz:Nat} {ad x:Opd} (hb:bOp cx o (.storef sz ad x)=true) (hev:ev cf st (.storef sz ad x)=some (v,st')):Qb8 cx w F ρ fp X st a o v st':=by
 simp only [bOp] at hb;split at hb
 . simp only [Kac] at hb;exact Qz0 h (Qd1 hb.1.1) (Qag hb.1.2) (Qag hb.2) ‹_› hev
 . cases hb
theorem Jti (h:Rel cx w F ρ fp X st (Qah a)) {x:Opd} {z:List Value} (hb:bOp cx o (.clr x z)=true) (hev:ev cf st (.clr x z)=some (v,st')):Qb8 cx w F ρ fp X st a o v st':=by
 simp only [bOp] at hb;split at hb
 . simp only [Kac] at hb;obtain ⟨ht,h1⟩:=hb;obtain ⟨el,hel,hk⟩:=Qbe ht;exact Js3 h (Qgj hk) hel (Qag h1) ‹_› hev
 . cases hb
theorem Jtd (h:Rel cx w F ρ fp X st (Qah a)) {e:Nat} {x y:Opd} (hb:bOp cx o (.app e x y)=true) (hev:ev cf st (.app e x y)=some (v,st')):Qb8 cx w F ρ fp X st a o v st':=by
 simp only [bOp] at hb;split at hb
 . simp only [Kac] at hb;obtain ⟨⟨⟨ht,ht'⟩,h1⟩,h2⟩:=hb;obtain ⟨el,hel,hk⟩:=Qbe ht;obtain ⟨el',hel',-⟩:=Qbe ht';split at hk
   . rename_i i hi;simp only [Kac,Kbt,Kai] at hk;obtain ⟨⟨h3,h4⟩,h5⟩:=hk;split at h5
     . rename_i z hz;simp only [Kbt] at h5;exact Jsz (ty:=0) h ⟨hel,⟨_,hel'⟩,hi,hz,h4,h5⟩ h3 (Qag h1) (Qag h2) ‹_› hev
     . cases h5
   . cases hk
 . cases hb
theorem Jms (hcf:Qcn cx cf) (h:Rel cx w F ρ fp X st (Qah a)) {f:Lab} {args:List (Mode×Opd)} {p:Bool} (hb:bOp cx o (.call f args p)=true) (hev:ev cf st (.call f args p)=some (v,st')) :
 Qla cx w F ρ fp X st a o v st':=by
 simp only [bOp] at hb;split at hb
 . rename_i c ho;split at hb
   . rename_i g hc;simp only [Kac,Kbt] at hb;obtain ⟨hg,ha⟩:=hb;subst hg;simp only [ev] at hev;have hy:a.eval (.func (cx.fid f))=.func (.func (cx.fid f)) #[] #[]:=rfl;cases p with
     | true=>exact Qqb hcf h (Qkp ha) ho hc rfl hy hev
     | false=>exact Qjx hcf h (cvs:=[]) (Qkp ha) ho hc rfl hy .nil hev
   . cases hb
 . cases hb
theorem Je6 (hcf:Qcn cx cf) (h:Rel cx w F ρ fp X st (Qah a)) {f:Opd} {args:List (Mode×Opd)} (hb:bOp cx o (.callv f args)=true) (hev:ev cf st (.callv f args)=some (v,st')) :
 Qla cx w F ρ fp X st a o v st':=by
 simp only [bOp] at hb;split at hb
 . rename_i c ho;split at hb
   . rename_i y hc;simp only [Kac] at hb;obtain ⟨hy,ha⟩:=hb;simp only [ev] at hev;split at hev
     . rename_i g caps hX;have hr:=Qa0 h (Qag hy);rw [hX] at hr;rcases hr with ⟨⟨cvs,hv,hcaps⟩,_⟩ | hr
       . exact Qjx hcf h (Qkp ha) ho hc rfl hv hcaps hev
       . cases hr
     . cases hev
   . cases hb
 . cases hb
theorem Jm5 (h:Rel cx w F ρ fp X st (Qah a)) {x:Opd} (hb:bOp cx o (.strb x)=true) (hev:ev cf st (.strb x)=some (v,st')):OpL cx w F ρ fp X st a o v st':=by
 simp only [bOp] at hb;split at hb
 . simp only [Kac] at hb;obtain ⟨⟨h1,h2⟩,h3⟩:=hb;obtain ⟨e,he,hk⟩:=Qbe h1;split at hk
   . exact Jmf h (Qag h3) he ‹_› (Qkx h2) ‹_› hev
   . cases hk
 . cases hb
theorem op_res (hcf:Qcn cx cf) (h:Rel cx w F ρ fp X st (Qah a)) {k:K} (hb:bOp cx o k=true) (hev:ev cf st k=some (v,st')):OpRes cx w F ρ fp X st a o v st' k.cls:=by
 cases k with
 | mv x=>exact res_mv h hb hev
 | nilo e=>exact Jm2 h hb hev
 | mvo e x=>exact .inl (Jtl h hb hev)
 | asg x=>exact .inl (Jte h hb hev)
 | asgm x=>exact .inl (Jmr h hb hev)
 | clr x z=>exact .inl (Jti h hb hev)
 | pick c x y=>exact Jm3 h hb hev
 | alloc z=>exact .inl (Je4 h hb hev)
 | box x=>exact .inl (Jtg h hb hev)
 | build z ps=>exact .inl (Je5 h hb hev)
 | bsl e z n ps=>exact .inl (Jth h hb hev)
 | load ag sz x=>exact Jmz h hb hev
 | store sz ad x=>exact .inl (Je8 h hb hev)
 | storef sz ad x=>exact .inl (Qz6 h hb hev)
 | nilck x=>exact Je7 h hb hev
 | bin op x y=>exact Jtf h hb hev
 | eqa neg n x y=>exact Jtj h hb hev
 | unop op x=>exact Jm6 h hb hev
 | conv k x=>exact Jmt h hb hev
 | mkfn f caps=>exact Jm0 h hb hev
 | mksl e z l c=>exact .inl (Jm1 h hb hev)
 | slc e x lo hi mx=>exact Jtm h hb hev
 | slcs x lo hi=>exact Jm4 h hb hev
 | fadr off x=>exact Jmv h hb hev
 | iadr e x i=>exact Jmw h hb hev
 | idxs x i=>exact Jmx h hb hev
 | extr x i=>exact .inl (Jmu h hb hev)
 | call f args p=>exact .inr (Jms hcf h hb hev)
 | callv f args=>exact .inr (Je6 hcf h hb hev)
 | len x=>exact Jtk h hb hev
 | lens x=>exact Jmy h hb hev
 | app e x y=>exact .inl (Jtd h hb hev)
 | minmax mn x y=>exact Qz5 h hb hev
 | halt=>simp [ev] at hev
 | strb x=>exact Jm5 h hb hev
end
end Go.Idl
namespace Go.Idl
open Go
def QF:Exit->Act->World->Prop:=fun _ _ _=>False
def Qbz (P:Program) (ops:Array Oper) (o:Oper) (v:Value) (a:Act) (w:World):Prop :=
 (Region.wanted o (yielded ops a.tmps)=true/\(execOp a.eval o).run P w=.ok (.value v) w) \/ (Region.wanted o (yielded ops a.tmps)=false/\v=undef)
def wpY (P:Program) (ops:Array Oper) (cls:Nat->Cls) (K:Act->World->Prop):List Nat->Act->World->Prop
 | [],a,w=>K a w
 | i::rest,a,w=>∃ o,ops[i]? = some o/\match cls i with
   | .reg=>∃ v,Yields P ops o v a/\wpY P ops cls K rest (a.put o.dst v) w
   | .ld=>∃ v,Qbz P ops o v a w/\wpY P ops cls K rest (a.put o.dst v) w
   | .oth=>wpOp P ops QF i (wpY P ops cls K rest) a w
section
variable {P:Program} {ops:Array Oper} {cls:Nat->Cls} {K K':Act->World->Prop} {a:Act} {w:World}
theorem Qbz.wpOp {Q:Exit->Act->World->Prop} {i:Nat} {o:Oper} {v:Value} (hi:ops[i]? = some o) (hy:Qbz P ops o v a w) (h:K (a.put o.dst v) w):wpOp P ops Q i K a w:=by
 unfold Go.wpOp;simp only [hi];rcases hy with ⟨hw,hv⟩ | ⟨hw,rfl⟩
 . simp only [hw,if_true,Oper.wp,hv,Oper.upon];exact .inl h
 . simp only [hw,Kap,Kbs];exact h
theorem Qbz.of_same {o:Oper} {v:Value} {a':Act} (hy:Qbz P ops o v a w) (he:execOp a'.eval o=execOp a.eval o)
 (hw:Region.wanted o (yielded ops a'.tmps)=Region.wanted o (yielded ops a.tmps)):Qbz P ops o v a' w:=by
 unfold Qbz at *
 rw [he,hw];exact hy
theorem _root_.Go.Yields.atW {o:Oper} {v:Value} (hy:Yields P ops o v a) (w:World):Qbz P ops o v a w:=by
 rcases hy with ⟨h,hv⟩ | h
 . exact .inl ⟨h,hv w⟩
 . exact .inr h
theorem Qbz.det {o:Oper} {v v':Value} (hy:Qbz P ops o v a w) (hy':Qbz P ops o v' a w):v=v':=by
 rcases hy with ⟨h,hv⟩ | ⟨h,rfl⟩ <;> rcases hy' with ⟨h',hv'⟩ | ⟨h',rfl⟩
 . rw [hv] at hv';simpa using hv'
 . rw [h] at h';cases h'
 . rw [h] at h';cases h'
 . rfl
theorem Qym {l:List Nat} (hK:∀ a w,K a w->K' a w):∀ {a:Act} {w:World},wpY P ops cls K l a w->wpY P ops cls K' l a w:=by
 induction l with
 | nil=>intro a w h;exact hK a w h
 | cons i l ih =>
   intro a w h;obtain ⟨o,ho,h⟩:=h;refine ⟨o,ho,?_⟩;split at h
   . obtain ⟨v,hy,h⟩:=h;exact ⟨v,hy,ih h⟩
   . obtain ⟨v,hy,h⟩:=h;exact ⟨v,hy,ih h⟩
   . exact wpOp_mono (fun _ _=>ih) h
theorem Qyo {i:Nat} {l l':List Nat} (hK:∀ a w,wpY P ops cls K l a w->wpY P ops cls K l' a w) (h:wpY P ops cls K (i::l) a w):wpY P ops cls K (i::l') a w:=by
 obtain ⟨o,ho,h⟩:=h;refine ⟨o,ho,?_⟩;split at h
 . obtain ⟨v,hy,h⟩:=h;exact ⟨v,hy,hK _ _ h⟩
 . obtain ⟨v,hy,h⟩:=h;exact ⟨v,hy,hK _ _ h⟩
 . exact wpOp_mono hK h
def Qzm:Op->Bool
 | .select ..=>true
 | _=>false
theorem Qpz {o:Oper} (h:Qzm o.op=false):∀ cs b,o.op ≠ .select cs b:=fun cs b hh=>by rw [hh] at h;cases h
theorem Apart.put {x y:Oper} (h:x.apart ops y=true) (hs:Qzm y.op=false) (a:Act) (v:Value) :
 execOp (a.put x.dst v).eval y=execOp a.eval y/\Region.wanted y (yielded ops (a.put x.dst v).tmps)=Region.wanted y (yielded ops a.tmps):=by
 obtain ⟨h1,h2,h3⟩:=Oper.apart_spec h;exact ⟨execOp_put y (Qpz hs) a x.dst v h1,wanted_put y a x.dst v h1⟩
theorem Qiz {x y:Oper} (h:x.apart ops y=true):y.apart ops x=true:=by
 obtain ⟨h1,h2,h3⟩:=Oper.apart_spec h;unfold Oper.apart;simp only [Kac];constructor
 . cases hd:y.dst with
   | none=>rfl
   | some d =>
     have a1:=h3 d hd;have a2:x.dst ≠ some d:=fun hx=>h2 d hx hd;simp only [Kac,Kby,bne_iff_ne,ne_eq];exact ⟨by simpa using a1,a2⟩
 . cases hd:x.dst with
   | none=>rfl
   | some d=>simpa using h1 d hd
theorem Jf2 {i:Nat} {x y:Oper} (hi:ops[i]? = some x) (hap:x.apart ops y=true) (hsx:Qzm x.op=false) (hsy:Qzm y.op=false)
 (h:wpOp P ops QF i (fun a' w'=>∃ v,Yields P ops y v a'/\K (a'.put y.dst v) w') a w):∃ v,Yields P ops y v a/\wpOp P ops QF i K (a.put y.dst v) w:=by
 obtain ⟨h1,h2,h3⟩:=Oper.apart_spec hap;have hap':=Qiz hap;have back:∀ (a:Act) u v,Yields P ops y v (a.put x.dst u)->Yields P ops y v a:=fun a u v hy =>
  let ⟨e1,e2⟩:=Apart.put hap hsy a u
  hy.of_same e1.symm e2.symm
 have det:∀ {a:Act} {v v':Value},Yields P ops y v a->Yields P ops y v' a->v=v':=fun hy hy'=>(hy.atW w).det (hy'.atW w);have keepD:∀ {a:Act} {d v},Yields P ops y v { a with defers:=d::a.defers }->Yields P ops y v a:=fun hy=>hy.of_same rfl rfl;have step:∀ {u w'},(∃ v,Yields P ops y v (a.put x.dst u)/\K ((a.put x.dst u).put y.dst v) w')->∃ v,Yields P ops y v a/\K ((a.put y.dst v).put x.dst u) w':=by
  rintro u w' ⟨v,hy,hk⟩;refine ⟨v,back a u v hy,?_⟩;rw [<- Act.put_comm a u v h2];exact hk
 unfold wpOp at h;simp only [hi] at h;obtain ⟨e1,e2⟩:(∀ v,execOp (a.put y.dst v).eval x=execOp a.eval x)/\(∀ v,Region.wanted x (yielded ops (a.put y.dst v).tmps)=Region.wanted x (yielded ops a.tmps)) :=
  ⟨fun v=>(Apart.put hap' hsx a v).1,fun v=>(Apart.put hap' hsx a v).2⟩
 split at h
 . rename_i hw;rcases h with h | ⟨_,a0,w0,h⟩;rotate_left
   . exact h.elim
   unfold Oper.wp at h;have fin:∀ v,(x.upon P (a.put y.dst v) K QF ((execOp a.eval x).run P w))->wpOp P ops QF i K (a.put y.dst v) w:=fun v hh=>by
    unfold wpOp;simp only [hi,e2,hw,if_true];exact .inl (by unfold Oper.wp;rw [e1];exact hh)
   generalize hr:(execOp a.eval x).run P w=r at *
   cases r with
   | ok n w' =>
     cases n <;> simp only [Oper.upon] at h
     case value u =>
      obtain ⟨v,hy,hk⟩:=step h;exact ⟨v,hy,fin v (by simp only [Oper.upon];exact hk)⟩
     case skip =>
      obtain ⟨v,hy,hk⟩:=step h;exact ⟨v,hy,fin v (by simp only [Oper.upon];exact hk)⟩
     case defer d =>
      obtain ⟨v,hy,hk⟩:=h;have hy':Yields P ops y v a:=back a undef v (by rw [<- Act.put_defers] at hy;exact keepD hy);refine ⟨v,hy',fin v ?_⟩;simp only [Oper.upon];rw [Act.put_defers,<- Act.put_comm _ undef v h2];exact hk
     case enter f args =>
      obtain ⟨e,w1,fr,he,-⟩:=h [];cases e with
      | panicked c=>exact he.elim
      | outgrown=>obtain ⟨_,_,he⟩:=he;exact he.elim
      | returned u =>
        obtain ⟨v,hy,hk⟩:=step he;refine ⟨v,hy,fin v ?_⟩;simp only [Oper.upon];refine Calls.mono h fun e w2 he2=>?_;cases e with
        | panicked c=>exact he2.elim
        | outgrown=>obtain ⟨_,_,he2⟩:=he2;exact he2.elim
        | returned u2 =>
          obtain ⟨v2,hy2,hk2⟩:=step he2;have:=det hy hy2;subst this;exact hk2
     case row row args =>
      obtain ⟨u,w1,he,-⟩:=h default [];obtain ⟨v,hy,hk⟩:=step he;refine ⟨v,hy,fin v ?_⟩;simp only [Oper.upon];refine Rows.mono h fun u2 w2 he2=>?_;obtain ⟨v2,hy2,hk2⟩:=step he2;have:=det hy hy2;subst this;exact hk2
   | halt z w'=>cases z <;> simp only [Oper.upon] at h <;> exact h.elim
 . rename_i hw;obtain ⟨v,hy,hk⟩:=step h;refine ⟨v,hy,?_⟩;unfold wpOp;simp only [hi,e2,hw,Kap,Kbs];exact hk
def Qd9 (ops:Array Oper) (cls:Nat->Cls) (i j:Nat):Bool:=match ops[i]?,ops[j]? with
 | some x,some y=>x.apart ops y && !Qzm x.op && !Qzm y.op && (decide (cls i=.reg) || decide (cls j=.reg) || (decide (cls i=.ld) && decide (cls j=.ld)))
 | _,_=>false
theorem Qu1 {i j:Nat} (h:Qd9 ops cls i j=true):Qd9 ops cls j i=true:=by
 unfold Qd9 at *
 split at h
 . rename_i x y hx hy;simp only [Kac,Kbj,Kai] at h |-;obtain ⟨⟨⟨h1,h2⟩,h3⟩,h4⟩:=h;simp only [hx,hy,Kac,Kbj,Kai];refine ⟨⟨⟨Qiz h1,h3⟩,h2⟩,?_⟩;rcases h4 with (h4 | h4) | h4
   . exact .inl (.inr h4)
   . exact .inl (.inl h4)
   . exact .inr ⟨h4.2,h4.1⟩
 . cases h
theorem Jng {i j:Nat} {l:List Nat} (hd:Qd9 ops cls i j=true) (h:wpY P ops cls K (i::j::l) a w):wpY P ops cls K (j::i::l) a w:=by
 unfold Qd9 at hd;split at hd;rotate_left
 . cases hd
 rename_i x y hx hy;simp only [Kac,Kbj,Kai,Kby] at hd;obtain ⟨⟨⟨hap,hsx⟩,hsy⟩,hc⟩:=hd;have hap':=Qiz hap;obtain ⟨h1,h2,h3⟩:=Oper.apart_spec hap;simp only [wpY,hx,hy,Kaa,exists_eq_left'] at h |-;have both:∀ {vi vj},Qbz P ops x vi a w->Qbz P ops y vj (a.put x.dst vi) w->Qbz P ops y vj a w/\Qbz P ops x vi (a.put y.dst vj) w:=by
  intro vi vj hi hj;obtain ⟨e1,e2⟩:=Apart.put hap hsy a vi;obtain ⟨e3,e4⟩:=Apart.put hap' hsx a vj;exact ⟨hj.of_same e1.symm e2.symm,hi.of_same e3 e4⟩
 have bothY:∀ {vi vj},Yields P ops y vj (a.put x.dst vi)->Yields P ops y vj a:=by
  intro vi vj hj;obtain ⟨e1,e2⟩:=Apart.put hap hsy a vi;exact hj.of_same e1.symm e2.symm
 have bothX:∀ {vi vj},Yields P ops x vi a->Yields P ops x vi (a.put y.dst vj):=by
  intro vi vj hi;obtain ⟨e3,e4⟩:=Apart.put hap' hsx a vj;exact hi.of_same e3 e4
 cases hci:cls i <;> cases hcj:cls j <;> simp only [hci,hcj] at h |-
 . obtain ⟨vi,hi,vj,hj,hk⟩:=h;exact ⟨vj,bothY hj,vi,bothX hi,by rw [<- Act.put_comm a vi vj h2];exact hk⟩
 . obtain ⟨vi,hi,vj,hj,hk⟩:=h;exact ⟨vj,(both (hi.atW w) hj).1,vi,bothX hi,by rw [<- Act.put_comm a vi vj h2];exact hk⟩
 . obtain ⟨vi,hi,hk⟩:=h;have:=wpOp_put hy hap (Qpz hsx) (Qpz hsy) (fun _ _ _ hh=>hh) hi hk;exact wpOp_mono (fun a' w' hh=>⟨vi,hh⟩) this
 . obtain ⟨vi,hi,vj,hj,hk⟩:=h;exact ⟨vj,bothY hj,vi,(both hi (hj.atW w)).2,by rw [<- Act.put_comm a vi vj h2];exact hk⟩
 . obtain ⟨vi,hi,vj,hj,hk⟩:=h;exact ⟨vj,(both hi hj).1,vi,(both hi hj).2,by rw [<- Act.put_comm a vi vj h2];exact hk⟩
 . simp [hci,hcj] at hc
 . obtain ⟨v,hy',hh⟩:=Jf2 hx hap hsx hsy h;exact ⟨v,hy',hh⟩
 . simp [hci,hcj] at hc
 . simp [hci,hcj] at hc
theorem Jf4 {x:Nat} {l1 l2:List Nat}:∀ {a:Act} {w:World},(∀ y ∈ l1,Qd9 ops cls y x=true)->wpY P ops cls K (l1++x::l2) a w->wpY P ops cls K (x::(l1++l2)) a w:=by
 induction l1 with
 | nil=>intro a w _ h;exact h
 | cons y l1 ih =>
   intro a w hall h;exact Jng (hall y (by simp)) (Qyo (fun a w hh=>ih (fun z hz=>hall z (by simp [hz])) hh) h)
theorem Qyn:∀ {σ τ:List Nat} {a:Act} {w:World},σ.Perm τ->τ.Nodup->(∀ i j,Qd9 ops cls i j=false->[i,j].Sublist τ->[i,j].Sublist σ)->wpY P ops cls K τ a w->wpY P ops cls K σ a w
 | [],τ,a,w,hp,_,_,h=>by
   have:τ=[]:=hp.symm.eq_nil;subst this;exact h
 | x::σ,τ,a,w,hp,hn,hd,h=>by
   have hx:x ∈ τ:=hp.subset (by simp);obtain ⟨l1,l2,rfl⟩:=List.append_of_mem hx;have hσn:(x::σ).Nodup:=hp.nodup_iff.2 hn;have hxσ:x ∉ σ:=(Kbq.1 hσn).1;have hp':σ.Perm (l1++l2):=(hp.trans List.perm_middle).cons_inv;have hsub:(l1++l2).Sublist (l1++x::l2):=List.Sublist.append (List.Sublist.refl _) (Kef _ _);have hn':(l1++l2).Nodup:=List.Sublist.nodup hsub hn;refine Qyo (l:=l1++l2) (fun a w hh=>Qyn hp' hn' (fun i j hi hs=>?_) hh) (Jf4 (fun y hy=>?_) h)
   . have:=hd i j hi (hs.trans hsub);cases this with
     | cons _ hh=>exact hh
     | cons_cons _ hh =>
       exfalso;have:x ∈ l1++l2:=hs.subset (by simp);exact hxσ (hp'.symm.subset this)
   . cases hind:Qd9 ops cls y x with
     | true=>rfl
     | false =>
       exfalso;have hs:[y,x].Sublist (l1++x::l2):=by
        have h1:[y].Sublist l1:=Kcy.2 hy;have h2:[x].Sublist (x::l2):=Kcy.2 (by simp);exact h1.append h2
       have:=hd y x hind hs;cases this with
       | cons _ hh=>exact hxσ (hh.subset (by simp))
       | cons_cons _ hh=>exact hxσ (hh.subset (by simp))
end
end Go.Idl
namespace Go.Idl
open Go
def unl (n:Nat) (listed:Array Bool):List Nat:=(List.range n).filter fun i=>!listed.getD i true
theorem Qp6 {n:Nat} {listed:Array Bool} {i:Nat}:i ∈ unl n listed <-> i < n/\listed.getD i true=false:=by
 simp [unl]
theorem Qml {listed:Array Bool} {i:Nat} (h:i < listed.size):listed.getD i true=listed.getD i false:=by
 simp [Kcc,h]
section
variable {md:Region.Mode} {ops:Array Oper}
def Qo5 (md:Region.Mode) (ops:Array Oper):Bool:=ops.toList.zipIdx.all fun (o,i)=>o.after.toList.all fun e=>!Region.binds md e || decide (e.on < i)
theorem Qyt (h:Qo5 md ops=true) {i:Nat} {o:Oper} (ho:ops[i]? = some o) {e:Edge} (he:e ∈ o.after) (hb:Region.binds md e=true):e.on < i:=by
 unfold Qo5 at h;rw [Kaj] at h;have:=h (o,i) (by
  rw [List.mem_zipIdx_iff_getElem?];simpa using ho)
 simp only [Kaj] at this;have:=this e (by simpa using he);simpa [hb] using this
theorem Qz3 (h:Qo5 md ops=true) {listed:Array Bool} (hs:listed.size=ops.size) (hne:unl ops.size listed ≠ []):Region.ready md ops listed ≠ []:=by
 obtain ⟨i,hi⟩:=List.exists_mem_of_ne_nil _ hne;have:∃ m,m ∈ unl ops.size listed/\∀ j,j < m->j ∉ unl ops.size listed:=by
  induction i using Nat.strongRecOn with
  | _ i ih =>
    by_cases hex:∃ j,j < i/\j ∈ unl ops.size listed
    . obtain ⟨j,hj,hju⟩:=hex;exact ih j hj hju
    . exact ⟨i,hi,fun j hj hju=>hex ⟨j,hj,hju⟩⟩
 obtain ⟨m,hm,hmin⟩:=this;obtain ⟨hmlt,hmf⟩:=Qp6.1 hm;have hmem:m ∈ Region.ready md ops listed:=by
  rw [mem_ready];refine ⟨hmf,ops[m],by simp [hmlt],fun e he hb=>?_⟩;have hlt:=Qyt h (i:=m) (o:=ops[m]) (by simp [hmlt]) he hb;have hn:=hmin _ hlt;rw [Qp6] at hn;have hlt':e.on < ops.size:=by omega
  rw [<- Qml (by omega)];cases hv:listed.getD e.on true with
  | true=>rfl
  | false=>exact absurd ⟨hlt',hv⟩ hn
 intro h0;rw [h0] at hmem;cases hmem
theorem Jt2 {n i:Nat} {listed:Array Bool} (hi:i < listed.size):unl n (listed.setIfInBounds i true)=(unl n listed).filter (· != i):=by
 unfold unl;rw [List.filter_filter];apply Kel;intro j _;by_cases hj:j=i
 . subst hj;simp [Kcc,hi]
 . have:i ≠ j:=fun h=>hj h.symm;simp [Kcc,Key this,hj]
theorem go_eq (fuel t:Nat) (listed:Array Bool):Region.linearise.go md ops (fuel+1) t listed []=match (Region.ready md ops listed)[t % (Region.ready md ops listed).length]? with
 | some i=>i::Region.linearise.go md ops fuel (t / (Region.ready md ops listed).length) (listed.setIfInBounds i true) []
 | none=>[]:=by
 change (match (Region.ready md ops listed)[t % (Region.ready md ops listed).length]? with
  | some i=>Region.linearise.go md ops fuel (t / (Region.ready md ops listed).length) (listed.setIfInBounds i true) [i]
  | none=>[].reverse)=_
 split
 . rw [linearise_go_acc];rfl
 . rfl
theorem Jsm (hb:Qo5 md ops=true):∀ (fuel t:Nat) (listed:Array Bool),listed.size=ops.size->(unl ops.size listed).length<=fuel ->
 (Region.linearise.go md ops fuel t listed []).Nodup/\(∀ i,i ∈ Region.linearise.go md ops fuel t listed [] <-> i ∈ unl ops.size listed) /\
 ∀ i o e,i ∈ Region.linearise.go md ops fuel t listed []->ops[i]? = some o->e ∈ o.after->Region.binds md e=true->listed.getD e.on false=true \/ [e.on,i].Sublist (Region.linearise.go md ops fuel t listed []):=by
 intro fuel
 induction fuel with
 | zero =>
   intro t listed hs hl;have h0:unl ops.size listed=[]:=Kfc (by omega);have:Region.linearise.go md ops 0 t listed []=[]:=rfl;rw [this,h0];exact ⟨Kez,by simp,fun i o e hi=>by cases hi⟩
 | succ fuel ih =>
   intro t listed hs hl;rw [go_eq];split
   . rename_i i hi;have hir:i ∈ Region.ready md ops listed:=Kbn hi;obtain ⟨hif,o,ho,hed⟩:=mem_ready.1 hir;have hilt:i < ops.size:=(Kem.1 ho).1;have hiu:i ∈ unl ops.size listed:=Qp6.2 ⟨hilt,hif⟩;have hu:=Jt2 (n:=ops.size) (i:=i) (listed:=listed) (by omega);have hlen:(unl ops.size (listed.setIfInBounds i true)).length<=fuel:=by
      rw [hu];have:((unl ops.size listed).filter (· != i)).length < (unl ops.size listed).length:=by
       rw [List.length_filter_lt_length_iff_exists];exact ⟨i,hiu,by simp⟩
      omega
     obtain ⟨h1,h2,h3⟩:=ih (t / (Region.ready md ops listed).length) (listed.setIfInBounds i true) (by simpa using hs) hlen;refine ⟨Kbq.2 ⟨?_,h1⟩,?_,?_⟩
     . rw [h2,hu];simp
     . intro j;rw [Kaf,h2,hu,Kbr];constructor
       . rintro (rfl | hj)
         . exact hiu
         . exact hj.1
       . intro hj;by_cases hji:j=i
         . exact .inl hji
         . exact .inr ⟨hj,by simpa using hji⟩
     . intro j oj e hj hoj he hbe;rcases Kaf.1 hj with rfl | hj
       . rw [ho] at hoj;cases hoj;exact .inl (hed e he hbe)
       . rcases h3 j oj e hj hoj he hbe with h | h
         . by_cases hei:e.on=i
           . right;rw [hei];exact Kex i (Kcy.2 hj)
           . left;rw [<- h];have:i ≠ e.on:=fun h=>hei h.symm;simp [Kcc,Key this]
         . exact .inr (h.cons _)
   . rename_i hi;have h0:unl ops.size listed=[]:=by
      cases hq:unl ops.size listed with
      | nil=>rfl
      | cons x xs =>
        exfalso;have hne:=Qz3 hb hs (by rw [hq];simp);have hpos:0 < (Region.ready md ops listed).length:=List.length_pos_iff.2 hne;have:=Nat.mod_lt t hpos;rw [List.getElem?_eq_none_iff] at hi;omega
     rw [h0];exact ⟨Kez,by simp,fun i o e hi=>by cases hi⟩
def Jd2 (md:Region.Mode) (o:Oper) (acc:List Nat):Nat:=o.after.toList.foldl (fun s e=>if Region.binds md e then s ||| (2 ^ e.on ||| acc.getD e.on 0) else s) 0
def clo (md:Region.Mode):List Oper->List Nat->List Nat
 | [],acc=>acc
 | o::r,acc=>clo md r (acc++[Jd2 md o acc])
structure Lin (md:Region.Mode) (ops:Array Oper) (σ:List Nat):Prop where
 nodup:σ.Nodup
 mem:∀ i,i ∈ σ <-> i < ops.size
 edge:∀ i o e,ops[i]? = some o->e ∈ o.after->Region.binds md e=true->[e.on,i].Sublist σ
theorem Qgu {σ:List Nat} (hn:σ.Nodup) {i j k:Nat} (h:[i,j].Sublist σ) (h':[j,k].Sublist σ):[i,k].Sublist σ:=by
 induction σ with
 | nil=>cases h
 | cons x σ ih =>
   have hx:=Kbq.1 hn;cases h with
   | cons _ h1 =>
     cases h' with
     | cons _ h2=>exact (ih hx.2 h1 h2).cons _
     | cons_cons _ h2=>exact absurd (h1.subset (by simp)) hx.1
   | cons_cons _ h1 =>
     cases h' with
     | cons _ h2=>exact Kex _ (Kcy.2 (h2.subset (by simp)))
     | cons_cons _ h2=>exact absurd (Kcy.1 h1) hx.1
theorem Qqr {σ:List Nat} (hn:σ.Nodup) {i j:Nat} (h:[i,j].Sublist σ):i ≠ j:=by
 have:=h.nodup hn;simpa using this
theorem Qbw {σ:List Nat} (hn:σ.Nodup) {i j:Nat} (h:[i,j].Sublist σ) (h':[j,i].Sublist σ):False :=
 Qqr hn (Qgu hn h h') rfl
theorem Qou {σ:List Nat} {i j:Nat} (hi:i ∈ σ) (hj:j ∈ σ) (hne:i ≠ j):[i,j].Sublist σ \/ [j,i].Sublist σ:=by
 induction σ with
 | nil=>cases hi
 | cons x σ ih =>
   rcases Kaf.1 hi with h1 | h1 <;> rcases Kaf.1 hj with h2 | h2
   . exact absurd (h1.trans h2.symm) hne
   . rw [h1];exact .inl (Kex _ (Kcy.2 h2))
   . rw [h2];exact .inr (Kex _ (Kcy.2 h1))
   . exact (ih h1 h2).imp (·.cons _) (·.cons _)
theorem Jd3 {σ:List Nat} {o:Oper} {acc:List Nat} {j:Nat} (hn:σ.Nodup) (hacc:∀ k i,(acc.getD k 0).testBit i=true->[i,k].Sublist σ) (hed:∀ e ∈ o.after.toList,Region.binds md e=true->[e.on,j].Sublist σ) :
 ∀ i,(Jd2 md o acc).testBit i=true->[i,j].Sublist σ:=by
 have key:∀ (l:List Edge) (s:Nat),(∀ e ∈ l,Region.binds md e=true->[e.on,j].Sublist σ)->(∀ i,s.testBit i=true->[i,j].Sublist σ) ->
  ∀ i,(l.foldl (fun s e=>if Region.binds md e then s ||| (2 ^ e.on ||| acc.getD e.on 0) else s) s).testBit i=true->[i,j].Sublist σ:=by
  intro l
  induction l with
  | nil=>intro s _ hs i hi;exact hs i hi
  | cons e l ih =>
    intro s hl hs i hi;rw [Kdv] at hi;refine ih _ (fun e' he'=>hl e' (by simp [he'])) ?_ i hi;intro i hi;split at hi
    . rename_i hbe;have hej:=hl e (by simp) hbe;simp only [Nat.testBit_or,Kbj] at hi;rcases hi with hi | hi | hi
      . exact hs i hi
      . rw [Nat.testBit_two_pow] at hi;have:e.on=i:=by simpa using hi
        rw [<- this];exact hej
      . exact Qgu hn (hacc _ _ hi) hej
    . exact hs i hi
 exact key _ 0 hed (by simp)
theorem Qo9 {σ:List Nat} (hL:Lin md ops σ):∀ (l:List Oper) (acc:List Nat),(∀ k o,l[k]? = some o->ops[acc.length+k]? = some o)->(∀ k i,(acc.getD k 0).testBit i=true->[i,k].Sublist σ) ->
 ∀ k i,((clo md l acc).getD k 0).testBit i=true->[i,k].Sublist σ
 | [],acc,_,hacc=>hacc
 | o::l,acc,hl,hacc=>by
   have ho:ops[acc.length]? = some o:=by simpa using hl 0 o rfl
   refine Qo9 hL l (acc++[Jd2 md o acc]) (fun k o' hk=>?_) (fun k i hi=>?_)
   . have:=hl (k+1) o' (by simpa using hk);simpa [Kcq,Nat.add_comm 1 k] using this
   . by_cases hk:k < acc.length
     . rw [Kad,Kba hk,<- Kad] at hi;exact hacc k i hi
     . by_cases hk':k=acc.length
       . subst hk';rw [Kad,Kat (by omega)] at hi;simp only [Nat.sub_self,Kcs,Kdf] at hi;exact Jd3 hL.nodup hacc (fun e he hb=>hL.edge _ o e ho (by simpa using he) hb) i hi
       . rw [Kad,Kar (by simp;omega)] at hi;simp at hi
theorem Jpo (hb:Qo5 md ops=true) (t:Nat):Lin md ops (Region.linearise md ops t):=by
 have hu:∀ i,i ∈ unl ops.size (Array.replicate ops.size false) <-> i < ops.size:=fun i=>by
  rw [Qp6];constructor
  . exact fun h=>h.1
  . intro h;refine ⟨h,?_⟩;simp [Kcc,h]
 have hlen:(unl ops.size (Array.replicate ops.size false)).length<=ops.size:=by
  unfold unl;exact Kcp (Kei _ _) (by simp)
 obtain ⟨h1,h2,h3⟩:=Jsm hb ops.size t (Array.replicate ops.size false) (by simp) hlen;refine ⟨h1,fun i=>(h2 i).trans (hu i),fun i o e ho he hbe=>?_⟩;have hi:i < ops.size:=(Kem.1 ho).1;rcases h3 i o e ((h2 i).2 ((hu i).2 hi)) ho he hbe with h | h
 . exfalso;by_cases hlt:e.on < ops.size <;> simp [Kcc,hlt] at h
 . exact h
def bef:List Nat->Nat->Nat->Bool
 | [],_,_=>false
 | x::r,i,j=>if x=i then r.contains j else if x=j then false else bef r i j
theorem Qd2 {i j:Nat}:∀ {l:List Nat},bef l i j=true->[i,j].Sublist l
 | [],h=>by cases h
 | x::r,h=>by
   simp only [bef] at h;split at h
   . rename_i hx;subst hx;exact Kex _ (Kcy.2 (by simpa using h))
   . split at h
     . cases h
     . exact (Qd2 h).cons _
def forced (c:List Nat) (E:List (Nat×Nat)) (y x:Nat):Bool:=E.any fun p=>(y == p.1 || (c.getD p.1 0).testBit y) && (p.2 == x || (c.getD x 0).testBit p.2)
def cov (c:List Nat):List (Nat×Nat)->List (Nat×Nat)->List (List Nat)->Bool
 | [],_,cs=>!cs.isEmpty
 | (i,j)::r,E,cs=>(forced c E j i || cov c r ((i,j)::E) (cs.filter fun τ=>bef τ i j)) && (forced c E i j || cov c r ((j,i)::E) (cs.filter fun τ=>bef τ j i))
theorem Qe3 {σ:List Nat} (hn:σ.Nodup) {c:List Nat} (hc:∀ k i,(c.getD k 0).testBit i=true->[i,k].Sublist σ) {E:List (Nat×Nat)} (hE:∀ i j,(i,j) ∈ E->[i,j].Sublist σ) {y x:Nat} (h:forced c E y x=true) :
 [y,x].Sublist σ:=by
 unfold forced at h;rw [Kfb] at h;obtain ⟨⟨u,v⟩,hm,h⟩:=h;simp only [Kac,Kbj,Kbt] at h;have huv:=hE u v hm;have h1:[y,v].Sublist σ:=by
  rcases h.1 with rfl | h1
  . exact huv
  . exact Qgu hn (hc _ _ h1) huv
 rcases h.2 with rfl | h2
 . exact h1
 . exact Qgu hn h1 (hc _ _ h2)
theorem Qpb {σ:List Nat} (hn:σ.Nodup) {c:List Nat} (hc:∀ k i,(c.getD k 0).testBit i=true->[i,k].Sublist σ):∀ {A E:List (Nat×Nat)} {cs:List (List Nat)},(∀ i j,(i,j) ∈ A->i ∈ σ/\j ∈ σ/\i ≠ j) ->
 (∀ i j,(i,j) ∈ E->[i,j].Sublist σ)->cov c A E cs=true ->
 ∃ τ ∈ cs,∀ i j,(i,j) ∈ A->(([i,j].Sublist σ/\[i,j].Sublist τ) \/ ([j,i].Sublist σ/\[j,i].Sublist τ))
 | [],E,cs,_,_,h=>by
   cases cs with
   | nil=>simp [cov] at h
   | cons τ cs=>exact ⟨τ,by simp,by simp⟩
 | (i,j)::A,E,cs,hA,hE,h=>by
   simp only [cov,Kac,Kbj] at h;obtain ⟨h1,h2,h3⟩:=hA i j (by simp);have hA':∀ i j,(i,j) ∈ A->i ∈ σ/\j ∈ σ/\i ≠ j:=fun i j hm=>hA i j (by simp [hm]);rcases Qou h1 h2 h3 with hs | hs
   . have hcv:=h.1.resolve_left (fun hf=>Qbw hn hs (Qe3 hn hc hE hf));obtain ⟨τ,hτ,ht⟩:=Qpb hn hc hA' (fun a b hm=>by
      rcases Kaf.1 hm with he | hm
      . cases he;exact hs
      . exact hE a b hm) hcv
     rw [Kbr] at hτ;refine ⟨τ,hτ.1,fun a b hm=>?_⟩;rcases Kaf.1 hm with he | hm
     . cases he;exact .inl ⟨hs,Qd2 hτ.2⟩
     . exact ht a b hm
   . have hcv:=h.2.resolve_left (fun hf=>Qbw hn hs (Qe3 hn hc hE hf));obtain ⟨τ,hτ,ht⟩:=Qpb hn hc hA' (fun a b hm=>by
      rcases Kaf.1 hm with he | hm
      . cases he;exact hs
      . exact hE a b hm) hcv
     rw [Kbr] at hτ;refine ⟨τ,hτ.1,fun a b hm=>?_⟩;rcases Kaf.1 hm with he | hm
     . cases he;exact .inr ⟨hs,Qd2 hτ.2⟩
     . exact ht a b hm
def deps (ops:Array Oper) (cls:Nat->Cls) (n:Nat):List (Nat×Nat) :=
 (List.range n).flatMap fun j=>(List.range j).filterMap fun i=>if Qd9 ops cls i j then none else some (i,j)
theorem Qxr {cls:Nat->Cls} {n i j:Nat}:(i,j) ∈ deps ops cls n <-> i < j/\j < n/\Qd9 ops cls i j=false:=by
 unfold deps;rw [List.mem_flatMap];constructor
 . rintro ⟨j',hj',hm⟩;rw [List.mem_filterMap] at hm;obtain ⟨i',hi',he⟩:=hm;split at he
   . cases he
   . rename_i hf;simp only [Kaa,Kab] at he;obtain ⟨rfl,rfl⟩:=he;exact ⟨Kaz.1 hi',Kaz.1 hj',by simpa using hf⟩
 . rintro ⟨h1,h2,h3⟩;exact ⟨j,Kaz.2 h2,List.mem_filterMap.2 ⟨i,Kaz.2 h1,by simp [h3]⟩⟩
def Jml (τ:List Nat) (n:Nat):Bool:=τ.length == n && (List.range n).all fun i=>τ.contains i
theorem Qu8 {τ l:List Nat} (hn:l.Nodup) (h:∀ x ∈ l,x ∈ τ) (hl:τ.length=l.length):τ.Perm l:=by
 induction l generalizing τ with
 | nil=>simp at hl;subst hl;exact List.Perm.refl _
 | cons x l ih =>
   obtain ⟨a,b,rfl⟩:=List.append_of_mem (h x (by simp));have hx:=Kbq.1 hn;have:=ih (τ:=a++b) hx.2 (fun y hy=>by
    have h1:=h y (by simp [hy]);simp only [Kah,Kaf] at h1 |-;rcases h1 with h1 | h1 | h1
    . exact .inl h1
    . exact absurd (h1 ▸ hy) hx.1
    . exact .inr h1) (by simp at hl |-;omega)
   exact List.perm_middle.trans (this.cons x)
theorem Qjf {τ:List Nat} {n:Nat} (h:Jml τ n=true):τ.Perm (List.range n):=by
 unfold Jml at h;simp only [Kac,Kbt] at h;refine Qu8 List.nodup_range (fun x hx=>?_) (by simp [h.1]);simpa using Kaj.1 h.2 x hx
def Qt9 (ops:Array Oper) (cls:Nat->Cls) (alts:List (List Nat)):Bool :=
 let c:=clo .any ops.toList []
 let D:=deps ops cls ops.size
 let A:=D.filter fun p=>!(c.getD p.2 0).testBit p.1
 let cs:=List.range ops.size::alts
 Qo5 .any ops && (alts.all fun τ=>Jml τ ops.size) && (cs.all fun τ=>D.all fun p=>!(c.getD p.2 0).testBit p.1 || bef τ p.1 p.2) && cov c A [] cs
theorem Qyz {cls:Nat->Cls} {alts:List (List Nat)} (h:Qt9 ops cls alts=true) {σ:List Nat} (hL:Lin .any ops σ) :
 ∃ τ ∈ List.range ops.size::alts,σ.Perm τ/\τ.Nodup/\∀ i j,Qd9 ops cls i j=false->[i,j].Sublist τ->[i,j].Sublist σ:=by
 unfold Qt9 at h;simp only [Kac] at h;obtain ⟨⟨⟨hb,hperm⟩,hclo⟩,hcov⟩:=h;have hc:=Qo9 hL ops.toList [] (fun k o hk=>by simpa using hk) (fun k i hi=>by simp at hi);obtain ⟨τ,hτ,ht⟩:=Qpb hL.nodup hc (fun i j hm=>by
  rw [Kbr] at hm;obtain ⟨h1,h2,h3⟩:=Qxr.1 hm.1;exact ⟨(hL.mem i).2 (by omega),(hL.mem j).2 h2,by omega⟩) (by simp) hcov
 have hpτ:τ.Perm (List.range ops.size):=by
  rcases Kaf.1 hτ with rfl | hm
  . exact List.Perm.refl _
  . rw [Kaj] at hperm;exact Qjf (hperm τ hm)
 have hpσ:σ.Perm (List.range ops.size):=by
  rw [List.perm_ext_iff_of_nodup hL.nodup List.nodup_range];intro i;rw [hL.mem,Kaz]
 have hnτ:τ.Nodup:=hpτ.nodup_iff.2 List.nodup_range;refine ⟨τ,hτ,hpσ.trans hpτ.symm,hnτ,?_⟩;have main:∀ i j,i < j->Qd9 ops cls i j=false->j < ops.size->(([i,j].Sublist σ/\[i,j].Sublist τ) \/ ([j,i].Sublist σ/\[j,i].Sublist τ)):=by
  intro i j hij hi hj;have hD:=Qxr.2 ⟨hij,hj,hi⟩;cases hbit:((clo .any ops.toList []).getD j 0).testBit i with
  | true =>
    have h1:=hc j i hbit;rw [Kaj] at hclo;have h2:=hclo τ hτ;rw [Kaj] at h2;have h3:=h2 (i,j) hD;simp only [hbit,Kdy,Kdz] at h3;exact .inl ⟨h1,Qd2 h3⟩
  | false=>exact ht i j (Kbr.2 ⟨hD,by simp only [hbit,Bool.not_false]⟩)
 intro i j hi hs;have hne:=Qqr hnτ hs;have hil:i < ops.size:=Kaz.1 (hpτ.subset (hs.subset (by simp)));have hjl:j < ops.size:=Kaz.1 (hpτ.subset (hs.subset (by simp)));rcases Nat.lt_or_gt_of_ne hne with hlt | hlt
 . rcases main i j hlt hi hjl with ⟨h1,h2⟩ | ⟨h1,h2⟩
   . exact h1
   . exact (Qbw hnτ hs h2).elim
 . have hi':Qd9 ops cls j i=false:=by
    cases hq:Qd9 ops cls j i with
    | false=>rfl
    | true=>rw [Qu1 hq] at hi;cases hi
   rcases main j i hlt hi' hil with ⟨h1,h2⟩ | ⟨h1,h2⟩
   . exact (Qbw hnτ hs h2).elim
   . exact h1
end
end Go.Idl
namespace Go.Idl
open Go
section
variable {cx:Cx} {w w':World} {F F':Nat->Prop} {ρ ρ':Rho} {fp fp':Fp} {X f f' fy:List Nat} {st st':St} {a:Act} {tm:Nat->Value} {v:IV}
end
end Go.Idl
namespace Go.Idl
open Go
def Jsx (P:Program):ResultVar->Jkf->Prop
 | .tmp t,.t s=>t=s
 | .cell a t,.c b sz ag=>a=b/\Qdu P t sz/\Qyr P t ag
 | _,_=>False
def Qxt (P:Program):List ResultVar->List Jkf->Prop
 | [],[]=>True
 | x::xs,y::ys=>Jsx P x y/\Qxt P xs ys
 | _,_=>False
def Qg5 (a:Act):ResultVar->Sem Value
 | .tmp t=>pure (a.tmps.getD t undef)
 | .cell b t=>do loadVar t (<- asAddr (a.tmps.getD b undef))
section
variable {cx:Cx} {w w':World} {F F':Nat->Prop} {ρ ρ':Rho} {fp fp':Fp} {X f f' fy:List Nat} {st st':St} {a:Act} {tm:Nat->Value} {v:IV}
theorem RA.keep {x:IV} {u:Value} (h:RA cx w F ρ st x u f) (hs:Qbf st st'):RA cx w F ρ st' x u f :=
 ⟨h.frame (fun _ _=>rfl) (fun _ _=>rfl) (fun _ h=>h) (fun l k hb=>⟨rfl,hs.box hb⟩),h.2⟩
theorem Jpr {cs:List IV} {us:Array Value} {lk} (hc:Cat (RC cx w F ρ st lk) cs us.toList f) (hd:∀ y ∈ cs,y.isD=true):RA cx w F ρ st (.agg cs) (.agg us) f :=
 ⟨⟨us,rfl,hc.mono fun x v f _ hx hm=>hx.toNo (hd x hm)⟩,by simpa [IV.isA] using hd⟩
theorem Jps {x:IV} {u:Value} {lk} (hx:RC cx w F ρ st lk x u f) (hd:x.isD=true):RA cx w F ρ st x u f:=by
 have:=hx.toNo (cx:=cx) (ρ:=ρ) (st:=st) hd;refine ⟨?_,?_⟩
 . cases x with
   | agg cs=>simp [IV.isD] at hd
   | un=>simp [IV.isD] at hd
   | _=>exact this
 . cases x with
   | agg cs=>simp [IV.isD] at hd
   | _=>exact hd
theorem Jtt (st:St) (T:Tm):Qbf st { st with T:=T }:=⟨rfl,Kam _⟩
theorem Jm7 (h:Rel cx w F ρ fp X st (Qah a)) {r:ResultVar} {x:Jkf} (hx:Jsx cx.P r x) (ha:st.retv x=some (v,st')) :
 ∃ fp' fv u,Rel cx w F ρ fp' (fv++X) st' (Qah a)/\RA cx w F ρ st' v u fv/\(Qg5 a r).run cx.P w=.ok u w/\(∀ b ∈ fv,∃ r,b ∈ fp r)/\(∀ r,∀ b ∈ fp' r,b ∈ fp r)/\Qbf st st':=by
 cases x with
 | t s =>
   cases r with
   | cell b t=>exact hx.elim
   | tmp t =>
   have hts:t=s:=hx;subst hts;have hrun:(Qg5 a (.tmp t)).run cx.P w=.ok (a.tmps.getD t undef) w:=rfl;obtain ⟨h1,h2⟩:=h.drop t;have hsub:∀ r,∀ b ∈ Qao fp (.S t) [] r,b ∈ fp r:=fun r b hb=>by
    unfold Qao at hb;split at hb
    . cases hb
    . exact hb
   simp only [St.retv] at ha;generalize hz:kl (IV.rooted (.S t)) (Qav st.T t)=z at *
   have one:∀ {y:IV},RC cx w F ρ { st with T:=dropSlot t st.T } (look { st with T:=dropSlot t st.T } (Qah a) ρ w) z (Qah a t) (fp (.S t))->({ st with T:=dropSlot t st.T }:St).absorb z=some (y,st') ->
    ∃ fp' fv u,Rel cx w F ρ fp' (fv++X) st' (Qah a)/\RA cx w F ρ st' y u fv/\(Qg5 a (.tmp t)).run cx.P w=.ok u w/\(∀ b ∈ fv,∃ r,b ∈ fp r)/\(∀ r,∀ b ∈ fp' r,b ∈ fp r)/\Qbf st st':=by
    intro y hz hab;obtain ⟨fp',f',k1,k2,k3,k4,k5,k6,-⟩:=h1.absorb hz hab;refine ⟨fp',f',Qah a t,k1,Jps k2 k3,hrun,fun b hb=>?_,fun r b hb=>hsub r b (k5 r b hb),(Jtt st _).trans k6⟩;rcases k4 b hb with hb | ⟨r,hb⟩
    . exact ⟨_,hb⟩
    . exact ⟨r,hsub r b hb⟩
   cases z with
   | agg cs =>
     simp only at ha;obtain ⟨C,hC,hc⟩:=h2;cases hab:({ st with T:=dropSlot t st.T }:St).absorbs cs with
     | none=>simp [hab] at ha
     | some p =>
     obtain ⟨ys,st2⟩:=p;simp only [hab,Kaa,Kab] at ha;obtain ⟨rfl,rfl⟩:=ha;obtain ⟨fp',fy,k1,k2,k3,k4,k5,k6⟩:=h1.absorbs hc hab;refine ⟨fp',fy,.agg C,k1,Jpr k2 k3,?_,fun b hb=>?_,fun r b hb=>hsub r b (k5 r b hb),(Jtt st _).trans k6⟩
     . rw [hrun,<- hC];rfl
     . rcases k4 b hb with hb | ⟨r,hb⟩
       . exact ⟨_,hb⟩
       . exact ⟨r,hsub r b hb⟩
   | tup vs=>simp [St.absorb] at ha
   | un=>simp [St.absorb] at ha
   | sc u=>exact one h2 ha
   | lst e es c=>exact one h2 ha
   | own e es=>exact one h2 ha
   | arr r c p e off n cl=>exact one h2 ha
   | eptr r c p i j=>simp [St.absorb] at ha
   | lptr e j=>simp [St.absorb] at ha
   | bptr l k c=>exact one h2 ha
   | fn g cs=>exact one h2 ha
 | c b sz ag =>
   cases r with
   | tmp t=>exact hx.elim
   | cell b' t =>
   obtain ⟨hb',hsz,hag⟩:=hx;subst hb';simp only [St.retv] at ha;split at ha;rotate_left
   . cases ha
   rename_i l k c hT;split at ha;rotate_left
   . cases ha
   rename_i cs hbox;split at ha;rotate_left
   . cases ha
   rename_i xs hsub;split at ha;rotate_left
   . cases ha
   rename_i hdat;split at ha;rotate_left
   . cases ha
   rename_i pv hp;simp only [Kaa,Kab] at ha;obtain ⟨rfl,rfl⟩:=ha;have hs:=h.slots b';rw [hT] at hs;have hptr:a.tmps.getD b' undef=.pointer (some ⟨ρ l k,c,none⟩):=by
    rcases hs with ⟨⟨hs,_⟩,_⟩ | hs
    . exact hs
    . cases hs
   obtain ⟨fp',fx,us,C,ty,k1,k2,k3,k4,k5,k6,k7,k8⟩:=h.takeBox hbox hsub;have hlen:=k2.len;have hxl:xs.length=sz:=by
    have hCs:C.toList.length=C.size:=Keq;rw [hlen,k4,Kas,Kco];omega
   have hdat':∀ y ∈ xs,y.isData=true:=by simpa using hdat
   have hcells:∀ j u,us[j]? = some u->w.cell? ((⟨ρ l k,c,none⟩:Addr).add j)=some u:=by
    intro j u hj;have hjl:j < sz:=by
     rcases Kbw j sz with hh | hh
     . exact hh
     . rw [Kar (by omega)] at hj;cases hj
    rw [k4,Qam hjl] at hj;rw [Qb0,Qau k3,hj]
   have hrc:Cat (RC cx w F ρ { st.setBox l k (splice cs c (List.replicate sz .un)) with T:=Qce (.B l k) st.T } Qsy) xs us fx :=
    k2.mono fun x u f _ hx hm=>(hx.lv (ρ':=ρ) (st':={ st.setBox l k (splice cs c (List.replicate sz .un)) with T:=Qce (.B l k) st.T }) (fun l' k' _ hb=>⟨rfl,k8.box hb⟩)).isData_rc (hdat' x hm)
   rcases Qs3 hp with ⟨rfl,rfl⟩ | ⟨rfl,y,rfl,rfl⟩
   . refine ⟨fp',fx,.agg us.toArray,k1,Jpr (by simpa using hrc) (fun y hy=>Qom (hdat' y hy)),?_,k6,k7,k8⟩;have:=run_loadCells_list (P:=cx.P) w ⟨ρ l k,c,none⟩ us hcells;rw [<- hlen,hxl] at this;simp [Qg5,hptr,asAddr,loadVar,Qgb hag,Qbu hsz,this]
   . cases us with
     | nil=>simp at hlen
     | cons u us =>
     cases us with
     | cons _ _=>simp at hlen
     | nil =>
     have hu:=hcells 0 u rfl;rw [show (⟨ρ l k,c,none⟩:Addr).add 0=⟨ρ l k,c,none⟩ from rfl] at hu;have hy:RC cx w F ρ { st.setBox l k (splice cs c (List.replicate sz .un)) with T:=Qce (.B l k) st.T } Qsy pv u fx:=by
      generalize hx1:[pv]=l1 at hrc;generalize hu1:[u]=l2 at hrc;cases hrc with
      | nil=>cases hx1
      | cons hh tt =>
        cases hx1;cases hu1;rw [tt.nil_inv.2];simpa using hh
     refine ⟨fp',fx,u,k1,Jps hy (Qom (hdat' pv (by simp))),?_,k6,k7,k8⟩;simp [Qg5,hptr,asAddr,loadVar,Qgb hag,run_load,hu]
theorem Qs8:∀ {rs:List ResultVar} {xs:List Jkf} {X:List Nat} {fp:Fp} {st st':St} {vs:List IV},Rel cx w F ρ fp X st (Qah a)->Qxt cx.P rs xs->st.retvs xs=some (vs,st') ->
 ∃ fp' fv us,Rel cx w F ρ fp' (fv++X) st' (Qah a)/\Cat (RA cx w F ρ st') vs us fv/\(rs.mapM (Qg5 a)).run cx.P w=.ok us w/\(∀ b ∈ fv,∃ r,b ∈ fp r)/\(∀ r,∀ b ∈ fp' r,b ∈ fp r)/\Qbf st st'
 | [],[],X,fp,st,st',vs,h,_,ha=>by
   simp only [St.retvs,Kaa,Kab] at ha;obtain ⟨rfl,rfl⟩:=ha;exact ⟨fp,[],[],h,.nil,by simp,by simp,fun _ _ h=>h,.refl _⟩
 | [],_::_,_,_,_,_,_,_,hk,_=>hk.elim
 | _::_,[],_,_,_,_,_,_,hk,_=>hk.elim
 | r::rs,x::xs,X,fp,st,st',vs,h,hk,ha=>by
   simp only [St.retvs] at ha;cases h1:st.retv x with
   | none=>simp [h1] at ha
   | some p =>
   obtain ⟨v1,st1⟩:=p;simp only [h1] at ha;cases h2:st1.retvs xs with
   | none=>simp [h2] at ha
   | some p =>
   obtain ⟨vs2,st2⟩:=p;simp only [h2,Kaa,Kab] at ha;obtain ⟨rfl,rfl⟩:=ha;obtain ⟨fp1,fv1,u1,k1,k2,k3,k4,k5,k6⟩:=Jm7 h hk.1 h1;obtain ⟨fp2,fv2,us2,q1,q2,q3,q4,q5,q6⟩:=Qs8 k1 hk.2 h2;refine ⟨fp2,fv1++fv2,u1::us2,q1.perm ?_,Cat.cons (k2.keep q6) q2,?_,fun b hb=>?_,fun r b hb=>k5 r b (q5 r b hb),k6.trans q6⟩
   . rw [<- Kal];exact Kcn X Kcm
   . rw [List.mapM_cons];simp [Sem.run_bind,k3,q3]
   . rcases Kah.1 hb with hb | hb
     . exact k4 b hb
     . obtain ⟨r,hb⟩:=q4 b hb;exact ⟨r,k5 r b hb⟩
def Qs2:List Value->Value
 | [u]=>u
 | us=>.tuple us.toArray
theorem Qvc {fn:Func} {us:List Value} (h:(fn.results.toList.mapM (Qg5 a)).run cx.P w=.ok us w) :
 (results fn a.tmps).run cx.P w=.ok (Qs2 us) w:=by
 have h1:(fn.results.mapM (Qg5 a)).run cx.P w=.ok us.toArray w:=by
  rw [Array.mapM_eq_mapM_toList];simp [h]
 have h2:(results fn a.tmps)=(do let vs <- fn.results.mapM (Qg5 a);pure (if h:vs.size=1 then vs[0] else .tuple vs)):=by
  unfold results;have:(fun r:ResultVar=>match r with
   | .tmp t=>pure (a.tmps.getD t undef)
   | .cell b t=>do loadVar t (<- asAddr (a.tmps.getD b undef)))=Qg5 a:=by
   funext r;cases r <;> rfl
  rw [<- this];rfl
 rw [h2,Sem.run_bind,h1,Result.andThen_ok];cases us with
 | nil=>rfl
 | cons u us =>
   cases us with
   | nil=>rfl
   | cons v r=>rfl
end
end Go.Idl
namespace Go.Idl
open Go
section
variable {cx:Cx} {w w':World} {F F':Nat->Prop} {ρ ρ':Rho} {fp fp':Fp} {X f f' fy Xb fv:List Nat} {st st':St} {a:Act} {tm:Nat->Value} {v:IV}
theorem Qrf:∀ {lent:List Nat} {X:List Nat} {fp:Fp} {st st':St} {back:List IV} {vs:List Value},Rel cx w F ρ fp X st (Qah a)->st.backs lent=some (back,st')->(∀ s ∈ lent,Qah a s=vs.getD s undef) ->
 ∃ fp' Xb,Rel cx w F ρ fp' (Xb++X) st' (Qah a)/\Qtz w F vs lent back Xb/\(∀ b ∈ Xb,∃ r,b ∈ fp r)/\(∀ r,∀ b ∈ fp' r,b ∈ fp r)/\Qbf st st'/\st'.M=st.M/\st'.loc=st.loc
 | [],X,fp,st,st',back,vs,h,ha,_=>by
   simp only [St.backs,Kaa,Kab] at ha;obtain ⟨rfl,rfl⟩:=ha;exact ⟨fp,[],h,rfl,by simp,fun _ _ h=>h,.refl _,rfl,rfl⟩
 | s::lent,X,fp,st,st',back,vs,h,ha,hv=>by
   simp only [St.backs] at ha;obtain ⟨h1,h2⟩:=h.drop s;have hsub:∀ r,∀ b ∈ Qao fp (.S s) [] r,b ∈ fp r:=fun r b hb=>by
    unfold Qao at hb;split at hb
    . cases hb
    . exact hb
   have fin:∀ {y:IV} {ys:List IV},({ st with T:=dropSlot s st.T }:St).backs lent=some (ys,st')->BackV w F (Qah a s) y (fp (.S s)) ->
    ∃ fp' Xb,Rel cx w F ρ fp' (Xb++X) st' (Qah a)/\Qtz w F vs (s::lent) (y::ys) Xb/\(∀ b ∈ Xb,∃ r,b ∈ fp r)/\(∀ r,∀ b ∈ fp' r,b ∈ fp r)/\Qbf st st'/\st'.M=st.M/\st'.loc=st.loc:=by
    intro y ys hb hd;obtain ⟨fp',Xb,k1,k2,k3,k4,k5,k6,k7⟩:=Qrf h1 hb (fun s' hs'=>hv s' (by simp [hs']));refine ⟨fp',fp (.S s)++Xb,k1.perm ?_,⟨fp (.S s),Xb,rfl,by rw [<- hv s (by simp)];exact hd,k2⟩,fun b hb=>?_,fun r b hb=>hsub r b (k4 r b hb),(Jtt st _).trans k5,k6,k7⟩
    . rw [<- Kal];exact Kcn X Kcm
    . rcases Kah.1 hb with hb | hb
      . exact ⟨_,hb⟩
      . obtain ⟨r,hb⟩:=k3 b hb;exact ⟨r,hsub r b hb⟩
   split at ha
   . rename_i e es hT;split at ha;rotate_left
     . cases ha
     rename_i ys st2 hb;simp only [Kaa,Kab] at ha;obtain ⟨rfl,rfl⟩:=ha;rw [hT] at h2;have hkl:kl (IV.rooted (.S s)) (.own e es)=.own e es:=rfl;rw [hkl] at h2;refine fin hb ?_;rcases h2 with ⟨h2,_⟩ | h2
     . exact h2.elim
     . exact h2
   . rename_i cs hT;split at ha;rotate_left
     . cases ha
     rename_i hdat;split at ha;rotate_left
     . cases ha
     rename_i ys st2 hb;simp only [Kaa,Kab] at ha;obtain ⟨rfl,rfl⟩:=ha;rw [hT] at h2;obtain ⟨C,hC,hcat⟩:=h2;have hkl:cs.map (klc (IV.rooted (.S s)))=cs:=by
      rw [Kaj] at hdat;refine (Kdr fun x hx=>?_).trans (List.map_id cs);have:=hdat x hx;cases x <;> first | rfl | simp [IV.isData] at this
     rw [hkl] at hcat;exact fin hb ⟨C,hC,RDs.of_data hcat hdat⟩
   . cases ha
theorem Rel.leaveR (h:Rel cx w F ρ fp (Xb++fv) st (Qah a)) {v:IV} {u:Value} {back:List IV} {e:Option Nat} {exp:Qad}
 (he:(e=none/\exp=[]) \/ (∃ k0 cs,e=some k0/\st.loc[k0]? = some cs/\cs.all IV.isData=true/\exp=[cs]))
 (hv:∀ (ρ':Rho) lk,(∀ l k,l < st.M.length->ρ' l k=ρ l k)->(∀ k0,e=some k0->ρ' st.M.length 0=ρ st.M.length k0)->Qa6 cx w F ρ' (Qb4 ⟨v,back,st.M,exp⟩) lk v u fv) :
 ∃ ρ' fp',Rel cx w F ρ' fp' Xb (Qb4 ⟨v,back,st.M,exp⟩) (Qqf u)/\(∀ q,∀ b ∈ fp' q,(∃ r,b ∈ fp r) \/ b ∈ fv)/\∀ l k,l < st.M.length->ρ' l k=ρ l k:=by
 let L:=st.M.length
 let ρN:Rho:=fun l k=>if l=L then ρ L (e.getD 0) else ρ l k
 let rt:Rt->Option Rt:=fun
  | .S _=>none
  | .B l k=>if l < L then some (.B l k) else if l=L/\k=0 then e.map (.B L ·) else none
 let fpN:Fp:=fun
  | .S s=>if s=0 then fv else []
  | .B l k=>match rt (.B l k) with
    | some q=>fp q
    | none=>[]
 have hρ:∀ l k,l < L->ρN l k=ρ l k:=fun l k hl=>by
  have:l ≠ L:=by omega
  simp [ρN,this]
 have hρe:∀ k0,e=some k0->ρN L 0=ρ L k0:=fun k0 hk=>by simp [ρN,hk]
 have hbox1:∀ l k,l < L->(Qb4 ⟨v,back,st.M,exp⟩).box l k=st.box l k:=fun l k hl=>by
  have:l ≠ st.M.length:=by show l ≠ L;omega
  simp [Qb4,St.box,this]
 have hbox2:∀ k,(Qb4 ⟨v,back,st.M,exp⟩).box L k=exp[k]?:=fun k=>by simp [Qb4,St.box,L]
 have hbox3:∀ l k,L < l->(Qb4 ⟨v,back,st.M,exp⟩).box l k=none:=fun l k hl=>by
  have h1:l ≠ st.M.length:=by show l ≠ L;omega
  have h2:st.M[l]? = none:=Kar (by show L<=l;omega);simp [Qb4,St.box,h1,h2]
 have hstL:∀ k,st.box L k=st.loc[k]?:=fun k=>by simp [St.box,L]
 have hfp:∀ q b,b ∈ fpN q->(∃ r,rt q=some r/\b ∈ fp r) \/ (q=.S 0/\b ∈ fv):=by
  intro q b hb;cases q with
  | S s =>
    by_cases hs:s=0
    . subst hs;exact .inr ⟨rfl,by simpa [fpN] using hb⟩
    . simp [fpN,hs] at hb
  | B l k =>
    simp only [fpN] at hb;split at hb
    . rename_i q hq;exact .inl ⟨q,hq,hb⟩
    . cases hb
 have hrt:∀ q q' r,rt q=some r->rt q'=some r->q=q':=by
  intro q q' r h1 h2;cases q with
  | S s=>simp [rt] at h1
  | B l k =>
    cases q' with
    | S s=>simp [rt] at h2
    | B l' k' =>
      simp only [rt] at h1 h2;split at h1
      . split at h2
        . rw [<- h1] at h2;simp only [Kaa,Rt.B.injEq] at h2;obtain ⟨rfl,rfl⟩:=h2;rfl
        . split at h2
          . cases e with
            | none=>simp at h2
            | some k0 =>
              simp only [Kes,Kaa] at h1 h2;rw [<- h1] at h2;simp only [Rt.B.injEq] at h2;omega
          . cases h2
      . split at h1
        . rename_i hlk;split at h2
          . cases e with
            | none=>simp at h1
            | some k0 =>
              simp only [Kes,Kaa] at h1 h2;rw [<- h1] at h2;simp only [Rt.B.injEq] at h2;omega
          . split at h2
            . rename_i hlk';rw [hlk.1,hlk.2,hlk'.1,hlk'.2]
            . cases h2
        . cases h1
 have hX:=Kan.1 h.xnodup;have hXb:∀ b ∈ Xb,b ∈ Xb++fv:=fun b hb=>by simp [hb]
 have hXv:∀ b ∈ fv,b ∈ Xb++fv:=fun b hb=>by simp [hb]
 have hrd:∀ (l:Nat) {x:IV} {u:Value} {g:List Nat},l < L->Qj7 cx w F ρ st l x u g->Qj7 cx w F ρN (Qb4 ⟨v,back,st.M,exp⟩) l x u g:=fun l x u g hl hx =>
  hx.lv fun l' k' hl' hb=>⟨hρ l' k' (by omega),by rw [hbox1 l' k' (by omega)];exact hb⟩
 refine ⟨ρN,fpN,⟨fun s=>?_,fun l k cs hb=>?_,fun l k hb=>?_,fun q=>?_,fun q q' hq b hb hb'=>?_,fun q b hb=>?_,fun q b hb=>?_,h.Flt,hX.1,fun q b hb hx=>?_,fun b hb=>h.xF b (hXb b hb),fun b hb=>h.xlt b (hXb b hb)⟩,fun q b hb=>?_,hρ⟩
 . by_cases hs:s=0
   . subst hs;have:=hv ρN (look (Qb4 ⟨v,back,st.M,exp⟩) (Qqf u) ρN w) hρ hρe;simpa [Qb4,Qav,Qqf,fpN] using this
   . have h1:Qav (Qb4 ⟨v,back,st.M,exp⟩).T s=.un:=by
      have:¬ (0=s):=fun h=>hs h.symm;simp [Qb4,Qav,this]
     rw [h1,show fpN (.S s)=[] from by simp [fpN,hs]];exact Qk5
 . rcases Nat.lt_trichotomy l L with hl | hl | hl
   . rw [hbox1 l k hl] at hb;obtain ⟨C,ty,f0,k1,k2,k3⟩:=h.boxes l k cs hb;refine ⟨C,ty,f0,?_,by rw [hρ l k hl];exact k2,k3.mono fun x v f _ hx _=>hrd l hl hx⟩;rw [hρ l k hl,<- k1];simp [fpN,rt,hl]
   . subst hl;rw [hbox2 k] at hb;rcases he with ⟨_,rfl⟩ | ⟨k0,cs0,rfl,hk0,hdat,rfl⟩
     . simp at hb
     . cases k with
       | succ k=>simp at hb
       | zero =>
         simp only [Kcs,Kaa] at hb;subst hb;obtain ⟨C,ty,f0,k1,k2,k3⟩:=h.boxes L k0 cs0 (by rw [hstL];exact hk0);refine ⟨C,ty,f0,?_,by rw [hρe k0 rfl];exact k2,k3.mono fun x v f _ hx hm=>hx.data (Kaj.1 hdat x hm)⟩;rw [hρe k0 rfl,<- k1];simp [fpN,rt]
   . rw [hbox3 l k hl] at hb;cases hb
 . rcases Nat.lt_trichotomy l L with hl | hl | hl
   . rw [hbox1 l k hl] at hb;have:=h.nobox l k hb;simpa [fpN,rt,hl] using this
   . subst hl;rw [hbox2 k] at hb;rcases he with ⟨rfl,rfl⟩ | ⟨k0,cs0,rfl,hk0,hdat,rfl⟩
     . simp [fpN,rt]
     . cases k with
       | succ k=>simp [fpN,rt]
       | zero=>simp at hb
   . have h1:¬ l < L:=by omega
     have h2:¬ l=L:=by omega
     simp [fpN,rt,h1,h2]
 . cases q with
   | S s=>by_cases hs:s=0
          . subst hs;simpa [fpN] using hX.2.1
          . simp [fpN,hs]
   | B l k =>
     simp only [fpN];split
     . exact h.nodup _
     . exact Kez
 . rcases hfp q b hb with ⟨r,h1,h2⟩ | ⟨rfl,h2⟩
   . rcases hfp q' b hb' with ⟨r',h3,h4⟩ | ⟨rfl,h4⟩
     . by_cases hrr:r=r'
       . subst hrr;exact hq (hrt q q' r h1 h3)
       . exact h.disj r r' hrr b h2 h4
     . exact h.xdisj r b h2 (hXv b h4)
   . rcases hfp q' b hb' with ⟨r',h3,h4⟩ | ⟨rfl,h4⟩
     . exact h.xdisj r' b h4 (hXv b h2)
     . exact hq rfl
 . rcases hfp q b hb with ⟨r,h1,h2⟩ | ⟨rfl,h2⟩
   . exact h.notF r b h2
   . exact h.xF b (hXv b h2)
 . rcases hfp q b hb with ⟨r,h1,h2⟩ | ⟨rfl,h2⟩
   . exact h.lt r b h2
   . exact h.xlt b (hXv b h2)
 . rcases hfp q b hb with ⟨r,h1,h2⟩ | ⟨rfl,h2⟩
   . exact h.xdisj r b h2 (hXb b hx)
   . exact hX.2.2 b hx b h2 rfl
 . rcases hfp q b hb with ⟨r,h1,h2⟩ | ⟨rfl,h2⟩
   . exact .inl ⟨r,h2⟩
   . exact .inr h2
end
end Go.Idl
namespace Go.Idl
open Go
def Qzx (L:Nat):IV->Bool
 | .tup vs=>vs.all (IV.okLvl L)
 | x=>x.okLvl L
theorem Qzr {st:St} {v:IV} {back:List IV} {r:Ret} (h:st.leave v back=some r):r.back=back/\r.M=st.M /\
 ((r.v=v/\r.exp=[]/\Qzx st.M.length v=true) \/ ∃ k c cs,v=.bptr st.M.length k c/\st.loc[k]? = some cs/\cs.all IV.isData=true/\r.v=.bptr st.M.length 0 c/\r.exp=[cs]):=by
 have lv:∀ x:IV,x.lvl st.M.length=true->(∀ cs,x ≠ .agg cs)->(∀ vs,x ≠ .tup vs)->Qzx st.M.length x=true:=by
  intro x hx h1 h2;cases x <;> first | exact (h1 _ rfl).elim | exact (h2 _ rfl).elim | exact hx
 cases v with
 | bptr l k c =>
   simp only [St.leave] at h;split at h
   . rename_i hl;split at h
     . rename_i cs hcs;split at h
       . rename_i hd;simp only [Kaa] at h;subst h;subst hl;exact ⟨rfl,rfl,.inr ⟨k,c,cs,rfl,hcs,hd,rfl,rfl⟩⟩
       . cases h
     . cases h
   . split at h
     . rename_i hl;simp only [Kaa] at h;subst h;exact ⟨rfl,rfl,.inl ⟨rfl,rfl,by simpa [Qzx,IV.okLvl,IV.lvl] using hl⟩⟩
     . cases h
 | agg cs =>
   simp only [St.leave] at h;split at h
   . rename_i hd;simp only [Kaa] at h;subst h;exact ⟨rfl,rfl,.inl ⟨rfl,rfl,hd⟩⟩
   . cases h
 | tup vs =>
   simp only [St.leave] at h;split at h
   . rename_i hd;simp only [Kaa] at h;subst h;refine ⟨rfl,rfl,.inl ⟨rfl,rfl,?_⟩⟩;rw [Kaj] at hd;simp only [Qzx,Kaj];intro x hx;have:=hd x hx;cases x <;> exact this
   . cases h
 | sc u =>
   simp only [St.leave] at h;split at h
   . rename_i hd;simp only [Kaa] at h;subst h;exact ⟨rfl,rfl,.inl ⟨rfl,rfl,hd⟩⟩
   . cases h
 | lst e es c =>
   simp only [St.leave] at h;split at h
   . rename_i hd;simp only [Kaa] at h;subst h;exact ⟨rfl,rfl,.inl ⟨rfl,rfl,hd⟩⟩
   . cases h
 | own e es =>
   simp only [St.leave] at h;split at h
   . rename_i hd;simp only [Kaa] at h;subst h;exact ⟨rfl,rfl,.inl ⟨rfl,rfl,hd⟩⟩
   . cases h
 | fn g cs =>
   simp only [St.leave] at h;split at h
   . rename_i hd;simp only [Kaa] at h;subst h;exact ⟨rfl,rfl,.inl ⟨rfl,rfl,hd⟩⟩
   . cases h
 | arr=>simp [St.leave,IV.lvl] at h
 | eptr=>simp [St.leave,IV.lvl] at h
 | lptr=>simp [St.leave,IV.lvl] at h
 | un=>simp [St.leave,IV.lvl] at h
section
variable {cx:Cx} {w w0:World} {F F0:Nat->Prop} {ρ ρ0:Rho} {fp fp0:Fp} {Xb fv:List Nat} {st st1 st2:St} {a:Act}
theorem Jcn {R:IV->Value->List Nat->Prop} {x:IV} {us:List Value} {f:List Nat} (h:Cat R [x] us f):∃ u,us=[u]/\R x u f:=by
 cases h with
 | cons h t=>obtain ⟨rfl,rfl⟩:=t.nil_inv;exact ⟨_,rfl,by simpa using h⟩
theorem Jem {vals:List IV} {us:List Value} {st':St} {ρ':Rho} {lk} (hc:Cat (RA cx w F ρ st) vals us fv) (hk:Qzx st.M.length (Qbt vals)=true)
 (hb:∀ l k,l < st.M.length->(st.box l k).isSome=true->ρ' l k=ρ l k/\(st'.box l k).isSome=true):Qa6 cx w F ρ' st' lk (Qbt vals) (Qs2 us) fv/\(Qbt vals).isRet=true:=by
 have many:∀ {vals:List IV} {us:List Value},Cat (RA cx w F ρ st) vals us fv->vals.all (IV.okLvl st.M.length)=true->Qa6 cx w F ρ' st' lk (.tup vals) (.tuple us.toArray) fv/\(IV.tup vals).isRet=true:=by
  intro vals us hc hk;refine ⟨⟨us.toArray,rfl,?_⟩,?_⟩
  . simpa using hc.mono fun x u f _ hx hm=>hx.lv (Kaj.1 hk x hm) hb
  . simp only [IV.isRet,Kaj];intro x hx;have:∀ {xs us f},Cat (RA cx w F ρ st) xs us f->∀ x ∈ xs,x.isA=true:=by
     intro xs us f hc
     induction hc with
     | nil=>simp
     | cons h t ih=>intro x hx;rcases Kaf.1 hx with rfl | hx
                    . exact h.2
                    . exact ih x hx
    exact this hc x hx
 match vals,hc,hk with
 | [],hc,hk =>
   obtain ⟨rfl,rfl⟩:=hc.nil_inv;exact many .nil rfl
 | [v],hc,hk =>
   obtain ⟨u,rfl,hx⟩:=Jcn hc;have hA:=hx.2;have ht:∀ vs,v ≠ .tup vs:=fun vs he=>by rw [he] at hA;simp [IV.isA,IV.isD] at hA
   have hk':v.okLvl st.M.length=true:=by
    simp only [Qbt] at hk;cases v <;> first | exact (ht _ rfl).elim | exact hk
   refine ⟨Qdi (hx.lv hk' hb),?_⟩;simp only [Qbt];cases v <;> first | exact (ht _ rfl).elim | exact hA
 | v1::v2::r,hc,hk =>
   have hl:=hc.len
   match us,hl with
   | u1::u2::s,_=>exact many hc hk
theorem Jlx {P:Program} {fn:Func} {f:Qar} {args:List IV} {M:List Qad} {lent:List Nat} {vs:List Value} {r:Ret} (hP:cx.P=P) (hR:Rel cx w F ρ fp [] st (Qah a))
 (hE:Ext w0 F0 ρ0 fp0 [] (exB (Qbp args M)) w F ρ fp []) (hS:Qbf (Qbp args M) st) (hres:Qxt P fn.results.toList f.res) (hkeep:∀ s ∈ lent,Qah a s=vs.getD s undef)
 {vals:List IV} (h1:st.retvs f.res=some (vals,st1)) {back:List IV} (h2:st1.backs lent=some (back,st2)) (h3:st2.leave (Qbt vals) back=some r) :
 ∃ u,(results fn a.tmps).run P w=.ok u w/\Qfp cx w0 F0 ρ0 fp0 M lent vs r (.returned u) w:=by
 subst hP;obtain ⟨fp1,fv,us,a1,a2,a3,a4,a5,a6⟩:=Qs8 hR hres h1;obtain ⟨fp2,Xb,b1,b2,b3,b4,b5,b6,b7⟩:=Qrf a1 h2 hkeep;rw [Kbb] at b1;have hvals:Cat (RA cx w F ρ st2) vals us fv:=a2.mono fun x u f _ hx _=>hx.keep b5;have hM2:st2.M.map List.length=M.map List.length:=by
  rw [b5.M,a6.M,hS.M];rfl
 have hML:st2.M.length=M.length:=by
  have:=congrArg List.length hM2;simpa using this
 have hsub2:∀ r,∀ b ∈ fp2 r,b ∈ fp r:=fun r b hb=>a5 r b (b4 r b hb);have hXbs:∀ b ∈ Xb,∃ r,b ∈ fp r:=fun b hb=>by obtain ⟨r,hb⟩:=b3 b hb;exact ⟨r,a5 r b hb⟩
 have hbx:∀ l k,(({ T:=[],loc:=[],M:=M }:St).box l k).isSome=true->l < M.length/\exB (Qbp args M) l k:=by
  intro l k hb;have hl:l < M.length:=by
   rcases Nat.lt_trichotomy l M.length with hl | hl | hl
   . exact hl
   . subst hl;simp [St.box] at hb
   . have h0:l ≠ M.length:=by omega
     have:M[l]? = none:=Kar (by omega);simp [St.box,h0,this] at hb
  exact ⟨hl,hb⟩
 have fin:∀ {v:IV} {exp:Qad} {ρ':Rho} {fp':Fp},r=⟨v,back,st2.M,exp⟩->Rel cx w F ρ' fp' Xb (Qb4 ⟨v,back,st2.M,exp⟩) (Qqf (Qs2 us))->(∀ q,∀ b ∈ fp' q,(∃ r,b ∈ fp2 r) \/ b ∈ fv)->(∀ l k,l < st2.M.length->ρ' l k=ρ l k) ->
  v.isRet=true->exp.all (·.all IV.isData)=true->Qfp cx w0 F0 ρ0 fp0 M lent vs r (.returned (Qs2 us)) w:=by
  intro v exp ρ' fp' hr q1 q2 q3 q4 q5;subst hr;have hsrc:∀ q,∀ b ∈ fp' q,∃ r,b ∈ fp r:=fun q b hb=>by
   rcases q2 q b hb with ⟨r,hb⟩ | hb
   . exact ⟨r,hsub2 r b hb⟩
   . exact a4 b hb
  refine ⟨Qs2 us,F,ρ',fp',Xb,rfl,q1,⟨hE.size,hE.keep,fun q b hb=>?_,fun b hb=>?_,hE.Fm,hE.Fn,fun l k hb=>?_,hE.env⟩,hM2,b2,q4,q5⟩
  . obtain ⟨r,hb⟩:=hsrc q b hb;exact hE.fpn r b hb
  . obtain ⟨r,hb⟩:=hXbs b hb;exact hE.fpn r b hb
  . obtain ⟨k1,k2⟩:=hbx l k hb;rw [q3 l k (by omega)];exact hE.rho l k k2
 refine ⟨Qs2 us,Qvc a3,?_⟩;obtain ⟨c1,c2,c3⟩:=Qzr h3;obtain ⟨rv,rb,rM,rexp⟩:=r;simp only at c1 c2 c3;subst c1 c2;rcases c3 with ⟨rfl,rfl,hok⟩ | ⟨k,c,cs,hv,hloc,hdat,rfl,rfl⟩
 . have hslot:∀ (ρ':Rho) lk,(∀ l k,l < st2.M.length->ρ' l k=ρ l k)->Qa6 cx w F ρ' (Qb4 ⟨Qbt vals,rb,st2.M,[]⟩) lk (Qbt vals) (Qs2 us) fv/\(Qbt vals).isRet=true:=by
    intro ρ' lk hρ;refine Jem hvals hok fun l k hl hb=>⟨hρ l k hl,?_⟩;have:l ≠ st2.M.length:=by omega
    simpa [Qb4,St.box,this] using hb
   obtain ⟨ρ',fp',q1,q2,q3⟩:=b1.leaveR (v:=Qbt vals) (u:=Qs2 us) (back:=rb) (e:=none) (exp:=[]) (.inl ⟨rfl,rfl⟩) (fun ρ' lk hρ _=>(hslot ρ' lk hρ).1);exact fin rfl q1 q2 q3 (hslot ρ (fun _ _=>none) (fun _ _ _=>rfl)).2 rfl
 . have hone:vals=[.bptr st2.M.length k c]:=by
    match vals,hv with
    | [v],hv=>simp only [Qbt] at hv;rw [hv]
    | [],hv=>simp [Qbt] at hv
    | _::_::_,hv=>simp [Qbt] at hv
   subst hone;obtain ⟨u,rfl,hx⟩:=Jcn hvals;obtain ⟨hp,hfv⟩:u=.pointer (some ⟨ρ st2.M.length k,c,none⟩)/\fv=[]:=by
    rcases hx.1 with ⟨⟨hx,_⟩,h0⟩ | hx
    . exact ⟨hx,h0⟩
    . cases hx
   have hslot:∀ (ρ':Rho) lk,(∀ k0,some k=some k0->ρ' st2.M.length 0=ρ st2.M.length k0)->Qa6 cx w F ρ' (Qb4 ⟨.bptr st2.M.length 0 c,rb,st2.M,[cs]⟩) lk (.bptr st2.M.length 0 c) u fv:=by
    intro ρ' lk he;refine .inl ⟨⟨?_,by simp [Qb4,St.box]⟩,hfv⟩;rw [he k rfl];exact hp
   obtain ⟨ρ',fp',q1,q2,q3⟩:=b1.leaveR (v:=.bptr st2.M.length 0 c) (u:=u) (back:=rb) (e:=some k) (exp:=[cs]) (.inr ⟨k,cs,rfl,hloc,hdat,rfl⟩) (fun ρ' lk _ he=>hslot ρ' lk he);exact fin rfl q1 q2 q3 rfl (by simp [hdat])
end
end Go.Idl
namespace Go.Idl
open Go
def Qdh:Opd->List Nat
 | .t s=>[s]
 | _=>[]
def Jl3:Option Opd->List Nat
 | some o=>Qdh o
 | none=>[]
def K.useL:K->List Nat
 | .mv x | .mvo _ x | .asg x | .asgm x | .clr x _ | .box x | .nilck x | .unop _ x | .conv _ x | .fadr _ x | .extr x _ | .len x | .lens x | .load _ _ x | .strb x=>Qdh x
 | .pick a b c=>Qdh a++(Qdh b++Qdh c)
 | .alloc _ | .halt | .nilo _=>[]
 | .build _ ps=>ps.flatMap fun p=>Qdh p.2.2
 | .bsl _ _ _ ps=>ps.flatMap fun p=>Qdh p.2
 | .store _ a x | .storef _ a x | .bin _ a x | .eqa _ _ a x | .iadr _ a x | .idxs a x | .app _ a x | .minmax _ a x | .mksl _ _ a x=>Qdh a++Qdh x
 | .mkfn _ cs=>cs.flatMap Qdh
 | .slc _ x a b c=>Qdh x++(Jl3 a++(Jl3 b++Jl3 c))
 | .slcs x a b=>Qdh x++(Jl3 a++Jl3 b)
 | .call _ as_ _=>as_.flatMap fun a=>Qdh a.2
 | .callv f as_=>Qdh f++as_.flatMap fun a=>Qdh a.2
def Qjc:K->Bool
 | .alloc _ | .box _ | .callv ..=>false
 | .call _ _ p=>p
 | _=>true
structure Sim (D:Nat->Prop) (P:IV->Prop) (L:Qad) (st st':St):Prop where
 T:∀ s,¬ D s->Qav st'.T s=Qav st.T s
 Q:∀ s,D s->P (Qav st'.T s)
 H:∀ s,D s->(Qav st.T s).holds=false
 M:st'.M=st.M
 loc:st'.loc=st.loc++L
def Shp (st st':St):Prop:=st'.M.length=st.M.length/\st'.loc.length=st.loc.length
theorem Shp.refl (st:St):Shp st st:=⟨rfl,rfl⟩
theorem Shp.trans {a b c:St} (h:Shp a b) (h':Shp b c):Shp a c:=⟨h'.1.trans h.1,h'.2.trans h.2⟩
section
variable {D:Nat->Prop} {P:IV->Prop} {L:Qad} {st st' st1:St}
theorem Jdy {p:IV->Bool} {x:IV} (h:x.isOwn=false):(klc p x).isOwn=false:=by
 unfold klc;split
 . rfl
 . exact h
theorem Jlw {p:IV->Bool} {x:IV} (h:x.holds=false):(kl p x).holds=false:=by
 cases x with
 | tup vs=>simp [IV.holds] at h
 | agg cs =>
   simp only [IV.holds,kl,kl1] at h |-;rw [List.any_eq_false] at h |-;intro y hy;obtain ⟨z,hz,rfl⟩:=Kck.1 hy;have:=h z hz;simp only [Kep] at this |-;exact Jdy this
 | own e es=>simp [IV.holds] at h
 | _=>simp only [kl,kl1,klc];split <;> rfl
theorem Sim.kill (h:Sim D P L st st') (hP:∀ q,Qaj q->∀ x,P x->P (kl q x)) {q:IV->Bool} (hq:Qaj q):Sim D P L { st with T:=Qa3 q st.T } { st' with T:=Qa3 q st'.T } :=
 ⟨fun s hs=>by simp only [Qap,h.T s hs],fun s hs=>by simp only [Qap];exact hP q hq _ (h.Q s hs),fun s hs=>by simp only [Qap];exact Jlw (h.H s hs),h.M,h.loc⟩
theorem Sim.cons (h:Sim D P L st st') {s:Nat} (hs:¬ D s) (v:IV):Sim D P L { st with T:=(s,v)::st.T } { st' with T:=(s,v)::st'.T }:=by
 refine ⟨fun t ht=>?_,fun t ht=>?_,fun t ht=>?_,h.M,h.loc⟩
 . simp only [Qav];split
   . rfl
   . exact h.T t ht
 . simp only [Qav];split
   . rename_i he;exact absurd (he ▸ ht) hs
   . exact h.Q t ht
 . simp only [Qav];split
   . rename_i he;exact absurd (he ▸ ht) hs
   . exact h.H t ht
theorem Sim.dropSlot (h:Sim D P L st st') (hP:∀ q,Qaj q->∀ x,P x->P (kl q x)) {s:Nat} (hs:¬ D s):Sim D P L { st with T:=dropSlot s st.T } { st' with T:=dropSlot s st'.T } :=
 (h.kill hP (.rooted (.S s))).cons hs .un
theorem Sim.tput (h:Sim D P L st st') (hP:∀ q,Qaj q->∀ x,P x->P (kl q x)) {s:Nat} (hs:¬ D s) (v:IV):Sim D P L { st with T:=tput st.T s v } { st' with T:=tput st'.T s v }:=by
 unfold Idl.tput;rw [h.T s hs];split
 . exact (h.kill hP (.rooted (.S s))).cons hs _
 . exact h.cons hs v
theorem Sim.putI (h:Sim D P L st st') (hP:∀ q,Qaj q->∀ x,P x->P (kl q x)) {d:Option Nat} (hs:∀ s,d=some s->¬ D s) (v:IV):Sim D P L (match d with | some s=>{ st with T:=Idl.tput st.T s v } | none=>st) (match d with | some s=>{ st' with T:=Idl.tput st'.T s v } | none=>st'):=by
 cases d with
 | none=>exact h
 | some s=>exact h.tput hP (hs s rfl) v
abbrev NoU (D:Nat->Prop) (l:List Nat):Prop:=∀ s ∈ l,¬ D s
theorem Sim.rd (h:Sim D P L st st') {o:Opd} (ho:NoU D (Qdh o)):rd st'.T o=rd st.T o:=by
 cases o with
 | t s=>simp only [Idl.rd,h.T s (ho s (by simp [Qdh]))]
 | c v=>rfl
 | f l=>rfl
theorem Sim.tk (h:Sim D P L st st') (hP:∀ q,Qaj q->∀ x,P x->P (kl q x)) {o:Opd} (ho:NoU D (Qdh o)) {v:IV} {T:Tm} (ht:tk st.T o=(v,T)) :
 ∃ T',Idl.tk st'.T o=(v,T')/\Sim D P L { st with T:=T } { st' with T:=T' }:=by
 cases o with
 | t s =>
   have hs:=ho s (by simp [Qdh]);simp only [Idl.tk,h.T s hs] at ht |-;split at ht
   . rename_i hh;rw [if_pos hh];simp only [Kab] at ht;obtain ⟨rfl,rfl⟩:=ht;exact ⟨_,rfl,h.dropSlot hP hs⟩
   . rename_i hh;rw [if_neg hh];simp only [Kab] at ht;obtain ⟨rfl,rfl⟩:=ht;exact ⟨_,rfl,h⟩
 | c v=>simp only [Idl.tk,Kab] at ht |-;obtain ⟨rfl,rfl⟩:=ht;exact ⟨_,⟨rfl,rfl⟩,h⟩
 | f l=>simp only [Idl.tk,Kab] at ht |-;obtain ⟨rfl,rfl⟩:=ht;exact ⟨_,⟨rfl,rfl⟩,h⟩
theorem Sim.box (h:Sim D P L st st') {l k:Nat} {cs:List IV} (hb:st.box l k=some cs):st'.box l k=some cs:=by
 unfold St.box at *
 rw [h.M];split at hb
 . rename_i hl;rw [if_pos hl,h.loc,Kba (Kak.1 hb).1];exact hb
 . rename_i hl;rw [if_neg hl];exact hb
theorem Sim.setBox (h:Sim D P L st st') {l k:Nat} {cs cs':List IV} (hb:st.box l k=some cs):Sim D P L (st.setBox l k cs') (st'.setBox l k cs')/\Shp st (st.setBox l k cs'):=by
 unfold St.box at hb;unfold St.setBox;rw [h.M];split at hb
 . rename_i hl;have hlt:=(Kak.1 hb).1;rw [if_pos hl,if_pos hl];exact ⟨⟨h.T,h.Q,h.H,rfl,by simp only [h.loc];rw [List.set_append_left _ _ hlt]⟩,⟨rfl,by simp⟩⟩
 . rename_i hl;rw [if_neg hl,if_neg hl];split at hb
   . exact ⟨⟨h.T,h.Q,h.H,by simp only [h.M],h.loc⟩,⟨by simp,rfl⟩⟩
   . cases hb
theorem Jsj {x:IV} {p:Qg8} {e:Nat} {es:List (List IV)} (h:fol x p=some (.own e es)):∃ e' es',x=.own e' es':=by
 cases p with
 | nil=>simp only [fol,Kaa] at h;exact ⟨_,_,h⟩
 | cons a p =>
   obtain ⟨i,j⟩:=a;cases x <;> simp only [fol] at h <;> first | exact ⟨_,_,rfl⟩ | cases h
theorem Jco {x:IV} {c e:Nat} {es:List (List IV)} (h:x.cells[c]? = some (.own e es)):x.holds=true:=by
 cases x with
 | agg cs =>
   simp only [IV.cells] at h;simp only [IV.holds,Kfb];exact ⟨_,Kbn h,rfl⟩
 | tup vs=>rfl
 | own e es=>rfl
 | _=>cases c <;> simp [IV.cells] at h
theorem Sim.plc (h:Sim D P L st st') {r:Rt} {c:Nat} {p:Qg8} {e:Nat} {es:List (List IV)} (hp:st.plc r c p=some (.own e es)):st'.plc r c p=some (.own e es)/\(∀ s,r=.S s->¬ D s)/\∃ cs x,st.rcells r=some cs/\st'.rcells r=some cs/\cs[c]? = some x/\fol x p=some (.own e es):=by
 unfold St.plc at hp;split at hp;rotate_left
 . cases hp
 rename_i cs hcs;split at hp;rotate_left
 . cases hp
 rename_i x hx;have hD:∀ s,r=.S s->¬ D s:=by
  rintro s rfl hs;simp only [St.rcells,Kaa] at hcs;subst hcs;obtain ⟨e',es',rfl⟩:=Jsj hp;have:=h.H s hs;rw [Jco hx] at this;cases this
 have hcs':st'.rcells r=some cs:=by
  cases r with
  | S s=>simp only [St.rcells,h.T s (hD s rfl)] at hcs |-;exact hcs
  | B l k=>exact h.box hcs
 refine ⟨?_,hD,cs,x,hcs,hcs',hx,hp⟩;unfold St.plc;rw [hcs'];simp only [hx];exact hp
theorem Sim.setPlc (h:Sim D P L st st') {r:Rt} {c:Nat} {p:Qg8} {e:Nat} {es:List (List IV)} (hp:st.plc r c p=some (.own e es)) {y:IV} (hs:st.setPlc r c p y=some st1) :
 ∃ st1',st'.setPlc r c p y=some st1'/\Sim D P L st1 st1'/\Shp st st1:=by
 obtain ⟨-,hD,cs,x,h1,h2,h3,h4⟩:=h.plc hp;unfold St.setPlc at hs |-;simp only [h1,h2,h3] at hs |-;split at hs;rotate_left
 . cases hs
 cases r with
 | S s =>
   simp only [Kaa] at hs |-;subst hs;rw [h.T s (hD s rfl)];exact ⟨_,rfl,h.cons (hD s rfl) _,.refl _⟩
 | B l k =>
   simp only [Kaa] at hs |-;subst hs;obtain ⟨q1,q2⟩:=h.setBox (cs':=cs.set c _) (show st.box l k=some cs from h1);exact ⟨_,rfl,q1,q2⟩
theorem Sim.absorb (h:Sim D P L st st') (hP:∀ q,Qaj q->∀ x,P x->P (kl q x)) {x y:IV} (ha:st.absorb x=some (y,st1)):∃ st1',st'.absorb x=some (y,st1')/\Sim D P L st1 st1'/\Shp st st1:=by
 cases x with
 | arr r c p e off n cl =>
   simp only [St.absorb] at ha |-;split at ha;rotate_left
   . cases ha
   rename_i e1 es hpl;rw [(h.plc hpl).1];simp only;split at ha;rotate_left
   . cases ha
   rename_i hle;rw [if_pos hle];split at ha;rotate_left
   . cases ha
   rename_i st2 hs;simp only [Kaa,Kab] at ha;obtain ⟨rfl,rfl⟩:=ha;obtain ⟨st2',q1,q2,q3⟩:=h.setPlc hpl hs;rw [q1];exact ⟨_,rfl,q2.kill hP (.rooted r),q3⟩
 | eptr r c p i j=>simp [St.absorb] at ha
 | lptr e j=>simp [St.absorb] at ha
 | agg cs=>simp [St.absorb] at ha
 | tup vs=>simp [St.absorb] at ha
 | un=>simp [St.absorb] at ha
 | _ =>
   simp only [St.absorb,Kaa,Kab] at ha |-;obtain ⟨rfl,rfl⟩:=ha;exact ⟨_,⟨rfl,rfl⟩,h,.refl _⟩
theorem Sim.absorbsK (hP:∀ q,Qaj q->∀ x,P x->P (kl q x)):∀ {xs ys:List IV} {pk:IV->Bool} {st st' st1:St},Sim D P L st st'->st.absorbsK pk xs=some (ys,st1)->∃ st1',st'.absorbsK pk xs=some (ys,st1')/\Sim D P L st1 st1'/\Shp st st1
 | [],ys,pk,st,st',st1,h,ha=>by
   simp only [St.absorbsK,Kaa,Kab] at ha |-;obtain ⟨rfl,rfl⟩:=ha;exact ⟨_,⟨rfl,rfl⟩,h,.refl _⟩
 | x::xs,ys,pk,st,st',st1,h,ha=>by
   simp only [St.absorbsK] at ha |-;split at ha;rotate_left
   . cases ha
   rename_i y st2 h1;obtain ⟨st2',q1,q2,q3⟩:=h.absorb hP h1;split at ha;rotate_left
   . cases ha
   rename_i ys2 st3 h2;simp only [Kaa,Kab] at ha;obtain ⟨rfl,rfl⟩:=ha;obtain ⟨st3',r1,r2,r3⟩:=Sim.absorbsK hP q2 h2;simp only [q1,r1];exact ⟨_,rfl,r2,q3.trans r3⟩
theorem Sim.absorbs (h:Sim D P L st st') (hP:∀ q,Qaj q->∀ x,P x->P (kl q x)) {xs ys:List IV} (ha:st.absorbs xs=some (ys,st1)):∃ st1',st'.absorbs xs=some (ys,st1')/\Sim D P L st1 st1'/\Shp st st1 :=
 Sim.absorbsK hP h ha
theorem Sim.sview (h:Sim D P L st st') {x:IV} {r:Nat×List (List IV)} (hs:st.sview x=some r):st'.sview x=some r:=by
 cases x <;> simp only [St.sview] at hs |- <;> first | exact hs | cases hs | skip
 split at hs;rotate_left
 . cases hs
 rename_i e es hp;rw [(h.plc hp).1];exact hs
theorem Sim.loadCells (h:Sim D P L st st') {x:IV} {sz:Nat} {cs:List IV} (hl:st.loadCells sz x=some cs):st'.loadCells sz x=some cs:=by
 cases x <;> simp only [St.loadCells] at hl |- <;> first | exact hl | cases hl | skip
 . split at hl;rotate_left
   . cases hl
   rename_i hp;rw [(h.plc hp).1];exact hl
 . split at hl;rotate_left
   . cases hl
   rename_i hb;rw [h.box hb];exact hl
theorem Sim.storeCells (h:Sim D P L st st') (hP:∀ q,Qaj q->∀ x,P x->P (kl q x)) {a:IV} {ys:List IV} (hs:st.storeCells a ys=some st1):∃ st1',st'.storeCells a ys=some st1'/\Sim D P L st1 st1'/\Shp st st1:=by
 unfold St.storeCells at hs |-;split at hs
 . rename_i l k c;split at hs;rotate_left
   . cases hs
   rename_i cs hb;simp only [h.box hb];split at hs;rotate_left
   . cases hs
   rename_i old ho
   try simp only [ho]
   split at hs;rotate_left
   . cases hs
   rename_i hl;rw [if_pos hl];obtain ⟨q1,q2⟩:=h.setBox (cs':=splice cs c ys) hb;simp only [Kaa] at hs |-;subst hs;refine ⟨_,rfl,?_,?_⟩
   . split
     . exact q1
     . exact q1.kill hP (.rooted _)
   . split
     . exact q2
     . exact q2
 . rename_i r c p i j;split at hs
   . cases hs
   rename_i hd;rw [if_neg hd];split at hs;rotate_left
   . cases hs
   rename_i e es hp;simp only [(h.plc hp).1];split at hs;rotate_left
   . cases hs
   rename_i el hi
   try simp only [hi]
   split at hs;rotate_left
   . cases hs
   rename_i old ho
   try simp only [ho]
   split at hs;rotate_left
   . cases hs
   rename_i st2 h2;obtain ⟨st2',q1,q2,q3⟩:=h.setPlc hp h2;simp only [q1,Kaa] at hs |-;subst hs;refine ⟨_,rfl,?_,?_⟩
   . split
     . exact q2
     . exact q2.kill hP (.rooted _)
   . split
     . exact q3
     . exact q3
 . cases hs
theorem Qte:∀ {xs:List IV} {cs:List IV} {i s:Nat},Qg9 xs=some s->Qe9 s i xs cs=true->cs.any IV.isOwn=true
 | [],cs,i,s,h,_=>by cases h
 | x::xs,[],i,s,_,h=>by unfold Qe9 at h;split at h <;> simp_all
 | x::xs,c::cs,i,s,hr,h=>by
   unfold Qe9 at h;split at h
   . simp_all
   . rename_i h1 h2;cases h1;cases h2;simp only [Kac] at h;have:=Qte (xs:=xs) (by simpa [Qg9] using hr) h.2;simp [this]
   . rename_i h1 h2;cases h1;cases h2;simp [IV.isOwn]
   . cases h
theorem Qos (h:Sim D P L st st') {xs cs:List IV} {s:Nat} (hroot:Qg9 xs=some s) (hs:Qav st.T s=.agg cs) (hsh:Qe9 s 0 xs cs=true):¬ D s:=fun hd=>by
 have h9:=h.H s hd;rw [hs] at h9;simp only [IV.holds] at h9;rw [Qte hroot hsh] at h9;cases h9
theorem Sim.arg1 (h:Sim D P L st st') (hP:∀ q,Qaj q->∀ x,P x->P (kl q x)) {m:Mode} {o:Opd} (ho:NoU D (Qdh o)) {v:Option IV} (ha:st.arg1 m o=some (v,st1)):∃ st1',st'.arg1 m o=some (v,st1')/\Sim D P L st1 st1'/\Shp st st1:=by
 cases m with
 | val=>simp only [St.arg1,Kaa,Kab] at ha |-;obtain ⟨rfl,rfl⟩:=ha;exact ⟨_,⟨rfl,rfl⟩,h,.refl _⟩
 | rv=>simp only [St.arg1,Kaa,Kab] at ha |-;obtain ⟨rfl,rfl⟩:=ha;exact ⟨_,⟨rfl,rfl⟩,h,.refl _⟩
 | rd =>
   simp only [St.arg1] at ha |-;cases ht:Idl.tk st.T o with
   | mk x T =>
   obtain ⟨T',q1,q2⟩:=h.tk hP ho ht;rw [ht] at ha;rw [q1];cases x <;> simp only at ha |- <;> try (simp only [Kaa,Kab] at ha |-;obtain ⟨rfl,rfl⟩:=ha;exact ⟨_,⟨rfl,rfl⟩,by first | exact q2 | exact h,.refl _⟩)
   split at ha
   . rename_i hp;rw [if_pos hp];simp only [Kaa,Kab] at ha |-;obtain ⟨rfl,rfl⟩:=ha;exact ⟨_,⟨rfl,rfl⟩,q2,.refl _⟩
   . rename_i hp;rw [if_neg hp];simp only [Kaa,Kab] at ha |-;obtain ⟨rfl,rfl⟩:=ha;exact ⟨_,⟨rfl,rfl⟩,h,.refl _⟩
 | tk =>
   simp only [St.arg1] at ha |-;cases ht:Idl.tk st.T o with
   | mk x T =>
   obtain ⟨T',q1,q2⟩:=h.tk hP ho ht;rw [ht] at ha;rw [q1];cases x <;> simp only at ha |-
   case agg cs =>
    split at ha;rotate_left
    . cases ha
    rename_i cs2 st2 h2;obtain ⟨st2',r1,r2,r3⟩:=q2.absorbs hP h2;simp only [r1,Kaa,Kab] at ha |-;obtain ⟨rfl,rfl⟩:=ha;exact ⟨_,⟨rfl,rfl⟩,r2,r3⟩
   all_goals
    split at ha;rotate_left
    . cases ha
    rename_i h2;obtain ⟨st2',r1,r2,r3⟩:=q2.absorb hP h2;simp only [r1,Kaa,Kab] at ha |-;obtain ⟨rfl,rfl⟩:=ha;exact ⟨_,⟨rfl,rfl⟩,r2,r3⟩
 | ld =>
   simp only [St.arg1,h.rd ho] at ha |-;split at ha
   . rename_i s c e n hr;split at ha
     . rename_i e2 es hs;have hD:¬ D s:=fun hd=>by have:=h.H s hd;rw [hs] at this;cases this
       simp only [h.T s hD,hs];split at ha;rotate_left
       . cases ha
       rename_i hn;rw [if_pos hn];simp only [Kaa,Kab] at ha |-;obtain ⟨rfl,rfl⟩:=ha;exact ⟨_,⟨rfl,rfl⟩,h.dropSlot hP hD,.refl _⟩
     . rename_i cs hs;split at ha;rotate_left
       . cases ha
       rename_i e2 es hce;have hD:¬ D s:=fun hd=>by
        have:=h.H s hd;rw [hs] at this;simp only [IV.holds,List.any_eq_false] at this;exact this _ (Kbn hce) rfl
       simp only [h.T s hD,hs,hce];split at ha;rotate_left
       . cases ha
       rename_i hn;rw [if_pos hn];simp only [Kaa,Kab] at ha |-;obtain ⟨rfl,rfl⟩:=ha;exact ⟨_,⟨rfl,rfl⟩,(h.dropSlot hP hD).cons hD _,.refl _⟩
     . cases ha
   . rename_i xs hr;split at ha;rotate_left
     . cases ha
     rename_i s hroot;split at ha;rotate_left
     . cases ha
     rename_i cs hs;split at ha;rotate_left
     . cases ha
     rename_i hsh;have hD:=Qos h hroot hs hsh;simp only [h.T s hD,hs];rw [if_pos hsh];simp only [Kaa,Kab] at ha |-;obtain ⟨rfl,rfl⟩:=ha;exact ⟨_,⟨rfl,rfl⟩,h.dropSlot hP hD,.refl _⟩
   . cases ha
theorem Sim.args1 (hP:∀ q,Qaj q->∀ x,P x->P (kl q x)):∀ {l:List (Mode×Opd)} {st st' st1:St} {vs:List (Option IV)} {ss:List (Nat×Nat)},Sim D P L st st'->NoU D (l.flatMap fun a=>Qdh a.2)->st.args1 l=some (vs,st1,ss) ->
 ∃ st1',st'.args1 l=some (vs,st1',ss)/\Sim D P L st1 st1'/\Shp st st1/\NoU D (ss.map (·.1))
 | [],st,st',st1,vs,ss,h,_,ha=>by
   simp only [St.args1,Kaa,Kab] at ha |-;obtain ⟨rfl,rfl,rfl⟩:=ha;exact ⟨_,⟨rfl,rfl,rfl⟩,h,.refl _,fun s hs=>by cases hs⟩
 | (m,o)::l,st,st',st1,vs,ss,h,ho,ha=>by
   have ho1:NoU D (Qdh o):=fun s hs=>ho s (by simp [hs]);have ho2:NoU D (l.flatMap fun a=>Qdh a.2):=fun s hs=>ho s (by rw [Kcw];simp [hs]);simp only [St.args1] at ha |-;split at ha;rotate_left
   . cases ha
   rename_i v st2 h1;obtain ⟨st2',q1,q2,q3⟩:=h.arg1 hP ho1 h1;split at ha;rotate_left
   . cases ha
   rename_i vs2 st3 ss2 h2;obtain ⟨st3',r1,r2,r3,r4⟩:=Sim.args1 hP q2 ho2 h2;simp only [Kaa,Kab] at ha;obtain ⟨rfl,rfl,rfl⟩:=ha;have hl:Qfe st'.T m o=Qfe st.T m o/\NoU D ((Qfe st.T m o).map (·.1)):=by
    cases m <;> try exact ⟨rfl,fun s hs=>by cases hs⟩
    simp only [St.arg1] at h1;simp only [Qfe,h.rd ho1];split at h1
    . rename_i s c e n hr;simp only [hr];have hD:¬ D s:=fun hd=>by
       have h9:=h.H s hd;split at h1
       . rename_i hs;rw [hs] at h9;cases h9
       . rename_i cs hs;split at h1
         . rename_i hce;rw [hs] at h9;simp only [IV.holds,List.any_eq_false] at h9;exact h9 _ (Kbn hce) rfl
         . cases h1
       . cases h1
      rw [h.T s hD];refine ⟨rfl,fun t ht=>?_⟩;split at ht <;> simp only [Kbd,Kdn,Kce] at ht <;> exact ht ▸ hD
    . rename_i xs hr;simp only [hr];split at h1;rotate_left
      . cases h1
      rename_i s hroot
      try simp only [hroot]
      split at h1;rotate_left
      . cases h1
      rename_i cs hs;split at h1;rotate_left
      . cases h1
      rename_i hsh;refine ⟨by first | rfl | trivial,fun t ht=>?_⟩;simp only [Kbd,Kdn,Kce] at ht;exact ht ▸ Qos h hroot hs hsh
    . cases h1
   simp only [q1,r1,hl.1];refine ⟨_,rfl,r2,q3.trans r3,fun s hs=>?_⟩;rw [Kct] at hs;rcases Kah.1 hs with hs | hs
   . exact hl.2 s hs
   . exact r4 s hs
theorem Sim.seen (h:Sim D P L st st') {x:IV} {r:IV×Bool} (hs:st.seen x=some r):st'.seen x=some r:=by
 unfold St.seen at *
 split at hs
 . rename_i hp;rw [if_pos hp];exact hs
 . rename_i hp;rw [if_neg hp];split at hs;rotate_left
   . cases hs
   rename_i hv;rw [h.sview hv];exact hs
theorem Sim.seens (h:Sim D P L st st'):∀ {xs:List IV} {r:List IV×Bool},st.seens xs=some r->st'.seens xs=some r
 | [],r,hs=>hs
 | x::xs,r,hs=>by
   simp only [St.seens] at hs |-;split at hs;rotate_left
   . cases hs
   rename_i h1;rw [h.seen h1];simp only;split at hs;rotate_left
   . cases hs
   rename_i h2;rw [h.seens h2];exact hs
theorem Sim.arg2 (h:Sim D P L st st') {m:Mode} {o:Opd} (ho:NoU D (Qdh o)) {r:IV×Bool} (ha:st.arg2 m o=some r):st'.arg2 m o=some r:=by
 cases m <;> simp only [St.arg2,h.rd ho] at ha |- <;> try exact ha
 all_goals
  split at ha
  . split at ha;rotate_left
    . cases ha
    rename_i hs;rw [h.seens hs];exact ha
  . exact h.seen ha
theorem Sim.args2 (h:Sim D P L st st'):∀ {l:List (Mode×Opd)} {vs:List (Option IV)} {r:List IV×Bool},NoU D (l.flatMap fun a=>Qdh a.2)->st.args2 l vs=some r->st'.args2 l vs=some r
 | [],[],r,_,ha=>ha
 | [],_::_,r,_,ha=>by simp [St.args2] at ha
 | a::l,[],r,_,ha=>by simp [St.args2] at ha
 | a::l,some v::vs,r,ho,ha=>by
   have ho2:NoU D (l.flatMap fun a=>Qdh a.2):=fun s hs=>ho s (by rw [Kcw];simp [hs]);simp only [St.args2] at ha |-;split at ha;rotate_left
   . cases ha
   rename_i h1;rw [h.args2 ho2 h1];exact ha
 | (m,o)::l,none::vs,r,ho,ha=>by
   have ho1:NoU D (Qdh o):=fun s hs=>ho s (by simp [hs]);have ho2:NoU D (l.flatMap fun a=>Qdh a.2):=fun s hs=>ho s (by rw [Kcw];simp [hs]);simp only [St.args2] at ha |-;split at ha;rotate_left
   . cases ha
   rename_i h1;rw [h.arg2 ho1 h1];simp only;split at ha;rotate_left
   . cases ha
   rename_i h2;rw [h.args2 ho2 h2];exact ha
theorem Sim.args (h:Sim D P L st st') (hP:∀ q,Qaj q->∀ x,P x->P (kl q x)) {l:List (Mode×Opd)} (ho:NoU D (l.flatMap fun a=>Qdh a.2)) {vs:List IV} {b:Bool} {ss:List (Nat×Nat)} (ha:st.args l=some (vs,st1,b,ss)) :
 ∃ st1',st'.args l=some (vs,st1',b,ss)/\Sim D P L st1 st1'/\Shp st st1/\NoU D (ss.map (·.1)):=by
 unfold St.args at ha |-;split at ha;rotate_left
 . cases ha
 rename_i v1 st2 ss2 h1;obtain ⟨st2',q1,q2,q3,q4⟩:=Sim.args1 hP h ho h1;simp only [q1];split at ha;rotate_left
 . cases ha
 rename_i h2;rw [q2.args2 ho h2];simp only [Kaa,Kab] at ha |-;obtain ⟨rfl,rfl,rfl,rfl⟩:=ha;exact ⟨_,⟨rfl,rfl,rfl,rfl⟩,q2,q3,q4⟩
theorem Sim.lentBack (hP:∀ q,Qaj q->∀ x,P x->P (kl q x)):∀ {ss:List (Nat×Nat)} {ys:List IV} {st st' st1:St},Sim D P L st st'->NoU D (ss.map (·.1))->st.lentBack ss ys=some st1->∃ st1',st'.lentBack ss ys=some st1'/\Sim D P L st1 st1'
 | [],[],st,st',st1,h,_,ha=>by
   simp only [St.lentBack,Kaa] at ha |-;subst ha;exact ⟨_,rfl,h⟩
 | [],_::_,st,st',st1,h,_,ha=>by simp [St.lentBack] at ha
 | _::_,[],st,st',st1,h,_,ha=>by simp [St.lentBack] at ha
 | (s,0)::ss,y::ys,st,st',st1,h,ho,ha=>by
   simp only [St.lentBack] at ha |-;split at ha;rotate_left
   . cases ha
   rename_i hy;rw [if_pos hy];exact Sim.lentBack hP (h.tput hP (ho s (by simp)) y) (fun t ht=>ho t (by rw [Kbd];exact Kdu _ ht)) ha
 | (s,c+1)::ss,y::ys,st,st',st1,h,ho,ha=>by
   have hD:¬ D s:=ho s (by simp);simp only [St.lentBack,h.T s hD] at ha |-;split at ha;rotate_left
   . cases ha
   rename_i hy;rw [if_pos hy];split at ha;rotate_left
   . cases ha
   rename_i cs hs;split at ha;rotate_left
   . cases ha
   rename_i hcu
   try simp only [hcu]
   exact Sim.lentBack hP ((h.dropSlot hP hD).cons hD _) (fun t ht=>ho t (by rw [Kbd];exact Kdu _ ht)) ha
theorem Sim.callWith (h:Sim D P L st st') (hP:∀ q,Qaj q->∀ x,P x->P (kl q x)) {cf:CF} {f:Lab} {caps:List IV} {args:List (Mode×Opd)} {p:Bool} (hp:p=true \/ L=[]) (ho:NoU D (args.flatMap fun a=>Qdh a.2)) {v:IV}
 (hc:st.callWith cf f caps args p=some (v,st1)):∃ st1',st'.callWith cf f caps args p=some (v,st1')/\Sim D P L st1 st1'/\(p=true->Shp st st1):=by
 unfold St.callWith at hc |-;split at hc;rotate_left
 . cases hc
 rename_i vs st2 fz ss h1;obtain ⟨st2',q1,q2,q3,q4⟩:=h.args hP ho h1;simp only [q1];cases p with
 | true =>
   simp only [if_true] at hc |-;split at hc
   . cases hc
   rename_i hg;rw [if_neg hg];split at hc;rotate_left
   . cases hc
   split at hc
   . rename_i hz;simp only [hz,if_true];split at hc
     . rename_i hn;rw [if_pos hn];simp only [Kaa,Kab] at hc |-;obtain ⟨rfl,rfl⟩:=hc;exact ⟨_,⟨rfl,rfl⟩,q2,fun _=>q3⟩
     . cases hc
   . rename_i hz;simp only [hz,Kbs,Kap];simp only [Kaa,Kab] at hc |-;obtain ⟨rfl,rfl⟩:=hc;exact ⟨_,⟨rfl,rfl⟩,q2,fun _=>q3⟩
 | false =>
   have hL:L=[]:=by rcases hp with hp | hp;cases hp;exact hp
   subst hL;have hloc:st2'.loc=st2.loc:=by rw [q2.loc,Kbb]
   simp only [Kap,Kbs,q2.M,hloc] at hc |-;split at hc
   . cases hc
   rename_i hz;simp only [hz,Kap,Kbs];split at hc;rotate_left
   . cases hc
   rename_i rv back M exp hcf;split at hc;rotate_left
   . cases hc
   rename_i lo hlo
   try simp only [hlo]
   split at hc;rotate_left
   . cases hc
   rename_i hM;rw [if_pos hM];split at hc;rotate_left
   . cases hc
   rename_i st3 hlb;have hs:Sim D P [] { T:=Qc0 st2.T,loc:=lo++exp,M:=M.dropLast } { T:=Qc0 st2'.T,loc:=lo++exp,M:=M.dropLast }:=by
    have:=q2.kill hP .rootB;exact ⟨this.T,this.Q,this.H,rfl,by simp⟩
   obtain ⟨st3',r1,r2⟩:=Sim.lentBack hP hs q4 hlb;simp only [r1];split at hc
   . simp only [Kaa,Kab] at hc |-;obtain ⟨rfl,rfl⟩:=hc;exact ⟨_,⟨rfl,rfl⟩,r2,fun hh=>by cases hh⟩
   . split at hc;rotate_left
     . cases hc
     rename_i hl;rw [if_pos hl];simp only [Kaa,Kab] at hc |-;obtain ⟨rfl,rfl⟩:=hc;exact ⟨_,⟨rfl,rfl⟩,r2,fun hh=>by cases hh⟩
   . cases hc
end
end Go.Idl
namespace Go.Idl
open Go
def evq (st:St):K->Option IV
 | .mv x=>some (rd st.T x)
 | .nilo e=>some (.own e [])
 | .pick c a b=>match rd st.T c with
   | .sc (.bool t)=>some (rd st.T (if t then a else b))
   | _=>none
 | .load agg sz a=>match st.loadCells sz (rd st.T a) with
   | some cs=>pack agg cs
   | none=>none
 | .nilck x=>match rd st.T x with
   | .bptr l k c=>some (.bptr l k c)
   | .eptr r c p i j=>some (.eptr r c p i j)
   | .lptr e j=>some (.lptr e j)
   | _=>none
 | .bin op x y=>Jpe op (rd st.T x) (rd st.T y)
 | .eqa neg n x y=>match rd st.T x,rd st.T y with
   | .agg xs,.agg ys=>if xs.length=n then match Qdn xs ys with
      | some b=>some (.sc (.bool (if neg then !b else b)))
      | none=>none
     else none
   | _,_=>none
 | .unop op x=>match rd st.T x with
   | .sc v=>match Qek (Op.unary op v) with
     | some v=>if Idl.isSc v then some (.sc v) else none
     | none=>none
   | _=>none
 | .conv k x=>match rd st.T x with
   | .sc (.int _ n)=>some (.sc (.int k (k.wrap n)))
   | _=>none
 | .mkfn f caps=>if (caps.map (rd st.T)).all IV.isBptr then some (.fn f (caps.map (rd st.T))) else none
 | .mksl esz zero len cap=>match Qcc (rd st.T len),Qcc (rd st.T cap) with
   | some l,some c=>if l<=c/\c<=lim then some (.own esz (Qae zero l)) else none
   | _,_=>none
 | .slc esz x lo hi mx=>match Jm9 (rd st.T x) with
   | some n=>match bound 0 st.T lo,bound n st.T hi with
     | some l,some h=>match mx with
       | none=>Jfh esz (rd st.T x) l h none
       | some m=>match Qcc (rd st.T m) with
         | some m=>Jfh esz (rd st.T x) l h (some m)
         | none=>none
     | _,_=>none
   | none=>none
 | .slcs x lo hi=>match rd st.T x with
   | .sc (.string s)=>match bound 0 st.T lo,bound s.size st.T hi with
     | some l,some h=>if l<=h/\h<=s.size then some (.sc (.string (s.extract l h))) else none
     | _,_=>none
   | _=>none
 | .fadr off x=>match rd st.T x with
   | .bptr l k c=>some (.bptr l k (c+off))
   | .eptr r c p i j=>some (.eptr r c p i (j+off))
   | .lptr e j=>some (.lptr e (j+off))
   | _=>none
 | .iadr esz x i=>match Qcc (rd st.T i) with
   | some i=>match rd st.T x with
     | .lst e es _=>if e=esz then match es[i]? with
        | some e=>some (.lptr e 0)
        | none=>none
       else none
     | .arr r c p e off n _=>if e=esz/\i < n then some (.eptr r c p (off+i) 0) else none
     | _=>none
   | none=>none
 | .idxs x i=>match rd st.T x,Qcc (rd st.T i) with
   | .sc (.string s),some i=>match s[i]? with
     | some b=>some (.sc (.int .u8 b.toNat))
     | none=>none
   | _,_=>none
 | .len x=>match Jm9 (rd st.T x) with
   | some n=>some (.sc (.int .i64 n))
   | none=>none
 | .lens x=>match rd st.T x with
   | .sc (.string s)=>some (.sc (.int .i64 s.size))
   | _=>none
 | .minmax mn x y=>match rd st.T x,rd st.T y with
   | .sc (.int k a),.sc (.int _ b)=>some (.sc (.int k (if mn then (if b < a then b else a) else (if a < b then b else a))))
   | _,_=>none
 | _=>none
theorem Qpp {cf:CF} {st:St} {k:K} (hk:Qff k=true):ev cf st k=(evq st k).map fun v=>(v,st):=by
 cases k <;> simp only [Qff,Kap] at hk <;> simp only [ev,evq]
 case nilck x=>generalize rd st.T x=y;cases y <;> rfl
 case fadr off x=>generalize rd st.T x=y;cases y <;> rfl
 case iadr e x i =>
  cases Qcc (rd st.T i) with
  | none=>rfl
  | some n =>
    generalize rd st.T x=y;cases y <;> simp only <;> first
     | rfl
     | (split <;> first
         | rfl
         | (split <;> simp_all))
 all_goals first
  | rfl
  | (split <;> rfl)
  | (split
     . split <;> first | rfl | simp_all
     . first | rfl | simp_all)
  | (repeat' split) <;> first | rfl | simp_all
section
variable {D:Nat->Prop} {P:IV->Prop} {L:Qad} {st st' st1:St} {cf:CF}
theorem Sim.bound (h:Sim D P L st st') {d:Nat} {o:Option Opd} (ho:NoU D (Jl3 o)):bound d st'.T o=bound d st.T o:=by
 cases o with
 | none=>rfl
 | some o=>simp only [Idl.bound];rw [h.rd (o:=o) ho]
theorem Sim.evq (h:Sim D P L st st') {k:K} (ho:NoU D k.useL) {v:IV} (he:evq st k=some v):evq st' k=some v:=by
 have sub:∀ {x:Opd} {l:List Nat},(∀ s ∈ Qdh x,s ∈ l)->NoU D l->Idl.rd st'.T x=Idl.rd st.T x:=fun hs hl=>h.rd fun s hh=>hl s (hs s hh);cases k <;> simp only [K.useL] at ho <;> simp only [Idl.evq] at he |- <;> try exact he
 case mv x=>rw [h.rd ho];exact he
 case pick c a b =>
  rw [sub (x:=c) (by intro s hs;simp [hs]) ho];split at he
  . rename_i t _;rw [h.rd (o:=if t=true then a else b) (by intro s hs;refine ho s ?_;cases t <;> simp_all)];exact he
  . cases he
 case load ag sz a =>
  rw [h.rd ho];split at he
  . rename_i cs hc;rw [h.loadCells hc];exact he
  . cases he
 case nilck x=>rw [h.rd ho];exact he
 case bin op x y=>rw [sub (x:=x) (by intro s hs;simp [hs]) ho,sub (x:=y) (by intro s hs;simp [hs]) ho];exact he
 case eqa n q x y=>rw [sub (x:=x) (by intro s hs;simp [hs]) ho,sub (x:=y) (by intro s hs;simp [hs]) ho];exact he
 case unop op x=>rw [h.rd ho];exact he
 case conv q x=>rw [h.rd ho];exact he
 case mkfn f caps =>
  have:caps.map (Idl.rd st'.T)=caps.map (Idl.rd st.T):=Kdr fun o hm=>h.rd fun s hs=>ho s (List.mem_flatMap.2 ⟨o,hm,hs⟩);rw [this];exact he
 case mksl e z x y=>rw [sub (x:=x) (by intro s hs;simp [hs]) ho,sub (x:=y) (by intro s hs;simp [hs]) ho];exact he
 case slc e x lo hi mx =>
  rw [sub (x:=x) (by intro s hs;simp [hs]) ho];simp only [h.bound (o:=lo) (fun s hs=>ho s (by simp [hs])),h.bound (o:=hi) (fun s hs=>ho s (by simp [hs]))];cases mx with
  | none=>exact he
  | some m=>simp only;rw [sub (x:=m) (by intro s hs;simp [Jl3,hs]) ho];exact he
 case slcs x lo hi =>
  rw [sub (x:=x) (by intro s hs;simp [hs]) ho];simp only [h.bound (o:=lo) (fun s hs=>ho s (by simp [hs])),h.bound (o:=hi) (fun s hs=>ho s (by simp [hs]))];exact he
 case fadr off x=>rw [h.rd ho];exact he
 case iadr e x i=>rw [sub (x:=x) (by intro s hs;simp [hs]) ho,sub (x:=i) (by intro s hs;simp [hs]) ho];exact he
 case idxs x i=>rw [sub (x:=x) (by intro s hs;simp [hs]) ho,sub (x:=i) (by intro s hs;simp [hs]) ho];exact he
 case len x=>rw [h.rd ho];exact he
 case lens x=>rw [h.rd ho];exact he
 case minmax mn x y=>rw [sub (x:=x) (by intro s hs;simp [hs]) ho,sub (x:=y) (by intro s hs;simp [hs]) ho];exact he
theorem Sim.fillCells (hP:∀ q,Qaj q->∀ x,P x->P (kl q x)):∀ {ps:List (Nat×Nat×Opd)} {cs cs2:List IV} {st st':St} {T:Tm},Sim D P L st st'->NoU D (ps.flatMap fun p=>Qdh p.2.2)->fillCells st.T cs ps=some (cs2,T) ->
 ∃ T',fillCells st'.T cs ps=some (cs2,T')/\Sim D P L { st with T:=T } { st' with T:=T' }
 | [],cs,cs2,st,st',T,h,_,he=>by
   simp only [Idl.fillCells,Kaa,Kab] at he |-;obtain ⟨rfl,rfl⟩:=he;exact ⟨_,⟨rfl,rfl⟩,h⟩
 | (off,sz,o)::ps,cs,cs2,st,st',T,h,ho,he=>by
   have ho1:NoU D (Qdh o):=fun s hs=>ho s (by rw [Kcw];simp [hs]);have ho2:NoU D (ps.flatMap fun p=>Qdh p.2.2):=fun s hs=>ho s (by rw [Kcw];simp [hs]);simp only [Idl.fillCells] at he |-;cases ht:Idl.tk st.T o with
   | mk v T1 =>
   obtain ⟨T1',q1,q2⟩:=h.tk hP ho1 ht;rw [ht] at he;rw [q1];simp only at he |-;split at he;rotate_left
   . cases he
   rename_i hc;rw [if_pos hc];exact Sim.fillCells hP q2 ho2 he
theorem Sim.fillElems (hP:∀ q,Qaj q->∀ x,P x->P (kl q x)) {e:Nat}:∀ {ps:List (Nat×Opd)} {es es2:List (List IV)} {st st' st1:St},Sim D P L st st'->NoU D (ps.flatMap fun p=>Qdh p.2)->st.fillElems es e ps=some (es2,st1) ->
 ∃ st1',st'.fillElems es e ps=some (es2,st1')/\Sim D P L st1 st1'/\Shp st st1
 | [],es,es2,st,st',st1,h,_,he=>by
   simp only [St.fillElems,Kaa,Kab] at he |-;obtain ⟨rfl,rfl⟩:=he;exact ⟨_,⟨rfl,rfl⟩,h,.refl _⟩
 | (i,o)::ps,es,es2,st,st',st1,h,ho,he=>by
   have ho1:NoU D (Qdh o):=fun s hs=>ho s (by rw [Kcw];simp [hs]);have ho2:NoU D (ps.flatMap fun p=>Qdh p.2):=fun s hs=>ho s (by rw [Kcw];simp [hs]);simp only [St.fillElems] at he |-;cases ht:Idl.tk st.T o with
   | mk v T1 =>
   obtain ⟨T1',q1,q2⟩:=h.tk hP ho1 ht;rw [ht] at he;rw [q1];simp only at he |-;split at he;rotate_left
   . cases he
   rename_i cs st2 h2;obtain ⟨st2',r1,r2,r3⟩:=q2.absorbs hP h2;simp only [r1];split at he;rotate_left
   . cases he
   rename_i hc;rw [if_pos hc];obtain ⟨st3',k1,k2,k3⟩:=Sim.fillElems hP r2 ho2 he;exact ⟨st3',k1,k2,Shp.trans (show Shp st st2 from r3) k3⟩
theorem Sim.news (h:Sim D P L st st') (hP:∀ q,Qaj q->∀ x,P x->P (kl q x)) {e:Nat} {o:Opd} (ho:NoU D (Qdh o)) {es:List (List IV)} (he:st.news e o=some (es,st1)):∃ st1',st'.news e o=some (es,st1')/\Sim D P L st1 st1'/\Shp st st1:=by
 unfold St.news at he |-;cases ht:Idl.tk st.T o with
 | mk v T1 =>
 obtain ⟨T1',q1,q2⟩:=h.tk hP ho ht;rw [ht] at he;rw [q1];have other:∀ {r:Option (List (List IV)×St)} ,(match st.sview (Idl.rd st.T o) with
  | some (e2,es)=>if ((e2 == e || es.isEmpty) && es.all fun x=>x.all IV.plain1)=true then some (es,st) else none
  | none=>none)=some (es,st1)->∃ st1',(match st'.sview (Idl.rd st'.T o) with
  | some (e2,es)=>if ((e2 == e || es.isEmpty) && es.all fun x=>x.all IV.plain1)=true then some (es,st') else none
  | none=>none)=some (es,st1')/\Sim D P L st1 st1'/\Shp st st1:=by
  intro _ hh;rw [h.rd ho];split at hh;rotate_left
  . cases hh
  rename_i hs;rw [h.sview hs];simp only;split at hh
  . rename_i hc;rw [if_pos hc];simp only [Kaa,Kab] at hh |-;obtain ⟨rfl,rfl⟩:=hh;exact ⟨_,⟨rfl,rfl⟩,h,.refl _⟩
  . cases hh
 cases v <;> simp only at he |- <;> try exact other (r:=none) he
 split at he
 . rename_i hc;rw [if_pos hc];simp only [Kaa,Kab] at he |-;obtain ⟨rfl,rfl⟩:=he;exact ⟨_,⟨rfl,rfl⟩,q2,.refl _⟩
 . cases he
theorem Sim.append (h:Sim D P L st st') (hP:∀ q,Qaj q->∀ x,P x->P (kl q x)) {e:Nat} {o:Opd} (ho:NoU D (Qdh o)) {ys:List (List IV)} {v:IV} (he:st.append e o ys=some (v,st1)):∃ st1',st'.append e o ys=some (v,st1')/\Sim D P L st1 st1'/\Shp st st1:=by
 unfold St.append at he |-;cases ht:Idl.tk st.T o with
 | mk x T1 =>
 obtain ⟨T1',q1,q2⟩:=h.tk hP ho ht;rw [ht] at he;rw [q1];have other:∀ (x:IV),(match ({ st with T:=T1 }:St).absorb x with
  | some (.own e2 es,st)=>if e2=e/\es.length+ys.length<=lim then some (IV.own e (es++ys),st) else none
  | _=>none)=some (v,st1)->∃ st1',(match ({ st' with T:=T1' }:St).absorb x with
  | some (.own e2 es,st)=>if e2=e/\es.length+ys.length<=lim then some (IV.own e (es++ys),st) else none
  | _=>none)=some (v,st1')/\Sim D P L st1 st1'/\Shp st st1:=by
  intro x hh;split at hh;rotate_left
  . cases hh
  rename_i e2 es st2 ha;obtain ⟨st2',r1,r2,r3⟩:=q2.absorb hP ha;simp only [r1];split at hh;rotate_left
  . cases hh
  rename_i hc;rw [if_pos hc];simp only [Kaa,Kab] at hh |-;obtain ⟨rfl,rfl⟩:=hh;exact ⟨_,⟨rfl,rfl⟩,r2,r3⟩
 cases x <;> try (first | exact other (.sc _) he | exact other (.own _ _) he | exact other (.eptr _ _ _ _ _) he | exact other (.lptr _ _) he | exact other (.bptr _ _ _) he | exact other (.fn _ _) he | exact other (.agg _) he | exact other (.tup _) he | exact other .un he)
 case lst e2 es cl =>
  cases cl with
  | false=>exact other (.lst e2 es false) he
  | true =>
    simp only at he |-;split at he
    . rename_i hc;rw [if_pos hc];simp only [Kaa,Kab] at he |-;obtain ⟨rfl,rfl⟩:=he;exact ⟨_,⟨rfl,rfl⟩,h,.refl _⟩
    . cases he
 case arr r c p e2 off n cl =>
  cases cl with
  | false=>exact other (.arr r c p e2 off n false) he
  | true =>
    simp only at he |-;split at he
    . rename_i hc;rw [if_pos hc];simp only [Kaa,Kab] at he |-;obtain ⟨rfl,rfl⟩:=he;exact ⟨_,⟨rfl,rfl⟩,q2,.refl _⟩
    . cases he
theorem ev_sim (h:Sim D P L st st') (hP:∀ q,Qaj q->∀ x,P x->P (kl q x)) {k:K} (hk:Qjc k=true \/ L=[]) (ho:NoU D k.useL) {v:IV} (he:ev cf st k=some (v,st1)) :
 ∃ st1',ev cf st' k=some (v,st1')/\Sim D P L st1 st1'/\(Qjc k=true->Shp st st1):=by
 by_cases hp:Qff k=true
 . rw [Qpp hp] at he |-;rw [Option.map_eq_some_iff] at he;obtain ⟨v',h1,h2⟩:=he;simp only [Kab] at h2;obtain ⟨rfl,rfl⟩:=h2;rw [h.evq ho h1];exact ⟨st',rfl,h,fun _=>.refl _⟩
 cases k <;> simp only [Qff,not_true_eq_false] at hp <;> simp only [K.useL] at ho <;> simp only [ev] at he |-
 case mvo e x =>
  rw [h.rd ho];simp only [Kaa,Kab] at he |-;obtain ⟨rfl,rfl⟩:=he;exact ⟨_,⟨rfl,rfl⟩,h,fun _=>.refl _⟩
 case strb x =>
  rw [h.rd ho];split at he;rotate_left
  . cases he
  rename_i e ys hv;rw [h.sview hv];simp only;split at he;rotate_left
  . cases he
  rename_i hc;rw [if_pos hc];split at he;rotate_left
  . cases he
  rename_i xs hx;simp only [Kaa,Kab] at he |-;obtain ⟨rfl,rfl⟩:=he;exact ⟨_,⟨rfl,rfl⟩,h,fun _=>.refl _⟩
 case asg x =>
  cases ht:Idl.tk st.T x with
  | mk u T1 =>
  obtain ⟨T1',q1,q2⟩:=h.tk hP ho ht;rw [ht] at he;rw [q1];simp only [Kaa,Kab] at he |-;obtain ⟨rfl,rfl⟩:=he;exact ⟨_,⟨rfl,rfl⟩,q2,fun _=>.refl _⟩
 case asgm x =>
  cases ht:Idl.tk st.T x with
  | mk u T1 =>
  obtain ⟨T1',q1,q2⟩:=h.tk hP ho ht;rw [ht] at he;rw [q1];cases u <;> simp only at he |-
  case agg cs =>
   split at he;rotate_left
   . cases he
   rename_i cs2 st2 h2;obtain ⟨st2',r1,r2,r3⟩:=q2.absorbs hP h2;simp only [r1,Kaa,Kab] at he |-;obtain ⟨rfl,rfl⟩:=he;exact ⟨_,⟨rfl,rfl⟩,r2,fun _=>r3⟩
  all_goals
   split at he;rotate_left
   . cases he
   rename_i u2 st2 h2;obtain ⟨st2',r1,r2,r3⟩:=q2.absorb hP h2;simp only [r1,Kaa,Kab] at he |-;obtain ⟨rfl,rfl⟩:=he;exact ⟨_,⟨rfl,rfl⟩,r2,fun _=>r3⟩
 case clr x z =>
  rw [h.rd ho];split at he;rotate_left
  . cases he
  split at he;rotate_left
  . cases he
  rename_i hp1;simp only [(h.plc hp1).1];split at he;rotate_left
  . cases he
  rename_i hc;rw [if_pos hc];split at he;rotate_left
  . cases he
  rename_i st2 h2;obtain ⟨st2',q1,q2,q3⟩:=h.setPlc hp1 h2;simp only [q1,Kaa,Kab] at he |-;obtain ⟨rfl,rfl⟩:=he;exact ⟨_,⟨rfl,rfl⟩,q2.kill hP (.rooted _),fun _=>q3⟩
 case alloc z =>
  have hL:L=[]:=by rcases hk with hk | hk;simp [Qjc] at hk;exact hk
  subst hL;have hloc:st'.loc=st.loc:=by rw [h.loc,Kbb]
  simp only [Kaa,Kab] at he |-;obtain ⟨rfl,rfl⟩:=he;refine ⟨_,⟨by rw [h.M,hloc],rfl⟩,⟨h.T,h.Q,h.H,h.M,by simp [hloc]⟩,by simp [Qjc]⟩
 case box x =>
  have hL:L=[]:=by rcases hk with hk | hk;simp [Qjc] at hk;exact hk
  subst hL;cases ht:Idl.tk st.T x with
  | mk u T1 =>
  obtain ⟨T1',q1,q2⟩:=h.tk hP ho ht;rw [ht] at he;rw [q1];simp only at he |-;split at he;rotate_left
  . cases he
  rename_i cs st2 h2;obtain ⟨st2',r1,r2,r3⟩:=q2.absorbs hP h2;have hloc:st2'.loc=st2.loc:=by rw [r2.loc,Kbb]
  simp only [r1,Kaa,Kab] at he |-;obtain ⟨rfl,rfl⟩:=he;exact ⟨_,⟨by rw [r2.M,hloc],rfl⟩,⟨r2.T,r2.Q,r2.H,r2.M,by simp [hloc]⟩,by simp [Qjc]⟩
 case build z ps =>
  split at he;rotate_left
  . cases he
  rename_i cs T1 h1;obtain ⟨T1',q1,q2⟩:=Sim.fillCells hP h ho h1;simp only [q1,Kaa,Kab] at he |-;obtain ⟨rfl,rfl⟩:=he;exact ⟨_,⟨rfl,rfl⟩,q2,fun _=>.refl _⟩
 case bsl e z n ps =>
  split at he;rotate_left
  . cases he
  rename_i es st2 h1;obtain ⟨st2',q1,q2,q3⟩:=Sim.fillElems hP h ho h1;simp only [q1,Kaa,Kab] at he |-;obtain ⟨rfl,rfl⟩:=he;exact ⟨_,⟨rfl,rfl⟩,q2,fun _=>q3⟩
 case store sz a x =>
  cases ht:Idl.tk st.T x with
  | mk u T1 =>
  obtain ⟨T1',q1,q2⟩:=h.tk hP (fun s hs=>ho s (by simp [hs])) ht;rw [ht] at he;rw [q1];simp only at he |-;split at he;rotate_left
  . cases he
  rename_i cs st2 h2;obtain ⟨st2',r1,r2,r3⟩:=q2.absorbs hP h2;simp only [r1,r2.rd (o:=a) (fun s hs=>ho s (by simp [hs]))];split at he;rotate_left
  . cases he
  rename_i hl;rw [if_pos hl];split at he;rotate_left
  . cases he
  rename_i st3 h3;obtain ⟨st3',k1,k2,k3⟩:=r2.storeCells hP h3;simp only [k1,Kaa,Kab] at he |-;obtain ⟨rfl,rfl⟩:=he;exact ⟨_,⟨rfl,rfl⟩,k2,fun _=>Shp.trans (show Shp st st2 from r3) k3⟩
 case storef sz a x =>
  cases ht:Idl.tk st.T x with
  | mk u T1 =>
  obtain ⟨T1',q1,q2⟩:=h.tk hP (fun s hs=>ho s (by simp [hs])) ht;rw [ht] at he;rw [q1];simp only at he |-;split at he;rotate_left
  . cases he
  rename_i cs st2 h2;obtain ⟨st2',r1,r2,r3⟩:=q2.absorbs hP h2;simp only [r1,r2.rd (o:=a) (fun s hs=>ho s (by simp [hs]))];split at he;rotate_left
  . cases he
  rename_i hl;rw [if_pos hl];split at he;rotate_left
  . cases he
  split at he;rotate_left
  . cases he
  rename_i st3 h3;obtain ⟨st3',k1,k2,k3⟩:=r2.storeCells hP h3;simp only [k1,Kaa,Kab] at he |-;obtain ⟨rfl,rfl⟩:=he;exact ⟨_,⟨rfl,rfl⟩,k2,fun _=>Shp.trans (show Shp st st2 from r3) k3⟩
 case extr x i =>
  cases x <;> simp only at he |- <;> try (cases he;done)
  rename_i s;have hs:=ho s (by simp [Qdh]);rw [h.T s hs];split at he;rotate_left
  . cases he
  split at he;rotate_left
  . cases he
  rename_i hv
  try simp only [hv]
  simp only [Kaa,Kab] at he |-;obtain ⟨rfl,rfl⟩:=he;exact ⟨_,⟨rfl,rfl⟩,(h.dropSlot hP hs).tput hP hs _,fun _=>.refl _⟩
 case call f args p =>
  exact h.callWith hP (by rcases hk with hk | hk;exact .inl hk;exact .inr hk) ho he
 case callv x args =>
  have hL:L=[]:=by rcases hk with hk | hk;simp [Qjc] at hk;exact hk
  rw [h.rd (o:=x) (fun s hs=>ho s (by simp [hs]))];split at he;rotate_left
  . cases he
  obtain ⟨st1',q1,q2,-⟩:=h.callWith hP (.inr hL) (fun s hs=>ho s (by simp [hs])) he;exact ⟨st1',q1,q2,by simp [Qjc]⟩
 case app e x y =>
  split at he;rotate_left
  . cases he
  rename_i ys st2 h2;obtain ⟨st2',q1,q2,q3⟩:=h.news hP (fun s hs=>ho s (by simp [hs])) h2;simp only [q1];split at he;rotate_left
  . cases he
  rename_i u st3 h3;obtain ⟨st3',r1,r2,r3⟩:=q2.append hP (fun s hs=>ho s (by simp [hs])) h3;simp only [r1,Kaa,Kab] at he |-;obtain ⟨rfl,rfl⟩:=he;exact ⟨_,⟨rfl,rfl⟩,r2,fun _=>q3.trans r3⟩
 case halt=>cases he
end
end Go.Idl
namespace Go.Idl
open Go
def gU:Option (Nat×Bool)->List Nat
 | some (s,_)=>[s]
 | none=>[]
def IOp.use (x:IOp):List Nat:=gU x.g++x.k.useL
def Qrq (d:Option Nat) (l:List Nat):Bool:=match d with
 | some d=>l.contains d
 | none=>false
def Jb9 (x y:IOp):Bool:=!Qrq x.dst y.use && !Qrq y.dst x.use && (match x.dst,y.dst with
 | some d,some e=>d != e
 | _,_=>true)
def Qsm (iops:List IOp) (i j:Nat):Bool:=match iops[i]?,iops[j]? with
 | some x,some y=>Jb9 x y && ((Qio x.k && Qdt y.k) || (Qjc x.k && Jby y.k && y.g.isNone && y.dst.isSome))
 | _,_=>false
theorem Qz2 {cf:CF} {st st1:St} {k:K} {v:IV} (hk:Qdt k=true) (he:ev cf st k=some (v,st1)):st1=st:=by
 by_cases hp:Qff k=true
 . rw [Qpp hp,Option.map_eq_some_iff] at he;obtain ⟨_,_,h2⟩:=he;simp only [Kab] at h2;exact h2.2.symm
 . have key:∀ f args,(args.all fun a=>a.1 == Mode.val || a.1 == Mode.rv)=true->st.callWith cf f [] args true=some (v,st1)->st1=st:=by
    intro f args hk hc;simp only [St.callWith] at hc;split at hc;rotate_left
    . cases hc
    rename_i vs st2 fz ss h1;have hs:st2=st:=by
     unfold St.args at h1;split at h1;rotate_left
     . cases h1
     rename_i v1 st3 ss3 h3;split at h1;rotate_left
     . cases h1
     simp only [Kaa,Kab] at h1;obtain ⟨-,rfl,-,-⟩:=h1;have key:∀ (l:List (Mode×Opd)) (st st2:St) vs ss,(l.all fun a=>a.1 == .val || a.1 == .rv)=true->st.args1 l=some (vs,st2,ss)->st2=st:=by
      intro l
      induction l with
      | nil=>intro st st2 vs ss _ h;simp only [St.args1,Kaa,Kab] at h;exact h.2.1.symm
      | cons a l ih =>
        intro st st2 vs ss hl h;obtain ⟨m,o⟩:=a;simp only [Kcj,Kac,Kbj,Kbt] at hl;have h1:st.arg1 m o=some (none,st):=by rcases hl.1 with rfl | rfl <;> rfl
        simp only [St.args1,h1] at h;split at h;rotate_left
        . cases h
        rename_i h2;simp only [Kaa,Kab] at h;obtain ⟨-,rfl,-⟩:=h;exact ih _ _ _ _ hl.2 h2
     exact key _ _ _ _ _ hk h3
    subst hs
    try simp only [if_true] at hc
    split at hc
    . cases hc
    split at hc;rotate_left
    . cases hc
    split at hc
    . split at hc
      . simp only [Kaa,Kab] at hc;exact hc.2.symm
      . cases hc
    . simp only [Kaa,Kab] at hc;exact hc.2.symm
   cases k <;> simp only [Qdt,Qff,Kap,not_true_eq_false] at hk hp
   case call f args p =>
    cases p with
    | false=>simp [Qdt,Qff] at hk
    | true=>exact key f args (by simpa [Qdt] using hk) he
abbrev SEq (st st':St):Prop:=Sim (fun _=>False) (fun _=>True) [] st st'
theorem SEq.refl (st:St):SEq st st:=⟨fun _ _=>rfl,fun _ h=>h.elim,fun _ h=>h.elim,rfl,by simp⟩
theorem SEq.trans {a b c:St} (h:SEq a b) (h':SEq b c):SEq a c :=
 ⟨fun s hs=>(h'.T s hs).trans (h.T s hs),fun _ h=>h.elim,fun _ h=>h.elim,h'.M.trans h.M,by rw [h'.loc,h.loc,Kal,Kbb]⟩
theorem Jtr {st st':St} (h:SEq st st') (live:List Nat):st'.cut live=st.cut live:=by
 unfold St.cut restrict;have e1:=h.M;have e2:st'.loc=st.loc:=by rw [h.loc,Kbb]
 have e3:(live.map fun s=>(s,kl (rootOut live) (Qav st'.T s)))=live.map fun s=>(s,kl (rootOut live) (Qav st.T s)):=Kdr fun s _=>by rw [h.T s (fun h=>h)]
 cases st;cases st';simp only at e1 e2 e3 |-;rw [e1,e2,e3]
section
variable {D:Nat->Prop} {P:IV->Prop} {L:Qad} {st st' st1:St} {cf:CF}
theorem noT:∀ q,Qaj q->∀ x:IV,(fun _=>True) x->(fun _:IV=>True) (kl q x):=fun _ _ _ _=>trivial
theorem Qmw (h:Sim D P L st st') (hP:∀ q,Qaj q->∀ x,P x->P (kl q x)) {x:IOp} (hk:Qjc x.k=true \/ L=[]) (ho:NoU D x.use) (hd:∀ s,x.dst=some s->¬ D s) (he:Qa1 cf st x=some st1) :
 ∃ st1',Qa1 cf st' x=some st1'/\Sim D P L st1 st1'/\(Qjc x.k=true->Shp st st1):=by
 have ho2:NoU D x.k.useL:=fun s hs=>ho s (by simp [IOp.use,hs]);have shT:∀ {st:St} {T:Tm},Shp st { st with T:=T }:=fun {st T}=>⟨rfl,rfl⟩;have run:∀ {st1:St},(match ev cf st x.k with
  | some (v,st')=>match x.dst with
    | some d=>some { st' with T:=tput st'.T d v }
    | none=>some st'
  | none=>none)=some st1->∃ st1',(match ev cf st' x.k with
  | some (v,st')=>match x.dst with
    | some d=>some { st' with T:=tput st'.T d v }
    | none=>some st'
  | none=>none)=some st1'/\Sim D P L st1 st1'/\(Qjc x.k=true->Shp st st1):=by
  intro st1 hh;split at hh;rotate_left
  . cases hh
  rename_i v st2 h2;obtain ⟨st2',q1,q2,q3⟩:=ev_sim h hP hk ho2 h2;simp only [q1];cases hx:x.dst with
  | none =>
    simp only [hx,Kaa] at hh |-;subst hh;exact ⟨_,rfl,q2,q3⟩
  | some d =>
    simp only [hx,Kaa] at hh |-;subst hh;exact ⟨_,rfl,q2.tput hP (hd d hx) v,fun hm=>(q3 hm).trans shT⟩
 have skip:∀ {st1:St},(match x.dst with
  | some d=>some { st with T:=tput st.T d (.tup []) }
  | none=>some st)=some st1->∃ st1',(match x.dst with
  | some d=>some { st' with T:=tput st'.T d (.tup []) }
  | none=>some st')=some st1'/\Sim D P L st1 st1'/\(Qjc x.k=true->Shp st st1):=by
  intro st1 hh;cases hx:x.dst with
  | none =>
    simp only [hx,Kaa] at hh |-;subst hh;exact ⟨_,rfl,h,fun _=>.refl _⟩
  | some d =>
    simp only [hx,Kaa] at hh |-;subst hh;exact ⟨_,rfl,h.tput hP (hd d hx) _,fun _=>shT⟩
 unfold Qa1 at he |-;cases hg:x.g with
 | none=>simp only [hg] at he |-;exact run he
 | some p =>
   obtain ⟨s,b⟩:=p;have hs:¬ D s:=ho s (by simp [IOp.use,hg,gU]);simp only [hg,h.T s hs] at he |-;split at he
   . split at he
     . rename_i hb;rw [if_pos hb];exact run he
     . rename_i hb;rw [if_neg hb];exact skip he
   . exact skip he
   . cases he
theorem Jed:∀ {l:List IOp} {st st' st1:St},SEq st st'->Qaf cf st l=some st1->∃ st1',Qaf cf st' l=some st1'/\SEq st1 st1'
 | [],st,st',st1,h,he=>by
   simp only [Qaf,Kaa] at he |-;subst he;exact ⟨_,rfl,h⟩
 | x::l,st,st',st1,h,he=>by
   simp only [Qaf] at he |-;split at he;rotate_left
   . cases he
   rename_i st2 h2;obtain ⟨st2',q1,q2,-⟩:=Qmw h noT (.inr rfl) (fun _ _ h=>h) (fun _ _ h=>h) h2;simp only [q1];exact Jed q2 he
theorem op_nh {x:IOp} {d:Nat} (hd:x.dst ≠ some d) (hn:(Qav st.T d).holds=false) (hu:d ∉ x.use) (he:Qa1 cf st x=some st1):(Qav st1.T d).holds=false:=by
 have h:Sim (fun s=>s=d) (fun _=>True) [] st st:=⟨fun _ _=>rfl,fun _ _=>trivial,fun s hs=>by rw [hs];exact hn,rfl,by simp⟩;obtain ⟨st1',-,q2,-⟩:=Qmw h noT (.inr rfl) (x:=x) (fun s hs hh=>hu (hh ▸ hs)) (fun s hs hh=>hd (hh ▸ hs)) he;exact q2.H d rfl
def Qtx (st:St) (d:Option Nat) (v:IV):St:=match d with
 | some d=>{ st with T:=tput st.T d v }
 | none=>st
theorem Qk3 {x:IOp} (hq:Qdt x.k=true) (he:Qa1 cf st x=some st1):∃ v,st1=Qtx st x.dst v:=by
 have run:∀ {st1:St},(match ev cf st x.k with
  | some (v,st')=>match x.dst with
    | some d=>some { st' with T:=tput st'.T d v }
    | none=>some st'
  | none=>none)=some st1->∃ v,st1=Qtx st x.dst v:=by
  intro st1 hh;split at hh;rotate_left
  . cases hh
  rename_i v st2 h2;have:=Qz2 hq h2;subst this;refine ⟨v,?_⟩;unfold Qtx;split at hh <;> simp_all
 have skip:∀ {st1:St},(match x.dst with
  | some d=>some { st with T:=tput st.T d (.tup []) }
  | none=>some st)=some st1->∃ v,st1=Qtx st x.dst v:=by
  intro st1 hh;refine ⟨.tup [],?_⟩;unfold Qtx;split at hh <;> simp_all
 unfold Qa1 at he;split at he
 . exact run he
 . split at he
   . split at he
     . exact run he
     . exact skip he
   . exact skip he
   . cases he
theorem Qfg {st:St} {d:Option Nat} {v:IV} (hn:∀ e,d=some e->(Qav st.T e).holds=false) (s:Nat):Qav (Qtx st d v).T s=if d=some s then v else Qav st.T s:=by
 cases d with
 | none=>simp [Qtx]
 | some e =>
   simp only [Qtx,tput,hn e rfl,Kap,Kbs,Qav];by_cases h:e=s
   . subst h;simp
   . simp [h]
theorem Qoq {st:St} {d:Option Nat} {v:IV}:(Qtx st d v).M=st.M:=by cases d <;> rfl
theorem Qgp {st:St} {d:Option Nat} {v:IV}:(Qtx st d v).loc=st.loc:=by cases d <;> rfl
theorem Jca {x y:IOp} (h:Jb9 x y=true):(∀ s,x.dst=some s->s ∉ y.use)/\(∀ s,y.dst=some s->s ∉ x.use)/\(∀ s,x.dst=some s->y.dst ≠ some s):=by
 unfold Jb9 at h;simp only [Kac,Kby] at h;obtain ⟨⟨h1,h2⟩,h3⟩:=h;refine ⟨fun s hs=>?_,fun s hs=>?_,fun s hs hy=>?_⟩
 . rw [hs] at h1;simpa [Qrq] using h1
 . rw [hs] at h2;simpa [Qrq] using h2
 . rw [hs,hy] at h3;simp at h3
theorem Jsy {iops:List IOp} {i j:Nat} {x y:IOp} (hx:iops[i]? = some x) (hy:iops[j]? = some y) (hi:Qsm iops i j=true) (hnx:swK x.k=true->∀ d,x.dst=some d->(Qav st.T d).holds=false) (hny:∀ d,y.dst=some d->(Qav st.T d).holds=false)
 {st2:St} (h1:Qa1 cf st x=some st1) (h2:Qa1 cf st1 y=some st2) (hox:Qio x.k=true->∀ d,x.dst=some d->(Qav st1.T d).holds=false):∃ st1' st2',Qa1 cf st y=some st1'/\Qa1 cf st1' x=some st2'/\SEq st2 st2' /\
  (∀ d,y.dst=some d->Qav st1'.T d=Qav st2.T d)/\(∀ d,x.dst=some d->Qav st2'.T d=Qav st1.T d):=by
 unfold Qsm at hi;simp only [hx,hy,Kac,Kbj] at hi;obtain ⟨hap,hi⟩:=hi;obtain ⟨a1,a2,a3⟩:=Jca hap;rcases hi with ⟨hqx,hqy⟩ | ⟨⟨⟨hmx,hay⟩,hgy⟩,hdy⟩
 ·
  have hox:=hox hqx;have hqx:Qdt x.k=true:=by simp only [Qio,Kac] at hqx;exact hqx.1
  have hnx:=hnx (by simp [swK,hqx]);obtain ⟨vx,rfl⟩:=Qk3 hqx h1;have hny1:∀ e,y.dst=some e->(Qav (Qtx st x.dst vx).T e).holds=false:=fun e he=>by
   rw [Qfg hnx,if_neg (fun h=>a3 e h he)];exact hny e he
  obtain ⟨vy,rfl⟩:=Qk3 hqy h2;have sy:Sim (fun s=>x.dst=some s) (fun _=>True) [] (Qtx st x.dst vx) st:=by
   refine ⟨fun s hs=>?_,fun _ _=>trivial,fun s hs=>hox s hs,by rw [Qoq],by rw [Qgp,Kbb]⟩;rw [Qfg hnx,if_neg hs]
  obtain ⟨s1,q1,q2,-⟩:=Qmw sy noT (.inr rfl) (x:=y) (fun s hs hh=>a1 s hh hs) (fun s hs hh=>a3 s hh hs) h2;obtain ⟨vy',rfl⟩:=Qk3 hqy q1;have hvy:∀ e,y.dst=some e->vy'=vy:=fun e he=>by
   have:=q2.T e (fun hh=>a3 e hh he);rw [Qfg hny,Qfg hny1,if_pos he,if_pos he] at this;exact this
  have hpy:Qtx st y.dst vy'=Qtx st y.dst vy:=by
   cases hd:y.dst with
   | none=>rfl
   | some e=>rw [hvy e hd]
  rw [hpy] at q1 q2;have sx:Sim (fun s=>y.dst=some s) (fun _=>True) [] st (Qtx st y.dst vy):=by
   refine ⟨fun s hs=>?_,fun _ _=>trivial,fun s hs=>hny s hs,by rw [Qoq],by rw [Qgp,Kbb]⟩;rw [Qfg hny,if_neg hs]
  obtain ⟨s2,r1,r2,-⟩:=Qmw sx noT (.inr rfl) (x:=x) (fun s hs hh=>a2 s hh hs) (fun s hs hh=>a3 s hs hh) h1;obtain ⟨vx',rfl⟩:=Qk3 hqx r1;have hnx1:∀ e,x.dst=some e->(Qav (Qtx st y.dst vy).T e).holds=false:=fun e he=>by
   rw [Qfg hny,if_neg (fun h=>a3 e he h)];exact hnx e he
  refine ⟨_,_,q1,r1,⟨fun s _=>?_,fun _ h=>h.elim,fun _ h=>h.elim,by rw [Qoq,Qoq,Qoq,Qoq],by rw [Qgp,Qgp,Qgp,Qgp,Kbb]⟩,fun d hd=>?_,fun d hd=>?_⟩
  . by_cases hs:y.dst=some s
    . rw [Qfg hny1,if_pos hs,Qfg hnx1,if_neg (fun h=>a3 s h hs),Qfg hny,if_pos hs]
    . rw [r2.T s hs,Qfg hny1,if_neg hs]
  . rw [Qfg hny,Qfg hny1,if_pos hd,if_pos hd]
  . exact r2.T d (fun hh=>a3 d hd hh)
 ·
  obtain ⟨e,he⟩:=Option.isSome_iff_exists.1 hdy;have hqy:∃ z,y.k=.alloc z:=by cases hk:y.k <;> simp [Jby,hk] at hay;exact ⟨_,rfl⟩
  obtain ⟨z,hz⟩:=hqy;have hgn:y.g=none:=by simpa using hgy
  have hne:=hny e he;have ex:∀ s:St,(Qav s.T e).holds=false->Qa1 cf s y=some { s with T:=(e,.bptr s.M.length s.loc.length 0)::s.T,loc:=s.loc++[z.map cv1] }:=by
   intro s hs;simp only [Qa1,hgn,hz,ev,he,tput,hs,Kap,Kbs]
  have hP:∀ q,Qaj q->∀ x:IV,(x=.bptr st.M.length st.loc.length 0)->kl q x=.bptr st.M.length st.loc.length 0:=by
   rintro q hq x rfl;simp only [kl,kl1,klc];split
   . rename_i hh;have:=hq _ hh;simp [IV.isR] at this
   . rfl
  have s0:Sim (fun s=>s=e) (fun x=>x=.bptr st.M.length st.loc.length 0) [z.map cv1] st { st with T:=(e,.bptr st.M.length st.loc.length 0)::st.T,loc:=st.loc++[z.map cv1] }:=by
   refine ⟨fun s hs=>?_,fun s hs=>?_,fun s hs=>by rw [hs];exact hne,rfl,rfl⟩
   . simp only [Qav];rw [if_neg (fun h=>hs h.symm)]
   . simp only [Qav];rw [if_pos hs.symm]
  obtain ⟨s2,q1,q2,q3⟩:=Qmw s0 hP (.inl hmx) (x:=x) (fun s hs hh=>a2 s (by rw [hh];exact he) hs) (fun s hs hh=>a3 s hs (by rw [hh];exact he)) h1;have q3:=q3 hmx;rw [ex st1 (q2.H e rfl)] at h2;simp only [Kaa] at h2;subst h2;refine ⟨_,s2,ex st hne,q1,⟨fun s _=>?_,fun _ h=>h.elim,fun _ h=>h.elim,q2.M,by rw [q2.loc,Kbb]⟩,fun d hd=>?_,fun d hd=>?_⟩
  . simp only [Qav];split
    . rename_i hs;rw [q2.Q s hs.symm,q3.1,q3.2]
    . rename_i hs;exact q2.T s (fun h=>hs h.symm)
  . rw [he] at hd;cases hd;simp only [Qav,if_true,q3.1,q3.2]
  . exact q2.T d (fun hh=>a3 d hd (by rw [hh];exact he))
theorem Qs0:∀ {l:List IOp} {st st':St},SEq st st'->Qg0 cf st l->(∃ s,Qaf cf st l=some s)->Qg0 cf st' l
 | [],_,_,_,_,_=>trivial
 | x::l,st,st',h,hk,⟨s,hs⟩=>by
   intro st1' h1';simp only [Qaf] at hs;split at hs;rotate_left
   . cases hs
   rename_i st1 h1;obtain ⟨s1,q1,q2,-⟩:=Qmw h noT (.inr rfl) (x:=x) (fun _ _ h=>h) (fun _ _ h=>h) h1;rw [q1] at h1';cases h1';obtain ⟨k1,k2⟩:=hk st1 h1;exact ⟨fun hq d hd=>by rw [q2.T d (fun h=>h)];exact k1 hq d hd,Qs0 q2 k2 ⟨s,hs⟩⟩
def NHl (iops:List IOp) (st:St) (l:List Nat):Prop:=∀ i ∈ l,∀ x,iops[i]? = some x->swK x.k=true->∀ d,x.dst=some d->(Qav st.T d).holds=false
def fwd (iops:List IOp):List Nat->Prop
 | []=>True
 | i::l=>(∀ j ∈ l,∀ x y,iops[i]? = some x->iops[j]? = some y->swK y.k=true->∀ d,y.dst=some d->d ∉ x.use/\x.dst ≠ some d)/\fwd iops l
def Qny (cf:CF) (iops:List IOp) (st:St) (l:List Nat):Option St:=Qaf cf st (Qai iops l)
theorem Qgm {iops:List IOp} {i:Nat} {l:List Nat} {x:IOp} (hx:iops[i]? = some x):Qny cf iops st (i::l)=match Qa1 cf st x with
 | some st=>Qny cf iops st l
 | none=>none:=by
 simp only [Qny,Qai,List.filterMap_cons,hx,Qaf];cases Qa1 cf st x <;> rfl
theorem Qp9 {iops:List IOp} {i:Nat} {l:List Nat} {x:IOp} (hx:iops[i]? = some x):Qg0 cf st (Qai iops (i::l))=Qg0 cf st (x::Qai iops l):=by
 simp only [Qai,List.filterMap_cons,hx]
theorem Qr7 {iops:List IOp} {i:Nat} {l:List Nat} {x:IOp} {s:St} (hx:iops[i]? = some x) (h:Qny cf iops st (i::l)=some s):∃ st1,Qa1 cf st x=some st1/\Qny cf iops st1 l=some s:=by
 rw [Qgm hx] at h;split at h
 . exact ⟨_,‹_›,h⟩
 . cases h
theorem Jsu {iops:List IOp} {i:Nat} {l:List Nat} {x:IOp} (hx:iops[i]? = some x) (hf:fwd iops (i::l)) (hn:NHl iops st (i::l)) (h:Qa1 cf st x=some st1):NHl iops st1 l:=by
 intro j hj y hy hsw d hd;obtain ⟨h1,h2⟩:=hf.1 j hj x y hx hy hsw d hd;exact op_nh h2 (hn j (by simp [hj]) y hy hsw d hd) h1 h
structure Jrf (cf:CF) (iops:List IOp) (st:St) (l:List Nat) (s:St):Prop where
 lt:∀ i ∈ l,i < iops.length
 nh:NHl iops st l
 fw:fwd iops l
 ok:Qg0 cf st (Qai iops l)
 run:Qny cf iops st l=some s
theorem Jrf.step {iops:List IOp} {i:Nat} {l:List Nat} {s:St} (h:Jrf cf iops st (i::l) s):∃ x st1,iops[i]? = some x/\Qa1 cf st x=some st1/\Jrf cf iops st1 l s/\(Qio x.k=true->∀ d,x.dst=some d->(Qav st1.T d).holds=false):=by
 have hi:=h.lt i (by simp);have hx:iops[i]? = some iops[i]:=Kag hi;obtain ⟨st1,q1,q2⟩:=Qr7 hx h.run;have hok:=h.ok;rw [Qp9 hx] at hok;obtain ⟨k1,k2⟩:=hok st1 q1;exact ⟨_,st1,hx,q1,⟨fun j hj=>h.lt j (by simp [hj]),Jsu hx h.fw h.nh q1,h.fw.2,k2,q2⟩,k1⟩
theorem Qoj {iops:List IOp} {i:Nat} {l2:List Nat}:∀ {l1:List Nat} {st s:St},(∀ y ∈ l1,Qsm iops y i=true)->fwd iops (i::(l1++l2))->Jrf cf iops st (l1++i::l2) s->∃ s',Jrf cf iops st (i::(l1++l2)) s'/\SEq s s'
 | [],st,s,_,_,h=>⟨s,h,.refl _⟩
 | y::l1,st,s,hall,hfw,h=>by
   obtain ⟨xy,st1,hy,h1,hF,hqy⟩:=h.step;have hfw1:fwd iops (i::(l1++l2)):=⟨fun j hj=>hfw.1 j (by simp at hj |-;rcases hj with hj | hj <;> simp [hj]),hfw.2.2⟩;obtain ⟨s1,hF1,e1⟩:=Qoj (fun z hz=>hall z (by simp [hz])) hfw1 hF;obtain ⟨xi,st2,hi,h2,hF2,hqi⟩:=hF1.step;have hind:=hall y (by simp);have hni:∀ d,xi.dst=some d->swK xi.k=true->(Qav st.T d).holds=false:=fun d hd hsw=>h.nh i (by simp) xi hi hsw d hd;have hsi:swK xi.k=true:=by
    unfold Qsm at hind;simp only [hy,hi,Kac,Kbj] at hind;rcases hind.2 with ⟨-,h⟩ | ⟨⟨⟨-,h⟩,-⟩,-⟩ <;> simp [swK,h]
   obtain ⟨t1,t2,q1,q2,q3,q4,q5⟩:=Jsy hy hi hind (fun hsw d hd=>h.nh y (by simp) xy hy hsw d hd) (fun d hd=>hni d hd hsi) h1 h2 hqy;obtain ⟨s2,r1,r2⟩:=Jed q3 (show Qaf cf st2 (Qai iops (l1++l2))=some s1 from hF2.run);refine ⟨s2,⟨fun j hj=>h.lt j (by simp at hj |-;rcases hj with hj | hj | hj | hj <;> simp [hj]),fun j hj=>h.nh j (by simp at hj |-;rcases hj with hj | hj | hj | hj <;> simp [hj]),hfw,?_,?_⟩,e1.trans r2⟩
   . rw [Qp9 hi];intro a ha;rw [q1] at ha;cases ha;refine ⟨fun hq d hd=>by rw [q4 d hd];exact hqi hq d hd,?_⟩;show Qg0 cf t1 (Qai iops (y::(l1++l2)));rw [Qp9 hy];intro b hb;rw [q2] at hb;cases hb;exact ⟨fun hq d hd=>by rw [q5 d hd];exact hqy hq d hd,Qs0 q3 hF2.ok ⟨_,hF2.run⟩⟩
   . rw [Qgm hi,q1];show Qny cf iops t1 (y::(l1++l2))=_;rw [Qgm hy,q2];exact r1
theorem Qsd {iops:List IOp}:∀ {σ τ:List Nat} {st s:St},σ.Perm τ->τ.Nodup->fwd iops σ->(∀ i j,Qsm iops i j=false->[i,j].Sublist τ->[i,j].Sublist σ)->Jrf cf iops st τ s->∃ s',Qny cf iops st σ=some s'/\SEq s s'
 | [],τ,st,s,hp,_,_,_,h=>by
   have:τ=[]:=hp.symm.eq_nil;subst this;exact ⟨s,h.run,.refl _⟩
 | x::σ,τ,st,s,hp,hn,hfw,hd,h=>by
   have hx:x ∈ τ:=hp.subset (by simp);obtain ⟨l1,l2,rfl⟩:=List.append_of_mem hx;have hσn:(x::σ).Nodup:=hp.nodup_iff.2 hn;have hxσ:x ∉ σ:=(Kbq.1 hσn).1;have hp':σ.Perm (l1++l2):=(hp.trans List.perm_middle).cons_inv;have hsub:(l1++l2).Sublist (l1++x::l2):=List.Sublist.append (List.Sublist.refl _) (Kef _ _);have hn':(l1++l2).Nodup:=List.Sublist.nodup hsub hn;have hind:∀ y ∈ l1,Qsm iops y x=true:=by
    intro y hy;cases hi:Qsm iops y x with
    | true=>rfl
    | false =>
      exfalso;have hs:[y,x].Sublist (l1++x::l2):=by
       have h1:[y].Sublist l1:=Kcy.2 hy;have h2:[x].Sublist (x::l2):=Kcy.2 (by simp);exact h1.append h2
      have:=hd y x hi hs;cases this with
      | cons _ hh=>exact hxσ (hh.subset (by simp))
      | cons_cons _ hh=>exact hxσ (hh.subset (by simp))
   have hfw2:fwd iops (x::(l1++l2)):=by
    have key:∀ (l:List Nat),fwd iops l <-> l.Pairwise fun i j=>∀ x y,iops[i]? = some x->iops[j]? = some y->swK y.k=true->∀ d,y.dst=some d->d ∉ x.use/\x.dst ≠ some d:=by
     intro l
     induction l with
     | nil=>simp [fwd]
     | cons a l ih=>rw [Kbe,<- ih];rfl
    refine ⟨fun j hj=>hfw.1 j (hp'.symm.subset hj),?_⟩;have h1:=(key _).1 h.fw;exact (key _).2 (h1.sublist hsub)
   obtain ⟨s1,hF,e1⟩:=Qoj hind hfw2 h;obtain ⟨xi,st1,hi,h1,hF1,-⟩:=hF.step;obtain ⟨s2,q1,q2⟩:=Qsd hp' hn' hfw.2 (fun i j hi hs=>by
    have:=hd i j hi (hs.trans hsub);cases this with
    | cons _ hh=>exact hh
    | cons_cons _ hh =>
      exfalso;have:x ∈ l1++l2:=hs.subset (by simp);exact hxσ (hp'.symm.subset this)) hF1
   refine ⟨s2,?_,e1.trans q2⟩;rw [Qgm hi,h1];exact q1
end
end Go.Idl
namespace Go.Idl
open Go
def fwdB (iops:List IOp):List Nat->Bool
 | []=>true
 | i::l=>(l.all fun j=>match iops[i]?,iops[j]? with
    | some x,some y=>!swK y.k || !(Qrq y.dst x.use || (match x.dst,y.dst with
      | some d,some e=>d == e
      | _,_=>false))
    | _,_=>true) && fwdB iops l
theorem Jdm {iops:List IOp}:∀ {l:List Nat},fwdB iops l=true->fwd iops l
 | [],_=>trivial
 | i::l,h=>by
   simp only [fwdB,Kac,Kaj] at h;refine ⟨fun j hj x y hx hy hsw d hd=>?_,Jdm h.2⟩;have:=h.1 j hj;simp only [hx,hy,hsw,hd,Kdy,Kdz,Kby,Bool.or_eq_false_iff,Qrq] at this;refine ⟨fun hm=>?_,fun hxd=>?_⟩
   . rw [List.contains_eq_mem,Kcr] at this;exact this.1 hm
   . rw [hxd] at this;simp at this
def Quy (iops:List IOp) (cs:List (List Nat)) (i j:Nat):Bool:=(Qsm iops i j && (Qsm iops j i || cs.all fun τ=>bef τ i j)) || (Qsm iops j i && cs.all fun τ=>bef τ j i)
def Jr6 (iops:List IOp) (cs:List (List Nat)) (n:Nat):List (Nat×Nat) :=
 (List.range n).flatMap fun j=>(List.range j).filterMap fun i=>if Quy iops cs i j then none else some (i,j)
theorem Qsu {iops:List IOp} {cs:List (List Nat)} {n i j:Nat}:(i,j) ∈ Jr6 iops cs n <-> i < j/\j < n/\Quy iops cs i j=false:=by
 unfold Jr6;rw [List.mem_flatMap];constructor
 . rintro ⟨j',hj',hm⟩;rw [List.mem_filterMap] at hm;obtain ⟨i',hi',he⟩:=hm;split at he
   . cases he
   . rename_i hf;simp only [Kaa,Kab] at he;obtain ⟨rfl,rfl⟩:=he;exact ⟨Kaz.1 hi',Kaz.1 hj',by simpa using hf⟩
 . rintro ⟨h1,h2,h3⟩;exact ⟨j,Kaz.2 h2,List.mem_filterMap.2 ⟨i,Kaz.2 h1,by simp [h3]⟩⟩
def fwdC (c:List Nat) (iops:List IOp) (n:Nat):Bool:=(List.range n).all fun i=>(List.range n).all fun j=>i == j || (match iops[i]?,iops[j]? with
 | some x,some y=>!swK y.k || !(Qrq y.dst x.use || (match x.dst,y.dst with
    | some d,some e=>d == e
    | _,_=>false)) || (c.getD i 0).testBit j
 | _,_=>true)
def covJ (iops:List IOp) (c:List Nat):List (Nat×Nat)->List (Nat×Nat)->List (List Nat)->Bool
 | [],_,cs=>!cs.isEmpty
 | (i,j)::r,E,cs=>(forced c E j i || covJ iops c r ((i,j)::E) (cs.filter fun τ=>bef τ i j || Qsm iops j i)) && (forced c E i j || covJ iops c r ((j,i)::E) (cs.filter fun τ=>bef τ j i || Qsm iops i j))
theorem Qlm {iops:List IOp} {σ:List Nat} (hn:σ.Nodup) {c:List Nat} (hc:∀ k i,(c.getD k 0).testBit i=true->[i,k].Sublist σ):∀ {A E:List (Nat×Nat)} {cs:List (List Nat)},(∀ i j,(i,j) ∈ A->i ∈ σ/\j ∈ σ/\i ≠ j) ->
 (∀ i j,(i,j) ∈ E->[i,j].Sublist σ)->covJ iops c A E cs=true ->
 ∃ τ ∈ cs,∀ i j,(i,j) ∈ A->(([i,j].Sublist σ/\([i,j].Sublist τ \/ Qsm iops j i=true)) \/ ([j,i].Sublist σ/\([j,i].Sublist τ \/ Qsm iops i j=true)))
 | [],E,cs,_,_,h=>by
   cases cs with
   | nil=>simp [covJ] at h
   | cons τ cs=>exact ⟨τ,by simp,by simp⟩
 | (i,j)::A,E,cs,hA,hE,h=>by
   simp only [covJ,Kac,Kbj] at h;obtain ⟨h1,h2,h3⟩:=hA i j (by simp);have hA':∀ i j,(i,j) ∈ A->i ∈ σ/\j ∈ σ/\i ≠ j:=fun i j hm=>hA i j (by simp [hm]);rcases Qou h1 h2 h3 with hs | hs
   . have hcv:=h.1.resolve_left (fun hf=>Qbw hn hs (Qe3 hn hc hE hf));obtain ⟨τ,hτ,ht⟩:=Qlm hn hc hA' (fun a b hm=>by
      rcases Kaf.1 hm with he | hm
      . cases he;exact hs
      . exact hE a b hm) hcv
     rw [Kbr,Kbj] at hτ;refine ⟨τ,hτ.1,fun a b hm=>?_⟩;rcases Kaf.1 hm with he | hm
     . cases he;exact .inl ⟨hs,hτ.2.imp Qd2 id⟩
     . exact ht a b hm
   . have hcv:=h.2.resolve_left (fun hf=>Qbw hn hs (Qe3 hn hc hE hf));obtain ⟨τ,hτ,ht⟩:=Qlm hn hc hA' (fun a b hm=>by
      rcases Kaf.1 hm with he | hm
      . cases he;exact hs
      . exact hE a b hm) hcv
     rw [Kbr,Kbj] at hτ;refine ⟨τ,hτ.1,fun a b hm=>?_⟩;rcases Kaf.1 hm with he | hm
     . cases he;exact .inr ⟨hs,hτ.2.imp Qd2 id⟩
     . exact ht a b hm
def Jla (ops:Array Oper) (iops:List IOp) (ord:List Nat) (alts:List (List Nat)):Bool :=
 let c:=clo .any ops.toList []
 let cs:=ord::alts
 let D:=Jr6 iops cs ops.size
 let A:=D.filter fun p=>!(c.getD p.2 0).testBit p.1
 Qo5 .any ops && (cs.all fun τ=>Jml τ ops.size) && (cs.all fun τ=>D.all fun p=>!(c.getD p.2 0).testBit p.1 || bef τ p.1 p.2) && covJ iops c A [] cs && (cs.all fun τ=>fwdB iops τ) && fwdC c iops ops.size
theorem Qy0 {ops:Array Oper} {iops:List IOp} {ord:List Nat} {alts:List (List Nat)} (h:Jla ops iops ord alts=true) {σ:List Nat} (hL:Lin .any ops σ) :
 ∃ τ ∈ ord::alts,σ.Perm τ/\τ.Nodup/\fwd iops τ/\fwd iops σ/\∀ i j,Qsm iops i j=false->[i,j].Sublist τ->[i,j].Sublist σ:=by
 unfold Jla at h;simp only [Kac] at h;obtain ⟨⟨⟨⟨⟨hb,hperm⟩,hclo⟩,hcov⟩,hfw⟩,hfc⟩:=h;have hc:=Qo9 hL ops.toList [] (fun k o hk=>by simpa using hk) (fun k i hi=>by simp at hi);obtain ⟨τ,hτ,ht⟩:=Qlm hL.nodup hc (fun i j hm=>by
  rw [Kbr] at hm;obtain ⟨h1,h2,h3⟩:=Qsu.1 hm.1;exact ⟨(hL.mem i).2 (by omega),(hL.mem j).2 h2,by omega⟩) (by simp) hcov
 have hpτ:τ.Perm (List.range ops.size):=by
  rw [Kaj] at hperm;exact Qjf (hperm τ hτ)
 have hpσ:σ.Perm (List.range ops.size):=by
  rw [List.perm_ext_iff_of_nodup hL.nodup List.nodup_range];intro i;rw [hL.mem,Kaz]
 have hnτ:τ.Nodup:=hpτ.nodup_iff.2 List.nodup_range;have hfwσ:fwd iops σ:=by
  have key:∀ (l:List Nat),fwd iops l <-> l.Pairwise fun i j=>∀ x y,iops[i]? = some x->iops[j]? = some y->swK y.k=true->∀ d,y.dst=some d->d ∉ x.use/\x.dst ≠ some d:=by
   intro l
   induction l with
   | nil=>simp [fwd]
   | cons a l ih=>rw [Kbe,<- ih];rfl
  rw [key,List.pairwise_iff_forall_sublist];intro i j hs x y hx hy hsw d hd;have hil:i < ops.size:=(hL.mem i).1 (hs.subset (by simp));have hjl:j < ops.size:=(hL.mem j).1 (hs.subset (by simp));have hne:=Qqr hL.nodup hs;unfold fwdC at hfc;rw [Kaj] at hfc;have h1:=hfc i (Kaz.2 hil);rw [Kaj] at h1;have h2:=h1 j (Kaz.2 hjl);simp only [hx,hy,hsw,hd,Kdy,Kdz,Kbj,Kbt,Qrq,Kby,Bool.or_eq_false_iff] at h2;rcases h2 with h2 | h2 | h2
  . exact absurd h2 hne
  . refine ⟨fun hm=>?_,fun hxd=>?_⟩
    . rw [List.contains_eq_mem,Kcr] at h2;exact h2.1 hm
    . rw [hxd] at h2;simp at h2
  . exact (Qbw hL.nodup hs (hc _ _ h2)).elim
 rw [Kaj] at hfw;refine ⟨τ,hτ,hpσ.trans hpτ.symm,hnτ,Jdm (hfw τ hτ),hfwσ,?_⟩;have main:∀ i j,i < j->Quy iops (ord::alts) i j=false->j < ops.size->(([i,j].Sublist σ/\([i,j].Sublist τ \/ Qsm iops j i=true)) \/ ([j,i].Sublist σ/\([j,i].Sublist τ \/ Qsm iops i j=true))):=by
  intro i j hij hi hj;have hD:=Qsu.2 ⟨hij,hj,hi⟩;cases hbit:((clo .any ops.toList []).getD j 0).testBit i with
  | true =>
    have h1:=hc j i hbit;rw [Kaj] at hclo;have h2:=hclo τ hτ;rw [Kaj] at h2;have h3:=h2 (i,j) hD;simp only [hbit,Kdy,Kdz] at h3;exact .inl ⟨h1,.inl (Qd2 h3)⟩
  | false=>exact ht i j (Kbr.2 ⟨hD,by simp only [hbit,Bool.not_false]⟩)
 intro i j hi hs;have hne:=Qqr hnτ hs;have hil:i < ops.size:=Kaz.1 (hpτ.subset (hs.subset (by simp)));have hjl:j < ops.size:=Kaz.1 (hpτ.subset (hs.subset (by simp)));have allB:∀ i j,((ord::alts).all fun τ=>bef τ i j)=true->[i,j].Sublist τ:=fun i j h=>Qd2 (Kaj.1 h τ hτ);rcases Nat.lt_or_gt_of_ne hne with hlt | hlt
 . cases hf:Quy iops (ord::alts) i j with
   | true =>
     simp only [Quy,hi,Kee,Kdz,Kac] at hf;exact (Qbw hnτ hs (allB _ _ hf.2)).elim
   | false =>
     rcases main i j hlt hf hjl with ⟨h1,h2⟩ | ⟨h1,h2 | h2⟩
     . exact h1
     . exact (Qbw hnτ hs h2).elim
     . rw [hi] at h2;cases h2
 . cases hf:Quy iops (ord::alts) j i with
   | true =>
     simp only [Quy,hi,Kee,Bool.or_false,Kdz,Kac] at hf;exact (Qbw hnτ hs (allB _ _ hf.2)).elim
   | false =>
     rcases main j i hlt hf hil with ⟨h1,h2 | h2⟩ | ⟨h1,h2⟩
     . exact (Qbw hnτ hs h2).elim
     . rw [hi] at h2;cases h2
     . exact h1
end Go.Idl
namespace Go.Idl
open Go
def Qn2 (D:Nat->Prop):IV->Prop
 | .arr (.S s) _ _ _ _ _ _ | .eptr (.S s) _ _ _ _=>¬ D s
 | _=>True
def nrD (D:Nat->Prop):IV->Prop
 | .agg cs=>∀ x ∈ cs,Qn2 D x
 | x=>Qn2 D x
structure Qiw (D:Nat->Prop) (st st':St):Prop where
 T:∀ s,¬ D s->Qav st'.T s=Qav st.T s
 N:∀ s,¬ D s->nrD D (Qav st.T s)
 M:st'.M=st.M
 loc:st'.loc=st.loc
section
variable {D:Nat->Prop} {st st' st1 st2:St} {cf:CF}
theorem Je1 (v:Value):Qn2 D (cv1 v):=by
 unfold cv1;split <;> trivial
theorem Qjz {s:Nat} (hs:¬ D s) {mk:Nat->Nat×Qg8}:∀ {cs:List IV} {i:Nat},(∀ x ∈ cs,Qn2 D x)->∀ x ∈ Qg6 (.S s) mk i cs,Qn2 D x
 | [],_,_,x,hx=>by cases hx
 | c::cs,i,h,x,hx=>by
   have ih:=Qjz hs (mk:=mk) (cs:=cs) (i:=i+1) fun y hy=>h y (by simp [hy]);have hc:=h c (by simp);cases c <;> simp only [Qg6,Kaf] at hx <;> rcases hx with rfl | hx <;> first | exact ih x hx | exact hc | exact hs
theorem Qiw.rd (h:Qiw D st st') {o:Opd} (ho:NoU D (Qdh o)):rd st'.T o=rd st.T o:=by
 cases o with
 | t s=>simp only [Idl.rd];rw [h.T s (ho s (by simp [Qdh]))]
 | c v=>rfl
 | f l=>rfl
theorem Qiw.rdN (h:Qiw D st st') {o:Opd} (ho:NoU D (Qdh o)):nrD D (Idl.rd st.T o):=by
 cases o with
 | c v =>
   have one:∀ u,nrD D (cv1 u):=fun u=>by unfold cv1;split <;> trivial
   cases v with
   | agg cs=>intro x hx;obtain ⟨u,_,rfl⟩:=Kck.1 hx;exact Je1 u
   | _=>simp only [Idl.rd,cv];exact one _
 | f l=>trivial
 | t s =>
   have hs:=ho s (by simp [Qdh]);have hn:=h.N s hs;simp only [Idl.rd];cases hx:Qav st.T s with
   | own e es=>exact hs
   | agg cs=>rw [hx] at hn;exact Qjz hs hn
   | tup vs=>cases vs <;> trivial
   | _=>rw [hx] at hn;exact hn
theorem Qiw.box (h:Qiw D st st') (l k:Nat):st'.box l k=st.box l k:=by
 unfold St.box;rw [h.M,h.loc]
theorem Qiw.plc (h:Qiw D st st') {r:Rt} {c:Nat} {p:Qg8} (hr:∀ s,r=.S s->¬ D s):st'.plc r c p=st.plc r c p:=by
 have:st'.rcells r=st.rcells r:=by
  cases r with
  | S s=>simp only [St.rcells];rw [h.T s (hr s rfl)]
  | B l k=>exact h.box l k
 unfold St.plc;rw [this]
theorem Qiw.sview (h:Qiw D st st') {x:IV} (hx:Qn2 D x):st'.sview x=st.sview x:=by
 cases x with
 | arr r c p e off n cl =>
   simp only [St.sview];rw [h.plc (r:=r) fun s hs=>by subst hs;exact hx]
 | _=>rfl
theorem Qiw.loadCells (h:Qiw D st st') {x:IV} {sz:Nat} (hx:Qn2 D x):st'.loadCells sz x=st.loadCells sz x:=by
 cases x with
 | bptr l k c=>simp only [St.loadCells,h.box]
 | eptr r c p i j =>
   simp only [St.loadCells];rw [h.plc (r:=r) fun s hs=>by subst hs;exact hx]
 | _=>rfl
theorem Qiw.bound (h:Qiw D st st') {d:Nat} {o:Option Opd} (ho:NoU D (Jl3 o)):Idl.bound d st'.T o=Idl.bound d st.T o:=by
 cases o with
 | none=>rfl
 | some o=>simp only [Idl.bound];rw [h.rd (o:=o) ho]
theorem Qx3 {x:IV} (h:nrD D x) (hx:∀ cs,x ≠ .agg cs):Qn2 D x:=by
 cases x <;> first | exact h | exact absurd rfl (hx _)
theorem Qiw.evq (h:Qiw D st st') {k:K} (ho:NoU D k.useL):Idl.evq st' k=Idl.evq st k:=by
 have sub:∀ {x:Opd} {l:List Nat},(∀ s ∈ Qdh x,s ∈ l)->NoU D l->Idl.rd st'.T x=Idl.rd st.T x:=fun hs hl=>h.rd fun s hh=>hl s (hs s hh);cases k <;> simp only [K.useL] at ho <;> simp only [Idl.evq]
 case mv x=>rw [h.rd ho]
 case pick c a b =>
  rw [sub (x:=c) (by intro s hs;simp [hs]) ho];split
  . rename_i t _;rw [h.rd (o:=if t=true then a else b) (by intro s hs;refine ho s ?_;cases t <;> simp_all)]
  . rfl
 case load ag sz a =>
  rw [h.rd ho];have hn:=h.rdN ho;generalize Idl.rd st.T a=y at *
  cases y with
  | agg cs=>rfl
  | _=>rw [h.loadCells (Qx3 hn (fun _ hh=>by cases hh))]
 case nilck x=>rw [h.rd ho]
 case bin op x y=>rw [sub (x:=x) (by intro s hs;simp [hs]) ho,sub (x:=y) (by intro s hs;simp [hs]) ho]
 case eqa n q x y=>rw [sub (x:=x) (by intro s hs;simp [hs]) ho,sub (x:=y) (by intro s hs;simp [hs]) ho]
 case unop op x=>rw [h.rd ho]
 case conv q x=>rw [h.rd ho]
 case mkfn f caps =>
  have:caps.map (Idl.rd st'.T)=caps.map (Idl.rd st.T):=Kdr fun o hm=>h.rd fun s hs=>ho s (List.mem_flatMap.2 ⟨o,hm,hs⟩);rw [this]
 case mksl e z x y=>rw [sub (x:=x) (by intro s hs;simp [hs]) ho,sub (x:=y) (by intro s hs;simp [hs]) ho]
 case slc e x lo hi mx =>
  rw [sub (x:=x) (by intro s hs;simp [hs]) ho];simp only [h.bound (o:=lo) (fun s hs=>ho s (by simp [hs])),h.bound (o:=hi) (fun s hs=>ho s (by simp [hs]))];cases mx with
  | none=>rfl
  | some m=>simp only;rw [sub (x:=m) (by intro s hs;simp [Jl3,hs]) ho]
 case slcs x lo hi =>
  rw [sub (x:=x) (by intro s hs;simp [hs]) ho];simp only [h.bound (o:=lo) (fun s hs=>ho s (by simp [hs])),h.bound (o:=hi) (fun s hs=>ho s (by simp [hs]))]
 case fadr off x=>rw [h.rd ho]
 case iadr e x i=>rw [sub (x:=x) (by intro s hs;simp [hs]) ho,sub (x:=i) (by intro s hs;simp [hs]) ho]
 case idxs x i=>rw [sub (x:=x) (by intro s hs;simp [hs]) ho,sub (x:=i) (by intro s hs;simp [hs]) ho]
 case len x=>rw [h.rd ho]
 case lens x=>rw [h.rd ho]
 case minmax mn x y=>rw [sub (x:=x) (by intro s hs;simp [hs]) ho,sub (x:=y) (by intro s hs;simp [hs]) ho]
theorem Qiw.seen (h:Qiw D st st') {x:IV} (hx:Qn2 D x):st'.seen x=st.seen x:=by
 unfold St.seen;rw [h.sview hx]
theorem Qiw.seens (h:Qiw D st st'):∀ {xs:List IV},(∀ x ∈ xs,Qn2 D x)->st'.seens xs=st.seens xs
 | [],_=>rfl
 | x::xs,hx=>by
   simp only [St.seens,h.seen (hx x (by simp)),h.seens (xs:=xs) fun y hy=>hx y (Kdu _ hy)]
theorem Qiw.arg2 (h:Qiw D st st') {m:Mode} {o:Opd} (hm:(m == .val || m == .rv)=true) (ho:NoU D (Qdh o)):st'.arg2 m o=st.arg2 m o:=by
 have hn:=h.rdN ho;cases m <;> simp only [Kbj,Kbt,reduceCtorEq,or_self,Kcf,false_or] at hm <;> simp only [St.arg2,h.rd ho];generalize Idl.rd st.T o=y at *
 cases y with
 | agg cs=>simp only;rw [h.seens hn]
 | _=>exact h.seen (Qx3 hn (fun _ hh=>by cases hh))
theorem Qiw.args2 (h:Qiw D st st'):∀ {l:List (Mode×Opd)} {vs:List (Option IV)},(l.all fun a=>a.1 == .val || a.1 == .rv)=true->NoU D (l.flatMap fun a=>Qdh a.2)->st'.args2 l vs=st.args2 l vs
 | [],[],_,_=>rfl
 | [],_::_,_,_=>rfl
 | a::l,[],_,_=>rfl
 | a::l,some v::vs,hm,ho=>by
   simp only [Kcj,Kac] at hm;simp only [St.args2];rw [h.args2 hm.2 fun s hs=>ho s (by rw [Kcw];simp [hs])]
 | (m,o)::l,none::vs,hm,ho=>by
   simp only [Kcj,Kac] at hm;simp only [St.args2];rw [h.arg2 hm.1 fun s hs=>ho s (by simp [hs]),h.args2 hm.2 fun s hs=>ho s (by rw [Kcw];simp [hs])]
theorem Jce:∀ {l:List (Mode×Opd)} (st:St),(l.all fun a=>a.1 == .val || a.1 == .rv)=true->∃ vs ss,st.args1 l=some (vs,st,ss)/\∀ st':St,∃ ss',st'.args1 l=some (vs,st',ss')
 | [],st,_=>⟨[],[],rfl,fun st'=>⟨[],rfl⟩⟩
 | (m,o)::l,st,h=>by
   simp only [Kcj,Kac,Kbj,Kbt] at h;have h1:∀ st:St,st.arg1 m o=some (none,st):=fun st=>by rcases h.1 with rfl | rfl <;> rfl
   obtain ⟨vs,ss,q1,q2⟩:=Jce (l:=l) st h.2;refine ⟨none::vs,Qfe st.T m o++ss,by simp only [St.args1,h1,q1],fun st'=>?_⟩;obtain ⟨ss',q3⟩:=q2 st';exact ⟨Qfe st'.T m o++ss',by simp only [St.args1,h1,q3]⟩
theorem Qiw.callq (h:Qiw D st st') {f:Lab} {l:List (Mode×Opd)} {v:IV} {st1:St} (hm:(l.all fun a=>a.1 == .val || a.1 == .rv)=true) (ho:NoU D (l.flatMap fun a=>Qdh a.2)) (hc:st.callWith cf f [] l true=some (v,st1)) :
 st1=st/\st'.callWith cf f [] l true=some (v,st'):=by
 obtain ⟨vs,ss,q1,q2⟩:=Jce st hm;obtain ⟨ss',q3⟩:=q2 st';unfold St.callWith St.args at hc |-;simp only [q1] at hc;simp only [q3,h.args2 hm ho];split at hc;rotate_left
 . cases hc
 rename_i w1 w2 w3 w4 w5 hw;split at hw;rotate_left
 . cases hw
 rename_i ys b hy;simp only [Kaa,Kab] at hw;obtain ⟨rfl,rfl,rfl,rfl⟩:=hw;simp only [hy,if_true] at hc |-;split at hc
 . cases hc
 rename_i hg;rw [if_neg hg];split at hc;rotate_left
 . cases hc
 split at hc
 . rename_i hz;simp only [hz,if_true];split at hc
   . rename_i hn;rw [if_pos hn];simp only [Kaa,Kab] at hc |-;exact ⟨hc.2.symm,hc.1,trivial⟩
   . cases hc
 . rename_i hz;simp only [hz,Kbs,Kap];simp only [Kaa,Kab] at hc |-;exact ⟨hc.2.symm,hc.1,trivial⟩
theorem Qiw.ev (h:Qiw D st st') {k:K} (hq:Qdt k=true) (ho:NoU D k.useL) {v:IV} {st1:St} (he:ev cf st k=some (v,st1)):ev cf st' k=some (v,st'):=by
 by_cases hp:Qff k=true
 . rw [Qpp hp] at he |-;rw [h.evq ho];rw [Option.map_eq_some_iff] at he |-;obtain ⟨u,h1,h2⟩:=he;simp only [Kab] at h2;exact ⟨u,h1,by rw [h2.1]⟩
 . cases k <;> simp only [Qdt,Qff,Kap,not_true_eq_false] at hq hp
   case call f args p =>
    cases p with
    | false=>simp [Qdt,Qff] at hq
    | true=>exact (h.callq (by simpa [Qdt] using hq) ho he).2
theorem op_un {x:IOp} {d:Nat} (hd:x.dst ≠ some d) (hn:Qav st.T d=.un) (hu:d ∉ x.use) (he:Qa1 cf st x=some st1):Qav st1.T d=.un:=by
 have h:Sim (fun s=>s=d) (fun x=>x=.un) [] st st:=⟨fun _ _=>rfl,fun s hs=>by rw [hs];exact hn,fun s hs=>by rw [hs,hn];rfl,rfl,by simp⟩;obtain ⟨st1',q1,q2,-⟩:=Qmw h (by rintro q - x rfl;simp [kl,kl1,klc]) (.inr rfl) (x:=x) (fun s hs hh=>hu (hh ▸ hs)) (fun s hs hh=>hd (hh ▸ hs)) he;rw [he] at q1;cases q1;exact q2.Q d rfl
end
end Go.Idl
namespace Go.Idl
open Go
section
variable {D:Nat->Prop} {st st' st1 st2:St} {cf:CF} {ds:List Nat}
def FRl (iops:List IOp) (st:St) (l:List Nat):Prop:=∀ i ∈ l,∀ x,iops[i]? = some x->qX x.k=true->∀ d,x.dst=some d->Qav st.T d=.un
def fwdX (iops:List IOp):List Nat->Prop
 | []=>True
 | i::l=>(∀ j ∈ l,∀ x y,iops[i]? = some x->iops[j]? = some y->qX y.k=true->∀ d,y.dst=some d->d ∉ x.use/\x.dst ≠ some d)/\fwdX iops l
theorem Jsk {iops:List IOp} {i:Nat} {l:List Nat} {x:IOp} (hx:iops[i]? = some x) (hf:fwdX iops (i::l)) (hn:FRl iops st (i::l)) (h:Qa1 cf st x=some st1):FRl iops st1 l:=by
 intro j hj y hy hsw d hd;obtain ⟨h1,h2⟩:=hf.1 j hj x y hx hy hsw d hd;exact op_un h2 (hn j (by simp [hj]) y hy hsw d hd) h1 h
structure Jrg (cf:CF) (ds:List Nat) (iops:List IOp) (st:St) (l:List Nat) (s:St):Prop where
 lt:∀ i ∈ l,i < iops.length
 fr:FRl iops st l
 fw:fwdX iops l
 ok:okX cf ds st (Qai iops l)
 run:Qny cf iops st l=some s
theorem Jea {iops:List IOp} {i:Nat} {l:List Nat} {x:IOp} (hx:iops[i]? = some x):okX cf ds st (Qai iops (i::l))=okX cf ds st (x::Qai iops l):=by
 simp only [Qai,List.filterMap_cons,hx]
theorem Jrg.step {iops:List IOp} {i:Nat} {l:List Nat} {s:St} (h:Jrg cf ds iops st (i::l) s):∃ x st1,iops[i]? = some x/\Qa1 cf st x=some st1/\Jrg cf ds iops st1 l s/\(Qio x.k=true->∀ d,x.dst=some d->(Qav st1.T d).holds=false) /\
 Jr9 ds st.T x=true:=by
 have hi:=h.lt i (by simp);have hx:iops[i]? = some iops[i]:=Kag hi;obtain ⟨st1,q1,q2⟩:=Qr7 hx h.run;have hok:=h.ok;rw [Jea hx] at hok;obtain ⟨k0,k00,k⟩:=hok;obtain ⟨k1,k2⟩:=k st1 q1;exact ⟨_,st1,hx,q1,⟨fun j hj=>h.lt j (by simp [hj]),Jsk hx h.fw h.fr q1,h.fw.2,k2,q2⟩,k1,k00⟩
end
section
variable {ds:List Nat}
end
end Go.Idl
namespace Go.Idl
open Go
def Jkx (cx:Cx) (ops:Array Oper) (n:Nat) (keep:List Nat) (o:Oper) (i:IOp):Bool :=
 bOp cx o i.k && (match o.dst,i.dst with
  | none,none=>true
  | some d,some e=>d == e && decide (d < n) && !keep.contains d
  | _,_=>false) && (match o.guard,i.g with
  | none,none=>true
  | some (j,b),some (s,c)=>b == c && (match (ops[j]?).bind (·.dst) with
    | some t=>t == s
    | none=>false)
  | _,_=>false)
def Qh1 (iops:List IOp) (i:Nat):Cls:=match iops[i]? with
 | some o=>o.k.cls
 | none=>.oth
def Inv (cx:Cx) (w0:World) (F0:Nat->Prop) (ρ0:Rho) (fp0:Fp) (st0:St) (a0:Act) (keep:List Nat) (n:Nat) (st:St) (a:Act) (w:World):Prop :=
 ∃ F ρ fp,Rel cx w F ρ fp [] st (Qah a)/\Ext w0 F0 ρ0 fp0 [] (exB st0) w F ρ fp []/\Qbf st0 st/\n<=a.tmps.size/\a.defers=a0.defers/\∀ s ∈ keep,Qah a s=Qah a0 s
section
variable {cx:Cx} {w0:World} {F0:Nat->Prop} {ρ0:Rho} {fp0:Fp} {st0:St} {a0:Act} {keep:List Nat} {n:Nat} {cf:CF} {ops:Array Oper} {iops:List IOp}
variable {w w1:World} {F F1:Nat->Prop} {ρ ρ1:Rho} {fp fp1:Fp} {st st':St} {a:Act} {v:IV} {f':List Nat}
def putI (st:St) (d:Option Nat) (v:IV):St:=match d with
 | some d=>{ st with T:=tput st.T d v }
 | none=>st
theorem Qx4 {d:Nat} {v':Value} (h:d < a.tmps.size):Qah (a.put (some d) v')=fun s=>if s=d then v' else Qah a s:=by
 funext s;simp only [Qah,Act.put];by_cases hs:s=d
 . subst hs;simp [h]
 . have:d ≠ s:=fun h=>hs h.symm;simp [Kcc,Key this,hs]
theorem Jmn {d:Option Nat} {v':Value}:(a.put d v').tmps.size=a.tmps.size:=by
 cases d <;> simp [Act.put]
theorem Qva {d:Option Nat} {v':Value}:(a.put d v').defers=a.defers:=by
 cases d <;> rfl
theorem Qei {d:Option Nat} {v':Value} (hR:Rel cx w F ρ fp (f'++[]) st (Qah a)) (hv:Qa6 cx w F ρ st (look st (Qah a) ρ w) v v' f') (hE:Ext w0 F0 ρ0 fp0 [] (exB st0) w F ρ fp (f'++[])) (hS:Qbf st0 st)
 (hn:n<=a.tmps.size) (hd:a.defers=a0.defers) (hk:∀ s ∈ keep,Qah a s=Qah a0 s) (hdn:∀ e,d=some e->e < n/\e ∉ keep):Inv cx w0 F0 ρ0 fp0 st0 a0 keep n (putI st d v) (a.put d v') w:=by
 cases d with
 | none =>
   exact ⟨F,ρ,fp,hR.less (List.nil_sublist _),⟨hE.size,hE.keep,hE.fpn,by simp,hE.Fm,hE.Fn,hE.rho,hE.env⟩,hS,hn,hd,hk⟩
 | some e =>
   obtain ⟨h1,h2⟩:=hdn e rfl;have hlt:e < a.tmps.size:=by omega
   have h3:=hR.put hv e;rw [<- Qx4 hlt] at h3;refine ⟨F,ρ,Qao fp (.S e) f',h3,⟨hE.size,hE.keep,fun r b hb=>?_,by simp,hE.Fm,hE.Fn,hE.rho,hE.env⟩,⟨hS.M,hS.loc⟩,by rw [Jmn];exact hn,by rw [Qva];exact hd,fun s hs=>?_⟩
   . unfold Qao at hb;split at hb
     . exact hE.xn b (by simp [hb])
     . exact hE.fpn r b hb
   . rw [Qx4 hlt];have:s ≠ e:=fun h=>h2 (h ▸ hs);simp only [this,Kbs];exact hk s hs
theorem Qve {lk}:Qa6 cx w F ρ st lk (.tup []) undef []:=⟨#[],rfl,.nil⟩
theorem Jlq {o:Oper} {i:IOp} (hR:Rel cx w F ρ fp [] st (Qah a)) (hg:(match o.guard,i.g with
 | none,none=>true
 | some (j,b),some (s,c)=>b == c && (match (ops[j]?).bind (·.dst) with
   | some t=>t == s
   | none=>false)
 | _,_=>false)=true) {st':St} (hev:Qa1 cf st i=some st') :
 (Region.wanted o (yielded ops a.tmps)=true/\∃ v st1,ev cf st i.k=some (v,st1)/\st'=putI st1 i.dst v) \/ (Region.wanted o (yielded ops a.tmps)=false/\st'=putI st i.dst (.tup [])):=by
 unfold Qa1 at hev;split at hev
 . rename_i hi;rw [hi] at hg;have hog:o.guard=none:=by
    cases h:o.guard with
    | none=>rfl
    | some _=>rw [h] at hg;simp at hg
   refine .inl ⟨by simp [Region.wanted,hog],?_⟩;split at hev
   . rename_i v st1 he;refine ⟨v,st1,he,?_⟩;unfold putI;split at hev <;> simp_all
   . cases hev
 . rename_i s b hi;rw [hi] at hg;cases hog:o.guard with
   | none=>rw [hog] at hg;simp at hg
   | some p =>
   obtain ⟨j,b'⟩:=p;rw [hog] at hg;simp only [Kac,Kbt] at hg;obtain ⟨hbb,hg⟩:=hg;subst hbb;split at hg;rotate_left
   . cases hg
   rename_i t ht;have hts:t=s:=by simpa using hg
   subst hts;have hy:∀ x,Qah a t=x->yielded ops a.tmps j=(match x with | .bool b=>some b | _=>none) \/ (∃ y,x=y/\∀ b,y ≠ .bool b):=by
    intro x hx;by_cases hb:∃ b,x=.bool b
    . obtain ⟨b,rfl⟩:=hb;left;unfold yielded;rw [ht];have:a.tmps[t]? = some (.bool b):=by
       simp only [Qah,Kcc] at hx;cases hq:a.tmps[t]? with
       | none=>rw [hq] at hx;simp [undef] at hx
       | some y=>rw [hq] at hx;simp at hx;rw [hx]
      simp [this]
    . right;exact ⟨x,rfl,fun b hh=>hb ⟨b,hh⟩⟩
   have hyn:(∀ b,Qah a t ≠ .bool b)->yielded ops a.tmps j=none:=by
    intro hnb;unfold yielded;rw [ht];simp only [Option.bind_some];split
    . rename_i b hb;exact absurd (by simp [Qah,Kcc,hb]) (hnb b)
    . rfl
   have hs:=hR.slots t;split at hev
   . rename_i b1 hT;rw [hT] at hs;obtain ⟨hv,-,-⟩:=Qbd hs;have hyy:yielded ops a.tmps j=some b1:=by
      rcases hy _ hv with h | ⟨y,h1,h2⟩
      . exact h
      . exact absurd h1.symm (h2 b1)
     split at hev
     . rename_i hbe;refine .inl ⟨by simp [Region.wanted,hog,hyy,hbe],?_⟩;split at hev
       . rename_i v st1 he;refine ⟨v,st1,he,?_⟩;unfold putI;split at hev <;> simp_all
       . cases hev
     . rename_i hbe;refine .inr ⟨by simp [Region.wanted,hog,hyy,hbe],?_⟩;unfold putI;split at hev <;> simp_all
   . rename_i hT;rw [hT] at hs;obtain ⟨C,hC,hc⟩:=hs;have hyy:=hyn (fun b hb=>by rw [hC] at hb;cases hb);refine .inr ⟨by simp [Region.wanted,hog,hyy],?_⟩;unfold putI;split at hev <;> simp_all
   . cases hev
theorem dst_ok {o:Oper} {i:IOp} (h:(match o.dst,i.dst with
 | none,none=>true
 | some d,some e=>d == e && decide (d < n) && !keep.contains d
 | _,_=>false)=true):o.dst=i.dst/\∀ e,i.dst=some e->e < n/\e ∉ keep:=by
 cases ho:o.dst with
 | none =>
   cases hi:i.dst with
   | none=>exact ⟨rfl,by simp⟩
   | some e=>rw [ho,hi] at h;cases h
 | some d =>
   cases hi:i.dst with
   | none=>rw [ho,hi] at h;cases h
   | some e =>
     rw [ho,hi] at h;simp only [Kac,Kbt,Kai,Kby] at h;obtain ⟨⟨rfl,h2⟩,h3⟩:=h;refine ⟨rfl,fun e he=>?_⟩;cases he;exact ⟨h2,by simpa using h3⟩
theorem Jpp (hcf:Qcn cx cf) (hlen:iops.length<=ops.size) :
 ∀ {l:List Nat} {st:St} {a:Act} {w:World} {st':St},(∀ i ∈ l,∀ (o:Oper) (x:IOp),ops[i]? = some o->iops[i]? = some x->Jkx cx ops n keep o x=true)->(∀ i ∈ l,i < iops.length)->Inv cx w0 F0 ρ0 fp0 st0 a0 keep n st a w->Qaf cf st (Qai iops l)=some st'->wpY cx.P ops (Qh1 iops) (Inv cx w0 F0 ρ0 fp0 st0 a0 keep n st') l a w
 | [],st,a,w,st',_,_,hI,hev=>by
   simp only [Qai,List.filterMap_nil,Qaf,Kaa] at hev;subst hev;exact hI
 | i::l,st,a,w,st',hck,hl,hI,hev=>by
   have hil:=hl i (by simp);have hx:iops[i]? = some iops[i]:=Kag hil;have ho:ops[i]? = some (ops[i]'(by omega)):=Array.getElem?_eq_getElem _;generalize iops[i]=x at hx;generalize ops[i]'(by omega)=o at ho;have hin:Qai iops (i::l)=x::Qai iops l:=by simp [Qai,hx]
   rw [hin] at hev;simp only [Qaf] at hev;split at hev;rotate_left
   . cases hev
   rename_i st1 h1;have hc:=hck i (by simp) o x ho hx;simp only [Jkx,Kac] at hc;obtain ⟨⟨hb,hd⟩,hg⟩:=hc;obtain ⟨hde,hdn⟩:=dst_ok hd;have hcls:Qh1 iops i=x.k.cls:=by simp [Qh1,hx]
   have rest:∀ {a1:Act} {w1:World},Inv cx w0 F0 ρ0 fp0 st0 a0 keep n st1 a1 w1->wpY cx.P ops (Qh1 iops) (Inv cx w0 F0 ρ0 fp0 st0 a0 keep n st') l a1 w1:=fun hI1 =>
    Jpp hcf hlen (fun j hj=>hck j (by simp [hj])) (fun j hj=>hl j (by simp [hj])) hI1 hev
   obtain ⟨F,ρ,fp,hR,hE,hS,hn,hdf,hk⟩:=hI;refine ⟨o,ho,?_⟩;rw [hcls];rcases Jlq hR hg h1 with ⟨hw,v,st2,he,rfl⟩ | ⟨hw,rfl⟩
   . have hres:=op_res hcf hR hb he;rw [<- hde] at rest;rw [<- hde] at hdn;cases hk2:x.k.cls with
     | reg =>
       rw [hk2] at hres;obtain ⟨rfl,v',hrun,hv⟩:=hres;exact ⟨v',.inl ⟨hw,fun w'=>hrun w' trivial⟩,rest (Qei hR hv hE hS hn hdf hk hdn)⟩
     | ld =>
       rw [hk2] at hres;obtain ⟨rfl,v',hrun,hv⟩:=hres;exact ⟨v',.inl ⟨hw,hrun w (.refl w)⟩,rest (Qei hR hv hE hS hn hdf hk hdn)⟩
     | oth =>
       rw [hk2] at hres;simp only;have ext:∀ {w' F' ρ' fp' f'},Ext w F ρ fp [] (exB st) w' F' ρ' fp' (f'++[])->Ext w0 F0 ρ0 fp0 [] (exB st0) w' F' ρ' fp' (f'++[]):=fun h=>hE.trans h fun l k hb=>hS.box hb;unfold wpOp;simp only [ho,hw,if_true];left;unfold Oper.wp;rcases hres with ⟨v',w',F',ρ',fp',f',hy,hR',hv,hE',hS'⟩ | ⟨g,args,hrun,hcalls⟩
       . have hI1:=rest (Qei hR' hv (ext hE') (hS.trans hS') hn hdf hk hdn);rcases hy with hy | ⟨hy,rfl⟩
         . rw [hy];exact hI1
         . rw [hy];exact hI1
       . rw [hrun];simp only [Oper.upon];refine hcalls.mono ?_;rintro e w' ⟨v',F',ρ',fp',f',rfl,hR',hv,hE',hS'⟩;exact rest (Qei hR' hv (ext hE') (hS.trans hS') hn hdf hk hdn)
   . rw [<- hde] at rest;rw [<- hde] at hdn;have hI1:=rest (Qei (f':=[]) (by simpa using hR) Qve (by simpa using hE) hS hn hdf hk hdn);cases hk2:x.k.cls with
     | reg=>exact ⟨undef,.inr ⟨hw,rfl⟩,hI1⟩
     | ld=>exact ⟨undef,.inr ⟨hw,rfl⟩,hI1⟩
     | oth =>
       simp only;unfold wpOp;simp only [ho,hw,Kap,Kbs];exact hI1
theorem Jec (hcf:Qcn cx cf) (hck:∀ (i:Nat) (o:Oper) (x:IOp),ops[i]? = some o->iops[i]? = some x->Jkx cx ops n keep o x=true) (hlen:iops.length<=ops.size)
 {l:List Nat} {st:St} {a:Act} {w:World} {st':St} (hl:∀ i ∈ l,i < iops.length) (hI:Inv cx w0 F0 ρ0 fp0 st0 a0 keep n st a w) (hev:Qaf cf st (Qai iops l)=some st'):wpY cx.P ops (Qh1 iops) (Inv cx w0 F0 ρ0 fp0 st0 a0 keep n st') l a w :=
 Jpp hcf hlen (fun i _=>hck i) hl hI hev
end
end Go.Idl
namespace Go.Idl
open Go
theorem Qvi (k1 k2 k:Nat):swN k1 k2 (swN k1 k2 k)=k:=by
 unfold swN;split <;> split <;> (try split) <;> omega
def swRt (L k1 k2:Nat):Rt->Rt
 | .B l k=>.B l (if l=L then swN k1 k2 k else k)
 | r=>r
theorem Qtj (L k1 k2:Nat) (r:Rt):swRt L k1 k2 (swRt L k1 k2 r)=r:=by
 cases r with
 | S s=>rfl
 | B l k=>simp only [swRt];by_cases h:l=L <;> simp [h,Qvi]
def Jad (L k1 k2:Nat) (ρ:Rho):Rho:=fun l k=>ρ l (if l=L then swN k1 k2 k else k)
theorem Qtl (g:IV->IV) (hg:g .un=.un):∀ (T:Tm) (s:Nat),Qav (T.map fun p=>(p.1,g p.2)) s=g (Qav T s)
 | [],s=>by simp [Qav,hg]
 | (k,v)::r,s=>by
   have:=Qtl g hg r s;simp only [Kbd,Qav];split
   . rfl
   . exact this
theorem Qye {p:IV->Bool} (hp:p .un=true):∀ {T:Tm},T.all (fun q=>p q.2)=true->∀ s,p (Qav T s)=true
 | [],_,s=>by simpa [Qav] using hp
 | (k,v)::r,h,s=>by
   simp only [Kcj,Kac] at h;simp only [Qav];split
   . exact h.1
   . exact Qye hp h.2 s
section
variable {cx:Cx} {w:World} {F:Nat->Prop} {ρ:Rho} {fp:Fp} {X:List Nat} {st st':St} {tm:Nat->Value}
theorem Rel.swB (h:Rel cx w F ρ fp X st tm) {k1 k2:Nat} (hsw:st.swB k1 k2=some st') :
 Rel cx w F (Jad st.M.length k1 k2 ρ) (fun r=>fp (swRt st.M.length k1 k2 r)) X st' tm:=by
 unfold St.swB at hsw;split at hsw;rotate_left
 . cases hsw
 rename_i hc;obtain ⟨h1,h2,hT,hloc⟩:=hc;simp only [Kaa] at hsw;subst hsw;obtain ⟨L,hL⟩:∃ L,L=st.M.length:=⟨_,rfl⟩;rw [<- hL] at hloc |-;have hbox:∀ l k,({ st with T:=st.T.map fun p=>(p.1,p.2.swb L k1 k2),loc:=(st.loc.set k1 (st.loc.getD k2 [])).set k2 (st.loc.getD k1 []) }:St).box l k=st.box l (if l=L then swN k1 k2 k else k):=by
  intro l k;simp only [St.box];by_cases hl:l=L
  . rw [if_pos (by omega),if_pos (by omega),if_pos hl];unfold swN;by_cases e1:k=k1
    . subst e1;rw [if_pos rfl];by_cases e2:k2=k
      . subst e2;rw [Kbl (by simpa using h2),Kad,Kag h1];rfl
      . rw [Kbi e2,Kbl h1,Kad,Kag h2];rfl
    . rw [if_neg e1];by_cases e2:k=k2
      . subst e2;rw [if_pos rfl,Kbl (by simpa using h2),Kad,Kag h1];rfl
      . rw [if_neg e2,Kbi (fun hh=>e2 hh.symm),Kbi (fun hh=>e1 hh.symm)]
  . rw [if_neg (by omega),if_neg (by omega),if_neg hl]
 have hinj:∀ r r',swRt L k1 k2 r=swRt L k1 k2 r'->r=r':=fun r r' hr=>by
  rw [<- Qtj L k1 k2 r,hr,Qtj]
 have hcap:∀ (x:IV) (v:Value),x.noK L k1 k2=true->(x matches .bptr .. | .fn ..)->Qlc cx w F ρ st (fun _ _=>none) x v ->
  Qlc cx w F (Jad L k1 k2 ρ) { st with T:=st.T.map fun p=>(p.1,p.2.swb L k1 k2),loc:=(st.loc.set k1 (st.loc.getD k2 [])).set k2 (st.loc.getD k1 []) } (fun _ _=>none) x v:=by
  have stay:∀ l k,(!(l == L && (k == k1 || k == k2)))=true->(if l=L then swN k1 k2 k else k)=k:=fun l k hn=>by
   by_cases hl:l=L
   . rw [if_pos hl];simp [hl] at hn;rw [swN,if_neg hn.1,if_neg hn.2]
   . rw [if_neg hl]
  intro x v hn hx hr;cases x with
  | bptr l k c =>
    have hs:=stay l k hn;refine ⟨?_,?_⟩
    . rw [hr.1];simp only [Jad,hs]
    . rw [hbox,hs];exact hr.2
  | fn f caps =>
    obtain ⟨cvs,q1,q2⟩:=hr;refine ⟨cvs,q1,q2.mono fun z u g _ hz hm=>⟨?_,hz.2⟩⟩;have hnz:=Kaj.1 hn z hm;cases z with
    | bptr l k c =>
      have hs:=stay l k hnz;refine ⟨?_,?_⟩
      . rw [hz.1.1];simp only [Jad,hs]
      . rw [hbox,hs];exact hz.1.2
    | _=>exact hz.1.elim
  | _=>simp at hx
 refine ⟨fun s=>?_,fun l k cs hb=>?_,fun l k hb=>?_,fun r=>h.nodup _,fun r r' hr=>h.disj _ _ (fun hh=>hr (hinj _ _ hh)),fun r=>h.notF _,fun r=>h.lt _,h.Flt,h.xnodup,fun r=>h.xdisj _,h.xF,h.xlt⟩
 . have hs:=h.slots s;have hf:=Qye (p:=IV.flat) rfl hT s;rw [show Qav (st.T.map fun p=>(p.1,p.2.swb L k1 k2)) s=(Qav st.T s).swb L k1 k2 from Qtl (IV.swb L k1 k2) rfl st.T s];show Qa6 cx w F _ _ _ _ _ (fp (.S s));cases hx:Qav st.T s with
   | bptr l k c =>
     rw [hx] at hs;rcases hs with ⟨hs,hfp⟩ | hs
     . refine .inl ⟨⟨?_,?_⟩,hfp⟩
       . rw [hs.1];simp only [Jad];by_cases hl:l=L
         . simp [hl,Qvi]
         . simp [hl]
       . rw [hbox];by_cases hl:l=L
         . simp only [hl,if_true,Qvi];rw [hl] at hs;exact hs.2
         . simp only [hl,Kbs];exact hs.2
     . cases hs
   | sc v=>rw [hx] at hs;exact hs.elim (fun h=>h.1.elim) .inr
   | lst e es cl=>rw [hx] at hs;exact hs.elim (fun h=>h.1.elim) .inr
   | own e es=>rw [hx] at hs;exact hs.elim (fun h=>h.1.elim) .inr
   | un=>rw [hx] at hs;exact hs
   | _=>rw [hx] at hf;simp [IV.flat] at hf
 . rw [hbox] at hb;obtain ⟨C,ty,f,q1,q2,q3⟩:=h.boxes l _ cs hb;refine ⟨C,ty,f,q1,q2,q3.mono fun x v g _ hx hm=>?_⟩;rcases hx with ⟨p1,p2,p3,p4⟩ | hx
   . refine .inl ⟨hcap x v ?_ p3 p1,p2,p3,p4⟩;by_cases hl:l=L
     . have:cs ∈ st.loc:=by
        rw [St.box,if_pos (by omega)] at hb;exact Kbn hb
       exact Kaj.1 (Kaj.1 hloc cs this) x hm
     . have hlt:l < L:=by
        rw [St.box,if_neg (by omega)] at hb;split at hb
        . rename_i b hM;have:=(Kak.1 hM).1;omega
        . cases hb
       cases x with
       | bptr l' k c =>
         simp only [IV.lvl,Kai] at p2;have:(l' == L)=false:=by simp;omega
         simp [IV.noK,this]
       | fn f caps =>
         simp only [IV.lvl] at p2;refine Kaj.2 fun z hz=>?_;have hz2:=Kaj.1 p2 z hz;cases z with
         | bptr l' k c =>
           simp only [Kai] at hz2;have:(l' == L)=false:=by simp;omega
           simp [this]
         | _=>rfl
       | _=>rfl
   . exact .inr hx
 . rw [hbox] at hb;exact h.nobox l _ hb
end
end Go.Idl
