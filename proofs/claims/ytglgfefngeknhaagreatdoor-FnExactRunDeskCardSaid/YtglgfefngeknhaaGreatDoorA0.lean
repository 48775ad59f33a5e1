/- Part 0 of a proof by an ideal interpreter of the code: its definitions and lemmas. Conditions: none. -/
import Derived.Calls
import Derived.Laws.AppendOwn
import Derived.Laws.Cells
import Derived.Laws.Entries
import Derived.Laws.Sem
import GoSem.Dispatch
set_option linter.all false
set_option linter.unusedVariables false
set_option linter.unusedSimpArgs false
namespace Go.Idl
theorem Kaa : type_of% @Option.some.injEq := @Option.some.injEq
theorem Kab : type_of% @Prod.mk.injEq := @Prod.mk.injEq
theorem Kac : type_of% @Bool.and_eq_true := @Bool.and_eq_true
theorem Kad : type_of% @List.getD_eq_getElem?_getD := @List.getD_eq_getElem?_getD
theorem Kae : type_of% @List.take_of_length_le := @List.take_of_length_le
theorem Kaf : type_of% @List.mem_cons := @List.mem_cons
theorem Kag : type_of% @List.getElem?_eq_getElem := @List.getElem?_eq_getElem
theorem Kah : type_of% @List.mem_append := @List.mem_append
theorem Kai : type_of% @decide_eq_true_eq := @decide_eq_true_eq
theorem Kaj : type_of% @List.all_eq_true := @List.all_eq_true
theorem Kak : type_of% @List.getElem?_eq_some_iff := @List.getElem?_eq_some_iff
theorem Kal : type_of% @List.append_assoc := @List.append_assoc
theorem Kam : type_of% @Nat.le_refl := @Nat.le_refl
theorem Kan : type_of% @List.nodup_append := @List.nodup_append
theorem Kao : type_of% @List.getElem_mem := @List.getElem_mem
theorem Kap : type_of% @Bool.false_eq_true := @Bool.false_eq_true
theorem Kaq : type_of% @List.nil_append := @List.nil_append
theorem Kar : type_of% @List.getElem?_eq_none := @List.getElem?_eq_none
theorem Kas : type_of% @List.length_take := @List.length_take
theorem Kat : type_of% @List.getElem?_append_right := @List.getElem?_append_right
theorem Kau : type_of% @List.take_succ_eq_append_getElem := @List.take_succ_eq_append_getElem
theorem Kav : type_of% @List.length_eq_zero_iff := @List.length_eq_zero_iff
theorem Kaw : type_of% @List.not_mem_nil := @List.not_mem_nil
theorem Kax : type_of% @Int.toNat_natCast := @Int.toNat_natCast
theorem Kay : type_of% @List.drop_eq_getElem_cons := @List.drop_eq_getElem_cons
theorem Kaz : type_of% @List.mem_range := @List.mem_range
theorem Kba : type_of% @List.getElem?_append_left := @List.getElem?_append_left
theorem Kbb : type_of% @List.append_nil := @List.append_nil
theorem Kbc : type_of% @List.length_cons := @List.length_cons
theorem Kbd : type_of% @List.map_cons := @List.map_cons
theorem Kbe : type_of% @List.pairwise_cons := @List.pairwise_cons
theorem Kbf : type_of% @decide_eq_false := @decide_eq_false
theorem Kbg : type_of% @List.getElem?_take_of_lt := @List.getElem?_take_of_lt
theorem Kbh : type_of% @Nat.mul_le_mul_right := @Nat.mul_le_mul_right
theorem Kbi : type_of% @List.getElem?_set_ne := @List.getElem?_set_ne
theorem Kbj : type_of% @Bool.or_eq_true := @Bool.or_eq_true
theorem Kbk : type_of% @List.cons_append := @List.cons_append
theorem Kbl : type_of% @List.getElem?_set_self := @List.getElem?_set_self
theorem Kbm : type_of% @Int.eq_ofNat_of_zero_le := @Int.eq_ofNat_of_zero_le
theorem Kbn : type_of% @List.mem_of_getElem? := @List.mem_of_getElem?
theorem Kbo : type_of% @decide_eq_true := @decide_eq_true
theorem Kbp : type_of% @List.getElem?_drop := @List.getElem?_drop
theorem Kbq : type_of% @List.nodup_cons := @List.nodup_cons
theorem Kbr : type_of% @List.mem_filter := @List.mem_filter
theorem Kbs : type_of% @if_false := @if_false
theorem Kbt : type_of% @beq_iff_eq := @beq_iff_eq
theorem Kbu : type_of% @List.length_append := @List.length_append
theorem Kbv : type_of% @List.mem_of_mem_take := @List.mem_of_mem_take
theorem Kbw : type_of% @Nat.lt_or_ge := @Nat.lt_or_ge
theorem Kbx : type_of% @Bool.true_and := @Bool.true_and
theorem Kby : type_of% @Bool.not_eq_true' := @Bool.not_eq_true'
theorem Kbz : type_of% @Nat.succ_mul := @Nat.succ_mul
theorem Kca : type_of% @List.flatten_cons := @List.flatten_cons
theorem Kcb : type_of% @List.drop_zero := @List.drop_zero
theorem Kcc : type_of% @Array.getD_eq_getD_getElem? := @Array.getD_eq_getD_getElem?
theorem Kcd : type_of% @Nat.lt_of_lt_of_le := @Nat.lt_of_lt_of_le
theorem Kce : type_of% @List.mem_singleton := @List.mem_singleton
theorem Kcf : type_of% @or_false := @or_false
theorem Kcg : type_of% @List.take_append_drop := @List.take_append_drop
theorem Kch : type_of% @List.mem_or_eq_of_mem_set := @List.mem_or_eq_of_mem_set
theorem Kci : type_of% @List.length_nil := @List.length_nil
theorem Kcj : type_of% @List.all_cons := @List.all_cons
theorem Kck : type_of% @List.mem_map := @List.mem_map
theorem Kcl : type_of% @List.set_append_right := @List.set_append_right
theorem Kcm : type_of% @List.perm_append_comm := @List.perm_append_comm
theorem Kcn : type_of% @List.Perm.append_right := @List.Perm.append_right
theorem Kco : type_of% @List.length_drop := @List.length_drop
theorem Kcp : type_of% @Nat.le_trans := @Nat.le_trans
theorem Kcq : type_of% @Nat.add_assoc := @Nat.add_assoc
theorem Kcr : type_of% @decide_eq_false_iff_not := @decide_eq_false_iff_not
theorem Kcs : type_of% @List.getElem?_cons_zero := @List.getElem?_cons_zero
theorem Kct : type_of% @List.map_append := @List.map_append
theorem Kcu : type_of% @List.length_map := @List.length_map
theorem Kcv : type_of% @List.reverse_cons := @List.reverse_cons
theorem Kcw : type_of% @List.flatMap_cons := @List.flatMap_cons
theorem Kcx : type_of% @Classical.byContradiction := @Classical.byContradiction
theorem Kcy : type_of% @List.singleton_sublist := @List.singleton_sublist
theorem Kcz : type_of% @List.take_zero := @List.take_zero
theorem Kda : type_of% @Option.some.inj := @Option.some.inj
theorem Kdb : type_of% @List.take_length := @List.take_length
theorem Kdc : type_of% @List.ext_getElem? := @List.ext_getElem?
theorem Kdd : type_of% @List.filter_cons_of_pos := @List.filter_cons_of_pos
theorem Kde : type_of% @List.reverse_reverse := @List.reverse_reverse
theorem Kdf : type_of% @Option.getD_some := @Option.getD_some
theorem Kdg : type_of% @List.flatten_append := @List.flatten_append
theorem Kdh : type_of% @Option.isSome_some := @Option.isSome_some
theorem Kdi : type_of% @Option.isSome_none := @Option.isSome_none
theorem Kdj : type_of% @Nat.eq_zero_or_pos := @Nat.eq_zero_or_pos
theorem Kdk : type_of% @Nat.add_mul := @Nat.add_mul
theorem Kdl : type_of% @List.mem_of_mem_drop := @List.mem_of_mem_drop
theorem Kdm : type_of% @List.dropLast_concat_getLast := @List.dropLast_concat_getLast
theorem Kdn : type_of% @List.map_nil := @List.map_nil
theorem Kdo : type_of% @List.drop_drop := @List.drop_drop
theorem Kdp : type_of% @List.getElem?_set := @List.getElem?_set
theorem Kdq : type_of% @Bool.eq_iff_iff := @Bool.eq_iff_iff
theorem Kdr : type_of% @List.map_congr_left := @List.map_congr_left
theorem Kds : type_of% @Int.tdiv_eq_ediv_of_nonneg := @Int.tdiv_eq_ediv_of_nonneg
theorem Kdt : type_of% @List.pairwise_append := @List.pairwise_append
theorem Kdu : type_of% @List.mem_cons_of_mem := @List.mem_cons_of_mem
theorem Kdv : type_of% @List.foldl_cons := @List.foldl_cons
theorem Kdw : type_of% @List.filter_nil := @List.filter_nil
theorem Kdx : type_of% @List.getElem?_map := @List.getElem?_map
theorem Kdy : type_of% @Bool.not_true := @Bool.not_true
theorem Kdz : type_of% @Bool.false_or := @Bool.false_or
theorem Kea : type_of% @List.reverse_append := @List.reverse_append
theorem Keb : type_of% @List.filter_eq_self := @List.filter_eq_self
theorem Kec : type_of% @List.filter_cons := @List.filter_cons
theorem Ked : type_of% @List.take_take := @List.take_take
theorem Kee : type_of% @Bool.false_and := @Bool.false_and
theorem Kef : type_of% @List.sublist_cons_self := @List.sublist_cons_self
theorem Keg : type_of% @List.append_eq_nil_iff := @List.append_eq_nil_iff
theorem Keh : type_of% @Nat.add_zero := @Nat.add_zero
theorem Kei : type_of% @List.length_filter_le := @List.length_filter_le
theorem Kej : type_of% @List.countP_le_length := @List.countP_le_length
theorem Kek : type_of% @List.Perm.append_left := @List.Perm.append_left
theorem Kel : type_of% @List.filter_congr := @List.filter_congr
theorem Kem : type_of% @Array.getElem?_eq_some_iff := @Array.getElem?_eq_some_iff
theorem Ken : type_of% @List.reverse_nil := @List.reverse_nil
theorem Keo : type_of% @List.getElem_inj := @List.getElem_inj
theorem Kep : type_of% @Bool.not_eq_true := @Bool.not_eq_true
theorem Keq : type_of% @Array.length_toList := @Array.length_toList
theorem Ker : type_of% @List.map_set := @List.map_set
theorem Kes : type_of% @Option.map_some := @Option.map_some
theorem Ket : type_of% @List.cons.injEq := @List.cons.injEq
theorem Keu : type_of% @List.filter_cons_of_neg := @List.filter_cons_of_neg
theorem Kev : type_of% @List.length_pos_of_mem := @List.length_pos_of_mem
theorem Kew : type_of% @List.drop_of_length_le := @List.drop_of_length_le
theorem Kex : type_of% @List.Sublist.cons_cons := @List.Sublist.cons_cons
theorem Key : type_of% @Array.getElem?_setIfInBounds_ne := @Array.getElem?_setIfInBounds_ne
theorem Kez : type_of% @List.nodup_nil := @List.nodup_nil
theorem Kfa : type_of% @decide_eq_decide := @decide_eq_decide
theorem Kfb : type_of% @List.any_eq_true := @List.any_eq_true
theorem Kfc : type_of% @List.eq_nil_of_length_eq_zero := @List.eq_nil_of_length_eq_zero
theorem Kfd : type_of% @Classical.not_forall := @Classical.not_forall
theorem Kfe : type_of% @true_and := @true_and
theorem Kff : type_of% @List.range_succ := @List.range_succ
theorem Kfg : type_of% @List.take_succ_cons := @List.take_succ_cons
theorem Kfh : type_of% @List.getElem?_range := @List.getElem?_range
theorem Kfi : type_of% @Bool.or_eq_true_iff := @Bool.or_eq_true_iff
abbrev Lab:=Nat
abbrev Qg8:=List (Nat×Nat)
inductive Rt where
 | S (s:Nat)
 | B (l k:Nat)
 deriving DecidableEq
inductive IV where
 | sc (v:Value)
 | lst (esz:Nat) (es:List (List IV)) (clip:Bool)
 | own (esz:Nat) (es:List (List IV))
 | arr (r:Rt) (c:Nat) (p:Qg8) (e off n:Nat) (clip:Bool)
 | eptr (r:Rt) (c:Nat) (p:Qg8) (i j:Nat)
 | lptr (e:List IV) (j:Nat)
 | bptr (l k c:Nat)
 | fn (f:Lab) (caps:List IV)
 | agg (cs:List IV)
 | tup (vs:List IV)
 | un
 deriving Inhabited
def IV.cells:IV->List IV
 | .agg cs=>cs
 | .tup vs=>vs
 | x=>[x]
def IV.wcells:IV->List IV
 | .agg cs=>cs
 | .tup _=>[.un]
 | x=>[x]
abbrev Tm:=List (Nat×IV)
def Qav:Tm->Nat->IV
 | [],_=>.un
 | (k,v)::r,s=>if k=s then v else Qav r s
abbrev Qad:=List (List IV)
structure St where
 T:Tm
 loc:Qad
 M:List Qad
def isSc:Value->Bool
 | .int _ _ | .bool _ | .string _ | .nilFunc=>true
 | _=>false
def cv1:Value->IV
 | .slice none 0 0=>.lst 0 [] true
 | .int k n=>.sc (.int k n)
 | .bool b=>.sc (.bool b)
 | .string s=>.sc (.string s)
 | .nilFunc=>.sc .nilFunc
 | _=>.un
def cv:Value->IV
 | .agg cs=>.agg (cs.toList.map cv1)
 | v=>cv1 v
inductive Opd where
 | t (s:Nat)
 | c (v:Value)
 | f (l:Lab)
def Qg6 (r:Rt) (mk:Nat->Nat×Qg8):Nat->List IV->List IV
 | _,[]=>[]
 | i,.own e es::xs=>.arr r (mk i).1 (mk i).2 e 0 es.length false::Qg6 r mk (i+1) xs
 | i,x::xs=>x::Qg6 r mk (i+1) xs
def Jf1 (s:Nat):IV->IV
 | .own e es=>.arr (.S s) 0 [] e 0 es.length false
 | .agg cs=>.agg (Qg6 (.S s) (fun i=>(i,[])) 0 cs)
 | .tup []=>.tup []
 | .tup _=>.un
 | x=>x
def rd (T:Tm):Opd->IV
 | .t s=>Jf1 s (Qav T s)
 | .c v=>cv v
 | .f l=>.fn l []
def klc (p:IV->Bool) (c:IV):IV:=if p c then .un else c
def kl1 (p:IV->Bool):IV->IV
 | .agg cs=>.agg (cs.map (klc p))
 | x=>klc p x
def kl (p:IV->Bool):IV->IV
 | .tup vs=>.tup (vs.map (kl1 p))
 | x=>kl1 p x
def Qa3 (p:IV->Bool) (T:Tm):Tm:=T.map fun (s,x)=>(s,kl p x)
def IV.rooted (q:Rt):IV->Bool
 | .arr r _ _ _ _ _ _ | .eptr r _ _ _ _=>decide (r=q)
 | _=>false
def Qce (q:Rt) (T:Tm):Tm:=Qa3 (IV.rooted q) T
def dropSlot (s:Nat) (T:Tm):Tm:=(s,.un)::Qce (.S s) T
def IV.rootB:IV->Bool
 | .arr (.B ..) _ _ _ _ _ _ | .eptr (.B ..) _ _ _ _=>true
 | _=>false
def Qc0 (T:Tm):Tm:=Qa3 IV.rootB T
def IV.isSc:IV->Bool
 | .sc _=>true
 | _=>false
def IV.isOwn:IV->Bool
 | .own ..=>true
 | _=>false
def IV.holds:IV->Bool
 | .own ..=>true
 | .agg cs=>cs.any IV.isOwn
 | .tup _=>true
 | _=>false
def tk (T:Tm):Opd->IV×Tm
 | .t s=>if (Qav T s).holds then (kl (IV.rooted (.S s)) (Qav T s),dropSlot s T) else (Qav T s,T)
 | .c v=>(cv v,T)
 | .f l=>(.fn l [],T)
def St.box (st:St) (l k:Nat):Option (List IV) :=
 if l=st.M.length then st.loc[k]? else match st.M[l]? with
  | some b=>b[k]?
  | none=>none
def St.setBox (st:St) (l k:Nat) (cs:List IV):St :=
 if l=st.M.length then { st with loc:=st.loc.set k cs } else match st.M[l]? with
  | some b=>{ st with M:=st.M.set l (b.set k cs) }
  | none=>st
def St.rcells (st:St):Rt->Option (List IV)
 | .S s=>some (Qav st.T s).cells
 | .B l k=>st.box l k
def Qbv:IV->Nat->IV->IV
 | .agg cs,c,y=>.agg (cs.set c y)
 | .tup cs,c,y=>.tup (cs.set c y)
 | _,_,y=>y
def fol:IV->Qg8->Option IV
 | x,[]=>some x
 | .own _ es,(i,j)::p=>match es[i]? with
   | some e=>match e[j]? with
     | some y=>fol y p
     | none=>none
   | none=>none
 | _,_::_=>none
def Quz:IV->Qg8->IV->Option IV
 | _,[],y=>some y
 | .own esz es,(i,j)::p,y=>match es[i]? with
   | some e=>match e[j]? with
     | some x=>match Quz x p y with
       | some x'=>some (.own esz (es.set i (e.set j x')))
       | none=>none
     | none=>none
   | none=>none
 | _,_::_,_=>none
def St.plc (st:St) (r:Rt) (c:Nat) (p:Qg8):Option IV :=
 match st.rcells r with
 | some cs=>match cs[c]? with
   | some x=>fol x p
   | none=>none
 | none=>none
def St.setPlc (st:St) (r:Rt) (c:Nat) (p:Qg8) (y:IV):Option St :=
 match st.rcells r with
 | some cs=>match cs[c]? with
   | some x=>match Quz x p y with
     | some x'=>match r with
       | .S s=>some { st with T:=(s,Qbv (Qav st.T s) c x')::st.T }
       | .B l k=>some (st.setBox l k (cs.set c x'))
     | none=>none
   | none=>none
 | none=>none
def St.sview (st:St):IV->Option (Nat×List (List IV))
 | .lst esz es _=>some (esz,es)
 | .arr r c p _ off n _=>match st.plc r c p with
   | some (.own esz es)=>if off+n<=es.length then some (esz,(es.drop off).take n) else none
   | _=>none
 | _=>none
def Qea:List (List IV)->Option (List Int)
 | []=>some []
 | [.sc (.int .u8 n)]::r=>match Qea r with
   | some xs=>some (n::xs)
   | none=>none
 | _=>none
def Qbj (xs:List Int):ByteArray:=⟨(xs.map fun n=>UInt8.ofNat n.toNat).toArray⟩
def Jm9:IV->Option Nat
 | .lst _ es _=>some es.length
 | .arr _ _ _ _ _ n _=>some n
 | _=>none
def tput (T:Tm) (d:Nat) (v:IV):Tm :=
 if (Qav T d).holds then (d,kl (IV.rooted (.S d)) v)::Qce (.S d) T else (d,v)::T
mutual
def Qol:IV->IV
 | .own e es=>.lst e (Qdq es) false
 | x=>x
def Qe4:List IV->List IV
 | []=>[]
 | x::xs=>Qol x::Qe4 xs
def Qdq:List (List IV)->List (List IV)
 | []=>[]
 | e::es=>Qe4 e::Qdq es
end
mutual
def Qcr:IV->Bool
 | .own _ es=>Qb7 es
 | .lst _ es _=>es.isEmpty
 | .sc _=>true
 | .agg cs | .tup cs=>Qbl cs
 | _=>false
def Qbl:List IV->Bool
 | []=>true
 | x::xs=>Qcr x && Qbl xs
def Qb7:List (List IV)->Bool
 | []=>true
 | e::es=>Qbl e && Qb7 es
end
def IV.isBptr:IV->Bool
 | .bptr ..=>true
 | _=>false
def IV.isData:IV->Bool
 | .sc _ | .lst .. | .own ..=>true
 | _=>false
def IV.isBack:IV->Bool
 | .own ..=>true
 | .agg cs=>cs.all IV.isData
 | _=>false
def IV.plain1:IV->Bool
 | .sc _ | .lst .. | .bptr ..=>true
 | .fn _ _=>true
 | _=>false
def IV.plain:IV->Bool
 | .agg cs=>cs.all IV.plain1
 | x=>x.plain1
def St.absorb (st:St):IV->Option (IV×St)
 | .arr r c p _ off n _=>match st.plc r c p with
   | some (.own esz es)=>if off+n<=es.length then match st.setPlc r c p .un with
      | some st'=>some (.own esz ((es.drop off).take n),{ st' with T:=Qce r st'.T })
      | none=>none
     else none
   | _=>none
 | .eptr .. | .lptr .. | .agg _ | .tup _ | .un=>none
 | x=>some (x,st)
def killOf:IV->IV->Bool
 | .arr r _ _ _ _ _ _=>IV.rooted r
 | _=>fun _=>false
def St.absorbsK (st:St) (pk:IV->Bool):List IV->Option (List IV×St)
 | []=>some ([],st)
 | x::xs=>match st.absorb (klc pk x) with
   | some (y,st)=>match st.absorbsK (fun z=>pk z || killOf (klc pk x) z) xs with
     | some (ys,st)=>some (y::ys,st)
     | none=>none
   | none=>none
def St.absorbs (st:St) (xs:List IV):Option (List IV×St):=st.absorbsK (fun _=>false) xs
def IV.lvl (b:Nat):IV->Bool
 | .bptr l _ _=>decide (l < b)
 | .fn _ caps=>caps.all fun | .bptr l _ _=>decide (l < b) | _=>false
 | .sc _ | .lst .. | .own ..=>true
 | _=>false
inductive Mode where
 | val | rd | tk | ld | rv
 deriving DecidableEq
inductive K where
 | mv (x:Opd)
 | nilo (esz:Nat)
 | mvo (esz:Nat) (x:Opd)
 | asg (x:Opd)
 | asgm (x:Opd)
 | clr (x:Opd) (zero:List Value)
 | pick (c a b:Opd)
 | alloc (zero:List Value)
 | box (x:Opd)
 | build (zero:List Value) (parts:List (Nat×Nat×Opd))
 | bsl (esz:Nat) (zero:List Value) (len:Nat) (parts:List (Nat×Opd))
 | load (agg:Bool) (sz:Nat) (a:Opd)
 | store (sz:Nat) (a x:Opd)
 | storef (sz:Nat) (a x:Opd)
 | nilck (x:Opd)
 | bin (op:BinOp) (x y:Opd)
 | eqa (neg:Bool) (n:Nat) (x y:Opd)
 | unop (op:UnOp) (x:Opd)
 | conv (k:IntKind) (x:Opd)
 | mkfn (f:Lab) (caps:List Opd)
 | mksl (esz:Nat) (zero:List Value) (len cap:Opd)
 | slc (esz:Nat) (x:Opd) (lo hi mx:Option Opd)
 | slcs (x:Opd) (lo hi:Option Opd)
 | fadr (off:Nat) (x:Opd)
 | iadr (esz:Nat) (x i:Opd)
 | idxs (x i:Opd)
 | extr (x:Opd) (i:Nat)
 | call (f:Lab) (args:List (Mode×Opd)) (pure:Bool)
 | callv (f:Opd) (args:List (Mode×Opd))
 | len (x:Opd)
 | lens (x:Opd)
 | app (esz:Nat) (x y:Opd)
 | minmax (mn:Bool) (x y:Opd)
 | halt
 | strb (x:Opd)
structure IOp where
 dst:Option Nat
 g:Option (Nat×Bool)
 k:K
def Qek {α:Type}:Sem α->Option α
 | .pure a=>some a
 | _=>none
def lim:Nat:=274877906944
def Jpe (op:BinOp):IV->IV->Option IV
 | .sc (.int k a),.sc (.int k' b)=>if k=k' then match op with
    | .add=>some (.sc (.int k (k.wrap (a+b))))
    | .sub=>some (.sc (.int k (k.wrap (a - b))))
    | .mul=>some (.sc (.int k (k.wrap (a * b))))
    | .quo=>if b=0 then none else some (.sc (.int k (k.wrap (a.tdiv b))))
    | .rem=>if b=0 then none else some (.sc (.int k (a.tmod b)))
    | .eql=>some (.sc (.bool (a == b)))
    | .neq=>some (.sc (.bool (a != b)))
    | .lss=>some (.sc (.bool (a < b)))
    | .leq=>some (.sc (.bool (a<=b)))
    | .gtr=>some (.sc (.bool (a > b)))
    | .geq=>some (.sc (.bool (a >= b)))
    | op=>match Qek (binOp op 0 (.int k a) (.int k b)) with
      | some v=>if Idl.isSc v then some (.sc v) else none
      | none=>none
   else match op with
    | .shl=>match Qek (binOp .shl 0 (.int k a) (.int k' b)) with
      | some v=>if Idl.isSc v then some (.sc v) else none
      | none=>none
    | .shr=>match Qek (binOp .shr 0 (.int k a) (.int k' b)) with
      | some v=>if Idl.isSc v then some (.sc v) else none
      | none=>none
    | _=>none
 | .sc (.string a),.sc (.string b)=>match Qek (Op.stringOp op a b) with
   | some v=>if Idl.isSc v then some (.sc v) else none
   | none=>none
 | _,_=>none
def Qdn:List IV->List IV->Option Bool
 | [],[]=>some true
 | .sc (.int k a)::xs,.sc (.int k' b)::ys=>if k=k' then match Qdn xs ys with
    | some r=>some (a == b && r)
    | none=>none
   else none
 | _,_=>none
def sub (cs:List IV) (c s:Nat):Option (List IV):=if c+s<=cs.length then some ((cs.drop c).take s) else none
def splice {α:Type} (cs:List α) (c:Nat) (ys:List α):List α:=cs.take c++ys++cs.drop (c+ys.length)
def pack (agg:Bool):List IV->Option IV
 | [x]=>if agg then some (.agg [x]) else some x
 | cs=>if agg then some (.agg cs) else none
def Qcc:IV->Option Nat
 | .sc (.int _ n)=>if 0<=n then some n.toNat else none
 | _=>none
def bound (d:Nat) (T:Tm):Option Opd->Option Nat
 | none=>some d
 | some o=>Qcc (rd T o)
def Jfh (esz:Nat) (x:IV) (l h:Nat) (m:Option Nat):Option IV :=
 match x with
 | .lst e es clip=>if (e == esz || es.isEmpty)=true/\l<=h/\h<=es.length then match m with
    | none=>some (.lst e ((es.drop l).take (h - l)) (clip && h == es.length))
    | some m=>if h<=m/\m<=es.length then some (.lst e ((es.drop l).take (h - l)) (m == h)) else none
   else none
 | .arr r c p e off n clip=>if e=esz/\l<=h/\h<=n then match m with
    | none=>if (clip && !(h == n))=true then none else some (.arr r c p e (off+l) (h - l) clip)
    | some m=>if h=m/\m<=n then some (.arr r c p e (off+l) (h - l) true) else if h<=m/\m<=n then some .un else none
   else none
 | _=>none
def Qg9:List IV->Option Nat
 | []=>none
 | .arr (.S s) _ _ _ _ _ _::_=>some s
 | _::r=>Qg9 r
def scEq:Value->Value->Bool
 | .int k a,.int k' b=>decide (k=k') && a == b
 | .bool a,.bool b=>a == b
 | _,_=>false
def Qe9 (s:Nat):Nat->List IV->List IV->Bool
 | _,[],[]=>true
 | i,.sc u::xs,.sc v::cs=>scEq u v && Qe9 s (i+1) xs cs
 | i,.arr (.S t) c [] _ 0 n false::xs,.own _ es::cs=>t == s && c == i && n == es.length && Qe9 s (i+1) xs cs
 | _,_,_=>false
def St.arg1 (st:St) (m:Mode) (o:Opd):Option (Option IV×St) :=
 match m with
 | .val=>some (none,st)
 | .rv=>some (none,st)
 | .rd=>match tk st.T o with
   | (.own e es,T)=>some (some (.lst e (Qdq es) false),{ st with T:=T })
   | (.agg cs,T)=>if (Qe4 cs).all IV.plain1 then some (some (.agg (Qe4 cs)),{ st with T:=T }) else some (none,st)
   | _=>some (none,st)
 | .tk=>match tk st.T o with
   | (.agg cs,T)=>match { st with T:=T }.absorbs cs with
     | some (cs,st)=>some (some (.agg cs),st)
     | none=>none
   | (x,T)=>match { st with T:=T }.absorb x with
     | some (x,st)=>some (some x,st)
     | none=>none
 | .ld=>match rd st.T o with
   | .arr (.S s) c [] _ 0 n false=>match Qav st.T s with
     | .own e es=>if n=es.length/\c=0 then some (some (.own e es),{ st with T:=dropSlot s st.T }) else none
     | .agg cs=>match cs[c]? with
       | some (.own e es)=>if n=es.length then some (some (.own e es),{ st with T:=(s,.agg ((cs.map (klc (IV.rooted (.S s)))).set c .un))::dropSlot s st.T }) else none
       | _=>none
     | _=>none
   | .agg xs=>match Qg9 xs with
     | some s=>match Qav st.T s with
       | .agg cs=>if Qe9 s 0 xs cs=true then some (some (.agg cs),{ st with T:=dropSlot s st.T }) else none
       | _=>none
     | none=>none
   | _=>none
def Qfe (T:Tm):Mode->Opd->List (Nat×Nat)
 | .ld,o=>match rd T o with
   | .arr (.S s) c _ _ _ _ _=>match Qav T s with
     | .agg _=>[(s,c+1)]
     | _=>[(s,0)]
   | .agg xs=>match Qg9 xs with
     | some s=>[(s,0)]
     | none=>[]
   | _=>[]
 | _,_=>[]
def St.args1 (st:St):List (Mode×Opd)->Option (List (Option IV)×St×List (Nat×Nat))
 | []=>some ([],st,[])
 | (m,o)::r=>match st.arg1 m o with
   | some (v,st1)=>match st1.args1 r with
     | some (vs,st2,ss)=>some (v::vs,st2,Qfe st.T m o++ss)
     | none=>none
   | none=>none
def St.seen (st:St) (x:IV):Option (IV×Bool) :=
 if x.plain1 then some (x,false) else match st.sview x with
  | some (esz,es)=>some (.lst esz (Qdq es) false,true)
  | none=>none
def St.seens (st:St):List IV->Option (List IV×Bool)
 | []=>some ([],false)
 | x::xs=>match st.seen x with
   | some (y,b)=>match st.seens xs with
     | some (ys,c)=>some (y::ys,b || c)
     | none=>none
   | none=>none
def St.arg2 (st:St) (m:Mode) (o:Opd):Option (IV×Bool) :=
 match m with
 | .val=>if (rd st.T o).plain then some (rd st.T o,false) else none
 | .rd=>match rd st.T o with
   | .agg cs=>match st.seens cs with
     | some (cs,b)=>some (.agg cs,b)
     | none=>none
   | x=>st.seen x
 | .rv=>match rd st.T o with
   | .agg cs=>match st.seens cs with
     | some (cs,b)=>some (.agg cs,b)
     | none=>none
   | x=>st.seen x
 | _=>none
def St.args2 (st:St):List (Mode×Opd)->List (Option IV)->Option (List IV×Bool)
 | [],[]=>some ([],false)
 | _::r,some v::vs=>match st.args2 r vs with
   | some (ys,b)=>some (v::ys,b)
   | none=>none
 | (m,o)::r,none::vs=>match st.arg2 m o with
   | some (y,b)=>match st.args2 r vs with
     | some (ys,c)=>some (y::ys,b || c)
     | none=>none
   | none=>none
 | _,_=>none
def St.args (st:St) (l:List (Mode×Opd)):Option (List IV×St×Bool×List (Nat×Nat)) :=
 match st.args1 l with
 | some (vs,st,ss)=>match st.args2 l vs with
   | some (ys,b)=>some (ys,st,b,ss)
   | none=>none
 | none=>none
def St.lentBack (st:St):List (Nat×Nat)->List IV->Option St
 | [],[]=>some st
 | (s,0)::ss,y::ys=>if y.isBack then { st with T:=tput st.T s y }.lentBack ss ys else none
 | (s,c+1)::ss,y::ys=>if y.isOwn then match Qav st.T s with
     | .agg cs=>match cs[c]? with
       | some .un=>{ st with T:=(s,.agg ((cs.map (klc (IV.rooted (.S s)))).set c y))::dropSlot s st.T }.lentBack ss ys
       | _=>none
     | _=>none
   else none
 | _,_=>none
structure Ret where
 v:IV
 back:List IV
 M:List Qad
 exp:Qad
def Qss:List (Mode×Opd)->Nat->List Nat
 | [],_=>[]
 | (.ld,_)::r,i=>i::Qss r (i+1)
 | _::r,i=>Qss r (i+1)
def isLd (a:Mode×Opd):Bool:=a.1 == .ld
def IV.free1:IV->Bool
 | .bptr ..=>false
 | .fn _ caps=>caps.isEmpty
 | _=>true
def IV.free:IV->Bool
 | .agg cs=>cs.all IV.free1
 | x=>x.free1
def St.callWith (cf:Lab->List Nat->List IV->List Qad->Option Ret) (st:St) (f:Lab) (caps:List IV) (args:List (Mode×Opd)) (pure:Bool):Option (IV×St) :=
 match st.args args with
 | some (vs,st1,fz,ss) =>
   if pure then
    if args.any isLd || !(vs.all IV.free && caps.isEmpty) then none else
    match cf f [] vs [] with
    | some ⟨v,[],[],[]⟩=>if fz then (if Qcr v then some (v,st1) else none) else some (v,st1)
    | _=>none
   else if fz then none else
   match cf f (Qss args 0) (vs++caps) (st1.M++[st1.loc]) with
   | some ⟨v,back,M,exp⟩ =>
     match M.getLast? with
     | some loc =>
       if M.length=st1.M.length+1 then
        match ({ T:=Qc0 st1.T,loc:=loc++exp,M:=M.dropLast }:St).lentBack ss back with
        | some st2=>match exp,v with
          | [],v=>some (v,st2)
          | [_],.bptr l 0 c=>if l=st1.M.length+1 then some (.bptr st1.M.length loc.length c,st2) else none
          | _,_=>none
        | none=>none
       else none
     | none=>none
   | none=>none
 | none=>none
def IV.okLvl (L:Nat):IV->Bool
 | .agg cs=>cs.all IV.isData
 | x=>x.lvl L
def St.news (st:St) (esz:Nat) (y:Opd):Option (List (List IV)×St) :=
 match tk st.T y with
 | (.own e es,T)=>if e=esz/\es.all (·.all IV.isData)=true then some (es,{ st with T:=T }) else none
 | _=>match st.sview (rd st.T y) with
   | some (e,es)=>if (e == esz || es.isEmpty) && es.all (·.all IV.plain1) then some (es,st) else none
   | none=>none
def St.append (st:St) (esz:Nat) (x:Opd) (ys:List (List IV)):Option (IV×St) :=
 match tk st.T x with
 | (.lst e es true,_)=>if ((e == esz || es.isEmpty) && (es.isEmpty || !ys.isEmpty))=true/\es.length+ys.length<=lim then some (.own esz (es++ys),st) else none
 | (.arr r c p e off n true,T)=>if n=0/\ys.length<=lim then some (.own esz ys,{ st with T:=T }) else none
 | (v,T)=>match { st with T:=T }.absorb v with
   | some (.own e es,st)=>if e=esz/\es.length+ys.length<=lim then some (.own esz (es++ys),st) else none
   | _=>none
def Qae (zero:List Value) (n:Nat):List (List IV):=List.replicate n (zero.map cv1)
def IV.okPart:IV->Bool
 | .un | .tup _=>false
 | _=>true
def tkKill:Opd->IV->Bool
 | .t s=>IV.rooted (.S s)
 | _=>fun _=>false
def fillCells (T:Tm) (cs:List IV):List (Nat×Nat×Opd)->Option (List IV×Tm)
 | []=>some (cs,T)
 | (off,sz,o)::r=>match tk T o with
   | (v,T)=>if v.cells.length=sz/\off+sz<=cs.length/\v.okPart=true then
       fillCells T (splice (cs.map (klc (tkKill o))) off v.cells) r else none
def St.fillElems (st:St) (es:List (List IV)) (esz:Nat):List (Nat×Opd)->Option (List (List IV)×St)
 | []=>some (es,st)
 | (i,o)::r=>match tk st.T o with
   | (v,T)=>match { st with T:=T }.absorbs v.wcells with
     | some (cs,st)=>if cs.length=esz/\i < es.length/\cs.all IV.isData=true then st.fillElems (es.set i cs) esz r else none
     | none=>none
def St.loadCells (st:St) (sz:Nat):IV->Option (List IV)
 | .bptr l k c=>match st.box l k with
   | some cs=>match sub cs c sz with
     | some xs=>some (Qg6 (.B l k) (fun i=>(i,[])) c xs)
     | none=>none
   | none=>none
 | .eptr r c p i j=>match st.plc r c p with
   | some (.own _ es)=>match es[i]? with
     | some e=>match sub e j sz with
       | some xs=>some (Qg6 r (fun q=>(c,p++[(i,q)])) j xs)
       | none=>none
     | none=>none
   | _=>none
 | .lptr e j=>sub e j sz
 | _=>none
def St.storeCells (st:St) (a:IV) (ys:List IV):Option St :=
 match a with
 | .bptr l k c=>match st.box l k with
   | some cs=>match sub cs c ys.length with
     | some old=>if ys.all (IV.lvl (l+1)) then
        let st':=st.setBox l k (splice cs c ys)
        some (if old.all IV.isSc && ys.all IV.isSc then st' else { st' with T:=Qce (.B l k) st'.T })
       else none
     | none=>none
   | none=>none
 | .eptr r c p i j=>if !ys.all IV.isData then none else match st.plc r c p with
   | some (.own esz es)=>match es[i]? with
     | some e=>match sub e j ys.length with
       | some old=>match st.setPlc r c p (.own esz (es.set i (splice e j ys))) with
         | some st'=>some (if old.all IV.isSc && ys.all IV.isSc then st' else { st' with T:=Qce r st'.T })
         | none=>none
       | none=>none
     | none=>none
   | _=>none
 | _=>none
def ownZ (e:Nat):IV->IV
 | .lst _ [] true=>.own e []
 | y=>y
def ev (cf:Lab->List Nat->List IV->List Qad->Option Ret) (st:St):K->Option (IV×St)
 | .mv x=>some (rd st.T x,st)
 | .nilo e=>some (.own e [],st)
 | .mvo e x=>some (ownZ e (rd st.T x),st)
 | .asg x=>match tk st.T x with | (v,T)=>some (v,{ st with T:=T })
 | .asgm x=>match tk st.T x with
   | (.agg cs,T)=>match { st with T:=T }.absorbs cs with
     | some (cs,st)=>some (.agg cs,st)
     | none=>none
   | (v,T)=>match { st with T:=T }.absorb v with
     | some (v,st)=>some (v,st)
     | none=>none
 | .clr x zero=>match rd st.T x with
   | .arr r c p _ off n _=>match st.plc r c p with
     | some (.own esz es)=>if off+n<=es.length/\zero.length=esz/\es.all (·.all IV.isSc)/\zero.all Idl.isSc=true then
        match st.setPlc r c p (.own esz (es.take off++Qae zero n++es.drop (off+n))) with
        | some st=>some (.tup [],{ st with T:=Qce r st.T })
        | none=>none
       else none
     | _=>none
   | _=>none
 | .pick c a b=>match rd st.T c with
   | .sc (.bool t)=>some (rd st.T (if t then a else b),st)
   | _=>none
 | .alloc zero=>some (.bptr st.M.length st.loc.length 0,{ st with loc:=st.loc++[zero.map cv1] })
 | .box x=>match tk st.T x with
   | (v,T)=>match { st with T:=T }.absorbs v.wcells with
     | some (cs,st)=>some (.bptr st.M.length st.loc.length 0,{ st with loc:=st.loc++[cs] })
     | none=>none
 | .build zero parts=>match fillCells st.T (zero.map cv1) parts with
   | some (cs,T)=>some (.agg cs,{ st with T:=T })
   | none=>none
 | .bsl esz zero len parts=>match st.fillElems (Qae zero len) esz parts with
   | some (es,st)=>some (.own esz es,st)
   | none=>none
 | .load agg sz a=>match st.loadCells sz (rd st.T a) with
   | some cs=>match pack agg cs with
     | some v=>some (v,st)
     | none=>none
   | none=>none
 | .store sz a x=>match tk st.T x with
   | (v,T) =>
     match { st with T:=T }.absorbs v.wcells with
     | some (cs,st1)=>if cs.length=sz then match st1.storeCells (rd st1.T a) cs with
        | some st2=>some (.un,st2)
        | none=>none
       else none
     | none=>none
 | .storef sz a x=>match tk st.T x with
   | (v,T) =>
     match { st with T:=T }.absorbs v.wcells with
     | some (cs,st1)=>if cs.length=sz/\(Qe4 cs).all IV.plain1=true then match rd st1.T a with
        | .bptr l k c=>match st1.storeCells (.bptr l k c) (Qe4 cs) with
          | some st2=>some (.un,st2)
          | none=>none
        | _=>none
       else none
     | none=>none
 | .nilck x=>match rd st.T x with
   | .bptr l k c=>some (.bptr l k c,st)
   | .eptr r c p i j=>some (.eptr r c p i j,st)
   | .lptr e j=>some (.lptr e j,st)
   | _=>none
 | .bin op x y=>match Jpe op (rd st.T x) (rd st.T y) with
   | some v=>some (v,st)
   | none=>none
 | .eqa neg n x y=>match rd st.T x,rd st.T y with
   | .agg xs,.agg ys=>if xs.length=n then match Qdn xs ys with
      | some b=>some (.sc (.bool (if neg then !b else b)),st)
      | none=>none
     else none
   | _,_=>none
 | .unop op x=>match rd st.T x with
   | .sc v=>match Qek (Op.unary op v) with
     | some v=>if Idl.isSc v then some (.sc v,st) else none
     | none=>none
   | _=>none
 | .conv k x=>match rd st.T x with
   | .sc (.int _ n)=>some (.sc (.int k (k.wrap n)),st)
   | _=>none
 | .mkfn f caps=>if (caps.map (rd st.T)).all IV.isBptr then some (.fn f (caps.map (rd st.T)),st) else none
 | .mksl esz zero len cap=>match Qcc (rd st.T len),Qcc (rd st.T cap) with
   | some l,some c=>if l<=c/\c<=lim then some (.own esz (Qae zero l),st) else none
   | _,_=>none
 | .slc esz x lo hi mx=>match Jm9 (rd st.T x) with
   | some n=>match bound 0 st.T lo,bound n st.T hi with
     | some l,some h=>match mx with
       | none=>match Jfh esz (rd st.T x) l h none with
         | some v=>some (v,st)
         | none=>none
       | some m=>match Qcc (rd st.T m) with
         | some m=>match Jfh esz (rd st.T x) l h (some m) with
           | some v=>some (v,st)
           | none=>none
         | none=>none
     | _,_=>none
   | none=>none
 | .slcs x lo hi=>match rd st.T x with
   | .sc (.string s)=>match bound 0 st.T lo,bound s.size st.T hi with
     | some l,some h=>if l<=h/\h<=s.size then some (.sc (.string (s.extract l h)),st) else none
     | _,_=>none
   | _=>none
 | .fadr off x=>match rd st.T x with
   | .bptr l k c=>some (.bptr l k (c+off),st)
   | .eptr r c p i j=>some (.eptr r c p i (j+off),st)
   | .lptr e j=>some (.lptr e (j+off),st)
   | _=>none
 | .iadr esz x i=>match Qcc (rd st.T i) with
   | some i=>match rd st.T x with
     | .lst e es _=>if e=esz then match es[i]? with
        | some e=>some (.lptr e 0,st)
        | none=>none
       else none
     | .arr r c p e off n _=>if e=esz/\i < n then some (.eptr r c p (off+i) 0,st) else none
     | _=>none
   | none=>none
 | .idxs x i=>match rd st.T x,Qcc (rd st.T i) with
   | .sc (.string s),some i=>match s[i]? with
     | some b=>some (.sc (.int .u8 b.toNat),st)
     | none=>none
   | _,_=>none
 | .extr x i=>match x with
   | .t s=>match Qav st.T s with
     | .tup vs=>match vs[i]? with
       | some v=>some (kl1 (IV.rooted (.S s)) v,{ st with T:=tput (dropSlot s st.T) s (.tup ((vs.set i .un).map (kl1 (IV.rooted (.S s))))) })
       | none=>none
     | _=>none
   | _=>none
 | .call f args pure=>st.callWith cf f [] args pure
 | .callv x args=>match rd st.T x with
   | .fn f caps=>st.callWith cf f caps args false
   | _=>none
 | .len x=>match Jm9 (rd st.T x) with
   | some n=>some (.sc (.int .i64 n),st)
   | none=>none
 | .lens x=>match rd st.T x with
   | .sc (.string s)=>some (.sc (.int .i64 s.size),st)
   | _=>none
 | .app esz x y=>match st.news esz y with
   | some (ys,st)=>match st.append esz x ys with
     | some (v,st)=>some (v,st)
     | none=>none
   | none=>none
 | .halt=>none
 | .strb x=>match st.sview (rd st.T x) with
   | some (e,ys)=>if e=1 \/ ys=[] then match Qea ys with
      | some xs=>some (.sc (.string (Qbj xs)),st)
      | none=>none
     else none
   | none=>none
 | .minmax mn x y=>match rd st.T x,rd st.T y with
   | .sc (.int k a),.sc (.int _ b)=>some (.sc (.int k (if mn then (if b < a then b else a) else (if a < b then b else a))),st)
   | _,_=>none
def Qa1 (cf:Lab->List Nat->List IV->List Qad->Option Ret) (st:St) (o:IOp):Option St :=
 match o.g with
 | none=>match ev cf st o.k with
   | some (v,st')=>match o.dst with
     | some d=>some { st' with T:=tput st'.T d v }
     | none=>some st'
   | none=>none
 | some (s,b)=>match Qav st.T s with
   | .sc (.bool t)=>if t=b then match ev cf st o.k with
      | some (v,st')=>match o.dst with
        | some d=>some { st' with T:=tput st'.T d v }
        | none=>some st'
      | none=>none
     else match o.dst with
      | some d=>some { st with T:=tput st.T d (.tup []) }
      | none=>some st
   | .tup []=>match o.dst with
     | some d=>some { st with T:=tput st.T d (.tup []) }
     | none=>some st
   | _=>none
def Qaf (cf:Lab->List Nat->List IV->List Qad->Option Ret):St->List IOp->Option St
 | st,[]=>some st
 | st,o::r=>match Qa1 cf st o with
   | some st=>Qaf cf st r
   | none=>none
end Go.Idl
namespace Go.Idl
abbrev CF:=Lab->List Nat->List IV->List Qad->Option Ret
inductive IC where
 | skip
 | reg (ops:List IOp) (live:List Nat) (alts:List (List Nat))
 | regd (ops:List IOp) (ord live:List Nat) (alts:List (List Nat))
 | regx (ops:List IOp) (ord live ds:List Nat) (alts:List (List Nat))
 | regw (ops:List IOp) (s t:Nat) (live:List Nat)
 | seq (a b:IC)
 | nilc (ops:List IOp) (x:Opd) (t:Nat) (live:List Nat) (y:IC)
 | nilc2 (ops:List IOp) (x:Opd) (t:Nat) (live:List Nat) (y1 y2:IC)
 | ubx (ops0 ops1:List IOp) (live:List Nat) (y:IC)
 | cond (c:Opd) (a b:IC)
 | block (id:Nat) (b:IC)
 | loop (b:IC)
 | exit (id:Nat)
 | ret
 | rngb (ops:List IOp) (f:Lab) (x:Opd) (g:Nat) (live:List Nat) (bid p q:Nat) (asg body:IC)
 | hole
 | ext (g:CF->List IV->Option IV)
inductive Ex where
 | normal
 | exit (id:Nat)
 | ret
 deriving DecidableEq
inductive Jkf where
 | t (s:Nat)
 | c (a sz:Nat) (agg:Bool)
structure Qar where
 res:List Jkf
 keep:List Nat
 body:IC
def rootOut (live:List Nat):IV->Bool
 | .arr (.S s) _ _ _ _ _ _ | .eptr (.S s) _ _ _ _=>!live.contains s
 | _=>false
def restrict (live:List Nat) (T:Tm):Tm:=live.map fun s=>(s,kl (rootOut live) (Qav T s))
def Qai (ops:List IOp) (p:List Nat):List IOp:=p.filterMap (ops[·]?)
def St.cut (st:St) (live:List Nat):St:={ st with T:=restrict live st.T }
def St.swapS (st:St) (s t:Nat):Option St:=match Qav st.T s with
 | .arr (.S t') 0 [] _ 0 n false=>match Qav st.T t with
   | .own e es=>if t'=t/\n=es.length/\s ≠ t then some { st with T:=(t,.arr (.S s) 0 [] e 0 n false)::(s,.own e es)::dropSlot t st.T } else none
   | _=>none
 | _=>none
open Classical in
noncomputable def Quq (cf:CF) (st:St) (ops:List IOp) (live:List Nat) (alts:List (List Nat)):Option St :=
 match Qaf cf st ops with
 | some st1=>if ∀ p ∈ alts,∃ st2,Qaf cf st (Qai ops p)=some st2/\st2.cut live=st1.cut live then some (st1.cut live) else none
 | none=>none
def Qff:K->Bool
 | .mv _ | .nilo _ | .pick .. | .load .. | .nilck _ | .bin .. | .eqa .. | .unop .. | .conv .. | .mkfn .. | .slc .. | .slcs .. | .fadr .. | .iadr .. | .idxs .. | .len _ | .lens _ | .minmax .. | .mksl ..=>true
 | _=>false
def Qdt:K->Bool
 | .call _ args true=>args.all fun a=>a.1 == .val || a.1 == .rv
 | k=>Qff k
def Qio (k:K):Bool:=Qdt k && match k with
 | .mksl .. | .nilo _=>false
 | _=>true
def Jby:K->Bool
 | .alloc _=>true
 | _=>false
def swK (k:K):Bool:=Qdt k || Jby k
def Qlb (st:St) (ops:List IOp):Bool:=ops.all fun x=>!swK x.k || (match x.dst with
 | some d=>!(Qav st.T d).holds
 | none=>true)
def Qg0 (cf:CF):St->List IOp->Prop
 | _,[]=>True
 | st,x::r=>∀ st1,Qa1 cf st x=some st1->(Qio x.k=true->∀ d,x.dst=some d->(Qav st1.T d).holds=false)/\Qg0 cf st1 r
def swN (k1 k2 k:Nat):Nat:=if k=k1 then k2 else if k=k2 then k1 else k
def IV.swb (L k1 k2:Nat):IV->IV
 | .bptr l k c=>.bptr l (if l=L then swN k1 k2 k else k) c
 | x=>x
def IV.noK (L k1 k2:Nat):IV->Bool
 | .bptr l k _=>!(l == L && (k == k1 || k == k2))
 | .fn _ caps=>caps.all fun
   | .bptr l k _=>!(l == L && (k == k1 || k == k2))
   | _=>true
 | _=>true
def IV.flat:IV->Bool
 | .sc _ | .lst .. | .own .. | .un | .bptr ..=>true
 | _=>false
def St.swB (st:St) (k1 k2:Nat):Option St :=
 if k1 < st.loc.length/\k2 < st.loc.length/\st.T.all (fun p=>p.2.flat)=true/\st.loc.all (·.all (IV.noK st.M.length k1 k2))=true then
  some { st with T:=st.T.map fun p=>(p.1,p.2.swb st.M.length k1 k2),loc:=(st.loc.set k1 (st.loc.getD k2 [])).set k2 (st.loc.getD k1 []) }
 else none
def St.alike (n:Nat) (st st':St):Prop:=st=st' \/ ∃ k1 k2,n<=k1/\n<=k2/\st.swB k1 k2=some st'
open Classical in
noncomputable def Qpu (cf:CF) (st:St) (ops:List IOp) (ord live:List Nat) (alts:List (List Nat)):Option St :=
 match Qaf cf st (Qai ops ord) with
 | some st1=>if Qlb st ops=true/\Qg0 cf st (Qai ops ord)/\∀ p ∈ alts,Qg0 cf st (Qai ops p)/\∃ st2,Qaf cf st (Qai ops p)=some st2/\(st2.cut live).alike st.loc.length (st1.cut live) then some (st1.cut live) else none
 | none=>none
def nr1 (ds:List Nat):IV->Bool
 | .arr (.S s) _ _ _ _ _ _ | .eptr (.S s) _ _ _ _=>!ds.contains s
 | _=>true
def nrA (ds:List Nat):IV->Bool
 | .agg cs=>cs.all (nr1 ds)
 | x=>nr1 ds x
def nrV (ds:List Nat):IV->Bool
 | .tup vs=>vs.all (nrA ds)
 | x=>nrA ds x
def effK:K->Bool
 | .app .. | .bsl .. | .build ..=>true
 | _=>false
def Jd5:IV->Bool
 | .arr .. | .eptr ..=>false
 | _=>true
def noArr:IV->Bool
 | .agg cs=>cs.all Jd5
 | .tup _=>false
 | x=>Jd5 x
def Jd6 (T:Tm):Opd->Bool
 | .t s=>noArr (Qav T s)
 | _=>true
def effOk (T:Tm):K->Bool
 | .app _ x _=>Jd6 T x
 | .bsl _ _ _ ps=>ps.all fun p=>Jd6 T p.2
 | _=>true
def qX (k:K):Bool:=Qdt k || effK k
def Jr9 (ds:List Nat) (T:Tm) (x:IOp):Bool:=effOk T x.k || (match x.dst with
 | some d=>!ds.contains d
 | none=>false)
def unV:IV->Bool
 | .un=>true
 | _=>false
def Jdl (st:St) (ops:List IOp):Bool:=ops.all fun x=>!qX x.k || (match x.dst with
 | some d=>unV (Qav st.T d)
 | none=>true)
def okX (cf:CF) (ds:List Nat):St->List IOp->Prop
 | st,[]=>∀ s,nrV ds (Qav st.T s)=true
 | st,x::r=>(∀ s,nrV ds (Qav st.T s)=true)/\Jr9 ds st.T x=true/\∀ st1,Qa1 cf st x=some st1->(Qio x.k=true->∀ d,x.dst=some d->(Qav st1.T d).holds=false)/\okX cf ds st1 r
open Classical in
noncomputable def Qwy (cf:CF) (st:St) (ops:List IOp) (ord live ds:List Nat) (alts:List (List Nat)):Option St :=
 match Qaf cf st (Qai ops ord) with
 | some st1=>if Jdl st ops=true/\okX cf ds st (Qai ops ord)/\∀ p ∈ alts,okX cf ds st (Qai ops p)/\∃ st2,Qaf cf st (Qai ops p)=some st2/\st2.cut live=st1.cut live then some (st1.cut live) else none
 | none=>none
def Qlq:IV->Option Bool
 | .lst _ es _=>some es.isEmpty
 | .arr _ _ _ _ _ n _=>some (n == 0)
 | _=>none
def St.flag (st:St) (t:Nat) (b:Bool) (live:List Nat):St:={ st with T:=restrict live (tput st.T t (.sc (.bool b))) }
def Jbn (f:St->Option (Ex×St)):Nat->St->Option (Ex×St)
 | 0,_=>none
 | n+1,st=>match f st with
   | some (.normal,st)=>Jbn f n st
   | r=>r
open Classical in
noncomputable def Qf4 (o:Option St) (x:Opd) (t:Nat) (live:List Nat) (f:St->Option (Ex×St)):Option (Ex×St):=match o with
 | some st1=>match Qlq (rd st1.T x) with
   | some false=>f (st1.flag t false live)
   | some true=>match f (st1.flag t true live),f (st1.flag t false live) with
     | some r,some r'=>if r=r' then some r else none
     | _,_=>none
   | none=>none
 | none=>none
def seqX (f g:St->Option (Ex×St)) (st:St):Option (Ex×St):=match f st with
 | some (.normal,st)=>g st
 | r=>r
def Qyk:List IOp->List IOp->Option (Nat×Nat×Nat×Nat×Nat×List IOp×List IOp)
 | ⟨some t,none,.box (.t s)⟩::r0,⟨some a,none,.fadr off (.t t')⟩::⟨some d,none,.load false 1 (.t a')⟩::r1 =>
   if t'=t/\a'=a/\s ≠ t/\s ≠ a/\s ≠ d/\r0.all (fun o=>o.dst != some t && o.dst != some s)=true then some (s,t,off,a,d,r0,r1) else none
 | _,_=>none
def Qji (cf:CF) (st:St) (ops0 ops1:List IOp):Option St:=match Qyk ops0 ops1 with
 | some (s,t,off,a,d,r0,r1)=>match Qaf cf { st with T:=tput st.T t .un } r0 with
   | some st1=>match rd (tput st1.T a .un) (.t s) with
     | .agg xs=>match sub xs off 1 with
       | some [x]=>Qaf cf { st1 with T:=tput (tput st1.T a .un) d x } r1
       | _=>none
     | _=>none
   | none=>none
 | none=>none
def Jmm:IV->Bool
 | .sc _ | .lst .. | .un | .bptr ..=>true
 | _=>false
def Qn1 (T:Tm):Bool:=T.all fun p=>Jmm p.2
def iv (n:Int):Value:=.int .i64 n
def Qih:List (List IV)->Option (List Int)
 | []=>some []
 | [.sc (.int .i64 n)]::r=>match Qih r with
   | some xs=>some (n::xs)
   | none=>none
 | _=>none
def Qhm (fa fb:St->Option (Ex×St)) (T:Tm) (p q:Nat):List Int->St->Option (Ex×St)
 | [],st=>some (.normal,{ st with T:=T })
 | x::r,st=>match fa { st with T:=tput (tput T p (.sc (iv r.length))) q (.sc (iv x)) } with
   | some (.normal,s1)=>match fb s1 with
     | some (.normal,s2)=>Qhm fa fb T p q r { s2 with T:=T }
     | some (.exit e,s2)=>some (.exit e,{ s2 with T:=T })
     | _=>none
   | _=>none
def Qqh (cf:CF) (st:St) (ops:List IOp) (x:Opd) (g:Nat) (live:List Nat) (bid p q:Nat) (fa fb:St->Option (Ex×St)):Option (Ex×St) :=
 match Qaf cf st ops with
 | some s0=>let s1:St:={ s0 with T:=tput s0.T g .un }.cut live
   match rd s1.T x with
   | .lst 1 es _=>match Qih es with
     | some xs=>if Qn1 s1.T=true/\xs.length < 2 ^ 40 then match Qhm fa fb s1.T p q xs.reverse s1 with
        | some (.exit e,s2)=>some (if e=bid then .normal else .exit e,s2)
        | r=>r
       else none
     | none=>none
   | _=>none
 | none=>none
noncomputable def exec (cf:CF) (fuel:Nat):IC->St->Option (Ex×St)
 | .skip,st=>some (.normal,st)
 | .reg ops live alts,st=>match Quq cf st ops live alts with
   | some st=>some (.normal,st)
   | none=>none
 | .regd ops ord live alts,st=>match Qpu cf st ops ord live alts with
   | some st=>some (.normal,st)
   | none=>none
 | .regx ops ord live ds alts,st=>match Qwy cf st ops ord live ds alts with
   | some st=>some (.normal,st)
   | none=>none
 | .regw ops s t live,st=>match Qaf cf st ops with
   | some st1=>match st1.swapS s t with
     | some st2=>some (.normal,st2.cut live)
     | none=>none
   | none=>none
 | .seq a b,st=>match exec cf fuel a st with
   | some (.normal,st)=>exec cf fuel b st
   | r=>r
 | .nilc ops x t live y,st=>Qf4 (Qaf cf st ops) x t live (exec cf fuel y)
 | .nilc2 ops x t live y1 y2,st=>Qf4 (Qaf cf st ops) x t live (seqX (exec cf fuel y1) (exec cf fuel y2))
 | .ubx ops0 ops1 live y,st=>match Qji cf st ops0 ops1 with
   | some st1=>exec cf fuel y (st1.cut live)
   | none=>none
 | .cond c a b,st=>match rd st.T c with
   | .sc (.bool t)=>if t then exec cf fuel a st else exec cf fuel b st
   | _=>none
 | .block id b,st=>match exec cf fuel b st with
   | some (.exit i,st)=>if i=id then some (.normal,st) else some (.exit i,st)
   | r=>r
 | .loop b,st=>Jbn (exec cf fuel b) fuel st
 | .exit id,st=>some (.exit id,st)
 | .ret,st=>some (.ret,st)
 | .rngb ops _ x g live bid p q asg body,st=>Qqh cf st ops x g live bid p q (exec cf fuel asg) (exec cf fuel body)
 | .hole,_=>none
 | .ext g,st=>match g cf (st.T.map (·.2)) with
   | some v=>some (.ret,{ st with T:=[(0,v)] })
   | none=>none
def St.retv (st:St):Jkf->Option (IV×St)
 | .t s=>match kl (IV.rooted (.S s)) (Qav st.T s) with
   | .agg cs=>match ({ st with T:=dropSlot s st.T }:St).absorbs cs with
     | some (cs,st)=>some (.agg cs,st)
     | none=>none
   | x=>({ st with T:=dropSlot s st.T }:St).absorb x
 | .c a sz ag=>match Qav st.T a with
   | .bptr l k c=>match st.box l k with
     | some cs=>match sub cs c sz with
       | some xs=>if xs.all IV.isData then match pack ag xs with
          | some v=>some (v,{ st.setBox l k (splice cs c (List.replicate sz .un)) with T:=Qce (.B l k) st.T })
          | none=>none
         else none
       | none=>none
     | none=>none
   | _=>none
def St.retvs (st:St):List Jkf->Option (List IV×St)
 | []=>some ([],st)
 | r::rs=>match st.retv r with
   | some (v,st)=>match st.retvs rs with
     | some (vs,st)=>some (v::vs,st)
     | none=>none
   | none=>none
def Qbt:List IV->IV
 | [v]=>v
 | vs=>.tup vs
def St.backs (st:St):List Nat->Option (List IV×St)
 | []=>some ([],st)
 | s::r=>match Qav st.T s with
   | .own e es=>match ({ st with T:=dropSlot s st.T }:St).backs r with
     | some (ys,st)=>some (.own e es::ys,st)
     | none=>none
   | .agg cs=>if cs.all IV.isData then match ({ st with T:=dropSlot s st.T }:St).backs r with
     | some (ys,st)=>some (.agg cs::ys,st)
     | none=>none
     else none
   | _=>none
def St.leave (st:St) (v:IV) (back:List IV):Option Ret :=
 match v with
 | .bptr l k c=>if l=st.M.length then match st.loc[k]? with
    | some cs=>if cs.all IV.isData then some ⟨.bptr l 0 c,back,st.M,[cs]⟩ else none
    | none=>none
   else if l < st.M.length then some ⟨.bptr l k c,back,st.M,[]⟩ else none
 | .agg cs=>if cs.all IV.isData then some ⟨.agg cs,back,st.M,[]⟩ else none
 | .tup vs=>if vs.all (fun | .agg cs=>cs.all IV.isData | x=>x.lvl st.M.length) then some ⟨.tup vs,back,st.M,[]⟩ else none
 | v=>if v.lvl st.M.length then some ⟨v,back,st.M,[]⟩ else none
noncomputable def Qx7 (cf:CF) (fuel:Nat) (f:Qar) (lent:List Nat) (args:List IV) (M:List Qad):Option Ret :=
 if !lent.all f.keep.contains then none else
 match exec cf fuel f.body { T:=args.zipIdx.map fun (v,i)=>(i,v),loc:=[],M:=M } with
 | some (.exit _,_)=>none
 | some (_,st)=>match st.retvs f.res with
   | some (vs,st)=>match st.backs lent with
     | some (back,st)=>st.leave (Qbt vs) back
     | none=>none
   | none=>none
 | none=>none
abbrev Tbl:=Lab->Option Qar
noncomputable def Qb1 (tb:Tbl):Nat->CF
 | 0,_,_,_,_=>none
 | n+1,f,lent,args,M=>match tb f with
   | some fn=>Qx7 (Qb1 tb n) n fn lent args M
   | none=>none
def tbOf:List (Nat×Qar)->Tbl
 | [],_=>none
 | (k,f)::r,l=>if k=l then some f else tbOf r l
end Go.Idl
namespace Go.Idl
open Go
inductive RDs (w:World) (F:Nat->Prop):List IV->List Value->List Nat->Prop
 | nil:RDs w F [] [] []
 | sc {v:Value} {xs vs fp} (h:Idl.isSc v=true) (t:RDs w F xs vs fp):RDs w F (.sc v::xs) (v::vs) fp
 | un {v:Value} {xs vs fp} (t:RDs w F xs vs fp):RDs w F (.un::xs) (v::vs) fp
 | lst0 {e:Nat} {clip:Bool} {a:Option Addr} {cap:Nat} {xs vs fp} (h:clip=true->cap=0) (t:RDs w F xs vs fp) :
    RDs w F (.lst e [] clip::xs) (.slice a 0 cap::vs) fp
 | lst {e:Nat} {es:List (List IV)} {clip:Bool} {b o cap:Nat} {C:Array Value} {ty:TypeId} {fr:Nat×Nat} {xs vs fp}
    (hF:F b) (hb:w.heap[b]? = some (.cells C ty fr)) (hd:RDs w F es.flatten ((C.toList.drop o).take (es.length * e)) [])
    (he:∀ x ∈ es,x.length=e) (hc:clip=true->cap=es.length) (hn:es.length<=cap) (t:RDs w F xs vs fp) :
    RDs w F (.lst e es clip::xs) (.slice (some ⟨b,o,none⟩) es.length cap::vs) fp
 | own0 {e:Nat} {a:Option Addr} {xs vs fp} (t:RDs w F xs vs fp):RDs w F (.own e []::xs) (.slice a 0 0::vs) fp
 | own {e:Nat} {es:List (List IV)} {b o cap:Nat} {C:Array Value} {ty:TypeId} {fp1 xs vs fp}
    (hb:w.heap[b]? = some (.cells C ty (0,0))) (hd:RDs w F es.flatten ((C.toList.drop o).take (es.length * e)) fp1)
    (he:∀ x ∈ es,x.length=e) (hn:es.length<=cap/\0 < cap) (ho:o+cap * e<=C.size) (t:RDs w F xs vs fp) :
    RDs w F (.own e es::xs) (.slice (some ⟨b,o,none⟩) es.length cap::vs) (b::(fp1++fp))
namespace RDs
variable {w w':World} {F F':Nat->Prop}
theorem frame {xs vs fp} (h:RDs w F xs vs fp) (hfp:∀ b ∈ fp,w'.heap[b]? = w.heap[b]?) (hF:∀ b,F b->w'.heap[b]? = w.heap[b]?)
 (hFF:∀ b,F b->F' b):RDs w' F' xs vs fp:=by
 induction h with
 | nil=>exact .nil
 | sc h t ih=>exact .sc h (ih hfp)
 | un t ih=>exact .un (ih hfp)
 | lst0 h t ih=>exact .lst0 h (ih hfp)
 | lst hF1 hb hd he hc hn t ihd iht =>
   exact .lst (hFF _ hF1) ((hF _ hF1).trans hb) (ihd (by simp)) he hc hn (iht hfp)
 | own0 t ih=>exact .own0 (ih hfp)
 | own hb hd he hn ho t ihd iht =>
   refine .own ((hfp _ (by simp)).trans hb) (ihd fun b hb=>hfp b (by simp [hb])) he hn ho (iht fun b hb=>hfp b (by simp [hb]))
theorem len {xs vs fp} (h:RDs w F xs vs fp):xs.length=vs.length:=by
 induction h <;> simp_all
theorem append {xs vs fp} (h:RDs w F xs vs fp) {ys us fq} (h':RDs w F ys us fq):RDs w F (xs++ys) (vs++us) (fp++fq):=by
 induction h with
 | nil=>exact h'
 | sc h t ih=>exact .sc h ih
 | un t ih=>exact .un ih
 | lst0 h t ih=>exact .lst0 h ih
 | lst hF1 hb hd he hc hn t _ iht=>exact .lst hF1 hb hd he hc hn iht
 | own0 t ih=>exact .own0 ih
 | own hb hd he hn ho t _ iht=>have:=RDs.own hb hd he hn ho iht;simpa [Kal] using this
theorem cons_inv {x xs vs fp} (h:RDs w F (x::xs) vs fp):∃ v us f1 f2,vs=v::us/\fp=f1++f2/\RDs w F [x] [v] f1/\RDs w F xs us f2:=by
 cases h with
 | sc h t=>exact ⟨_,_,[],_,rfl,rfl,.sc h .nil,t⟩
 | un t=>exact ⟨_,_,[],_,rfl,rfl,.un .nil,t⟩
 | lst0 h t=>exact ⟨_,_,[],_,rfl,rfl,.lst0 h .nil,t⟩
 | lst hF1 hb hd he hc hn t=>exact ⟨_,_,[],_,rfl,rfl,.lst hF1 hb hd he hc hn .nil,t⟩
 | own0 t=>exact ⟨_,_,[],_,rfl,rfl,.own0 .nil,t⟩
 | own hb hd he hn ho t=>exact ⟨_,_,_,_,rfl,(by simp),.own (fp:=[]) hb hd he hn ho .nil,t⟩
theorem cons {x v f1 xs vs f2} (h:RDs w F [x] [v] f1) (t:RDs w F xs vs f2):RDs w F (x::xs) (v::vs) (f1++f2):=h.append t
theorem split {xs ys vs fp} (h:RDs w F (xs++ys) vs fp):∃ us vs' f1 f2,vs=us++vs'/\fp=f1++f2/\RDs w F xs us f1/\RDs w F ys vs' f2:=by
 induction xs generalizing vs fp with
 | nil=>exact ⟨[],vs,[],fp,rfl,rfl,.nil,h⟩
 | cons x xs ih =>
   obtain ⟨v,us,f1,f2,rfl,rfl,h1,h2⟩:=cons_inv h;obtain ⟨us',vs',g1,g2,rfl,rfl,h3,h4⟩:=ih h2;exact ⟨v::us',vs',f1++g1,g2,rfl,by simp,h1.cons h3,h4⟩
theorem at_ {xs vs fp i x} (h:RDs w F xs vs fp) (hi:xs[i]? = some x):∃ v f1 f f2,vs[i]? = some v/\fp=f1++(f++f2)/\RDs w F [x] [v] f /\
 ∀ w' F' y u g,(∀ b,b ∈ f1++f2->w'.heap[b]? = w.heap[b]?)->(∀ b,F b->w'.heap[b]? = w.heap[b]?)->(∀ b,F b->F' b)->RDs w' F' [y] [u] g->RDs w' F' (xs.set i y) (vs.set i u) (f1++(g++f2)):=by
 have hlt:i < xs.length:=by
  rcases Kbw i xs.length with h | h
  . exact h
  . simp [Kar h] at hi
 have hx:xs[i]=x:=by simpa [Kag hlt] using hi
 have hsp:xs=xs.take i++(x::xs.drop (i+1)):=by
  rw [<- hx,List.getElem_cons_drop,Kcg]
 rw [hsp] at h;obtain ⟨us,vs',f1,f2,rfl,rfl,h1,h2⟩:=split h;obtain ⟨v,us',g1,g2,rfl,rfl,h3,h4⟩:=cons_inv h2;have hl:us.length=i:=by rw [<- h1.len];simp;omega
 refine ⟨v,f1,g1,g2,by simp [<- hl],rfl,h3,fun w' F' y u g hag hF hFF hy=>?_⟩;have e1:xs.set i y=xs.take i++(y::xs.drop (i+1)):=by
  rw [List.set_eq_take_append_cons_drop,if_pos hlt]
 have e2:(us++v::us').set i u=us++(u::us'):=by
  rw [Kcl _ _ (by omega)];simp [hl]
 rw [e1,e2];exact (h1.frame (fun b hb=>hag b (by simp [hb])) hF hFF).append (hy.cons (h4.frame (fun b hb=>hag b (by simp [hb])) hF hFF))
theorem det {xs vs f g} (h:RDs w F xs vs f) (h':RDs w F xs vs g):f=g:=by
 induction h generalizing g with
 | nil=>cases h';rfl
 | sc _ t ih=>cases h';exact ih ‹_›
 | un t ih=>cases h';exact ih ‹_›
 | lst0 _ t ih =>
   obtain ⟨_,_,f1,f2,h1,rfl,h3,h4⟩:=cons_inv h';cases h1;rw [<- ih h4];generalize hx:IV.lst _ _ _=x at h3;generalize hv:Value.slice _ _ _=v at h3;cases h3 with
   | lst0 _ t=>cases t;rfl
   | lst hF hb hd he hc hn t=>cases t;rfl
   | _=>cases hx
 | lst _ _ _ _ _ _ t _ ih =>
   obtain ⟨_,_,f1,f2,h1,rfl,h3,h4⟩:=cons_inv h';cases h1;rw [<- ih h4];generalize hx:IV.lst _ _ _=x at h3;generalize hv:Value.slice _ _ _=v at h3;cases h3 with
   | lst0 _ t=>cases t;rfl
   | lst hF hb hd he hc hn t=>cases t;rfl
   | _=>cases hx
 | own0 t ih =>
   obtain ⟨_,_,f1,f2,h1,rfl,h3,h4⟩:=cons_inv h';cases h1;rw [<- ih h4];generalize hx:IV.own _ []=x at h3;generalize hv:Value.slice _ 0 0=v at h3;cases h3 with
   | own0 t=>cases t;rfl
   | own hb hd he hn ho t=>simp only [Value.slice.injEq] at hv;omega
   | _=>cases hx
 | own hb hd he hn ho t ihd iht =>
   obtain ⟨_,_,f1,f2,h1,rfl,h3,h4⟩:=cons_inv h';cases h1;rw [<- iht h4];generalize hx:IV.own _ _=x at h3;generalize hv:Value.slice _ _ _=v at h3;cases h3 with
   | own0 t=>simp only [Value.slice.injEq] at hv;omega
   | own hb' hd' he' hn' ho' t' =>
     cases hx;simp only [Value.slice.injEq,Kaa,Addr.mk.injEq,and_true,Kfe] at hv;obtain ⟨⟨rfl,rfl⟩,rfl⟩:=hv;rw [hb] at hb';cases hb';cases t';rw [ihd hd'];simp
   | _=>cases hx
theorem un_nil {v f} (h:RDs w F [.un] [v] f):f=[]:=by
 cases h with
 | un t=>cases t;rfl
theorem own_inv {e es v f} (h:RDs w F [.own e es] [v] f):(es=[]/\f=[]/\∃ a,v=.slice a 0 0) \/
 (∃ b o cap C ty fp1,v=.slice (some ⟨b,o,none⟩) es.length cap/\f=b::fp1/\w.heap[b]? = some (.cells C ty (0,0)) /\
   RDs w F es.flatten ((C.toList.drop o).take (es.length * e)) fp1/\(∀ x ∈ es,x.length=e)/\(es.length<=cap/\0 < cap)/\o+cap * e<=C.size):=by
 cases h with
 | own0 t=>cases t;exact .inl ⟨rfl,rfl,_,rfl⟩
 | own hb hd he hn ho t=>cases t;exact .inr ⟨_,_,_,_,_,_,rfl,by simp,hb,hd,he,hn,ho⟩
theorem lst_inv {e es c v f} (h:RDs w F [.lst e es c] [v] f):f=[]/\((es=[]/\∃ a cap,v=.slice a 0 cap/\(c=true->cap=0)) \/
 (∃ b o cap C ty fr,v=.slice (some ⟨b,o,none⟩) es.length cap/\F b/\w.heap[b]? = some (.cells C ty fr) /\
   RDs w F es.flatten ((C.toList.drop o).take (es.length * e)) []/\(∀ x ∈ es,x.length=e)/\(c=true->cap=es.length)/\es.length<=cap)):=by
 cases h with
 | lst0 hh t=>cases t;exact ⟨rfl,.inl ⟨rfl,_,_,rfl,hh⟩⟩
 | lst hF1 hb hd he hc hn t=>cases t;exact ⟨rfl,.inr ⟨_,_,_,_,_,_,rfl,hF1,hb,hd,he,hc,hn⟩⟩
end RDs
def Qci (w:World):IV->Value->Qg8->Option (IV×Value)
 | x,v,[]=>some (x,v)
 | .own e es,.slice (some a) _ _,(i,j)::p=>match es[i]? with
   | some el=>match el[j]? with
     | some y=>match w.cell? ⟨a.block,a.off+i * e+j,none⟩ with
       | some u=>Qci w y u p
       | none=>none
     | none=>none
   | none=>none
 | _,_,_::_=>none
theorem Qdg {es:List (List IV)} {e i j:Nat} {el:List IV} {y:IV} (he:∀ x ∈ es,x.length=e) (hi:es[i]? = some el) (hj:el[j]? = some y) :
 es.flatten[i * e+j]? = some y/\i < es.length/\j < e:=by
 induction es generalizing i with
 | nil=>simp at hi
 | cons x xs ih =>
   have hx:=he x (by simp);cases i with
   | zero =>
     simp at hi;subst hi;have hjl:j < x.length:=by
      rcases Kbw j x.length with h | h
      . exact h
      . simp [Kar h] at hj
     refine ⟨?_,by simp,by omega⟩;rw [Kca,Kba (by omega)];simpa using hj
   | succ i =>
     simp at hi;obtain ⟨h1,h2,h3⟩:=ih (fun y hy=>he y (by simp [hy])) hi;refine ⟨?_,by simp;omega,h3⟩;rw [Kca,Kat (by rw [hx,Kbz];omega)];rw [hx,show (i+1) * e+j - e=i * e+j by rw [Kbz];omega];exact h1
theorem Quw {es:List (List IV)} {e i j:Nat} {el:List IV} {y:IV} (he:∀ x ∈ es,x.length=e) (hi:es[i]? = some el) (hj:j < e) :
 (es.set i (el.set j y)).flatten=es.flatten.set (i * e+j) y:=by
 induction es generalizing i with
 | nil=>simp at hi
 | cons x xs ih =>
   have hx:=he x (by simp);cases i with
   | zero =>
     simp at hi;subst hi;simp only [List.set_cons_zero,Kca,Nat.zero_mul,Nat.zero_add];rw [List.set_append_left _ _ (by omega)]
   | succ i =>
     simp at hi;simp only [List.set_cons_succ,Kca];rw [ih (fun y hy=>he y (by simp [hy])) hi,Kcl _ _ (by rw [hx,Kbz];omega)];rw [hx,show (i+1) * e+j - e=i * e+j by rw [Kbz];omega]
theorem Qvf {es:List (List IV)} {e i:Nat} {el:List IV} (he:∀ x ∈ es,x.length=e) (hl:el.length=e):∀ x ∈ es.set i el,x.length=e:=by
 intro x hx;rcases Kch hx with h | h
 . exact he x h
 . subst h;exact hl
theorem Qau {w:World} {b:Nat} {C:Array Value} {ty:TypeId} {fr:Nat×Nat} (hb:w.heap[b]? = some (.cells C ty fr)) (k:Nat):w.cell? ⟨b,k,none⟩=C[k]?:=by
 simp [World.cell?,hb]
theorem Qam {C:Array Value} {o n k:Nat} (hk:k < n):((C.toList.drop o).take n)[k]? = C[o+k]?:=by
 rw [Kbg hk,Kbp];simp
theorem RDs.fol {w:World} {F:Nat->Prop}:∀ {p:Qg8} {x:IV} {v:Value} {f:List Nat} {y:IV},RDs w F [x] [v] f->Idl.fol x p=some y ->
 ∃ u f1 g f2,Qci w x v p=some (y,u)/\f=f1++(g++f2)/\RDs w F [y] [u] g /\
   ∀ w' F' y' g',(∀ b,b ∈ f1++f2->w'.heap[b]? = w.heap[b]?)->(∀ b,F b->w'.heap[b]? = w.heap[b]?)->(∀ b,F b->F' b)->RDs w' F' [y'] [u] g' ->
     ∃ x',Quz x p y'=some x'/\RDs w' F' [x'] [v] (f1++(g'++f2))/\Qci w' x' v p=some (y',u)
 | [],x,v,f,y,h,hy=>by
   simp only [Idl.fol,Kaa] at hy;subst hy;exact ⟨v,[],f,[],rfl,by simp,h,fun w' F' y' g' _ _ _ h'=>⟨y',rfl,by simpa using h',rfl⟩⟩
 | (i,j)::p,x,v,f,y,h,hy=>by
   cases x with
   | own e es =>
     simp only [Idl.fol] at hy;split at hy
     . rename_i el hi;split at hy
       . rename_i z hj;rcases RDs.own_inv h with ⟨rfl,_,_⟩ | ⟨b,o,cap,C,ty,fp1,rfl,rfl,hb,hd,he,hn,ho⟩
         . simp at hi
         obtain ⟨hfl,hil,hje⟩:=Qdg he hi hj;obtain ⟨u,f1,g,f2,hu,rfl,hz,hput⟩:=hd.at_ hfl
         have hlt:i * e+j < es.length * e:=by
          have:(i+1) * e<=es.length * e:=Kbh _ hil;rw [Kbz] at this;omega
         rw [Qam hlt] at hu;obtain ⟨u',g1,g',g2,hf,rfl,hy',hput'⟩:=RDs.fol (p:=p) hz hy;have hcell:w.cell? ⟨b,o+i * e+j,none⟩=some u:=by rw [Qau hb,<- hu,Kcq]
         refine ⟨u',b::(f1++g1),g',g2++f2,?_,by simp,hy',?_⟩
         . simp only [Qci,hi,hj,hcell,hf]
         intro w' F' y' gn hag hF hFF hyn;obtain ⟨z',hz',hRz,hfz⟩:=hput' w' F' y' gn (fun b hb=>hag b (by simp at hb |-;rcases hb with h | h <;> simp [h])) hF hFF hyn;refine ⟨.own e (es.set i (el.set j z')),?_,?_,?_⟩
         . simp only [Quz,hi,hj,hz']
         . have hb':w'.heap[b]? = some (.cells C ty (0,0)):=(hag b (by simp)).trans hb;have hd':=hput w' F' z' u _ (fun b hb=>hag b (by simp at hb |-;rcases hb with h | h <;> simp [h])) hF hFF hRz;have hset:((C.toList.drop o).take (es.length * e)).set (i * e+j) u=(C.toList.drop o).take (es.length * e):=by
            apply Kdc;intro k;by_cases hk:i * e+j=k
            . subst hk;rw [Kbl (by have h1:=(Kem.1 hu).1;have h2:C.toList.length=C.size:=Keq;simp only [Kas,Kco,h2];omega),Qam hlt,hu]
            . rw [Kbi hk]
           rw [hset] at hd';rw [<- Quw (y:=z') he hi hje] at hd';have hl':(es.set i (el.set j z')).length=es.length:=by simp
           have:=RDs.own (w:=w') (F:=F') (e:=e) (es:=es.set i (el.set j z')) (xs:=[]) (vs:=[]) (fp:=[]) hb' (by rw [hl'];exact hd')
            (Qvf he (by rw [List.length_set];exact he el (Kbn hi))) (cap:=cap) (by rw [hl'];exact hn) (o:=o) ho .nil
           rw [hl'] at this;simpa using this
         . have hb':w'.heap[b]? = some (.cells C ty (0,0)):=(hag b (by simp)).trans hb;have hcell':w'.cell? ⟨b,o+i * e+j,none⟩=some u:=by rw [Qau hb',<- hu,Kcq]
           have hjl:j < el.length:=by rw [he el (Kbn hi)];exact hje
           simp only [Qci,Kbl hil,Kbl hjl,hcell',hfz]
       . cases hy
     . cases hy
   | _=>simp [Idl.fol] at hy
end Go.Idl
namespace Go.Idl
open Go
inductive Cat (R:IV->Value->List Nat->Prop):List IV->List Value->List Nat->Prop
 | nil:Cat R [] [] []
 | cons {x v f xs vs fp} (h:R x v f) (t:Cat R xs vs fp):Cat R (x::xs) (v::vs) (f++fp)
namespace Cat
variable {R R':IV->Value->List Nat->Prop}
theorem mono {xs vs fp} (h:Cat R xs vs fp) (hr:∀ x v f,(∀ b ∈ f,b ∈ fp)->R x v f->x ∈ xs->R' x v f):Cat R' xs vs fp:=by
 induction h with
 | nil=>exact .nil
 | cons h t ih=>exact .cons (hr _ _ _ (fun b hb=>by simp [hb]) h (by simp)) (ih fun x v f hf h hx=>hr x v f (fun b hb=>by simp [hf b hb]) h (by simp [hx]))
theorem nil_inv {vs f} (h:Cat R [] vs f):vs=[]/\f=[]:=by cases h;exact ⟨rfl,rfl⟩
theorem len {xs vs fp} (h:Cat R xs vs fp):xs.length=vs.length:=by induction h <;> simp_all
theorem at_ {xs vs fp i x} (h:Cat R xs vs fp) (hi:xs[i]? = some x):∃ v f1 f f2,vs[i]? = some v/\fp=f1++(f++f2)/\R x v f /\
 ∀ (R':IV->Value->List Nat->Prop) y u g,(∀ x v f,(∀ b ∈ f,b ∈ f1++f2)->R x v f->R' x v f)->R' y u g->Cat R' (xs.set i y) (vs.set i u) (f1++(g++f2)):=by
 induction h generalizing i with
 | nil=>simp at hi
 | @cons x0 v0 f0 xs vs fp h t ih =>
   cases i with
   | zero =>
     simp at hi;subst hi;refine ⟨v0,[],f0,fp,rfl,rfl,h,fun R' y u g hr hy=>?_⟩;simpa using Cat.cons hy (t.mono fun x v f hf h _=>hr x v f (fun b hb=>by simpa using hf b hb) h)
   | succ i =>
     simp at hi;obtain ⟨v,f1,f,f2,h1,rfl,h3,h4⟩:=ih hi;refine ⟨v,f0++f1,f,f2,by simpa using h1,by simp,h3,fun R' y u g hr hy=>?_⟩;have:=h4 R' y u g (fun x v f hf h=>hr x v f (fun b hb=>by have:=hf b hb;simp at this |-;rcases this with h | h <;> simp [h]) h) hy;simpa using Cat.cons (hr _ _ _ (fun b hb=>by simp [hb]) h) this
end Cat
def Qa5:Value->List Value
 | .agg C=>C.toList
 | v=>[v]
structure Cx where
 P:Program
 fid:Lab->FuncId
 bks:List Lab
abbrev Fp:=Rt->List Nat
abbrev Rho:=Nat->Nat->Nat
def look (st:St) (tm:Nat->Value) (ρ:Rho) (w:World):Rt->Nat->Option (IV×Value)
 | .S s,c=>match (Qav st.T s).cells[c]? with
   | some x=>match (Qa5 (tm s))[c]? with
     | some v=>some (x,v)
     | none=>none
   | none=>none
 | .B l k,c=>match st.box l k with
   | some cs=>match cs[c]? with
     | some x=>match w.cell? ⟨ρ l k,c,none⟩ with
       | some v=>some (x,v)
       | none=>none
     | none=>none
   | none=>none
def Jcm (ρ:Rho) (st:St):IV->Value->Prop
 | .bptr l k c,v=>v=.pointer (some ⟨ρ l k,c,none⟩)/\(st.box l k).isSome=true
 | _,_=>False
def Qlc (cx:Cx) (w:World) (F:Nat->Prop) (ρ:Rho) (st:St) (lk:Rt->Nat->Option (IV×Value)):IV->Value->Prop
 | .arr r c p e off n clip,v=>∃ x0 v0 es a N cap a' cap',lk r c=some (x0,v0)/\Qci w x0 v0 p=some (.own e es,.slice a N cap)/\off+n<=es.length /\
    v=.slice a' n cap'/\n<=cap'/\off+cap'<=cap/\(clip=true->cap'=n)/\(0 < cap'->∃ b o,a=some ⟨b,o,none⟩/\a'=some ⟨b,o+off * e,none⟩)/\(clip=false->off+cap'=cap)
 | .eptr r c p i j,v=>∃ x0 v0 e es b o N cap,lk r c=some (x0,v0)/\Qci w x0 v0 p=some (.own e es,.slice (some ⟨b,o,none⟩) N cap)/\i < es.length /\
    v=.pointer (some ⟨b,o+i * e+j,none⟩)
 | .lptr ec j,v=>∃ b o C ty fr,F b/\w.heap[b]? = some (.cells C ty fr)/\RDs w F ec ((C.toList.drop o).take ec.length) []/\v=.pointer (some ⟨b,o+j,none⟩)
 | .bptr l k c,v=>v=.pointer (some ⟨ρ l k,c,none⟩)/\(st.box l k).isSome=true
 | .fn f caps,v=>∃ cvs:List Value,v=.func (.func (cx.fid f)) #[] cvs.toArray/\Cat (fun x v f=>Jcm ρ st x v/\f=[]) caps cvs []
 | _,_=>False
def RC (cx:Cx) (w:World) (F:Nat->Prop) (ρ:Rho) (st:St) (lk:Rt->Nat->Option (IV×Value)) (x:IV) (v:Value) (f:List Nat):Prop :=
 (Qlc cx w F ρ st lk x v/\f=[]) \/ RDs w F [x] [v] f
def Qdk (cx:Cx) (w:World) (F:Nat->Prop) (ρ:Rho) (st:St) (lk:Rt->Nat->Option (IV×Value)):IV->Value->List Nat->Prop
 | .agg cs,v,f=>∃ C:Array Value,v=.agg C/\Cat (RC cx w F ρ st lk) cs C.toList f
 | .un,_,f=>f=[]
 | x,v,f=>RC cx w F ρ st lk x v f
def Qa6 (cx:Cx) (w:World) (F:Nat->Prop) (ρ:Rho) (st:St) (lk:Rt->Nat->Option (IV×Value)):IV->Value->List Nat->Prop
 | .tup vs,v,f=>∃ C:Array Value,v=.tuple C/\Cat (Qdk cx w F ρ st lk) vs C.toList f
 | x,v,f=>Qdk cx w F ρ st lk x v f
def Qj7 (cx:Cx) (w:World) (F:Nat->Prop) (ρ:Rho) (st:St) (l:Nat) (x:IV) (v:Value) (f:List Nat):Prop :=
 (Qlc cx w F ρ st (fun _ _=>none) x v/\x.lvl (l+1)=true/\(x matches .bptr .. | .fn ..)/\f=[]) \/ RDs w F [x] [v] f
structure Rel (cx:Cx) (w:World) (F:Nat->Prop) (ρ:Rho) (fp:Fp) (X:List Nat) (st:St) (tm:Nat->Value):Prop where
 slots:∀ s,Qa6 cx w F ρ st (look st tm ρ w) (Qav st.T s) (tm s) (fp (.S s))
 boxes:∀ l k cs,st.box l k=some cs->∃ C ty f,fp (.B l k)=ρ l k::f/\w.heap[ρ l k]? = some (.cells C ty (0,0))/\Cat (Qj7 cx w F ρ st l) cs C.toList f
 nobox:∀ l k,st.box l k=none->fp (.B l k)=[]
 nodup:∀ r,(fp r).Nodup
 disj:∀ r r',r ≠ r'->∀ b ∈ fp r,b ∉ fp r'
 notF:∀ r,∀ b ∈ fp r,¬ F b
 lt:∀ r,∀ b ∈ fp r,b < w.heap.size
 Flt:∀ b,F b->b < w.heap.size
 xnodup:X.Nodup
 xdisj:∀ r,∀ b ∈ fp r,b ∉ X
 xF:∀ b ∈ X,¬ F b
 xlt:∀ b ∈ X,b < w.heap.size
def Env (w w':World):Prop:=w'.os=w.os/\w'.tape=w.tape/\w'.output=w.output
theorem Env.refl (w:World):Env w w:=⟨rfl,rfl,rfl⟩
theorem Env.trans {a b c:World} (h:Env a b) (k:Env b c):Env a c:=⟨k.1.trans h.1,k.2.1.trans h.2.1,k.2.2.trans h.2.2⟩
structure Ext (w:World) (F:Nat->Prop) (ρ:Rho) (fp:Fp) (X:List Nat) (ex:Nat->Nat->Prop) (w':World) (F':Nat->Prop) (ρ':Rho) (fp':Fp) (X':List Nat):Prop where
 size:w.heap.size<=w'.heap.size
 keep:∀ b,b < w.heap.size->(∀ r,b ∉ fp r)->b ∉ X->w'.heap[b]? = w.heap[b]?
 fpn:∀ r b,b ∈ fp' r->(∃ r',b ∈ fp r') \/ b ∈ X \/ w.heap.size<=b
 xn:∀ b,b ∈ X'->(∃ r',b ∈ fp r') \/ b ∈ X \/ w.heap.size<=b
 Fm:∀ b,F b->F' b
 Fn:∀ b,F' b->F b \/ (∃ r,b ∈ fp r) \/ b ∈ X \/ w.heap.size<=b
 rho:∀ l k,ex l k->ρ' l k=ρ l k
 env:Env w w'
theorem Ext.refl (w F ρ fp X ex):Ext w F ρ fp X ex w F ρ fp X :=
 ⟨Kam _,fun _ _ _ _=>rfl,fun r b h=>.inl ⟨r,h⟩,fun b h=>.inr (.inl h),fun _ h=>h,fun _ h=>.inl h,fun _ _ _=>rfl,.refl w⟩
theorem Ext.trans {w F ρ fp X ex w1 F1 ρ1 fp1 X1 ex1 w2 F2 ρ2 fp2 X2} (h:Ext w F ρ fp X ex w1 F1 ρ1 fp1 X1) (h':Ext w1 F1 ρ1 fp1 X1 ex1 w2 F2 ρ2 fp2 X2)
 (hex:∀ l k,ex l k->ex1 l k):Ext w F ρ fp X ex w2 F2 ρ2 fp2 X2:=by
 have pull:∀ b,((∃ r',b ∈ fp1 r') \/ b ∈ X1 \/ w1.heap.size<=b)->(∃ r',b ∈ fp r') \/ b ∈ X \/ w.heap.size<=b:=fun b hb=>by
  rcases hb with ⟨r,hr⟩ | hx | hs
  . exact h.fpn r b hr
  . exact h.xn b hx
  . exact .inr (.inr (Kcp h.size hs))
 refine ⟨Kcp h.size h'.size,fun b hb hr hx=>?_,fun r b hb=>pull b (h'.fpn r b hb),fun b hb=>pull b (h'.xn b hb),fun b hb=>h'.Fm b (h.Fm b hb),fun b hb=>?_,
  fun l k hlk=>(h'.rho l k (hex l k hlk)).trans (h.rho l k hlk),h.env.trans h'.env⟩
 . rw [h'.keep b (Kcd hb h.size) (fun r hm=>?_) (fun hm=>?_),h.keep b hb hr hx]
   . rcases h.fpn r b hm with ⟨r',h1⟩ | h1 | h1
     . exact hr r' h1
     . exact hx h1
     . omega
   . rcases h.xn b hm with ⟨r',h1⟩ | h1 | h1
     . exact hr r' h1
     . exact hx h1
     . omega
 . rcases h'.Fn b hb with h1 | h1
   . rcases h.Fn b h1 with h2 | h2
     . exact .inl h2
     . exact .inr h2
   . exact .inr (pull b h1)
theorem Qco {w w':World} {F:Nat->Prop}:∀ {p:Qg8} {x:IV} {v:Value} {f:List Nat} {r:IV×Value},RDs w F [x] [v] f->(∀ b ∈ f,w'.heap[b]? = w.heap[b]?) ->
 Qci w x v p=some r->Qci w' x v p=some r
 | [],x,v,f,r,_,_,h=>by simpa [Qci] using h
 | (i,j)::p,x,v,f,r,hd,hag,h=>by
   cases x with
   | own e es =>
     rcases RDs.own_inv hd with ⟨rfl,_,_⟩ | ⟨b,o,cap,C,ty,fp1,rfl,rfl,hb,hd1,he,hn,ho⟩
     . cases v with
       | slice a _ _=>cases a <;> simp [Qci] at h
       | _=>simp [Qci] at h
     simp only [Qci] at h |-;split at h
     . rename_i el hi;split at h
       . rename_i y hj;obtain ⟨hfl,hil,hje⟩:=Qdg he hi hj;obtain ⟨u,f1,g,f2,hu,hf,hz,-⟩:=hd1.at_ hfl
         have hlt:i * e+j < es.length * e:=by
          have:(i+1) * e<=es.length * e:=Kbh _ hil;rw [Kbz] at this;omega
         rw [Qam hlt] at hu;have hc:w.cell? ⟨b,o+i * e+j,none⟩=some u:=by rw [Qau hb,<- hu,Kcq]
         have hc':w'.cell? ⟨b,o+i * e+j,none⟩=some u:=by rw [Qau ((hag b (by simp)).trans hb),<- hu,Kcq]
         simp only [hc] at h;simp only [hc'];exact Qco (p:=p) hz (fun b hb=>hag b (by simp [hf,hb])) h
       . cases h
     . cases h
   | _=>simp [Qci] at h
end Go.Idl
namespace Go.Idl
open Go
theorem Qap (p:IV->Bool):∀ (T:Tm) (s:Nat),Qav (Qa3 p T) s=kl p (Qav T s)
 | [],s=>by simp [Qa3,Qav,kl,kl1,klc]
 | (k,v)::r,s=>by
   have:=Qap p r s;simp only [Qa3,Kbd,Qav] at this |-;split
   . rfl
   . exact this
@[simp] theorem Qj8 (st:St) (T:Tm) (l k:Nat):({ st with T:=T }:St).box l k=st.box l k:=rfl
def IV.isR:IV->Bool
 | .arr .. | .eptr ..=>true
 | _=>false
def Qaj (p:IV->Bool):Prop:=∀ y,p y=true->y.isR=true
theorem Qaj.rooted (q:Rt):Qaj (IV.rooted q):=fun y h=>by cases y <;> simp_all [IV.rooted,IV.isR]
theorem Qaj.rootB:Qaj IV.rootB:=fun y h=>by cases y <;> simp_all [IV.rootB,IV.isR]
theorem Qaj.none:Qaj (fun _=>false):=fun y h=>by simp at h
theorem Qxk (x:IV):klc (fun _=>false) x=x:=by simp [klc]
theorem Qp0:∀ x:IV,kl1 (fun _=>false) x=x
 | .agg cs=>by simp [kl1,show klc (fun _=>false)=id from funext Qxk]
 | .sc _ | .lst .. | .own .. | .arr .. | .eptr .. | .lptr .. | .bptr .. | .fn .. | .tup _ | .un=>by simp [kl1,klc]
theorem Qmp:∀ x:IV,kl (fun _=>false) x=x
 | .tup vs=>by simp [kl,show kl1 (fun _=>false)=id from funext Qp0]
 | .sc _ | .lst .. | .own .. | .arr .. | .eptr .. | .lptr .. | .bptr .. | .fn .. | .agg _ | .un=>by simp [kl,Qp0]
theorem Qhj (T:Tm):Qa3 (fun _=>false) T=T:=by
 simp [Qa3,Qmp]
theorem Qf1 {p:IV->Bool} (hp:Qaj p) (e:Nat) (es:List (List IV)):klc p (.own e es)=.own e es:=by
 unfold klc;split
 . rename_i h;have:=hp _ h;simp [IV.isR] at this
 . rfl
theorem Qe0 {p:IV->Bool} (hp:Qaj p) {x:IV} {c e:Nat} {es:List (List IV)} (h:x.cells[c]? = some (.own e es)):(kl p x).cells[c]? = some (.own e es):=by
 cases x with
 | agg cs=>simp only [kl,kl1,IV.cells] at h |-;simp [h,Qf1 hp]
 | tup vs=>simp only [kl,IV.cells] at h |-;simp [h,kl1,Qf1 hp]
 | own e' es'=>simp only [IV.cells] at h;simp only [kl,kl1,Qf1 hp,IV.cells];exact h
 | _ =>
   simp only [IV.cells] at h;cases c <;> simp at h
def Qby:IV->Rt->Nat->Qg8->Prop
 | .arr r c p _ _ _ _,r',c',p'=>r=r'/\c=c'/\p=p'
 | .eptr r c p _ _,r',c',p'=>r=r'/\c=c'/\p=p'
 | _,_,_,_=>False
theorem Qc1 {x:IV} {r c q} (h:Qby x r c q):x.rooted r=true:=by
 cases x <;> simp only [Qby] at h
 all_goals simp [IV.rooted,h.1]
structure Tr (w:World) (F:Nat->Prop) (ρ:Rho) (st:St) (lk:Rt->Nat->Option (IV×Value)) (w':World) (F':Nat->Prop) (ρ':Rho) (st':St) (lk':Rt->Nat->Option (IV×Value))
 (live:Rt->Nat->Qg8->Prop):Prop where
 ref:∀ r c p,live r c p->∀ x0 v0 e es a n cap,lk r c=some (x0,v0)->Qci w x0 v0 p=some (.own e es,.slice a n cap) ->
  ∃ x0' es',lk' r c=some (x0',v0)/\Qci w' x0' v0 p=some (.own e es',.slice a n cap)/\es.length<=es'.length
 fz:∀ b,F b->w'.heap[b]? = w.heap[b]?
 ff:∀ b,F b->F' b
 bx:∀ l k,(st.box l k).isSome=true->ρ' l k=ρ l k/\(st'.box l k).isSome=true
section tr
variable {cx:Cx} {w w':World} {F F':Nat->Prop} {ρ ρ':Rho} {st st':St} {lk lk':Rt->Nat->Option (IV×Value)} {live:Rt->Nat->Qg8->Prop}
theorem Qlc.tr {x v} (ht:Tr w F ρ st lk w' F' ρ' st' lk' live) (h:Qlc cx w F ρ st lk x v) (hl:∀ r c p,Qby x r c p->live r c p):Qlc cx w' F' ρ' st' lk' x v:=by
 cases x with
 | arr r c p e off n clip =>
   obtain ⟨x0,v0,es,a,N,cap,a',cap',h1,h2,h3,h4,h5,h6,h7,h8⟩:=h;obtain ⟨x0',es',k1,k2,k3⟩:=ht.ref r c p (hl _ _ _ ⟨rfl,rfl,rfl⟩) _ _ _ _ _ _ _ h1 h2;exact ⟨x0',v0,es',a,N,cap,a',cap',k1,k2,by omega,h4,h5,h6,h7,h8⟩
 | eptr r c p i j =>
   obtain ⟨x0,v0,e,es,b,o,N,cap,h1,h2,h3,h4⟩:=h;obtain ⟨x0',es',k1,k2,k3⟩:=ht.ref r c p (hl _ _ _ ⟨rfl,rfl,rfl⟩) _ _ _ _ _ _ _ h1 h2;exact ⟨x0',v0,e,es',b,o,N,cap,k1,k2,by omega,h4⟩
 | lptr ec j =>
   obtain ⟨b,o,C,ty,fr,h1,h2,h3,h4⟩:=h;exact ⟨b,o,C,ty,fr,ht.ff _ h1,(ht.fz _ h1).trans h2,h3.frame (by simp) ht.fz ht.ff,h4⟩
 | bptr l k c =>
   obtain ⟨h1,h2⟩:=h;obtain ⟨k1,k2⟩:=ht.bx l k h2;exact ⟨by rw [k1];exact h1,k2⟩
 | fn f caps =>
   obtain ⟨cvs,h1,h2⟩:=h;refine ⟨cvs,h1,h2.mono fun x v f _ hx _=>⟨?_,hx.2⟩⟩;cases x with
   | bptr l k c =>
     obtain ⟨⟨g1,g2⟩,_⟩:=hx;obtain ⟨k1,k2⟩:=ht.bx l k g2;exact ⟨by rw [k1];exact g1,k2⟩
   | _=>exact hx.1.elim
 | _=>exact h.elim
theorem RC.tr {x v f} (ht:Tr w F ρ st lk w' F' ρ' st' lk' live) (h:RC cx w F ρ st lk x v f) (hl:∀ r c p,Qby x r c p->live r c p) (hf:∀ b ∈ f,w'.heap[b]? = w.heap[b]?) :
 RC cx w' F' ρ' st' lk' x v f:=by
 rcases h with ⟨h,rfl⟩ | h
 . exact .inl ⟨h.tr ht hl,rfl⟩
 . exact .inr (h.frame hf ht.fz ht.ff)
theorem RC.trk {p:IV->Bool} {x v f} (ht:Tr w F ρ st lk w' F' ρ' st' lk' live) (h:RC cx w F ρ st lk x v f) (hp:Qaj p) (hl:∀ r c q,Qby x r c q->p x=false->live r c q)
 (hf:∀ b ∈ f,w'.heap[b]? = w.heap[b]?):RC cx w' F' ρ' st' lk' (klc p x) v f:=by
 unfold klc;split
 . rename_i hpx;have hr:=hp _ hpx;rcases h with ⟨h,rfl⟩ | h
   . exact .inr (.un .nil)
   . cases x <;> simp [IV.isR] at hr <;> cases h
 . rename_i hpx;exact h.tr ht (fun r c q hq=>hl r c q hq (by simpa using hpx)) hf
def Jbs (p:IV->Bool) (live:Rt->Nat->Qg8->Prop):Prop:=∀ x r c q,Qby x r c q->p x=false->live r c q
theorem Qdk.trk {p:IV->Bool} {x v f} (ht:Tr w F ρ st lk w' F' ρ' st' lk' live) (h:Qdk cx w F ρ st lk x v f) (hp:Qaj p) (hl:Jbs p live)
 (hf:∀ b ∈ f,w'.heap[b]? = w.heap[b]?):Qdk cx w' F' ρ' st' lk' (kl1 p x) v f:=by
 have other:∀ y,(∀ cs,y ≠ .agg cs)->y ≠ .un->RC cx w F ρ st lk y v f->Qdk cx w' F' ρ' st' lk' (kl1 p y) v f:=by
  intro y hy1 hy2 hy;have h1:=hy.trk (p:=p) ht hp (hl y) hf;have e1:kl1 p y=klc p y:=by cases y <;> simp_all [kl1]
  rw [e1];unfold klc at h1 |-;split
  . rename_i hpy;rw [if_pos hpy] at h1;rcases h1 with ⟨h2,rfl⟩ | h2
    . rfl
    . cases h2;rename_i h3;cases h3;rfl
  . rename_i hpy;rw [if_neg hpy] at h1;cases y <;> first | exact h1 | exact absurd rfl (hy1 _) | exact absurd rfl hy2
 cases x with
 | agg cs =>
   obtain ⟨C,rfl,hc⟩:=h;refine ⟨C,rfl,?_⟩;have:∀ {cs vs fp},Cat (RC cx w F ρ st lk) cs vs fp->(∀ b ∈ fp,w'.heap[b]? = w.heap[b]?)->Cat (RC cx w' F' ρ' st' lk') (cs.map (klc p)) vs fp:=by
    intro cs vs fp hc hf
    induction hc with
    | nil=>exact .nil
    | cons h t ih=>exact .cons (h.trk ht hp (hl _) fun b hb=>hf b (by simp [hb])) (ih fun b hb=>hf b (by simp [hb]))
   exact this hc hf
 | un =>
   have hf0:f=[]:=h;have:kl1 p .un=.un:=by simp [kl1,klc]
   rw [this];exact hf0
 | _=>exact other _ (by intro cs h;cases h) (by intro h;cases h) h
theorem Qbg {x v f} (hx:∀ vs,x ≠ .tup vs):Qa6 cx w F ρ st lk x v f=Qdk cx w F ρ st lk x v f:=by
 cases x <;> first | rfl | exact absurd rfl (hx _)
theorem kl1_ne {p:IV->Bool} {x:IV} (hx:∀ vs,x ≠ .tup vs):∀ vs,kl1 p x ≠ .tup vs:=by
 intro vs h;cases x <;> simp only [kl1,klc] at h <;> first | (split at h <;> cases h;done) | cases h | exact hx _ rfl
theorem Qa6.trk {p:IV->Bool} {x v f} (ht:Tr w F ρ st lk w' F' ρ' st' lk' live) (h:Qa6 cx w F ρ st lk x v f) (hp:Qaj p) (hl:Jbs p live)
 (hf:∀ b ∈ f,w'.heap[b]? = w.heap[b]?):Qa6 cx w' F' ρ' st' lk' (kl p x) v f:=by
 cases x with
 | tup vs =>
   obtain ⟨C,rfl,hc⟩:=h;refine ⟨C,rfl,?_⟩;have:∀ {cs vs fp},Cat (Qdk cx w F ρ st lk) cs vs fp->(∀ b ∈ fp,w'.heap[b]? = w.heap[b]?)->Cat (Qdk cx w' F' ρ' st' lk') (cs.map (kl1 p)) vs fp:=by
    intro cs vs fp hc hf
    induction hc with
    | nil=>exact .nil
    | cons h t ih=>exact .cons (h.trk ht hp hl fun b hb=>hf b (by simp [hb])) (ih fun b hb=>hf b (by simp [hb]))
   exact this hc hf
 | agg cs=>exact Qdk.trk (x:=.agg cs) ht h hp hl hf
 | _ =>
   rw [Qbg (by intro vs h;cases h)] at h;have h1:=h.trk ht hp hl hf;simp only [kl];rw [Qbg (kl1_ne (by intro vs h;cases h))];exact h1
theorem Qj7.tr {l x v f} (ht:Tr w F ρ st lk w' F' ρ' st' lk' live) (h:Qj7 cx w F ρ st l x v f) (hf:∀ b ∈ f,w'.heap[b]? = w.heap[b]?):Qj7 cx w' F' ρ' st' l x v f:=by
 rcases h with ⟨h,h2,h3,h4⟩ | h
 . refine .inl ⟨?_,h2,h3,h4⟩;have ht':Tr w F ρ st (fun _ _=>none) w' F' ρ' st' (fun _ _=>none) (fun _ _ _=>True):=⟨fun _ _ _ _ _ _ _ _ _ _ _ h=>(by cases h),ht.fz,ht.ff,ht.bx⟩;exact h.tr ht' (fun _ _ _ _=>trivial)
 . exact .inr (h.frame hf ht.fz ht.ff)
end tr
end Go.Idl
namespace Go.Idl
open Go
section
variable {w w':World} {F F':Nat->Prop}
theorem RDs.two {xs vs fp} {i j:Nat} {x y:IV} (h:RDs w F xs vs fp) (hn:fp.Nodup) (hi:xs[i]? = some x) (hj:xs[j]? = some y) (hij:i ≠ j) :
 ∃ v u f g,vs[i]? = some v/\vs[j]? = some u/\RDs w F [x] [v] f/\RDs w F [y] [u] g/\(∀ b ∈ f,b ∈ fp/\b ∉ g)/\∀ b ∈ g,b ∈ fp:=by
 obtain ⟨v,f1,f,f2,hv,rfl,hx,hput⟩:=h.at_ hi
 have h2:=hput w F .un v [] (fun _ _=>rfl) (fun _ _=>rfl) (fun _ h=>h) (.un .nil);obtain ⟨u,g1,g,g2,hu,hg,hy,-⟩:=h2.at_ (i:=j) (x:=y) (by rw [Kbi hij];exact hj)
 rw [Kbi hij] at hu;have hsub:∀ b ∈ g,b ∈ f1 \/ b ∈ f2:=fun b hb=>by
  have:b ∈ f1++([]++f2):=by rw [hg];simp [hb]
  simpa using this
 refine ⟨v,u,f,g,hv,hu,hx,hy,fun b hb=>⟨by simp [hb],fun hbg=>?_⟩,fun b hb=>?_⟩
 . rw [Kan] at hn;obtain ⟨_,h2,h3⟩:=hn;rw [Kan] at h2;rcases hsub b hbg with h | h
   . exact h3 b h b (by simp [hb]) rfl
   . exact h2.2.2 b hb b h rfl
 . rcases hsub b hb with h | h <;> simp [h]
theorem Qdc:∀ {p:Qg8} {x:IV} {v:Value} {r:IV×Value},Qci w x v p=some r->fol x p=some r.1
 | [],x,v,r,h=>by simp [Qci] at h;simp [fol,<- h]
 | (i,j)::p,x,v,r,h=>by
   cases x with
   | own e es =>
     cases v with
     | slice a n cap =>
       cases a with
       | none=>simp [Qci] at h
       | some a =>
         simp only [Qci] at h;simp only [fol];cases hi:es[i]? with
         | none=>simp [hi] at h
         | some el =>
           simp only [hi] at h |-;cases hj:el[j]? with
           | none=>simp [hj] at h
           | some z =>
             simp only [hj] at h |-;split at h
             . exact Qdc (p:=p) h
             . cases h
     | _=>simp [Qci] at h
   | _=>simp [Qci] at h
theorem Qbk {p:Qg8} {x:IV} {v:Value} {e es u} (h:Qci w x v p=some (.own e es,u)):∃ e' es',x=.own e' es':=by
 cases p with
 | nil=>simp [Qci] at h;exact ⟨_,_,h.1⟩
 | cons ij p =>
   cases x with
   | own e' es'=>exact ⟨_,_,rfl⟩
   | _=>simp [Qci] at h
theorem Qct {p:Qg8} {x:IV} {v:Value} {y a n cap} (h:Qci w x v p=some (y,.slice a n cap)):∃ a' n' cap',v=.slice a' n' cap':=by
 cases p with
 | nil=>simp [Qci] at h;exact ⟨_,_,_,h.2⟩
 | cons ij p =>
   cases x with
   | own e' es' =>
     cases v with
     | slice a' n' cap'=>exact ⟨_,_,_,rfl⟩
     | _=>simp [Qci] at h
   | _=>simp [Qci] at h
theorem Qux {b:Nat} (hag:∀ c,c ≠ b->w'.heap[c]? = w.heap[c]?) {node node':IV} {u:Value}
 (hb:∀ g,RDs w F [node] [u] g->b ∈ g)
 (hnode:∀ q e2 es2 h,Qci w node u q=some (.own e2 es2,h)->∃ es2',Qci w' node' u q=some (.own e2 es2',h)/\es2.length<=es2'.length) :
 ∀ {p:Qg8} {x:IV} {v:Value} {f:List Nat} {x':IV},RDs w F [x] [v] f->f.Nodup->Qci w x v p=some (node,u)->Quz x p node'=some x' ->
   ∀ q e2 es2 h,Qci w x v q=some (.own e2 es2,h)->∃ es2',Qci w' x' v q=some (.own e2 es2',h)/\es2.length<=es2'.length
 | [],x,v,f,x',_,_,hf,hs,q,e2,es2,h,hq=>by
   simp [Qci] at hf;simp [Quz] at hs;obtain ⟨rfl,rfl⟩:=hf;subst hs;exact hnode q e2 es2 h hq
 | (i,j)::p,x,v,f,x',hd,hnd,hf,hs,q,e2,es2,h,hq=>by
   cases x with
   | own e es =>
     rcases RDs.own_inv hd with ⟨rfl,_,_⟩ | ⟨bb,o,cap,C,ty,fp1,rfl,rfl,hbb,hd1,he,hn,ho⟩
     . simp [Quz] at hs
     simp only [Qci] at hf;simp only [Quz] at hs;cases hi:es[i]? with
     | none=>simp [hi] at hs
     | some el =>
     cases hj:el[j]? with
     | none=>simp [hi,hj] at hs
     | some z =>
     simp only [hi,hj] at hf hs;obtain ⟨hfl,hil,hje⟩:=Qdg he hi hj;obtain ⟨uz,f1,gz,f2,huz,hfp,hz,-⟩:=hd1.at_ hfl
     have hlt:i * e+j < es.length * e:=by
      have:(i+1) * e<=es.length * e:=Kbh _ hil;rw [Kbz] at this;omega
     have huz':=huz;rw [Qam hlt] at huz;have hcell:w.cell? ⟨bb,o+i * e+j,none⟩=some uz:=by rw [Qau hbb,<- huz,Kcq]
     simp only [hcell] at hf;cases hz':Quz z p node' with
     | none=>simp [hz'] at hs
     | some z' =>
     simp only [hz',Kaa] at hs;subst hs;obtain ⟨uu,a1,gn,a2,hfn,hgz,hRn,-⟩:=hz.fol (Qdc hf);rw [hf] at hfn;simp only [Kaa,Kab,Kfe] at hfn;subst hfn;have hbgz:b ∈ gz:=by rw [hgz];simp [hb gn hRn]
     have hnd1:fp1.Nodup:=(Kbq.1 hnd).2;have hbne:bb ≠ b:=fun hc=>by
      subst hc;exact (Kbq.1 hnd).1 (by rw [hfp];simp [hbgz])
     have hbb':w'.heap[bb]? = some (.cells C ty (0,0)):=(hag bb hbne).trans hbb;cases q with
     | nil =>
       simp only [Qci,Kaa,Kab,IV.own.injEq] at hq;obtain ⟨⟨rfl,rfl⟩,rfl⟩:=hq;exact ⟨_,rfl,by simp⟩
     | cons ij q =>
       obtain ⟨i2,j2⟩:=ij;simp only [Qci] at hq;cases hi2:es[i2]? with
       | none=>simp [hi2] at hq
       | some el2 =>
       cases hj2:el2[j2]? with
       | none=>simp [hi2,hj2] at hq
       | some z2 =>
       simp only [hi2,hj2] at hq;obtain ⟨hfl2,hil2,hje2⟩:=Qdg he hi2 hj2;have hlt2:i2 * e+j2 < es.length * e:=by
        have:(i2+1) * e<=es.length * e:=Kbh _ hil2;rw [Kbz] at this;omega
       have hjl:j < el.length:=by rw [he el (Kbn hi)];exact hje
       by_cases hsame:i2=i/\j2=j
       . obtain ⟨rfl,rfl⟩:=hsame;rw [hi] at hi2;cases hi2;rw [hj] at hj2;cases hj2;simp only [hcell] at hq;have hcell':w'.cell? ⟨bb,o+i2 * e+j2,none⟩=some uz:=by rw [Qau hbb',<- huz,Kcq]
         have hndz:gz.Nodup:=by
          rw [hfp] at hnd1;exact (Kan.1 (Kan.1 hnd1).2.1).1
         obtain ⟨es2',hr,hl⟩:=Qux hag hb hnode (p:=p) hz hndz hf hz' q e2 es2 h hq;exact ⟨es2',by simp only [Qci,Kbl hil,Kbl hjl,hcell',hr],hl⟩
       . have hkne:i * e+j ≠ i2 * e+j2:=fun hc=>by
          apply hsame;rcases Nat.lt_trichotomy i i2 with hlt | heq | hlt
          . have:(i+1) * e<=i2 * e:=Kbh _ hlt;rw [Kbz] at this;omega
          . subst heq;omega
          . have:(i2+1) * e<=i * e:=Kbh _ hlt;rw [Kbz] at this;omega
         obtain ⟨v1,u2,g1,g2,hv1,hu2,hR1,hR2,hdis,-⟩:=hd1.two hnd1 hfl hfl2 hkne;rw [Qam hlt2] at hu2;have hcell2:w.cell? ⟨bb,o+i2 * e+j2,none⟩=some u2:=by rw [Qau hbb,<- hu2,Kcq]
         have hcell2':w'.cell? ⟨bb,o+i2 * e+j2,none⟩=some u2:=by rw [Qau hbb',<- hu2,Kcq]
         have hv1':v1=uz:=by rw [huz'] at hv1;exact (Kda hv1).symm
         subst hv1';obtain ⟨uu',c1,gn',c2,hfn',hg1,hRn',-⟩:=hR1.fol (Qdc hf);rw [hf] at hfn';simp only [Kaa,Kab,Kfe] at hfn';subst hfn';have hbg1:b ∈ g1:=by rw [hg1];simp [hb gn' hRn']
         have hbg2:b ∉ g2:=(hdis b hbg1).2;simp only [hcell2] at hq;have hr:=Qco (w':=w') hR2 (fun c hc=>hag c (fun he=>hbg2 (he ▸ hc))) hq;refine ⟨es2,?_,Kam _⟩;have hget:((es.set i (el.set j z'))[i2]?).bind (·[j2]?)=some z2:=by
          by_cases hii:i=i2
          . subst hii;rw [hi] at hi2;cases hi2;have hjj:j ≠ j2:=fun hc=>hsame ⟨rfl,hc.symm⟩;rw [Kbl hil];simp only [Option.bind_some];rw [Kbi hjj];exact hj2
          . rw [Kbi hii,hi2];exact hj2
         cases hs1:(es.set i (el.set j z'))[i2]? with
         | none=>simp [hs1] at hget
         | some el3 =>
           simp only [hs1,Option.bind_some] at hget;simp only [Qci,hs1,hget,hcell2',hr]
   | _=>simp [Qci] at hf
end
end Go.Idl
namespace Go.Idl
open Go
theorem Cat.map_kl {R:IV->Value->List Nat->Prop} {k:IV->IV} {xs vs fp} (h:Cat (fun x v f=>R (k x) v f) xs vs fp):Cat R (xs.map k) vs fp:=by
 induction h with
 | nil=>exact .nil
 | cons h t ih=>exact .cons h ih
theorem Qjd {pre g g' post:List Nat} (h:(pre++(g++post)).Nodup) (hs:∀ b ∈ g',b ∉ pre/\b ∉ post) (hn:g'.Nodup):(pre++(g'++post)).Nodup:=by
 rw [Kan] at h |-;obtain ⟨h1,h2,h3⟩:=h;rw [Kan] at h2;refine ⟨h1,?_,?_⟩
 . rw [Kan];exact ⟨hn,h2.2.1,fun a ha b hb hab=>(hs a ha).2 (hab ▸ hb)⟩
 . intro a ha b hb hab;simp only [Kah] at hb;rcases hb with hb | hb
   . exact (hs b hb).1 (hab ▸ ha)
   . exact h3 a ha b (by simp [hb]) hab
theorem Qim {pre g post:List Nat} (h:(pre++(g++post)).Nodup):∀ b ∈ g,b ∉ pre/\b ∉ post:=by
 rw [Kan] at h;obtain ⟨_,h2,h3⟩:=h;rw [Kan] at h2;exact fun b hb=>⟨fun hp=>h3 b hp b (by simp [hb]) rfl,fun hp=>h2.2.2 b hb b hp rfl⟩
structure Upd (w:World) (F:Nat->Prop) (g X:List Nat) (w':World) (F':Nat->Prop) (y:IV) (u:Value) (g' X':List Nat):Prop where
 size:w.heap.size<=w'.heap.size
 keep:∀ b,b < w.heap.size->b ∉ g->w'.heap[b]? = w.heap[b]?
 Fm:∀ b,F b->F' b
 Fn:∀ b,F' b->F b \/ b ∈ g
 rd:RDs w' F' [y] [u] g'
 gsub:∀ b ∈ g',b ∈ g \/ b ∈ X
 gnd:g'.Nodup
 gF:∀ b ∈ g',¬ F' b
 xn:X'.Nodup
 xsub:∀ b ∈ X',(b ∈ X \/ b ∈ g)/\b ∉ g'
 xF:∀ b ∈ X',¬ F' b
def Qao (fp:Fp) (r:Rt) (l:List Nat):Fp:=fun q=>if q=r then l else fp q
theorem Rel.data {cx w F ρ fp X st tm} (h:Rel cx w F ρ fp X st tm) {r c e es v0} (hl:look st tm ρ w r c=some (.own e es,v0)) (hv:∃ a n cap,v0=.slice a n cap) :
 ∃ f,(∀ b ∈ f,b ∈ fp r)/\f.Nodup/\RDs w F [.own e es] [v0] f:=by
 cases r with
 | S s =>
   have hs:=h.slots s;simp only [look] at hl;split at hl
   . rename_i x hx;split at hl
     . rename_i v hv';simp only [Kaa,Kab] at hl;obtain ⟨rfl,rfl⟩:=hl;cases hT:Qav st.T s with
       | agg cs =>
         rw [hT] at hs hx;obtain ⟨C,hC,hcat⟩:=hs;obtain ⟨v1,f1,f,f2,h1,h2,h3,-⟩:=hcat.at_ hx
         rw [hC] at hv';simp only [Qa5] at hv';rw [h1] at hv';cases hv';have hn:=h.nodup (.S s);rw [h2] at hn;rcases h3 with ⟨h3,_⟩ | h3
         . exact h3.elim
         . exact ⟨f,fun b hb=>by rw [h2];simp [hb],(Kan.1 (Kan.1 hn).2.1).1,h3⟩
       | own e' es' =>
         rw [hT] at hs hx;simp only [IV.cells] at hx;have hc:c=0:=by
          cases c with
          | zero=>rfl
          | succ c=>simp at hx
         subst hc;simp only [Kcs,Kaa] at hx;cases hx;rcases hs with ⟨hs,_⟩ | hs
         . exact hs.elim
         . rcases RDs.own_inv hs with ⟨rfl,_,a,ha⟩ | ⟨b,o,cap,C,ty,fp1,ha,_⟩
           . rw [ha] at hv';simp only [Qa5,Kcs,Kaa] at hv';subst hv';rw [ha] at hs;exact ⟨_,fun b hb=>hb,h.nodup _,hs⟩
           . rw [ha] at hv';simp only [Qa5,Kcs,Kaa] at hv';subst hv';rw [ha] at hs;exact ⟨_,fun b hb=>hb,h.nodup _,hs⟩
       | tup vs =>
         rw [hT] at hs;obtain ⟨C,hC,-⟩:=hs;rw [hC] at hv';simp only [Qa5] at hv';cases c with
         | zero=>simp at hv';subst hv';obtain ⟨a,n,cap,ha⟩:=hv;cases ha
         | succ c=>simp at hv'
       | _ =>
         rw [hT] at hx;simp only [IV.cells] at hx;cases c <;> simp at hx
     . cases hl
   . cases hl
 | B l k =>
   simp only [look] at hl;cases hb:st.box l k with
   | none=>simp [hb] at hl
   | some cs =>
     simp only [hb] at hl;obtain ⟨C,ty,f,hfp,hheap,hcat⟩:=h.boxes l k cs hb;cases hc:cs[c]? with
     | none=>simp [hc] at hl
     | some x =>
       simp only [hc] at hl;obtain ⟨v1,f1,g,f2,h1,h2,h3,-⟩:=hcat.at_ hc
       have hcell:w.cell? ⟨ρ l k,c,none⟩=some v1:=by rw [Qau hheap];simpa using h1
       rw [hcell] at hl;simp only [Kaa,Kab] at hl;obtain ⟨rfl,rfl⟩:=hl;have hn:=h.nodup (.B l k);rw [hfp,h2] at hn;rcases h3 with ⟨h3,_⟩ | h3
       . exact h3.elim
       . exact ⟨g,fun b hb=>by rw [hfp,h2];simp [hb],(Kan.1 (Kan.1 (Kbq.1 hn).2).2.1).1,h3⟩
theorem Rel.tr_other {cx w F ρ fp X st tm} (h:Rel cx w F ρ fp X st tm) {r c p x0 v0 e es a n cap} {w':World} (hl:look st tm ρ w r c=some (x0,v0))
 (hf:Qci w x0 v0 p=some (.own e es,.slice a n cap)) (hag:∀ b ∈ fp r,w'.heap[b]? = w.heap[b]?):Qci w' x0 v0 p=some (.own e es,.slice a n cap):=by
 obtain ⟨e',es',rfl⟩:=Qbk hf;obtain ⟨f,h1,_,h3⟩:=h.data hl (Qct hf);exact Qco h3 (fun b hb=>hag b (h1 b hb)) hf
end Go.Idl
namespace Go.Idl
open Go
section
variable {cx:Cx} {w w':World} {F F':Nat->Prop} {ρ:Rho} {fp:Fp} {X X':List Nat} {st:St} {tm:Nat->Value}
theorem Qow {r:Rt} {pre g g' post:List Nat} {y u} (h:Rel cx w F ρ fp X st tm) (hfp:fp r=pre++(g++post)) (hu:Upd w F g X w' F' y u g' X') :
 let fp':=Qao fp r (pre++(g'++post))
 (∀ q,(fp' q).Nodup)/\(∀ q q',q ≠ q'->∀ b ∈ fp' q,b ∉ fp' q')/\(∀ q,∀ b ∈ fp' q,¬ F' b)/\(∀ q,∀ b ∈ fp' q,b < w'.heap.size) /\
 (∀ b,F' b->b < w'.heap.size)/\(∀ q,∀ b ∈ fp' q,b ∉ X')/\(∀ b ∈ X',b < w'.heap.size)/\(∀ q,∀ b ∈ fp' q,b ∈ fp q \/ b ∈ X)/\(∀ b ∈ g,b < w.heap.size) /\
 (∀ q,q ≠ r->∀ b ∈ fp q,b ∉ g)/\(∀ b,F b->b ∉ g):=by
 have hgr:∀ b ∈ g,b ∈ fp r:=fun b hb=>by rw [hfp];simp [hb]
 have hsub:∀ q,∀ b ∈ Qao fp r (pre++(g'++post)) q,(b ∈ fp q/\b ∉ g) \/ (q=r/\b ∈ g'):=fun q b hb=>by
  unfold Qao at hb;split at hb
  . rename_i hq;subst hq;have hmid:=Qim (hfp ▸ h.nodup q);simp only [Kah] at hb;rcases hb with hb | hb | hb
    . exact .inl ⟨by rw [hfp];simp [hb],fun hg=>(hmid b hg).1 hb⟩
    . exact .inr ⟨rfl,hb⟩
    . exact .inl ⟨by rw [hfp];simp [hb],fun hg=>(hmid b hg).2 hb⟩
  . rename_i hq;exact .inl ⟨hb,fun hg=>h.disj q r hq b hb (hgr b hg)⟩
 have hfx:∀ q,∀ b ∈ Qao fp r (pre++(g'++post)) q,b ∈ fp q \/ b ∈ X:=fun q b hb=>by
  rcases hsub q b hb with h1 | ⟨rfl,h1⟩
  . exact .inl h1.1
  . rcases hu.gsub b h1 with h2 | h2
    . exact .inl (hgr b h2)
    . exact .inr h2
 have hmid:=Qim (hfp ▸ h.nodup r);have hgo:∀ q,q ≠ r->∀ b ∈ fp q,b ∉ g:=fun q hq b hb hg=>h.disj q r hq b hb (hgr b hg);have hnf:∀ b,F b->b ∉ g:=fun b hb hg=>h.notF r b (hgr b hg) hb;have hg'o:∀ b ∈ g',∀ q,b ∈ fp q->b ∈ g:=fun b hb q hq=>by
  rcases hu.gsub b hb with h1 | h1
  . exact h1
  . exact absurd h1 (h.xdisj q b hq)
 refine ⟨fun q=>?_,fun q q' hq b hb hb'=>?_,fun q b hb hF=>?_,fun q b hb=>?_,fun b hb=>?_,
  fun q b hb hx=>?_,fun b hb=>?_,hfx,fun b hb=>h.lt r b (hgr b hb),hgo,hnf⟩
 . unfold Qao;split
   . refine Qjd (hfp ▸ h.nodup r) (fun b hb=>⟨fun hp=>?_,fun hp=>?_⟩) hu.gnd
     . exact (hmid b (hg'o b hb r (by rw [hfp];simp [hp]))).1 hp
     . exact (hmid b (hg'o b hb r (by rw [hfp];simp [hp]))).2 hp
   . exact h.nodup q
 . rcases hsub q b hb with ⟨h1,h1'⟩ | ⟨rfl,h1⟩
   . rcases hsub q' b hb' with ⟨h2,_⟩ | ⟨rfl,h2⟩
     . exact h.disj q q' hq b h1 h2
     . exact h1' (hg'o b h2 q h1)
   . rcases hsub q' b hb' with ⟨h2,h2'⟩ | ⟨rfl,h2⟩
     . exact h2' (hg'o b h1 q' h2)
     . exact hq rfl
 . rcases hsub q b hb with ⟨h1,h1'⟩ | ⟨rfl,h1⟩
   . rcases hu.Fn b hF with h2 | h2
     . exact h.notF q b h1 h2
     . exact h1' h2
   . exact hu.gF b h1 hF
 . rcases hfx q b hb with h1 | h1
   . exact Kcd (h.lt q b h1) hu.size
   . exact Kcd (h.xlt b h1) hu.size
 . rcases hu.Fn b hb with h1 | h1
   . exact Kcd (h.Flt b h1) hu.size
   . exact Kcd (h.lt r b (hgr b h1)) hu.size
 . obtain ⟨h1,h2⟩:=hu.xsub b hx;rcases hsub q b hb with ⟨h3,h3'⟩ | ⟨rfl,h3⟩
   . rcases h1 with h1 | h1
     . exact h.xdisj q b h3 h1
     . exact h3' h1
   . exact h2 h3
 . rcases (hu.xsub b hb).1 with h1 | h1
   . exact Kcd (h.xlt b h1) hu.size
   . exact Kcd (h.lt r b (hgr b h1)) hu.size
def Qkm (w w':World) (g:List Nat) (r:Rt) (pk:IV->Bool) (node node':IV) (u:Value):Prop :=
 (∀ y:IV,y.rooted r=true->pk y=true) \/
 (∃ b,b ∈ g/\(∀ c,c ≠ b->w'.heap[c]? = w.heap[c]?) /\
   ∀ q e2 es2 h,Qci w node u q=some (.own e2 es2,h)->∃ es2',Qci w' node' u q=some (.own e2 es2',h)/\es2.length<=es2'.length)
theorem Qer {s c:Nat} {x:IV} {v:Value} (h:look st tm ρ w (.S s) c=some (x,v)):(Qav st.T s).cells[c]? = some x/\(Qa5 (tm s))[c]? = some v:=by
 simp only [look] at h;split at h
 . rename_i x' hx;split at h
   . rename_i v' hv;simp only [Kaa,Kab] at h;obtain ⟨rfl,rfl⟩:=h;exact ⟨hx,hv⟩
   . cases h
 . cases h
theorem Qb3 {s c:Nat} {x:IV} {v:Value} (h:(Qav st.T s).cells[c]? = some x) (h':(Qa5 (tm s))[c]? = some v):look st tm ρ w (.S s) c=some (x,v):=by
 simp [look,h,h']
theorem Qf2 {w':World} {st':St} {l k c:Nat} {x:IV} {v:Value} (h:Rel cx w F ρ fp X st tm) (hl:look st tm ρ w (.B l k) c=some (x,v))
 (hag:∀ b ∈ fp (.B l k),w'.heap[b]? = w.heap[b]?) (hb:∀ l k,st'.box l k=st.box l k:=by intros;rfl):look st' tm ρ w' (.B l k) c=some (x,v):=by
 simp only [look,hb] at hl |-;cases hbx:st.box l k with
 | none=>simp [hbx] at hl
 | some cs =>
   simp only [hbx] at hl |-;obtain ⟨C,ty,f,hfp,hheap,_⟩:=h.boxes l k cs hbx;have h':w'.heap[ρ l k]? = some (.cells C ty (0,0)):=(hag _ (by rw [hfp];simp)).trans hheap;cases hc:cs[c]? with
   | none=>simp [hc] at hl
   | some y =>
     simp only [hc] at hl |-;rw [Qau hheap] at hl;rw [Qau h'];exact hl
theorem Rel.updS (h:Rel cx w F ρ fp X st tm) {s c:Nat} {p:Qg8} {x0:IV} {v0:Value} {e es a n cap} (hl:look st tm ρ w (.S s) c=some (x0,v0))
 (hf:Qci w x0 v0 p=some (.own e es,.slice a n cap)) :
 ∃ pre g post,fp (.S s)=pre++(g++post)/\RDs w F [.own e es] [.slice a n cap] g /\
   ∀ {w' F' y g' X'} {pk:IV->Bool},Upd w F g X w' F' y (.slice a n cap) g' X'->Qaj pk->(∃ e' es',y=.own e' es') \/ y=.un \/ (∃ e' es' c',y=.lst e' es' c') ->
     Qkm w w' g (.S s) pk (.own e es) y (.slice a n cap) ->
     ∃ x0' T',Quz x0 p y=some x0'/\T'=(s,Qbv (Qav st.T s) c x0')::st.T /\
       Rel cx w' F' ρ (Qao fp (.S s) (pre++(g'++post))) X' { st with T:=Qa3 pk T' } tm /\
       Tr w F ρ st (look st tm ρ w) w' F' ρ { st with T:=Qa3 pk T' } (look { st with T:=Qa3 pk T' } tm ρ w') (fun r c q=>∃ x:IV,Qby x r c q/\pk x=false):=by
 obtain ⟨e0,es0,rfl⟩:=Qbk hf;obtain ⟨a0,n0,cap0,rfl⟩:=Qct hf;obtain ⟨hx,hv⟩:=Qer hl;have hslot:=h.slots s;have key:∃ f1 f f2,fp (.S s)=f1++(f++f2)/\RDs w F [.own e0 es0] [.slice a0 n0 cap0] f /\
  (∀ {cx':Cx} {w' F' ρ' st' lk' pk y g'},Qaj pk->(∀ x v f',(∀ b ∈ f',b ∈ f1++f2)->RC cx w F ρ st (look st tm ρ w) x v f'->RC cx' w' F' ρ' st' lk' (klc pk x) v f') ->
    RDs w' F' [y] [.slice a0 n0 cap0] g'->(klc pk y=y)->(∀ cs,y ≠ .agg cs)->(∀ cs,y ≠ .tup cs)->(y=.un->g'=[])->Qa6 cx' w' F' ρ' st' lk' (kl pk (Qbv (Qav st.T s) c y)) (tm s) (f1++(g'++f2))) /\
  (∀ {pk y},Qaj pk->klc pk y=y->(∀ cs,y ≠ .agg cs)->(∀ cs,y ≠ .tup cs)->(kl pk (Qbv (Qav st.T s) c y)).cells[c]? = some y /\
    ∀ c2 e1 es1,c2 ≠ c->(Qav st.T s).cells[c2]? = some (.own e1 es1)->(kl pk (Qbv (Qav st.T s) c y)).cells[c2]? = some (.own e1 es1)) /\
  (∀ c2 e1 es1 v1,c2 ≠ c->(Qav st.T s).cells[c2]? = some (.own e1 es1)->(Qa5 (tm s))[c2]? = some v1->∃ f',RDs w F [.own e1 es1] [v1] f'/\∀ b ∈ f',b ∈ f1++f2):=by
  cases hT:Qav st.T s with
  | agg cs =>
    rw [hT] at hslot hx;obtain ⟨C,hC,hcat⟩:=hslot;obtain ⟨v1,f1,f,f2,h1,h2,h3,hput⟩:=hcat.at_ hx
    rw [hC] at hv;simp only [Qa5] at hv;rw [h1] at hv;cases hv;have hclt:c < C.toList.length:=by
     rcases Kbw c C.toList.length with hh | hh
     . exact hh
     . rw [Kar hh] at h1;cases h1
    have hclt':c < cs.length:=by rw [hcat.len];exact hclt
    refine ⟨f1,f,f2,h2,?_,?_,?_,?_⟩
    . rcases h3 with ⟨h3,_⟩ | h3
      . exact h3.elim
      . exact h3
    rotate_left
    . intro pk y hpk hky hna hnt;simp only [Qbv,kl,kl1,IV.cells,Kdx];refine ⟨by rw [Kbl hclt'];simp [hky],fun c2 e1 es1 hne hc2=>?_⟩;rw [Kbi (Ne.symm hne),show cs[c2]? = some (.own e1 es1) from hc2];simp [Qf1 hpk]
    . intro c2 e1 es1 v2 hne hc2 hv2;have:=hput (RC cx w F ρ st (look st tm ρ w)) .un (.slice a0 n0 cap0) [] (fun _ _ _ _ h=>h) (.inr (.un .nil));obtain ⟨v3,q1,q,q2,hv3,hq,hRq,-⟩:=this.at_ (i:=c2) (x:=.own e1 es1) (by rw [Kbi (Ne.symm hne)];exact hc2)
      rw [Kbi (Ne.symm hne)] at hv3;rw [hC] at hv2;simp only [Qa5] at hv2;rw [hv3] at hv2;cases hv2;rcases hRq with ⟨hh,_⟩ | hRq
      . exact hh.elim
      . refine ⟨q,hRq,fun b hb=>?_⟩;have:b ∈ f1++([]++f2):=by rw [hq];simp [hb]
        simpa using this
    . intro cx' w' F' ρ' st' lk' pk y g' hpk hr hy hky _ _ _;have:=hput (fun x v f=>RC cx' w' F' ρ' st' lk' (klc pk x) v f) y (.slice a0 n0 cap0) g' hr (by rw [hky];exact .inr hy);refine ⟨C,hC,?_⟩;have hset:C.toList.set c (.slice a0 n0 cap0)=C.toList:=by
       apply Kdc;intro k;by_cases hk:c=k
       . subst hk;rw [Kbl hclt,h1]
       . rw [Kbi hk]
      rw [hset] at this;exact this.map_kl
  | own e' es' =>
    rw [hT] at hslot hx;simp only [IV.cells] at hx;have hc:c=0:=by
     cases c with
     | zero=>rfl
     | succ c=>simp at hx
    subst hc;simp only [Kcs,Kaa] at hx;cases hx;have htm:tm s=.slice a0 n0 cap0:=by
     rcases hslot with ⟨hs,_⟩ | hs
     . exact hs.elim
     . rcases RDs.own_inv hs with ⟨_,_,a',ha⟩ | ⟨b,o,cap',C,ty,fp1,ha,_⟩ <;>
       . rw [ha] at hv;simp only [Qa5,Kcs,Kaa] at hv;rw [ha,hv]
    refine ⟨[],fp (.S s),[],by simp,?_,?_,?_,?_⟩
    . rcases hslot with ⟨hs,_⟩ | hs
      . exact hs.elim
      . rw [htm] at hs;exact hs
    rotate_left
    . intro pk y hpk hky hna hnt;have hk:kl pk (Qbv (.own e0 es0) 0 y)=y:=by
       show kl pk y=y;cases y with
       | agg cs=>exact absurd rfl (hna _)
       | tup cs=>exact absurd rfl (hnt _)
       | _=>simp only [kl,kl1];exact hky
      rw [hk];refine ⟨?_,fun c2 e1 es1 hne hc2=>?_⟩
      . cases y with
        | agg cs=>exact absurd rfl (hna _)
        | tup cs=>exact absurd rfl (hnt _)
        | _=>rfl
      . cases c2 with
        | zero=>exact absurd rfl hne
        | succ c2=>simp [IV.cells] at hc2
    . intro c2 e1 es1 v2 hne hc2;cases c2 with
      | zero=>exact absurd rfl hne
      | succ c2=>simp [IV.cells] at hc2
    . intro cx' w' F' ρ' st' lk' pk y g' hpk hr hy hky hna hnt hun;have hk:kl pk (Qbv (.own e0 es0) 0 y)=y:=by
       show kl pk y=y;cases y with
       | agg cs=>exact absurd rfl (hna _)
       | tup cs=>exact absurd rfl (hnt _)
       | _=>simp only [kl,kl1];exact hky
      rw [hk,htm];simp only [Kaq,Kbb];rw [Qbg hnt];cases y with
      | agg cs=>exact absurd rfl (hna _)
      | un=>exact hun rfl
      | _=>exact .inr hy
  | tup vs =>
    rw [hT] at hslot;obtain ⟨C,hC,-⟩:=hslot;rw [hC] at hv;simp only [Qa5] at hv;cases c <;> simp at hv
  | _ =>
    rw [hT] at hx;simp only [IV.cells] at hx;cases c <;> simp at hx
 obtain ⟨f1,f,f2,hfp,hRD,hput,hcells,hothers⟩:=key;obtain ⟨u,g1,g,g2,hfu,rfl,hRn,hput2⟩:=hRD.fol (Qdc hf);rw [hf] at hfu;simp only [Kaa,Kab,Kfe] at hfu;subst hfu;have hfp':fp (.S s)=(f1++g1)++(g++(g2++f2)):=by rw [hfp];simp
 have hRDnd:(g1++(g++g2)).Nodup:=by
  have:=h.nodup (.S s);rw [hfp] at this;exact (Kan.1 (Kan.1 this).2.1).1
 refine ⟨f1++g1,g,g2++f2,hfp',hRn,?_⟩;intro w' F' y g' X' pk hu hpk hy hkeep;have hmid:=Qim (hfp' ▸ h.nodup (.S s));obtain ⟨U1,U2,U3,U4,U5,U6,U7,U8,U9,U10,U11⟩:=Qow h hfp' hu;have hag1:∀ b,b ∈ g1++g2->w'.heap[b]? = w.heap[b]?:=fun b hb=>by
  refine hu.keep b (h.lt (.S s) b (by rw [hfp'];simp only [Kah] at hb |-;rcases hb with h | h <;> simp [h])) (fun hg=>?_);simp only [Kah] at hb;rcases hb with hb | hb
  . exact (hmid b hg).1 (by simp [hb])
  . exact (hmid b hg).2 (by simp [hb])
 have hagF:∀ b,F b->w'.heap[b]? = w.heap[b]?:=fun b hb=>hu.keep b (h.Flt b hb) (U11 b hb);obtain ⟨x0',hset,hRx,hfx⟩:=hput2 w' F' y g' hag1 hagF hu.Fm hu.rd;refine ⟨x0',(s,Qbv (Qav st.T s) c x0')::st.T,hset,rfl,?_⟩;have hx0:(∃ e' es',x0'=.own e' es') \/ (p=[]/\x0'=y):=by
  cases p with
  | nil=>simp only [Quz,Kaa] at hset;exact .inr ⟨rfl,hset.symm⟩
  | cons ij p =>
    obtain ⟨i,j⟩:=ij;simp only [Quz] at hset;cases hi:es0[i]? with
    | none=>simp [hi] at hset
    | some el =>
      cases hj:el[j]? with
      | none=>simp [hi,hj] at hset
      | some z =>
        cases hz:Quz z p y with
        | none=>simp [hi,hj,hz] at hset
        | some z'=>simp only [hi,hj,hz,Kaa] at hset;exact .inl ⟨_,_,hset.symm⟩
 have hyk:klc pk y=y:=by
  rcases hy with ⟨e',es',rfl⟩ | rfl | ⟨e',es',c',rfl⟩
  . exact Qf1 hpk _ _
  . unfold klc;split <;> rfl
  . unfold klc;split
    . rename_i hh;have:=hpk _ hh;simp [IV.isR] at this
    . rfl
 have hx0k:klc pk x0'=x0':=by
  rcases hx0 with ⟨e',es',rfl⟩ | ⟨_,rfl⟩
  . exact Qf1 hpk _ _
  . exact hyk
 have hx0a:∀ cs,x0' ≠ .agg cs:=by
  rcases hx0 with ⟨e',es',rfl⟩ | ⟨_,rfl⟩
  . intro cs h;cases h
  . rcases hy with ⟨e',es',rfl⟩ | rfl | ⟨e',es',c',rfl⟩ <;> intro cs h <;> cases h
 have hx0t:∀ cs,x0' ≠ .tup cs:=by
  rcases hx0 with ⟨e',es',rfl⟩ | ⟨_,rfl⟩
  . intro cs h;cases h
  . rcases hy with ⟨e',es',rfl⟩ | rfl | ⟨e',es',c',rfl⟩ <;> intro cs h <;> cases h
 have tr:Tr w F ρ st (look st tm ρ w) w' F' ρ { st with T:=Qa3 pk ((s,Qbv (Qav st.T s) c x0')::st.T) }
  (look { st with T:=Qa3 pk ((s,Qbv (Qav st.T s) c x0')::st.T) } tm ρ w') (fun r c q=>∃ x:IV,Qby x r c q/\pk x=false):=by
  refine ⟨fun r c2 q hlive x1 v1 e2 es2 ha hn hcap hlk hfo=>?_,hagF,hu.Fm,fun l k hb=>⟨rfl,hb⟩⟩;obtain ⟨e1,es1,rfl⟩:=Qbk hfo;by_cases hr:r=.S s
  . subst hr;rcases hkeep with hk | ⟨b,hbg,hagb,hnode⟩
    . obtain ⟨x,hx1,hx2⟩:=hlive;have:x.rooted (.S s)=true:=Qc1 hx1;rw [hk x this] at hx2;cases hx2
    . obtain ⟨hxc,hvc⟩:=Qer hlk;by_cases hcc:c2=c
      . subst hcc;rw [hx] at hxc;cases hxc;rw [hv] at hvc;cases hvc;obtain ⟨es2',hr',hl'⟩:=Qux hagb (fun g'' hg''=>by rw [<- hRn.det hg''];exact hbg) hnode hRD hRDnd hf hset q e2 es2 _ hfo;exact ⟨x0',es2',Qb3 (by rw [Qap];simp only [Qav,if_true];exact (hcells hpk hx0k hx0a hx0t).1) hv,hr',hl'⟩
      . obtain ⟨f',hRf,hsubf⟩:=hothers c2 e1 es1 v1 hcc hxc hvc;refine ⟨.own e1 es1,es2,Qb3 (by rw [Qap];simp only [Qav,if_true];exact (hcells hpk hx0k hx0a hx0t).2 c2 e1 es1 hcc hxc) hvc,Qco hRf (fun c' hc'=>hagb c' (fun he=>?_)) hfo,Kam _⟩;subst he;have:=hsubf _ hc';simp only [Kah] at this;rcases this with h1 | h1
        . exact (hmid _ hbg).1 (by simp [h1])
        . exact (hmid _ hbg).2 (by simp [h1])
  . refine ⟨.own e1 es1,es2,?_,?_,Kam _⟩
    . cases r with
      | S s' =>
        obtain ⟨h1,h2⟩:=Qer hlk;refine Qb3 ?_ h2;rw [Qap];have hss:s ≠ s':=fun hc=>hr (by rw [hc]);simp only [Qav,if_neg hss];exact Qe0 hpk h1
      | B l k=>exact Qf2 h hlk (fun b hb=>hu.keep b (h.lt _ b hb) (U10 _ (by intro hc;cases hc) b hb))
    . obtain ⟨f',hf1,_,hf3⟩:=h.data hlk (Qct hfo);exact Qco hf3 (fun b hb=>hu.keep b (h.lt _ b (hf1 b hb)) (U10 _ hr b (hf1 b hb))) hfo
 have hlive:Jbs pk (fun r c q=>∃ x:IV,Qby x r c q/\pk x=false):=fun x r c q h1 h2=>⟨x,h1,h2⟩;refine ⟨?_,tr⟩;refine ⟨fun s'=>?_,fun l k cs hb=>?_,fun l k hb=>?_,U1,U2,U3,U4,U5,hu.xn,U6,hu.xF,U7⟩
 . by_cases hs:s'=s
   . subst hs;have hun:x0'=.un->g1++(g'++g2)=[]:=fun h0=>by rw [h0] at hRx;exact hRx.un_nil
     have:=hput (cx':=cx) (pk:=pk) hpk (fun x v f' hf' hrc=>hrc.trk tr hpk (fun r c q hq hpf=>⟨x,hq,hpf⟩) (fun b hb=>hu.keep b (h.lt (.S s') b (by rw [hfp];have:=hf' b hb;simp only [Kah] at this |-;rcases this with h | h <;> simp [h])) (fun hg=>by
      have:=hf' b hb;simp only [Kah] at this;rcases this with h1 | h1
      . exact (hmid _ hg).1 (by simp [h1])
      . exact (hmid _ hg).2 (by simp [h1])))) hRx hx0k hx0a hx0t hun
     rw [Qap];simp only [Qav,if_true,Qao];have e1:f1++(g1++(g'++g2)++f2)=f1++g1++(g'++(g2++f2)):=by simp
     rw [<- e1];exact this
   . rw [Qap];have hss:s ≠ s':=fun hc=>hs hc.symm;simp only [Qav,if_neg hss];have hne:(Rt.S s':Rt) ≠ .S s:=fun hc=>hs (by cases hc;rfl);rw [show Qao fp (.S s) (f1++g1++(g'++(g2++f2))) (.S s')=fp (.S s') from if_neg hne];exact (h.slots s').trk tr hpk hlive (fun b hb=>hu.keep b (h.lt _ b hb) (U10 _ hne b hb))
 . obtain ⟨C,ty,f',h1,h2,h3⟩:=h.boxes l k cs hb;have hne:(Rt.B l k:Rt) ≠ .S s:=fun hc=>by cases hc
   have hag:∀ b ∈ fp (.B l k),w'.heap[b]? = w.heap[b]?:=fun b hb=>hu.keep b (h.lt _ b hb) (U10 _ hne b hb);refine ⟨C,ty,f',by rw [show Qao fp (.S s) (f1++g1++(g'++(g2++f2))) (.B l k)=fp (.B l k) from if_neg hne];exact h1,(hag _ (by rw [h1];simp)).trans h2,?_⟩;exact h3.mono fun x v f hf hx _=>hx.tr tr (fun b hb=>hag b (by rw [h1];simp [hf b hb]))
 . have hne:(Rt.B l k:Rt) ≠ .S s:=fun hc=>by cases hc
   rw [show Qao fp (.S s) (f1++g1++(g'++(g2++f2))) (.B l k)=fp (.B l k) from if_neg hne];exact h.nobox l k hb
end
end Go.Idl
namespace Go.Idl
open Go
structure Qbf (st st':St):Prop where
 M:st'.M.map List.length=st.M.map List.length
 loc:st.loc.length<=st'.loc.length
theorem Qbf.refl (st:St):Qbf st st:=⟨rfl,Kam _⟩
theorem Qbf.trans {a b c:St} (h:Qbf a b) (h':Qbf b c):Qbf a c:=⟨h'.M.trans h.M,Kcp h.loc h'.loc⟩
theorem Qbf.len {a b:St} (h:Qbf a b):b.M.length=a.M.length:=by simpa using congrArg List.length h.M
theorem Qh0 {st:St} {l k:Nat}:(st.box l k).isSome=true <-> (l=st.M.length/\k < st.loc.length) \/ (l ≠ st.M.length/\∃ n,(st.M.map List.length)[l]? = some n/\k < n):=by
 unfold St.box;split
 . rename_i h;simp [h]
 . rename_i h;cases hl:st.M[l]? with
   | none=>simp [h,hl]
   | some b=>simp [h,hl]
theorem Qbf.box {st st':St} (h:Qbf st st') {l k:Nat} (hb:(st.box l k).isSome=true):(st'.box l k).isSome=true:=by
 rw [Qh0] at hb |-;rw [h.len,h.M];rcases hb with ⟨h1,h2⟩ | h1
 . exact .inl ⟨h1,Kcd h2 h.loc⟩
 . exact .inr h1
theorem Qi1 {st:St} {l k:Nat} {cs':List IV} (hb:(st.box l k).isSome=true) (l' k':Nat) :
 (st.setBox l k cs').box l' k'=if l'=l/\k'=k then some cs' else st.box l' k':=by
 unfold St.setBox;split
 . rename_i h;subst h;have hk:k < st.loc.length:=by
    rw [Qh0] at hb;rcases hb with ⟨_,h⟩ | ⟨h,_⟩
    . exact h
    . exact absurd rfl h
   unfold St.box;by_cases h1:l'=st.M.length
   . simp only [h1,if_true,Kfe];by_cases h2:k'=k
     . subst h2;simp [hk]
     . simp [h2,Ne.symm h2]
   . simp [h1]
 . rename_i h;cases hl:st.M[l]? with
   | none=>unfold St.box at hb;simp [h,hl] at hb
   | some b =>
     have hlt:l < st.M.length:=(Kak.1 hl).1;have hk:k < b.length:=by
      unfold St.box at hb;simpa [h,hl] using hb
     unfold St.box;by_cases h1:l'=st.M.length
     . have:l' ≠ l:=by omega
       simp [h1,Ne.symm h]
     . by_cases h2:l'=l
       . subst h2;simp only [List.length_set,h1,Kbs,Kbl hlt,hl,Kfe];by_cases h3:k'=k
         . subst h3;simp [hk]
         . simp [h3,Kbi (Ne.symm h3)]
       . simp [h1,h2,Kbi (Ne.symm h2)]
theorem Qgt (st:St) (l k:Nat) (cs:List IV):Qbf st (st.setBox l k cs):=by
 unfold St.setBox;split
 . exact ⟨rfl,by simp⟩
 . split
   . rename_i b hb;refine ⟨?_,Kam _⟩;simp only [Ker];apply Kdc;intro i;by_cases hi:l=i
     . subst hi;have hlt:l < st.M.length:=(Kak.1 hb).1;rw [Kbl (by simpa using hlt)];simp [hb]
     . rw [Kbi hi]
   . exact .refl _
theorem Qit (st:St) (l k:Nat) (cs:List IV):(st.setBox l k cs).T=st.T:=by
 unfold St.setBox;split
 . rfl
 . split <;> rfl
section
variable {cx:Cx} {w w':World} {F F':Nat->Prop} {ρ:Rho} {fp:Fp} {X X':List Nat} {st:St} {tm:Nat->Value}
theorem Rel.updB (h:Rel cx w F ρ fp X st tm) {l k c:Nat} {p:Qg8} {x0:IV} {v0:Value} {e es a n cap} (hl:look st tm ρ w (.B l k) c=some (x0,v0))
 (hf:Qci w x0 v0 p=some (.own e es,.slice a n cap)) :
 ∃ cs pre g post,st.box l k=some cs/\cs[c]? = some x0/\fp (.B l k)=pre++(g++post)/\RDs w F [.own e es] [.slice a n cap] g /\
   ∀ {w' F' y g' X'} {pk:IV->Bool},Upd w F g X w' F' y (.slice a n cap) g' X'->Qaj pk ->
     Qkm w w' g (.B l k) pk (.own e es) y (.slice a n cap) ->
     ∃ x0',Quz x0 p y=some x0' /\
       Rel cx w' F' ρ (Qao fp (.B l k) (pre++(g'++post))) X' { st.setBox l k (cs.set c x0') with T:=Qa3 pk st.T } tm /\
       Tr w F ρ st (look st tm ρ w) w' F' ρ { st.setBox l k (cs.set c x0') with T:=Qa3 pk st.T } (look { st.setBox l k (cs.set c x0') with T:=Qa3 pk st.T } tm ρ w') (fun r c q=>∃ x:IV,Qby x r c q/\pk x=false):=by
 obtain ⟨e0,es0,rfl⟩:=Qbk hf;obtain ⟨a0,n0,cap0,rfl⟩:=Qct hf;have hl0:=hl;simp only [look] at hl;cases hbx:st.box l k with
 | none=>simp [hbx] at hl
 | some cs =>
 simp only [hbx] at hl;obtain ⟨C,ty,f0,hfp0,hheap,hcat⟩:=h.boxes l k cs hbx;cases hc:cs[c]? with
 | none=>simp [hc] at hl
 | some x =>
 simp only [hc] at hl;obtain ⟨v1,f1,f,f2,h1,h2,h3,hput⟩:=hcat.at_ hc
 have hcell:w.cell? ⟨ρ l k,c,none⟩=some v1:=by rw [Qau hheap];simpa using h1
 rw [hcell] at hl;simp only [Kaa,Kab] at hl;obtain ⟨rfl,rfl⟩:=hl;have hRD:RDs w F [.own e0 es0] [.slice a0 n0 cap0] f:=by
  rcases h3 with ⟨h3,_⟩ | h3
  . exact h3.elim
  . exact h3
 have hclt:c < C.toList.length:=by
  rcases Kbw c C.toList.length with hh | hh
  . exact hh
  . rw [Kar hh] at h1;cases h1
 have hclt':c < cs.length:=by rw [hcat.len];exact hclt
 obtain ⟨u,g1,g,g2,hfu,hfe,hRn,hput2⟩:=hRD.fol (Qdc hf);rw [hf] at hfu;simp only [Kaa,Kab,Kfe] at hfu;subst hfu;have hfp':fp (.B l k)=(ρ l k::(f1++g1))++(g++(g2++f2)):=by rw [hfp0,h2,hfe];simp
 have hRDnd:f.Nodup:=by
  have:=h.nodup (.B l k);rw [hfp0,h2] at this;exact (Kan.1 (Kan.1 (Kbq.1 this).2).2.1).1
 refine ⟨cs,ρ l k::(f1++g1),g,g2++f2,rfl,hc,hfp',hRn,?_⟩;intro w' F' y g' X' pk hu hpk hkeep;have hmid:=Qim (hfp' ▸ h.nodup (.B l k));obtain ⟨U1,U2,U3,U4,U5,U6,U7,U8,U9,U10,U11⟩:=Qow h hfp' hu;have hag0:∀ b,b ∈ ρ l k::(f1++g1)++(g2++f2)->w'.heap[b]? = w.heap[b]?:=fun b hb=>by
  refine hu.keep b (h.lt (.B l k) b (by rw [hfp'];simp only [Kah] at hb |-;rcases hb with h | h <;> simp [h])) (fun hg=>?_);simp only [Kah] at hb;rcases hb with hb | hb
  . exact (hmid b hg).1 hb
  . exact (hmid b hg).2 (by simpa using hb)
 have hagF:∀ b,F b->w'.heap[b]? = w.heap[b]?:=fun b hb=>hu.keep b (h.Flt b hb) (U11 b hb);obtain ⟨x0',hset,hRx,hfx⟩:=hput2 w' F' y g' (fun b hb=>hag0 b (by simp only [Kah,Kaf] at hb |-;rcases hb with h | h <;> simp [h])) hagF hu.Fm hu.rd;refine ⟨x0',hset,?_⟩;have hsome:(st.box l k).isSome=true:=by rw [hbx];rfl
 have hbs:=fun l' k'=>Qi1 (cs':=cs.set c x0') hsome l' k';have hheap':w'.heap[ρ l k]? = some (.cells C ty (0,0)):=(hag0 _ (by simp)).trans hheap;have shp:=Qgt st l k (cs.set c x0');have tr:Tr w F ρ st (look st tm ρ w) w' F' ρ { st.setBox l k (cs.set c x0') with T:=Qa3 pk st.T }
  (look { st.setBox l k (cs.set c x0') with T:=Qa3 pk st.T } tm ρ w') (fun r c q=>∃ x:IV,Qby x r c q/\pk x=false):=by
  refine ⟨fun r c2 q hlive x1 v1 e2 es2 ha hn hcap hlk hfo=>?_,hagF,hu.Fm,fun l' k' hb=>⟨rfl,shp.box hb⟩⟩;obtain ⟨e1,es1,rfl⟩:=Qbk hfo;by_cases hr:r=.B l k
  . subst hr;rcases hkeep with hk | ⟨b,hbg,hagb,hnode⟩
    . obtain ⟨x,hx1,hx2⟩:=hlive;have:x.rooted (.B l k)=true:=Qc1 hx1;rw [hk x this] at hx2;cases hx2
    . simp only [look,hbx] at hlk;by_cases hcc:c2=c
      . subst hcc;simp only [hc,hcell,Kaa,Kab,IV.own.injEq] at hlk;obtain ⟨⟨rfl,rfl⟩,rfl⟩:=hlk;obtain ⟨es2',hr',hl'⟩:=Qux hagb (fun g'' hg''=>by rw [<- hRn.det hg''];exact hbg) hnode hRD hRDnd hf hset q e2 es2 _ hfo;refine ⟨x0',es2',?_,hr',hl'⟩;simp only [look,Qj8,hbs,and_self,if_true,Kbl hclt'];have:w'.cell? ⟨ρ l k,c2,none⟩=some (.slice a0 n0 cap0):=by rw [Qau hheap'];simpa using h1
        rw [this]
      . cases hc2:cs[c2]? with
        | none=>simp [hc2] at hlk
        | some y2 =>
        simp only [hc2] at hlk;have hq:=hput (Qj7 cx w F ρ st l) .un (.slice a0 n0 cap0) [] (fun _ _ _ _ h=>h) (.inr (.un .nil));obtain ⟨v3,q1,qf,q2,hv3,hqe,hRq,-⟩:=hq.at_ (i:=c2) (x:=y2) (by rw [Kbi (Ne.symm hcc)];exact hc2)
        rw [Kbi (Ne.symm hcc)] at hv3;have hcell2:w.cell? ⟨ρ l k,c2,none⟩=some v3:=by rw [Qau hheap];simpa using hv3
        rw [hcell2] at hlk;simp only [Kaa,Kab] at hlk;obtain ⟨rfl,rfl⟩:=hlk;have hcell2':w'.cell? ⟨ρ l k,c2,none⟩=some v3:=by rw [Qau hheap'];simpa using hv3
        have hRq':RDs w F [.own e1 es1] [v3] qf:=by
         rcases hRq with ⟨hh,_⟩ | hRq
         . exact hh.elim
         . exact hRq
        refine ⟨.own e1 es1,es2,?_,Qco hRq' (fun c' hc'=>hagb c' (fun he=>?_)) hfo,Kam _⟩
        . simp only [look,Qj8,hbs,and_self,if_true,Kbi (Ne.symm hcc),hc2,hcell2']
        . subst he;have hm:c' ∈ f1++([]++f2):=by rw [hqe];simp [hc']
          simp only [Kaq,Kah] at hm;rcases hm with h1 | h1
          . exact (hmid _ hbg).1 (by simp [h1])
          . exact (hmid _ hbg).2 (by simp [h1])
  . have hagr:∀ b ∈ fp r,w'.heap[b]? = w.heap[b]?:=fun b hb=>hu.keep b (h.lt _ b hb) (U10 _ hr b hb);refine ⟨.own e1 es1,es2,?_,h.tr_other hlk hfo hagr,Kam _⟩;cases r with
    | S s' =>
      obtain ⟨h1,h2⟩:=Qer hlk;refine Qb3 ?_ h2;rw [Qap];exact Qe0 hpk h1
    | B l' k' =>
      have hne:¬ (l'=l/\k'=k):=fun hc=>hr (by rw [hc.1,hc.2]);have hb1:({ st.setBox l k (cs.set c x0') with T:=Qa3 pk st.T }:St).box l' k'=st.box l' k':=by
       rw [Qj8,hbs,if_neg hne]
      have:=Qf2 (st':=st) h hlk hagr;simp only [look,hb1];simp only [look] at this;exact this
 have hlive:Jbs pk (fun r c q=>∃ x:IV,Qby x r c q/\pk x=false):=fun x r c q h1 h2=>⟨x,h1,h2⟩;refine ⟨?_,tr⟩;refine ⟨fun s'=>?_,fun l' k' cs' hb=>?_,fun l' k' hb=>?_,U1,U2,U3,U4,U5,hu.xn,U6,hu.xF,U7⟩
 . rw [Qap];have hne:(Rt.S s':Rt) ≠ .B l k:=fun hc=>by cases hc
   rw [show Qao fp (.B l k) (ρ l k::(f1++g1)++(g'++(g2++f2))) (.S s')=fp (.S s') from if_neg hne];exact (h.slots s').trk tr hpk hlive (fun b hb=>hu.keep b (h.lt _ b hb) (U10 _ hne b hb))
 . rw [Qj8,hbs] at hb;by_cases hlk:l'=l/\k'=k
   . obtain ⟨rfl,rfl⟩:=hlk;simp only [and_self,if_true,Kaa] at hb;subst hb;refine ⟨C,ty,f1++(g1++(g'++g2)++f2),?_,hheap',?_⟩
     . rw [show Qao fp (.B l' k') (ρ l' k'::(f1++g1)++(g'++(g2++f2))) (.B l' k')=ρ l' k'::(f1++g1)++(g'++(g2++f2)) from if_pos rfl];simp
     . have:=hput (Qj7 cx w' F' ρ { st.setBox l' k' (cs.set c x0') with T:=Qa3 pk st.T } l') x0' (.slice a0 n0 cap0) _ (fun x v f' hf' hx=>hx.tr tr (fun b hb=>hag0 b (by
        have:=hf' b hb;simp only [Kah,Kaf] at this |-;rcases this with h | h <;> simp [h]))) (.inr hRx)
       have hset':C.toList.set c (.slice a0 n0 cap0)=C.toList:=by
        apply Kdc;intro i;by_cases hi:c=i
        . subst hi;rw [Kbl hclt,h1]
        . rw [Kbi hi]
       rw [hset'] at this;exact this
   . rw [if_neg hlk] at hb;obtain ⟨C',ty',f',k1,k2,k3⟩:=h.boxes l' k' cs' hb;have hne:(Rt.B l' k':Rt) ≠ .B l k:=fun hc=>hlk (by cases hc;exact ⟨rfl,rfl⟩);have hag:∀ b ∈ fp (.B l' k'),w'.heap[b]? = w.heap[b]?:=fun b hb=>hu.keep b (h.lt _ b hb) (U10 _ hne b hb);refine ⟨C',ty',f',by rw [show Qao fp (.B l k) (ρ l k::(f1++g1)++(g'++(g2++f2))) (.B l' k')=fp (.B l' k') from if_neg hne];exact k1,(hag _ (by rw [k1];simp)).trans k2,?_⟩;exact k3.mono fun x v f hf hx _=>hx.tr tr (fun b hb=>hag b (by rw [k1];simp [hf b hb]))
 . rw [Qj8,hbs] at hb;by_cases hlk:l'=l/\k'=k
   . rw [if_pos hlk] at hb;cases hb
   . rw [if_neg hlk] at hb;have hne:(Rt.B l' k':Rt) ≠ .B l k:=fun hc=>hlk (by cases hc;exact ⟨rfl,rfl⟩);rw [show Qao fp (.B l k) (ρ l k::(f1++g1)++(g'++(g2++f2))) (.B l' k')=fp (.B l' k') from if_neg hne];exact h.nobox l' k' hb
end
end Go.Idl
namespace Go.Idl
open Go
section
variable {cx:Cx} {w w':World} {F F':Nat->Prop} {ρ:Rho} {fp:Fp} {X X' f:List Nat} {st:St} {tm:Nat->Value}
theorem Qe6 (h:Rel cx w F ρ fp X st tm) {r c p x0 v0 y} (hl:look st tm ρ w r c=some (x0,v0)) (hf:Qci w x0 v0 p=some y):st.plc r c p=some y.1:=by
 have hfo:=Qdc hf;cases r with
 | S s=>simp [St.plc,St.rcells,(Qer hl).1,hfo]
 | B l k =>
   simp only [look] at hl;cases hb:st.box l k with
   | none=>simp [hb] at hl
   | some cs =>
     simp only [hb] at hl;cases hc:cs[c]? with
     | none=>simp [hc] at hl
     | some x =>
       simp only [hc] at hl;split at hl
       . simp only [Kaa,Kab] at hl;simp [St.plc,St.rcells,hb,hc,hl.1,hfo]
       . cases hl
theorem Rel.upd (h:Rel cx w F ρ fp X st tm) {r c p x0 v0 e es a n cap} (hl:look st tm ρ w r c=some (x0,v0))
 (hf:Qci w x0 v0 p=some (.own e es,.slice a n cap)) :
 ∃ pre g post,fp r=pre++(g++post)/\RDs w F [.own e es] [.slice a n cap] g /\
   ∀ {w' F' y g' X'} {pk:IV->Bool},Upd w F g X w' F' y (.slice a n cap) g' X'->Qaj pk->((∃ e' es',y=.own e' es') \/ y=.un \/ (∃ e' es' c',y=.lst e' es' c')) ->
     Qkm w w' g r pk (.own e es) y (.slice a n cap) ->
     ∃ st',st.setPlc r c p y=some st'/\Qbf st st'/\Rel cx w' F' ρ (Qao fp r (pre++(g'++post))) X' { st' with T:=Qa3 pk st'.T } tm /\
       Tr w F ρ st (look st tm ρ w) w' F' ρ { st' with T:=Qa3 pk st'.T } (look { st' with T:=Qa3 pk st'.T } tm ρ w') (fun r c q=>∃ x:IV,Qby x r c q/\pk x=false):=by
 have hp:=Qe6 h hl hf;cases r with
 | S s =>
   obtain ⟨pre,g,post,h1,h2,h3⟩:=h.updS hl hf;refine ⟨pre,g,post,h1,h2,fun hu hk hy hkeep=>?_⟩;obtain ⟨x0',T',h4,h5,h6⟩:=h3 hu hk hy hkeep;subst h5;refine ⟨{ st with T:=(s,Qbv (Qav st.T s) c x0')::st.T },?_,?_,h6⟩
   . simp [St.setPlc,St.rcells,(Qer hl).1,h4]
   . exact ⟨rfl,Kam _⟩
 | B l k =>
   obtain ⟨cs,pre,g,post,hb,hc,h1,h2,h3⟩:=h.updB hl hf;refine ⟨pre,g,post,h1,h2,fun hu hk hy hkeep=>?_⟩;obtain ⟨x0',h4,h6⟩:=h3 hu hk hkeep;refine ⟨st.setBox l k (cs.set c x0'),?_,Qgt st l k (cs.set c x0'),?_⟩
   . simp [St.setPlc,St.rcells,hb,hc,h4]
   . rw [Qit];exact h6
theorem Qu0 {x:IV} {c:Nat} {e es} (h:x.cells[c]? = some (.own e es)):x.holds=true:=by
 cases x with
 | agg cs =>
   simp only [IV.cells] at h;simp only [IV.holds,Kfb];exact ⟨_,Kbn h,rfl⟩
 | own e' es'=>rfl
 | tup vs=>rfl
 | _=>simp only [IV.cells] at h;cases c <;> simp at h
theorem Qqu (h:Rel cx w F ρ fp X st tm) (d:Nat) (y:IV) (v':Value) (pk:IV->Bool) (hpk:Qaj pk) (hd:(∀ x:IV,x.rooted (.S d)=true->pk x=true) \/ (Qav st.T d).holds=false) :
 Tr w F ρ st (look st tm ρ w) w F ρ { st with T:=(d,y)::Qa3 pk st.T } (look { st with T:=(d,y)::Qa3 pk st.T } (fun s=>if s=d then v' else tm s) ρ w)
  (fun r c q=>∃ x:IV,Qby x r c q/\pk x=false):=by
 refine ⟨fun r c q hlive x0 v0 e es a n cap hl hf=>?_,fun _ _=>rfl,fun _ h=>h,fun l k hb=>⟨rfl,hb⟩⟩;obtain ⟨e0,es0,rfl⟩:=Qbk hf;refine ⟨.own e0 es0,es,?_,hf,Kam _⟩;cases r with
 | B l k=>exact hl
 | S s =>
   obtain ⟨h1,h2⟩:=Qer hl;by_cases hs:s=d
   . subst hs;rcases hd with hd | hd
     . obtain ⟨x,hx1,hx2⟩:=hlive;rw [hd x (Qc1 hx1)] at hx2;cases hx2
     . rw [Qu0 h1] at hd;cases hd
   . refine Qb3 ?_ ?_
     . simp only [Qav,if_neg (Ne.symm hs)];rw [Qap];exact Qe0 hpk h1
     . simp only [if_neg hs];exact h2
theorem Qp2 (pk:IV->Bool):Jbs pk (fun r c q=>∃ x:IV,Qby x r c q/\pk x=false):=fun x _ _ _ h1 h2=>⟨x,h1,h2⟩
theorem Rel.put_ (h:Rel cx w F ρ fp (f++X) st tm) {v:IV} {v':Value} (hv:Qa6 cx w F ρ st (look st tm ρ w) v v' f) (d:Nat) (pk:IV->Bool) (hpk:Qaj pk)
 (hd:(∀ x:IV,x.rooted (.S d)=true->pk x=true) \/ (Qav st.T d).holds=false) :
 Rel cx w F ρ (Qao fp (.S d) f) X { st with T:=(d,kl pk v)::Qa3 pk st.T } (fun s=>if s=d then v' else tm s):=by
 have tr:=Qqu h d (kl pk v) v' pk hpk hd;have hsub:∀ q,∀ b ∈ Qao fp (.S d) f q,b ∈ fp q \/ b ∈ f:=fun q b hb=>by
  unfold Qao at hb;split at hb
  . exact .inr hb
  . exact .inl hb
 have hxf:∀ b ∈ f,b ∈ f++X:=fun b hb=>by simp [hb]
 have hxx:∀ b ∈ X,b ∈ f++X:=fun b hb=>by simp [hb]
 have hnd:=Kan.1 h.xnodup;refine ⟨fun s=>?_,fun l k cs hb=>?_,fun l k hb=>?_,fun q=>?_,fun q q' hq b hb hb'=>?_,fun q b hb=>?_,fun q b hb=>?_,h.Flt,hnd.2.1,fun q b hb hx=>?_,
  fun b hb=>h.xF b (hxx b hb),fun b hb=>h.xlt b (hxx b hb)⟩
 . by_cases hs:s=d
   . subst hs;simp only [Qav,if_true];rw [show Qao fp (.S s) f (.S s)=f from if_pos rfl];exact hv.trk tr hpk (Qp2 pk) (fun _ _=>rfl)
   . simp only [Qav,if_neg (Ne.symm hs),if_neg hs];rw [Qap,show Qao fp (.S d) f (.S s)=fp (.S s) from if_neg (fun hc=>hs (by cases hc;rfl))];exact (h.slots s).trk tr hpk (Qp2 pk) (fun _ _=>rfl)
 . obtain ⟨C,ty,f',h1,h2,h3⟩:=h.boxes l k cs hb;exact ⟨C,ty,f',by rw [show Qao fp (.S d) f (.B l k)=fp (.B l k) from if_neg (fun hc=>by cases hc)];exact h1,h2,h3.mono fun x v f hf hx _=>hx.tr tr (fun _ _=>rfl)⟩
 . rw [show Qao fp (.S d) f (.B l k)=fp (.B l k) from if_neg (fun hc=>by cases hc)];exact h.nobox l k hb
 . unfold Qao;split
   . exact hnd.1
   . exact h.nodup q
 . unfold Qao at hb hb';split at hb <;> split at hb'
   . rename_i h1 h2;exact hq (h1.trans h2.symm)
   . exact h.xdisj q' b hb' (hxf b hb)
   . exact h.xdisj q b hb (hxf b hb')
   . exact h.disj q q' hq b hb hb'
 . rcases hsub q b hb with h1 | h1
   . exact h.notF q b h1
   . exact h.xF b (hxf b h1)
 . rcases hsub q b hb with h1 | h1
   . exact h.lt q b h1
   . exact h.xlt b (hxf b h1)
 . unfold Qao at hb;split at hb
   . exact hnd.2.2 b hb b hx rfl
   . exact h.xdisj q b hb (hxx b hx)
theorem Rel.perm (h:Rel cx w F ρ fp X st tm) (hp:X.Perm X'):Rel cx w F ρ fp X' st tm :=
 ⟨h.slots,h.boxes,h.nobox,h.nodup,h.disj,h.notF,h.lt,h.Flt,hp.nodup h.xnodup,fun r b hb hx=>h.xdisj r b hb (hp.mem_iff.2 hx),fun b hb=>h.xF b (hp.mem_iff.2 hb),fun b hb=>h.xlt b (hp.mem_iff.2 hb)⟩
theorem Rel.less (h:Rel cx w F ρ fp X st tm) (hs:X'.Sublist X):Rel cx w F ρ fp X' st tm :=
 ⟨h.slots,h.boxes,h.nobox,h.nodup,h.disj,h.notF,h.lt,h.Flt,hs.nodup h.xnodup,fun r b hb hx=>h.xdisj r b hb (hs.mem hx),fun b hb=>h.xF b (hs.mem hb),fun b hb=>h.xlt b (hs.mem hb)⟩
theorem Rel.put (h:Rel cx w F ρ fp (f++X) st tm) {v:IV} {v':Value} (hv:Qa6 cx w F ρ st (look st tm ρ w) v v' f) (d:Nat) :
 Rel cx w F ρ (Qao fp (.S d) f) X { st with T:=tput st.T d v } (fun s=>if s=d then v' else tm s):=by
 unfold tput;split
 . exact h.put_ hv d (IV.rooted (.S d)) (.rooted _) (.inl fun _ h=>h)
 . rename_i hh;have:=h.put_ hv d (fun _=>false) .none (.inr (by simpa using hh));rw [Qmp,Qhj] at this;exact this
theorem Rel.drop (h:Rel cx w F ρ fp X st tm) (s:Nat) :
 Rel cx w F ρ (Qao fp (.S s) []) (fp (.S s)++X) { st with T:=dropSlot s st.T } tm /\
  Qa6 cx w F ρ { st with T:=dropSlot s st.T } (look { st with T:=dropSlot s st.T } tm ρ w) (kl (IV.rooted (.S s)) (Qav st.T s)) (tm s) (fp (.S s)):=by
 have tr:=Qqu h s .un (tm s) (IV.rooted (.S s)) (.rooted _) (.inl fun _ h=>h);have htm:(fun q=>if q=s then tm s else tm q)=tm:=by funext q;by_cases hq:q=s <;> simp [hq]
 rw [htm] at tr;refine ⟨⟨fun q=>?_,fun l k cs hb=>?_,fun l k hb=>?_,fun q=>?_,fun q q' hq b hb hb'=>?_,fun q b hb=>?_,fun q b hb=>?_,h.Flt,?_,fun q b hb hx=>?_,fun b hb=>?_,fun b hb=>?_⟩,?_⟩
 . by_cases hq:q=s
   . subst hq;simp only [dropSlot,Qav,if_true];rw [show Qao fp (.S q) [] (.S q)=[] from if_pos rfl];rfl
   . simp only [dropSlot,Qav,if_neg (Ne.symm hq)];rw [Qce,Qap,show Qao fp (.S s) [] (.S q)=fp (.S q) from if_neg (fun hc=>hq (by cases hc;rfl))];exact (h.slots q).trk tr (.rooted _) (Qp2 _) (fun _ _=>rfl)
 . obtain ⟨C,ty,f',h1,h2,h3⟩:=h.boxes l k cs hb;exact ⟨C,ty,f',by rw [show Qao fp (.S s) [] (.B l k)=fp (.B l k) from if_neg (fun hc=>by cases hc)];exact h1,h2,h3.mono fun x v f hf hx _=>hx.tr tr (fun _ _=>rfl)⟩
 . rw [show Qao fp (.S s) [] (.B l k)=fp (.B l k) from if_neg (fun hc=>by cases hc)];exact h.nobox l k hb
 . unfold Qao;split
   . exact .nil
   . exact h.nodup q
 . unfold Qao at hb hb';split at hb <;> split at hb'
   . cases hb
   . cases hb
   . cases hb'
   . exact h.disj q q' hq b hb hb'
 . unfold Qao at hb;split at hb
   . cases hb
   . exact h.notF q b hb
 . unfold Qao at hb;split at hb
   . cases hb
   . exact h.lt q b hb
 . rw [Kan];exact ⟨h.nodup _,h.xnodup,fun a ha b hb hab=>h.xdisj _ a ha (hab ▸ hb)⟩
 . unfold Qao at hb;split at hb
   . cases hb
   . rename_i hq;simp only [Kah] at hx;rcases hx with hx | hx
     . exact h.disj q (.S s) hq b hb hx
     . exact h.xdisj q b hb hx
 . simp only [Kah] at hb;rcases hb with hb | hb
   . exact h.notF _ b hb
   . exact h.xF b hb
 . simp only [Kah] at hb;rcases hb with hb | hb
   . exact h.lt _ b hb
   . exact h.xlt b hb
 . exact (h.slots s).trk tr (.rooted _) (Qp2 _) (fun _ _=>rfl)
theorem Qaj.rootOut (live:List Nat):Qaj (rootOut live):=fun y h=>by
 cases y <;> simp_all [Idl.rootOut,IV.isR]
theorem Qiu (live:List Nat) (T:Tm) (s:Nat):Qav (restrict live T) s=if s ∈ live then kl (rootOut live) (Qav T s) else .un:=by
 unfold restrict
 suffices ∀ (l:List Nat),Qav (l.map fun s=>(s,kl (rootOut live) (Qav T s))) s=if s ∈ l then kl (rootOut live) (Qav T s) else .un from this live
 intro l
 induction l with
 | nil=>rfl
 | cons x xs ih =>
   simp only [Kbd,Qav,ih,Kaf];by_cases hx:x=s
   . subst hx;simp
   . simp [hx,Ne.symm hx]
theorem Rel.restrict (h:Rel cx w F ρ fp X st tm) (live:List Nat):∃ fp',(∀ q,∀ b ∈ fp' q,b ∈ fp q)/\(∀ l k,fp' (.B l k)=fp (.B l k)) /\
 Rel cx w F ρ fp' X { st with T:=Idl.restrict live st.T } tm:=by
 let fp':Fp:=fun q=>match q with
  | .S s=>if s ∈ live then fp (.S s) else []
  | .B l k=>fp (.B l k)
 have hsub:∀ q,∀ b ∈ fp' q,b ∈ fp q:=fun q b hb=>by
  cases q with
  | B l k=>exact hb
  | S s=>simp only [fp'] at hb;split at hb
         . exact hb
         . cases hb
 have tr:Tr w F ρ st (look st tm ρ w) w F ρ { st with T:=Idl.restrict live st.T } (look { st with T:=Idl.restrict live st.T } tm ρ w) (fun r c q=>∃ x:IV,Qby x r c q/\rootOut live x=false):=by
  refine ⟨fun r c q hlive x0 v0 e es a n cap hl hf=>?_,fun _ _=>rfl,fun _ h=>h,fun l k hb=>⟨rfl,hb⟩⟩;obtain ⟨e0,es0,rfl⟩:=Qbk hf;refine ⟨.own e0 es0,es,?_,hf,Kam _⟩;cases r with
  | B l k=>exact hl
  | S s =>
    obtain ⟨h1,h2⟩:=Qer hl;refine Qb3 ?_ h2;obtain ⟨x,hx1,hx2⟩:=hlive;have hs:s ∈ live:=by
     cases x <;> simp only [Qby] at hx1
     all_goals
      obtain ⟨rfl,_⟩:=hx1;simp [rootOut] at hx2;exact hx2
    rw [Qiu,if_pos hs];exact Qe0 (.rootOut live) h1
 refine ⟨fp',hsub,fun _ _=>rfl,fun q=>?_,fun l k cs hb=>?_,fun l k hb=>h.nobox l k hb,fun q=>?_,fun q q' hq b hb hb'=>h.disj q q' hq b (hsub q b hb) (hsub q' b hb'),fun q b hb=>h.notF q b (hsub q b hb),fun q b hb=>h.lt q b (hsub q b hb),h.Flt,h.xnodup,
  fun q b hb=>h.xdisj q b (hsub q b hb),h.xF,h.xlt⟩
 . rw [Qiu];simp only [fp'];split
   . exact (h.slots q).trk tr (.rootOut live) (Qp2 _) (fun _ _=>rfl)
   . rfl
 . obtain ⟨C,ty,f',h1,h2,h3⟩:=h.boxes l k cs hb;exact ⟨C,ty,f',h1,h2,h3.mono fun x v f hf hx _=>hx.tr tr (fun _ _=>rfl)⟩
 . cases q with
   | B l k=>exact h.nodup _
   | S s=>simp only [fp'];split
          . exact h.nodup _
          . exact .nil
end
end Go.Idl
namespace Go.Idl
open Go
theorem Qbn {es:List (List IV)} {e:Nat} (he:∀ x ∈ es,x.length=e):es.flatten.length=es.length * e:=by
 induction es with
 | nil=>simp
 | cons x xs ih =>
   rw [Kca,Kbu,he x (by simp),ih (fun y hy=>he y (by simp [hy])),Kbc,Kbz];omega
theorem RDs.subs {w F es e off n vs fp} (h:RDs w F (List.flatten es) vs fp) (he:∀ x ∈ es,x.length=e) (hoff:off+n<=es.length) :
 ∃ f1 fq f2,fp=f1++(fq++f2)/\RDs w F ((es.drop off).take n).flatten ((vs.drop (off * e)).take (n * e)) fq:=by
 have e1:es=es.take off++((es.drop off).take n++(es.drop off).drop n):=by rw [Kcg,Kcg]
 have hfl:es.flatten=(es.take off).flatten++(((es.drop off).take n).flatten++((es.drop off).drop n).flatten):=by
  rw [<- Kdg,<- Kdg,<- e1]
 rw [hfl] at h;obtain ⟨u1,v1,f1,f2,rfl,rfl,h1,h2⟩:=h.split;obtain ⟨u2,v2,f3,f4,rfl,rfl,h3,h4⟩:=h2.split;refine ⟨f1,f3,f4,rfl,?_⟩;have l1:u1.length=off * e:=by
  rw [<- h1.len,Qbn (fun x hx=>he x (Kbv hx)),Kas,Nat.min_eq_left (by omega)]
 have l2:u2.length=n * e:=by
  rw [<- h3.len,Qbn (fun x hx=>he x (Kdl (Kbv hx))),Kas,Kco,Nat.min_eq_left (by omega)]
 rw [<- l1,<- l2,List.drop_left,List.take_left];exact h3
def IV.isD:IV->Bool
 | .sc _ | .lst .. | .own .. | .bptr .. | .fn ..=>true
 | _=>false
section
variable {cx:Cx} {w w':World} {F F':Nat->Prop} {ρ:Rho} {fp:Fp} {X X' f:List Nat} {st st':St} {tm:Nat->Value}
theorem Jel {e es off n a N cap a' cap' g} (h:RDs w F [.own e es] [.slice a N cap] g) (hoff:off+n<=es.length) (hn:n<=cap') (hc:off+cap'<=cap)
 (ha:0 < cap'->∃ b o,a=some ⟨b,o,none⟩/\a'=some ⟨b,o+off * e,none⟩) :
 ∃ g',RDs w F [.own e ((es.drop off).take n)] [.slice a' n cap'] g'/\(∀ b ∈ g',b ∈ g)/\(g.Nodup->g'.Nodup):=by
 by_cases hcap:cap'=0
 . subst hcap;have:n=0:=by omega
   subst this;refine ⟨[],?_,by simp,fun _=>.nil⟩;simp only [Kcz];exact .own0 .nil
 . obtain ⟨b,o,rfl,rfl⟩:=ha (by omega);rcases RDs.own_inv h with ⟨rfl,_,a9,h9⟩ | ⟨b1,o1,cap1,C,ty,fp1,h1,rfl,hb,hd,he,hnn,ho⟩
   . cases h9;omega
   . simp only [Value.slice.injEq,Kaa,Addr.mk.injEq,and_true] at h1;obtain ⟨⟨rfl,rfl⟩,rfl,rfl⟩:=h1;obtain ⟨f1,fq,f2,rfl,hq⟩:=hd.subs he hoff;have hlen:((es.drop off).take n).length=n:=by rw [Kas,Kco];omega
     have hsl:(((C.toList.drop o).take (es.length * e)).drop (off * e)).take (n * e)=(C.toList.drop (o+off * e)).take (n * e):=by
      rw [List.drop_take,Kdo,Ked];congr 1;have:(off+n) * e<=es.length * e:=Kbh _ hoff;rw [Kdk] at this;omega
     rw [hsl] at hq;have hoc:o+off * e+cap' * e<=C.size:=by
      have:(off+cap') * e<=cap * e:=Kbh _ hc;rw [Kdk] at this;omega
     have:=RDs.own (xs:=[]) (vs:=[]) (fp:=[]) hb (o:=o+off * e) (es:=(es.drop off).take n) (by rw [hlen];exact hq)
      (fun x hx=>he x (Kdl (Kbv hx))) (cap:=cap') (by rw [hlen];omega) hoc .nil
     rw [hlen] at this;refine ⟨_,this,fun c hc=>?_,fun hnd=>?_⟩
     . simp only [Kbb,Kaf] at hc |-;rcases hc with rfl | hc
       . exact .inl rfl
       . exact .inr (by simp [hc])
     . rw [Kbb];obtain ⟨k1,k2⟩:=Kbq.1 hnd;exact Kbq.2 ⟨fun hc=>k1 (by simp [hc]),(Kan.1 (Kan.1 k2).2.1).1⟩
theorem Tr.mono {lk lk' ρ' F' w'} {live live':Rt->Nat->Qg8->Prop} (h:Tr w F ρ st lk w' F' ρ' st' lk' live) (hl:∀ r c p,live' r c p->live r c p):Tr w F ρ st lk w' F' ρ' st' lk' live' :=
 ⟨fun r c p hp=>h.ref r c p (hl r c p hp),h.fz,h.ff,h.bx⟩
theorem Tr.same (st:St) (tm ρ) (live):Tr w F ρ st (look st tm ρ w) w F ρ st (look st tm ρ w) live :=
 ⟨fun _ _ _ _ _ _ _ es _ _ _ h1 h2=>⟨_,es,h1,h2,Kam _⟩,fun _ _=>rfl,fun _ h=>h,fun _ _ h=>⟨rfl,h⟩⟩
theorem Tr.trans {w1 w2:World} {F1 F2:Nat->Prop} {ρ1 ρ2:Rho} {st1 st2:St} {lk lk1 lk2} {live live1:Rt->Nat->Qg8->Prop}
 (h:Tr w F ρ st lk w1 F1 ρ1 st1 lk1 live) (h':Tr w1 F1 ρ1 st1 lk1 w2 F2 ρ2 st2 lk2 live1):Tr w F ρ st lk w2 F2 ρ2 st2 lk2 (fun r c p=>live r c p/\live1 r c p):=by
 refine ⟨fun r c p hp x0 v0 e es a n cap h1 h2=>?_,fun b hb=>(h'.fz b (h.ff b hb)).trans (h.fz b hb),fun b hb=>h'.ff b (h.ff b hb),fun l k hb=>?_⟩
 . obtain ⟨x1,es1,k1,k2,k3⟩:=h.ref r c p hp.1 x0 v0 e es a n cap h1 h2;obtain ⟨x2,es2,k4,k5,k6⟩:=h'.ref r c p hp.2 x1 v0 e es1 a n cap k1 k2;exact ⟨x2,es2,k4,k5,Kcp k3 k6⟩
 . obtain ⟨k1,k2⟩:=h.bx l k hb;obtain ⟨k3,k4⟩:=h'.bx l k k2;exact ⟨k3.trans k1,k4⟩
theorem Qaj.killOf (x:IV):Qaj (killOf x):=by
 cases x <;> first | exact .rooted _ | exact .none
def Jo7 (cx:Cx) (w:World) (F:Nat->Prop) (ρ:Rho) (fp:Fp) (X f:List Nat) (st:St) (tm:Nat->Value) (x:IV) (v:Value) (y:IV) (st':St):Prop :=
 ∃ fp' f',Rel cx w F ρ fp' (f'++X) st' tm/\RC cx w F ρ st' (look st' tm ρ w) y v f'/\y.isD=true/\(∀ b ∈ f',b ∈ f \/ ∃ r,b ∈ fp r)/\(∀ r,∀ b ∈ fp' r,b ∈ fp r)/\Qbf st st' /\
    Tr w F ρ st (look st tm ρ w) w F ρ st' (look st' tm ρ w) (fun r c q=>∃ z:IV,Qby z r c q/\killOf x z=false)
theorem Qdl (h:Rel cx w F ρ fp (f++X) st tm) {x y v} (hx:RC cx w F ρ st (look st tm ρ w) x v f) (hd:x.isD=true) (ha:some (x,st)=some (y,st')):Jo7 cx w F ρ fp X f st tm x v y st':=by
 simp only [Kaa,Kab] at ha;obtain ⟨rfl,rfl⟩:=ha;exact ⟨fp,f,h,hx,hd,fun b hb=>.inl hb,fun _ _ hb=>hb,.refl st,Tr.same st tm ρ _⟩
theorem Rel.absorb (h:Rel cx w F ρ fp (f++X) st tm) {x y v} (hx:RC cx w F ρ st (look st tm ρ w) x v f) (ha:st.absorb x=some (y,st')):Jo7 cx w F ρ fp X f st tm x v y st':=by
 cases x with
 | arr r c p e off n clip =>
   have hf0:f=[]:=by
    rcases hx with ⟨_,h0⟩ | hx
    . exact h0
    . cases hx
   subst hf0;have hx:Qlc cx w F ρ st (look st tm ρ w) (.arr r c p e off n clip) v:=by
    rcases hx with ⟨hx,_⟩ | hx
    . exact hx
    . cases hx
   obtain ⟨x0,v0,es,a,N,cap,a',cap',h1,h2,h3,rfl,h5,h6,h7,h8⟩:=hx;have hp:=Qe6 h h1 h2;simp only [St.absorb,hp,if_pos h3] at ha;obtain ⟨pre,g,post,hfp,hRn,hup⟩:=h.upd h1 h2;have hgn:g.Nodup:=by
    have:=h.nodup r;rw [hfp] at this;exact (Kan.1 (Kan.1 this).2.1).1
   have hgf:∀ b ∈ g,b ∈ fp r:=fun b hb=>by rw [hfp];simp [hb]
   obtain ⟨g',hR',hsub,hnd⟩:=Jel hRn h3 h5 h6 h8.1;have hu:Upd w F g ([]++X) w F .un (.slice a N cap) [] (g'++X):=by
    refine ⟨Kam _,fun _ _ _=>rfl,fun _ h=>h,fun _ h=>.inl h,.un .nil,by simp,.nil,by simp,?_,fun b hb=>?_,fun b hb=>?_⟩
    . rw [Kan];refine ⟨hnd hgn,by simpa using h.xnodup,fun b hb c hc hbc=>?_⟩;subst hbc;exact h.xdisj r b (hgf b (hsub b hb)) (by simpa using hc)
    . simp only [Kah] at hb;rcases hb with hb | hb
      . exact ⟨.inr (hsub b hb),by simp⟩
      . exact ⟨.inl (by simpa using hb),by simp⟩
    . simp only [Kah] at hb;rcases hb with hb | hb
      . exact h.notF r b (hgf b (hsub b hb))
      . exact h.xF b (by simpa using hb)
   obtain ⟨st1,hs,hshp,hrel,htr⟩:=hup hu (.rooted r) (.inr (.inl rfl)) (.inl fun _ hy=>hy);rw [hs] at ha;simp only [Kaa,Kab] at ha;obtain ⟨rfl,rfl⟩:=ha;refine ⟨_,g',hrel,.inr hR',rfl,fun b hb=>.inr ⟨r,hgf b (hsub b hb)⟩,fun q b hb=>?_,⟨hshp.M,hshp.loc⟩,htr⟩;unfold Qao at hb;split at hb
   . rename_i hq;subst hq;rw [hfp];simp only [Kah,Kaw,false_or] at hb |-;rcases hb with hb | hb <;> simp [hb]
   . exact hb
 | sc v1=>exact Qdl h hx rfl ha
 | lst e es c=>exact Qdl h hx rfl ha
 | own e es=>exact Qdl h hx rfl ha
 | bptr l k c=>exact Qdl h hx rfl ha
 | fn g cs=>exact Qdl h hx rfl ha
 | _=>simp [St.absorb] at ha
theorem RC.isD {lk lk'} {y:IV} {v:Value} (h:RC cx w F ρ st lk y v f) (hd:y.isD=true) (hb:∀ l k,(st.box l k).isSome=true->(st'.box l k).isSome=true):RC cx w F ρ st' lk' y v f:=by
 have ht:Tr w F ρ st lk w F ρ st' lk' (fun _ _ _=>False):=⟨fun _ _ _ h=>h.elim,fun _ _=>rfl,fun _ h=>h,fun l k h=>⟨rfl,hb l k h⟩⟩;exact h.tr ht (fun r c p hr=>by cases y <;> simp_all [Qby,IV.isD]) (fun _ _=>rfl)
theorem Rel.absorbsK {xs ys:List IV} {vs:List Value} {fx:List Nat} {pk:IV->Bool} (hpk:Qaj pk) :
 ∀ {st:St} {fp:Fp},Rel cx w F ρ fp (fx++X) st tm->Cat (RC cx w F ρ st (look st tm ρ w)) (xs.map (klc pk)) vs fx->st.absorbsK pk xs=some (ys,st') ->
 ∃ fp' fy,Rel cx w F ρ fp' (fy++X) st' tm/\Cat (RC cx w F ρ st' (look st' tm ρ w)) ys vs fy/\(∀ y ∈ ys,y.isD=true)/\(∀ b ∈ fy,b ∈ fx \/ ∃ r,b ∈ fp r)/\(∀ r,∀ b ∈ fp' r,b ∈ fp r)/\Qbf st st':=by
 induction xs generalizing ys vs fx X pk with
 | nil =>
   intro st fp h hc ha;simp only [St.absorbsK,Kaa,Kab] at ha;obtain ⟨rfl,rfl⟩:=ha;exact ⟨fp,fx,h,hc,by simp,fun b hb=>.inl hb,fun _ _ hb=>hb,.refl _⟩
 | cons x xs ih =>
   intro st fp h hc ha;simp only [St.absorbsK] at ha;split at ha
   . rename_i y st1 hy;split at ha
     . rename_i ys' st2 hys;simp only [Kaa,Kab] at ha;obtain ⟨rfl,rfl⟩:=ha;rw [Kbd] at hc;generalize hvs:vs=vs0 at hc;generalize hxs:xs.map (klc pk)=xs0 at hc;cases hc with
       | @cons _ v f1 _ vs1 f2 h1 ht =>
       subst hxs;rw [Kal] at h;obtain ⟨fp1,f1',hr1,hrc1,hd1,hs1,hs2,hshp,htr⟩:=h.absorb h1 hy;have hkk:Qaj (fun z=>pk z || killOf (klc pk x) z):=fun z hz=>by
        simp only [Kbj] at hz;rcases hz with hz | hz
        . exact hpk z hz
        . exact Qaj.killOf _ z hz
       have hrest:Cat (RC cx w F ρ st1 (look st1 tm ρ w)) (xs.map (klc (fun z=>pk z || killOf (klc pk x) z))) vs1 f2:=by
        have:Cat (fun z v f=>RC cx w F ρ st1 (look st1 tm ρ w) (klc (killOf (klc pk x)) z) v f) (xs.map (klc pk)) vs1 f2 :=
         ht.mono fun z v f _ hz _=>hz.trk htr (Qaj.killOf _) (fun r c q hq hp=>⟨z,hq,hp⟩) (fun _ _=>rfl)
        have:=this.map_kl;rw [List.map_map] at this;have he:(klc (killOf (klc pk x)) ∘ klc pk)=klc (fun z=>pk z || killOf (klc pk x) z):=by
         funext z;simp only [Function.comp,klc];by_cases hz:pk z=true
         . simp [hz]
         . simp [hz]
        rw [he] at this;exact this
       have h2:Rel cx w F ρ fp1 (f2++(f1'++X)) st1 tm:=hr1.perm (by
        rw [<- Kal,<- Kal];exact Kcn X Kcm)
       obtain ⟨fp2,fy2,hr2,hc2,hd2,hs3,hs4,hshp2⟩:=ih hkk h2 hrest hys;refine ⟨fp2,f1'++fy2,hr2.perm (by rw [<- Kal];exact Kcn X Kcm),.cons (hrc1.isD hd1 fun l k hb=>hshp2.box hb) hc2,
        fun z hz=>?_,fun b hb=>?_,fun r b hb=>hs2 r b (hs4 r b hb),hshp.trans hshp2⟩
       . rcases Kaf.1 hz with rfl | hz
         . exact hd1
         . exact hd2 z hz
       . simp only [Kah] at hb |-;rcases hb with hb | hb
         . rcases hs1 b hb with h3 | h3
           . exact .inl (.inl h3)
           . exact .inr h3
         . rcases hs3 b hb with h3 | ⟨r,h3⟩
           . exact .inl (.inr h3)
           . exact .inr ⟨r,hs2 r b h3⟩
     . cases ha
   . cases ha
theorem Rel.absorbs (h:Rel cx w F ρ fp (f++X) st tm) {xs ys vs} (hc:Cat (RC cx w F ρ st (look st tm ρ w)) xs vs f) (ha:st.absorbs xs=some (ys,st')) :
 ∃ fp' fy,Rel cx w F ρ fp' (fy++X) st' tm/\Cat (RC cx w F ρ st' (look st' tm ρ w)) ys vs fy/\(∀ y ∈ ys,y.isD=true)/\(∀ b ∈ fy,b ∈ f \/ ∃ r,b ∈ fp r)/\(∀ r,∀ b ∈ fp' r,b ∈ fp r)/\Qbf st st':=by
 refine h.absorbsK .none ?_ ha;rw [show klc (fun _=>false)=id from funext Qxk,List.map_id];exact hc
end
end Go.Idl
namespace Go.Idl
open Go
def Qaz (cx:Cx):Operand->Opd->Prop
 | .tmp t,.t s=>t=s
 | .const v,.c u=>v=u
 | .func f,.f l=>cx.fid l=f
 | _,_=>False
section
variable {cx:Cx} {w w':World} {F F':Nat->Prop} {ρ:Rho} {fp:Fp} {X X' f:List Nat} {st st':St} {tm:Nat->Value}
theorem RDs.noown {x v f} (h:RDs w F [x] [v] f) (hx:x.isOwn=false):f=[]:=by
 cases h with
 | sc _ t=>cases t;rfl
 | un t=>cases t;rfl
 | lst0 _ t=>cases t;rfl
 | lst _ _ _ _ _ _ t=>cases t;rfl
 | own0 t=>simp [IV.isOwn] at hx
 | own _ _ _ _ _ t=>simp [IV.isOwn] at hx
theorem RC.noown {lk x v f} (h:RC cx w F ρ st lk x v f) (hx:x.isOwn=false):f=[]:=by
 rcases h with ⟨_,h⟩ | h
 . exact h
 . exact h.noown hx
theorem Qyl {r c p x0 v0 e es u g} (hl:look st tm ρ w r c=some (x0,v0)) (hf:Qci w x0 v0 p=some (.own e es,u)) (hR:RDs w F [.own e es] [u] g) :
 Qlc cx w F ρ st (look st tm ρ w) (.arr r c p e 0 es.length false) u:=by
 rcases RDs.own_inv hR with ⟨rfl,_,a,rfl⟩ | ⟨b,o,cap,C,ty,fp1,rfl,rfl,hb,hd,he,hn,ho⟩
 . exact ⟨x0,v0,[],a,0,0,a,0,hl,hf,by simp,rfl,by simp,by simp,by simp,fun h=>absurd h (Nat.lt_irrefl 0),fun _=>rfl⟩
 . exact ⟨x0,v0,es,_,_,cap,_,cap,hl,hf,by simp,rfl,hn.1,by simp,by simp,fun _=>⟨b,o,rfl,by simp⟩,fun _=>by simp⟩
theorem Qgv {r:Rt} {mk:Nat->Nat×Qg8}:∀ {xs:List IV} {vs:List Value} {f:List Nat} {i:Nat},Cat (RC cx w F ρ st (look st tm ρ w)) xs vs f ->
 (∀ q e es u,xs[q]? = some (.own e es)->vs[q]? = some u->∃ x0 v0,look st tm ρ w r (mk (i+q)).1=some (x0,v0)/\Qci w x0 v0 (mk (i+q)).2=some (.own e es,u)) ->
 Cat (RC cx w F ρ st (look st tm ρ w)) (Qg6 r mk i xs) vs []
 | [],vs,f,i,h,_=>by cases h;exact .nil
 | x::xs,vs,f,i,h,hpl=>by
   generalize hvs:vs=vs0 at h;generalize hxs:x::xs=xs0 at h;cases h with
   | nil=>cases hxs
   | @cons x' v f1 xs' vs1 f2 h1 ht =>
   cases hxs;subst hvs;have hrest:=Qgv (i:=i+1) ht (fun q e es u h1 h2=>by
    have:=hpl (q+1) e es u (by simpa using h1) (by simpa using h2);rw [show i+(q+1)=i+1+q by omega] at this;exact this)
   have key:∀ y,RC cx w F ρ st (look st tm ρ w) y v []->Cat (RC cx w F ρ st (look st tm ρ w)) (y::Qg6 r mk (i+1) xs) (v::vs1) []:=fun y hy=>Cat.cons (f:=[]) (fp:=[]) hy hrest;cases x with
   | own e es =>
     obtain ⟨x0,v0,k1,k2⟩:=hpl 0 e es v rfl rfl;rcases h1 with ⟨h1,_⟩ | h1
     . exact h1.elim
     . exact key _ (.inl ⟨Qyl k1 k2 h1,rfl⟩)
   | _ =>
     have h0:=h1.noown rfl;subst h0;exact key _ h1
theorem rd_t (h:Rel cx w F ρ fp X st tm) (s:Nat):Qa6 cx w F ρ st (look st tm ρ w) (Jf1 s (Qav st.T s)) (tm s) []:=by
 have hs:=h.slots s;cases hT:Qav st.T s with
 | agg cs =>
   rw [hT] at hs;obtain ⟨C,hC,hcat⟩:=hs;refine ⟨C,hC,?_⟩;refine Qgv (i:=0) (r:=.S s) hcat (fun q e es u h1 h2=>⟨.own e es,u,Qb3 (by rw [hT];simpa [IV.cells] using h1) (by rw [hC];simpa [Qa5] using h2),rfl⟩)
 | own e es =>
   rw [hT] at hs;have hR:RDs w F [.own e es] [tm s] (fp (.S s)):=by
    rcases hs with ⟨hs,_⟩ | hs
    . exact hs.elim
    . exact hs
   refine .inl ⟨Qyl (r:=.S s) (c:=0) (p:=[]) (Qb3 (by rw [hT];rfl) ?_) rfl hR,rfl⟩;rcases RDs.own_inv hR with ⟨_,_,a,ha⟩ | ⟨b,o,cap,C,ty,fp1,ha,_⟩ <;> rw [ha] <;> rfl
 | tup vs =>
   rw [hT] at hs;cases vs with
   | nil =>
     obtain ⟨C,hC,hcat⟩:=hs;refine ⟨C,hC,?_⟩;rw [hcat.nil_inv.1];exact .nil
   | cons y ys=>exact rfl
 | un=>exact rfl
 | sc v =>
   rw [hT,Qbg (by intro vs h;cases h)] at hs;rw [show fp (.S s)=[] from RC.noown hs rfl] at hs;exact hs
 | lst e es c =>
   rw [hT,Qbg (by intro vs h;cases h)] at hs;rw [show fp (.S s)=[] from RC.noown hs rfl] at hs;exact hs
 | arr r c p e o n k =>
   rw [hT,Qbg (by intro vs h;cases h)] at hs;rw [show fp (.S s)=[] from RC.noown hs rfl] at hs;exact hs
 | eptr r c p i j =>
   rw [hT,Qbg (by intro vs h;cases h)] at hs;rw [show fp (.S s)=[] from RC.noown hs rfl] at hs;exact hs
 | lptr e j =>
   rw [hT,Qbg (by intro vs h;cases h)] at hs;rw [show fp (.S s)=[] from RC.noown hs rfl] at hs;exact hs
 | bptr l k c =>
   rw [hT,Qbg (by intro vs h;cases h)] at hs;rw [show fp (.S s)=[] from RC.noown hs rfl] at hs;exact hs
 | fn g cs =>
   rw [hT,Qbg (by intro vs h;cases h)] at hs;rw [show fp (.S s)=[] from RC.noown hs rfl] at hs;exact hs
theorem Jcv (v:Value):RC cx w F ρ st (look st tm ρ w) (cv1 v) v []:=by
 unfold cv1;split
 . exact .inr (.lst0 (by simp) .nil)
 . exact .inr (.sc rfl .nil)
 . exact .inr (.sc rfl .nil)
 . exact .inr (.sc rfl .nil)
 . exact .inr (.sc rfl .nil)
 . exact .inr (.un .nil)
theorem Jk6 (v:Value):Qdk cx w F ρ st (look st tm ρ w) (cv1 v) v []:=by
 have h:=Jcv (cx:=cx) (w:=w) (F:=F) (ρ:=ρ) (st:=st) (tm:=tm) v;unfold cv1 at h |-;split <;> rename_i heq <;> first | exact h | rfl
theorem Qln:∀ (l:List Value),Cat (RC cx w F ρ st (look st tm ρ w)) (l.map cv1) l []
 | []=>.nil
 | v::l=>Cat.cons (f:=[]) (fp:=[]) (Jcv v) (Qln l)
theorem Jpi (v:Value):Qa6 cx w F ρ st (look st tm ρ w) (cv v) v []:=by
 unfold cv;split
 . rename_i cs;exact ⟨cs,rfl,Qln _⟩
 . have h:=Jk6 (cx:=cx) (w:=w) (F:=F) (ρ:=ρ) (st:=st) (tm:=tm) v;rw [Qbg (by intro vs h;unfold cv1 at h;split at h <;> cases h)];exact h
def Qah (a:Act):Nat->Value:=fun s=>a.tmps.getD s undef
theorem Qa0 {a:Act} (h:Rel cx w F ρ fp X st (Qah a)) {o:Operand} {x:Opd} (ho:Qaz cx o x):Qa6 cx w F ρ st (look st (Qah a) ρ w) (rd st.T x) (a.eval o) []:=by
 cases o <;> cases x <;> simp only [Qaz] at ho
 . subst ho;exact rd_t h _
 . subst ho;exact Jpi _
 . subst ho;exact .inl ⟨⟨[],rfl,.nil⟩,rfl⟩
theorem Qj2 {a:Act} (h:Rel cx w F ρ fp X st (Qah a)) {o:Operand} {x:Opd} (ho:Qaz cx o x) :
 ∃ fp' f,Rel cx w F ρ fp' (f++X) { st with T:=(tk st.T x).2 } (Qah a)/\Qa6 cx w F ρ { st with T:=(tk st.T x).2 } (look { st with T:=(tk st.T x).2 } (Qah a) ρ w) (tk st.T x).1 (a.eval o) f /\
   (∀ b ∈ f,∃ r,b ∈ fp r)/\(∀ r,∀ b ∈ fp' r,b ∈ fp r):=by
 cases o <;> cases x <;> simp only [Qaz] at ho
 . rename_i t s;subst ho;simp only [tk];split
   . obtain ⟨h1,h2⟩:=h.drop t;refine ⟨_,_,h1,h2,fun b hb=>⟨_,hb⟩,fun r b hb=>?_⟩;unfold Qao at hb;split at hb
     . cases hb
     . exact hb
   . rename_i hh;have hs:=h.slots t;refine ⟨fp,[],h,?_,by simp,fun _ _ hb=>hb⟩;cases hT:Qav st.T t with
     | agg cs =>
       rw [hT] at hs hh;obtain ⟨C,hC,hcat⟩:=hs;refine ⟨C,hC,?_⟩;simp only [IV.holds,Kfb,not_exists,not_and] at hh;have:∀ {xs vs fq},Cat (RC cx w F ρ st (look st (Qah a) ρ w)) xs vs fq->(∀ x ∈ xs,¬ x.isOwn=true)->Cat (RC cx w F ρ st (look st (Qah a) ρ w)) xs vs []:=by
        intro xs vs fq hc hx
        induction hc with
        | nil=>exact .nil
        | cons h t ih =>
          have h0:=h.noown (by simpa using hx _ (by simp));subst h0;exact Cat.cons (f:=[]) (fp:=[]) h (ih fun x hx'=>hx x (by simp [hx']))
       exact this hcat hh
     | own e es=>rw [hT] at hh;simp [IV.holds] at hh
     | tup vs=>rw [hT] at hh;simp [IV.holds] at hh
     | un=>rfl
     | _ =>
       rw [hT,Qbg (by intro vs h;cases h)] at hs;rw [Qbg (by intro vs h;cases h)];have h0:fp (.S t)=[]:=RC.noown hs rfl;rw [h0] at hs;exact hs
 . subst ho;exact ⟨fp,[],h,Jpi _,by simp,fun _ _ hb=>hb⟩
 . subst ho;exact ⟨fp,[],h,.inl ⟨⟨[],rfl,.nil⟩,rfl⟩,by simp,fun _ _ hb=>hb⟩
end
end Go.Idl
namespace Go.Idl
open Go
def exB (st:St) (l k:Nat):Prop:=(st.box l k).isSome=true
def Jt8 (r:Result Next) (v:Value) (w:World):Prop:=r=.ok (.value v) w \/ (r=.ok .skip w/\v=undef)
def Qb8 (cx:Cx) (w:World) (F:Nat->Prop) (ρ:Rho) (fp:Fp) (X:List Nat) (st:St) (a:Act) (o:Oper) (v:IV) (st':St):Prop :=
 ∃ v' w' F' ρ' fp' f',Jt8 ((execOp a.eval o).run cx.P w) v' w'/\Rel cx w' F' ρ' fp' (f'++X) st' (Qah a)/\Qa6 cx w' F' ρ' st' (look st' (Qah a) ρ' w') v v' f' /\
   Ext w F ρ fp X (exB st) w' F' ρ' fp' (f'++X)/\Qbf st st'
section
variable {cx:Cx} {w:World} {F:Nat->Prop} {ρ:Rho} {fp:Fp} {X:List Nat} {st:St} {a:Act} {o:Oper}
def Qyp (w w':World):Prop:=w.heap.size<=w'.heap.size/\∀ b,b < w.heap.size->w'.heap[b]? = w.heap[b]?
theorem Qyp.refl (w:World):Qyp w w:=⟨Kam _,fun _ _=>rfl⟩
theorem Qyp.cell {w w':World} (h:Qyp w w') {ad:Addr} {v:Value} (hv:w.cell? ad=some v):w'.cell? ad=some v:=by
 rw [World.cell?_of_block (h.2 ad.block (World.block_lt_of_cell? w ad hv))];exact hv
def AnyW (_ _:World):Prop:=True
def OpL (cx:Cx) (w:World) (F:Nat->Prop) (ρ:Rho) (fp:Fp) (X:List Nat) (st:St) (a:Act) (o:Oper) (v:IV) (st':St):Prop :=
 st'=st/\∃ v',(∀ w',Qyp w w'->(execOp a.eval o).run cx.P w'=.ok (.value v') w')/\Qa6 cx w F ρ st (look st (Qah a) ρ w) v v' []
theorem OpL.pure (_h:Rel cx w F ρ fp X st (Qah a)) {v:IV} {v':Value} (hr:∀ w',Qyp w w'->(execOp a.eval o).run cx.P w'=.ok (.value v') w') (hv:Qa6 cx w F ρ st (look st (Qah a) ρ w) v v' []) :
 OpL cx w F ρ fp X st a o v st:=⟨rfl,v',hr,hv⟩
def OpQ (cx:Cx) (w:World) (F:Nat->Prop) (ρ:Rho) (fp:Fp) (X:List Nat) (st:St) (a:Act) (o:Oper) (v:IV) (st':St):Prop :=
 st'=st/\∃ v',(∀ w',AnyW w w'->(execOp a.eval o).run cx.P w'=.ok (.value v') w')/\Qa6 cx w F ρ st (look st (Qah a) ρ w) v v' []
theorem OpQ.pure (_h:Rel cx w F ρ fp X st (Qah a)) {v:IV} {v':Value} (hr:∀ w',AnyW w w'->(execOp a.eval o).run cx.P w'=.ok (.value v') w') (hv:Qa6 cx w F ρ st (look st (Qah a) ρ w) v v' []) :
 OpQ cx w F ρ fp X st a o v st:=⟨rfl,v',hr,hv⟩
theorem OpQ.out (h:Rel cx w F ρ fp X st (Qah a)) {v:IV} {st':St} (hq:OpQ cx w F ρ fp X st a o v st'):Qb8 cx w F ρ fp X st a o v st':=by
 obtain ⟨rfl,v',hr,hv⟩:=hq;exact ⟨v',w,F,ρ,fp,[],.inl (hr w trivial),h,hv,Ext.refl _ _ _ _ _ _,.refl st'⟩
theorem Qbd {lk v v' f} (h:Qa6 cx w F ρ st lk (.sc v) v' f):v'=v/\Idl.isSc v=true/\f=[]:=by
 rcases h with ⟨h,_⟩ | h
 . exact h.elim
 . cases h;rename_i h1 h2;cases h2;exact ⟨rfl,h1,rfl⟩
theorem Qcy {lk v} (h:Idl.isSc v=true):Qa6 cx w F ρ st lk (.sc v) v []:=.inr (.sc h .nil)
theorem Qzv {x:IV} {n:Nat} (h:Qcc x=some n):∃ k z,x=.sc (.int k z)/\0<=z/\z.toNat=n:=by
 unfold Qcc at h;split at h
 . split at h
   . exact ⟨_,_,rfl,‹_›,by simpa using h⟩
   . cases h
 . cases h
theorem Jpq (h:Rel cx w F ρ fp X st (Qah a)) {x:Opd} {y:Operand} (hx:Qaz cx y x) (ho:o.op=.move y \/ o.op=.assign y):OpQ cx w F ρ fp X st a o (rd st.T x) st:=by
 refine OpQ.pure h (v':=a.eval y) ?_ (Qa0 h hx);intro w' hw';rcases ho with ho | ho <;> simp [execOp,ho]
theorem Jmd (h:Rel cx w F ρ fp X st (Qah a)) {c x y:Opd} {c' x' y':Operand} (hc:Qaz cx c' c) (hx:Qaz cx x' x) (hy:Qaz cx y' y) (ho:o.op=.pick c' x' y') {t:Bool}
 (ht:rd st.T c=.sc (.bool t)):OpQ cx w F ρ fp X st a o (rd st.T (if t then x else y)) st:=by
 have hcr:=Qa0 h hc;rw [ht] at hcr;obtain ⟨hcv,-,-⟩:=Qbd hcr;refine OpQ.pure h (v':=if t then a.eval x' else a.eval y') ?_ ?_
 . intro w' hw';simp [execOp,ho,hcv,asBool]
 . cases t
   . exact Qa0 h hy
   . exact Qa0 h hx
theorem Qmx (h:Rel cx w F ρ fp X st (Qah a)) {x:Opd} {x':Operand} (hx:Qaz cx x' x) (ho:o.op=.nilCheck x')
 (hk:(∃ l k c,rd st.T x=.bptr l k c) \/ (∃ r c p i j,rd st.T x=.eptr r c p i j) \/ (∃ e j,rd st.T x=.lptr e j)):OpQ cx w F ρ fp X st a o (rd st.T x) st:=by
 have hr:=Qa0 h hx;have hp:∃ ad,a.eval x'=.pointer (some ad):=by
  rcases hk with ⟨l,k,c,hk⟩ | ⟨r,c,p,i,j,hk⟩ | ⟨e,j,hk⟩ <;> rw [hk] at hr
  . rcases hr with ⟨⟨hr,_⟩,_⟩ | hr
    . exact ⟨_,hr⟩
    . cases hr
  . rcases hr with ⟨⟨_,_,_,_,_,_,_,_,_,_,_,hr⟩,_⟩ | hr
    . exact ⟨_,hr⟩
    . cases hr
  . rcases hr with ⟨⟨_,_,_,_,_,_,_,_,hr⟩,_⟩ | hr
    . exact ⟨_,hr⟩
    . cases hr
 obtain ⟨ad,hp⟩:=hp;refine OpQ.pure h (v':=a.eval x') ?_ hr;intro w' hw';simp [execOp,ho,hp]
theorem Qe7 {α:Type} {s:Sem α} {x:α} (h:Qek s=some x) (P:Program) (w:World):s.run P w=.ok x w:=by
 unfold Qek at h;split at h
 . simp only [Kaa] at h;subst h;rfl
 . cases h
theorem Qeq {v:Value} (h:Idl.isSc v=true):(∃ k n,v=.int k n) \/ (∃ b,v=.bool b) \/ (∃ s,v=.string s) \/ v=.nilFunc:=by
 cases v <;> simp [Idl.isSc] at h
 . exact .inr (.inl ⟨_,rfl⟩)
 . exact .inl ⟨_,_,rfl⟩
 . exact .inr (.inr (.inl ⟨_,rfl⟩))
 . exact .inr (.inr (.inr rfl))
theorem Qn3 {op:BinOp} {t:TypeId} {x y:Operand} {u v:Value} (hu:Idl.isSc u=true) (P:Program) (w:World):(eqGuard op t x y u v).run P w=.ok () w:=by
 rcases Qeq hu with ⟨k,n,rfl⟩ | ⟨b,rfl⟩ | ⟨s,rfl⟩ | rfl <;> cases op <;> simp [eqGuard]
theorem Qob {op:BinOp} {t:TypeId} {k k':IntKind} {a b:Int}:binOp op t (.int k a) (.int k' b)=binOp op 0 (.int k a) (.int k' b):=by
 cases op <;> rfl
theorem Qx8 {op:BinOp} {t:TypeId} {u v:Value} {r:IV} (h:Jpe op (.sc u) (.sc v)=some r) (P:Program) (w:World) :
 ∃ z,r=.sc z/\Idl.isSc z=true/\(binOp op t u v).run P w=.ok z w:=by
 cases u <;> cases v <;> simp only [Jpe] at h <;> try cases h
 ·
  rename_i k a k' b;by_cases hk:k=k'
  . subst hk;simp only [if_true] at h;cases op <;> simp only at h
    all_goals first
     | (simp only [Kaa] at h;subst h;exact ⟨_,rfl,rfl,by simp [binOp,Op.intArith,Op.intCmp]⟩)
     | (split at h
        . cases h
        . rename_i hb;simp only [Kaa] at h;subst h;exact ⟨_,rfl,rfl,by simp [binOp,Op.intDiv,hb]⟩)
     | (split at h
        . rename_i z hz;split at h
          . rename_i hs;simp only [Kaa] at h;subst h;exact ⟨z,rfl,hs,by rw [Qob];exact Qe7 hz P w⟩
          . cases h
        . cases h)
  . simp only [if_neg hk] at h;cases op <;> simp only at h <;> try cases h
    all_goals
     split at h
     . rename_i z hz;split at h
       . rename_i hs;simp only [Kaa] at h;subst h;exact ⟨z,rfl,hs,by rw [Qob];exact Qe7 hz P w⟩
       . cases h
     . cases h
 ·
  rename_i s1 s2;split at h
  . rename_i z hz;split at h
    . rename_i hs;simp only [Kaa] at h;subst h;refine ⟨z,rfl,hs,?_⟩;have:=Qe7 hz P w;cases op <;> exact this
    . cases h
  . cases h
theorem Jrt {op:BinOp} {x y r:IV} (h:Jpe op x y=some r):∃ u v,x=.sc u/\y=.sc v:=by
 unfold Jpe at h;split at h
 . exact ⟨_,_,rfl,rfl⟩
 . exact ⟨_,_,rfl,rfl⟩
 . cases h
theorem Js0 (h:Rel cx w F ρ fp X st (Qah a)) {x y:Opd} {x' y':Operand} {op t yt} (hx:Qaz cx x' x) (hy:Qaz cx y' y) (ho:o.op=.binOp op t x' y' yt) {r:IV}
 (hr:Jpe op (rd st.T x) (rd st.T y)=some r):OpQ cx w F ρ fp X st a o r st:=by
 obtain ⟨u,v,hu,hv⟩:=Jrt hr;have h1:=Qa0 h hx;have h2:=Qa0 h hy;rw [hu] at h1;rw [hv] at h2;obtain ⟨e1,s1,-⟩:=Qbd h1;obtain ⟨e2,s2,-⟩:=Qbd h2;rw [hu,hv] at hr;obtain ⟨z,rfl,hz,hrun⟩:=Qx8 (t:=t) hr cx.P w;refine OpQ.pure h (v':=z) ?_ (Qcy hz);intro w' hw';obtain ⟨z',hz',-,hrun'⟩:=Qx8 (t:=t) hr cx.P w';cases hz';simp [execOp,ho,e1,e2,Qn3 s1,hrun']
theorem Jmg (h:Rel cx w F ρ fp X st (Qah a)) {x:Opd} {x':Operand} {op t} (hx:Qaz cx x' x) (ho:o.op=.unOp op t x') {u z:Value} (hu:rd st.T x=.sc u)
 (hz:Qek (Op.unary op u)=some z) (hs:Idl.isSc z=true):OpQ cx w F ρ fp X st a o (.sc z) st:=by
 have h1:=Qa0 h hx;rw [hu] at h1;obtain ⟨e1,s1,-⟩:=Qbd h1;refine OpQ.pure h (v':=z) ?_ (Qcy hs);intro w' hw';simp [execOp,ho,e1,Qe7 hz]
theorem Jl4 (h:Rel cx w F ρ fp X st (Qah a)) {x:Opd} {x':Operand} {src dst k} (hx:Qaz cx x' x) (ho:o.op=.convert src dst x') (hs:(cx.P.underlying src).isSome=true)
 (hd:cx.P.underlying dst=some (.int k)) {k':IntKind} {n:Int} (hn:rd st.T x=.sc (.int k' n)):OpQ cx w F ρ fp X st a o (.sc (.int k (k.wrap n))) st:=by
 have h1:=Qa0 h hx;rw [hn] at h1;obtain ⟨e1,s1,-⟩:=Qbd h1;refine OpQ.pure h (v':=.int k (k.wrap n)) ?_ (Qcy rfl);intro w' hw';obtain ⟨d,hd'⟩:=Option.isSome_iff_exists.1 hs;have:∀ k' n w,(convert src dst (.int k' n)).run cx.P w=.ok (.int k (k.wrap n)) w:=by
  intro k' n w;simp only [convert,Sem.run_bind,run_underlying hd',run_underlying hd,Result.andThen_ok];cases d <;> rfl
 simp [execOp,ho,e1,this]
end
end Go.Idl
namespace Go.Idl
open Go
def Qdu (P:Program) (t:TypeId) (e:Nat):Prop:=∃ i,P.info? t=some i/\i.size=e
theorem Qbu {P:Program} {t:TypeId} {e:Nat} (h:Qdu P t e) (w:World):(sizeOf t).run P w=.ok e w:=by
 obtain ⟨i,h1,h2⟩:=h;simp [sizeOf,typeInfo,h1,h2]
theorem Qb0 (b o n:Nat):(⟨b,o,none⟩:Addr).add n=⟨b,o+n,none⟩:=by
 unfold Addr.add;split
 . rename_i h;simp [h]
 . rfl
def Qg4 (cx:Cx):Option Operand->Option Opd->Prop
 | none,none=>True
 | some o,some x=>Qaz cx o x
 | _,_=>False
section
variable {cx:Cx} {w:World} {F:Nat->Prop} {ρ:Rho} {fp:Fp} {X:List Nat} {st:St} {a:Act} {o:Oper}
theorem Qes {x:IV} {n:Nat} {v lk f} (hn:Qcc x=some n) (hv:Qa6 cx w F ρ st lk x v f):∃ k z,v=.int k z/\0<=z/\z.toNat=n/\f=[]:=by
 obtain ⟨k,z,rfl,h1,h2⟩:=Qzv hn;obtain ⟨h3,-,h4⟩:=Qbd hv;exact ⟨k,z,h3,h1,h2,h4⟩
theorem Qat {P:Program} {k:IntKind} {z:Int} {n y:Nat} (h0:0<=z) (hz:z.toNat=n) (hy:n<=y) (code) (w:World):(Instr.sliceBound (.int k z) y code).run P w=.ok n w:=by
 have h1:z<=(y:Int):=by omega
 simp [Instr.sliceBound,asIntOf,h0,h1,hz]
theorem Qca (h:Rel cx w F ρ fp X st (Qah a)) {d n:Nat} {x:Option Opd} {x':Option Operand} (hx:Qg4 cx x' x) (hb:bound d st.T x=some n) :
 (x'=none/\n=d) \/ ∃ y k z,x'=some y/\a.eval y=.int k z/\0<=z/\z.toNat=n:=by
 cases x with
 | none=>cases x' with
   | none=>simp [bound] at hb;exact .inl ⟨rfl,hb.symm⟩
   | some y=>exact hx.elim
 | some x=>cases x' with
   | none=>exact hx.elim
   | some y =>
     obtain ⟨k,z,h1,h2,h3,-⟩:=Qes (show Qcc (rd st.T x)=some n from hb) (Qa0 h hx);exact .inr ⟨y,k,z,rfl,h1,h2,h3⟩
theorem Qgc (h:Rel cx w F ρ fp X st (Qah a)) {t elem:TypeId} {e:Nat} (ht:cx.P.underlying t=some (.slice elem)) (he:Qdu cx.P elem e) {A:Option Addr} {n cap l hh m:Nat}
 {lo hi mx:Option Opd} {lo' hi' mx':Option Operand} (h1:Qg4 cx lo' lo) (h2:Qg4 cx hi' hi) (h3:Qg4 cx mx' mx)
 (hl:bound 0 st.T lo=some l) (hhi:bound n st.T hi=some hh) (hm:bound cap st.T mx=some m) (hmh:mx.isSome=true->hi.isSome=true) (hlh:l<=hh) (hhm:hh<=m) (hmc:m<=cap) :
 ∀ w1,(Instr.sliceAt t (.slice A n cap) (lo'.map a.eval) (hi'.map a.eval) (mx'.map a.eval)).run cx.P w1=.ok (.slice (if m=l then A else A.map (·.add (l * e))) (hh - l) (m - l)) w1:=by
 intro w1;have hb:(Instr.sliceBounds true n cap (lo'.map a.eval) (hi'.map a.eval) (mx'.map a.eval)).run cx.P w1=.ok (l,hh,m) w1:=by
  unfold Instr.sliceBounds;rcases Qca h h3 hm with ⟨rfl,rfl⟩ | ⟨ym,km,zm,rfl,hm1,hm2,hm3⟩
  . rcases Qca h h2 hhi with ⟨rfl,rfl⟩ | ⟨yh,kh,zh,rfl,hh1,hh2,hh3⟩
    . rcases Qca h h1 hl with ⟨rfl,rfl⟩ | ⟨yl,kl,zl,rfl,hl1,hl2,hl3⟩
      . simp
      . simp [hl1,Qat hl2 hl3 hlh]
    . rcases Qca h h1 hl with ⟨rfl,rfl⟩ | ⟨yl,kl,zl,rfl,hl1,hl2,hl3⟩
      . simp [hh1,Qat hh2 hh3 hhm]
      . simp [hh1,Qat hh2 hh3 hhm,hl1,Qat hl2 hl3 hlh]
  . have hmx:mx.isSome=true:=by cases mx with
     | none=>exact h3.elim
     | some _=>rfl
    rcases Qca h h2 hhi with ⟨rfl,_⟩ | ⟨yh,kh,zh,rfl,hh1,hh2,hh3⟩
    . have:=hmh hmx;cases hi with
      | none=>cases this
      | some _=>exact h2.elim
    . rcases Qca h h1 hl with ⟨rfl,rfl⟩ | ⟨yl,kl,zl,rfl,hl1,hl2,hl3⟩
      . simp [hm1,Qat hm2 hm3 hmc,hh1,Qat hh2 hh3 hhm]
      . simp [hm1,Qat hm2 hm3 hmc,hh1,Qat hh2 hh3 hhm,hl1,Qat hl2 hl3 hlh]
 simp only [Instr.sliceAt,Instr.slice,Sem.run_bind,run_underlying ht,Result.andThen_ok,hb,Qbu he,Sem.run_pure]
theorem RDs.lst_part {e es c v l h' cap n} {A:Option Addr} (hd:RDs w F [.lst e es c] [v] []) (hv:v=.slice A n cap) (hl:l<=h') (hn:h'<=es.length) {m:Nat} (hm:h'<=m) (hmc:m<=cap) {clip:Bool} (hc:clip=true->m=h') :
 n=es.length/\RDs w F [.lst e ((es.drop l).take (h' - l)) clip] [.slice (if m=l then A else A.map (·.add (l * e))) (h' - l) (m - l)] []:=by
 subst hv;obtain ⟨-,h0⟩:=hd.lst_inv;rcases h0 with ⟨rfl,a9,c9,h1,h2⟩ | ⟨b,o,cap1,C,ty,fr,h1,hF,hb,hd1,he,hcc,hnn⟩
 . simp only [Value.slice.injEq] at h1;obtain ⟨rfl,rfl,rfl⟩:=h1;simp only [Kci,Nat.le_zero] at hn;subst hn;have:l=0:=by omega
   subst this;refine ⟨rfl,?_⟩;simp only [List.drop_nil,List.take_nil,Nat.sub_zero];exact .lst0 (fun hcl=>hc hcl) .nil
 . simp only [Value.slice.injEq] at h1;obtain ⟨rfl,rfl,rfl⟩:=h1;refine ⟨rfl,?_⟩;by_cases hlen:h' - l=0
   . rw [hlen,Kcz];exact .lst0 (fun hcl=>by have:=hc hcl;omega) .nil
   . have hml:m ≠ l:=by omega
     rw [if_neg hml];simp only [Kes,Qb0];obtain ⟨f1,fq,f2,hf,hq⟩:=hd1.subs he (off:=l) (n:=h' - l) (by omega);have hfq:fq=[]:=by
      have:=congrArg List.length hf;simp at this;exact Kfc (by omega)
     subst hfq;have hlen':((es.drop l).take (h' - l)).length=h' - l:=by rw [Kas,Kco];omega
     have hsl:(((C.toList.drop o).take (es.length * e)).drop (l * e)).take ((h' - l) * e)=(C.toList.drop (o+l * e)).take ((h' - l) * e):=by
      rw [List.drop_take,Kdo,Ked];congr 1;have:(l+(h' - l)) * e<=es.length * e:=Kbh _ (by omega);rw [Kdk] at this;omega
     rw [hsl] at hq;have:=RDs.lst (xs:=[]) (vs:=[]) (fp:=[]) (clip:=clip) hF hb (o:=o+l * e) (es:=(es.drop l).take (h' - l)) (by rw [hlen'];exact hq)
      (fun x hx=>he x (Kdl (Kbv hx))) (cap:=m - l) (fun hcl=>by have:=hc hcl;rw [hlen'];omega) (by rw [hlen'];omega) .nil
     rw [hlen'] at this;exact this
theorem Js6 (h:Rel cx w F ρ fp X st (Qah a)) {t elem:TypeId} {e:Nat} {x:Opd} {x':Operand} {lo hi mx:Option Opd} {lo' hi' mx':Option Operand} (hx:Qaz cx x' x)
 (h1:Qg4 cx lo' lo) (h2:Qg4 cx hi' hi) (h3:Qg4 cx mx' mx) (ht:cx.P.underlying t=some (.slice elem)) (he:Qdu cx.P elem e) (hmh:mx.isSome=true->hi.isSome=true)
 (ho:o.op=.slice t x' lo' hi' mx') {v:IV} {st':St} {cf} (hev:ev cf st (.slc e x lo hi mx)=some (v,st')):OpQ cx w F ρ fp X st a o v st':=by
 have hr:=Qa0 h hx;simp only [ev] at hev;cases hn:Jm9 (rd st.T x) with
 | none=>simp [hn] at hev
 | some n =>
 simp only [hn] at hev;cases hl:bound 0 st.T lo with
 | none=>simp [hl] at hev
 | some l =>
 cases hh:bound n st.T hi with
 | none=>simp [hl,hh] at hev
 | some hh' =>
 simp only [hl,hh] at hev;have hmx:∃ m?:Option Nat,Jfh e (rd st.T x) l hh' m? = some v/\st'=st/\(match m? with | none=>mx=none | some m=>∃ y,mx=some y/\Qcc (rd st.T y)=some m):=by
  cases mx with
  | none =>
    simp only at hev;cases hs:Jfh e (rd st.T x) l hh' none with
    | none=>simp [hs] at hev
    | some v1=>simp only [hs,Kaa,Kab] at hev;exact ⟨none,by rw [hs,hev.1],hev.2.symm,rfl⟩
  | some y =>
    simp only at hev;cases hm:Qcc (rd st.T y) with
    | none=>simp [hm] at hev
    | some m =>
      simp only [hm] at hev;cases hs:Jfh e (rd st.T x) l hh' (some m) with
      | none=>simp [hs] at hev
      | some v1=>simp only [hs,Kaa,Kab] at hev;exact ⟨some m,by rw [hs,hev.1],hev.2.symm,y,rfl,hm⟩
 obtain ⟨m?,hsv,rfl,hm?⟩:=hmx;cases hX:rd st'.T x with
 | lst e1 es clip =>
   rw [hX] at hr hsv hn;simp only [Jm9,Kaa] at hn;subst hn;have hd:RDs w F [.lst e1 es clip] [a.eval x'] []:=by
    rcases hr with ⟨hr,_⟩ | hr
    . exact hr.elim
    . exact hr
   obtain ⟨-,hli⟩:=hd.lst_inv;have hform:∃ A cap,a.eval x'=.slice A es.length cap/\es.length<=cap/\(clip=true->cap=es.length):=by
    rcases hli with ⟨h0,a9,c9,h8,h9⟩ | ⟨b,o1,cap1,C,ty,fr,h8,_,_,_,_,h9,h10⟩
    . subst h0;exact ⟨a9,c9,h8,Nat.zero_le _,h9⟩
    . exact ⟨_,cap1,h8,h10,h9⟩
   obtain ⟨A,cap,hA,hcap,hclip⟩:=hform;simp only [Jfh] at hsv;split at hsv
   . rename_i hc;obtain ⟨hc1,hc2,hc3⟩:=hc;have hee:e1=e \/ es=[]:=by simpa using hc1
     cases m? with
     | none =>
       simp only at hm?;subst hm?;simp only [Kaa] at hsv;subst hsv;have hrun:=Qgc (n:=es.length) (cap:=cap) (A:=A) h ht he h1 h2 h3 hl hh (m:=cap) rfl hmh hc2 (by omega) (Kam _);obtain ⟨-,hR⟩:=hd.lst_part hA hc2 hc3 (m:=cap) (by omega) (Kam _) (clip:=clip && hh' == es.length) (fun hcl=>by
        simp only [Kac,Kbt] at hcl;have:=hclip hcl.1;omega)
       refine OpQ.pure h (v':=_) (fun w' _=>by have hrun:=hrun w';rw [<- hA] at hrun;simp only [execOp,ho];rw [Sem.run_bind,hrun];rfl) (.inr ?_);rcases hee with rfl | rfl
       . exact hR
       . simp only [List.drop_nil,List.take_nil] at hR |-;have h0:hh'=0:=by simpa using hc3
         have h00:l=0:=by omega
         subst h0 h00;exact .lst0 (fun hcl=>by simp only [Kac] at hcl;have:=hclip hcl.1;simp at this;omega) .nil
     | some m =>
       obtain ⟨y,rfl,hy⟩:=hm?;simp only at hsv;split at hsv
       . rename_i hc4;simp only [Kaa] at hsv;subst hsv;have hrun:=Qgc (n:=es.length) (cap:=cap) (A:=A) h ht he h1 h2 h3 hl hh (m:=m) hy hmh hc2 hc4.1 (by omega);obtain ⟨-,hR⟩:=hd.lst_part hA hc2 hc3 (m:=m) hc4.1 (by omega) (clip:=m == hh') (fun hcl=>by simpa using hcl);refine OpQ.pure h (v':=_) (fun w' _=>by have hrun:=hrun w';rw [<- hA] at hrun;simp only [execOp,ho];rw [Sem.run_bind,hrun];rfl) (.inr ?_);rcases hee with rfl | rfl
         . exact hR
         . simp only [List.drop_nil,List.take_nil] at hR |-;have h0:hh'=0:=by simpa using hc3
           have h00:l=0:=by omega
           subst h0 h00;exact .lst0 (fun hcl=>by simp at hcl;omega) .nil
       . cases hsv
   . cases hsv
 | arr r c p e1 off n1 clip =>
   rw [hX] at hr hsv hn;simp only [Jm9,Kaa] at hn;subst hn;have hd:Qlc cx w F ρ st' (look st' (Qah a) ρ w) (.arr r c p e1 off n1 clip) (a.eval x'):=by
    rcases hr with ⟨hr,_⟩ | hr
    . exact hr
    . cases hr
   obtain ⟨x0,v0,es,A0,N,cap0,A,cap,k1,k2,k3,hA,k5,k6,k7,k8⟩:=hd;have part:∀ m clip',hh'<=m->m<=cap->e1=e->l<=hh'->hh'<=n1->(clip'=true->m=hh')->(clip'=false->m=cap/\clip=false) ->
    Qlc cx w F ρ st' (look st' (Qah a) ρ w) (.arr r c p e1 (off+l) (hh' - l) clip') (.slice (if m=l then A else A.map (·.add (l * e))) (hh' - l) (m - l)):=by
    intro m clip' q1 q2 q3 q4 q5 q6 q7;subst q3;refine ⟨x0,v0,es,A0,N,cap0,_,m - l,k1,k2,by omega,rfl,by omega,by omega,fun hcl=>by have:=q6 hcl;omega,fun hpos=>?_,fun hcl=>by have:=q7 hcl;have:=k8.2 this.2;omega⟩;have hml:m ≠ l:=by omega
    obtain ⟨b,o1,g1,g2⟩:=k8.1 (by omega);refine ⟨b,o1,g1,?_⟩;rw [if_neg hml,g2];simp only [Kes,Qb0,Kdk,Kcq]
   simp only [Jfh] at hsv;split at hsv
   . rename_i hc;obtain ⟨hc1,hc2,hc3⟩:=hc;cases m? with
     | none =>
       simp only at hm?;subst hm?;simp only at hsv;split at hsv
       . cases hsv
       rename_i hcl;simp only [Kaa] at hsv;subst hsv;have hrun:=Qgc (n:=n1) (cap:=cap) (A:=A) h ht he h1 h2 h3 hl hh (m:=cap) rfl hmh hc2 (by omega) (Kam _);refine OpQ.pure h (v':=_) (fun w' _=>by have hrun:=hrun w';rw [<- hA] at hrun;simp only [execOp,ho];rw [Sem.run_bind,hrun];rfl) (.inl ⟨part cap _ (by omega) (Kam _) hc1 hc2 hc3 (fun hct=>?_) (fun hcf=>⟨rfl,hcf⟩),rfl⟩);have:=k7 hct;subst hct;simp at hcl;omega
     | some m =>
       obtain ⟨y,rfl,hy⟩:=hm?;simp only at hsv;split at hsv
       . rename_i hc4;simp only [Kaa] at hsv;subst hsv;have hrun:=Qgc (n:=n1) (cap:=cap) (A:=A) h ht he h1 h2 h3 hl hh (m:=m) hy hmh hc2 (by omega) (by omega);exact OpQ.pure h (v':=_) (fun w' _=>by have hrun:=hrun w';rw [<- hA] at hrun;simp only [execOp,ho];rw [Sem.run_bind,hrun];rfl) (.inl ⟨part m _ (by omega) (by omega) hc1 hc2 hc3 (fun _=>hc4.1.symm) (fun hcl=>by cases hcl),rfl⟩)
       . split at hsv
         . rename_i hc5;simp only [Kaa] at hsv;subst hsv;have hrun:=Qgc (n:=n1) (cap:=cap) (A:=A) h ht he h1 h2 h3 hl hh (m:=m) hy hmh hc2 hc5.1 (by omega);exact OpQ.pure h (v':=_) (fun w' _=>by have hrun:=hrun w';rw [<- hA] at hrun;simp only [execOp,ho];rw [Sem.run_bind,hrun];rfl) rfl
         . cases hsv
   . cases hsv
 | _=>rw [hX] at hsv;simp [Jfh] at hsv
end
end Go.Idl
namespace Go.Idl
open Go
def Qyr (P:Program) (t:TypeId) (b:Bool):Prop:=∃ d,P.underlying t=some d/\(match d with | .struct _ | .array _ _=>true | _=>false)=b
theorem Qgb {P:Program} {t:TypeId} {b:Bool} (h:Qyr P t b) (w:World):(isAgg t).run P w=.ok b w:=by
 obtain ⟨d,h1,h2⟩:=h;simp only [isAgg,Sem.run_bind,run_underlying h1,Result.andThen_ok];cases d <;> simp_all
section
variable {cx:Cx} {w:World} {F:Nat->Prop} {ρ:Rho} {fp:Fp} {X f:List Nat} {st:St} {a:Act} {o:Oper}
theorem Qk4 {lk x v f} (h:RC cx w F ρ st lk x v f):Qa6 cx w F ρ st lk x v f:=by
 cases x with
 | agg cs=>rcases h with ⟨h,_⟩ | h
           . exact h.elim
           . cases h
 | tup cs=>rcases h with ⟨h,_⟩ | h
           . exact h.elim
           . cases h
 | un=>rcases h with ⟨h,_⟩ | h
       . exact h.elim
       . exact h.un_nil
 | _=>exact h
theorem Qir {lk x v f} (h:Qa6 cx w F ρ st lk x v f) (h1:∀ cs,x ≠ .agg cs) (h2:∀ vs,x ≠ .tup vs) (h3:x ≠ .un):RC cx w F ρ st lk x v f:=by
 cases x <;> first | exact h | exact absurd rfl (h1 _) | exact absurd rfl (h2 _) | exact absurd rfl h3
theorem Cat.drop {R:IV->Value->List Nat->Prop}:∀ {n:Nat} {xs vs},Cat R xs vs []->Cat R (xs.drop n) (vs.drop n) []
 | 0,_,_,h=>h
 | n+1,xs,vs,h=>by
   generalize hf:([]:List Nat)=f0 at h;cases h with
   | nil=>simp;exact .nil
   | cons h t =>
     have:=Keg.1 hf.symm;rw [this.2] at t;rw [<- hf];exact Cat.drop (n:=n) t
theorem Cat.take {R:IV->Value->List Nat->Prop}:∀ {n:Nat} {xs vs},Cat R xs vs []->Cat R (xs.take n) (vs.take n) []
 | 0,_,_,h=>.nil
 | n+1,xs,vs,h=>by
   generalize hf:([]:List Nat)=f0 at h;cases h with
   | nil=>simp;exact .nil
   | cons h t =>
     have:=Keg.1 hf.symm;rw [this.2] at t;rw [this.1] at h;rw [<- hf];exact Cat.cons (f:=[]) (fp:=[]) h (Cat.take (n:=n) t)
theorem Qed {cs xs:List IV} {c s:Nat} (h:sub cs c s=some xs):c+s<=cs.length/\xs=(cs.drop c).take s:=by
 unfold sub at h;split at h
 . simp only [Kaa] at h;exact ⟨‹_›,h.symm⟩
 . cases h
theorem Qs3 {b:Bool} {cs:List IV} {v:IV} (h:pack b cs=some v):(b=true/\v=.agg cs) \/ (b=false/\∃ x,cs=[x]/\v=x):=by
 unfold pack at h;split at h
 . rename_i x;cases b
   . simp only [Kap,Kbs,Kaa] at h;exact .inr ⟨rfl,x,rfl,h.symm⟩
   . simp only [if_true,Kaa] at h;exact .inl ⟨rfl,h.symm⟩
 . cases b
   . simp at h
   . simp only [if_true,Kaa] at h;exact .inl ⟨rfl,h.symm⟩
def Jdj (P:Program) (t:TypeId) (i off sz:Nat) (ag:Bool):Prop :=
 ∃ fields fd,P.underlying t=some (.struct fields)/\fields[i]? = some fd/\fd.offset=off/\Qdu P fd.type sz/\Qyr P fd.type ag
theorem Qs1 (h:Rel cx w F ρ fp X st (Qah a)) {x:Opd} {x':Operand} {off:Nat} (hx:Qaz cx x' x) (run:∀ b q,a.eval x'=.pointer (some ⟨b,q,none⟩)->∀ w1,AnyW w w1->(execOp a.eval o).run cx.P w1=.ok (.value (.pointer (some ⟨b,q+off,none⟩))) w1) {v:IV} {st':St} {cf}
 (hev:ev cf st (.fadr off x)=some (v,st')):OpQ cx w F ρ fp X st a o v st':=by
 have hr:=Qa0 h hx;simp only [ev] at hev;split at hev
 . rename_i l k c hX;simp only [Kaa,Kab] at hev;obtain ⟨rfl,rfl⟩:=hev;rw [hX] at hr;rcases hr with ⟨⟨hr,hb⟩,_⟩ | hr
   . exact OpQ.pure h (run _ _ hr) (.inl ⟨⟨rfl,hb⟩,rfl⟩)
   . cases hr
 . rename_i r c p i' j hX;simp only [Kaa,Kab] at hev;obtain ⟨rfl,rfl⟩:=hev;rw [hX] at hr;rcases hr with ⟨⟨x0,v0,e,es,b,q,N,cap,k1,k2,k3,k4⟩,_⟩ | hr
   . exact OpQ.pure h (run _ _ k4) (.inl ⟨⟨x0,v0,e,es,b,q,N,cap,k1,k2,k3,by simp [Kcq]⟩,rfl⟩)
   . cases hr
 . rename_i e j hX;simp only [Kaa,Kab] at hev;obtain ⟨rfl,rfl⟩:=hev;rw [hX] at hr;rcases hr with ⟨⟨b,q,C,ty,fr,k1,k2,k3,k4⟩,_⟩ | hr
   . exact OpQ.pure h (run _ _ k4) (.inl ⟨⟨b,q,C,ty,fr,k1,k2,k3,by simp [Kcq]⟩,rfl⟩)
   . cases hr
 . cases hev
theorem Jl6 (h:Rel cx w F ρ fp X st (Qah a)) {x:Opd} {x':Operand} {t i off sz ag} (hx:Qaz cx x' x) (hfd:Jdj cx.P t i off sz ag) (hsz:0 < sz) (ho:o.op=.fieldAddr t x' i) {v:IV} {st':St} {cf}
 (hev:ev cf st (.fadr off x)=some (v,st')):OpQ cx w F ρ fp X st a o v st':=by
 obtain ⟨fields,fd,h1,h2,h3,h4,h5⟩:=hfd;refine Qs1 h hx ?_ hev;intro b q hq w1 _;have hne:sz ≠ 0:=by omega
 simp [execOp,ho,hq,Instr.fieldAt,run_underlying h1,h2,Instr.sureAddr,fieldPlace,Qbu h4,hne,h3,Qb0]
theorem Jej (h:Rel cx w F ρ fp X st (Qah a)) {x:Opd} {x':Operand} {t el:TypeId} {n sz off:Nat} {kd:IntKind} {i:Int} (hx:Qaz cx x' x) (ht:cx.P.underlying t=some (.array n el)) (hs:Qdu cx.P el sz) (h0:0<=i) (h1:i < (n:Int)) (hoff:off=i.toNat * sz)
 (ho:o.op=.indexAddr t x' (.const (.int kd i))) {v:IV} {st':St} {cf} (hev:ev cf st (.fadr off x)=some (v,st')):OpQ cx w F ρ fp X st a o v st':=by
 refine Qs1 h hx ?_ hev;intro b q hq w1 _;subst hoff;have hc:a.eval (.const (.int kd i))=.int kd i:=rfl;simp [execOp,ho,hq,hc,Instr.indexAt,asIntOf,run_underlying ht,Instr.sureAddr,h0,h1,Qbu hs,Qb0]
theorem RDs.elem {es:List (List IV)} {e i:Nat} {el:List IV} {vs:List Value} {fp:List Nat} (h:RDs w F es.flatten vs fp) (he:∀ x ∈ es,x.length=e) (hi:es[i]? = some el) :
 ∃ f1 fq f2,fp=f1++(fq++f2)/\RDs w F el ((vs.drop (i * e)).take e) fq:=by
 have hil:i < es.length:=by
  rcases Kbw i es.length with h | h
  . exact h
  . rw [Kar h] at hi;cases hi
 obtain ⟨f1,fq,f2,h1,h2⟩:=h.subs he (off:=i) (n:=1) (by omega);refine ⟨f1,fq,f2,h1,?_⟩;have:(es.drop i).take 1=[el]:=by
  rw [Kay hil];simp only [Kfg,Kcz];rw [show es[i]=el by simpa [Kag hil] using hi]
 rw [this] at h2;simpa using h2
theorem Jl7 (h:Rel cx w F ρ fp X st (Qah a)) {x i:Opd} {x' i':Operand} {t elem e} (hx:Qaz cx x' x) (hi:Qaz cx i' i) (ht:cx.P.underlying t=some (.slice elem)) (he:Qdu cx.P elem e)
 (ho:o.op=.indexAddr t x' i') {v:IV} {st':St} {cf} (hev:ev cf st (.iadr e x i)=some (v,st')):OpQ cx w F ρ fp X st a o v st':=by
 have hr:=Qa0 h hx;simp only [ev] at hev;cases hn:Qcc (rd st.T i) with
 | none=>simp [hn] at hev
 | some n =>
 simp only [hn] at hev;obtain ⟨k,z,hz1,hz2,hz3,-⟩:=Qes hn (Qa0 h hi);have run:∀ b q N cap,a.eval x'=.slice (some ⟨b,q,none⟩) N cap->n < N->∀ w1,AnyW w w1->(execOp a.eval o).run cx.P w1=.ok (.value (.pointer (some ⟨b,q+n * e,none⟩))) w1:=by
  intro b q N cap hq hlt w1 _;have h1:z < (N:Int):=by omega
  simp [execOp,ho,hq,hz1,Instr.indexAt,asIntOf,run_underlying ht,hz2,h1,Qbu he,Qb0,hz3]
 split at hev
 . rename_i e1 es clip hX;rw [hX] at hr;have hd:RDs w F [.lst e1 es clip] [a.eval x'] []:=by
    rcases hr with ⟨hr,_⟩ | hr
    . exact hr.elim
    . exact hr
   split at hev
   . rename_i hee;subst hee;split at hev
     . rename_i el hel;simp only [Kaa,Kab] at hev;obtain ⟨rfl,rfl⟩:=hev;obtain ⟨-,hli⟩:=hd.lst_inv;rcases hli with ⟨h0,_⟩ | ⟨b,o1,cap1,C,ty,fr,h8,hF,hb,hd1,hle,_,_⟩
       . subst h0;simp at hel
       . have hil:n < es.length:=(Kak.1 hel).1;obtain ⟨f1,fq,f2,hff,hq⟩:=hd1.elem hle hel;have hfq:fq=[]:=by
          have:=congrArg List.length hff;simp at this;exact Kfc (by omega)
         subst hfq;have hlen:el.length=e1:=hle _ (Kbn hel);refine OpQ.pure h (run _ _ _ _ h8 hil) (.inl ⟨⟨b,o1+n * e1,C,ty,fr,hF,hb,?_,rfl⟩,rfl⟩);rw [hlen];have hsl:(((C.toList.drop o1).take (es.length * e1)).drop (n * e1)).take e1=(C.toList.drop (o1+n * e1)).take e1:=by
          rw [List.drop_take,Kdo,Ked];congr 1;have:(n+1) * e1<=es.length * e1:=Kbh _ hil;rw [Kbz] at this;omega
         rw [hsl] at hq;exact hq
     . cases hev
   . cases hev
 . rename_i r c p e1 off n1 clip hX;rw [hX] at hr;split at hev
   . rename_i hc;obtain ⟨rfl,hlt⟩:=hc;simp only [Kaa,Kab] at hev;obtain ⟨rfl,rfl⟩:=hev;rcases hr with ⟨⟨x0,v0,es,A0,N,cap0,A,cap,k1,k2,k3,hA,k5,k6,k7,k8⟩,_⟩ | hr
     . obtain ⟨b,o1,rfl,rfl⟩:=k8.1 (by omega);refine OpQ.pure h (run _ _ _ _ hA hlt) (.inl ⟨⟨x0,v0,e1,es,b,o1,N,cap0,k1,k2,by omega,?_⟩,rfl⟩);simp [Kdk,Kcq]
     . cases hr
   . cases hev
 . cases hev
theorem Jl8 (h:Rel cx w F ρ fp X st (Qah a)) {x i:Opd} {x' i':Operand} {t} (hx:Qaz cx x' x) (hi:Qaz cx i' i) (ht:cx.P.underlying t=some .string)
 (ho:o.op=.index t x' i') {v:IV} {st':St} {cf} (hev:ev cf st (.idxs x i)=some (v,st')):OpQ cx w F ρ fp X st a o v st':=by
 have hr:=Qa0 h hx;simp only [ev] at hev;split at hev
 . rename_i s n hX hn;obtain ⟨k,z,hz1,hz2,hz3,-⟩:=Qes hn (Qa0 h hi);rw [hX] at hr;obtain ⟨hs,-,-⟩:=Qbd hr;split at hev
   . rename_i b hb;simp only [Kaa,Kab] at hev;obtain ⟨rfl,rfl⟩:=hev;refine OpQ.pure h (v':=.int .u8 b.toNat) ?_ (Qcy rfl);intro w' hw';simp [execOp,ho,hs,hz1,Instr.index,asIntOf,run_underlying ht,hz2,hz3,hb]
   . cases hev
 . cases hev
theorem Js5 (h:Rel cx w F ρ fp X st (Qah a)) {x:Opd} {x':Operand} {t elem} (hx:Qaz cx x' x) (ht:cx.P.underlying t=some (.slice elem))
 (ho:o.op=.call { callee:=.builtin .len,args:=#[x'],argTypes:=#[t] }) {v:IV} {st':St} {cf} (hev:ev cf st (.len x)=some (v,st')):OpQ cx w F ρ fp X st a o v st':=by
 have hr:=Qa0 h hx;simp only [ev] at hev;split at hev
 . rename_i n hn;simp only [Kaa,Kab] at hev;obtain ⟨rfl,rfl⟩:=hev;have hA:∃ A cap,a.eval x'=.slice A n cap:=by
    unfold Jm9 at hn;split at hn
    . rename_i e es c hX;rw [hX] at hr;simp only [Kaa] at hn;subst hn;rcases hr with ⟨hr,_⟩ | hr
      . exact hr.elim
      . rcases hr.lst_inv.2 with ⟨h0,a9,c9,h8,_⟩ | ⟨b,o1,cap1,C,ty,fr,h8,_⟩
        . subst h0;exact ⟨_,_,h8⟩
        . exact ⟨_,_,h8⟩
    . rename_i r c p e off n1 clip hX;rw [hX] at hr;simp only [Kaa] at hn;subst hn;rcases hr with ⟨⟨x0,v0,es,A0,N,cap0,A,cap,k1,k2,k3,hA,_⟩,_⟩ | hr
      . exact ⟨_,_,hA⟩
      . cases hr
    . cases hn
   obtain ⟨A,cap,hA⟩:=hA;refine OpQ.pure h (v':=.int .i64 n) ?_ (Qcy rfl);intro w' hw';simp [execOp,ho,resolve,invoke,builtin,Builtin.len_,run_underlying ht,hA,goInt]
 . cases hev
theorem Jl9 (h:Rel cx w F ρ fp X st (Qah a)) {x:Opd} {x':Operand} {t} (hx:Qaz cx x' x) (ht:cx.P.underlying t=some .string)
 (ho:o.op=.call { callee:=.builtin .len,args:=#[x'],argTypes:=#[t] }) {v:IV} {st':St} {cf} (hev:ev cf st (.lens x)=some (v,st')):OpQ cx w F ρ fp X st a o v st':=by
 have hr:=Qa0 h hx;simp only [ev] at hev;split at hev
 . rename_i s hX;simp only [Kaa,Kab] at hev;obtain ⟨rfl,rfl⟩:=hev;rw [hX] at hr;obtain ⟨hs,-,-⟩:=Qbd hr;refine OpQ.pure h (v':=.int .i64 s.size) ?_ (Qcy rfl);intro w' hw';simp [execOp,ho,resolve,invoke,builtin,Builtin.len_,run_underlying ht,hs,goInt]
 . cases hev
theorem Qzz (h:Rel cx w F ρ fp X st (Qah a)) {x y:Opd} {x' y':Operand} {mn:Bool} {ts} (hx:Qaz cx x' x) (hy:Qaz cx y' y)
 (ho:o.op=.call { callee:=.builtin (if mn then .min else .max),args:=#[x',y'],argTypes:=ts }) {v:IV} {st':St} {cf} (hev:ev cf st (.minmax mn x y)=some (v,st')):OpQ cx w F ρ fp X st a o v st':=by
 have hr:=Qa0 h hx;have hr2:=Qa0 h hy;simp only [ev] at hev;split at hev
 . rename_i k m k' n hX hY;simp only [Kaa,Kab] at hev;obtain ⟨rfl,rfl⟩:=hev;rw [hX] at hr;rw [hY] at hr2;obtain ⟨hs,-,-⟩:=Qbd hr;obtain ⟨hs2,-,-⟩:=Qbd hr2;refine OpQ.pure h (v':=.int k (if mn then (if n < m then n else m) else (if m < n then n else m))) ?_ (Qcy rfl);intro w' hw';cases mn
   . simp [execOp,ho,resolve,invoke,builtin,Builtin.max_,Builtin.max2,hs,hs2]
     try (split <;> simp_all)
   . simp [execOp,ho,resolve,invoke,builtin,Builtin.min_,Builtin.min2,hs,hs2]
 . cases hev
theorem Jme (h:Rel cx w F ρ fp X st (Qah a)) {t:TypeId} {x:Opd} {x':Operand} {lo hi:Option Opd} {lo' hi':Option Operand} (hx:Qaz cx x' x)
 (h1:Qg4 cx lo' lo) (h2:Qg4 cx hi' hi) (ht:cx.P.underlying t=some .string)
 (ho:o.op=.slice t x' lo' hi' none) {v:IV} {st':St} {cf} (hev:ev cf st (.slcs x lo hi)=some (v,st')):OpQ cx w F ρ fp X st a o v st':=by
 have hr:=Qa0 h hx;simp only [ev] at hev;split at hev
 . rename_i s hX;rw [hX] at hr;obtain ⟨hs,-,-⟩:=Qbd hr;split at hev
   . rename_i l hh hl hhi;split at hev
     . rename_i hc;simp only [Kaa,Kab] at hev;obtain ⟨rfl,rfl⟩:=hev;refine OpQ.pure h (v':=.string (s.extract l hh)) ?_ (Qcy rfl);intro w' hw';have hb:(Instr.sliceBounds false s.size s.size (lo'.map a.eval) (hi'.map a.eval) none).run cx.P w'=.ok (l,hh,s.size) w':=by
        unfold Instr.sliceBounds;rcases Qca h h2 hhi with ⟨rfl,rfl⟩ | ⟨yh,kh,zh,rfl,hh1,hh2,hh3⟩
        . rcases Qca h h1 hl with ⟨rfl,rfl⟩ | ⟨yl,kl,zl,rfl,hl1,hl2,hl3⟩
          . simp
          . simp [hl1,Qat hl2 hl3 hc.1]
        . rcases Qca h h1 hl with ⟨rfl,rfl⟩ | ⟨yl,kl,zl,rfl,hl1,hl2,hl3⟩
          . simp [hh1,Qat hh2 hh3 hc.2]
          . simp [hh1,Qat hh2 hh3 hc.2,hl1,Qat hl2 hl3 hc.1]
       simp [execOp,ho,hs,Instr.sliceAt,Instr.slice,run_underlying ht,hb]
     . cases hev
   . cases hev
 . cases hev
theorem Jmb (h:Rel cx w F ρ fp X st (Qah a)) {g:Lab} {caps:List Opd} {caps':Array Operand} (hc:caps.length=caps'.size/\∀ (i:Nat) (x:Opd) (y:Operand),caps[i]? = some x->caps'[i]? = some y->Qaz cx y x)
 (ho:o.op=.makeFunc (.func (cx.fid g)) #[] caps') {v:IV} {st':St} {cf} (hev:ev cf st (.mkfn g caps)=some (v,st')):OpQ cx w F ρ fp X st a o v st':=by
 simp only [ev] at hev;split at hev
 . rename_i hb;simp only [Kaa,Kab] at hev;obtain ⟨rfl,rfl⟩:=hev;refine OpQ.pure h (v':=.func (.func (cx.fid g)) #[] (caps'.map a.eval)) (by simp [execOp,ho,Instr.makeFunc]) (.inl ⟨⟨(caps'.map a.eval).toList,by rw [Array.toArray_toList],?_⟩,rfl⟩);have key:∀ (l:List Opd) (l':List Operand),l.length=l'.length->(∀ (i:Nat) (x:Opd) (y:Operand),l[i]? = some x->l'[i]? = some y->Qaz cx y x)->(l.map (rd st.T)).all IV.isBptr=true ->
    Cat (fun x v f=>Jcm ρ st x v/\f=[]) (l.map (rd st.T)) (l'.map a.eval) []:=by
    intro l
    induction l with
    | nil=>intro l' hl _ _;cases l' with
           | nil=>exact .nil
           | cons _ _=>simp at hl
    | cons x xs ih =>
      intro l' hl hk hall;cases l' with
      | nil=>simp at hl
      | cons y ys =>
        simp only [Kbd,Kcj,Kac] at hall;have hxy:=Qa0 h (hk 0 x y rfl rfl);refine Cat.cons (f:=[]) (fp:=[]) ⟨?_,rfl⟩ (ih ys (by simpa using hl) (fun i x' y' h1 h2=>hk (i+1) x' y' (by simpa using h1) (by simpa using h2)) hall.2);cases hX:rd st.T x with
        | bptr l k c =>
          rw [hX] at hxy;rcases hxy with ⟨⟨h1,h2⟩,_⟩ | hxy
          . exact ⟨h1,h2⟩
          . cases hxy
        | _=>rw [hX] at hall;simp [IV.isBptr] at hall
   have:=key caps caps'.toList (by simpa using hc.1) (fun i x y h1 h2=>hc.2 i x y h1 (by simpa using h2)) hb;simpa using this
 . cases hev
end
end Go.Idl
namespace Go.Idl
open Go
section
variable {cx:Cx} {w:World} {F:Nat->Prop} {ρ:Rho} {fp:Fp} {X f:List Nat} {st:St} {a:Act} {o:Oper} {tm:Nat->Value}
theorem Qj7.rc {l x v f} {lk} (h:Qj7 cx w F ρ st l x v f):RC cx w F ρ st lk x v f:=by
 rcases h with ⟨h,_,h3,h4⟩ | h
 . refine .inl ⟨?_,h4⟩;cases x <;> simp at h3 <;> exact h
 . exact .inr h
theorem RDs.cat {xs vs fp lk} (h:RDs w F xs vs fp):Cat (RC cx w F ρ st lk) xs vs fp:=by
 induction xs generalizing vs fp with
 | nil=>cases h;exact .nil
 | cons x xs ih =>
   obtain ⟨v,us,f1,f2,rfl,rfl,h1,h2⟩:=h.cons_inv;exact .cons (.inr h1) (ih h2)
theorem Cat.dropf {R:IV->Value->List Nat->Prop}:∀ {n:Nat} {xs vs f},Cat R xs vs f->∃ f',Cat R (xs.drop n) (vs.drop n) f'
 | 0,_,_,f,h=>⟨f,h⟩
 | n+1,xs,vs,f,h=>by
   cases h with
   | nil=>exact ⟨[],by simp;exact .nil⟩
   | cons h t=>exact Cat.dropf (n:=n) t
theorem Cat.takef {R:IV->Value->List Nat->Prop}:∀ {n:Nat} {xs vs f},Cat R xs vs f->∃ f',Cat R (xs.take n) (vs.take n) f'
 | 0,_,_,_,h=>⟨[],.nil⟩
 | n+1,xs,vs,f,h=>by
   cases h with
   | nil=>exact ⟨[],by simp;exact .nil⟩
   | cons h t=>obtain ⟨f',h'⟩:=Cat.takef (n:=n) t;exact ⟨_,.cons h h'⟩
theorem Qsg:∀ {p:Qg8} {x:IV} {v:Value} {e es b o N cap i j} {el:List IV} {y:IV} {u:Value},Qci w x v p=some (.own e es,.slice (some ⟨b,o,none⟩) N cap)->es[i]? = some el->el[j]? = some y ->
 w.cell? ⟨b,o+i * e+j,none⟩=some u->Qci w x v (p++[(i,j)])=some (y,u)
 | [],x,v,e,es,b,o,N,cap,i,j,el,y,u,h,hi,hj,hc=>by
   simp only [Qci,Kaa,Kab] at h;obtain ⟨rfl,rfl⟩:=h;simp only [Kaq,Qci,hi,hj,hc]
 | (i',j')::p,x,v,e,es,b,o,N,cap,i,j,el,y,u,h,hi,hj,hc=>by
   cases x with
   | own e0 es0 =>
     cases v with
     | slice A n0 c0 =>
       cases A with
       | none=>simp [Qci] at h
       | some A =>
         simp only [Kbk,Qci] at h |-;cases h1:es0[i']? with
         | none=>simp [h1] at h
         | some el0 =>
           simp only [h1] at h |-;cases h2:el0[j']? with
           | none=>simp [h2] at h
           | some y0 =>
             simp only [h2] at h |-;cases h3:w.cell? ⟨A.block,A.off+i' * e0+j',none⟩ with
             | none=>simp [h3] at h
             | some u0 =>
               simp only [h3] at h |-;exact Qsg h hi hj hc
     | _=>simp [Qci] at h
   | _=>simp [Qci] at h
theorem Qzs (h:Rel cx w F ρ fp X st tm) {x:IV} {v:Value} (hx:RC cx w F ρ st (look st tm ρ w) x v []) {sz:Nat} {cs:List IV} (hl:st.loadCells sz x=some cs) :
 ∃ (ad:Addr) (vs:List Value),v=.pointer (some ad)/\Cat (RC cx w F ρ st (look st tm ρ w)) cs vs []/\vs.length=sz/\∀ j u,vs[j]? = some u->w.cell? (ad.add j)=some u:=by
 cases x with
 | bptr l k c =>
   simp only [St.loadCells] at hl;cases hb:st.box l k with
   | none=>simp [hb] at hl
   | some bs =>
     simp only [hb] at hl;cases hs:sub bs c sz with
     | none=>simp [hs] at hl
     | some xs =>
       simp only [hs,Kaa] at hl;subst hl;obtain ⟨hle,rfl⟩:=Qed hs;rcases hx with ⟨⟨hv,_⟩,_⟩ | hx;rotate_left
       . cases hx
       obtain ⟨C,ty,f0,h1,h2,h3⟩:=h.boxes l k bs hb;have h3':Cat (RC cx w F ρ st (look st tm ρ w)) bs C.toList f0:=h3.mono fun x v f _ hx _=>hx.rc;obtain ⟨f1,h4⟩:=h3'.dropf (n:=c);obtain ⟨f2,h5⟩:=h4.takef (n:=sz);have hlen:bs.length=C.toList.length:=h3.len;refine ⟨_,(C.toList.drop c).take sz,hv,Qgv h5 (fun q e es u k1 k2=>?_),by rw [Kas,Kco];omega,fun j u hj=>?_⟩
       . have hq:q < sz:=by
          rcases Kbw q sz with hh | hh
          . exact hh
          . rw [Kar (by rw [Kas];omega)] at k1;cases k1
         rw [Kbg hq,Kbp] at k1;rw [Qam hq] at k2;refine ⟨.own e es,u,?_,rfl⟩;simp only [look,hb,k1,Qau h2,k2]
       . have hq:j < sz:=by
          rcases Kbw j sz with hh | hh
          . exact hh
          . rw [Kar (by rw [Kas];omega)] at hj;cases hj
         rw [Qam hq] at hj;rw [Qb0,Qau h2,hj]
 | eptr r c p i j =>
   simp only [St.loadCells] at hl;rcases hx with ⟨⟨x0,v0,e,es,b,o1,N,cap,k1,k2,k3,k4⟩,_⟩ | hx;rotate_left
   . cases hx
   have hp:=Qe6 h k1 k2;simp only [hp] at hl;cases hi:es[i]? with
   | none=>simp [hi] at hl
   | some el =>
     simp only [hi] at hl;cases hs:sub el j sz with
     | none=>simp [hs] at hl
     | some xs =>
       simp only [hs,Kaa] at hl;subst hl;obtain ⟨hle,rfl⟩:=Qed hs;obtain ⟨e0,es0,rfl⟩:=Qbk k2;obtain ⟨f0,g1,g2,g3⟩:=h.data k1 (Qct k2);obtain ⟨u0,a1,a2,a3,hfu,_,hRn,_⟩:=g3.fol (Qdc k2);rw [k2] at hfu;simp only [Kaa,Kab,Kfe] at hfu;subst hfu;rcases RDs.own_inv hRn with ⟨h0,_⟩ | ⟨b1,o2,cap1,C,ty,fp1,h8,_,hb,hd,hle',hnn,ho⟩
       . subst h0;simp at hi
       . simp only [Value.slice.injEq,Kaa,Addr.mk.injEq,and_true] at h8;obtain ⟨⟨rfl,rfl⟩,rfl,rfl⟩:=h8;have hil:i < es.length:=(Kak.1 hi).1;have hell:el.length=e:=hle' _ (Kbn hi);obtain ⟨f1,fq,f2,_,hq⟩:=hd.elem hle' hi;have hbnd:(i+1) * e<=es.length * e:=Kbh _ hil;rw [Kbz] at hbnd;have hsl:(((C.toList.drop o1).take (es.length * e)).drop (i * e)).take e=(C.toList.drop (o1+i * e)).take e:=by
          rw [List.drop_take,Kdo,Ked];congr 1;omega
         rw [hsl] at hq;have hcat:Cat (RC cx w F ρ st (look st tm ρ w)) el _ fq:=hq.cat;obtain ⟨f3,h4⟩:=hcat.dropf (n:=j);obtain ⟨f4,h5⟩:=h4.takef (n:=sz);have hsl2:(((C.toList.drop (o1+i * e)).take e).drop j).take sz=(C.toList.drop (o1+i * e+j)).take sz:=by
          rw [List.drop_take,Kdo,Ked];congr 1;omega
         rw [hsl2] at h5;have hlen:=h5.len;refine ⟨_,(C.toList.drop (o1+i * e+j)).take sz,k4,Qgv h5 (fun q e' es' u q1 q2=>?_),?_,fun q u hj=>?_⟩
         . have hq:q < sz:=by
            rcases Kbw q sz with hh | hh
            . exact hh
            . rw [Kar (by rw [Kas];omega)] at q1;cases q1
           rw [Kbg hq,Kbp] at q1;rw [Qam hq] at q2;exact ⟨_,v0,k1,Qsg k2 hi q1 (by rw [Qau hb,<- q2,Kcq (o1+i * e)])⟩
         . rw [<- hlen,Kas,Kco];omega
         . have hq:q < sz:=by
            rcases Kbw q sz with hh | hh
            . exact hh
            . rw [Kar (by rw [Kas];omega)] at hj;cases hj
           rw [Qam hq] at hj;rw [Qb0,Qau hb,hj]
 | lptr ec j =>
   simp only [St.loadCells] at hl;obtain ⟨hle,rfl⟩:=Qed hl;rcases hx with ⟨⟨b,o1,C,ty,fr,k1,k2,k3,k4⟩,_⟩ | hx;rotate_left
   . cases hx
   have hcat:Cat (RC cx w F ρ st (look st tm ρ w)) ec _ []:=k3.cat;have h5:=(hcat.drop (n:=j)).take (n:=sz);have hsl2:(((C.toList.drop o1).take ec.length).drop j).take sz=(C.toList.drop (o1+j)).take sz:=by
    rw [List.drop_take,Kdo,Ked];congr 1;omega
   rw [hsl2] at h5;have hlen:=h5.len;refine ⟨_,(C.toList.drop (o1+j)).take sz,k4,h5,?_,fun q u hj=>?_⟩
   . rw [<- hlen,Kas,Kco];omega
   . have hq:q < sz:=by
      rcases Kbw q sz with hh | hh
      . exact hh
      . rw [Kar (by rw [Kas];omega)] at hj;cases hj
     rw [Qam hq] at hj;rw [Qb0,Qau k2,hj]
 | _=>simp [St.loadCells] at hl
theorem Jma (h:Rel cx w F ρ fp X st (Qah a)) {x:Opd} {x':Operand} {t sz ag} (hx:Qaz cx x' x) (hsz:Qdu cx.P t sz) (hag:Qyr cx.P t ag) (ho:o.op=.load t x') {v:IV} {st':St} {cf}
 (hev:ev cf st (.load ag sz x)=some (v,st')):OpL cx w F ρ fp X st a o v st':=by
 have hr:=Qa0 h hx;simp only [ev] at hev;split at hev
 . rename_i cs hl;split at hev
   . rename_i v1 hp;simp only [Kaa,Kab] at hev;obtain ⟨rfl,rfl⟩:=hev;have hrc:RC cx w F ρ st (look st (Qah a) ρ w) (rd st.T x) (a.eval x') []:=Qir hr (fun cs hc=>by rw [hc] at hl;simp [St.loadCells] at hl) (fun cs hc=>by rw [hc] at hl;simp [St.loadCells] at hl) (fun hc=>by rw [hc] at hl;simp [St.loadCells] at hl);obtain ⟨ad,vs,hv,hcat,hlen,hcells⟩:=Qzs h hrc hl;rcases Qs3 hp with ⟨rfl,rfl⟩ | ⟨rfl,y,rfl,rfl⟩
     . refine OpL.pure h (v':=.agg vs.toArray) ?_ ⟨_,rfl,by simpa using hcat⟩;intro w' hw';have:=run_loadCells_list (P:=cx.P) w' ad vs (fun j u hj=>hw'.cell (hcells j u hj));rw [hlen] at this;simp [execOp,ho,hv,Instr.loadAt,Instr.sureAddr,loadVar,Qgb hag,Qbu hsz,this]
     . have hl1:=hcat.len;cases vs with
       | nil=>simp at hl1
       | cons u us =>
         cases us with
         | cons _ _=>simp at hl1
         | nil =>
         have hu:=hcells 0 u rfl;rw [show ad.add 0=ad from rfl] at hu;refine OpL.pure h (v':=u) ?_ ?_
         . intro w' hw';simp [execOp,ho,hv,Instr.loadAt,Instr.sureAddr,loadVar,Qgb hag,run_load,hw'.cell hu]
         . generalize hf:([]:List Nat)=f0 at hcat;cases hcat with
           | cons hh tt =>
             have:=Keg.1 hf.symm;rw [this.1] at hh;rw [<- hf];exact Qk4 hh
   . cases hev
 . cases hev
end
end Go.Idl
namespace Go.Idl
open Go
section
variable {cx:Cx} {w:World} {F:Nat->Prop} {ρ:Rho} {fp fp':Fp} {X f f':List Nat} {st:St} {a:Act} {o:Oper} {tm:Nat->Value}
theorem Ext.sub {ex} (h1:∀ r b,b ∈ fp' r->∃ r',b ∈ fp r') (h2:∀ b,b ∈ f'->∃ r,b ∈ fp r):Ext w F ρ fp X ex w F ρ fp' (f'++X) :=
 ⟨Kam _,fun _ _ _ _=>rfl,fun r b h=>.inl (h1 r b h),fun b h=>by
   simp only [Kah] at h;rcases h with h | h
   . exact .inl (h2 b h)
   . exact .inr (.inl h),fun _ h=>h,fun _ h=>.inl h,fun _ _ _=>rfl,.refl w⟩
theorem Jeh (h:Rel cx w F ρ fp X st (Qah a)) {x:Opd} {y:Operand} (hx:Qaz cx y x) (ho:o.op=.move y \/ o.op=.assign y):Qb8 cx w F ρ fp X st a o (tk st.T x).1 { st with T:=(tk st.T x).2 }:=by
 obtain ⟨fp',f,h1,h2,h3,h4⟩:=Qj2 h hx;refine ⟨a.eval y,w,F,ρ,fp',f,.inl ?_,h1,h2,Ext.sub (fun r b hb=>⟨r,h4 r b hb⟩) h3,⟨rfl,Kam _⟩⟩;rcases ho with ho | ho <;> simp [execOp,ho]
theorem Qxv (h:Rel cx w F ρ fp X st (Qah a)) {x:Opd} {y:Operand} (hx:Qaz cx y x) (ho:o.op=.move y \/ o.op=.assign y) {v:IV} {st':St} {cf} (hev:ev cf st (.asgm x)=some (v,st')) :
 Qb8 cx w F ρ fp X st a o v st':=by
 obtain ⟨fp1,f1,h1,h2,h3,h4⟩:=Qj2 h hx;have hrun:(execOp a.eval o).run cx.P w=.ok (.value (a.eval y)) w:=by rcases ho with ho | ho <;> simp [execOp,ho]
 simp only [ev] at hev;split at hev
 . rename_i cs T ht;rw [ht] at h1 h2;split at hev
   . rename_i cs' st1 ha;simp only [Kaa,Kab] at hev;obtain ⟨rfl,rfl⟩:=hev;obtain ⟨C,hC,hcat⟩:=h2;obtain ⟨fp2,fy,k1,k2,k3,k4,k5,k6⟩:=h1.absorbs hcat ha;refine ⟨a.eval y,w,F,ρ,fp2,fy,.inl hrun,k1,⟨C,hC,k2⟩,Ext.sub (fun r b hb=>⟨r,h4 r b (k5 r b hb)⟩) (fun b hb=>?_),⟨k6.M,k6.loc⟩⟩;rcases k4 b hb with h9 | ⟨r,h9⟩
     . exact h3 b h9
     . exact ⟨r,h4 r b h9⟩
   . cases hev
 . rename_i v0 T hne ht;rw [ht] at h1 h2;split at hev
   . rename_i v1 st1 ha;simp only [Kaa,Kab] at hev;obtain ⟨rfl,rfl⟩:=hev;have hrc:=Qir h2 (fun cs hc=>hne cs hc) (fun vs hc=>by simp only at hc;rw [hc] at ha;simp [St.absorb] at ha) (fun hc=>by simp only at hc;rw [hc] at ha;simp [St.absorb] at ha);obtain ⟨fp2,fy,k1,k2,k3,k4,k5,k6,k7⟩:=h1.absorb hrc ha;refine ⟨a.eval y,w,F,ρ,fp2,fy,.inl hrun,k1,Qk4 k2,Ext.sub (fun r b hb=>⟨r,h4 r b (k5 r b hb)⟩) (fun b hb=>?_),⟨k6.M,k6.loc⟩⟩;rcases k4 b hb with h9 | ⟨r,h9⟩
     . exact h3 b h9
     . exact ⟨r,h4 r b h9⟩
   . cases hev
theorem Qrh {lk x v f} (h:Qa6 cx w F ρ st lk x v f) (hx:x.okPart=true):Cat (RC cx w F ρ st lk) x.cells v.cells.toList f:=by
 have one:∀ y,RC cx w F ρ st lk y v f->(∀ C,v ≠ .agg C)->Cat (RC cx w F ρ st lk) [y] v.cells.toList f:=fun y hy hv=>by
  have:v.cells=#[v]:=by cases v <;> first | rfl | exact absurd rfl (hv _)
  rw [this];simpa using Cat.cons hy .nil
 cases x with
 | agg cs=>obtain ⟨C,rfl,hc⟩:=h;exact hc
 | tup vs=>simp [IV.okPart] at hx
 | un=>simp [IV.okPart] at hx
 | sc u =>
   refine one _ h (fun C hC=>?_);obtain ⟨h1,h2,-⟩:=Qbd h;rw [hC] at h1;subst h1;simp [Idl.isSc] at h2
 | lst e es c =>
   refine one _ h (fun C hC=>?_);rcases h with ⟨h,_⟩ | h
   . exact h.elim
   . rcases h.lst_inv.2 with ⟨_,_,_,h1,_⟩ | ⟨_,_,_,_,_,_,h1,_⟩ <;> rw [hC] at h1 <;> cases h1
 | own e es =>
   refine one _ h (fun C hC=>?_);rcases h with ⟨h,_⟩ | h
   . exact h.elim
   . rcases h.own_inv with ⟨_,_,_,h1⟩ | ⟨_,_,_,_,_,_,h1,_⟩ <;> rw [hC] at h1 <;> cases h1
 | arr r c p e off n k =>
   refine one _ h (fun C hC=>?_);rcases h with ⟨⟨_,_,_,_,_,_,_,_,_,_,_,h1,_⟩,_⟩ | h
   . rw [hC] at h1;cases h1
   . cases h
 | eptr r c p i j =>
   refine one _ h (fun C hC=>?_);rcases h with ⟨⟨_,_,_,_,_,_,_,_,_,_,_,h1⟩,_⟩ | h
   . rw [hC] at h1;cases h1
   . cases h
 | lptr e j =>
   refine one _ h (fun C hC=>?_);rcases h with ⟨⟨_,_,_,_,_,_,_,_,h1⟩,_⟩ | h
   . rw [hC] at h1;cases h1
   . cases h
 | bptr l k c =>
   refine one _ h (fun C hC=>?_);rcases h with ⟨⟨h1,_⟩,_⟩ | h
   . rw [hC] at h1;cases h1
   . cases h
 | fn g cs =>
   refine one _ h (fun C hC=>?_);rcases h with ⟨⟨_,h1,_⟩,_⟩ | h
   . rw [hC] at h1;cases h1
   . cases h
theorem Qfb (h:Rel cx w F ρ fp X st (Qah a)) {x:Opd} {y:Operand} (hx:Qaz cx y x) {cs:List IV} {st':St} (ha:({ st with T:=(tk st.T x).2 }:St).absorbs (tk st.T x).1.wcells=some (cs,st')) :
 ∃ fp' fy,Rel cx w F ρ fp' (fy++X) st' (Qah a)/\Cat (RC cx w F ρ st' (look st' (Qah a) ρ w)) cs (a.eval y).cells.toList fy/\(∀ c ∈ cs,c.isD=true)/\(∀ b ∈ fy,∃ r,b ∈ fp r)/\(∀ r,∀ b ∈ fp' r,b ∈ fp r)/\Qbf st st':=by
 obtain ⟨fp1,f1,h1,h2,h3,h4⟩:=Qj2 h hx;have hok:(tk st.T x).1.okPart=true:=by
  cases hv:(tk st.T x).1 with
  | un=>rw [hv] at ha;simp [IV.wcells,St.absorbs,St.absorbsK,klc,St.absorb] at ha
  | tup vs=>rw [hv] at ha;simp [IV.wcells,St.absorbs,St.absorbsK,klc,St.absorb] at ha
  | _=>rfl
 have hwc:(tk st.T x).1.wcells=(tk st.T x).1.cells:=by
  cases hv:(tk st.T x).1 <;> first | rfl | (rw [hv] at hok;simp [IV.okPart] at hok)
 rw [hwc] at ha;have hcat:=Qrh h2 hok;obtain ⟨fp2,fy,k1,k2,k3,k4,k5,k6⟩:=h1.absorbs hcat ha;refine ⟨fp2,fy,k1,k2,k3,fun b hb=>?_,fun r b hb=>h4 r b (k5 r b hb),⟨k6.M,k6.loc⟩⟩;rcases k4 b hb with h9 | ⟨r,h9⟩
 . exact h3 b h9
 . exact ⟨r,h4 r b h9⟩
end
end Go.Idl
