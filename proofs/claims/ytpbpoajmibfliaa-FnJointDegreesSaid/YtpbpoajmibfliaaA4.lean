/- Part 4 of a proof by an ideal interpreter of the code: its definitions and lemmas. Conditions: none. -/
import Derived.Below
import Derived.IntWalk
import Derived.Maps.Own
import Derived.Maps.RangeRun
import Derived.WideKeyEntry
import Derived.Test.YtpbpoajmibfliaaA3
set_option linter.all false
set_option linter.unusedVariables false
set_option linter.unusedSimpArgs false
namespace Go.Idl
open Go Go.ChangeMaps Go.WideMaps Go.RowKit
open Go.WideElems (findIdx_born findIdx_arr modify_last set_self)
section
variable {P:Program} {ops:Array Oper} {cls:Nat→Cls} {K:Act→World→Prop} {rest:List Nat} {a:Act} {w:World} {i:Nat} {o:Oper}
theorem yReg (v:Value) {d:Tmp} (ho:ops[i]? = some o) (hc:cls i=.reg) (hg:o.guard=none) (hd:o.dst=some d) (hr:∀ w,(execOp a.eval o).run P w=.ok (.value v) w) (h:wpY P ops cls K rest (a.put (some d) v) w):wpY P ops cls K (i::rest) a w:=by
  refine ⟨o,ho,?_⟩
  rw [hc,hd]
  exact ⟨v,.inl ⟨by simp [Region.wanted,hg],hr⟩,h⟩
theorem yLd (v:Value) {d:Tmp} (ho:ops[i]? = some o) (hc:cls i=.ld) (hg:o.guard=none) (hd:o.dst=some d) (hr:(execOp a.eval o).run P w=.ok (.value v) w) (h:wpY P ops cls K rest (a.put (some d) v) w):wpY P ops cls K (i::rest) a w:=by
  refine ⟨o,ho,?_⟩
  rw [hc,hd]
  exact ⟨v,.inl ⟨by simp [Region.wanted,hg],hr⟩,h⟩
theorem yOth (ho:ops[i]? = some o) (hc:cls i=.oth) (hg:o.guard=none) (h:o.wp P a w (wpY P ops cls K rest) QF):wpY P ops cls K (i::rest) a w:=by
  refine ⟨o,ho,?_⟩
  rw [hc]
  show wpOp P ops QF i _ a w
  unfold wpOp
  simp only [ho]
  have hw:Region.wanted o (yielded ops a.tmps)=true:=by simp [Region.wanted,hg]
  rw [hw]
  exact .inl h
theorem yVal {v:Value} {w':World} {d:Tmp} (ho:ops[i]? = some o) (hc:cls i=.oth) (hg:o.guard=none) (hd:o.dst=some d) (hr:(execOp a.eval o).run P w=.ok (.value v) w') (h:wpY P ops cls K rest (a.put (some d) v) w'):wpY P ops cls K (i::rest) a w:=by
  refine yOth ho hc hg ?_
  unfold Oper.wp
  rw [hr]
  rw [← hd] at h
  exact h
theorem ySkip {w':World} (ho:ops[i]? = some o) (hc:cls i=.oth) (hg:o.guard=none) (hd:o.dst=none) (hr:(execOp a.eval o).run P w=.ok .skip w') (h:wpY P ops cls K rest a w'):wpY P ops cls K (i::rest) a w:=by
  refine yOth ho hc hg ?_
  unfold Oper.wp
  rw [hr]
  show wpY P ops cls K rest (a.put o.dst undef) w'
  rw [hd]
  exact h
theorem yEnter {f:FuncId} {args:Array Value} {d:Tmp} (ho:ops[i]? = some o) (hc:cls i=.oth) (hg:o.guard=none) (hd:o.dst=some d) (hr:(execOp a.eval o).run P w=.ok (.enter f args) w)
    (h:Calls P f args w fun e w'=>∃ v,e=.returned v∧wpY P ops cls K rest (a.put (some d) v) w'):wpY P ops cls K (i::rest) a w:=by
  refine yOth ho hc hg ?_
  unfold Oper.wp
  rw [hr]
  refine h.mono ?_
  rintro e w' ⟨v,rfl,h⟩
  rw [← hd] at h
  exact h
theorem ePut {d s:Tmp} {v:Value} (hne:s ≠ d):(a.put (some d) v).eval (.tmp s)=a.eval (.tmp s):=by
  show (a.tmps.setIfInBounds d v).getD s undef=a.tmps.getD s undef
  rw [Array.getD_eq_getD_getElem?,Array.getD_eq_getD_getElem?,Array.getElem?_setIfInBounds_ne (fun e=>hne e.symm)]
theorem ePuts {d:Tmp} {v:Value} (hs:d < a.tmps.size):(a.put (some d) v).eval (.tmp d)=v:=by
  show (a.tmps.setIfInBounds d v).getD d undef=v
  rw [Array.getD_eq_getD_getElem?,Array.getElem?_setIfInBounds_self_of_lt hs];rfl
theorem zPut {d:Option Tmp} {v:Value}:(a.put d v).tmps.size=a.tmps.size:=by
  cases d with
  | none=>rfl
  | some d=>exact Array.size_setIfInBounds
theorem yMv (x:Operand) (v:Value) {d:Tmp} (ho:ops[i]? = some o) (hc:cls i=.reg) (hg:o.guard=none) (hd:o.dst=some d) (hop:o.op=.move x) (hx:a.eval x=v) (h:wpY P ops cls K rest (a.put (some d) v) w):wpY P ops cls K (i::rest) a w :=
  yReg v ho hc hg hd (fun w=>by simp [execOp,hop,hx]) h
theorem yFadr {t fi off sz:Nat} {ag:Bool} (b q:Nat) (x:Operand) {d:Tmp} (ho:ops[i]? = some o) (hc:cls i=.reg) (hg:o.guard=none) (hd:o.dst=some d) (hop:o.op=.fieldAddr t x fi) (hfd:fieldIs P t fi off sz ag) (hsz:0 < sz)
    (hx:a.eval x=.pointer (some ⟨b,q,none⟩)) (h:wpY P ops cls K rest (a.put (some d) (.pointer (some ⟨b,q+off,none⟩))) w):wpY P ops cls K (i::rest) a w:=by
  obtain ⟨fields,fd,h1,h2,h3,h4,h5⟩:=hfd
  refine yReg _ ho hc hg hd (fun w=>?_) h
  have hne:sz ≠ 0:=by omega
  simp [execOp,hop,hx,Instr.fieldAt,run_underlying h1,h2,Instr.sureAddr,fieldPlace,run_sizeOf h4,hne,h3,addr_add]
theorem yIadr {t elem:TypeId} {e:Nat} (b q N cap:Nat) (z:Int) (x y:Operand) {d:Tmp} (ho:ops[i]? = some o) (hc:cls i=.reg) (hg:o.guard=none) (hd:o.dst=some d) (hop:o.op=.indexAddr t x y) (ht:P.underlying t=some (.slice elem)) (he:sizeIs P elem e)
    (hx:a.eval x=.slice (some ⟨b,q,none⟩) N cap) (hy:a.eval y=.int .i64 z) (h0:0≤z) (h1:z < N) (h:wpY P ops cls K rest (a.put (some d) (.pointer (some ⟨b,q+z.toNat * e,none⟩))) w):wpY P ops cls K (i::rest) a w:=by
  refine yReg _ ho hc hg hd (fun w=>?_) h
  simp [execOp,hop,hx,hy,Instr.indexAt,asIntOf,run_underlying ht,h0,h1,run_sizeOf he,addr_add]
theorem yLoad {t:TypeId} (v:Value) (b q:Nat) (x:Operand) {d:Tmp} (ho:ops[i]? = some o) (hc:cls i=.ld) (hg:o.guard=none) (hd:o.dst=some d) (hop:o.op=.load t x) (hag:aggIs P t false)
    (hx:a.eval x=.pointer (some ⟨b,q,none⟩)) (hcell:w.cell? ⟨b,q,none⟩=some v) (h:wpY P ops cls K rest (a.put (some d) v) w):wpY P ops cls K (i::rest) a w:=by
  refine yLd v ho hc hg hd ?_ h
  simp [execOp,hop,hx,Instr.loadAt,Instr.sureAddr,loadVar,run_isAgg hag,run_load,hcell]
theorem yAdd {t yt:TypeId} (u v:Int) (x y:Operand) {d:Tmp} (ho:ops[i]? = some o) (hc:cls i=.reg) (hg:o.guard=none) (hd:o.dst=some d) (hop:o.op=.binOp .add t x y yt) (hx:a.eval x=.int .i64 u) (hy:a.eval y=.int .i64 v)
    (hw:IntKind.i64.wrap (u+v)=u+v) (h:wpY P ops cls K rest (a.put (some d) (.int .i64 (u+v))) w):wpY P ops cls K (i::rest) a w:=by
  refine yReg _ ho hc hg hd (fun w=>?_) h
  obtain ⟨z,h1,-,h2⟩:=run_binV (op:=.add) (t:=t) (u:=.int .i64 u) (v:=.int .i64 v) (r:=.sc (.int .i64 (IntKind.i64.wrap (u+v)))) (by simp [binV]) P w
  cases h1
  rw [hw] at h2
  have h0:(eqGuard .add t x y (.int .i64 u) (.int .i64 v)).run P w=.ok () w:=run_eqGuard_sc rfl P w
  simp [execOp,hop,hx,hy,h0,h2]
theorem yExt (vs:Array Value) (ix:Nat) (v:Value) (x:Operand) {d:Tmp} (ho:ops[i]? = some o) (hc:cls i=.reg) (hg:o.guard=none) (hd:o.dst=some d) (hop:o.op=.extract x ix) (hx:a.eval x=.tuple vs) (hv:vs[ix]? = some v)
    (h:wpY P ops cls K rest (a.put (some d) v) w):wpY P ops cls K (i::rest) a w:=by
  refine yReg _ ho hc hg hd (fun w=>?_) h
  simp [execOp,hop,hx,Instr.extract,hv]
end
def _root_.Go.World.drewJ (w:World):World:={ w with drawn:=w.drawn+1 }
theorem drew_below {B:Nat} {a w:World} (h:Below B a w):Below B a w.drewJ:=⟨h.os,h.tape,h.output,h.size,h.block⟩
theorem setBlock_below {B b:Nat} {a w:World} {o:Obj} (h:Below B a w) (hB:B≤b):Below B a (setBlock w b o) :=
  ⟨h.os,h.tape,h.output,by simpa [setBlock] using h.size,fun k hk=>by
    have hne:b ≠ k:=fun e=>Nat.lt_irrefl _ (Nat.lt_of_lt_of_le (e ▸ hk) hB)
    show (w.heap.setIfInBounds b o)[k]? = _
    rw [Array.getElem?_setIfInBounds_ne hne]
    exact h.block k hk⟩
def kv (k:Int×Int):Value:=.agg #[.int .i64 k.1,.int .i64 k.2]
theorem kv_inj {a b:Int×Int} (h:kv a=kv b):a=b:=by
  simp only [kv,Value.agg.injEq,Array.mk.injEq,List.cons.injEq,Value.int.injEq,true_and,and_true] at h
  exact Prod.ext h.1 h.2
structure JMap (ks:List (Int×Int)) (es:Array MapEntry) (clock:Nat):Prop where
  born:∀ x ∈ es.toList,x.born < clock
  nd:(es.toList.map (·.born)).Nodup
  kd:es.toList.Pairwise (fun x y=>x.key ≠ y.key)
  val:∀ x ∈ es.toList,∃ k ∈ ks,x.key=kv k∧x.val=.int .i64 (ks.count k:Int)
  all:∀ k ∈ ks,∃ x ∈ es.toList,x.key=kv k
theorem jmap_nil:JMap [] #[] 0:=⟨by simp,by simp,by simp,by simp,by simp⟩
theorem modify_eq_setJ {α:Type} (f:α→α):∀ (l:List α) (j:Nat) (a:α),l[j]? = some a→l.modify j f=l.set j (f a)
  | [],_,_,h=>by simp at h
  | b::r,0,a,h=>by simp at h;subst h;rfl
  | b::r,j+1,a,h=>by simp at h;simp [modify_eq_setJ f r j a h]
section
variable {P:Program} {w:World} {t k e:TypeId} {b:Nat} {ks:List (Int×Int)} {es:Array MapEntry} {clock:Nat} {x:Int×Int}
theorem jfind (K:KeyLaw P k) (J:JMap ks es clock) (hkey:∀ y ∈ x::ks,∃ l,keyOf P k (kv y)=some l) (w:World) :
    ((Instr.findKey k (kv x) es.toList).run P w=.ok none w∧x ∉ ks∧∀ y ∈ es.toList,y.key ≠ kv x) ∨
    ∃ j e0,(Instr.findKey k (kv x) es.toList).run P w=.ok (some (j,.int .i64 (ks.count x:Int))) w∧es.toList[j]? = some e0∧e0.key=kv x∧e0.val=.int .i64 (ks.count x:Int)∧x ∈ ks:=by
  obtain ⟨l,hl⟩:=hkey x (by simp)
  rcases K.find w hl es.toList (fun y hy=>by
    obtain ⟨q,hq,h1,-⟩:=J.val y hy
    rw [h1]
    exact hkey q (by simp [hq])) with ⟨h1,h2⟩ | ⟨j,e0,h1,h2,h3⟩
  · refine .inl ⟨h1,fun hx=>?_,h2⟩
    obtain ⟨y,hy,hk⟩:=J.all x hx
    exact h2 y hy hk
  · obtain ⟨q,hq,h4,h5⟩:=J.val e0 (List.mem_of_getElem? h2)
    have hqx:q=x:=kv_inj (h4.symm.trans h3)
    subst hqx
    exact .inr ⟨j,e0,by rw [h1,h5],h2,h3,h5,hq⟩
theorem jlook (K:KeyLaw P k) (ht:P.underlying t=some (.map k e)) (hz:(zeroValue e).run P w=.ok (.int .i64 0) w) (hb:w.heap[b]? = some (.map es clock)) (J:JMap ks es clock)
    (hkey:∀ y ∈ x::ks,∃ l,keyOf P k (kv y)=some l):(Instr.lookup t (.map (some b)) (kv x) false).run P w=.ok (.int .i64 (ks.count x:Int)) w:=by
  obtain ⟨l,hl⟩:=hkey x (by simp)
  rcases jfind K J hkey w with ⟨h1,h2,-⟩ | ⟨j,e0,h1,h2,h3,h4,-⟩
  · rw [List.count_eq_zero.2 h2]
    simp [Instr.lookup,run_underlying ht,MapKept.run_getObj_map hb,K.check w _ hl,h1,hz,Result.andThen]
  · simp [Instr.lookup,run_underlying ht,MapKept.run_getObj_map hb,K.check w _ hl,h1,Result.andThen]
theorem jentry (K:KeyLaw P k) (ht:P.underlying t=some (.map k e)) (hz:∀ u:World,(zeroValue e).run P u=.ok (.int .i64 0) u) (hb:w.heap[b]? = some (.map es clock)) (J:JMap ks es clock)
    (hkey:∀ y ∈ x::ks,∃ l,keyOf P k (kv y)=some l) :
    ∃ (v0:Value) (st:Nat) (es1:Array MapEntry) (clock1:Nat),(Instr.mapEntry t (.map (some b)) (kv x)).run P w=.ok (.tuple #[v0,goInt st]) (setBlock w b (.map es1 clock1)) ∧
      (∀ w2:World,w2.heap[b]? = some (.map es1 clock1)→(Instr.lookup t (.map (some b)) (kv x) false).run P w2=.ok (.int .i64 (ks.count x:Int)) w2) ∧
      ∀ w2:World,w2.heap[b]? = some (.map es1 clock1)→∃ es' clock',(Instr.entryStore t (.map (some b)) (goInt st) (.int .i64 ((ks.count x:Int)+1))).run P w2=.ok () (setBlock w2 b (.map es' clock'))∧JMap (ks++[x]) es' clock':=by
  obtain ⟨l,hl⟩:=hkey x (by simp)
  have cnt_x:(ks++[x]).count x=ks.count x+1:=by simp
  have cnt_ne:∀ q,q ≠ x→(ks++[x]).count q=ks.count q:=fun q hq=>by
    rw [List.count_append]
    have:([x]:List (Int×Int)).count q=0:=List.count_eq_zero.2 (by simpa using hq)
    omega
  rcases jfind K J hkey w with ⟨h1,h2,h2'⟩ | ⟨j,e0,h1,h2,h3,h4,h4'⟩
  · have hc0:ks.count x=0:=List.count_eq_zero.2 h2
    refine ⟨.int .i64 0,clock,es.push ⟨kv x,.int .i64 0,clock⟩,clock+1,?_,fun w2 hw2=>?_,fun w2 hw2=>⟨es.push ⟨kv x,.int .i64 ((ks.count x:Int)+1),clock⟩,clock+1,?_,?_⟩⟩
    · simp [Instr.mapEntry,run_underlying ht,MapKept.run_getObj_map hb,K.check w false hl,h1,hz,MapKept.run_setObj_map _ hb,Result.andThen,setBlock]
    · rw [hc0]
      have hks:∀ y ∈ (es.push ⟨kv x,.int .i64 0,clock⟩).toList,∃ l,keyOf P k y.key=some l:=fun y hy=>by
        rw [Array.toList_push,List.mem_append] at hy
        rcases hy with hy | hy
        · obtain ⟨q,hq,h5,-⟩:=J.val y hy
          rw [h5];exact hkey q (by simp [hq])
        · simp only [List.mem_singleton] at hy
          subst hy
          exact ⟨l,hl⟩
      rcases K.find w2 hl _ hks with ⟨f1,f2⟩ | ⟨j,e0,f1,f2,f3⟩
      · exact absurd rfl (f2 ⟨kv x,.int .i64 0,clock⟩ (by simp))
      · have hv:e0.val=.int .i64 0:=by
          have hm:=List.mem_of_getElem? f2
          rw [Array.toList_push,List.mem_append] at hm
          rcases hm with hm | hm
          · exact absurd f3 (h2' e0 hm)
          · simp only [List.mem_singleton] at hm
            subst hm;rfl
        rw [hv] at f1
        rw [Array.toList_push] at f1
        simp [Instr.lookup,run_underlying ht,MapKept.run_getObj_map hw2,K.check w2 _ hl,f1,Result.andThen]
    · have hidx:(es.push ⟨kv x,.int .i64 0,clock⟩).findIdx? (fun e=>((e.born:Nat):Int) == ((clock:Nat):Int))=some es.size:=by
        rw [findIdx_arr]
        have:=findIdx_born (l:=(es.push ⟨kv x,.int .i64 0,clock⟩).toList) (j:=es.size) (e0:=⟨kv x,.int .i64 0,clock⟩) (by
          simp only [Array.toList_push,List.map_append,List.map_cons,List.map_nil]
          refine List.nodup_append.2 ⟨J.nd,by simp,fun a ha c hc e1=>?_⟩
          simp only [List.mem_singleton] at hc
          obtain ⟨y,hy,rfl⟩:=List.mem_map.1 ha
          have:=J.born y hy
          omega) (by simp)
        exact this
      have hmod:(es.push ⟨kv x,.int .i64 0,clock⟩).modify es.size (fun e=>{ e with val:=.int .i64 ((ks.count x:Int)+1) })=es.push ⟨kv x,.int .i64 ((ks.count x:Int)+1),clock⟩:=by
        apply Array.ext'
        rw [Array.toList_modify,Array.toList_push,Array.toList_push,← Array.length_toList,modify_last]
      simp [Instr.entryStore,MapKept.run_getObj_map hw2,asInt,asIntOf,goInt,hidx,hmod,MapKept.run_setObj_map _ hw2,Result.andThen,setBlock]
    · refine ⟨fun y hy=>?_,?_,?_,fun y hy=>?_,fun q hq=>?_⟩
      · rw [Array.toList_push,List.mem_append] at hy
        rcases hy with hy | hy
        · have:=J.born y hy;omega
        · simp only [List.mem_singleton] at hy
          subst hy;exact Nat.lt_succ_self _
      · rw [Array.toList_push,List.map_append,List.map_cons,List.map_nil]
        refine List.nodup_append.2 ⟨J.nd,by simp,fun a ha c hc e1=>?_⟩
        simp only [List.mem_singleton] at hc
        obtain ⟨y,hy,rfl⟩:=List.mem_map.1 ha
        have:=J.born y hy
        omega
      · rw [Array.toList_push,List.pairwise_append]
        exact ⟨J.kd,by simp,fun y hy z hz=>by
          simp only [List.mem_singleton] at hz
          subst hz
          exact h2' y hy⟩
      · rw [Array.toList_push,List.mem_append] at hy
        rcases hy with hy | hy
        · obtain ⟨q,hq,h5,h6⟩:=J.val y hy
          refine ⟨q,by simp [hq],h5,?_⟩
          rw [cnt_ne q (fun h=>h2 (h ▸ hq))];exact h6
        · simp only [List.mem_singleton] at hy
          subst hy
          exact ⟨x,by simp,rfl,by rw [cnt_x];rfl⟩
      · rw [List.mem_append] at hq
        rcases hq with hq | hq
        · obtain ⟨y,hy,h5⟩:=J.all q hq
          exact ⟨y,by simp [Array.mem_toList_iff.1 hy],h5⟩
        · simp only [List.mem_singleton] at hq
          subst hq
          exact ⟨⟨kv q,.int .i64 ((ks.count q:Int)+1),clock⟩,by rw [Array.toList_push];simp,rfl⟩
  · have hj:es[j]? = some e0:=by simpa using h2
    have hsame:es.modify j (fun e=>{ e with key:=kv x })=es:=by
      apply Array.ext'
      rw [Array.toList_modify,modify_eq_setJ _ _ _ _ h2]
      have:({ e0 with key:=kv x }:MapEntry)=e0:=by rw [← h3]
      rw [this]
      exact set_self _ _ _ h2
    refine ⟨.int .i64 (ks.count x:Int),e0.born,es,clock,?_,fun w2 hw2=>?_,fun w2 hw2=>⟨es.modify j (fun e'=>{ e' with val:=.int .i64 ((ks.count x:Int)+1) }),clock,?_,?_⟩⟩
    · simp [Instr.mapEntry,run_underlying ht,MapKept.run_getObj_map hb,K.check w false hl,h1,hj,h3,K.stays w hl,hsame,MapKept.run_setObj_map _ hb,Result.andThen,setBlock]
    · exact jlook K ht (hz w2) hw2 J hkey
    · have hidx:es.findIdx? (fun e=>((e.born:Nat):Int) == ((e0.born:Nat):Int))=some j:=by
        rw [findIdx_arr]
        exact findIdx_born J.nd h2
      simp [Instr.entryStore,MapKept.run_getObj_map hw2,asInt,asIntOf,goInt,hidx,MapKept.run_setObj_map _ hw2,Result.andThen,setBlock]
    · have hlist:(es.modify j (fun e'=>{ e' with val:=.int .i64 ((ks.count x:Int)+1) })).toList=es.toList.set j { e0 with val:=.int .i64 ((ks.count x:Int)+1) }:=by rw [Array.toList_modify,modify_eq_setJ _ _ _ _ h2]
      have hjl:j < es.toList.length:=(List.getElem?_eq_some_iff.1 h2).1
      have he0:es.toList[j]=e0:=(List.getElem?_eq_some_iff.1 h2).2
      have who:∀ y ∈ es.toList.set j { e0 with val:=.int .i64 ((ks.count x:Int)+1) },y={ e0 with val:=.int .i64 ((ks.count x:Int)+1) } ∨ (y ∈ es.toList∧y.key ≠ kv x):=fun y hy=>by
        obtain ⟨i,hi⟩:=List.mem_iff_getElem?.1 hy
        by_cases hij:j=i
        · subst hij
          rw [List.getElem?_set_self hjl] at hi
          exact .inl (Option.some.inj hi).symm
        · rw [List.getElem?_set_ne hij] at hi
          refine .inr ⟨List.mem_of_getElem? hi,fun hk=>?_⟩
          have hil:i < es.toList.length:=(List.getElem?_eq_some_iff.1 hi).1
          have hei:es.toList[i]=y:=(List.getElem?_eq_some_iff.1 hi).2
          have hp:=List.pairwise_iff_getElem.1 J.kd
          rcases Nat.lt_or_gt_of_ne hij with h | h
          · exact hp j i hjl hil h (by rw [he0,hei,h3,hk])
          · exact hp i j hil hjl h (by rw [he0,hei,h3,hk])
      have hmap:∀ {β:Type} (f:MapEntry→β),(∀ e:MapEntry,∀ v,f { e with val:=v }=f e)→(es.toList.set j { e0 with val:=.int .i64 ((ks.count x:Int)+1) }).map f=es.toList.map f:=fun f hf=>by
        rw [List.map_set,hf]
        exact set_self _ _ _ (by rw [List.getElem?_map,h2];rfl)
      refine ⟨fun y hy=>?_,?_,?_,fun y hy=>?_,fun q hq=>?_⟩
      · rw [hlist] at hy
        rcases who y hy with rfl | ⟨h,-⟩
        · exact J.born e0 (List.mem_of_getElem? h2)
        · exact J.born y h
      · rw [hlist,hmap _ (fun _ _=>rfl)];exact J.nd
      · have h9:(es.toList.map (·.key)).Pairwise (· ≠ ·):=List.pairwise_map.2 J.kd
        rw [hlist]
        rw [← hmap (·.key) (fun _ _=>rfl)] at h9
        exact List.pairwise_map.1 h9
      · rw [hlist] at hy
        rcases who y hy with rfl | ⟨h,hne⟩
        · exact ⟨x,by simp,h3,by rw [cnt_x];rfl⟩
        · obtain ⟨q,hq,h5,h6⟩:=J.val y h
          refine ⟨q,by simp [hq],h5,?_⟩
          rw [cnt_ne q (fun h7=>hne (by rw [h5,h7]))];exact h6
      · have hkeys:∀ z,z ∈ es.toList.map (·.key)→∃ y ∈ (es.modify j (fun e'=>{ e' with val:=.int .i64 ((ks.count x:Int)+1) })).toList,y.key=z:=fun z hz=>by
          rw [← hmap (·.key) (fun _ _=>rfl),← hlist] at hz
          obtain ⟨y,hy,h⟩:=List.mem_map.1 hz
          exact ⟨y,hy,h⟩
        rw [List.mem_append] at hq
        rcases hq with hq | hq
        · obtain ⟨y,hy,h5⟩:=J.all q hq
          exact hkeys _ (List.mem_map.2 ⟨y,hy,h5⟩)
        · simp only [List.mem_singleton] at hq
          subst hq
          exact hkeys _ (List.mem_map.2 ⟨e0,List.mem_of_getElem? h2,h3⟩)
end
def decJ (x:MapEntry):Int×Int×Int:=match x.key,x.val with
  | .agg ⟨[.int _ a,.int _ b]⟩,.int _ c=>(a,b,c)
  | _,_=>(0,0,0)
theorem decJ_eq {ks:List (Int×Int)} {x:MapEntry} {k:Int×Int} (h1:x.key=kv k) (h2:x.val=.int .i64 (ks.count k:Int)):decJ x=(k.1,k.2,(ks.count k:Int)):=by
  rw [decJ,h1,h2];rfl
theorem nodup_eraseDupsJ:∀ (n:Nat) (l:List (Int×Int)),l.length≤n→l.eraseDups.Nodup
  | 0,l,h=>by
    have:l=[]:=List.length_eq_zero_iff.1 (by omega)
    subst this;simp
  | n+1,[],_=>by simp
  | n+1,a::l,h=>by
    rw [List.eraseDups_cons,List.nodup_cons]
    refine ⟨fun hm=>?_,nodup_eraseDupsJ n _ (Nat.le_trans (List.length_filter_le _ _) (by simp at h;omega))⟩
    rw [List.mem_eraseDups,List.mem_filter] at hm
    simp at hm
theorem jmap_perm {ks:List (Int×Int)} {es:Array MapEntry} {clock:Nat} (J:JMap ks es clock):(es.toList.map decJ).Perm (cntK ks):=by
  have h1:(es.toList.map decJ).Nodup:=by
    rw [List.Nodup,List.pairwise_map]
    have:es.toList.Pairwise (fun x y=>x ∈ es.toList∧y ∈ es.toList∧x.key ≠ y.key):=List.Pairwise.imp_of_mem (fun ha hb h=>⟨ha,hb,h⟩) J.kd
    refine this.imp ?_
    rintro x y ⟨hx,hy,hne⟩ he
    obtain ⟨q,-,h5,h6⟩:=J.val x hx
    obtain ⟨q',-,h5',h6'⟩:=J.val y hy
    rw [decJ_eq h5 h6,decJ_eq h5' h6'] at he
    simp only [Prod.mk.injEq] at he
    exact hne (by rw [h5,h5',Prod.ext he.1 he.2.1])
  have h2:(cntK ks).Nodup:=by
    rw [cntK,List.Nodup,List.pairwise_map]
    refine (nodup_eraseDupsJ _ ks (Nat.le_refl _)).imp fun {a b} hne he=>hne ?_
    simp only [Prod.mk.injEq] at he
    exact Prod.ext he.1 he.2.1
  rw [List.perm_ext_iff_of_nodup h1 h2]
  intro z
  rw [cntK,List.mem_map,List.mem_map]
  constructor
  · rintro ⟨x,hx,rfl⟩
    obtain ⟨q,hq,h5,h6⟩:=J.val x hx
    exact ⟨q,List.mem_eraseDups.2 hq,(decJ_eq h5 h6).symm⟩
  · rintro ⟨q,hq,rfl⟩
    obtain ⟨x,hx,h5⟩:=J.all q (List.mem_eraseDups.1 hq)
    obtain ⟨q',-,h7,h8⟩:=J.val x hx
    have:q'=q:=kv_inj (h7.symm.trans h5)
    subst this
    exact ⟨x,hx,decJ_eq h7 h8⟩
structure JSeen (es:Array MapEntry) (seen:Array Nat) (L:List MapEntry):Prop where
  eq:seen.toList=L.map (·.born)
  mem:∀ x ∈ L,x ∈ es.toList
  nd:(L.map (·.born)).Nodup
theorem jseen_nil (es:Array MapEntry):JSeen es #[] []:=⟨rfl,by simp,by simp⟩
theorem jseen_push {es:Array MapEntry} {seen:Array Nat} {L:List MapEntry} (h:JSeen es seen L) {e:MapEntry} (he:e ∈ (leftOf es seen).toList):JSeen es (seen.push e.born) (L++[e]):=by
  obtain ⟨h1,h2⟩:=mem_left he
  refine ⟨by rw [Array.toList_push,h.eq];simp,fun x hx=>?_,?_⟩
  · rw [List.mem_append] at hx
    rcases hx with hx | hx
    · exact h.mem x hx
    · simp only [List.mem_singleton] at hx;subst hx;exact h1
  · rw [List.map_append,List.map_cons,List.map_nil]
    refine List.nodup_append.2 ⟨h.nd,by simp,fun a ha c hc e1=>?_⟩
    simp only [List.mem_singleton] at hc
    subst hc;subst e1
    rw [← h.eq] at ha
    have:seen.contains e.born=true:=by simpa using ha
    rw [this] at h2
    cases h2
theorem jseen_all {ks:List (Int×Int)} {es:Array MapEntry} {clock:Nat} {seen:Array Nat} {L:List MapEntry} (J:JMap ks es clock) (h:JSeen es seen L) (h0:(leftOf es seen).size=0):(L.map decJ).Perm (cntK ks):=by
  have hall:=all_seen es seen h0
  have hes:es.toList.Nodup:=by
    have:=J.nd
    rw [List.Nodup,List.pairwise_map] at this
    exact this.imp fun hne he=>hne (by rw [he])
  have hL:L.Nodup:=by
    have:=h.nd
    rw [List.Nodup,List.pairwise_map] at this
    exact this.imp fun hne he=>hne (by rw [he])
  have hp:L.Perm es.toList:=by
    rw [List.perm_ext_iff_of_nodup hL hes]
    intro x
    refine ⟨h.mem x,fun hx=>?_⟩
    have h1:=hall x hx
    have h2:x.born ∈ seen.toList:=by simpa using h1
    rw [h.eq] at h2
    obtain ⟨y,hy,hyb⟩:=List.mem_map.1 h2
    have hyx:y=x:=Go.born_inj J.nd (h.mem y hy) hx hyb
    exact hyx ▸ hy
  exact (hp.map decJ).trans (jmap_perm J)
theorem subLenJ {α:Type} [DecidableEq α]:∀ (A l:List α),A.Nodup→(∀ x ∈ A,x ∈ l)→A.length≤l.length
  | [],_,_,_=>Nat.zero_le _
  | x::A,l,hn,h=>by
    obtain ⟨h1,h2⟩:=List.nodup_cons.1 hn
    have hx:=h x (by simp)
    have:=subLenJ A (l.erase x) h2 (fun y hy=>(List.mem_erase_of_ne (fun e=>h1 (by rw [← e];exact hy))).2 (h y (by simp [hy])))
    rw [List.length_erase_of_mem hx] at this
    have:=List.length_pos_of_mem hx
    simp only [List.length_cons]
    omega
theorem jseen_len {ks:List (Int×Int)} {es:Array MapEntry} {clock:Nat} {seen:Array Nat} {L:List MapEntry} (J:JMap ks es clock) (h:JSeen es seen L):L.length≤ks.length:=by
  have h1:(L.map fun e=>((decJ e).1,(decJ e).2.1)).Nodup:=by
    rw [List.Nodup,List.pairwise_map]
    have h0:=h.nd
    rw [List.Nodup,List.pairwise_map] at h0
    have:L.Pairwise (fun x y=>x ∈ L∧y ∈ L∧x.born ≠ y.born):=List.Pairwise.imp_of_mem (fun ha hb h=>⟨ha,hb,h⟩) h0
    refine this.imp ?_
    rintro x y ⟨hx,hy,hne⟩ he
    obtain ⟨q,-,h5,h6⟩:=J.val x (h.mem x hx)
    obtain ⟨q',-,h5',h6'⟩:=J.val y (h.mem y hy)
    rw [decJ_eq h5 h6,decJ_eq h5' h6'] at he
    have hqq:q=q':=by
      simp only [Prod.mk.injEq] at he
      exact Prod.ext he.1 he.2
    have hk:x.key=y.key:=by rw [h5,h5',hqq]
    have hxy:x=y:=by
      rcases List.mem_iff_getElem.1 (h.mem x hx) with ⟨i,hi,rfl⟩
      rcases List.mem_iff_getElem.1 (h.mem y hy) with ⟨j,hj,rfl⟩
      have hp:=List.pairwise_iff_getElem.1 J.kd
      rcases Nat.lt_trichotomy i j with g | g | g
      · exact absurd hk (hp i j hi hj g)
      · subst g;rfl
      · exact absurd hk.symm (hp j i hj hi g)
    exact hne (by rw [hxy])
  have:=subLenJ _ ks h1 (fun z hz=>by
    obtain ⟨e,he,rfl⟩:=List.mem_map.1 hz
    obtain ⟨q,hq,h5,h6⟩:=J.val e (h.mem e he)
    rw [decJ_eq h5 h6]
    exact hq)
  simpa using this
theorem hidJ {p:Prop} (h:p):Hid p:=h
theorem jalloc_lt (w:World) (o:Obj):w.heap.size < (w.alloc o).heap.size:=by show w.heap.size < (w.heap.push _).size;rw [Array.size_push];exact Nat.lt_succ_self _
theorem jalloc_le (w:World) (o:Obj):w.heap.size≤(w.alloc o).heap.size:=Nat.le_of_lt (jalloc_lt w o)
theorem jcell {w w':World} {cs:Array Value} {t:TypeId} {f:Nat×Nat} (h:Below (w.alloc (.cells cs t f)).heap.size (w.alloc (.cells cs t f)) w') {j:Nat} {v:Value} (hj:cs[j]? = some v):w'.cell? ⟨w.heap.size,j,none⟩=some v:=by
  rw [h.cell (p:=⟨w.heap.size,j,none⟩) (by show w.heap.size < (w.heap.push _).size;rw [Array.size_push];exact Nat.lt_succ_self _),cell_of (heap_alloc_new w _)]
  exact hj
def jcls (i:Nat):Cls:=if i ∈ [11,12,14,16] then .oth else if i ∈ [3,5,8,10] then .ld else .reg
def jleft (w:World) (b r:Nat):Nat :=
  match w.heap[b]?,w.heap[r]? with
  | some (.map es _),some (.mapIter _ _ seen _)=>(leftOf es seen).size
  | _,_=>0
theorem jleft_eq {w:World} {b r s c c0:Nat} {es:Array MapEntry} {m:Option Nat} {seen:Array Nat} (h:w.heap[b]? = some (.map es c)) (h':w.heap[r]? = some (.mapIter m s seen c0)):jleft w b r=(leftOf es seen).size:=by
  simp only [jleft,h,h']
def rowV (l:List (Int×Int×Int)):List Value:=l.flatMap fun x=>[.int .i64 x.1,.int .i64 x.2.1,.int .i64 x.2.2]
theorem rowV_app (l l':List (Int×Int×Int)):rowV (l++l')=rowV l++rowV l':=by simp [rowV]
def keysJ (D:List Int) (es:List (Int×Int)):List (Int×Int):=es.map fun e=>(min (D.getD e.1.toNat 0) (D.getD e.2.toNat 0),max (D.getD e.1.toNat 0) (D.getD e.2.toNat 0))
theorem wfJ {x:Int} (h:0≤x∧x≤1000):(Lit.int .i64 x).wf=true:=by
  have h1:IntKind.i64.min=-9223372036854775808:=rfl
  have h2:IntKind.i64.max=9223372036854775807:=rfl
  simp only [Lit.wf,h1,h2,Bool.and_eq_true,decide_eq_true_eq]
  omega
theorem wrapJ {x:Int} (h:0≤x∧x≤100000):IntKind.i64.wrap x=x:=IntWalk.i64_in _ (by omega)
theorem keysJ_get {D:List Int} {es:List (Int×Int)} {k:Nat} {x:Int×Int} (hx:es[k]? = some x):(keysJ D es).take (k+1)=(keysJ D es).take k++[(min (D.getD x.1.toNat 0) (D.getD x.2.toNat 0),max (D.getD x.1.toNat 0) (D.getD x.2.toNat 0))]:=by
  have hk:k < (keysJ D es).length:=by
    simp only [keysJ,List.length_map];exact (List.getElem?_eq_some_iff.1 hx).1
  rw [List.take_succ_eq_append_getElem hk]
  congr 1
  have:(keysJ D es)[k]? = some (min (D.getD x.1.toNat 0) (D.getD x.2.toNat 0),max (D.getD x.1.toNat 0) (D.getD x.2.toNat 0)):=by
    simp [keysJ,hx]
  rw [List.getElem?_eq_getElem hk] at this
  rw [Option.some.inj this]
theorem keysJ_mem {D:List Int} {es:List (Int×Int)} (hR:∀ x ∈ es,0≤x.1∧x.1.toNat < D.length∧0≤x.2∧x.2.toNat < D.length) (hD:∀ d ∈ D,0≤d∧d≤1000) {y:Int×Int} (hy:y ∈ keysJ D es):(0≤y.1∧y.1≤1000)∧0≤y.2∧y.2≤1000:=by
  obtain ⟨x,hx,rfl⟩:=List.mem_map.1 hy
  obtain ⟨h1,h2,h3,h4⟩:=hR x hx
  have g1:D.getD x.1.toNat 0=D[x.1.toNat]:=by simp [List.getD_eq_getElem?_getD,h2]
  have g2:D.getD x.2.toNat 0=D[x.2.toNat]:=by simp [List.getD_eq_getElem?_getD,h4]
  have k1:=hD _ (List.getElem_mem h2)
  have k2:=hD _ (List.getElem_mem h4)
  simp only [g1,g2]
  omega
def JRow (P:Program) (fv fd fs ff f:FuncId):Prop:=∀ (n:Int) (ea:Option Addr) (c:Nat) (es:List (Int×Int)) (D:List Int) (R:List (Int×Int×Int)) (w:World),
  (∀ x ∈ es,0≤x.1∧x.1.toNat < D.length∧0≤x.2∧x.2.toNat < D.length)→(∀ d ∈ D,0≤d∧d≤1000)→es.length≤1000 →
  (∀ (j:Nat) x,es[j]? = some x→∃ be oe,ea=some ⟨be,oe,none⟩∧be < w.heap.size∧w.cell? ⟨be,oe+j * 2,none⟩=some (.int .i64 x.1)∧w.cell? ⟨be,oe+j * 2+1,none⟩=some (.int .i64 x.2)) →
  (∀ w',Below w.heap.size w w'→Calls P fv #[.agg #[.int .i64 n,.slice ea es.length c]] w' fun e w''=>e=.returned (.bool true)∧Below w'.heap.size w' w'') →
  (∀ w',Below w.heap.size w w'→Calls P fd #[.agg #[.int .i64 n,.slice ea es.length c]] w' fun e w''=>∃ ad cap,e=.returned (.slice ad D.length cap)∧Below w'.heap.size w' w'' ∧
      ∀ (j:Nat) x,D[j]? = some x→∃ bd od,ad=some ⟨bd,od,none⟩∧w'.heap.size≤bd∧bd < w''.heap.size∧w''.cell? ⟨bd,od+j,none⟩=some (.int .i64 x)) →
  (∀ (π:List (Int×Int×Int)) (v:Value) (B:Nat) (w':World),Below w.heap.size w w'→w.heap.size≤B→B≤w'.heap.size→π.Perm (cntK (keysJ D es))→w'.ownsRow B 81 3 v π.length (rowV π) →
      Calls P fs #[v,.func (.func ff) #[] #[]] w' fun e w''=>(∃ u,e=.returned u)∧Below B w' w'' ∧
        (R=[]∧(∃ a cap,v=.slice a 0 cap) ∨ ∃ g cap cur ty,v=.slice (some ⟨g,0,none⟩) R.length cap∧B≤g∧R.length≤cap∧w''.heap[g]? = some (.cells cur ty (0,0))∧R.length * 3≤cur.size∧cur.toList.take (R.length * 3)=rowV R)) →
  Calls P f #[.agg #[.int .i64 n,.slice ea es.length c]] w fun e w'=>∃ v,e=.returned v∧Below w.heap.size w w' ∧
      (R=[]∧(∃ a,v=.slice a 0 0) ∨ ∃ g cur ty,R ≠ []∧v=.slice (some ⟨g,0,none⟩) R.length R.length∧w.heap.size≤g∧w'.heap[g]? = some (.cells cur ty (0,0))∧R.length * 3≤cur.size∧cur.toList.take (R.length * 3)=rowV R)
def JNone (P:Program) (fv f:FuncId):Prop:=∀ (n:Int) (ea:Option Addr) (m c:Nat) (w:World),
  (∀ w',Below w.heap.size w w'→Calls P fv #[.agg #[.int .i64 n,.slice ea m c]] w' fun e w''=>e=.returned (.bool false)∧Below w'.heap.size w' w'') →
  Calls P f #[.agg #[.int .i64 n,.slice ea m c]] w fun e w'=>e=.returned (.slice none 0 0)∧Below w.heap.size w w'
def RRow (P:Program) (f:FuncId):Prop:=∀ (b o c:Nat) (x:Int) (k:Nat),k≤1000→∀ w:World,b < w.heap.size→w.cell? ⟨b,o,none⟩=some (.int .i64 x) →
  Calls P f #[.slice (some ⟨b,o,none⟩) 1 c,.int .i64 k] w fun e w'=>Below w.heap.size w w'∧∃ cur:List Value,e=.returned (.slice (some ⟨w.heap.size,0,none⟩) k k)∧w'.heap[w.heap.size]? = some (.cells cur.toArray 3 (0,0))∧cur.length=k∧cur.take k=List.replicate k (.int .i64 x)
end Go.Idl
namespace Go.Idl
open Go
section
variable {cx:Cx} {w w':World} {F:Nat→Prop} {ρ:Rho} {fp:Fp} {args:List IV} {M:List Boxes} {vs:List Value}
theorem argSt_get (s:Nat):tget (argSt args M).T s=args.getD s .un:=by
  have:=tget_argsT (xs:=args) s 0
  simpa [argSt] using this
theorem arg_sc (hR:Rel cx w F ρ fp [] (argSt args M) (argTm vs)) (hl:vs.length=args.length) {i:Nat} {u:Value} (h:args[i]? = some (.sc u)):vs[i]? = some u:=by
  have hs:=hR.slots i
  have hg:tget (argSt args M).T i=.sc u:=by rw [argSt_get,List.getD_eq_getElem?_getD,h];rfl
  rw [hg] at hs
  have h1:=(rslot_sc hs).1
  have hi:i < vs.length:=by rw [hl];exact (List.getElem?_eq_some_iff.1 h).1
  rw [List.getElem?_eq_getElem hi]
  simp only [argTm,List.getD_eq_getElem?_getD,List.getElem?_eq_getElem hi,Option.getD_some] at h1
  rw [h1]
theorem arg_lst (hR:Rel cx w F ρ fp [] (argSt args M) (argTm vs)) (hl:vs.length=args.length) {i e:Nat} {es:List (List IV)} {c:Bool} (h:args[i]? = some (.lst e es c)) :
    (es=[]∧∃ a cap,vs[i]? = some (.slice a 0 cap)) ∨ ∃ b o cap C ty fr,vs[i]? = some (.slice (some ⟨b,o,none⟩) es.length cap)∧es.length≤cap∧w.heap[b]? = some (.cells C ty fr) ∧
      RDs w F es.flatten ((C.toList.drop o).take (es.length * e)) []:=by
  have hs:=hR.slots i
  have hg:tget (argSt args M).T i=.lst e es c:=by rw [argSt_get,List.getD_eq_getElem?_getD,h];rfl
  rw [hg] at hs
  have hi:i < vs.length:=by rw [hl];exact (List.getElem?_eq_some_iff.1 h).1
  have hv:vs[i]? = some (argTm vs i):=by
    rw [List.getElem?_eq_getElem hi]
    simp only [argTm,List.getD_eq_getElem?_getD,List.getElem?_eq_getElem hi,Option.getD_some]
  rw [hv]
  generalize argTm vs i=u at hs
  rcases hs with ⟨h1,_⟩ | h1
  · exact h1.elim
  · cases h1 with
    | lst0=>exact .inl ⟨rfl,_,_,rfl⟩
    | lst hF hb hd he hc hn t=>exact .inr ⟨_,_,_,_,_,_,rfl,hn,hb,hd⟩
end
end Go.Idl
namespace Go.Idl
open Go
section
variable {cx:Cx}
theorem calls_sc {cf:CF} (hcf:CallOK cx cf) {l:Lab} {xs:List IV} {vs:List Value} {u:Value} {w:World} (h:ArgsR w xs vs) (hc:cf l [] xs []=some ⟨.sc u,[],[],[]⟩) :
    Calls cx.P (cx.fid l) vs.toArray w (fun e w'=>e=.returned u∧RowKit.Below w.heap.size w w'):=by
  refine ((hcf l [] xs [] _ hc).2 w (oldF w) (fun _ _=>0) (fun _=>[]) vs h.len.symm (argRel h _)).mono ?_
  rintro e w' ⟨v',F',ρ',fp',Xb,rfl,hR,hE,-⟩
  have hs:=hR.slots 0
  have hv:v'=u:=(rslot_sc hs).1
  subst hv
  exact ⟨rfl,⟨hE.env.1,hE.env.2.1,hE.env.2.2,hE.size,fun k hk=>hE.keep k hk (by simp) (by simp)⟩⟩
end
end Go.Idl
namespace Go.Idl
open Go Go.RowKit
section
variable {cx:Cx} {w w':World} {F:Nat→Prop} {ρ:Rho} {fp:Fp} {args:List IV} {M:List Boxes} {vs:List Value}
theorem retPost_own {e:Nat} {es:List (List IV)} {v':Value} {f:List Nat} (hR:Rel cx w F ρ fp [] (argSt args M) (argTm vs)) (hB:Below w.heap.size w w') (hd:RDs w' F [.own e es] [v'] f)
    (hn:f.Nodup) (hf:∀ b ∈ f,w.heap.size≤b∧b < w'.heap.size) (hret:(IV.own e es).isRet=true):RetPost cx w F ρ fp M [] vs ⟨.own e es,[],M,[]⟩ (.returned v') w':=by
  have hk:∀ b,b < w.heap.size→w'.heap[b]? = w.heap[b]?:=hB.block
  obtain ⟨hR',-⟩:=hR.grow (w':=w') (fun b hb _=>hk b hb) hB.size (Y:=[]) .nil (by simp)
  have hR':Rel cx w' F ρ fp [] (argSt args M) (argTm vs):=by simpa using hR'
  have hbox:∀ l k,(retSt ⟨.own e es,[],M,[]⟩).box l k=(argSt args M).box l k:=fun l k=>rfl
  let fp':Fp:=fun r=>match r with
    | .S s=>if s=0 then f else []
    | .B l k=>fp (.B l k)
  have hS:∀ s b,b ∈ fp' (.S s)→s=0∧b ∈ f:=fun s b hb=>by
    simp only [fp'] at hb
    by_cases h0:s=0
    · rw [if_pos h0] at hb;exact ⟨h0,hb⟩
    · rw [if_neg h0] at hb;cases hb
  have hF:∀ b,F b→b < w.heap.size:=hR.Flt
  have tr:Tr w' F ρ (argSt args M) (fun _ _=>none) w' F ρ (retSt ⟨.own e es,[],M,[]⟩) (fun _ _=>none) (fun _ _ _=>False):=⟨fun _ _ _ h=>h.elim,fun _ _=>rfl,fun _ h=>h,fun l k h=>⟨rfl,h⟩⟩
  refine ⟨v',F,ρ,fp',[],rfl,⟨fun s=>?_,fun l k cs hb=>?_,fun l k hb=>?_,fun r=>?_,fun r r' hne b hb hb'=>?_,fun r b hb=>?_,
    fun r b hb=>?_,hR'.Flt,List.nodup_nil,fun _ _ _=>by simp,fun _ hb=>(by cases hb),fun _ hb=>(by cases hb)⟩,⟨hB.size,fun b hb _ _=>hk b hb,fun r b hb=>?_,fun b hb=>(by cases hb),fun _ h=>h,fun _ h=>.inl h,fun _ _ _=>rfl,⟨hB.os,hB.tape,hB.output⟩⟩,rfl,rfl,hret,rfl⟩
  · show RSlot cx w' F ρ _ _ (tget [(0,.own e es)] s) (retTm v' s) (fp' (.S s))
    simp only [tget,retTm,fp']
    by_cases h0:s=0
    · subst h0
      simp only [if_true]
      exact .inr hd
    · rw [if_neg (fun h=>h0 h.symm),if_neg h0,if_neg h0]
      exact rcomp_un
  · rw [hbox] at hb
    obtain ⟨C,ty,f0,k1,k2,k3⟩:=hR'.boxes l k cs hb
    exact ⟨C,ty,f0,k1,k2,k3.mono fun x v f _ hx _=>hx.tr tr (fun _ _=>rfl)⟩
  · rw [hbox] at hb
    exact hR'.nobox l k hb
  · cases r with
    | S s =>
      simp only [fp']
      by_cases h0:s=0
      · rw [if_pos h0];exact hn
      · rw [if_neg h0];exact List.nodup_nil
    | B l k=>exact hR'.nodup (.B l k)
  · cases r with
    | S s =>
      obtain ⟨h0,hb⟩:=hS s b hb
      cases r' with
      | S s' =>
        obtain ⟨h0',-⟩:=hS s' b hb'
        exact hne (by rw [h0,h0'])
      | B l k =>
        have:=hR.lt (.B l k) b hb'
        have:=(hf b hb).1
        omega
    | B l k =>
      cases r' with
      | S s' =>
        obtain ⟨-,hb'⟩:=hS s' b hb'
        have:=hR.lt (.B l k) b hb
        have:=(hf b hb').1
        omega
      | B l' k'=>exact hR'.disj (.B l k) (.B l' k') (fun h=>hne h) b hb hb'
  · cases r with
    | S s =>
      obtain ⟨-,hb⟩:=hS s b hb
      intro hFb
      have:=hF b hFb
      have:=(hf b hb).1
      omega
    | B l k=>exact hR'.notF (.B l k) b hb
  · cases r with
    | S s=>exact (hf b (hS s b hb).2).2
    | B l k=>exact hR'.lt (.B l k) b hb
  · cases r with
    | S s=>exact .inr (.inr (hf b (hS s b hb).2).1)
    | B l k=>exact .inl ⟨.B l k,hb⟩
theorem scD {us:List Value} (h:∀ u ∈ us,Idl.isSc u=true):RDs w F (us.map .sc) us []:=by
  induction us with
  | nil=>exact .nil
  | cons u us ih=>exact .sc (h u (by simp)) (ih fun x hx=>h x (by simp [hx]))
theorem scD_inv:∀ {us vs:List Value} {f:List Nat},RDs w F (us.map .sc) vs f→vs=us∧f=[]
  | [],_,_,h=>by cases h;exact ⟨rfl,rfl⟩
  | u::us,_,_,h=>by
    have h:RDs w F (.sc u::us.map .sc) _ _:=h
    cases h with
    | sc _ t =>
      obtain ⟨rfl,rfl⟩:=scD_inv t
      exact ⟨rfl,rfl⟩
theorem extEnd_own {e:Nat} {es:List (List IV)} (M:List Boxes):extEnd (.own e es) M=some ⟨.own e es,[],M,[]⟩:=by
  simp [extEnd,St.retvs,St.retv,tget,kl,kl1,klc,IV.rooted,St.absorb,St.backs,packRes,St.leave,IV.lvl,dropSlot,killRt,killBy]
theorem isRet_own {e:Nat} {es:List (List IV)}:(IV.own e es).isRet=true:=rfl
theorem extOK_repeat {f:Lab} (hent:EnterOK cx.P (cx.fid f)) (hrow:RRow cx.P (cx.fid f)):ExtOK cx f ⟨[.t 0],[],.ext ext_slices_Repeat_Sint_int_⟩:=by
  refine ⟨_,rfl,hent,fun cf hcf args v h=>?_⟩
  unfold ext_slices_Repeat_Sint_int_ at h
  split at h
  rotate_left
  · cases h
  rename_i x c k
  split at h
  rotate_left
  · cases h
  rename_i hk
  simp only [Option.some.injEq] at h
  subst h
  refine ⟨extEnd_own,fun M w F ρ fp vs hl hR=>?_⟩
  have h1:=arg_sc hR hl (i:=1) (u:=.int .i64 k) rfl
  rcases arg_lst hR hl (i:=0) rfl with ⟨h0',-⟩ | ⟨b,o,cap,C,ty,fr,h0,hcap,hb,hd⟩
  · cases h0'
  have hvs:vs=[.slice (some ⟨b,o,none⟩) 1 cap,.int .i64 (k.toNat:Int)]:=by
    match vs,hl with
    | [p,q],_ =>
      simp only [List.getElem?_cons_zero,List.getElem?_cons_succ,Option.some.injEq] at h0 h1
      rw [h0,h1,Int.toNat_of_nonneg hk.1]
      rfl
  have hcell:w.cell? ⟨b,o,none⟩=some (.int .i64 x):=by
    have hq:[IV.sc (.int .i64 x)]=[Value.int .i64 x].map .sc:=rfl
    have hd:RDs w F [IV.sc (.int .i64 x)] ((C.toList.drop o).take 1) []:=hd
    rw [hq] at hd
    have h2:=(scD_inv hd).1
    rw [cell_of hb]
    have h3:((C.toList.drop o).take 1)[0]? = some (.int .i64 x):=by rw [h2];rfl
    rw [List.getElem?_take_of_lt (by omega),List.getElem?_drop] at h3
    simpa using h3
  have hbl:b < w.heap.size:=by
    rcases Nat.lt_or_ge b w.heap.size with h | h
    · exact h
    · rw [Array.getElem?_eq_none h] at hb;cases hb
  rw [hvs]
  refine (hrow b o cap x k.toNat (by omega) w hbl hcell).mono ?_
  rintro e w' ⟨hB,cur,rfl,hg,hl',ht⟩
  rw [← hvs]
  have hfl:∀ n:Nat,(List.replicate n [IV.sc (.int .i64 x)]).flatten=(List.replicate n (Value.int .i64 x)).map .sc:=fun n=>by
    induction n with
    | zero=>rfl
    | succ n ih=>rw [List.replicate_succ,List.replicate_succ,List.flatten_cons,ih];rfl
  by_cases h0:k.toNat=0
  · rw [h0]
    exact retPost_own hR hB (.own0 .nil) List.nodup_nil (by simp) isRet_own
  · have hlen:(List.replicate k.toNat [IV.sc (.int .i64 x)]).length=k.toNat:=List.length_replicate
    have hown:RDs w' F [.own 1 (List.replicate k.toNat [IV.sc (.int .i64 x)])] [.slice (some ⟨w.heap.size,0,none⟩) (List.replicate k.toNat [IV.sc (.int .i64 x)]).length k.toNat] (w.heap.size::([]++[])):=by
      refine .own hg ?_ (fun y hy=>by rw [(List.mem_replicate.1 hy).2];rfl) (by rw [hlen];omega) (by simp only [List.size_toArray];omega) .nil
      rw [hlen,hfl,List.drop_zero,Nat.mul_one]
      show RDs w' F _ (cur.take k.toNat) []
      rw [ht]
      exact scD fun u hu=>by rw [(List.mem_replicate.1 hu).2];rfl
    rw [hlen] at hown
    refine retPost_own hR hB hown (by simp) (fun b hb=>?_) isRet_own
    simp only [List.append_nil,List.mem_cons,List.not_mem_nil,or_false] at hb
    subst hb
    refine ⟨Nat.le_refl _,?_⟩
    rcases Nat.lt_or_ge w.heap.size w'.heap.size with h | h
    · exact h
    · rw [Array.getElem?_eq_none h] at hg;cases hg
theorem arg_gr {u:Value} {e:Nat} {es:List (List IV)} {c:Bool} (hR:Rel cx w F ρ fp [] (argSt [.agg [.sc u,.lst e es c]] M) (argTm vs)) (hl:vs.length=1) :
    ∃ sl,vs=[.agg #[u,sl]]∧RDs w F [.sc u,.lst e es c] [u,sl] []:=by
  have hs:=hR.slots 0
  have hg:tget (argSt [.agg [.sc u,.lst e es c]] M).T 0=.agg [.sc u,.lst e es c]:=by rw [argSt_get];rfl
  rw [hg] at hs
  obtain ⟨C,hC,hcat⟩:=hs
  match vs,hl with
  | [v],_ =>
    have hv:v=.agg C:=hC
    subst hv
    obtain ⟨L⟩:=C
    generalize fp (.S 0)=f at hcat
    cases hcat with
    | cons h1 t =>
      cases t with
      | cons h2 t2 =>
        cases t2
        rcases h1 with ⟨h1,-⟩ | h1
        · exact h1.elim
        rcases h2 with ⟨h2,-⟩ | h2
        · exact h2.elim
        obtain ⟨hf,-⟩:=h2.lst_inv
        subst hf
        cases h1 with
        | sc hu t0 =>
          cases t0
          exact ⟨_,rfl,.sc hu h2⟩
theorem extKeys_inv {D:List Int}:∀ {es:List (List IV)} {ks:List (Int×Int)},extKeys D es=some ks→∃ E:List (Int×Int),es=E.map (fun x=>[IV.sc (.int .i64 x.1),IV.sc (.int .i64 x.2)])∧ks=keysJ D E∧∀ x ∈ E,0≤x.1∧x.1.toNat < D.length∧0≤x.2∧x.2.toNat < D.length
  | [],ks,h=>by
    simp only [extKeys,Option.some.injEq] at h
    subst h
    exact ⟨[],rfl,rfl,by simp⟩
  | e::es,ks,h=>by
    unfold extKeys at h
    split at h
    · rename_i heq;cases heq
    · rename_i a b r heq
      simp only [List.cons.injEq] at heq
      obtain ⟨rfl,rfl⟩:=heq
      split at h
      rotate_left
      · cases h
      rename_i hab
      split at h
      rotate_left
      · cases h
      rename_i ks' hk
      simp only [Option.some.injEq] at h
      subst h
      obtain ⟨E,h1,h2,h3⟩:=extKeys_inv hk
      refine ⟨(a,b)::E,by rw [h1];rfl,by rw [h2];rfl,fun x hx=>?_⟩
      rcases List.mem_cons.1 hx with rfl | hx
      · exact hab
      · exact h3 x hx
    · cases h
theorem intsOf_inv:∀ {ds:List (List IV)} {D:List Int},intsOf ds=some D→ds=D.map fun n=>[IV.sc (.int .i64 n)]
  | [],D,h=>by
    simp only [intsOf,Option.some.injEq] at h
    subst h;rfl
  | d::ds,D,h=>by
    unfold intsOf at h
    split at h
    · rename_i heq;cases heq
    · rename_i n r heq
      simp only [List.cons.injEq] at heq
      obtain ⟨rfl,rfl⟩:=heq
      split at h
      rotate_left
      · cases h
      rename_i xs hk
      simp only [Option.some.injEq] at h
      subst h
      rw [intsOf_inv hk];rfl
    · cases h
theorem flat1 (D:List Int):(D.map fun n=>[IV.sc (.int .i64 n)]).flatten=(D.map (Value.int .i64)).map .sc:=by
  induction D with
  | nil=>rfl
  | cons d D ih=>rw [List.map_cons,List.flatten_cons,ih];rfl
theorem flat2 (E:List (Int×Int)):(E.map fun x=>[IV.sc (.int .i64 x.1),IV.sc (.int .i64 x.2)]).flatten=(E.flatMap fun x=>[Value.int .i64 x.1,Value.int .i64 x.2]).map .sc:=by
  induction E with
  | nil=>rfl
  | cons d D ih=>rw [List.map_cons,List.flatten_cons,ih];rfl
theorem flat3 (l:List (Int×Int×Int)):(rowsJ l).flatten=(rowV l).map .sc:=by
  induction l with
  | nil=>rfl
  | cons d D ih =>
    have:rowsJ (d::D)=[.sc (.int .i64 d.1),.sc (.int .i64 d.2.1),.sc (.int .i64 d.2.2)]::rowsJ D:=rfl
    rw [this,List.flatten_cons,ih];rfl
theorem pairs_get:∀ (E:List (Int×Int)) (j:Nat) (x:Int×Int),E[j]? = some x→(E.flatMap fun x=>[Value.int .i64 x.1,Value.int .i64 x.2])[j * 2]? = some (.int .i64 x.1)∧(E.flatMap fun x=>[Value.int .i64 x.1,Value.int .i64 x.2])[j * 2+1]? = some (.int .i64 x.2)
  | [],j,x,h=>by simp at h
  | y::E,0,x,h=>by
    simp only [List.getElem?_cons_zero,Option.some.injEq] at h
    subst h
    exact ⟨rfl,rfl⟩
  | y::E,j+1,x,h=>by
    simp only [List.getElem?_cons_succ] at h
    have:=pairs_get E j x h
    have e:(y::E).flatMap (fun x=>[Value.int .i64 x.1,Value.int .i64 x.2])=[.int .i64 y.1,.int .i64 y.2]++E.flatMap fun x=>[Value.int .i64 x.1,Value.int .i64 x.2]:=rfl
    rw [e,show (j+1) * 2=j * 2+2 by omega]
    exact this
theorem heap_lt {o:Obj} {b:Nat} (h:w.heap[b]? = some o):b < w.heap.size:=(Array.getElem?_eq_some_iff.1 h).1
theorem dropGetJ {C:List Value} {o n j:Nat} {X:List Value} {v:Value} (h:(C.drop o).take n=X) (hj:X[j]? = some v):C[o+j]? = some v:=by
  rw [← h] at hj
  have hlt:j < n:=by
    have:=(List.getElem?_eq_some_iff.1 hj).1
    rw [List.length_take] at this
    omega
  rw [List.getElem?_take_of_lt hlt,List.getElem?_drop] at hj
  exact hj
theorem calls_own {cf:CF} (hcf:CallOK cx cf) {l:Lab} {xs:List IV} {D:List Int} (h:ArgsR w xs vs) (hc:cf l [] xs []=some ⟨.own 1 (D.map fun n=>[IV.sc (.int .i64 n)]),[],[],[]⟩) :
    Calls cx.P (cx.fid l) vs.toArray w (fun e w'=>∃ ad cap,e=.returned (.slice ad D.length cap)∧Below w.heap.size w w' ∧
      ∀ (j:Nat) x,D[j]? = some x→∃ bd od,ad=some ⟨bd,od,none⟩∧w.heap.size≤bd∧bd < w'.heap.size∧w'.cell? ⟨bd,od+j,none⟩=some (.int .i64 x)):=by
  refine ((hcf l [] xs [] _ hc).2 w (oldF w) (fun _ _=>0) (fun _=>[]) vs h.len.symm (argRel h _)).mono ?_
  rintro e w' ⟨v',F',ρ',fp',Xb,rfl,hR,hE,-⟩
  have hs:RComp cx w' F' ρ' _ _ (.own 1 (D.map fun n=>[IV.sc (.int .i64 n)])) v' (fp' (.S 0)):=hR.slots 0
  have hB:Below w.heap.size w w':=⟨hE.env.1,hE.env.2.1,hE.env.2.2,hE.size,fun k hk=>hE.keep k hk (by simp) (by simp)⟩
  rcases hs with ⟨hs,-⟩ | hs
  · exact hs.elim
  rcases hs.own_inv with ⟨h0,hf,a,rfl⟩ | ⟨b,o,cap,C,ty,fp1,rfl,hf,hb,hd,he,hn,ho⟩
  · have hD:D=[]:=by simpa using h0
    subst hD
    exact ⟨a,0,rfl,hB,by simp⟩
  · refine ⟨some ⟨b,o,none⟩,cap,by rw [List.length_map],hB,fun j x hj=>⟨b,o,rfl,?_,heap_lt hb,?_⟩⟩
    · rcases hE.fpn (.S 0) b (by rw [hf];simp) with ⟨r,hr⟩ | hr | hr
      · cases hr
      · cases hr
      · exact hr
    · rw [flat1] at hd
      have h1:=(scD_inv hd).1
      rw [cell_of hb]
      have h2:=dropGetJ (j:=j) h1 (by rw [List.getElem?_map,hj];rfl:(D.map (Value.int .i64))[j]? = some (.int .i64 x))
      simpa using h2
theorem calls_sort {cf:CF} (hcf:CallOK cx cf) {l lf:Lab} {π R:List (Int×Int×Int)} {v:Value} {B:Nat} (hc:cf l [0] [.own 3 (rowsJ π),.fn lf []] []=some ⟨.tup [],[.own 3 (rowsJ R)],[],[]⟩) (hBw:B≤w.heap.size) (hrow:w.ownsRow B 81 3 v π.length (rowV π)) :
    Calls cx.P (cx.fid l) #[v,.func (.func (cx.fid lf)) #[] #[]] w fun e w'=>(∃ u,e=.returned u)∧Below B w w' ∧
      (R=[]∧(∃ a cap,v=.slice a 0 cap) ∨ ∃ g cap cur ty,v=.slice (some ⟨g,0,none⟩) R.length cap∧B≤g∧R.length≤cap∧w'.heap[g]? = some (.cells cur ty (0,0))∧R.length * 3≤cur.size∧cur.toList.take (R.length * 3)=rowV R):=by
  have hlen3:∀ l:List (Int×Int×Int),(rowsJ l).length=l.length:=fun l=>List.length_map _
  obtain ⟨f,hd,hfn,hfl,hfv⟩:∃ f,RDs w (fun _=>False) [.own 3 (rowsJ π)] [v] f∧f.Nodup∧(∀ b ∈ f,B≤b∧b < w.heap.size)∧(v=.slice none 0 0 ∨ ∃ g cap,v=.slice (some ⟨g,0,none⟩) π.length cap∧B≤g):=by
    obtain ⟨hl,⟨h1,h2⟩ | ⟨g,cap,cur,h1,h2,h3,h4,h5,h6,h7⟩⟩:=hrow
    · have hπ:π=[]:=List.length_eq_zero_iff.1 h2
      subst hπ
      rw [h1]
      exact ⟨[],.own0 .nil,List.nodup_nil,by simp,.inl rfl⟩
    · by_cases h0:cap=0
      · have hπ:π=[]:=List.length_eq_zero_iff.1 (by omega)
        subst hπ
        rw [h1,h0]
        exact ⟨[],.own0 .nil,List.nodup_nil,by simp,.inr ⟨g,0,rfl,h2⟩⟩
      · refine ⟨g::([]++[]),?_,by simp,fun b hb=>?_,.inr ⟨g,cap,h1,h2⟩⟩
        · have:=RDs.own (w:=w) (F:=fun _=>False) (e:=3) (es:=rowsJ π) (b:=g) (o:=0) (cap:=cap) (C:=cur) (ty:=81) (fp1:=[]) (xs:=[]) (vs:=[]) (fp:=[]) h3
            (by rw [hlen3,List.drop_zero,h7,flat3];exact scD fun u hu=>by
                  obtain ⟨x,-,hx⟩:=List.mem_flatMap.1 hu
                  simp only [List.mem_cons,List.not_mem_nil,or_false] at hx
                  rcases hx with rfl | rfl | rfl <;> rfl)
            (fun y hy=>by obtain ⟨z,-,rfl⟩:=List.mem_map.1 hy;rfl) (by rw [hlen3];omega) (by omega) .nil
          rw [hlen3] at this
          rw [h1]
          exact this
        · simp only [List.append_nil,List.mem_cons,List.not_mem_nil,or_false] at hb
          subst hb
          exact ⟨h2,heap_lt h3⟩
  let fp0:Fp:=fun r=>match r with
    | .S s=>if s=0 then f else []
    | .B _ _=>[]
  have hfp:∀ r b,b ∈ fp0 r→r=.S 0∧b ∈ f:=fun r b hb=>by
    cases r with
    | S s =>
      simp only [fp0] at hb
      by_cases h0:s=0
      · subst h0;rw [if_pos rfl] at hb;exact ⟨rfl,hb⟩
      · rw [if_neg h0] at hb;cases hb
    | B l k=>cases hb
  have hbox:∀ l k,(argSt [.own 3 (rowsJ π),.fn lf []] []).box l k=none:=fun l k=>by simp [St.box,argSt]
  have hRel:Rel cx w (fun _=>False) (fun _ _=>0) fp0 [] (argSt [.own 3 (rowsJ π),.fn lf []] []) (argTm [v,.func (.func (cx.fid lf)) #[] #[]]):=by
    refine ⟨fun s=>?_,fun l k cs hb=>(by rw [hbox] at hb;cases hb),fun _ _ _=>rfl,fun r=>?_,fun r r' hne b hb hb'=>?_,fun _ _ _ h=>h,fun r b hb=>(hfl b (hfp r b hb).2).2,fun _ h=>h.elim,List.nodup_nil,fun _ _ _=>by simp,fun _ hb=>(by cases hb),fun _ hb=>(by cases hb)⟩
    · rw [argSt_get]
      match s with
      | 0=>exact .inr hd
      | 1=>exact .inl ⟨⟨[],rfl,.nil⟩,rfl⟩
      | s+2 =>
        have:([.own 3 (rowsJ π),.fn lf []]:List IV).getD (s+2) .un=.un:=rfl
        rw [this]
        exact rcomp_un
    · cases r with
      | S s =>
        simp only [fp0]
        by_cases h0:s=0
        · rw [if_pos h0];exact hfn
        · rw [if_neg h0];exact List.nodup_nil
      | B l k=>exact List.nodup_nil
    · exact hne ((hfp r b hb).1.trans (hfp r' b hb').1.symm)
  refine ((hcf l [0] _ [] _ hc).2 w (fun _=>False) (fun _ _=>0) fp0 [v,.func (.func (cx.fid lf)) #[] #[]] rfl hRel).mono ?_
  rintro e w' ⟨v',F',ρ',fp',Xb,rfl,hR,hE,-,hback,-⟩
  refine ⟨⟨v',rfl⟩,⟨hE.env.1,hE.env.2.1,hE.env.2.2,hE.size,fun k hk=>?_⟩,?_⟩
  · rcases Nat.lt_or_ge k w.heap.size with hkw | hkw
    · refine hE.keep k hkw (fun r hr=>?_) (by simp)
      have:=(hfl k (hfp r k hr).2).1
      omega
    · omega
  · obtain ⟨f1,f2,-,hbv,-⟩:=hback
    have hbv:RDs w' F' [.own 3 (rowsJ R)] [v] f1:=hbv
    rcases hbv.own_inv with ⟨h0,-,a,h1⟩ | ⟨b,o,cap,C,ty,fp1,h1,-,hb,hd',he,hn,ho⟩
    · have hR0:R=[]:=List.map_eq_nil_iff.1 h0
      exact .inl ⟨hR0,a,0,h1⟩
    · rw [hlen3] at h1 hd' hn
      rcases hfv with h | ⟨g,cap',h,hg⟩
      · rw [h] at h1;cases h1
      · rw [h] at h1
        simp only [Value.slice.injEq,Option.some.injEq,Addr.mk.injEq,and_true] at h1
        obtain ⟨⟨rfl,rfl⟩,h2,rfl⟩:=h1
        rw [flat3,List.drop_zero] at hd'
        refine .inr ⟨g,cap',C,ty,by rw [h,h2],hg,hn.1,hb,by omega,(scD_inv hd').1⟩
open Classical in
theorem extOK_joint {f lv ld ls lf:Lab} (hent:EnterOK cx.P (cx.fid f)) (hrow:JRow cx.P (cx.fid lv) (cx.fid ld) (cx.fid ls) (cx.fid lf) (cx.fid f)) (hnone:JNone cx.P (cx.fid lv) (cx.fid f)) :
    ExtOK cx f ⟨[.t 0],[],.ext (ext_impl_JointOf lv ld ls lf)⟩:=by
  refine ⟨_,rfl,hent,fun cf hcf args v h=>?_⟩
  unfold ext_impl_JointOf at h
  split at h
  rotate_left
  · cases h
  rename_i n e es c
  split at h
  · rename_i hv
    simp only [Option.some.injEq] at h
    subst h
    refine ⟨extEnd_own,fun M w F ρ fp vs hl hR=>?_⟩
    obtain ⟨sl,rfl,hd⟩:=arg_gr hR (by simpa using hl)
    obtain ⟨ea,m,cap,rfl⟩:∃ ea m cap,sl=.slice ea m cap:=by
      cases hd with
      | sc _ t =>
        obtain ⟨-,⟨-,a,cap,h,-⟩ | ⟨b,o,cap,C,ty,fr,h,-⟩⟩:=t.lst_inv
        · exact ⟨a,0,cap,h⟩
        · exact ⟨_,_,_,h⟩
    refine (hnone n ea m cap w fun w' hB=>calls_sc hcf (.cons (.agg (hd.frame (fun b hb=>nomatch hb) (fun b hb=>hB.block b (hR.Flt b hb)) (fun b hb=>Nat.lt_of_lt_of_le (hR.Flt b hb) hB.size))) .nil) hv).mono ?_
    rintro e' w' ⟨rfl,hB⟩
    exact retPost_own hR hB (.own0 .nil) List.nodup_nil (by simp) isRet_own
  · rename_i hv
    split at h
    rotate_left
    · cases h
    rename_i ds hds
    split at h
    rotate_left
    · cases h
    rename_i D hD
    split at h
    rotate_left
    · cases h
    rename_i ks hks
    split at h
    rotate_left
    · cases h
    rename_i hlim
    split at h
    rotate_left
    · cases h
    rename_i hex
    simp only [Option.some.injEq] at h
    subst h
    have hsort:=Classical.choose_spec hex
    generalize Classical.choose hex=R at hsort
    obtain ⟨E,rfl,rfl,hE⟩:=extKeys_inv hks
    have hD':=intsOf_inv hD
    subst hD'
    refine ⟨extEnd_own,fun M w F ρ fp vs hl hR=>?_⟩
    obtain ⟨sl,rfl,hd⟩:=arg_gr hR (by simpa using hl)
    have hargs:∀ w',Below w.heap.size w w'→ArgsR w' [.agg [.sc (.int .i64 n),.lst e (E.map fun x=>[IV.sc (.int .i64 x.1),IV.sc (.int .i64 x.2)]) c]] [.agg #[.int .i64 n,sl]]:=fun w' hB =>
      .cons (.agg (hd.frame (fun b hb=>nomatch hb) (fun b hb=>hB.block b (hR.Flt b hb)) (fun b hb=>Nat.lt_of_lt_of_le (hR.Flt b hb) hB.size))) .nil
    have hEl:(E.map fun x=>[IV.sc (.int .i64 x.1),IV.sc (.int .i64 x.2)]).length=E.length:=List.length_map _
    obtain ⟨ea,cap,rfl,hcells⟩:∃ ea cap,sl=.slice ea E.length cap∧∀ (j:Nat) x,E[j]? = some x→∃ be oe,ea=some ⟨be,oe,none⟩∧be < w.heap.size∧w.cell? ⟨be,oe+j * 2,none⟩=some (.int .i64 x.1)∧w.cell? ⟨be,oe+j * 2+1,none⟩=some (.int .i64 x.2):=by
      cases hd with
      | sc _ t =>
        obtain ⟨-,⟨h0,a,cap,h,-⟩ | ⟨b,o,cap,C,ty,fr,h,hF,hb,hd1,he,-⟩⟩:=t.lst_inv
        · have hE0:E=[]:=List.map_eq_nil_iff.1 h0
          subst hE0
          exact ⟨a,cap,h,by simp⟩
        · rw [hEl] at h hd1
          refine ⟨_,cap,h,fun j x hj=>⟨b,o,rfl,heap_lt hb,?_⟩⟩
          have he2:e=2:=by
            have:=he _ (List.mem_map.2 ⟨x,List.mem_of_getElem? hj,rfl⟩)
            simpa using this.symm
          subst he2
          rw [flat2] at hd1
          have h1:=(scD_inv hd1).1
          obtain ⟨g1,g2⟩:=pairs_get E j x hj
          have q1:=dropGetJ h1 g1
          have q2:=dropGetJ h1 g2
          rw [cell_of hb,cell_of hb]
          refine ⟨by simpa using q1,?_⟩
          rw [Nat.add_assoc]
          simpa using q2
    refine (hrow n ea cap E D R w hE hlim.2 (by simpa using hlim.1) hcells (fun w' hB=>calls_sc hcf (hargs w' hB) hv) (fun w' hB=>calls_own hcf (hargs w' hB) hds)
      (fun π v B w' hB h1 h2 hp hro=>calls_sort hcf (hsort π hp) h2 hro)).mono ?_
    rintro e' w' ⟨v,rfl,hB,hv'⟩
    rcases hv' with ⟨rfl,a,rfl⟩ | ⟨g,cur,ty,h0,rfl,hg,hgb,hsz,htk⟩
    · exact retPost_own hR hB (.own0 .nil) List.nodup_nil (by simp) isRet_own
    · have hlen:(rowsJ R).length=R.length:=List.length_map _
      have hpos:0 < R.length:=List.length_pos_iff.2 h0
      have hown:RDs w' F [.own 3 (rowsJ R)] [.slice (some ⟨g,0,none⟩) (rowsJ R).length R.length] (g::([]++[])):=by
        refine .own hgb ?_ (fun y hy=>by obtain ⟨z,-,rfl⟩:=List.mem_map.1 hy;rfl) (by rw [hlen];omega) (by omega) .nil
        rw [hlen,flat3,List.drop_zero,htk]
        exact scD fun u hu=>by
          obtain ⟨x,-,hx⟩:=List.mem_flatMap.1 hu
          simp only [List.mem_cons,List.not_mem_nil,or_false] at hx
          rcases hx with rfl | rfl | rfl <;> rfl
      rw [hlen] at hown
      refine retPost_own hR hB hown (by simp) (fun b hb=>?_) isRet_own
      simp only [List.append_nil,List.mem_cons,List.not_mem_nil,or_false] at hb
      subst hb
      exact ⟨hg,heap_lt hgb⟩
  · cases h
end
end Go.Idl
