/- Part 3 of a proof by an ideal interpreter of the code: its definitions and lemmas. Conditions: none. -/
import Derived.Below
import Derived.LoopN
import Derived.Scope
import Derived.Test.YtfoigkkpkalloaaA2
set_option linter.all false
set_option linter.unusedVariables false
set_option linter.unusedSimpArgs false
namespace Go.Idl
open Go
def bOps (cx:Cx) (ops:Array Oper) (n:Nat) (keep:List Nat):List Oper→List IOp→Bool
  | [],[]=>true
  | o::os,x::xs=>bIOp cx ops n keep o x && bOps cx ops n keep os xs
  | _,_=>false
def bNil (cx:Cx) (n:Nat) (keep:List Nat):Code→List IOp→Opd→Nat→Bool
  | .region _ ops false,iops,x,t=>bOps cx ops n keep (ops.toList.take iops.length) iops && ops.size == iops.length+1 && (match ops[iops.length]? with
    | some o=>o.guard.isNone && (match o.dst with | some d=>d == t | none=>false) && decide (t < n) && !keep.contains t && (match o.op with
      | .binOp .eql T a (.const v) _=>vEq v (.slice none 0 0) && isSliceOf cx.P T (fun _=>true) && bOpd cx a x
      | _=>false)
    | none=>false)
  | _,_,_,_=>false
def bCodeI (cx:Cx) (n:Nat) (keep:List Nat):IC→Code→Bool
  | i,.scope c=>bCodeI cx n keep i c
  | .skip,.skip=>true
  | .skip,.label _=>true
  | .reg iops _ alts,.region _ ops draw=>bOps cx ops n keep ops.toList iops && (!draw || drawB ops (clsOf iops) alts)
  | .regd iops ord _ alts,.region _ ops draw=>bOps cx ops n keep ops.toList iops && draw && drawI ops iops ord alts
  | .seq x y,.seq a b=>bCodeI cx n keep x a && bCodeI cx n keep y b
  | .nilc iops x t _ y,.seq a b=>bNil cx n keep a iops x t && bCodeI cx n keep y b
  | .nilc2 iops x t _ y1 y2,.seq (.seq a1 a2) b=>bNil cx n keep a1 iops x t && bCodeI cx n keep y1 a2 && bCodeI cx n keep y2 b
  | .cond d x y,.cond c a b=>bOpd cx c d && bCodeI cx n keep x a && bCodeI cx n keep y b
  | .block id' b',.block id b=>id == id' && bCodeI cx n keep b' b
  | .loop b',.loop b=>bCodeI cx n keep b' b
  | .exit id',.exit id=>id == id'
  | .ret,.ret=>true
  | _,_=>false
abbrev bCode (cx:Cx) (n:Nat) (keep:List Nat) (c:Code) (i:IC):Bool:=bCodeI cx n keep i c
def exOf:Ex→Exit
  | .normal=>.normal
  | .exit id=>.exit id
  | .ret=>.ret
section
variable {cx:Cx} {w0:World} {F0:Nat→Prop} {ρ0:Rho} {fp0:Fp} {st0:St} {a0:Act} {keep:List Nat} {n:Nat} {cf:CF}
variable {w:World} {st st':St} {a:Act}
def PostI (cx:Cx) (w0:World) (F0:Nat→Prop) (ρ0:Rho) (fp0:Fp) (st0:St) (a0:Act) (keep:List Nat) (n:Nat) (ex:Ex) (st':St):Exit→Act→World→Prop :=
  fun e a w=>e=exOf ex∧Inv cx w0 F0 ρ0 fp0 st0 a0 keep n st' a w
theorem bOps_spec {ops:Array Oper}:∀ {os:List Oper} {xs:List IOp},bOps cx ops n keep os xs=true→os.length=xs.length∧∀ (i:Nat) (o:Oper) (x:IOp),os[i]? = some o→xs[i]? = some x→bIOp cx ops n keep o x=true
  | [],[],_=>⟨rfl,by simp⟩
  | o::os,x::xs,h=>by
    simp only [bOps,Bool.and_eq_true] at h
    obtain ⟨h1,h2⟩:=bOps_spec h.2
    refine ⟨by simp [h1],fun i o' x' ho hx=>?_⟩
    cases i with
    | zero=>simp at ho hx;subst ho hx;exact h.1
    | succ i=>exact h2 i o' x' (by simpa using ho) (by simpa using hx)
  | [],_::_,h=>by cases h
  | _::_,[],h=>by cases h
theorem inOrder_range (l:List IOp):inOrder l (List.range l.length)=l:=by
  unfold inOrder
  induction l with
  | nil=>rfl
  | cons x l ih =>
    rw [List.length_cons,List.range_succ_eq_map,List.filterMap_cons]
    simp only [List.getElem?_cons_zero,List.filterMap_map]
    congr 1
theorem inv_drawn (h:Inv cx w0 F0 ρ0 fp0 st0 a0 keep n st a w) (k:Nat):Inv cx w0 F0 ρ0 fp0 st0 a0 keep n st a { w with drawn:=k }:=by
  obtain ⟨F,ρ,fp,hR,hE,h1⟩:=h
  obtain ⟨hR',-⟩:=hR.grow (w':={ w with drawn:=k }) (fun _ _ _=>rfl) (Nat.le_refl _) (Y:=[]) .nil (by simp)
  exact ⟨F,ρ,fp,by simpa using hR',⟨hE.size,hE.keep,hE.fpn,hE.xn,hE.Fm,hE.Fn,hE.rho,hE.env⟩,h1⟩
theorem inv_cut (h:Inv cx w0 F0 ρ0 fp0 st0 a0 keep n st a w) (live:List Nat):Inv cx w0 F0 ρ0 fp0 st0 a0 keep n (st.cut live) a w:=by
  obtain ⟨F,ρ,fp,hR,hE,hS,h1⟩:=h
  obtain ⟨fp',k1,k2,k3⟩:=hR.restrict live
  exact ⟨F,ρ,fp',k3,⟨hE.size,hE.keep,fun r b hb=>hE.fpn r b (k1 r b hb),hE.xn,hE.Fm,hE.Fn,hE.rho,hE.env⟩,⟨hS.M,hS.loc⟩,h1⟩
theorem eval_bool (h:Inv cx w0 F0 ρ0 fp0 st0 a0 keep n st a w) {c:Operand} {d:Opd} (hc:okOpd cx c d) {t:Bool} (ht:rd st.T d=.sc (.bool t)):a.eval c=.bool t:=by
  obtain ⟨F,ρ,fp,hR,-⟩:=h
  have:=rd_rel hR hc
  rw [ht] at this
  exact (rslot_sc this).1
theorem wpY_app {P:Program} {ops:Array Oper} {cls:Nat→Cls} {K K2:Act→World→Prop} {l l2:List Nat} (hK:∀ a w,K2 a w→wpY P ops cls K l2 a w):∀ {a:Act} {w:World},wpY P ops cls K2 l a w→wpY P ops cls K (l++l2) a w:=by
  induction l with
  | nil=>intro a w h;exact hK a w h
  | cons i l ih =>
    intro a w h
    obtain ⟨o,ho,h⟩:=h
    refine ⟨o,ho,?_⟩
    split at h
    · obtain ⟨v,hy,h⟩:=h;exact ⟨v,hy,ih h⟩
    · obtain ⟨v,hy,h⟩:=h;exact ⟨v,hy,ih h⟩
    · exact wpOp_mono (fun _ _=>ih) h
theorem empty_real {x:IV} {v:Value} {b:Bool} {F:Nat→Prop} {ρ:Rho} {fp:Fp} {X:List Nat} (hR:Rel cx w F ρ fp X st (regs a)) (h:RSlot cx w F ρ st (look st (regs a) ρ w) x v []) (hb:emptyL x=some b) :
    ∃ ad len cap,v=.slice ad len cap∧(b=false→ad.isSome=true):=by
  unfold emptyL at hb
  split at hb
  · rename_i e es c
    simp only [Option.some.injEq] at hb
    have hd:RDs w F [.lst e es c] [v] []:=by
      rcases h with ⟨h,_⟩ | h
      · exact h.elim
      · exact h
    obtain ⟨-,h1⟩:=hd.lst_inv
    rcases h1 with ⟨rfl,ad,cap,rfl,-⟩ | ⟨b1,o,cap,C,ty,fr,rfl,_⟩
    · exact ⟨ad,0,cap,rfl,fun hf=>by subst hb;simp at hf⟩
    · exact ⟨_,_,_,rfl,fun _=>rfl⟩
  · rename_i r c p e off n cl
    simp only [Option.some.injEq] at hb
    rcases h with ⟨⟨x0,v0,es,A0,N,cap0,A,cap,k1,k2,k3,hA,k5,k6,k7,k8⟩,_⟩ | h
    · refine ⟨A,n,cap,hA,fun hf=>?_⟩
      subst hb
      have hn:0 < n:=by
        rcases Nat.eq_zero_or_pos n with h | h
        · subst h;simp at hf
        · exact h
      obtain ⟨b,o1,-,rfl⟩:=k8.1 (by omega)
      rfl
    · cases h
  · cases hb
theorem run_eqnil' {P:Program} {T e:TypeId} (hT:P.underlying T=some (.slice e)) {ad:Option Addr} {len cap:Nat} (w:World) (d:Nat):(Op.equalIn (d+1) T (.slice ad len cap) (.slice none 0 0)).run P w=.ok ad.isNone w:=by
  cases ad <;> simp [Op.equalIn,run_underlying hT]
theorem run_eqnil {P:Program} {T e:TypeId} (hT:P.underlying T=some (.slice e)) {ad:Option Addr} {len cap:Nat} (w:World):(Op.equal T (.slice ad len cap) (.slice none 0 0)).run P w=.ok ad.isNone w :=
  run_eqnil' hT w 9999
theorem nilc_sound (hcf:CallOK cx cf) {x:Code} {G:Act→World→Prop} {Q:Exit→Act→World→Prop} {iops:List IOp} {e:Opd} {t:Nat} {live:List Nat} {f:St→Option (Ex×St)} {ex:Ex} (hb:bNil cx n keep x iops e t=true) (hev:nilStep (execOps cf st iops) e t live f=some (ex,st'))
    (hI:Inv cx w0 F0 ρ0 fp0 st0 a0 keep n st a w) (hy:∀ {st:St} {a:Act} {w:World},f st=some (ex,st')→Inv cx w0 F0 ρ0 fp0 st0 a0 keep n st a w→G a w) :
    x.wp cx.P (Exit.then G Q) a w:=by
  obtain ⟨id,ops,rfl⟩:∃ id ops,x=.region id ops false:=by
    unfold bNil at hb
    split at hb
    · exact ⟨_,_,rfl⟩
    · cases hb
  simp only [bNil,Bool.and_eq_true,beq_iff_eq] at hb
  obtain ⟨⟨hops,hsz⟩,hb⟩:=hb
  split at hb
  rotate_left
  · cases hb
  rename_i o ho
  simp only [Bool.and_eq_true,decide_eq_true_eq,Bool.not_eq_true',Option.isNone_iff_eq_none] at hb
  obtain ⟨⟨⟨⟨hg,hd⟩,htn⟩,htk⟩,hop⟩:=hb
  split at hd
  rotate_left
  · cases hd
  rename_i d hdst
  have hdt:d=t:=eq_of_beq hd
  subst hdt
  split at hop
  rotate_left
  · cases hop
  rename_i T xo v yt hopk
  simp only [Bool.and_eq_true] at hop
  obtain ⟨⟨hv,hT⟩,hx⟩:=hop
  have hv':=vEq_eq hv
  subst hv'
  obtain ⟨el,hel,-⟩:=isSliceOf_ok hT
  obtain ⟨hlen,hck⟩:=bOps_spec hops
  have hck':∀ (i:Nat) (o:Oper) (x:IOp),ops[i]? = some o→iops[i]? = some x→bIOp cx ops n keep o x=true:=fun i o x ho hx=>by
    have hi:i < iops.length:=(List.getElem?_eq_some_iff.1 hx).1
    exact hck i o x (by rw [List.getElem?_take_of_lt hi];simpa using ho) hx
  unfold nilStep at hev
  split at hev
  rotate_left
  · cases hev
  rename_i st1 h1
  obtain ⟨b,hbe,hboth⟩:∃ b,emptyL (rd st1.T e)=some b∧∀ b0,(b=false→b0=false)→f (st1.flag d b0 live)=some (ex,st'):=by
    split at hev
    · rename_i he
      exact ⟨false,he,fun b0 h0=>by rw [h0 rfl];exact hev⟩
    · rename_i he
      refine ⟨true,he,fun b0 _=>?_⟩
      split at hev
      rotate_left
      · cases hev
      rename_i r r' hr hr'
      split at hev
      rotate_left
      · cases hev
      rename_i hrr
      simp only [Option.some.injEq] at hev
      subst hrr
      cases b0
      · rw [hr',hev]
      · rw [hr,hev]
    · cases hev
  refine wp_fixed (cls:=clsOf iops) (K:=G) (fun a w h=>h) ?_
  rw [hsz,List.range_succ]
  refine wpY_app (K2:=Inv cx w0 F0 ρ0 fp0 st0 a0 keep n st1) (fun a1 w1 hI1=>?_) (ops_Y hcf hck' (by omega) (fun i hi=>List.mem_range.1 hi) hI (by rw [inOrder_range];exact h1))
  refine ⟨o,ho,?_⟩
  have hcls:clsOf iops iops.length=.oth:=by simp [clsOf]
  rw [hcls]
  simp only
  have hI1':=hI1
  obtain ⟨F,ρ,fp,hR,hE,hS,hn,hdf,hk⟩:=hI1
  obtain ⟨ad,len,cap,hval,had⟩:=empty_real hR (rd_rel hR (bOpd_ok hx)) hbe
  have hw:Region.wanted o (yielded ops a1.tmps)=true:=by simp [Region.wanted,hg]
  have hrun:(execOp a1.eval o).run cx.P w1=.ok (.value (.bool ad.isNone)) w1:=by
    have he:a1.eval (.const (.slice none 0 0))=.slice none 0 0:=rfl
    simp [execOp,hopk,hval,he,eqGuard,binOp,run_eqnil hel]
  unfold wpOp
  simp only [ho,hw,if_true]
  left
  unfold Oper.wp
  rw [hrun,Oper.upon_value,hdst]
  simp only [wpY]
  have hb0:b=false→ad.isNone=false:=fun h=>by
    have:=had h
    cases ad <;> simp_all
  refine hy (hboth ad.isNone hb0) ?_
  have:=inv_put (cx:=cx) (w0:=w0) (F0:=F0) (ρ0:=ρ0) (fp0:=fp0) (st0:=st0) (a0:=a0) (keep:=keep) (n:=n) (d:=some d) (f':=[]) (v':=.bool ad.isNone) (v:=.sc (.bool ad.isNone)) (by simpa using hR) (sc_rslot rfl) (by simpa using hE) hS hn hdf hk
    (fun e he=>by cases he;exact ⟨htn,by simpa using htk⟩)
  exact inv_cut this live
theorem exec_sound_aux (hcf:CallOK cx cf) (hm:cx.P.follows .mixedOrders=true):∀ (N:Nat) (c:Code),SizeOf.sizeOf c < N→∀ {i:IC},bCode cx n keep c i=true→∀ {fuel:Nat} {st:St} {ex:Ex} {st':St} {a:Act} {w:World},
    exec cf fuel i st=some (ex,st')→Inv cx w0 F0 ρ0 fp0 st0 a0 keep n st a w→c.wp cx.P (PostI cx w0 F0 ρ0 fp0 st0 a0 keep n ex st') a w:=by
  intro N
  induction N with
  | zero=>intro c hN;omega
  | succ N ihN =>
  intro c hN
  cases c with
  | skip =>
    intro i hb fuel st ex st' a w hev hI
    cases i <;> simp only [bCode,bCodeI] at hb <;> try (cases hb;done)
    simp only [exec,Option.some.injEq,Prod.mk.injEq] at hev
    obtain ⟨rfl,rfl⟩:=hev
    exact wp_skip ⟨rfl,hI⟩
  | label l =>
    intro i hb fuel st ex st' a w hev hI
    cases i <;> simp only [bCode,bCodeI] at hb <;> try (cases hb;done)
    simp only [exec,Option.some.injEq,Prod.mk.injEq] at hev
    obtain ⟨rfl,rfl⟩:=hev
    exact wp_label ⟨rfl,hI⟩
  | scope c =>
    have ih:=fun {i:IC}=>ihN c (by simp at hN;omega) (i:=i)
    intro i hb fuel st ex st' a w hev hI
    have hb':bCode cx n keep c i=true:=by
      cases i <;> simpa only [bCode,bCodeI] using hb
    refine wp_scope_straight (wp_mono (ih hb' hev hI) ?_)
    rintro e a w ⟨rfl,h⟩
    cases ex <;> exact ⟨rfl,h⟩
  | region id ops draw =>
    intro i hb fuel st ex st' a w hev hI
    cases i <;> simp only [bCode,bCodeI] at hb <;> try (cases hb;done)
    rotate_left
    · rename_i iops ord live alts
      simp only [Bool.and_eq_true] at hb
      obtain ⟨⟨hops,hdraw⟩,hdr'⟩:=hb
      subst hdraw
      obtain ⟨hlen,hck⟩:=bOps_spec hops
      have hlen':ops.size=iops.length:=by simpa using hlen
      have hck':∀ (i:Nat) (o:Oper) (x:IOp),ops[i]? = some o→iops[i]? = some x→bIOp cx ops n keep o x=true:=fun i o x ho hx=>hck i o x (by simpa using ho) hx
      simp only [exec] at hev
      split at hev
      rotate_left
      · cases hev
      rename_i st1 hreg
      simp only [Option.some.injEq,Prod.mk.injEq] at hev
      obtain ⟨rfl,rfl⟩:=hev
      unfold execRegd at hreg
      split at hreg
      rotate_left
      · cases hreg
      rename_i st2 hmain
      split at hreg
      rotate_left
      · cases hreg
      rename_i hcond
      obtain ⟨hnh,hok,halts⟩:=hcond
      simp only [Option.some.injEq] at hreg
      subst hreg
      · refine wp_region_draw fun t=>?_
        simp only [Region.schedule,hm,Bool.true_or,if_true]
        have hb:backB .any ops=true:=by
          unfold drawI at hdr'
          simp only [Bool.and_eq_true] at hdr'
          exact hdr'.1.1.1.1.1
        have hL:=lin_go hb t
        obtain ⟨τ,hτ,h1,h2,h3,h4,h5⟩:=drawI_spec hdr' hL
        have hlt:∀ i ∈ τ,i < iops.length:=fun i hi=>by rw [← hlen'];exact (hL.mem i).1 (h1.symm.subset hi)
        obtain ⟨sτ,k1,k2,k3⟩:∃ sτ,execI cf iops st τ=some sτ∧okRun cf st (inOrder iops τ)∧sτ.cut live=st2.cut live:=by
          rcases List.mem_cons.1 hτ with rfl | hτ
          · exact ⟨st2,hmain,hok,rfl⟩
          · obtain ⟨g1,st3,g2,g3⟩:=halts τ hτ
            exact ⟨st3,g2,g1,g3⟩
        have hF:Fine cf iops st τ sτ:=⟨hlt,fun i hi x hx hsw d hd=>by
          have:=List.all_eq_true.1 hnh x (List.mem_of_getElem? hx)
          simpa [hsw,hd] using this,h3,k2,k1⟩
        obtain ⟨s',r1,r2⟩:=fine_perm h1 h2 h4 h5 hF
        have:=ops_Y (l:=Region.linearise .any ops t) hcf hck' (by omega) (fun i hi=>by rw [← hlen'];exact (hL.mem i).1 hi) (inv_drawn hI (w.drawn+1)) r1
        refine wpY_ops (fun a w h=>⟨rfl,?_⟩) this
        rw [← k3,← seq_cut r2]
        exact inv_cut h live
    rename_i iops live alts
    simp only [Bool.and_eq_true,Bool.or_eq_true,Bool.not_eq_true'] at hb
    obtain ⟨hops,hdr⟩:=hb
    obtain ⟨hlen,hck⟩:=bOps_spec hops
    have hlen':ops.size=iops.length:=by simpa using hlen
    have hck':∀ (i:Nat) (o:Oper) (x:IOp),ops[i]? = some o→iops[i]? = some x→bIOp cx ops n keep o x=true:=fun i o x ho hx=>hck i o x (by simpa using ho) hx
    simp only [exec] at hev
    split at hev
    rotate_left
    · cases hev
    rename_i st1 hreg
    simp only [Option.some.injEq,Prod.mk.injEq] at hev
    obtain ⟨rfl,rfl⟩:=hev
    unfold execReg at hreg
    split at hreg
    rotate_left
    · cases hreg
    rename_i st2 hmain
    split at hreg
    rotate_left
    · cases hreg
    rename_i halts
    simp only [Option.some.injEq] at hreg
    subst hreg
    have run:∀ (τ:List Nat) (w1:World),Inv cx w0 F0 ρ0 fp0 st0 a0 keep n st a w1→τ ∈ List.range ops.size::alts→(∀ i ∈ τ,i < ops.size)→wpY cx.P ops (clsOf iops) (Inv cx w0 F0 ρ0 fp0 st0 a0 keep n (st2.cut live)) τ a w1:=by
      intro τ w1 hI1 hτ hlt
      rcases List.mem_cons.1 hτ with rfl | hτ
      · have:=ops_Y (l:=List.range ops.size) hcf hck' (by omega) (fun i hi=>by rw [← hlen'];exact hlt i hi) hI1 (st':=st2) (by rw [hlen',inOrder_range];exact hmain)
        exact wpY_mono (fun a w h=>inv_cut h live) this
      · obtain ⟨st3,h3,h4⟩:=halts τ hτ
        have:=ops_Y (l:=τ) hcf hck' (by omega) (fun i hi=>by rw [← hlen'];exact hlt i hi) hI1 h3
        exact wpY_mono (fun a w h=>by rw [← h4];exact inv_cut h live) this
    cases draw with
    | false =>
      exact wp_fixed (fun a w h=>⟨rfl,h⟩) (run (List.range ops.size) w hI (by simp) (fun i hi=>List.mem_range.1 hi))
    | true =>
      have hdr':drawB ops (clsOf iops) alts=true:=by
        rcases hdr with h | h
        · cases h
        · exact h
      refine wp_drawn hm hdr' (fun a w h=>⟨rfl,h⟩) fun τ hτ=>run τ _ (inv_drawn hI _) hτ fun i hi=>?_
      rcases List.mem_cons.1 hτ with rfl | hτ
      · exact List.mem_range.1 hi
      · unfold drawB at hdr'
        simp only [Bool.and_eq_true] at hdr'
        have hp:=List.all_eq_true.1 hdr'.1.1.2 τ hτ
        exact List.mem_range.1 ((permB_spec hp).subset hi)
  | seq x y =>
    have ihx:=fun {i:IC}=>ihN x (by simp at hN;omega) (i:=i)
    have ihy:=fun {i:IC}=>ihN y (by simp at hN;omega) (i:=i)
    intro i hb fuel st ex st' a w hev hI
    cases i <;> simp only [bCode,bCodeI] at hb <;> try (cases hb;done)
    rotate_left
    · rename_i iops e t live y'
      simp only [Bool.and_eq_true] at hb
      simp only [exec] at hev
      exact wp_seq (nilc_sound hcf hb.1 hev hI fun {st a w} hev hI=>ihy hb.2 hev hI)
    · rename_i iops e t live y1 y2
      cases x <;> simp only [bCode,bCodeI] at hb <;> try (cases hb;done)
      rename_i x1 x2
      simp only [Bool.and_eq_true] at hb
      have ih2:=fun {i:IC}=>ihN x2 (by simp at hN;omega) (i:=i)
      simp only [exec] at hev
      refine wp_seq (wp_seq (nilc_sound hcf hb.1.1 hev hI fun {st a w} hev hI=>?_))
      unfold seqX at hev
      cases h1:exec cf fuel y1 st with
      | none=>simp [h1] at hev
      | some p =>
      obtain ⟨ex1,st1⟩:=p
      simp only [h1] at hev
      refine wp_mono (ih2 hb.1.2 h1 hI) ?_
      rintro e a1 w1 ⟨rfl,hI1⟩
      cases ex1 with
      | normal=>exact ihy hb.2 hev hI1
      | exit id=>simp only [Option.some.injEq,Prod.mk.injEq] at hev;obtain ⟨rfl,rfl⟩:=hev;exact ⟨rfl,hI1⟩
      | ret=>simp only [Option.some.injEq,Prod.mk.injEq] at hev;obtain ⟨rfl,rfl⟩:=hev;exact ⟨rfl,hI1⟩
    rename_i x' y'
    simp only [Bool.and_eq_true] at hb
    simp only [exec] at hev
    cases h1:exec cf fuel x' st with
    | none=>simp [h1] at hev
    | some p =>
    obtain ⟨ex1,st1⟩:=p
    simp only [h1] at hev
    refine wp_seq (wp_mono (ihx hb.1 h1 hI) ?_)
    rintro e a1 w1 ⟨rfl,hI1⟩
    cases ex1 with
    | normal=>exact ihy hb.2 hev hI1
    | exit id=>simp only [Option.some.injEq,Prod.mk.injEq] at hev;obtain ⟨rfl,rfl⟩:=hev;exact ⟨rfl,hI1⟩
    | ret=>simp only [Option.some.injEq,Prod.mk.injEq] at hev;obtain ⟨rfl,rfl⟩:=hev;exact ⟨rfl,hI1⟩
  | cond c x y =>
    have ihx:=fun {i:IC}=>ihN x (by simp at hN;omega) (i:=i)
    have ihy:=fun {i:IC}=>ihN y (by simp at hN;omega) (i:=i)
    intro i hb fuel st ex st' a w hev hI
    cases i <;> simp only [bCode,bCodeI] at hb <;> try (cases hb;done)
    rename_i d x' y'
    simp only [Bool.and_eq_true] at hb
    simp only [exec] at hev
    split at hev
    rotate_left
    · cases hev
    rename_i t ht
    have hc:=eval_bool hI (bOpd_ok hb.1.1) ht
    refine wp_cond_split hc (fun h=>?_) (fun h=>?_)
    · subst h;simp only [if_true] at hev;exact ihx hb.1.2 hev hI
    · subst h;simp only [Bool.false_eq_true,if_false] at hev;exact ihy hb.2 hev hI
  | block id b =>
    have ih:=fun {i:IC}=>ihN b (by simp at hN;omega) (i:=i)
    intro i hb fuel st ex st' a w hev hI
    cases i <;> simp only [bCode,bCodeI] at hb <;> try (cases hb;done)
    rename_i id' b'
    simp only [Bool.and_eq_true,beq_iff_eq] at hb
    obtain ⟨rfl,hb⟩:=hb
    simp only [exec] at hev
    cases h1:exec cf fuel b' st with
    | none=>simp [h1] at hev
    | some p =>
    obtain ⟨ex1,st1⟩:=p
    simp only [h1] at hev
    refine wp_block (wp_mono (ih hb h1 hI) ?_)
    rintro e a1 w1 ⟨rfl,hI1⟩
    cases ex1 with
    | normal=>simp only [Option.some.injEq,Prod.mk.injEq] at hev;obtain ⟨rfl,rfl⟩:=hev;exact ⟨rfl,hI1⟩
    | ret=>simp only [Option.some.injEq,Prod.mk.injEq] at hev;obtain ⟨rfl,rfl⟩:=hev;exact ⟨rfl,hI1⟩
    | exit j =>
      simp only at hev
      simp only [exOf,Exit.inBlock]
      split at hev
      · rename_i hj
        simp only [Option.some.injEq,Prod.mk.injEq] at hev;obtain ⟨rfl,rfl⟩:=hev
        simp only [hj,if_true];exact ⟨rfl,hI1⟩
      · rename_i hj
        simp only [Option.some.injEq,Prod.mk.injEq] at hev;obtain ⟨rfl,rfl⟩:=hev
        simp only [hj,if_false];exact ⟨rfl,hI1⟩
  | loop b =>
    have ih:=fun {i:IC}=>ihN b (by simp at hN;omega) (i:=i)
    intro i hb fuel st ex st' a w hev hI
    cases i <;> simp only [bCode,bCodeI] at hb <;> try (cases hb;done)
    rename_i b'
    simp only [exec] at hev
    have key:∀ (m:Nat) (st:St) (a:Act) (w:World),iter (exec cf fuel b') m st=some (ex,st')→Inv cx w0 F0 ρ0 fp0 st0 a0 keep n st a w→Code.rounds cx.P b (PostI cx w0 F0 ρ0 fp0 st0 a0 keep n ex st') m a w:=by
      intro m
      induction m with
      | zero=>intro st a w h;simp [iter] at h
      | succ m ihm =>
        intro st a w h hI
        rw [rounds_succ]
        simp only [iter] at h
        cases h1:exec cf fuel b' st with
        | none=>simp [h1] at h
        | some p =>
        obtain ⟨ex1,st1⟩:=p
        simp only [h1] at h
        refine wp_mono (ih hb h1 hI) ?_
        rintro e a1 w1 ⟨rfl,hI1⟩
        cases ex1 with
        | normal=>exact ihm st1 a1 w1 h hI1
        | exit j=>simp only [Option.some.injEq,Prod.mk.injEq] at h;obtain ⟨rfl,rfl⟩:=h;exact ⟨rfl,hI1⟩
        | ret=>simp only [Option.some.injEq,Prod.mk.injEq] at h;obtain ⟨rfl,rfl⟩:=h;exact ⟨rfl,hI1⟩
    exact wp_loop_rounds fuel (key fuel st a w hev hI)
  | exit id =>
    intro i hb fuel st ex st' a w hev hI
    cases i <;> simp only [bCode,bCodeI] at hb <;> try (cases hb;done)
    simp only [beq_iff_eq] at hb
    subst hb
    simp only [exec,Option.some.injEq,Prod.mk.injEq] at hev
    obtain ⟨rfl,rfl⟩:=hev
    exact wp_exit ⟨rfl,hI⟩
  | ret =>
    intro i hb fuel st ex st' a w hev hI
    cases i <;> simp only [bCode,bCodeI] at hb <;> try (cases hb;done)
    simp only [exec,Option.some.injEq,Prod.mk.injEq] at hev
    obtain ⟨rfl,rfl⟩:=hev
    exact wp_ret ⟨rfl,hI⟩
  | rangeFunc f ps x y =>
    intro i hb
    cases i <;> simp [bCode,bCodeI] at hb
  | goto l =>
    intro i hb
    cases i <;> simp [bCode,bCodeI] at hb
  | refuse s =>
    intro i hb
    cases i <;> simp [bCode,bCodeI] at hb
theorem exec_sound (hcf:CallOK cx cf) (hm:cx.P.follows .mixedOrders=true) {c:Code} {i:IC} (hb:bCode cx n keep c i=true) {fuel:Nat} {st:St} {ex:Ex} {st':St} {a:Act} {w:World}
    (hev:exec cf fuel i st=some (ex,st')) (hI:Inv cx w0 F0 ρ0 fp0 st0 a0 keep n st a w):c.wp cx.P (PostI cx w0 F0 ρ0 fp0 st0 a0 keep n ex st') a w :=
  exec_sound_aux hcf hm (SizeOf.sizeOf c+1) c (Nat.lt_succ_self _) hb hev hI
end
def bRes (P:Program):ResultVar→RVar→Bool
  | .tmp t,.t s=>t == s
  | .cell a t,.c b sz ag=>a == b && bSize P t sz && bAgg P t ag
  | _,_=>false
def bRess (P:Program):List ResultVar→List RVar→Bool
  | [],[]=>true
  | x::xs,y::ys=>bRes P x y && bRess P xs ys
  | _,_=>false
theorem bRess_ok {P:Program}:∀ {xs:List ResultVar} {ys:List RVar},bRess P xs ys=true→okRess P xs ys
  | [],[],_=>trivial
  | x :: xs,y::ys,h=>by
    simp only [bRess,Bool.and_eq_true] at h
    refine ⟨?_,bRess_ok h.2⟩
    cases x <;> cases y <;> simp only [bRes] at h
    · simpa [okRes] using h.1
    · exact absurd h.1 (by simp)
    · exact absurd h.1 (by simp)
    · simp only [Bool.and_eq_true,beq_iff_eq] at h
      exact ⟨h.1.1.1,bSize_ok h.1.1.2,bAgg_ok h.1.2⟩
  | [],_::_,h=>by cases h
  | _::_,[],h=>by cases h
def bFun (cx:Cx) (rf:Func) (f:IFun):Bool:=(rf.name != "runtime.NumGoroutine") && bRess cx.P rf.results.toList f.res && (match rf.body with
  | some c=>bCode cx rf.ntmps f.keep c f.body
  | none=>false)
def TblOK (cx:Cx) (tb:Tbl):Prop:=∀ f fn,tb f=some fn→∃ rf,cx.P.funcs[cx.fid f]? = some rf∧bFun cx rf fn=true
theorem regs_args (vs:List Value) (k:Nat):regs { tmps:=vs.toArray++Array.replicate k undef,defers:=[] }=argTm vs:=by
  funext s
  simp only [regs,argTm,Array.getD_eq_getD_getElem?,List.getD_eq_getElem?_getD]
  by_cases hs:s < vs.length
  · rw [Array.getElem?_append_left (by simpa using hs)];simp
  · rw [Array.getElem?_append_right (by simpa using hs),List.getElem?_eq_none (by omega)]
    by_cases h2:s - vs.length < k
    · simp [h2]
    · simp [h2]
theorem callN_sound {cx:Cx} {tb:Tbl} (htb:TblOK cx tb) (hm:cx.P.follows .mixedOrders=true):∀ n,CallOK cx (callN tb n)
  | 0=>fun f lent args M r h=>by simp [callN] at h
  | n + 1 => fun f lent args M r h=>by
    have ih:=callN_sound htb hm n
    simp only [callN] at h
    split at h
    rotate_left
    · cases h
    rename_i fn hfn
    obtain ⟨rf,hrf,hb⟩:=htb f fn hfn
    unfold bFun at hb
    simp only [Bool.and_eq_true,bne_iff_ne,ne_eq] at hb
    obtain ⟨⟨hname,hress⟩,hb⟩:=hb
    split at hb
    rotate_left
    · cases hb
    rename_i c hc
    refine ⟨⟨rf,hrf,by simpa using hname,by rw [hc];rfl⟩,?_⟩
    intro w F ρ fp vs hlen hR
    unfold runFun at h
    split at h
    · cases h
    rename_i hkeep
    have hkeep':∀ s ∈ lent,s ∈ fn.keep:=by
      simp only [Bool.not_eq_true',Bool.not_eq_false,List.all_eq_true] at hkeep
      intro s hs
      simpa using hkeep s hs
    let a0:Act:={ tmps:=vs.toArray++Array.replicate (rf.ntmps - vs.toArray.size) undef,defers:=[] }
    have hregs:regs a0=argTm vs:=regs_args vs _
    have hI:Inv cx w F ρ fp (argSt args M) a0 fn.keep rf.ntmps (argSt args M) a0 w :=
      ⟨F,ρ,fp,by rw [hregs];exact hR,Ext.refl _ _ _ _ _ _,.refl _,by simp [a0];omega,rfl,fun _ _=>rfl⟩
    have body:∀ {ex:Ex} {st1:St},exec (callN tb n) n fn.body (argSt args M)=some (ex,st1)→(ex=.normal ∨ ex=.ret)→∀ {vals st2 back st3},st1.retvs fn.res=some (vals,st2)→st2.backs lent=some (back,st3) →
        st3.leave (packRes vals) back=some r→Calls cx.P (cx.fid f) vs.toArray w (RetPost cx w F ρ fp M lent vs r):=by
      intro ex st1 h1 hex vals st2 back st3 h2 h3 h4
      refine calls_of_wp hrf hc ?_
      refine wp_mono (exec_sound ih hm hb h1 hI) ?_
      rintro e a1 w1 ⟨rfl,F1,ρ1,fp1,hR1,hE1,hS1,-,hd1,hk1⟩
      obtain ⟨u,q1,q2⟩:=leave_ok rfl hR1 hE1 hS1 (bRess_ok hress) (fun s hs=>by rw [hk1 s (hkeep' s hs),hregs];rfl) h2 h3 h4
      rcases hex with rfl | rfl
      · exact ⟨hd1,u,q1,q2⟩
      · exact ⟨hd1,u,q1,q2⟩
    change (match exec (callN tb n) n fn.body (argSt args M) with
      | some (.exit _,_)=>none
      | some (_,st)=>_
      | none=>none)=some r at h
    cases h1:exec (callN tb n) n fn.body (argSt args M) with
    | none=>simp [h1] at h
    | some p =>
    obtain ⟨ex,st1⟩:=p
    have rest:(match st1.retvs fn.res with
        | some (vs,st)=>match st.backs lent with
          | some (back,st)=>st.leave (packRes vs) back
          | none=>none
        | none=>none)=some r→(ex=.normal ∨ ex=.ret)→Calls cx.P (cx.fid f) vs.toArray w (RetPost cx w F ρ fp M lent vs r):=by
      intro h hex
      split at h
      rotate_left
      · cases h
      rename_i vals st2 h2
      split at h
      rotate_left
      · cases h
      rename_i back st3 h3
      exact body h1 hex h2 h3 h
    rw [h1] at h
    cases ex with
    | exit j=>simp at h
    | normal=>exact rest h (.inl rfl)
    | ret=>exact rest h (.inr rfl)
end Go.Idl
namespace Go.Idl
open Go
def oldF (w:World):Nat→Prop:=fun b=>b < w.heap.size
inductive ArgR (w:World):IV→Value→Prop
  | one {x:IV} {v:Value} (h:RDs w (oldF w) [x] [v] []):ArgR w x v
  | agg {cs:List IV} {C:Array Value} (h:RDs w (oldF w) cs C.toList []):ArgR w (.agg cs) (.agg C)
inductive ArgsR (w:World):List IV→List Value→Prop
  | nil:ArgsR w [] []
  | cons {x v xs vs} (h:ArgR w x v) (t:ArgsR w xs vs):ArgsR w (x::xs) (v::vs)
theorem ArgsR.len {w xs vs} (h:ArgsR w xs vs):xs.length=vs.length:=by
  induction h with
  | nil=>rfl
  | cons _ _ ih=>simp [ih]
section
variable {cx:Cx} {w:World}
theorem rds_cat {F:Nat→Prop} {ρ:Rho} {st:St} {lk}:∀ {cs:List IV} {vs:List Value},RDs w F cs vs []→Cat (RC cx w F ρ st lk) cs vs []
  | [],vs,h=>by cases h;exact .nil
  | c::cs,vs,h=>by
    obtain ⟨v,us,f1,f2,rfl,hf,h1,h2⟩:=h.cons_inv
    obtain ⟨rfl,rfl⟩:=List.append_eq_nil_iff.1 hf.symm
    exact Cat.cons (f:=[]) (fp:=[]) (.inr h1) (rds_cat h2)
theorem ArgR.slot {x v} (h:ArgR w x v) {ρ:Rho} {st:St} {lk}:RSlot cx w (oldF w) ρ st lk x v []:=by
  cases h with
  | agg h=>exact ⟨_,rfl,rds_cat h⟩
  | one h =>
    cases x with
    | tup vs=>cases h
    | agg cs=>cases h
    | un=>exact rfl
    | _=>exact .inr h
theorem tget_argsT {xs:List IV} (s k:Nat):tget ((xs.zipIdx k).map fun (v,i)=>(i,v)) s=if k≤s then xs.getD (s - k) .un else .un:=by
  induction xs generalizing k with
  | nil=>simp [tget]
  | cons x xs ih =>
    rw [List.zipIdx_cons,List.map_cons]
    simp only [tget]
    by_cases hk:k=s
    · subst hk;simp
    · rw [if_neg hk,ih]
      by_cases h1:k≤s
      · have h2:k+1≤s:=by omega
        rw [if_pos h1,if_pos h2,show s - k=(s - (k+1))+1 by omega]
        simp
      · have h2:¬ k+1≤s:=by omega
        rw [if_neg h1,if_neg h2]
theorem ArgsR.get {xs vs} (h:ArgsR w xs vs):∀ s,(xs.getD s .un=.un∧xs.length≤s) ∨ ArgR w (xs.getD s .un) (vs.getD s undef):=by
  induction h with
  | nil=>intro s;exact .inl ⟨by simp,by simp⟩
  | cons h t ih =>
    intro s
    cases s with
    | zero=>exact .inr (by simpa using h)
    | succ s =>
      rcases ih s with ⟨h1,h2⟩ | h1
      · exact .inl ⟨by simpa using h1,by simpa using h2⟩
      · exact .inr (by simpa using h1)
theorem argRel {xs vs} (h:ArgsR w xs vs) (ρ:Rho):Rel cx w (oldF w) ρ (fun _=>[]) [] (argSt xs []) (argTm vs):=by
  have hbox:∀ l k,(argSt xs []).box l k=none:=fun l k=>by simp [St.box,argSt]
  refine ⟨fun s=>?_,fun l k cs hb=>(by rw [hbox] at hb;cases hb),fun _ _ _=>rfl,fun _=>List.nodup_nil,fun _ _ _ _ hb=>absurd hb (by simp),fun _ _ hb=>absurd hb (by simp),fun _ _ hb=>absurd hb (by simp),fun _ hb=>hb,List.nodup_nil,fun _ _ hb=>absurd hb (by simp),fun _ hb=>absurd hb (by simp),fun _ hb=>absurd hb (by simp)⟩
  have:tget (argSt xs []).T s=xs.getD s .un:=by
    have:=tget_argsT (xs:=xs) s 0
    simpa [argSt] using this
  rw [this]
  rcases h.get s with ⟨h1,-⟩ | h1
  · rw [h1];exact rcomp_un
  · exact h1.slot
theorem law_calls {tb:Tbl} (htb:TblOK cx tb) (hm:cx.P.follows .mixedOrders=true) {f:Lab} {xs:List IV} {vs:List Value} (h:ArgsR w xs vs) {n:Nat} (hc:callN tb n f [] xs []=some ⟨.sc (.bool true),[],[],[]⟩) :
    Calls cx.P (cx.fid f) vs.toArray w (fun e w'=>e=.returned (.bool true)∧RowKit.Below w.heap.size w w'):=by
  refine ((callN_sound htb hm n f [] xs [] _ hc).2 w (oldF w) (fun _ _=>0) (fun _=>[]) vs h.len.symm (argRel h _)).mono ?_
  rintro e w' ⟨v',F',ρ',fp',Xb,rfl,hR,hE,-⟩
  have hs:=hR.slots 0
  have hv:v'=.bool true:=(rslot_sc hs).1
  subst hv
  refine ⟨rfl,⟨hE.env.1,hE.env.2.1,hE.env.2.2,hE.size,fun k hk=>hE.keep k hk (by simp) (by simp)⟩⟩
end
theorem arg_ints {w:World} {k:IntKind} {a:Option Addr} {len cap:Nat} {zs:List Int} (h:(a=none∧len=0∧cap=0∧zs=[]) ∨
    ∃ x,a=some x∧len≤cap∧zs.length=cap∧(∀ i,i < zs.length→w.cell? (x.add i)=some (.int k (zs.getD i 0)))) :
    ArgR w (.lst 1 ((zs.take len).map fun n=>[.sc (.int k n)]) false) (.slice a len cap):=by
  rcases h with ⟨rfl,rfl,rfl,rfl⟩ | ⟨x,rfl,h1,h2,h3⟩
  · exact .one (.lst0 (by simp) .nil)
  · rcases Nat.eq_zero_or_pos len with h0 | h0
    · subst h0
      simp only [List.take_zero,List.map_nil]
      exact .one (.lst0 (by simp) .nil)
    · have hx:=h3 0 (by omega)
      rw [show x.add 0=x from rfl] at hx
      obtain ⟨b,o,sp⟩:=x
      unfold World.cell? at hx
      split at hx
      rotate_left
      · cases hx
      rename_i C ty fr hb
      simp only at hb
      cases sp with
      | some _=>simp at hx
      | none =>
      have hcell:∀ i,i < zs.length→C[o+i]? = some (.int k (zs.getD i 0)):=fun i hi=>by
        have:=h3 i hi
        rw [addr_add,cell_of hb] at this
        exact this
      have hlen:((zs.take len).map fun n=>[IV.sc (.int k n)]).length=len:=by simp;omega
      have hd:∀ (l:List Int) (m:Nat),(∀ i,i < l.length→C[m+i]? = some (.int k (l.getD i 0)))→RDs w (oldF w) (l.map fun n=>[IV.sc (.int k n)]).flatten ((C.toList.drop m).take l.length) []:=by
        intro l
        induction l with
        | nil=>intro m _;simp;exact .nil
        | cons n l ih =>
          intro m hl
          have h0:=hl 0 (by simp)
          have hm:C.toList.drop m=.int k n::C.toList.drop (m+1):=by
            rw [List.drop_eq_getElem?_toList_append]
            have:C.toList[m]? = some (.int k n):=by simpa using h0
            rw [this];rfl
          rw [hm,List.length_cons,List.take_succ_cons,List.map_cons,List.flatten_cons]
          refine .sc rfl (ih (m+1) fun i hi=>?_)
          have:=hl (i+1) (by simp;omega)
          simpa [Nat.add_assoc,Nat.add_comm 1 i] using this
      have hb':b < w.heap.size:=by
        rcases Nat.lt_or_ge b w.heap.size with h | h
        · exact h
        · rw [Array.getElem?_eq_none h] at hb;cases hb
      have hdd:=hd (zs.take len) o (fun i hi=>by
        rw [List.length_take] at hi
        rw [hcell i (by omega)]
        simp [List.getD_eq_getElem?_getD,List.getElem?_take_of_lt (show i < len by omega)])
      have hll:(zs.take len).length=len:=by rw [List.length_take];omega
      rw [hll] at hdd
      have:=RDs.lst (w:=w) (F:=oldF w) (e:=1) (es:=(zs.take len).map fun n=>[IV.sc (.int k n)]) (clip:=false) (b:=b) (o:=o) (cap:=cap) (xs:=[]) (vs:=[]) (fp:=[]) hb' hb
        (by rw [hlen,Nat.mul_one];exact hdd) (fun x hx=>by simp only [List.mem_map] at hx;obtain ⟨n,_,rfl⟩:=hx;rfl) (by simp) (by rw [hlen];exact h1) .nil
      rw [hlen] at this
      exact .one this
theorem tbl_ok {cx:Cx}:∀ {L:List (Nat×IFun)},(∀ p ∈ L,∃ rf,cx.P.funcs[cx.fid p.1]? = some rf∧bFun cx rf p.2=true)→TblOK cx (tbOf L)
  | [],_,f,fn,h=>by cases h
  | (k,g)::r,hL,f,fn,h=>by
    simp only [tbOf] at h
    split at h
    · rename_i hk
      subst hk
      simp only [Option.some.injEq] at h
      subst h
      exact hL (k,g) (by simp)
    · exact tbl_ok (fun p hp=>hL p (by simp [hp])) f fn h
end Go.Idl
namespace Go.Idl
open Go
def Ev (tb:Tbl) (f:Lab) (lent:List Nat) (args:List IV) (M:List Boxes) (r:Ret):Prop:=∃ N,∀ n,N≤n→callN tb n f lent args M=some r
open Classical in
noncomputable def limF (tb:Tbl):CF:=fun f lent args M=>if h:∃ r,Ev tb f lent args M r then some (Classical.choose h) else none
def WO (tb:Tbl) (ops:List IOp) (st:St) (Q:St→Prop):Prop:=∃ st',execOps (limF tb) st ops=some st'∧Q st'
def loopN (step:St→(Ex→St→Prop)→Prop) (Q:Ex→St→Prop):Nat→St→Prop
  | 0,_=>False
  | k+1,st=>step st fun ex st'=>match ex with
    | .normal=>loopN step Q k st'
    | e=>Q e st'
def nilW (x:Opd) (t:Nat) (live:List Nat) (st:St) (f:St→(Ex→St→Prop)→Prop) (Q:Ex→St→Prop):Prop:=match emptyL (rd st.T x) with
  | some false=>f (st.flag t false live) Q
  | some true=>∃ ex st',f (st.flag t true live) (fun e s=>e=ex∧s=st')∧f (st.flag t false live) (fun e s=>e=ex∧s=st')∧Q ex st'
  | none=>False
def wp (tb:Tbl):IC→St→(Ex→St→Prop)→Prop
  | .skip,st,Q=>Q .normal st
  | .reg ops live alts,st,Q=>WO tb ops st fun st1=>(∀ p ∈ alts,WO tb (inOrder ops p) st fun st2=>st2.cut live=st1.cut live)∧Q .normal (st1.cut live)
  | .regd ops ord live alts,st,Q=>NHops st ops=true∧okRun (limF tb) st (inOrder ops ord)∧WO tb (inOrder ops ord) st fun st1=>(∀ p ∈ alts,okRun (limF tb) st (inOrder ops p)∧WO tb (inOrder ops p) st fun st2=>st2.cut live=st1.cut live)∧Q .normal (st1.cut live)
  | .seq a b,st,Q=>wp tb a st fun ex st'=>match ex with
    | .normal=>wp tb b st' Q
    | e=>Q e st'
  | .nilc ops x t live y,st,Q=>WO tb ops st fun st1=>nilW x t live st1 (wp tb y) Q
  | .nilc2 ops x t live y1 y2,st,Q=>WO tb ops st fun st1=>nilW x t live st1 (fun st Q=>wp tb y1 st fun ex st'=>match ex with
    | .normal=>wp tb y2 st' Q
    | e=>Q e st') Q
  | .cond c a b,st,Q=>match rd st.T c with
    | .sc (.bool t)=>if t=true then wp tb a st Q else wp tb b st Q
    | _=>False
  | .block id b,st,Q=>wp tb b st fun ex st'=>match ex with
    | .exit i=>if i=id then Q .normal st' else Q (.exit i) st'
    | e=>Q e st'
  | .loop b,st,Q=>∃ k,loopN (wp tb b) Q k st
  | .exit id,st,Q=>Q (.exit id) st
  | .ret,st,Q=>Q .ret st
section
variable {tb:Tbl}
theorem Ev.det {f lent args M r r'} (h:Ev tb f lent args M r) (h':Ev tb f lent args M r'):r=r':=by
  obtain ⟨N,hN⟩:=h
  obtain ⟨N',hN'⟩:=h'
  have h1:=hN (max N N') (by omega)
  have h2:=hN' (max N N') (by omega)
  rw [h1] at h2
  exact Option.some.inj h2
theorem lim_ev {f lent args M r} (h:limF tb f lent args M=some r):Ev tb f lent args M r:=by
  unfold limF at h
  split at h
  · rename_i hex
    simp only [Option.some.injEq] at h
    rw [← h];exact Classical.choose_spec hex
  · cases h
theorem ev_lim {f lent args M r} (h:Ev tb f lent args M r):limF tb f lent args M=some r:=by
  have hex:∃ r,Ev tb f lent args M r:=⟨r,h⟩
  unfold limF
  rw [dif_pos hex]
  congr 1
  exact (Classical.choose_spec hex).det h
theorem callWithH_lim {st:St} {f:Lab} {args:List (Mode×Opd)} {v:IV} {st':St} (h:st.callWithH (limF tb) f args=some (v,st')) :
    ∃ N,∀ n,N≤n→st.callWithH (callN tb n) f args=some (v,st'):=by
  unfold St.callWithH at h ⊢
  split at h
  rotate_left
  · cases h
  rename_i vs st1 fz ss hargs
  split at h
  · cases h
  rename_i hc
  split at h
  rotate_left
  · cases h
  rename_i hlv
  cases hl:limF tb f (lents args 0) vs (st1.M++[[]]) with
  | none=>simp [hl] at h
  | some r =>
  obtain ⟨N,hN⟩:=lim_ev hl
  rw [hl] at h
  refine ⟨N,fun n hn=>?_⟩
  simp only [hc,hlv,if_true,if_false,Bool.false_eq_true,hN n hn]
  exact h
theorem callWith_lim {st:St} {f:Lab} {caps:List IV} {args:List (Mode×Opd)} {p:Bool} {v:IV} {st':St} (h:st.callWith (limF tb) f caps args p=some (v,st')) :
    ∃ N,∀ n,N≤n→st.callWith (callN tb n) f caps args p=some (v,st'):=by
  unfold St.callWith at h ⊢
  split at h
  rotate_left
  · cases h
  rename_i vs st1 fz ss hargs
  cases p with
  | true =>
    simp only [if_true] at h ⊢
    split at h
    · cases h
    rename_i hc
    cases hl:limF tb f [] vs [] with
    | none=>simp [hl] at h
    | some r =>
    obtain ⟨N,hN⟩:=lim_ev hl
    rw [hl] at h
    refine ⟨N,fun n hn=>?_⟩
    simp only [hc,if_false,Bool.false_eq_true,hN n hn]
    exact h
  | false =>
    simp only [Bool.false_eq_true,if_false] at h ⊢
    split at h
    · cases h
    rename_i hc
    cases hl:limF tb f (lents args 0) (vs++caps) (st1.M++[st1.loc]) with
    | none=>simp [hl] at h
    | some r =>
    obtain ⟨N,hN⟩:=lim_ev hl
    rw [hl] at h
    refine ⟨N,fun n hn=>?_⟩
    simp only [hc,if_false,Bool.false_eq_true,hN n hn]
    exact h
theorem ev_limN {st:St} {k:K} {v:IV} {st':St} (h:ev (limF tb) st k=some (v,st')):∃ N,∀ n,N≤n→ev (callN tb n) st k=some (v,st'):=by
  cases k with
  | call f args p=>exact callWith_lim h
  | callq f args=>exact callWith_lim h
  | callh f args=>exact callWithH_lim h
  | callv x args =>
    simp only [ev] at h ⊢
    split at h
    · exact callWith_lim h
    · cases h
  | _=>exact ⟨0,fun n _=>h⟩
theorem op_lim {st:St} {o:IOp} {st':St} (h:execOp1 (limF tb) st o=some st'):∃ N,∀ n,N≤n→execOp1 (callN tb n) st o=some st':=by
  unfold execOp1 at h ⊢
  have run:∀ {st'':St},(match ev (limF tb) st o.k with
      | some (v,st')=>match o.dst with
        | some d=>some { st' with T:=tput st'.T d v }
        | none=>some st'
      | none=>none)=some st''→∃ N,∀ n,N≤n→(match ev (callN tb n) st o.k with
      | some (v,st')=>match o.dst with
        | some d=>some { st' with T:=tput st'.T d v }
        | none=>some st'
      | none=>none)=some st'':=by
    intro st'' h
    cases hl:ev (limF tb) st o.k with
    | none=>simp [hl] at h
    | some p =>
      obtain ⟨v,s⟩:=p
      obtain ⟨N,hN⟩:=ev_limN hl
      rw [hl] at h
      exact ⟨N,fun n hn=>by rw [hN n hn];exact h⟩
  split at h
  · exact run h
  · split at h
    · split at h
      · rename_i hc
        obtain ⟨N,hN⟩:=run h
        refine ⟨N,fun n hn=>?_⟩
        simp only [hc,if_true]
        exact hN n hn
      · rename_i hc
        exact ⟨0,fun n _=>by simp only [hc,if_false];exact h⟩
    · exact ⟨0,fun n _=>h⟩
    · cases h
theorem ops_lim:∀ {ops:List IOp} {st st':St},execOps (limF tb) st ops=some st'→∃ N,∀ n,N≤n→execOps (callN tb n) st ops=some st'
  | [],st,st',h=>⟨0,fun _ _=>h⟩
  | o :: r,st,st',h=>by
    simp only [execOps] at h ⊢
    split at h
    · rename_i st1 h1
      obtain ⟨N,hN⟩:=op_lim h1
      obtain ⟨N',hN'⟩:=ops_lim h
      exact ⟨max N N',fun n hn=>by simp only [hN n (by omega),hN' n (by omega)]⟩
    · cases h
theorem okRun_lim:∀ {ops:List IOp} {st st':St},execOps (limF tb) st ops=some st'→okRun (limF tb) st ops→∃ N,∀ n,N≤n→okRun (callN tb n) st ops
  | [],_,_,_,_=>⟨0,fun _ _=>trivial⟩
  | o::r,st,st',h,hk=>by
    simp only [execOps] at h
    split at h
    rotate_left
    · cases h
    rename_i st1 h1
    obtain ⟨k1,k2⟩:=hk st1 h1
    obtain ⟨N,hN⟩:=op_lim h1
    obtain ⟨N',hN'⟩:=okRun_lim h k2
    refine ⟨max N N',fun n hn st2 h2=>?_⟩
    rw [hN n (by omega)] at h2
    cases h2
    exact ⟨k1,hN' n (by omega)⟩
theorem WO_sound {ops:List IOp} {st:St} {Q:St→Prop} (h:WO tb ops st Q):∃ st',Q st'∧(∃ N,∀ n,N≤n→execOps (callN tb n) st ops=some st')∧∀ Q':St→Prop,Q' st'→WO tb ops st Q':=by
  obtain ⟨st',h1,h2⟩:=h
  exact ⟨st',h2,ops_lim h1,fun Q' hQ'=>⟨st',h1,hQ'⟩⟩
def Runs (tb:Tbl) (c:IC) (st:St) (ex:Ex) (st':St):Prop:=∃ N,∀ n,N≤n→∀ m,N≤m→exec (callN tb n) m c st=some (ex,st')
theorem wp_sound:∀ {c:IC} {st:St} {Q:Ex→St→Prop},wp tb c st Q→∃ ex st',Q ex st'∧Runs tb c st ex st'∧∀ Q':Ex→St→Prop,Q' ex st'→wp tb c st Q'
  | .skip,st,Q,h=>⟨.normal,st,h,⟨0,fun _ _ _ _=>rfl⟩,fun _ h=>h⟩
  | .exit id,st,Q,h=>⟨.exit id,st,h,⟨0,fun _ _ _ _=>rfl⟩,fun _ h=>h⟩
  | .ret,st,Q,h=>⟨.ret,st,h,⟨0,fun _ _ _ _=>rfl⟩,fun _ h=>h⟩
  | .reg ops live alts,st,Q,h=>by
    simp only [wp] at h
    obtain ⟨st1,⟨h1,h2⟩,⟨N,hN⟩,h3⟩:=WO_sound h
    have halt:∃ N,∀ n,N≤n→∀ p ∈ alts,∃ st2,execOps (callN tb n) st (inOrder ops p)=some st2∧st2.cut live=st1.cut live:=by
      clear h h3
      induction alts with
      | nil=>exact ⟨0,fun _ _ p hp=>by cases hp⟩
      | cons p ps ih =>
        obtain ⟨N1,hN1⟩:=ih (fun q hq=>h1 q (by simp [hq]))
        obtain ⟨st2,q1,⟨N2,hN2⟩,-⟩:=WO_sound (h1 p (by simp))
        refine ⟨max N1 N2,fun n hn q hq=>?_⟩
        rcases List.mem_cons.1 hq with rfl | hq
        · exact ⟨st2,hN2 n (by omega),q1⟩
        · exact hN1 n (by omega) q hq
    obtain ⟨N',hN'⟩:=halt
    refine ⟨.normal,st1.cut live,h2,⟨max N N',fun n hn m hm=>?_⟩,fun Q' hQ'=>?_⟩
    · simp only [exec,execReg,hN n (by omega)]
      rw [if_pos (hN' n (by omega))]
    · simp only [wp];exact h3 _ ⟨h1,hQ'⟩
  | .regd ops ord live alts,st,Q,h=>by
    simp only [wp] at h
    obtain ⟨hn,hok,st1,h0,h1,h2⟩:=h
    obtain ⟨N,hN⟩:=ops_lim h0
    obtain ⟨N',hN'⟩:=okRun_lim h0 hok
    have halt:∃ N,∀ n,N≤n→∀ p ∈ alts,okRun (callN tb n) st (inOrder ops p)∧∃ st2,execOps (callN tb n) st (inOrder ops p)=some st2∧st2.cut live=st1.cut live:=by
      clear h2
      induction alts with
      | nil=>exact ⟨0,fun _ _ p hp=>by cases hp⟩
      | cons p ps ih =>
        obtain ⟨N1,hN1⟩:=ih (fun q hq=>h1 q (by simp [hq]))
        obtain ⟨g1,st2,g2,g3⟩:=h1 p (by simp)
        obtain ⟨N2,hN2⟩:=ops_lim g2
        obtain ⟨N3,hN3⟩:=okRun_lim g2 g1
        refine ⟨max N1 (max N2 N3),fun n hn q hq=>?_⟩
        rcases List.mem_cons.1 hq with rfl | hq
        · exact ⟨hN3 n (by omega),st2,hN2 n (by omega),g3⟩
        · exact hN1 n (by omega) q hq
    obtain ⟨N2,hN2⟩:=halt
    refine ⟨.normal,st1.cut live,h2,⟨max N (max N' N2),fun n hn' m hm=>?_⟩,fun Q' hQ'=>?_⟩
    · simp only [exec,execRegd,hN n (by omega)]
      rw [if_pos ⟨hn,hN' n (by omega),hN2 n (by omega)⟩]
    · simp only [wp];exact ⟨hn,hok,st1,h0,h1,hQ'⟩
  | .seq a b,st,Q,h=>by
    simp only [wp] at h
    obtain ⟨ex,st1,h1,⟨N,hN⟩,h2⟩:=wp_sound h
    cases ex with
    | normal =>
      obtain ⟨ex2,st2,q1,⟨N2,hN2⟩,q2⟩:=wp_sound h1
      refine ⟨ex2,st2,q1,⟨max N N2,fun n hn m hm=>?_⟩,fun Q' hQ'=>?_⟩
      · simp only [exec,hN n (by omega) m (by omega),hN2 n (by omega) m (by omega)]
      · simp only [wp];exact h2 _ (q2 _ hQ')
    | exit id =>
      refine ⟨.exit id,st1,h1,⟨N,fun n hn m hm=>?_⟩,fun Q' hQ'=>?_⟩
      · simp only [exec,hN n hn m hm]
      · simp only [wp];exact h2 _ hQ'
    | ret =>
      refine ⟨.ret,st1,h1,⟨N,fun n hn m hm=>?_⟩,fun Q' hQ'=>?_⟩
      · simp only [exec,hN n hn m hm]
      · simp only [wp];exact h2 _ hQ'
  | .cond c a b,st,Q,h=>by
    simp only [wp] at h
    split at h
    rotate_left
    · exact h.elim
    rename_i t ht
    cases t with
    | true =>
      simp only [if_true] at h
      obtain ⟨ex,st1,h1,⟨N,hN⟩,h2⟩:=wp_sound h
      refine ⟨ex,st1,h1,⟨N,fun n hn m hm=>?_⟩,fun Q' hQ'=>?_⟩
      · simp only [exec,ht,if_true,hN n hn m hm]
      · simp only [wp,ht,if_true];exact h2 _ hQ'
    | false =>
      simp only [Bool.false_eq_true,if_false] at h
      obtain ⟨ex,st1,h1,⟨N,hN⟩,h2⟩:=wp_sound h
      refine ⟨ex,st1,h1,⟨N,fun n hn m hm=>?_⟩,fun Q' hQ'=>?_⟩
      · simp only [exec,ht,Bool.false_eq_true,if_false,hN n hn m hm]
      · simp only [wp,ht,Bool.false_eq_true,if_false];exact h2 _ hQ'
  | .block id b,st,Q,h=>by
    simp only [wp] at h
    obtain ⟨ex,st1,h1,⟨N,hN⟩,h2⟩:=wp_sound h
    cases ex with
    | normal =>
      refine ⟨.normal,st1,h1,⟨N,fun n hn m hm=>?_⟩,fun Q' hQ'=>?_⟩
      · simp only [exec,hN n hn m hm]
      · simp only [wp];exact h2 _ hQ'
    | ret =>
      refine ⟨.ret,st1,h1,⟨N,fun n hn m hm=>?_⟩,fun Q' hQ'=>?_⟩
      · simp only [exec,hN n hn m hm]
      · simp only [wp];exact h2 _ hQ'
    | exit i =>
      simp only at h1
      by_cases hi:i=id
      · rw [if_pos hi] at h1
        refine ⟨.normal,st1,h1,⟨N,fun n hn m hm=>?_⟩,fun Q' hQ'=>?_⟩
        · simp only [exec,hN n hn m hm,hi,if_true]
        · simp only [wp];exact h2 _ (by simp only [hi,if_true];exact hQ')
      · rw [if_neg hi] at h1
        refine ⟨.exit i,st1,h1,⟨N,fun n hn m hm=>?_⟩,fun Q' hQ'=>?_⟩
        · simp only [exec,hN n hn m hm,hi,if_false]
        · simp only [wp];exact h2 _ (by simp only [hi,if_false];exact hQ')
  | .loop b,st,Q,h=>by
    simp only [wp] at h
    obtain ⟨k,h⟩:=h
    have key:∀ (k:Nat) (st:St),loopN (wp tb b) Q k st→∃ ex st',Q ex st'∧(∃ N,∀ n,N≤n→∀ m,N≤m→∀ j,N≤j→iter (exec (callN tb n) m b) j st=some (ex,st'))∧∀ Q':Ex→St→Prop,Q' ex st'→loopN (wp tb b) Q' k st:=by
      intro k
      induction k with
      | zero=>intro st h;exact h.elim
      | succ k ih =>
        intro st h
        simp only [loopN] at h
        obtain ⟨ex,st1,h1,⟨N,hN⟩,h2⟩:=wp_sound h
        cases ex with
        | normal =>
          obtain ⟨ex2,st2,q1,⟨N2,hN2⟩,q2⟩:=ih st1 h1
          refine ⟨ex2,st2,q1,⟨max N N2+1,fun n hn m hm j hj=>?_⟩,fun Q' hQ'=>?_⟩
          · obtain ⟨j',rfl⟩:∃ j',j=j'+1:=⟨j - 1,by omega⟩
            simp only [iter,hN n (by omega) m (by omega),hN2 n (by omega) m (by omega) j' (by omega)]
          · simp only [loopN];exact h2 _ (q2 _ hQ')
        | exit i =>
          refine ⟨.exit i,st1,h1,⟨N+1,fun n hn m hm j hj=>?_⟩,fun Q' hQ'=>?_⟩
          · obtain ⟨j',rfl⟩:∃ j',j=j'+1:=⟨j - 1,by omega⟩
            simp only [iter,hN n (by omega) m (by omega)]
          · simp only [loopN];exact h2 _ hQ'
        | ret =>
          refine ⟨.ret,st1,h1,⟨N+1,fun n hn m hm j hj=>?_⟩,fun Q' hQ'=>?_⟩
          · obtain ⟨j',rfl⟩:∃ j',j=j'+1:=⟨j - 1,by omega⟩
            simp only [iter,hN n (by omega) m (by omega)]
          · simp only [loopN];exact h2 _ hQ'
    obtain ⟨ex,st',q1,⟨N,hN⟩,q2⟩:=key k st h
    exact ⟨ex,st',q1,⟨N,fun n hn m hm=>by simp only [exec];exact hN n hn m hm m hm⟩,fun Q' hQ'=>by simp only [wp];exact ⟨k,q2 Q' hQ'⟩⟩
  | .nilc ops x t live y,st,Q,h=>by
    simp only [wp] at h
    obtain ⟨st1,h1,⟨N,hN⟩,h3⟩:=WO_sound h
    unfold nilW at h1
    split at h1
    · rename_i he
      obtain ⟨ex,st2,q1,⟨N2,hN2⟩,q2⟩:=wp_sound h1
      refine ⟨ex,st2,q1,⟨max N N2,fun n hn m hm=>?_⟩,fun Q' hQ'=>?_⟩
      · simp only [exec,nilStep,hN n (by omega),he,hN2 n (by omega) m (by omega)]
      · simp only [wp];exact h3 _ (by unfold nilW;rw [he];exact q2 _ hQ')
    · rename_i he
      obtain ⟨ex,st',h1,h2,hQ⟩:=h1
      obtain ⟨_,_,⟨rfl,rfl⟩,⟨N1,hN1⟩,q1⟩:=wp_sound h1
      obtain ⟨_,_,⟨rfl,rfl⟩,⟨N2,hN2⟩,q2⟩:=wp_sound h2
      refine ⟨_,_,hQ,⟨max N (max N1 N2),fun n hn m hm=>?_⟩,fun Q' hQ'=>?_⟩
      · simp only [exec,nilStep,hN n (by omega),he,hN1 n (by omega) m (by omega),hN2 n (by omega) m (by omega),if_true]
      · simp only [wp];exact h3 _ (by unfold nilW;rw [he];exact ⟨_,_,h1,h2,hQ'⟩)
    · exact h1.elim
  | .nilc2 ops x t live y1 y2,st,Q,h=>by
    simp only [wp] at h
    obtain ⟨st1,h1,⟨N,hN⟩,h3⟩:=WO_sound h
    have two:∀ {st:St} {Q:Ex→St→Prop},(wp tb y1 st fun ex st'=>match ex with | .normal=>wp tb y2 st' Q | e=>Q e st')→∃ ex st',Q ex st'∧(∃ N,∀ n,N≤n→∀ m,N≤m→seqX (exec (callN tb n) m y1) (exec (callN tb n) m y2) st=some (ex,st'))∧∀ Q':Ex→St→Prop,Q' ex st'→(wp tb y1 st fun ex st'=>match ex with | .normal=>wp tb y2 st' Q' | e=>Q' e st'):=by
      intro st Q h
      obtain ⟨ex,st1,h1,⟨N,hN⟩,h2⟩:=wp_sound h
      cases ex with
      | normal =>
        obtain ⟨ex2,st2,q1,⟨N2,hN2⟩,q2⟩:=wp_sound h1
        exact ⟨ex2,st2,q1,⟨max N N2,fun n hn m hm=>by simp only [seqX,hN n (by omega) m (by omega),hN2 n (by omega) m (by omega)]⟩,fun Q' hQ'=>h2 _ (q2 _ hQ')⟩
      | exit id=>exact ⟨.exit id,st1,h1,⟨N,fun n hn m hm=>by simp only [seqX,hN n hn m hm]⟩,fun Q' hQ'=>h2 _ hQ'⟩
      | ret=>exact ⟨.ret,st1,h1,⟨N,fun n hn m hm=>by simp only [seqX,hN n hn m hm]⟩,fun Q' hQ'=>h2 _ hQ'⟩
    unfold nilW at h1
    split at h1
    · rename_i he
      obtain ⟨ex,st2,q1,⟨N2,hN2⟩,q2⟩:=two h1
      refine ⟨ex,st2,q1,⟨max N N2,fun n hn m hm=>?_⟩,fun Q' hQ'=>?_⟩
      · simp only [exec,nilStep,hN n (by omega),he];exact hN2 n (by omega) m (by omega)
      · simp only [wp];exact h3 _ (by unfold nilW;rw [he];exact q2 _ hQ')
    · rename_i he
      obtain ⟨ex,st',h1,h2,hQ⟩:=h1
      obtain ⟨_,_,⟨rfl,rfl⟩,⟨N1,hN1⟩,q1⟩:=two h1
      obtain ⟨_,_,⟨rfl,rfl⟩,⟨N2,hN2⟩,q2⟩:=two h2
      refine ⟨_,_,hQ,⟨max N (max N1 N2),fun n hn m hm=>?_⟩,fun Q' hQ'=>?_⟩
      · simp only [exec,nilStep,hN n (by omega),he]
        rw [hN1 n (by omega) m (by omega),hN2 n (by omega) m (by omega)]
        simp
      · simp only [wp];exact h3 _ (by unfold nilW;rw [he];exact ⟨_,_,h1,h2,hQ'⟩)
    · exact h1.elim
theorem wp_loop {b:IC} {st:St} {Q:Ex→St→Prop} (h:wp tb b st fun ex st'=>match ex with
    | .normal=>wp tb (.loop b) st' Q
    | e=>Q e st'):wp tb (.loop b) st Q:=by
  obtain ⟨ex,st',h1,-,h2⟩:=wp_sound h
  cases ex with
  | normal =>
    simp only [wp] at h1
    obtain ⟨k,hk⟩:=h1
    exact ⟨k+1,h2 _ hk⟩
  | exit i=>exact ⟨1,h2 _ h1⟩
  | ret=>exact ⟨1,h2 _ h1⟩
def finish (f:IFun) (lent:List Nat) (st:St):Option Ret:=match st.retvs f.res with
  | some (vs,st)=>match st.backs lent with
    | some (back,st)=>st.leave (packRes vs) back
    | none=>none
  | none=>none
theorem call_of_wp {f:Lab} {fn:IFun} (hf:tb f=some fn) {lent:List Nat} {args:List IV} {M:List Boxes} {r:Ret} (hl:lent.all fn.keep.contains=true)
    (h:wp tb fn.body { T:=args.zipIdx.map fun (v,i)=>(i,v),loc:=[],M:=M } fun ex st=>(ex=.normal ∨ ex=.ret)∧finish fn lent st=some r):Ev tb f lent args M r:=by
  obtain ⟨ex,st',⟨h1,h2⟩,⟨N,hN⟩,-⟩:=wp_sound h
  refine ⟨N+1,fun n hn=>?_⟩
  obtain ⟨n',rfl⟩:∃ n',n=n'+1:=⟨n - 1,by omega⟩
  simp only [callN,hf,runFun,hl,Bool.not_true,Bool.false_eq_true,if_false,hN n' (by omega) n' (by omega)]
  unfold finish at h2
  rcases h1 with rfl | rfl <;> exact h2
end
end Go.Idl
namespace Go.Idl
open Go
abbrev I (n:Int):IV:=.sc (.int .i64 n)
abbrev Bo (b:Bool):IV:=.sc (.bool b)
def ints (xs:List Int):List (List IV):=xs.map fun n=>[I n]
section
variable {tb:Tbl} {st:St} {Q Q':Ex→St→Prop}
theorem wpi_skip:wp tb .skip st Q=Q .normal st:=rfl
theorem wp_reg {ops live st1 st2} (h:execOps (limF tb) st ops=some st1) (hc:st1.cut live=st2) (hq:Q .normal st2):wp tb (.reg ops live []) st Q:=by
  subst hc
  exact ⟨st1,h,by simp,hq⟩
theorem wp_rs {ops live b st1 st2} (h:execOps (limF tb) st ops=some st1) (hc:st1.cut live=st2) (hb:wp tb b st2 Q):wp tb (.seq (.reg ops live []) b) st Q :=
  by simp only [wp];exact wp_reg (Q:=fun ex st'=>match ex with | .normal=>wp tb b st' Q | e=>Q e st') h hc hb
theorem wp_ra {ops live alts b st1 st2} (h:execOps (limF tb) st ops=some st1) (hc:st1.cut live=st2) (ha:∀ p ∈ alts,∃ st3,execOps (limF tb) st (inOrder ops p)=some st3∧st3.cut live=st2) (hb:wp tb b st2 Q):wp tb (.seq (.reg ops live alts) b) st Q:=by
  subst hc
  simp only [wp]
  exact ⟨st1,h,ha,hb⟩
theorem wp_rega {ops live alts st1 st2} (h:execOps (limF tb) st ops=some st1) (hc:st1.cut live=st2) (ha:∀ p ∈ alts,∃ st3,execOps (limF tb) st (inOrder ops p)=some st3∧st3.cut live=st2) (hq:Q .normal st2):wp tb (.reg ops live alts) st Q:=by
  subst hc
  exact ⟨st1,h,ha,hq⟩
theorem wp_as {a b c} (h:wp tb (.seq a (.seq b c)) st Q):wp tb (.seq (.seq a b) c) st Q:=by
  simp only [wp] at h ⊢
  obtain ⟨ex,st1,h1,-,h2⟩:=wp_sound h
  refine h2 _ ?_
  cases ex <;> exact h1
theorem wpi_seq {a b}:wp tb (.seq a b) st Q=wp tb a st fun ex st'=>match ex with
    | .normal=>wp tb b st' Q
    | e=>Q e st':=rfl
theorem wpi_cond {c a b}:wp tb (.cond c a b) st Q=match rd st.T c with
    | .sc (.bool t)=>if t=true then wp tb a st Q else wp tb b st Q
    | _=>False:=rfl
theorem wpi_block {id b}:wp tb (.block id b) st Q=wp tb b st fun ex st'=>match ex with
    | .exit i=>if i=id then Q .normal st' else Q (.exit i) st'
    | e=>Q e st':=rfl
theorem wpi_exit {id}:wp tb (.exit id) st Q=Q (.exit id) st:=rfl
theorem wpi_ret:wp tb .ret st Q=Q .ret st:=rfl
theorem wp_imp {c} (h:wp tb c st Q) (hq:∀ ex st',Q ex st'→Q' ex st'):wp tb c st Q':=by
  obtain ⟨ex,st',h1,-,h2⟩:=wp_sound h
  exact h2 _ (hq _ _ h1)
end
theorem wrap64 {n:Int} (h:-9223372036854775808≤n) (h':n < 9223372036854775808):IntKind.i64.wrap n=n:=by
  have e1:(2:Int) ^ IntKind.i64.bits=18446744073709551616:=by decide
  have e2:(2:Int) ^ (IntKind.i64.bits - 1)=9223372036854775808:=by decide
  have e3:IntKind.i64.signed=true:=rfl
  unfold IntKind.wrap
  rw [e1,e2,e3]
  simp only [Bool.true_and,decide_eq_true_eq,ge_iff_le]
  split <;> omega
theorem natOf_nat {k:IntKind} {n:Nat}:natOf (.sc (.int k (n:Int)))=some n:=by simp [natOf]
@[simp] theorem ints_get? (xs:List Int) (i:Nat):(ints xs)[i]? = xs[i]?.map fun n=>[IV.sc (.int .i64 n)]:=by simp [ints]
@[simp] theorem ints_get (xs:List Int) (i:Nat) (h:i < (ints xs).length):(ints xs)[i]=[IV.sc (.int .i64 (xs[i]'(by simpa [ints] using h)))]:=by simp [ints]
section
variable {tb:Tbl} {st:St} {Q Q':Ex→St→Prop}
theorem wp_ret' (h:Q .ret st):wp tb .ret st Q:=h
theorem wp_skip' (h:Q .normal st):wp tb .skip st Q:=h
theorem wp_exit' {id} (h:Q (.exit id) st):wp tb (.exit id) st Q:=h
theorem wp_ct {c a b d t} (hc:rd st.T c=.sc (.bool t)) (h1:t=true→wp tb (.seq a d) st Q) (h2:t=false→wp tb (.seq b d) st Q):wp tb (.seq (.cond c a b) d) st Q:=by
  simp only [wp,hc] at *
  cases t
  · simpa using h2 rfl
  · simpa using h1 rfl
theorem wp_c {c a b t} (hc:rd st.T c=.sc (.bool t)) (h1:t=true→wp tb a st Q) (h2:t=false→wp tb b st Q):wp tb (.cond c a b) st Q:=by
  simp only [wp,hc] at *
  cases t
  · simpa using h2 rfl
  · simpa using h1 rfl
theorem wp_ss {b} (h:wp tb b st Q):wp tb (.seq .skip b) st Q:=h
theorem wp_sr {b} (h:Q .ret st):wp tb (.seq .ret b) st Q:=h
theorem wp_sx {id b} (h:Q (.exit id) st):wp tb (.seq (.exit id) b) st Q:=h
theorem wp_bs {id b c} (h:wp tb b st fun ex st'=>match ex with
    | .normal=>wp tb c st' Q
    | .exit i=>if i=id then wp tb c st' Q else Q (.exit i) st'
    | .ret=>Q .ret st'):wp tb (.seq (.block id b) c) st Q:=by
  simp only [wp]
  refine wp_imp h fun ex st' hh=>?_
  cases ex with
  | normal=>exact hh
  | ret=>exact hh
  | exit i =>
    simp only at hh ⊢
    split
    · rename_i hi;rw [if_pos hi] at hh;exact hh
    · rename_i hi;rw [if_neg hi] at hh;exact hh
theorem wp_b {id b} (h:wp tb b st fun ex st'=>match ex with
    | .normal=>Q .normal st'
    | .exit i=>if i=id then Q .normal st' else Q (.exit i) st'
    | .ret=>Q .ret st'):wp tb (.block id b) st Q:=by
  simp only [wp]
  refine wp_imp h fun ex st' hh=>?_
  cases ex <;> exact hh
theorem wp_then {a b} {R:Ex→St→Prop} (h:wp tb a st R) (hr:∀ ex st',R ex st'→match ex with
    | .normal=>wp tb b st' Q
    | e=>Q e st'):wp tb (.seq a b) st Q:=by
  simp only [wp]
  exact wp_imp h hr
theorem wp_round {b} (h:wp tb b st fun ex st'=>match ex with
    | .normal=>wp tb (.loop b) st' Q
    | e=>Q e st'):wp tb (.loop b) st Q:=wp_loop h
theorem wp_nil2 {ops x t live y1 y2 st1 b ex st'} (h:execOps (limF tb) st ops=some st1) (he:emptyL (rd st1.T x)=some b) (hf:wp tb (.seq y1 y2) (st1.flag t false live) (fun e s=>e=ex∧s=st'))
    (ht:b=true→wp tb (.seq y1 y2) (st1.flag t true live) (fun e s=>e=ex∧s=st')) (hq:Q ex st'):wp tb (.nilc2 ops x t live y1 y2) st Q:=by
  simp only [wp] at *
  refine ⟨st1,h,?_⟩
  unfold nilW
  cases b with
  | false =>
    rw [he]
    obtain ⟨e,s,⟨rfl,rfl⟩,-,h2⟩:=wp_sound (c:=.seq y1 y2) (by simp only [wp];exact hf)
    have:=h2 Q hq
    simpa only [wp] using this
  | true=>rw [he];exact ⟨ex,st',ht rfl,hf,hq⟩
end
theorem frz_ints (xs:List Int):frzLL (ints xs)=ints xs:=by
  induction xs with
  | nil=>rfl
  | cons x xs ih=>simp only [ints,List.map_cons,frzLL,frzL,frzV] at *;rw [ih]
attribute [simp] execOps execOp1 ev rd tget viewOf binV tput IV.holds tk cv cv1 slen restrict kl kl1 klc rootOut IV.rooted killRt killBy dropSlot St.cut vcells eqCells pack sub natOf_nat bound slcV St.sview St.plc St.rcells IV.cells fol St.loadCells
  emptyL St.flag putI inOrder isSc IV.isSc IV.plain1 IV.plain IV.isOwn
@[simp] theorem ints_len (xs:List Int):(ints xs).length=xs.length:=by simp [ints]
@[simp] theorem ints_nil:ints []=[]:=rfl
@[simp] theorem ints_app (xs ys:List Int):ints xs++ints ys=ints (xs++ys):=by simp [ints]
@[simp] theorem ints_one (xs:List Int) (n:Int):ints xs++[[IV.sc (.int .i64 n)]]=ints (xs++[n]):=by simp [ints]
@[simp] theorem ints_set (xs:List Int) (i:Nat) (v:Int):(ints xs).set i [IV.sc (.int .i64 v)]=ints (xs.set i v):=by
  simp [ints,List.map_set]
@[simp] theorem ints_take (xs:List Int) (n:Nat):(ints xs).take n=ints (xs.take n):=by simp [ints,List.map_take]
@[simp] theorem ints_drop (xs:List Int) (n:Nat):(ints xs).drop n=ints (xs.drop n):=by simp [ints,List.map_drop]
@[simp] theorem ints_emp (xs:List Int):(ints xs).isEmpty=xs.isEmpty:=by cases xs <;> rfl
@[simp] theorem ints_all1 (xs:List Int):((ints xs).all fun x=>x.all IV.plain1)=true:=by
  induction xs with
  | nil=>rfl
  | cons x xs ih=>simp only [ints,List.map_cons,List.all_cons] at *;rw [ih];rfl
@[simp] theorem ints_all2 (xs:List Int):((ints xs).all fun x=>x.all IV.isData)=true:=by
  induction xs with
  | nil=>rfl
  | cons x xs ih=>simp only [ints,List.map_cons,List.all_cons] at *;rw [ih];rfl
@[simp] theorem ints_noLst (xs:List Int):noLstLL (ints xs)=true:=by
  induction xs with
  | nil=>rfl
  | cons x xs ih=>simp only [ints,List.map_cons,noLstLL,noLstL,noLstV] at *;rw [ih];rfl
@[simp] theorem natOf_succ {k:IntKind} {n:Nat}:natOf (.sc (.int k ((n:Int)+1)))=some (n+1):=natOf_nat (n:=n+1)
@[simp] theorem natOf_zero {k:IntKind}:natOf (.sc (.int k 0))=some 0:=rfl
@[simp] theorem natOf_one {k:IntKind}:natOf (.sc (.int k 1))=some 1:=rfl
theorem ite_ltN {α} {a b:Nat} {d:Decidable (a < b)} {x y:α} (h:a < b):@ite α (a < b) d x y=x:=if_pos h
theorem ite_leN {α} {a b:Nat} {d:Decidable (a≤b)} {x y:α} (h:a≤b):@ite α (a≤b) d x y=x:=if_pos h
theorem natOf_int {k:IntKind} {n:Int} (h:0≤n):natOf (.sc (.int k n))=some n.toNat:=by simp [natOf,h]
theorem dec_lt {a b:Int} {d:Decidable (a < b)} (h:a < b):@decide (a < b) d=true:=decide_eq_true h
theorem dec_nlt {a b:Int} {d:Decidable (a < b)} (h:b≤a):@decide (a < b) d=false:=decide_eq_false (by omega)
theorem dec_le {a b:Int} {d:Decidable (a≤b)} (h:a≤b):@decide (a≤b) d=true:=decide_eq_true h
theorem dec_nle {a b:Int} {d:Decidable (a≤b)} (h:b < a):@decide (a≤b) d=false:=decide_eq_false (by omega)
@[simp] theorem limF_ev {tb:Tbl} {f lent args M r} (h:Ev tb f lent args M r):limF tb f lent args M=some r:=ev_lim h
theorem wrapN {n:Nat} (h:n < 9223372036854775808):IntKind.i64.wrap (n:Int)=(n:Int):=wrap64 (by omega) (by omega)
theorem wrapS {n:Nat} (h:n+1 < 9223372036854775808):IntKind.i64.wrap ((n:Int)+1)=((n+1:Nat):Int):=by
  rw [wrap64 (by omega) (by omega)];rfl
attribute [simp] St.fillElems elemsOf St.news St.append IV.wcells lim fillCells IV.okPart tkKill St.storeCells St.callWith St.callWithH IV.rootL St.args St.args1 St.arg1 ldSlot St.args2 St.arg2 St.seen St.seens St.lentBack IV.free IV.free1 lents isLd noLstV noLstL noLstLL frzV frzL frzLL frz_ints pureRun scInt bytesOf IV.isBptr elemsOf
@[simp] theorem getLast_ca {α} (a x:α) (m:List α):(a::(m++[x])).getLast? = some x:=by
  rw [← List.cons_append,List.getLast?_append];rfl
@[simp] theorem dropLast_ca {α} (a x:α) (m:List α):(a::(m++[x])).dropLast=a::m:=by
  rw [← List.cons_append,List.dropLast_concat]
@[simp] theorem unary_not (b:Bool):Op.unary .not (.bool b)=.pure (.bool !b):=rfl
attribute [simp] killBoxes IV.rootB
attribute [simp] finish St.retvs St.retv packRes St.backs St.leave St.absorb St.absorbs St.absorbsK killOf IV.lvl okRet IV.okLvl IV.isData St.setPlc setCellOf fset splice St.box St.setBox
def dstOwns (st:St):Option Nat→Bool
  | some d=>(tget st.T d).holds
  | none=>false
def execOpsQ (cf:CF):St→List IOp→Option St
  | st,[]=>some st
  | st,o::r=>match execOp1 cf st o with
    | some st1=>if (quietN o.k && dstOwns st1 o.dst)=true then none else execOpsQ cf st1 r
    | none=>none
theorem execQ_ok {cf:CF}:∀ {ops:List IOp} {st s:St},execOpsQ cf st ops=some s→execOps cf st ops=some s∧okRun cf st ops
  | [],st,s,h=>⟨h,trivial⟩
  | o::r,st,s,h=>by
    simp only [execOpsQ] at h
    simp only [execOps]
    split at h
    rotate_left
    · cases h
    rename_i st1 h1
    simp only [h1]
    split at h
    · cases h
    rename_i hq
    obtain ⟨q1,q2⟩:=execQ_ok h
    refine ⟨q1,fun st2 h2=>?_⟩
    rw [h1] at h2
    cases h2
    refine ⟨fun hk d hd=>?_,q2⟩
    simp only [hk,hd,Bool.true_and,Bool.not_eq_true,dstOwns] at hq
    exact hq
section
variable {tb:Tbl} {st:St} {Q:Ex→St→Prop}
theorem wp_rd {ops ord live alts st1 st2} (hn:NHops st ops=true) (h:execOpsQ (limF tb) st (inOrder ops ord)=some st1) (hc:st1.cut live=st2) (ha:∀ p ∈ alts,∃ st3,execOpsQ (limF tb) st (inOrder ops p)=some st3∧st3.cut live=st2) (hq:Q .normal st2):wp tb (.regd ops ord live alts) st Q:=by
  subst hc
  obtain ⟨h1,h2⟩:=execQ_ok h
  refine ⟨hn,h2,st1,h1,fun p hp=>?_,hq⟩
  obtain ⟨st3,g1,g2⟩:=ha p hp
  obtain ⟨g3,g4⟩:=execQ_ok g1
  exact ⟨g4,st3,g3,g2⟩
theorem wp_rds {ops ord live alts b st1 st2} (hn:NHops st ops=true) (h:execOpsQ (limF tb) st (inOrder ops ord)=some st1) (hc:st1.cut live=st2) (ha:∀ p ∈ alts,∃ st3,execOpsQ (limF tb) st (inOrder ops p)=some st3∧st3.cut live=st2) (hb:wp tb b st2 Q):wp tb (.seq (.regd ops ord live alts) b) st Q:=by
  simp only [wpi_seq]
  exact wp_rd (Q:=fun ex st'=>match ex with | .normal=>wp tb b st' Q | e=>Q e st') hn h hc ha hb
theorem wp_rd0 {ops ord live st1 st2} (hn:NHops st ops=true) (h:execOpsQ (limF tb) st (inOrder ops ord)=some st1) (hc:st1.cut live=st2) (hq:Q .normal st2):wp tb (.regd ops ord live []) st Q:=wp_rd hn h hc (fun _ h=>nomatch h) hq
theorem wp_rds0 {ops ord live b st1 st2} (hn:NHops st ops=true) (h:execOpsQ (limF tb) st (inOrder ops ord)=some st1) (hc:st1.cut live=st2) (hb:wp tb b st2 Q):wp tb (.seq (.regd ops ord live []) b) st Q:=wp_rds hn h hc (fun _ h=>nomatch h) hb
end
attribute [simp] execOpsQ quietK quietN plainK dstOwns
section
variable {tb:Tbl} {st:St} {Q:Ex→St→Prop}
theorem wr {ops live b st1 st2} (h:execOps (limF tb) st ops=some st1) (hb:wp tb b st2 Q) (hc:st1.cut live=st2:=by simp;with_reducible rfl):wp tb (.seq (.reg ops live []) b) st Q:=wp_rs h hc hb
theorem wq {ops live st1 st2} (h:execOps (limF tb) st ops=some st1) (hq:Q .normal st2) (hc:st1.cut live=st2:=by simp;with_reducible rfl):wp tb (.reg ops live []) st Q:=wp_reg h hc hq
theorem wt {c a b d} (hc:rd st.T c=.sc (.bool true)) (h:wp tb (.seq a d) st Q):wp tb (.seq (.cond c a b) d) st Q:=wp_ct (t:=true) hc (fun _=>h) (fun h=>nomatch h)
theorem wf {c a b d} (hc:rd st.T c=.sc (.bool false)) (h:wp tb (.seq b d) st Q):wp tb (.seq (.cond c a b) d) st Q:=wp_ct (t:=false) hc (fun h=>nomatch h) (fun _=>h)
theorem xt {c a b} (hc:rd st.T c=.sc (.bool true)) (h:wp tb a st Q):wp tb (.cond c a b) st Q:=wp_c (t:=true) hc (fun _=>h) (fun h=>nomatch h)
theorem xf {c a b} (hc:rd st.T c=.sc (.bool false)) (h:wp tb b st Q):wp tb (.cond c a b) st Q:=wp_c (t:=false) hc (fun h=>nomatch h) (fun _=>h)
end
end Go.Idl
