/- Part 8 of a proof by an ideal interpreter of the code: its definitions and lemmas. Conditions: none. -/
import Derived.KernelRfl
import Derived.Test.YtfheodjhbaaalaaA7
set_option linter.all false
set_option linter.unusedVariables false
set_option linter.unusedSimpArgs false
namespace Go.Idl
def pb (e:Int×Int):Nat:=8 * e.1.toNat+e.2.toNat
def Qhe (g:List (Int×Int)) (m:Nat):Nat:=g.foldl (fun m e=>Nat.lor m (2 ^ pb e)) m
def Qxz (g:List (Int×Int)) (c:Nat):Nat:=g.foldl (fun c e=>Nat.add c (8 ^ e.1.toNat+8 ^ e.2.toNat)) c
theorem Jsa:scE=(prs 5).map fun e=>(2 ^ pb e,8 ^ e.1.toNat+8 ^ e.2.toNat):=by decide +kernel
theorem Jlh:∀ {r g:List (Int×Int)},g.Sublist r→∀ {m c:Nat},scA (r.map fun e=>(2 ^ pb e,8 ^ e.1.toNat+8 ^ e.2.toNat)) m c=true→scP (Qhe g m) (Qxz g c)=true:=by
 intro r g h
 induction h with
 | slnil=>intro m c hq;exact hq
 | cons e h ih =>
   intro m c hq
   apply ih
   have h2:(Bool.rec false (scA (List.map (fun e=>(2 ^ pb e,8 ^ e.1.toNat+8 ^ e.2.toNat)) _) (Nat.lor m (2 ^ pb e)) (Nat.add c (8 ^ e.1.toNat+8 ^ e.2.toNat))) (scA (List.map (fun e=>(2 ^ pb e,8 ^ e.1.toNat+8 ^ e.2.toNat)) _) m c):Bool)=true:=hq
   cases hx:scA (List.map (fun e=>(2 ^ pb e,8 ^ e.1.toNat+8 ^ e.2.toNat)) _) m c with
   | true=>rfl
   | false=>rw [hx] at h2;cases h2
 | cons_cons e h ih =>
   intro m c hq
   have h2:(Bool.rec false (scA (List.map (fun e=>(2 ^ pb e,8 ^ e.1.toNat+8 ^ e.2.toNat)) _) (Nat.lor m (2 ^ pb e)) (Nat.add c (8 ^ e.1.toNat+8 ^ e.2.toNat))) (scA (List.map (fun e=>(2 ^ pb e,8 ^ e.1.toNat+8 ^ e.2.toNat)) _) m c):Bool)=true:=hq
   refine ih ?_
   cases hx:scA (List.map (fun e=>(2 ^ pb e,8 ^ e.1.toNat+8 ^ e.2.toNat)) _) m c with
   | true=>rw [hx] at h2;exact h2
   | false=>rw [hx] at h2;cases h2
theorem Jh1 {g:List (Int×Int)} (h:g.Sublist (prs 5)):scP (Qhe g 0) (Qxz g 0)=true:=Jlh h (by rw [← Jsa];exact Jdn)
theorem Qix (i:Nat):∀ (g:List (Int×Int)) (m:Nat),(Qhe g m).testBit i=(m.testBit i || g.any fun e=>decide (pb e=i))
 | [],m=>by simp [Qhe]
 | e::g,m=>by
   have ih:=Qix i g (Nat.lor m (2 ^ pb e))
   have h1:(Nat.lor m (2 ^ pb e)).testBit i=(m.testBit i || decide (pb e=i)):=by
    have:=Nat.testBit_or m (2 ^ pb e) i
    rw [Nat.testBit_two_pow] at this
    exact this
   rw [h1,Bool.or_assoc] at ih
   exact ih
theorem Qc5 {n:Nat} (hn:n≤7) {g:List (Int×Int)} (hg:∀ e ∈ g,e ∈ prs n) {e:Int×Int} (he:e ∈ prs n):(Qhe g 0).testBit (pb e)=decide (e ∈ g):=by
 rw [Qix,Nat.zero_testBit,Bool.false_or,Bool.eq_iff_iff,List.any_eq_true,decide_eq_true_eq]
 constructor
 · rintro ⟨f,hf,hq⟩
   have h1:=Qa1.1 (hg f hf)
   have h2:=Qa1.1 he
   have hq:=of_decide_eq_true hq
   unfold pb at hq
   have:f=e:=Prod.ext (by omega) (by omega)
   rwa [← this]
 · intro h
   exact ⟨e,h,by simp⟩
theorem Qz8 {n:Nat} (hn:n≤7) {g h:List (Int×Int)} (hg:Qad n g=true) (hh:Qad n h=true) (he:Qhe g 0=Qhe h 0):g=h:=by
 refine Qh9 (Qa2.1 hg).1 (Qa2.1 hh).1 fun e=>?_
 have gi:=(Qa2.1 hg).2.1
 have hi:=(Qa2.1 hh).2.1
 constructor
 · intro h1
   have a:=Qc5 hn gi (gi e h1)
   rw [he,Qc5 hn hi (gi e h1),decide_eq_true h1] at a
   exact of_decide_eq_true a
 · intro h1
   have a:=Qc5 hn hi (hi e h1)
   rw [← he,Qc5 hn gi (hi e h1),decide_eq_true h1] at a
   exact of_decide_eq_true a
def qb (a b:Nat):Nat:=8 * min a b+max a b
theorem Jl5:(scQ.all fun q=>(List.range 5).any fun a=>(List.range 5).any fun b=>(List.range 5).any fun c=>(List.range 5).any fun d =>
 decide (a ≠ b∧a ≠ c∧a ≠ d∧b ≠ c∧b ≠ d∧c ≠ d) && (decide (q.1=Nat.lor (2 ^ qb a b) (2 ^ qb c d)) && decide (q.2=Nat.lor (2 ^ qb a c) (2 ^ qb b d))))=true:=by decide +kernel
theorem Jmz {q:Nat×Nat} (h:q ∈ scQ):∃ a b c d:Nat,(a < 5∧b < 5∧c < 5∧d < 5)∧(a ≠ b∧a ≠ c∧a ≠ d∧b ≠ c∧b ≠ d∧c ≠ d)∧q.1=Nat.lor (2 ^ qb a b) (2 ^ qb c d)∧q.2=Nat.lor (2 ^ qb a c) (2 ^ qb b d):=by
 have h1:=List.all_eq_true.1 Jl5 q h
 simp only [List.any_eq_true,List.mem_range,Qba,decide_eq_true_eq] at h1
 obtain ⟨a,ha,b,hb,c,hc,d,hd,h2,h3,h4⟩:=h1
 exact ⟨a,b,c,d,⟨ha,hb,hc,hd⟩,h2,h3,h4⟩
theorem Qqd {m:Nat} {f:Nat→Bool}:∀ {l:List (Nat×Nat)},scX m f l=true→∃ q ∈ l,Nat.land m q.1=q.1∧Nat.land m q.2=0∧f (Nat.xor m (Nat.lor q.1 q.2))=true
 | [],h=>by cases h
 | q::l,h=>by
   have h2:(Bool.rec (scX m f l) (Bool.rec (scX m f l) (Bool.rec (scX m f l) true (f (Nat.xor m (Nat.lor q.1 q.2)))) (Nat.beq (Nat.land m q.2) 0)) (Nat.beq (Nat.land m q.1) q.1):Bool)=true:=h
   have rest:scX m f l=true→∃ q' ∈ q::l,Nat.land m q'.1=q'.1∧Nat.land m q'.2=0∧f (Nat.xor m (Nat.lor q'.1 q'.2))=true:=fun h=>by
    obtain ⟨q',h1,h3⟩:=Qqd h
    exact ⟨q',List.mem_cons_of_mem _ h1,h3⟩
   cases c1:Nat.beq (Nat.land m q.1) q.1 with
   | false=>rw [c1] at h2;exact rest h2
   | true =>
     rw [c1] at h2
     cases c2:Nat.beq (Nat.land m q.2) 0 with
     | false=>rw [c2] at h2;exact rest h2
     | true =>
       rw [c2] at h2
       cases c3:f (Nat.xor m (Nat.lor q.1 q.2)) with
       | false=>rw [c3] at h2;exact rest h2
       | true=>exact ⟨q,by simp,Nat.eq_of_beq_eq_true c1,Nat.eq_of_beq_eq_true c2,c3⟩
theorem mkQ (a b:Nat):pb (mk a b)=qb a b:=by simp only [pb,mk,qb];omega
theorem Qjj {g:List (Int×Int)} (hg:Qad (5:Nat) g=true) {q:Nat×Nat} (hq:q ∈ scQ) (h1:Nat.land (Qhe g 0) q.1=q.1) (h2:Nat.land (Qhe g 0) q.2=0) :
 ∃ s:Q4,Qdm g s.1 s.2.1 s.2.2.1 s.2.2.2=true∧Qhe (sw g s.1 s.2.1 s.2.2.1 s.2.2.2) 0=Nat.xor (Qhe g 0) (Nat.lor q.1 q.2):=by
 obtain ⟨a,b,c,d,⟨ha,hb,hc,hd⟩,⟨n1,n2,n3,n4,n5,n6⟩,e1,e2⟩:=Jmz hq
 have gi:=(Qa2.1 hg).2.1
 have pab:=Qk2 ha hb n1
 have pcd:=Qk2 hc hd n6
 have pac:=Qk2 ha hc n2
 have pbd:=Qk2 hb hd n5
 have b1:∀ i,q.1.testBit i=(decide (qb a b=i) || decide (qb c d=i)):=fun i=>by
  rw [e1]
  have:=Nat.testBit_or (2 ^ qb a b) (2 ^ qb c d) i
  rw [Nat.testBit_two_pow,Nat.testBit_two_pow] at this
  exact this
 have b2:∀ i,q.2.testBit i=(decide (qb a c=i) || decide (qb b d=i)):=fun i=>by
  rw [e2]
  have:=Nat.testBit_or (2 ^ qb a c) (2 ^ qb b d) i
  rw [Nat.testBit_two_pow,Nat.testBit_two_pow] at this
  exact this
 have l1:∀ i,((Qhe g 0).testBit i && q.1.testBit i)=q.1.testBit i:=fun i=>by
  rw [← Nat.testBit_and];exact congrArg (Nat.testBit · i) h1
 have l2:∀ i,((Qhe g 0).testBit i && q.2.testBit i)=false:=fun i=>by
  rw [← Nat.testBit_and]
  have:=congrArg (Nat.testBit · i) h2
  simp only [Nat.zero_testBit] at this
  exact this
 have mab:mk a b ∈ g:=by
  have:=l1 (pb (mk a b))
  rw [Qc5 (by omega) gi pab,b1,mkQ] at this
  simpa using this
 have mcd:mk c d ∈ g:=by
  have:=l1 (pb (mk c d))
  rw [Qc5 (by omega) gi pcd,b1,mkQ] at this
  simpa using this
 have mac:mk a c ∉ g:=by
  have:=l2 (pb (mk a c))
  rw [Qc5 (by omega) gi pac,b2,mkQ] at this
  simpa using this
 have mbd:mk b d ∉ g:=by
  have:=l2 (pb (mk b d))
  rw [Qc5 (by omega) gi pbd,b2,mkQ] at this
  simpa using this
 have hmay:Qdm g a b c d=true:=Qbz.2 ⟨⟨by omega,by omega,by omega,by omega,by omega,by omega⟩,mab,mcd,mac,mbd⟩
 refine ⟨((a:Int),(b:Int),(c:Int),(d:Int)),hmay,?_⟩
 simp only
 obtain ⟨-,-,hsv,-⟩:=Qdf hg hmay
 have si:=(Qa2.1 hsv).2.1
 refine Nat.eq_of_testBit_eq fun i=>?_
 have hx:(Nat.xor (Qhe g 0) (Nat.lor q.1 q.2)).testBit i=((Qhe g 0).testBit i ^^ (q.1.testBit i || q.2.testBit i)):=by
  have t1:=Nat.testBit_xor (Qhe g 0) (Nat.lor q.1 q.2) i
  have t2:=Nat.testBit_or q.1 q.2 i
  refine Eq.trans t1 ?_
  exact congrArg _ t2
 rw [hx,b1,b2]
 by_cases hi:∃ e ∈ prs 5,pb e=i
 · obtain ⟨e,he,rfl⟩:=hi
   rw [Qc5 (by omega) si he,Qc5 (by omega) gi he]
   have inj:∀ x y:Nat,x < 5→y < 5→x ≠ y→(qb x y=pb e ↔ e=mk x y):=fun x y hx hy hxy=>by
    rw [← mkQ]
    have k1:=Qa1.1 he
    have k2:=Qa1.1 (Qk2 hx hy hxy)
    constructor
    · intro h
      simp only [pb] at h
      exact Prod.ext (by omega) (by omega)
    · rintro rfl;rfl
   have dd:∀ x y:Nat,x < 5→y < 5→x ≠ y→decide (qb x y=pb e)=decide (e=mk x y):=fun x y hx hy hxy=>decide_eq_decide.2 (inj x y hx hy hxy)
   rw [dd a b ha hb n1,dd c d hc hd n6,dd a c ha hc n2,dd b d hb hd n5]
   have hm:e ∈ sw g a b c d ↔ (e ∈ g∧e ≠ mk a b∧e ≠ mk c d) ∨ e=mk a c ∨ e=mk b d:=Qe0
   have hm2:decide (e ∈ sw g a b c d)=decide ((e ∈ g∧e ≠ mk a b∧e ≠ mk c d) ∨ e=mk a c ∨ e=mk b d):=decide_eq_decide.2 hm
   rw [hm2]
   by_cases x1:e=mk a b
   · have y1:e ∈ g:=x1 ▸ mab
     have y2:e ≠ mk a c:=fun h=>mac (h ▸ y1)
     have y3:e ≠ mk b d:=fun h=>mbd (h ▸ y1)
     simp [x1 ▸ y2,x1 ▸ y3,← x1,y1,y2,y3]
   · by_cases x2:e=mk c d
     · have y1:e ∈ g:=x2 ▸ mcd
       have y2:e ≠ mk a c:=fun h=>mac (h ▸ y1)
       have y3:e ≠ mk b d:=fun h=>mbd (h ▸ y1)
       simp [y1,y2,y3,x1,x2]
       simp [← x2,y1,y2,y3,x1]
     · by_cases x3:e=mk a c
       · have y1:e ∉ g:=fun h=>mac (x3 ▸ h)
         simp [y1,x1,x2,x3]
         simp [← x3,y1]
       · by_cases x4:e=mk b d
         · have y1:e ∉ g:=fun h=>mbd (x4 ▸ h)
           simp [y1,x1,x2,x3,x4]
           simp [← x4,y1]
         · simp [x1,x2,x3,x4]
 · have no:∀ x y:Nat,x < 5→y < 5→x ≠ y→decide (qb x y=i)=false:=fun x y hx hy hxy=>decide_eq_false fun h=>hi ⟨mk x y,Qk2 hx hy hxy,by rw [mkQ];exact h⟩
   have nog:∀ g:List (Int×Int),(∀ e ∈ g,e ∈ prs 5)→(Qhe g 0).testBit i=false:=fun g hg=>by
    rw [Qix,Nat.zero_testBit,Bool.false_or,List.any_eq_false]
    intro e he hq
    exact hi ⟨e,hg e he,of_decide_eq_true hq⟩
   rw [nog _ si,nog _ gi,no a b ha hb n1,no c d hc hd n6,no a c ha hc n2,no b d hb hd n5];rfl
theorem vG5 {n:Nat} (hn:n≤5) {g:List (Int×Int)} (hg:Qad n g=true):Qad (5:Nat) g=true:=by
 obtain ⟨h1,h2,h3⟩:=Qa2.1 hg
 refine Qa2.2 ⟨h1,fun e he=>?_,by omega⟩
 have:=Qa1.1 (h2 e he)
 exact Qa1.2 (by omega)
theorem Jpi:((prs 5).all fun e=>decide (((8 ^ e.1.toNat+8 ^ e.2.toNat:Nat):Int)=inc 0 e+8 * inc 1 e+64 * inc 2 e+512 * inc 3 e+4096 * inc 4 e))=true:=by decide +kernel
theorem Ql6:∀ (g:List (Int×Int)) (c:Nat),(∀ e ∈ g,e ∈ prs 5)→(Qxz g c:Int)=c+(deg g 0+8 * deg g 1+64 * deg g 2+512 * deg g 3+4096 * deg g 4)
 | [],c,_=>by simp [Qxz,deg,S]
 | e::g,c,h=>by
   have ih:=Ql6 g (Nat.add c (8 ^ e.1.toNat+8 ^ e.2.toNat)) fun x hx=>h x (by simp [hx])
   have hw:=of_decide_eq_true (List.all_eq_true.1 Jpi e (h e (by simp)))
   have h1:Qxz (e::g) c=Qxz g (Nat.add c (8 ^ e.1.toNat+8 ^ e.2.toNat)):=rfl
   have d:∀ v,deg (e::g) v=inc v e+deg g v:=fun v=>Qih _ _ _
   rw [h1,ih,d,d,d,d,d]
   have h2:((Nat.add c (8 ^ e.1.toNat+8 ^ e.2.toNat):Nat):Int)=c+((8 ^ e.1.toNat+8 ^ e.2.toNat:Nat):Int):=by
    show ((c+(8 ^ e.1.toNat+8 ^ e.2.toNat):Nat):Int)=_
    omega
   rw [h2,hw]
   omega
theorem Jc5:∀ {l:List (Nat×Nat)} {b:Nat},scS l b=true→(∀ q ∈ l,b≤q.1)∧∀ c m m',(c,m) ∈ l→(c,m') ∈ l→m=m'
 | [],b,_=>⟨by simp,by simp⟩
 | q::l,b,h=>by
   have h2:(Bool.rec false (scS l (Nat.succ q.1)) (Nat.ble b q.1):Bool)=true:=h
   cases c1:Nat.ble b q.1 with
   | false=>rw [c1] at h2;cases h2
   | true =>
     rw [c1] at h2
     have hb:=Nat.le_of_ble_eq_true c1
     obtain ⟨k1,k2⟩:=Jc5 (l:=l) h2
     refine ⟨fun x hx=>?_,fun c m m' hm hm'=>?_⟩
     · rcases List.mem_cons.1 hx with rfl | hx
       · exact hb
       · have:=k1 x hx;omega
     · rcases List.mem_cons.1 hm with e1 | hm <;> rcases List.mem_cons.1 hm' with e2 | hm'
       · rw [← e1] at e2;exact (Prod.mk.inj e2).2.symm
       · have:=k1 _ hm';rw [← e1] at this;simp only at this;omega
       · have:=k1 _ hm;rw [← e2] at this;simp only at this;omega
       · exact k2 c m m' hm hm'
theorem Qxg {c m:Nat}:∀ {l:List (Nat×Nat)},scM c m l=true→(c,m) ∈ l
 | [],h=>by cases h
 | q::l,h=>by
   have h2:(Bool.rec (scM c m l) (Nat.beq q.2 m) (Nat.beq q.1 c):Bool)=true:=h
   cases c1:Nat.beq q.1 c with
   | false=>rw [c1] at h2;exact List.mem_cons_of_mem _ (Qxg h2)
   | true =>
     rw [c1] at h2
     have e1:=Nat.eq_of_beq_eq_true c1
     have e2:=Nat.eq_of_beq_eq_true h2
     have:(c,m)=q:=Prod.ext e1.symm e2.symm
     rw [this];simp
theorem Qfq:∀ (l k:List Q4) {g h:List (Int×Int)},Qfz g l=some h→Qfz g (l++k)=Qfz h k
 | [],k,g,h,hq=>by rw [Qfz] at hq;cases hq;rfl
 | s::l,k,g,h,hq=>by
   rw [Qfz] at hq
   rw [List.cons_append,Qfz]
   split at hq
   · rename_i hm
     rw [if_pos hm]
     exact Qfq l k hq
   · cases hq
theorem Qiw {g:List (Int×Int)} {s:Q4} (hm:Qdm g s.1 s.2.1 s.2.2.1 s.2.2.2=true):Qfz g [s]=some (sw g s.1 s.2.1 s.2.2.1 s.2.2.2):=by
 rw [Qfz,if_pos hm,Qfz]
theorem Qof {n:Nat}:∀ (l:List Q4) {g h:List (Int×Int)},Qad n g=true→Qfz g l=some h→∃ k:List Q4,k.length=l.length∧Qfz h k=some g
 | [],g,h,_,hq=>by rw [Qfz] at hq;cases hq;exact ⟨[],rfl,rfl⟩
 | s::l,g,h,hg,hq=>by
   rw [Qfz] at hq
   split at hq
   · rename_i hm
     obtain ⟨-,-,hv,-⟩:=Qdf hg hm
     obtain ⟨k,k1,k2⟩:=Qof l hv hq
     obtain ⟨b1,b2⟩:=Jht hg hm
     refine ⟨k++[(s.1,s.2.2.1,s.2.1,s.2.2.2)],by simp [k1],?_⟩
     rw [Qfq k _ k2,Qiw (s:=(s.1,s.2.2.1,s.2.1,s.2.2.2)) b1]
     exact congrArg some b2
   · cases hq
theorem Jy2 {g:List (Int×Int)} (hg:Qad (5:Nat) g=true):(∃ (l:List Q4) (h:List (Int×Int)),Qfz g l=some h∧Qhe g 0 < Qhe h 0) ∨ scM (Qxz g 0) (Qhe g 0) scL=true:=by
 have h0:=Jh1 (Qqr hg)
 have h2:(Bool.rec (Bool.rec (scM (Qxz g 0) (Qhe g 0) scL) true (Jjd (Qhe g 0))) true (Jhe (Qhe g 0)):Bool)=true:=h0
 cases c1:Jhe (Qhe g 0) with
 | true =>
   left
   obtain ⟨q,hq,k1,k2,k3⟩:=Qqd c1
   obtain ⟨s,s1,s2⟩:=Qjj hg hq k1 k2
   refine ⟨[s],_,Qiw s1,?_⟩
   rw [s2]
   exact Nat.le_of_ble_eq_true k3
 | false =>
   rw [c1] at h2
   cases c2:Jjd (Qhe g 0) with
   | true =>
     left
     obtain ⟨q,hq,k1,k2,k3⟩:=Qqd c2
     obtain ⟨s,s1,s2⟩:=Qjj hg hq k1 k2
     obtain ⟨-,-,hv,-⟩:=Qdf hg s1
     rw [← s2] at k3
     obtain ⟨q',hq',j1,j2,j3⟩:=Qqd k3
     obtain ⟨s',t1,t2⟩:=Qjj hv hq' j1 j2
     refine ⟨[s,s'],sw (sw g s.1 s.2.1 s.2.2.1 s.2.2.2) s'.1 s'.2.1 s'.2.2.1 s'.2.2.2,?_,?_⟩
     · rw [Qfz,if_pos s1];exact Qiw t1
     · rw [t2];exact Nat.le_of_ble_eq_true j3
   | false =>
     rw [c2] at h2
     exact .inr h2
theorem Jff {g:List (Int×Int)} (hg:∀ e ∈ g,e ∈ prs 5):Qhe g 0 < 2 ^ 64:=by
 refine Nat.lt_pow_two_of_testBit _ fun i hi=>?_
 rw [Qix,Nat.zero_testBit,Bool.false_or,List.any_eq_false]
 intro e he hq
 have:=Qa1.1 (hg e he)
 have hq:=of_decide_eq_true hq
 simp only [pb] at hq
 omega
theorem Qyg:∀ (k:Nat) {g:List (Int×Int)},Qad (5:Nat) g=true→2 ^ 64≤Qhe g 0+k→∃ (l:List Q4) (h:List (Int×Int)),Qfz g l=some h∧scM (Qxz h 0) (Qhe h 0) scL=true
 | 0,g,hg,hk=>by
   have:=Jff (Qa2.1 hg).2.1
   omega
 | k+1,g,hg,hk=>by
   rcases Jy2 hg with ⟨l,h,h1,h2⟩ | h
   · obtain ⟨hv,-⟩:=Qor l hg h1
     obtain ⟨l2,h',k1,k2⟩:=Qyg k hv (by omega)
     exact ⟨l++l2,h',by rw [Qfq l l2 h1];exact k1,k2⟩
   · exact ⟨[],g,rfl,h⟩
theorem Qyx {n:Nat} {g:List (Int×Int)} (hg:∀ e ∈ g,e ∈ prs n) {v:Nat} (hv:n≤v):deg g v=0:=by
 induction g with
 | nil=>rfl
 | cons e g ih =>
   have h1:deg (e::g) v=inc v e+deg g v:=Qih _ _ _
   have:=Qa1.1 (hg e (by simp))
   rw [h1,ih fun x hx=>hg x (by simp [hx]),inc,if_neg (by omega),if_neg (by omega)];rfl
theorem Jin {n:Nat} (hn:n≤5) {g h:List (Int×Int)} (hg:Qad n g=true) (hh:Qad n h=true) (hd:Qew n g=Qew n h):∃ l:List Q4,Qfz g l=some h:=by
 have g5:=vG5 hn hg
 have h5:=vG5 hn hh
 obtain ⟨l1,x,a1,a2⟩:=Qyg (2 ^ 64) g5 (by omega)
 obtain ⟨l2,y,b1,b2⟩:=Qyg (2 ^ 64) h5 (by omega)
 obtain ⟨xv,xd⟩:=Qor l1 g5 a1
 obtain ⟨yv,yd⟩:=Qor l2 h5 b1
 have hdeg:∀ v,deg g v=deg h v:=fun v=>by
  by_cases hv:v < n
  · have e1:=Qhn (n:=n) (es:=g) fun e he=>by have:=Qa1.1 ((Qa2.1 hg).2.1 e he);omega
    have e2:=Qhn (n:=n) (es:=h) fun e he=>by have:=Qa1.1 ((Qa2.1 hh).2.1 e he);omega
    rw [e1,e2] at hd
    have:=congrArg (fun l=>l[v]?) hd
    simpa [hv] using this
  · rw [Qyx (Qa2.1 hg).2.1 (by omega),Qyx (Qa2.1 hh).2.1 (by omega)]
 have d5:∀ {u:List (Int×Int)},Qad (5:Nat) u=true→Qew 5 u=(List.range 5).map (deg u):=fun {u} hu=>Qhn fun e he=>by have:=Qa1.1 ((Qa2.1 hu).2.1 e he);omega
 have hxy:Qew 5 x=Qew 5 y:=by
  rw [xd,yd,d5 g5,d5 h5]
  exact List.map_congr_left fun v _=>hdeg v
 have hc:Qxz x 0=Qxz y 0:=by
  have c1:=Ql6 x 0 (Qa2.1 xv).2.1
  have c2:=Ql6 y 0 (Qa2.1 yv).2.1
  rw [d5 xv,d5 yv] at hxy
  have at_:∀ v,v < 5→deg x v=deg y v:=fun v hv=>by
   have:=congrArg (fun l=>l[v]?) hxy
   simpa [hv] using this
  rw [at_ 0 (by omega),at_ 1 (by omega),at_ 2 (by omega),at_ 3 (by omega),at_ 4 (by omega)] at c1
  omega
 rw [hc] at a2
 have hm:=(Jc5 Jh9).2 _ _ _ (Qxg a2) (Qxg b2)
 have hxy:=Qz8 (n:=5) (by omega) xv yv hm
 subst hxy
 obtain ⟨k,-,k2⟩:=Qof l2 h5 b1
 exact ⟨l1++k,by rw [Qfq l1 k a1];exact k2⟩
end Go.Idl
namespace Go.Idl
theorem Jgr {n:Nat} {es:List (Int×Int)} (h:Qad n es=true) {a b c d:Int} (hm:Qdm es a b c d=true):sw es b a d c=sw es a b c d:=by
 obtain ⟨-,-,v1,-⟩:=Qdf h hm
 obtain ⟨-,-,v2,-⟩:=Qdf h (Qqw hm)
 refine Qh9 (Qa2.1 v2).1 (Qa2.1 v1).1 fun e=>?_
 rw [Qe0,Qe0,Int.min_comm b a,Int.max_comm b a,Int.min_comm d c,Int.max_comm d c,or_comm (a:=e=(min b d,max b d))]
theorem Jg5 {n:Nat} {es:List (Int×Int)} (h:Qad n es=true) {a b c d:Int} (hm:Qdm es a b c d=true):sw es c d a b=sw es a b c d:=by
 obtain ⟨-,-,v1,-⟩:=Qdf h hm
 obtain ⟨-,-,v2,-⟩:=Qdf h (Qrm hm)
 refine Qh9 (Qa2.1 v2).1 (Qa2.1 v1).1 fun e=>?_
 rw [Qe0,Qe0,Int.min_comm c a,Int.max_comm c a,Int.min_comm d b,Int.max_comm d b,and_comm (a:=e ≠ (min c d,max c d))]
theorem Jac {n:Nat} {es:List (Int×Int)} (h:Qad n es=true) {a b c d:Int} (hm:Qdm es a b c d=true):∃ s ∈ swl es es,swq es s=sw es a b c d:=by
 have hv:=Qa2.1 h
 have fin:∀ a b c d:Int,a < b→Qam (a,b) (min c d,max c d)=true→Qdm es a b c d=true→(a,b,c,d) ∈ swl es es:=by
  intro a b c d hab hb hm
  obtain ⟨⟨n1,n2,n3,n4,n5,n6⟩,i1,i2,i3,i4⟩:=Qbz.1 hm
  rw [show min a b=a by omega,show max a b=b by omega] at i1
  have hs:=Qqu hv.1 i1 i2 hb
  refine Qo4.2 ⟨_,_,hs,Qrf.2 ⟨by rw [Qty h];exact hm,?_⟩⟩
  by_cases hcd:c < d
  · left;rw [show min c d=c by omega,show max c d=d by omega]
  · right;rw [show min c d=d by omega,show max c d=c by omega]
 have one:∀ a b c d:Int,Qam (min a b,max a b) (min c d,max c d)=true→Qdm es a b c d=true→∃ s ∈ swl es es,swq es s=sw es a b c d:=by
  intro a b c d hb hm
  obtain ⟨⟨n1,n2,n3,n4,n5,n6⟩,i1,i2,i3,i4⟩:=Qbz.1 hm
  by_cases hab:a < b
  · rw [show min a b=a by omega,show max a b=b by omega] at hb
    exact ⟨_,fin a b c d hab hb hm,rfl⟩
  · rw [show min a b=b by omega,show max a b=a by omega,Int.min_comm,Int.max_comm] at hb
    exact ⟨_,fin b a d c (by omega) hb (Qqw hm),Jgr h hm⟩
 obtain ⟨⟨n1,n2,n3,n4,n5,n6⟩,i1,i2,i3,i4⟩:=Qbz.1 hm
 rcases Qb0 (a:=(min a b,max a b)) (b:=(min c d,max c d)) (fun hh=>by simp only [Qpi] at hh;omega) with hb | hb
 · exact one a b c d hb hm
 · obtain ⟨s,s1,s2⟩:=one c d a b hb (Qrm hm)
   exact ⟨s,s1,by rw [s2];exact Jg5 h hm⟩
def dep (A:List Vs) (k:Nat):Nat:=(chn A (k+1) k).length
structure Jjn (n:Nat) (g0:List (Int×Int)) (A:List Vs):Prop where
 met:Met n (Qew n g0) A
 z:∃ c q,A[0]? = some ((g0,c),-1,q)
 st:∀ (k:Nat) (t:Vs),A[k]? = some t→k ≠ 0→∃ (p:Nat) (u:Vs),t.2.1=(p:Int)∧p < k∧A[p]? = some u∧Qdm u.1.1 t.2.2.1 t.2.2.2.1 t.2.2.2.2.1 t.2.2.2.2.2=true∧t.1.1=swq u.1.1 t.2.2
 mono:∀ k k',k≤k'→k' < A.length→dep A k≤dep A k'
theorem Ql5 {n:Nat} {g0:List (Int×Int)} {A:List Vs} (h:Jjn n g0 A):dep A 0=0:=by
 obtain ⟨c,q,hz⟩:=h.z
 rw [dep,chn]
 simp only [Int.toNat_natCast,hz]
 rw [if_neg (by omega)];rfl
theorem Qq8 {n:Nat} {d:List Int} {A:List Vs} (h:Met n d A) {k p:Nat} {t:Vs} (hk:A[k]? = some t) (hp:t.2.1=(p:Int)) (hpk:p < k):chn A (k+1) k=t.2.2::chn A (p+1) p:=by
 have hkl:=(List.getElem?_eq_some_iff.1 hk).1
 rw [chn,Int.toNat_natCast,hk]
 simp only
 rw [hp,if_pos (by omega),Qra h (p+1) k p (by omega) (by omega) (by omega)]
theorem Qlt {n:Nat} {d:List Int} {A:List Vs} (h:Met n d A) {k p:Nat} {t:Vs} (hk:A[k]? = some t) (hp:t.2.1=(p:Int)) (hpk:p < k):dep A k=dep A p+1:=by
 rw [dep,Qq8 h hk hp hpk,List.length_cons,dep]
theorem Qhq {n:Nat} {d:List Int} {A:List Vs} (h:Met n d A) (X:List Vs) {k:Nat} (hk:k < A.length):dep (A++X) k=dep A k:=by
 rw [dep,Qou h X _ _ hk,dep]
theorem Jfu {n:Nat} {g0:List (Int×Int)} {A:List Vs} (h:Jjn n g0 A):∀ (m k:Nat),k < m→∀ t,A[k]? = some t→Qfz g0 (chn A (k+1) k).reverse=some t.1.1:=by
 intro m
 induction m with
 | zero=>intro k hk;omega
 | succ m ih =>
   intro k hk t ht
   by_cases hk0:k=0
   · subst hk0
     obtain ⟨c,q,hz⟩:=h.z
     rw [hz] at ht
     cases ht
     rw [chn]
     simp only [Int.toNat_natCast,hz]
     rw [if_neg (by omega)];rfl
   · obtain ⟨p,u,h1,h2,h3,h4,h5⟩:=h.st k t ht hk0
     rw [Qq8 h.met ht h1 h2,List.reverse_cons,Qfq _ _ (ih p (by omega) u h3),Qiw h4]
     exact congrArg some h5.symm
structure Jt3 (n:Nat) (g0:List (Int×Int)) (i:Nat) (A:List Vs):Prop where
 inv:Jjn n g0 A
 par:∀ (k:Nat) (t:Vs) (p:Nat),A[k]? = some t→t.2.1=(p:Int)→p < i
 cl:∀ p,p < i→∀ u,A[p]? = some u→∀ s:Q4,Qdm u.1.1 s.1 s.2.1 s.2.2.1 s.2.2.2=true→∃ (k:Nat) (t:Vs),A[k]? = some t∧t.1.1=swq u.1.1 s∧dep A k≤dep A p+1
theorem Qep {A X:List Vs} {k:Nat} {t:Vs} (h:A[k]? = some t):(A++X)[k]? = some t:=by
 rw [List.getElem?_append_left (List.getElem?_eq_some_iff.1 h).1];exact h
theorem Qot {n:Nat} {g0 g:List (Int×Int)} (hg:Qad n g=true) (hdg:Qew n g=Qew n g0) (i:Nat):∀ (r:List Q4) (A:List Vs),(∀ s ∈ r,Qdm g s.1 s.2.1 s.2.2.1 s.2.2.2=true)→Jjn n g0 A →
 (∃ u,A[i]? = some u∧u.1.1=g)→(∀ (k:Nat) (t:Vs) (p:Nat),A[k]? = some t→t.2.1=(p:Int)→p≤i) →
 Jjn n g0 (bfA g i r A)∧(∃ X,bfA g i r A=A++X)∧(∀ (k:Nat) (t:Vs) (p:Nat),(bfA g i r A)[k]? = some t→t.2.1=(p:Int)→p≤i) ∧
  ∀ s ∈ r,∃ (k:Nat) (t:Vs),(bfA g i r A)[k]? = some t∧t.1.1=swq g s
 | [],A,_,hI,_,hp=>⟨by rw [bfA];exact hI,⟨[],by rw [bfA,List.append_nil]⟩,by rw [bfA];exact hp,by simp⟩
 | s::r,A,hr,hI,⟨u,hu,hug⟩,hp=>by
   have hil:=(List.getElem?_eq_some_iff.1 hu).1
   rw [bfA]
   cases hq:A.any fun t=>decide (t.1.1=swq g s) with
   | true =>
     simp only [if_true]
     obtain ⟨k1,⟨X,k2⟩,k3,k4⟩:=Qot hg hdg i r A (fun x hx=>hr x (by simp [hx])) hI ⟨u,hu,hug⟩ hp
     refine ⟨k1,⟨X,k2⟩,k3,fun x hx=>?_⟩
     rcases List.mem_cons.1 hx with rfl | hx
     · obtain ⟨t,ht,hte⟩:=List.any_eq_true.1 hq
       obtain ⟨k,hk⟩:=List.mem_iff_getElem?.1 ht
       exact ⟨k,t,by rw [k2];exact Qep hk,of_decide_eq_true hte⟩
     · exact k4 x hx
   | false =>
     simp only [Bool.false_eq_true,if_false]
     have hm:=hr s (by simp)
     have hM2:=hI.met.add hg hdg i hil hm hq
     obtain ⟨T,hT⟩:∃ T:Vs,T=((swq g s,false),(i:Int),s):=⟨_,rfl⟩
     rw [← hT] at hM2 ⊢
     have hnew:(A++[T])[A.length]? = some T:=by rw [List.getElem?_append_right (Nat.le_refl _)];simp
     have hdn:dep (A++[T]) A.length=dep A i+1:=by
      rw [Qlt hM2 hnew (p:=i) (by rw [hT]) hil,Qhq hI.met _ hil]
     have hle:∀ k,k < A.length→dep A k≤dep A i+1:=fun k hk=>by
      by_cases hk0:k=0
      · subst hk0;rw [Ql5 hI];omega
      · obtain ⟨t,ht⟩:∃ t,A[k]? = some t:=⟨_,List.getElem?_eq_getElem hk⟩
        obtain ⟨p,u',h1,h2,-⟩:=hI.st k t ht hk0
        have h3:=hp k t p ht h1
        rw [Qlt hI.met ht h1 h2]
        have:=hI.mono p i h3 hil
        omega
     have hI2:Jjn n g0 (A++[T]):=by
      refine ⟨hM2,?_,fun k t hk hk0=>?_,fun k k' hkk hk'=>?_⟩
      · obtain ⟨c,q,hz⟩:=hI.z
        exact ⟨c,q,Qep hz⟩
      · by_cases hkl:k < A.length
        · rw [List.getElem?_append_left hkl] at hk
          obtain ⟨p,u',h1,h2,h3,h4,h5⟩:=hI.st k t hk hk0
          exact ⟨p,u',h1,h2,Qep h3,h4,h5⟩
        · have hke:k=A.length:=by
           have:=(List.getElem?_eq_some_iff.1 hk).1
           simp at this;omega
          subst hke
          rw [hnew] at hk
          cases hk
          rw [hT]
          exact ⟨i,u,rfl,hil,Qep hu,by rw [hug];exact hm,by rw [hug]⟩
      · rw [List.length_append,List.length_singleton] at hk'
        by_cases hkl:k' < A.length
        · rw [Qhq hI.met _ hkl,Qhq hI.met _ (by omega)]
          exact hI.mono k k' hkk hkl
        · have hke:k'=A.length:=by omega
          subst hke
          by_cases hk2:k < A.length
          · rw [hdn,Qhq hI.met _ hk2];exact hle k hk2
          · have:k=A.length:=by omega
            subst this;exact Nat.le_refl _
     have hp2:∀ (k:Nat) (t:Vs) (p:Nat),(A++[T])[k]? = some t→t.2.1=(p:Int)→p≤i:=fun k t p hk htp=>by
      by_cases hkl:k < A.length
      · rw [List.getElem?_append_left hkl] at hk;exact hp k t p hk htp
      · have hke:k=A.length:=by
         have:=(List.getElem?_eq_some_iff.1 hk).1
         simp at this;omega
        subst hke
        rw [hnew] at hk
        cases hk
        rw [hT] at htp
        simp only at htp
        omega
     obtain ⟨k1,⟨X,k2⟩,k3,k4⟩:=Qot hg hdg i r (A++[T]) (fun x hx=>hr x (by simp [hx])) hI2 ⟨u,Qep hu,hug⟩ hp2
     refine ⟨k1,⟨[T]++X,by rw [k2,List.append_assoc]⟩,k3,fun x hx=>?_⟩
     rcases List.mem_cons.1 hx with rfl | hx
     · exact ⟨A.length,T,by rw [k2];exact Qep hnew,by rw [hT]⟩
     · exact k4 x hx
theorem Jlc {n:Nat} (hn:n≤5) {g0 h:List (Int×Int)}:∀ (m i:Nat) (A:List Vs),i+m=1025→i≤A.length→Jt3 n g0 i A→(∀ p,p < i→∀ u,A[p]? = some u→u.1.1 ≠ h)→(Qew n g0).length=n →
 match bfs h m i A with
 | none=>∃ A',Jt3 n g0 A'.length A'∧∀ u ∈ A',u.1.1 ≠ h
 | some (k,A')=>Jt3 n g0 k A'∧∃ t,A'[k]? = some t∧t.1.1=h:=by
 intro m
 induction m with
 | zero =>
   intro i A hi hiA hO _ hd
   have:=hO.inv.met.few hn hd
   omega
 | succ m ih =>
   intro i A hi hiA hO hno hd
   rw [bfs]
   cases hk:A[i]? with
   | none =>
     have:A.length≤i:=List.getElem?_eq_none_iff.1 hk
     have hie:i=A.length:=by omega
     subst hie
     refine ⟨A,hO,fun u hu=>?_⟩
     obtain ⟨k,hk⟩:=List.mem_iff_getElem?.1 hu
     exact hno k (List.getElem?_eq_some_iff.1 hk).1 u hk
   | some t =>
     simp only
     by_cases hth:t.1.1=h
     · rw [if_pos hth]
       exact ⟨hO,t,hk,hth⟩
     · rw [if_neg hth]
       have hil:=(List.getElem?_eq_some_iff.1 hk).1
       have hv:=hO.inv.met.v t (List.mem_of_getElem? hk)
       have hsm:∀ s ∈ swl t.1.1 t.1.1,Qdm t.1.1 s.1 s.2.1 s.2.2.1 s.2.2.2=true:=fun s hs=>(Qqk hv.1 hs).may
       obtain ⟨k1,⟨X,k2⟩,k3,k4⟩:=Qot hv.1 hv.2 i (swl t.1.1 t.1.1) A hsm hO.inv ⟨t,hk,rfl⟩ (fun k t p h1 h2=>Nat.le_of_lt (hO.par k t p h1 h2))
       refine ih (i+1) _ (by omega) (by rw [k2,List.length_append];omega) ⟨k1,fun k t p h1 h2=>by have:=k3 k t p h1 h2;omega,fun p hp u hu s hs=>?_⟩ (fun p hp u hu=>?_) hd
       · by_cases hpi:p < i
         · have hu2:A[p]? = some u:=by
            rw [k2,List.getElem?_append_left (by omega)] at hu;exact hu
           obtain ⟨k,t',c1,c2,c3⟩:=hO.cl p hpi u hu2 s hs
           refine ⟨k,t',by rw [k2];exact Qep c1,c2,?_⟩
           rw [k2,Qhq hO.inv.met _ (List.getElem?_eq_some_iff.1 c1).1,Qhq hO.inv.met _ (by omega)]
           exact c3
         · have hpe:p=i:=by omega
           subst hpe
           have hut:u=t:=by
            rw [k2,Qep hk] at hu
            exact (Option.some.inj hu).symm
           subst hut
           obtain ⟨s',s1,s2⟩:=Jac hv.1 hs
           obtain ⟨k,t',c1,c2⟩:=k4 s' s1
           refine ⟨k,t',c1,by rw [c2,s2],?_⟩
           by_cases hk0:k=0
           · subst hk0;rw [Ql5 k1];omega
           · obtain ⟨q,u',h1,h2,-⟩:=k1.st k t' c1 hk0
             have h3:=k3 k t' q c1 h1
             rw [Qlt k1.met c1 h1 h2]
             have:=k1.mono q p h3 (by rw [k2,List.length_append];omega)
             omega
       · by_cases hpi:p < i
         · rw [k2,List.getElem?_append_left (by omega)] at hu
           exact hno p hpi u hu
         · have hpe:p=i:=by omega
           subst hpe
           rw [k2,Qep hk] at hu
           cases hu
           exact hth
theorem out0 {n:Nat} {g:List (Int×Int)} (hg:Qad n g=true) (c:Bool):Jt3 n g 0 (A0 g c) where
 inv:={
  met:=Jw7 hg rfl c
  z:=⟨c,_,rfl⟩
  st:=fun k t hk hk0=>by
   cases k with
   | zero=>exact absurd rfl hk0
   | succ k=>simp [A0] at hk
  mono:=fun k k' h1 h2=>by
   simp [A0] at h2
   have e1:k=k':=by omega
   subst e1;exact Nat.le_refl _ }
 par:=fun k t p hk htp=>by
  cases k with
  | zero =>
    simp only [A0,List.getElem?_cons_zero,Qoi] at hk
    subst hk
    simp only at htp
    omega
  | succ k=>simp [A0] at hk
 cl:=fun p hp=>by omega
theorem Qvh {n:Nat} {g0:List (Int×Int)} {i:Nat} {A:List Vs} (hO:Jt3 n g0 i A):∀ (m:Nat) (l:List Q4) (x:List (Int×Int)),l.length=m→Qfz g0 l=some x →
 (∃ p u,A[p]? = some u∧u.1.1=x∧dep A p≤m) ∨ (i < A.length∧dep A i≤m):=by
 intro m
 induction m with
 | zero =>
   intro l x hl hx
   have:=List.length_eq_zero_iff.1 hl
   subst this
   rw [Qfz] at hx
   cases hx
   obtain ⟨c,q,hz⟩:=hO.inv.z
   exact .inl ⟨0,_,hz,rfl,by rw [Ql5 hO.inv];omega⟩
 | succ m ih =>
   intro l x hl hx
   have hne:l ≠ []:=fun h=>by rw [h] at hl;cases hl
   obtain ⟨l0,s,rfl⟩:∃ l0 s,l=l0++[s]:=⟨_,_,(List.dropLast_concat_getLast hne).symm⟩
   have hl0:l0.length=m:=by simpa using hl
   obtain ⟨y,hy⟩:∃ y,Qfz g0 l0=some y:=by
    have pre:∀ (l:List Q4) (g:List (Int×Int)),Qfz g (l++[s])=some x→∃ y,Qfz g l=some y:=by
     intro l
     induction l with
     | nil=>intro g _;exact ⟨g,rfl⟩
     | cons a l ih2 =>
       intro g hq
       rw [List.cons_append,Qfz] at hq
       split at hq
       · rename_i hm
         rw [Qfz,if_pos hm]
         exact ih2 _ hq
       · cases hq
    exact pre l0 g0 hx
   rw [Qfq l0 [s] hy,Qfz] at hx
   split at hx
   rotate_left
   · cases hx
   rename_i hm
   rw [Qfz] at hx
   cases hx
   rcases ih l0 y hl0 hy with ⟨p,u,h1,h2,h3⟩ | ⟨h1,h2⟩
   · by_cases hp:p < i
     · subst h2
       obtain ⟨k,t,c1,c2,c3⟩:=hO.cl p hp u h1 s hm
       exact .inl ⟨k,t,c1,c2,by omega⟩
     · have hpl:=(List.getElem?_eq_some_iff.1 h1).1
       have:=hO.inv.mono i p (by omega) hpl
       exact .inr ⟨by omega,by omega⟩
   · exact .inr ⟨h1,by omega⟩
theorem Jkg {n:Nat} (hn:n≤5) {g h:List (Int×Int)} (hg:Qad n g=true) (hh:Qad n h=true) (c:Bool) :
 ((spI g c h).isSome=decide (Qew n g=Qew n h))∧∀ p,spI g c h=some p→Qfz g p=some h∧p.length≤1024∧∀ l,Qfz g l=some h→p.length≤l.length:=by
 have hdl:(Qew n g).length=n:=by rw [Qew,Qfb];simp
 have hb:=Jlc hn (h:=h) 1025 0 (A0 g c) (by omega) (by simp [A0]) (out0 hg c) (fun p hp=>by omega) hdl
 unfold spI
 cases hq:bfs h 1025 0 (A0 g c) with
 | none =>
   rw [hq] at hb
   obtain ⟨A',hO,hno⟩:=hb
   refine ⟨?_,fun p hp=>by cases hp⟩
   symm
   refine decide_eq_false fun hd=>?_
   obtain ⟨l,hl⟩:=Jin hn hg hh hd
   rcases Qvh hO l.length l h rfl hl with ⟨p,u,h1,h2,-⟩ | ⟨h1,-⟩
   · exact hno u (List.mem_of_getElem? h1) h2
   · omega
 | some kA =>
   obtain ⟨k,A'⟩:=kA
   rw [hq] at hb
   obtain ⟨hO,t,ht,hth⟩:=hb
   have hv:=hO.inv.met.v t (List.mem_of_getElem? ht)
   have hkl:=(List.getElem?_eq_some_iff.1 ht).1
   refine ⟨?_,fun p hp=>?_⟩
   · symm
     refine decide_eq_true ?_
     rw [← hv.2,hth]
   · simp only [Option.map_some,Qoi] at hp
     subst hp
     have hr:=Jfu hO.inv (k+1) k (by omega) t ht
     rw [hth] at hr
     have hfew:=hO.inv.met.few hn hdl
     refine ⟨hr,?_,fun l hl=>?_⟩
     · rw [List.length_reverse]
       have:=Qve A' (k+1) k
       omega
     · rw [List.length_reverse]
       show dep A' k≤l.length
       rcases Qvh hO l.length l h rfl hl with ⟨p,u,h1,h2,h3⟩ | ⟨-,h2⟩
       · have hpk:p=k:=by
          have hnd:=hO.inv.met.nd
          have e1:(A'.map fun t=>t.1.1)[p]? = some h:=by rw [List.getElem?_map,h1];exact congrArg some h2
          have e2:(A'.map fun t=>t.1.1)[k]? = some h:=by rw [List.getElem?_map,ht];exact congrArg some hth
          obtain ⟨l1,g1⟩:=List.getElem?_eq_some_iff.1 e1
          obtain ⟨l2,g2⟩:=List.getElem?_eq_some_iff.1 e2
          have hp:=List.pairwise_iff_getElem.1 hnd
          by_cases a1:p < k
          · exact absurd (g1.trans g2.symm) (hp p k l1 l2 a1)
          · by_cases a2:k < p
            · exact absurd (g2.trans g1.symm) (hp k p l2 l1 a2)
            · omega
         subst hpk;exact h3
       · exact h2
def Qhg (A:List Vs):List Vs:=A.map fun t=>((t.1.1,false),t.2)
theorem Qoo (A:List Vs) (k:Nat):(Qhg A)[k]? = A[k]?.map fun t=>((t.1.1,false),t.2):=by simp [Qhg]
theorem Qj2 (g:List (Int×Int)) (i:Int):∀ (r:List Q4) (A:List Vs),bfA g i r (Qhg A)=Qhg (bfA g i r A)
 | [],A=>by rw [bfA,bfA]
 | s::r,A=>by
   have h1:((Qhg A).any fun t=>decide (t.1.1=swq g s))=A.any fun t=>decide (t.1.1=swq g s):=by simp [Qhg,Function.comp_def]
   rw [bfA,bfA,h1]
   split
   · exact Qj2 g i r A
   · have h2:Qhg A++[((swq g s,false),i,s)]=Qhg (A++[((swq g s,false),i,s)]):=by simp [Qhg]
     rw [h2];exact Qj2 g i r _
theorem Qtt (A:List Vs):∀ (m:Nat) (k:Int),chn (Qhg A) m k=chn A m k:=by
 intro m
 induction m with
 | zero=>intro k;rfl
 | succ m ih =>
   intro k
   rw [chn,chn,Qoo]
   cases A[k.toNat]? with
   | none=>rfl
   | some t=>simp only [Option.map_some,ih]
theorem Qwg (h:List (Int×Int)):∀ (m i:Nat) (A:List Vs),bfs h m i (Qhg A)=(bfs h m i A).map fun p=>(p.1,Qhg p.2):=by
 intro m
 induction m with
 | zero=>intro i A;rfl
 | succ m ih =>
   intro i A
   rw [bfs,bfs,Qoo]
   cases A[i]? with
   | none=>rfl
   | some t =>
     simp only [Option.map_some]
     split
     · rfl
     · rw [Qj2];exact ih _ _
theorem Qqc (g:List (Int×Int)) (c:Bool) (h:List (Int×Int)):spI g c h=spI g false h:=by
 have h1:Qhg (A0 g c)=A0 g false:=rfl
 have h2:=Qwg h 1025 0 (A0 g c)
 rw [h1] at h2
 rw [spI,spI,h2]
 cases bfs h 1025 0 (A0 g c) with
 | none=>rfl
 | some p=>simp only [Option.map_some,Qtt]
end Go.Idl
namespace Go.Idl
open Go
set_option maxHeartbeats 8000000 in
theorem ev_FnExactSwitchPath (n:Int) (es:List (Int×Int)) (c:Bool) (m:Int) (fs:List (Int×Int)) (c2:Bool) (hf:Fit es) (hb:es.length < 9223372036854775808) (hf2:Fit fs) (hb2:fs.length < 9223372036854775808) :
 Ev tb Qyl [] [Gr n es c,Gr m fs c2] [] ⟨Bo true,[],[],[]⟩:=by
 by_cases hc:(1048576:Int) < es.length
 · have s1:=fun c=>Qab (Qgz n es c 1048576 hc (by omega) hb)
   refine cW Jan rfl ?_
   repeat (first|apply wA|apply wS|refine wr (by simp [s1];with_reducible rfl) ?_|refine wq (by simp [s1];with_reducible rfl) ?_|refine wt (by simpa [s1]) ?_|refine wf (by simpa [s1]) ?_|refine xt (by simpa [s1]) ?_|refine xf (by simpa [s1]) ?_|apply wB|apply Qaa|refine wX ?_|refine wY ?_|refine wR ?_|refine wK ?_|refine wE ?_)
   simp [Qp3]
 have s1:=fun c=>Qab (Qgs n es c 1048576 (by omega) (by omega))
 have h8:¬ (1048576 - (es.length:Int) < 0):=by omega
 by_cases hc2:(1048576:Int) - es.length < fs.length
 · have s2:=fun c=>Qab (Qgz m fs c (1048576 - es.length) hc2 (by omega) hb2)
   refine cW Jan rfl ?_
   repeat (first|apply wA|apply wS|refine wr (by simp [s1,h8,s2];with_reducible rfl) ?_|refine wq (by simp [s1,h8,s2];with_reducible rfl) ?_|refine wt (by simpa [s1,h8,s2]) ?_|refine wf (by simpa [s1,h8,s2]) ?_|refine xt (by simpa [s1,h8,s2]) ?_|refine xf (by simpa [s1,h8,s2]) ?_|apply wB|apply Qaa|refine wX ?_|refine wY ?_|refine wR ?_|refine wK ?_|refine wE ?_)
   simp [Qp3]
 have s2:=fun c=>Qab (Qgs m fs c (1048576 - es.length) (by omega) (by omega))
 have h7:¬ (1048576 - (es.length:Int) - (fs.length:Int) < 0):=by omega
 have t1:=fun c=>Qab (Qku n es c (by omega))
 have t2:=fun c=>Qab (Qku m fs c (by omega))
 have q1:=fun c d=>Qab (Qks n es c d (by omega))
 have q2:=fun c d=>Qab (Qks m fs c d (by omega))
 have m1:=Qab (Qii n es 1 (by omega) (by omega))
 have m0:=Qab (Qii m fs (1+2 * (es.length:Int)) (by omega) (by omega))
 have h0:¬ (1+2 * (es.length:Int)+2 * (fs.length:Int) < 0):=by omega
 have hs1:=Qx0 1 es.length
 have hs2:=Qx0 (1+2 * (es.length:Int)) fs.length
 have fin:∀ (G:List Q4) (V:IV) (ok:Bool),G.length≤1024→(∀ c d,Qcm tb Qlj [] [Gr n es c,Gr m fs d] []=some ⟨.tup [O4 G,Bo ok],[],[],[]⟩) →
  (∀ c d,Qcm tb Qon [] [Gr n es c,Gr m fs d] []=some ⟨.tup [V,Bo ok],[],[],[]⟩)→(V=O4 G ∨ V=Z∧G=[]) →
  Ev tb Qyl [] [Gr n es c,Gr m fs c2] [] ⟨Bo true,[],[],[]⟩:=by
  intro G V ok hG e2 e3 hV
  have m4:=Qab (Qkd G 1 (by omega) (by omega))
  have m5:=fun c=>Qab (Qkh 1 G.length c (by omega) (by omega))
  have h9:¬ (1+4 * (G.length:Int) < 0):=by omega
  have hs4:=Jew 1 G.length
  rcases hV with rfl | ⟨rfl,rfl⟩
  · have ez:=fun c d=>Qab (Qm2 G c d (by omega))
    have htG:G.take G.length=G:=List.take_of_length_le (Nat.le_refl _)
    refine cW Jan rfl ?_
    repeat (first|apply wA|apply wS|refine wr (by simp [s1,h8,s2,h7];with_reducible rfl) ?_|refine wq (by simp [s1,h8,s2,h7];with_reducible rfl) ?_|refine wt (by simpa [s1,h8,s2,h7]) ?_|refine wf (by simpa [s1,h8,s2,h7]) ?_|refine xt (by simpa [s1,h8,s2,h7]) ?_|refine xf (by simpa [s1,h8,s2,h7]) ?_|apply wB|apply Qaa|refine wX ?_|refine wY ?_|refine wR ?_|refine wK ?_|refine wE ?_)
    refine Qea (by simp [t1,t2,e3];with_reducible rfl) (by simp;with_reducible rfl) ?_ ?_
    · intro p hp
      simp only [List.mem_cons,List.not_mem_nil,or_false] at hp
      rcases hp with rfl | rfl | rfl | rfl | rfl
      · exact ⟨_,by simp [t1,t2,e3];with_reducible rfl,by simp⟩
      · exact ⟨_,by simp [t1,t2,e3];with_reducible rfl,by simp⟩
      · exact ⟨_,by simp [t1,t2,e3];with_reducible rfl,by simp⟩
      · exact ⟨_,by simp [t1,t2,e3];with_reducible rfl,by simp⟩
      · exact ⟨_,by simp [t1,t2,e3];with_reducible rfl,by simp⟩
    repeat (first|apply wA|apply wS|refine wr (by simp [t1,t2,e2,ez,htG];with_reducible rfl) ?_|refine wq (by simp [t1,t2,e2,ez,htG];with_reducible rfl) ?_|refine wt (by simpa [t1,t2,e2,ez,htG]) ?_|refine wf (by simpa [t1,t2,e2,ez,htG]) ?_|refine xt (by simpa [t1,t2,e2,ez,htG]) ?_|refine xf (by simpa [t1,t2,e2,ez,htG]) ?_|apply wB|apply Qaa|refine wX ?_|refine wY ?_|refine wR ?_|refine wK ?_|refine wE ?_)
    refine Qea (by simp [t1,q1];with_reducible rfl) (by simp;with_reducible rfl) ?_ ?_
    · intro p hp
      simp only [List.mem_cons,List.not_mem_nil,or_false] at hp
      subst hp
      exact ⟨_,by simp [t1,q1];with_reducible rfl,by simp⟩
    repeat (first|apply wA|apply wS|refine wr (by simp;with_reducible rfl) ?_|refine wq (by simp;with_reducible rfl) ?_|refine wt (by simpa) ?_|refine wf (by simpa) ?_|refine xt (by simpa) ?_|refine xf (by simpa) ?_|apply wB|apply Qaa|refine wX ?_|refine wY ?_|refine wR ?_|refine wK ?_|refine wE ?_)
    refine Qea (by simp [t2,q2];with_reducible rfl) (by simp;with_reducible rfl) ?_ ?_
    · intro p hp
      simp only [List.mem_cons,List.not_mem_nil,or_false] at hp
      subst hp
      exact ⟨_,by simp [t2,q2];with_reducible rfl,by simp⟩
    repeat (first|apply wA|apply wS|refine wr (by simp [m1,m0,h0,hs1,hs2,ez,m4,m5,h9,hs4,htG,Qaq,Qbr];with_reducible rfl) ?_|refine wq (by simp [m1,m0,h0,hs1,hs2,ez,m4,m5,h9,hs4,htG,Qaq,Qbr];with_reducible rfl) ?_|refine wt (by simpa [m1,m0,h0,hs1,hs2,ez,m4,m5,h9,hs4,htG,Qaq,Qbr]) ?_|refine wf (by simpa [m1,m0,h0,hs1,hs2,ez,m4,m5,h9,hs4,htG,Qaq,Qbr]) ?_|refine xt (by simpa [m1,m0,h0,hs1,hs2,ez,m4,m5,h9,hs4,htG,Qaq,Qbr]) ?_|refine xf (by simpa [m1,m0,h0,hs1,hs2,ez,m4,m5,h9,hs4,htG,Qaq,Qbr]) ?_|apply wB|apply Qaa|refine wX ?_|refine wY ?_|refine wR ?_|refine wK ?_|refine wE ?_)
    refine Qea (by simp [t1,t2,e2];with_reducible rfl) (by simp;with_reducible rfl) ?_ ?_
    · intro p hp
      simp only [List.mem_cons,List.not_mem_nil,or_false] at hp
      rcases hp with rfl | rfl | rfl | rfl | rfl
      · exact ⟨_,by simp [t1,t2,e2];with_reducible rfl,by simp⟩
      · exact ⟨_,by simp [t1,t2,e2];with_reducible rfl,by simp⟩
      · exact ⟨_,by simp [t1,t2,e2];with_reducible rfl,by simp⟩
      · exact ⟨_,by simp [t1,t2,e2];with_reducible rfl,by simp⟩
      · exact ⟨_,by simp [t1,t2,e2];with_reducible rfl,by simp⟩
    repeat (first|apply wA|apply wS|refine wr (by simp [ez,m5,h9,hs4,htG,Qaq,Qbr];with_reducible rfl) ?_|refine wq (by simp [ez,m5,h9,hs4,htG,Qaq,Qbr];with_reducible rfl) ?_|refine wt (by simpa [ez,m5,h9,hs4,htG,Qaq,Qbr]) ?_|refine wf (by simpa [ez,m5,h9,hs4,htG,Qaq,Qbr]) ?_|refine xt (by simpa [ez,m5,h9,hs4,htG,Qaq,Qbr]) ?_|refine xf (by simpa [ez,m5,h9,hs4,htG,Qaq,Qbr]) ?_|apply wB|apply Qaa|refine wX ?_|refine wY ?_|refine wR ?_|refine wK ?_|refine wE ?_)
    simp [Qp3]
  · have ez:=fun c=>Qab (Qj3 (L4 [] c) Z (.inr ⟨c,rfl⟩) (.inl rfl))
    have hz4:sws (Qo7 1 0)=[]:=rfl
    have m4:Qcm tb Qs0 [0] [.own 4 [],I 1] []=some ⟨I 1,[.own 4 []],[],[]⟩:=m4
    have m5:∀ c,Qcm tb Qo0 [] [.lst 4 [] c,I 1] []=some ⟨I 1,[],[],[]⟩:=m5
    simp only [O4,L4,Jd2] at e2 e3 ez
    refine cW Jan rfl ?_
    repeat (first|apply wA|apply wS|refine wr (by simp [s1,h8,s2,h7];with_reducible rfl) ?_|refine wq (by simp [s1,h8,s2,h7];with_reducible rfl) ?_|refine wt (by simpa [s1,h8,s2,h7]) ?_|refine wf (by simpa [s1,h8,s2,h7]) ?_|refine xt (by simpa [s1,h8,s2,h7]) ?_|refine xf (by simpa [s1,h8,s2,h7]) ?_|apply wB|apply Qaa|refine wX ?_|refine wY ?_|refine wR ?_|refine wK ?_|refine wE ?_)
    refine Qea (by simp [t1,t2,e3];with_reducible rfl) (by simp;with_reducible rfl) ?_ ?_
    · intro p hp
      simp only [List.mem_cons,List.not_mem_nil,or_false] at hp
      rcases hp with rfl | rfl | rfl | rfl | rfl
      · exact ⟨_,by simp [t1,t2,e3];with_reducible rfl,by simp⟩
      · exact ⟨_,by simp [t1,t2,e3];with_reducible rfl,by simp⟩
      · exact ⟨_,by simp [t1,t2,e3];with_reducible rfl,by simp⟩
      · exact ⟨_,by simp [t1,t2,e3];with_reducible rfl,by simp⟩
      · exact ⟨_,by simp [t1,t2,e3];with_reducible rfl,by simp⟩
    repeat (first|apply wA|apply wS|refine wr (by simp [t1,t2,e2,ez];with_reducible rfl) ?_|refine wq (by simp [t1,t2,e2,ez];with_reducible rfl) ?_|refine wt (by simpa [t1,t2,e2,ez]) ?_|refine wf (by simpa [t1,t2,e2,ez]) ?_|refine xt (by simpa [t1,t2,e2,ez]) ?_|refine xf (by simpa [t1,t2,e2,ez]) ?_|apply wB|apply Qaa|refine wX ?_|refine wY ?_|refine wR ?_|refine wK ?_|refine wE ?_)
    refine Qea (by simp [t1,q1];with_reducible rfl) (by simp;with_reducible rfl) ?_ ?_
    · intro p hp
      simp only [List.mem_cons,List.not_mem_nil,or_false] at hp
      subst hp
      exact ⟨_,by simp [t1,q1];with_reducible rfl,by simp⟩
    repeat (first|apply wA|apply wS|refine wr (by simp;with_reducible rfl) ?_|refine wq (by simp;with_reducible rfl) ?_|refine wt (by simpa) ?_|refine wf (by simpa) ?_|refine xt (by simpa) ?_|refine xf (by simpa) ?_|apply wB|apply Qaa|refine wX ?_|refine wY ?_|refine wR ?_|refine wK ?_|refine wE ?_)
    refine Qea (by simp [t2,q2];with_reducible rfl) (by simp;with_reducible rfl) ?_ ?_
    · intro p hp
      simp only [List.mem_cons,List.not_mem_nil,or_false] at hp
      subst hp
      exact ⟨_,by simp [t2,q2];with_reducible rfl,by simp⟩
    repeat (first|apply wA|apply wS|refine wr (by simp [m1,m0,h0,hs1,hs2,ez,m4,m5,h9,hs4,hz4];with_reducible rfl) ?_|refine wq (by simp [m1,m0,h0,hs1,hs2,ez,m4,m5,h9,hs4,hz4];with_reducible rfl) ?_|refine wt (by simpa [m1,m0,h0,hs1,hs2,ez,m4,m5,h9,hs4,hz4]) ?_|refine wf (by simpa [m1,m0,h0,hs1,hs2,ez,m4,m5,h9,hs4,hz4]) ?_|refine xt (by simpa [m1,m0,h0,hs1,hs2,ez,m4,m5,h9,hs4,hz4]) ?_|refine xf (by simpa [m1,m0,h0,hs1,hs2,ez,m4,m5,h9,hs4,hz4]) ?_|apply wB|apply Qaa|refine wX ?_|refine wY ?_|refine wR ?_|refine wK ?_|refine wE ?_)
    refine Qea (by simp [t1,t2,e2];with_reducible rfl) (by simp;with_reducible rfl) ?_ ?_
    · intro p hp
      simp only [List.mem_cons,List.not_mem_nil,or_false] at hp
      rcases hp with rfl | rfl | rfl | rfl | rfl
      · exact ⟨_,by simp [t1,t2,e2];with_reducible rfl,by simp⟩
      · exact ⟨_,by simp [t1,t2,e2];with_reducible rfl,by simp⟩
      · exact ⟨_,by simp [t1,t2,e2];with_reducible rfl,by simp⟩
      · exact ⟨_,by simp [t1,t2,e2];with_reducible rfl,by simp⟩
      · exact ⟨_,by simp [t1,t2,e2];with_reducible rfl,by simp⟩
    repeat (first|apply wA|apply wS|refine wr (by simp [ez,m5,h9,hs4,hz4];with_reducible rfl) ?_|refine wq (by simp [ez,m5,h9,hs4,hz4];with_reducible rfl) ?_|refine wt (by simpa [ez,m5,h9,hs4,hz4]) ?_|refine wf (by simpa [ez,m5,h9,hs4,hz4]) ?_|refine xt (by simpa [ez,m5,h9,hs4,hz4]) ?_|refine xf (by simpa [ez,m5,h9,hs4,hz4]) ?_|apply wB|apply Qaa|refine wX ?_|refine wY ?_|refine wR ?_|refine wK ?_|refine wE ?_)
    simp [Qp3]
 cases hq:(Qad n es && (Qad m fs && (decide (n=m) && decide (n≤5)))) with
 | false =>
   refine fin [] Z false (by simp) (fun c d=>Qab (Qiq n m es fs c d hf hf2 (by omega) (by omega) hq)) (fun c d=>Qab (Qe4 n m es fs c d (by omega) (by omega) hq)) (.inr ⟨rfl,rfl⟩)
 | true =>
   simp only [Qba,decide_eq_true_eq] at hq
   obtain ⟨hv1,hv2,rfl,h5⟩:=hq
   have hn:=vG_n hv1
   obtain ⟨n,rfl⟩:=Int.eq_ofNat_of_zero_le hn.1
   have hn5:n≤5:=by omega
   have e2:∀ c d,Qcm tb Qlj [] [Gr n es c,Gr n fs d] []=some ⟨spV (spI es false fs),[],[],[]⟩:=fun c d=>by
    have:=Qab (Qk9 n es fs c d hn5 hv1 hv2)
    rwa [Qqc] at this
   have e3:∀ c d,Qcm tb Qon [] [Gr n es c,Gr n fs d] []=some ⟨spW (spI es false fs),[],[],[]⟩:=fun c d=>by
    have:=Qab (Qg6 n es fs c d hn5 hv1 hv2)
    rwa [Qqc] at this
   obtain ⟨-,k⟩:=Jkg hn5 hv1 hv2 false
   cases hs:spI es false fs with
   | none =>
     rw [hs] at e2 e3
     exact fin [] Z false (by simp) e2 e3 (.inr ⟨rfl,rfl⟩)
   | some p =>
     rw [hs] at e2 e3
     exact fin p (O4 p) true (k p hs).2.1 e2 e3 (.inl rfl)
end Go.Idl
